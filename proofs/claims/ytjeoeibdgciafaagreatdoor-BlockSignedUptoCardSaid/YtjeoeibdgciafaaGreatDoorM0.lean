/- Steps of the proof. -/
import Derived.Below
import Derived.BigQuiet
import Derived.Calls
import Derived.CallsIn
import Derived.Control
import Derived.DataReads
import Derived.Deep.DeepHandedRow
import Derived.Deep.MidRow
import Derived.Deep.Quiet
import Derived.Deep.QuietTactic
import Derived.Deep.RegionHeld
import Derived.Deep.WholeRow
import Derived.JoinedCond
import Derived.Laws.AppendOwn
import Derived.Laws.Bits64
import Derived.Laws.BitsLemmas
import Derived.Laws.Entries
import Derived.Laws.IdiomCopy
import Derived.Laws.MakeOwn
import Derived.Laws.OwnMore
import Derived.Laws.Rows
import Derived.Laws.Sem
import Derived.Laws.World
import Derived.Lib.Hide
import Derived.Lib.LaidTab
import Derived.Lib.SmallJoins
import Derived.Maps.RangeWalk
import Derived.OrdersHeld
import Derived.RangeFuncLeaves
import Derived.SevenTiedAt
import Derived.StillTail
import Derived.StillTailTactics
import Derived.Stop.Joined
import Derived.Tactics
import Derived.Test.YtjeoeibdgciafaaGreatDoorChecked
import Derived.WalkKit
import Derived.WalkLawsBesides
import Derived.WalkSpells
import Derived.WideKeyArgs
import GoSem.Core.Value
set_option linter.all false
set_option maxRecDepth 100000
set_option maxHeartbeats 16000000
namespace Go.Proofs.YtjeoeibdgciafaaGreatDoor
open Go.Proofs.Tryz
def IR:= @Array.all_eq_true_iff_forall_mem
def SG:= @Array.getElem?_append_left
def oL:= @Array.getElem?_eq_getElem
def AC:= @Array.getElem?_eq_none
def Cz:= @Array.getElem?_eq_some_iff
def th:= @Array.getElem?_setIfInBounds
def Cy:= @Array.getElem?_setIfInBounds_ne
def SF:= @Array.mem_of_getElem?
def oK:= @Array.replicate_succ
def SE:= @Array.size_append
def NT:= @Array.size_setIfInBounds
def SD:= @BitVec.toNat_ofNat
def nQ:= @Bool.and_eq_true
def dR:= @Bool.false_eq_true
def NS:= @Bool.or_eq_true
def Cx:= @Classical.axiomOfChoice
def qE:= @Decidable.byContradiction
def tg:= @Decidable.em
def SC:= @Decidable.not_not
def Fl:= @Go.Addr.add_lit
def vO:= @Go.Addr.add_mid
def SB:= @Go.Claim7.holds_tied_plain_at
def bP:= @Go.IntKind.wrap_i64
def nP:= @Go.IntKind.wrap_u32
def lP:= @Go.IntKind.wrap_u64
def AB:= @Go.IntKind.wrap_u8
def xJ:= @Go.Joins.block_setCell
def j':= @Go.Joins.unfrozen_of_block
def SA:= @Go.Lib.tabIs_of_head
def Sz:= @Go.OpenClaim.holds_of_cond
def Sy:= @Go.OpenClaim.pre_eq_preRow
def Sw:= @Go.OpenSpec.preRow_of_cond
def aP:= @Go.RowKit.Below.refl
def dN:= @Go.Sem.run_bind
def NR:= @Go.Value.slice.injEq
def Fk:= @Go.WideElems.Trod_stays
def iP:= @Go.World.cell?_of_block
def Cw:= @Go.World.cell?_setCells_out
def NQ:= @Go.World.cells?_some
def AA:= @Go.World.rangeAt_setCells_same
def bn:= @Go.World.size_alloc
def iE:= @Go.block_lt_of_cell
def Fj:= @Go.bodyPost_ret
def Sv:= @Go.callsIn_of_wp_marks
def IQ:= @Go.callsIn_wide
def tf:= @Go.calls_of_wp
def br:= @Go.cell_of_row
def IP:= @Go.heap_alloc_last
def Su:= @Go.returnsInHanded_of_row
def St:= @Go.run_append_owned_none
def Cv:= @Go.run_make
def no:= @Go.run_underlying
def dM:= @Go.wpAnyH_done
def aH:= @Go.wpList_plain
def r9:= @Go.wpQuiet_nil
def dQ:= @Go.wp_region_held
def r8:= @Go.wp_region_quiet_lit
def NP:= @Go.wp_region_still_tail
def ij:= @Go.wp_seq
def s_:= @Go.wp_store_mid
def IN:= @Go.zero_of_info
def xI:= @Iff.rfl
def Fi:= @Int.add_zero
def NO:= @Int.emod_eq_of_lt
def NN:= @Int.emod_lt_of_pos
def NM:= @Int.emod_nonneg
def Fh:= @Int.le_of_lt
def vN:= @Int.le_refl
def Ss:= @Int.mul_le_mul_of_nonneg_right
def IM:= @Int.mul_tdiv_cancel_left
def xH:= @Int.ofNat_tdiv
def xG:= @Int.ofNat_tmod
def NL:= @Int.tmod_eq_emod_of_nonneg
def nn:= @List.all_eq_true
def vM:= @List.all_toArray
def dA:= @List.append_assoc
def fZ:= @List.append_nil
def oJ:= @List.append_toArray
def xF:= @List.cons.injEq
def lO:= @List.drop_drop
def NK:= @List.drop_eq_nil_of_le
def Az:= @List.drop_left'
def NJ:= @List.drop_succ_cons
def Fg:= @List.drop_take
def rZ:= @List.drop_zero
def Ay:= @List.eq_nil_of_length_eq_zero
def Sr:= @List.eq_of_mem_replicate
def mG:= @List.ext_getElem?
def Sq:= @List.flatten_append
def NI:= @List.getD_cons_succ
def Sp:= @List.getD_cons_zero
def Ff:= @List.getD_eq_getElem?_getD
def eY:= @List.getElem?_append_left
def fT:= @List.getElem?_append_right
def qD:= @List.getElem?_drop
def fS:= @List.getElem?_eq_getElem
def eT:= @List.getElem?_eq_none
def io:= @List.getElem?_eq_some_iff
def Ax:= @List.getElem?_map
def So:= @List.getElem?_range
def IL:= @List.getElem?_replicate
def Fe:= @List.getElem?_set
def Aw:= @List.getElem?_take
def nO:= @List.getElem?_take_of_lt
def fu:= @List.getElem?_toArray
def oI:= @List.getElem_mem
def bM:= @List.length_append
def bJ:= @List.length_drop
def s9:= @List.length_eq_zero_iff
def jK:= @List.length_map
def Sn:= @List.length_range
def vK:= @List.length_replicate
def NH:= @List.length_set
def cf:= @List.length_take
def kN:= @List.map_append
def Fd:= @List.map_congr_left
def qC:= @List.map_cons
def Fc:= @List.map_map
def Av:= @List.map_nil
def NG:= @List.map_toArray
def iD:= @List.mem_append
def mF:= @List.mem_cons
def Sm:= @List.mem_iff_getElem?
def ft:= @List.mem_map
def rY:= @List.mem_of_getElem?
def kM:= @List.mem_of_mem_drop
def oH:= @List.mem_of_mem_take
def rW:= @List.mem_range
def jJ:= @List.mem_singleton
def vJ:= @List.not_mem_nil
def oG:= @List.push_toArray
def s7:= @List.range_succ
def Sl:= @List.range_succ_eq_map
def XU:= @List.replicate_append_replicate
def IK:= @List.setIfInBounds_toArray
def Au:= @List.set_append_right
def cI:= @List.size_toArray
def IJ:= @List.take_add
def s6:= @List.take_add_one
def jI:= @List.take_append_drop
def Sk:= @List.take_left'
def gC:= @List.take_length
def kL:= @List.take_of_length_le
def Fb:= @List.take_take
def oF:= @Nat.add_assoc
def Cu:= @Nat.add_comm
def Fa:= @Nat.add_mul
def rV:= @Nat.add_sub_cancel
def jH:= @Nat.add_sub_cancel_left
def XT:= @Nat.and_two_pow_sub_one_eq_mod
def Sj:= @Nat.dvd_of_mod_eq_zero
def E':= @Nat.eq_zero_or_pos
def Ct:= @Nat.le_add_right
def pD:= @Nat.le_of_lt
def vI:= @Nat.le_of_not_lt
def cD:= @Nat.le_refl
def bg:= @Nat.le_trans
def oE:= @Nat.lt_of_le_of_lt
def du:= @Nat.lt_of_lt_of_le
def E_:= @Nat.lt_or_eq_of_le
def oD:= @Nat.lt_or_ge
def mE:= @Nat.lt_succ_self
def II:= @Nat.min_eq_left
def NF:= @Nat.min_le_right
def NE:= @Nat.min_self
def ND:= @Nat.mod_eq_of_lt
def E9:= @Nat.mod_lt
def NC:= @Nat.mul_comm
def Si:= @Nat.mul_div_cancel'
def Sh:= @Nat.mul_le_mul_left
def As:= @Nat.mul_one
def xE:= @Nat.not_lt_zero
def NB:= @Nat.one_mul
def nN:= @Nat.pow_le_pow_right
def NA:= @Nat.pow_succ
def Ar:= @Nat.sub_self
def Nz:= @Nat.testBit_succ
def bY:= @Nat.zero_add
def qB:= @Nat.zero_le
def E8:= @Nat.zero_mul
def xD:= @Ne.symm
def Ny:= @Option.isSome_iff_exists
def Sg:= @Option.map_eq_some_iff
def s5:= @Option.some.inj
def xC:= @Option.some.injEq
def xB:= @and_true
def E7:= @beq_eq_false_iff_ne
def xA:= @beq_iff_eq
def E6:= @bne_iff_ne
def fB:= @congrArg
def IH:= @decide_eq_false
def Cs:= @decide_eq_false_iff_not
def xz:= @decide_eq_true
def Nx:= @decide_eq_true_eq
def an:= @if_neg
def aj:= @if_pos
def pC:= @if_true
def rU:= @of_decide_eq_true
def vH:= @or_false
end Go.Proofs.YtjeoeibdgciafaaGreatDoor
namespace Go.Proofs.YtjeoeibdgciafaaGreatDoor
open Go.RowKit
open Go.RowKit
open Go.RowKit
open Go.RowKit
open Go.Proofs.Tryz
abbrev AD:=underlying101
abbrev fC:=underlying106
abbrev cV:=underlying114
abbrev IV:=underlying222
abbrev IU:=underlying223
abbrev cH:=underlying25
abbrev Ik:=underlying26
abbrev Lj:=underlying28
abbrev Cb:=underlying29
abbrev pi:=underlying3
abbrev Ca:=underlying30
abbrev B':=underlying31
abbrev B_:=underlying32
abbrev B9:=underlying33
abbrev GK:=underlying36
abbrev qa:=underlying38
abbrev bF:=underlying39
abbrev GE:=underlying4
abbrev fU:=underlying41
abbrev sE:=underlying5
abbrev pn:=underlying50
abbrev uX:=underlying57
abbrev dZ:=underlying63
abbrev Ij:=underlying70
abbrev Ii:=underlying72
abbrev qw:=underlying78
abbrev Ih:=underlying80
abbrev Bi:=underlying82
abbrev nC:=underlying84
abbrev Li:=underlying86
abbrev kW:=underlying88
abbrev uN9:=underlying9
abbrev Ig:=underlying90
abbrev Lh:=underlying96
abbrev RK:=underlying98
def aa {p:Prop} (h:p):Hid p:=Lib.hid h
def bG {n:Nat}:n≤n:=cD n
def num:Value→Int
 | .int _ n=>n
 | .bool b=>if b then 1 else 0
 |_=>0
def uf {P} (w ty z):(newVar ty (.agg z)).run P w= .ok ⟨w.heap.size,0,none⟩ (w.alloc (.cells z ty)):=by simp[newVar,newRow,Value.cells]
def aw {P ops rest e c a w Q} (s:e.guard=none) (r:c.guard=none) (ty d y) (q:e.op= .alloc ty) (f:e.dst=some d) (p:c.op= .store ty (.tmp d) y) (b) (o:(a.put (some d) (.pointer (some ⟨w.heap.size,0,none⟩))).eval (.tmp d)= .pointer (some ⟨w.heap.size,0,none⟩)) (n:(a.put (some d) (.pointer (some ⟨w.heap.size,0,none⟩))).eval y= .agg b) (z) (m:(P.info? ty).map (fun i=>(i.zero,i.size))=some (some (.agg z),b.size)) (j:z.size=b.size) (A:b.all (·.oneCell')=true) (h:wpList P ops Q rest ((a.put (some d) (.pointer (some ⟨w.heap.size,0,none⟩))).put c.dst undef) (w.alloc (.cells b ty))):wpList P ops Q (e::c::rest) a w:=by obtain⟨l,k⟩:=IN m;refine aH s fun K v=>?_;unfold Oper.wp execOp;simp only[q,f,Instr.alloc,dN,l,Result.andThen,uf,Sem.run_pure,Oper.upon_value];refine v _ _ (aH r fun B u=>?_);unfold Oper.wp execOp;simp only[p,o,n,dN,run_storeAt_new w ty z b k j A,Result.andThen,Sem.run_pure,Oper.upon_skip];exact u _ _ h
def KI (b:Array Value) (o n j) (h:j<n):(b.extract o (o+n))[j]?=b[o+j]?:=by simp[Array.getElem?_extract];omega
def extract_size (b:Array Value) (o n) (h:o+n≤b.size):(b.extract o (o+n)).size=n:=by simp;omega
def zeroOf (P:Program) (t:TypeId):Array Value:=match(P.info? t).bind (·.zero)with|some (.agg z)=>z|_=> #[]
def rowB (P:Program) (t:TypeId) (n:Nat):Bool:=match P.info? t with|some i=>(match i.zero with|some (.agg z)=>i.size==n&&z.size==n|_=>false)|none=>false
def aG {P t n} (h:rowB P t n=true):(P.info? t).map (fun i=>(i.zero,i.size))=some (some (.agg (zeroOf P t)),n)∧(zeroOf P t).size=n:=by
 unfold rowB at h;unfold zeroOf;split at h
 ·rename_i i c
  split at h
  ·rename_i z b
   simp only[nQ,xA]at h;simp[c,b,h.1,h.2]
  ·cases h
 ·cases h
def ah {P t n} (h:rowB P t n=true):(P.info? t).map (·.size)=some n:=(IN (aG h).1).2
section guards
variable {P:Program} {ops:Array Oper} {rest:List Oper} {a:Act} {w:World} {Q:Exit→Act→World→Prop} {d:Option Tmp} {ty:TypeId} {pos:String} {af:Array Edge} {g:Option (Nat×Bool)}
theorem cZ (t) {b} (h:wpList P ops Q (⟨d,.build t b,ty,pos,af,g⟩::rest) a w):wpList P ops Q (⟨d,.build t b,ty,pos,af,g⟩::rest) a w:=h
theorem ag (t) {x} (h:wpList P ops Q (⟨d,.load t x,ty,pos,af,g⟩::rest) a w):wpList P ops Q (⟨d,.load t x,ty,pos,af,g⟩::rest) a w:=h
theorem ao (t) (h:wpList P ops Q (⟨d,.alloc t,ty,pos,af,g⟩::rest) a w):wpList P ops Q (⟨d,.alloc t,ty,pos,af,g⟩::rest) a w:=h
theorem al (t) {x y} (h:wpList P ops Q (⟨d,.store t x y,ty,pos,af,g⟩::rest) a w):wpList P ops Q (⟨d,.store t x y,ty,pos,af,g⟩::rest) a w:=h
theorem Dl (t) {x y} (h:wpList P ops Q (⟨d,.index t x y,ty,pos,af,g⟩::rest) a w):wpList P ops Q (⟨d,.index t x y,ty,pos,af,g⟩::rest) a w:=h
theorem be (b:Builtin) {c e} (h:wpList P ops Q (⟨d,.call {callee:= .builtin b,args:=c,argTypes:=e},ty,pos,af,g⟩::rest) a w):wpList P ops Q (⟨d,.call {callee:= .builtin b,args:=c,argTypes:=e},ty,pos,af,g⟩::rest) a w:=h
end guards
def D2 {P} (w) (t e n s:Nat) (f:P.underlying t=some (.array n e)) {d} (he:P.underlying e=some d) (o:d.isRow=true) (hs:(P.info? e).map (·.size)=some s) (c:Array Value) (k) (i:Nat) (l:i<n):(Instr.index t (.agg c) (.int k i)).run P w= .ok (.agg (c.extract (i*s) (i*s+s))) w:=by
 cases b:P.info? e with
 |none=>simp[b]at hs
 |some j=>
  have h:j.size=s:=by simpa[b]using hs
  have m:(isAgg e).run P w= .ok true w:=by unfold isAgg;rw[dN,no he w];cases d<;>simp_all
  simp[Instr.index,asIntOf,dN,no f,Result.andThen,sizeOf,typeInfo,b,h,part,m,l]
end Go.Proofs.YtjeoeibdgciafaaGreatDoor
namespace Go.Proofs.YtjeoeibdgciafaaGreatDoor
open Go.RowKit
open Go.RowKit
open Go.Proofs.Tryz
def EJ {P} (w) (t e n:Nat) (f:P.underlying t=some (.array n e)) {d} (he:P.underlying e=some d) (m:d.isRow=false) (hs:(P.info? e).map (·.size)=some 1) (b:Array Value) (k) (i:Nat) (h:i<n) (v) (c:b[i]?=some v):(Instr.index t (.agg b) (.int k i)).run P w= .ok v w:=by
 cases a:P.info? e with
 |none=>simp[a]at hs
 |some j=>
  have g:j.size=1:=by simpa[a]using hs
  have l:(isAgg e).run P w= .ok false w:=by unfold isAgg;rw[dN,no he w];cases d<;>simp_all
  simp[Instr.index,asIntOf,dN,no f,Result.andThen,sizeOf,typeInfo,a,g,part,l,h,c]
end Go.Proofs.YtjeoeibdgciafaaGreatDoor
namespace Go.Proofs.YtjeoeibdgciafaaGreatDoor
open Go.Proofs.Tryz
abbrev rT:=BitVec 32
def wi (x:rT):Int:=(x.toNat:Int)
def uY (x:rT) (k:Nat):rT:=(x>>>k)|||(x<<<(32-k))
def sg0 (x:rT):rT:=uY x 7^^^uY x 18^^^(x>>>3)
def sg1 (x:rT):rT:=uY x 17^^^uY x 19^^^(x>>>10)
def Sg0 (x:rT):rT:=uY x 2^^^uY x 13^^^uY x 22
def Sg1 (x:rT):rT:=uY x 6^^^uY x 11^^^uY x 25
def chW (e f g:rT):rT:=(e&&&f)^^^(~~~e&&&g)
def Y_ (a b c:rT):rT:=(a&&&b)^^^(a&&&c)^^^(b&&&c)
def agk:List Nat:=[0x428a2f98,0x71374491,0xb5c0fbcf,0xe9b5dba5,0x3956c25b,0x59f111f1,0x923f82a4,0xab1c5ed5,0xd807aa98,0x12835b01,0x243185be,0x550c7dc3,0x72be5d74,0x80deb1fe,0x9bdc06a7,0xc19bf174,0xe49b69c1,0xefbe4786,0x0fc19dc6,0x240ca1cc,0x2de92c6f,0x4a7484aa,0x5cb0a9dc,0x76f988da,0x983e5152,0xa831c66d,0xb00327c8,0xbf597fc7,0xc6e00bf3,0xd5a79147,0x06ca6351,0x14292967,0x27b70a85,0x2e1b2138,0x4d2c6dfc,0x53380d13,0x650a7354,0x766a0abb,0x81c2c92e,0x92722c85,0xa2bfe8a1,0xa81a664b,0xc24b8b70,0xc76c51a3,0xd192e819,0xd6990624,0xf40e3585,0x106aa070,0x19a4c116,0x1e376c08,0x2748774c,0x34b0bcb5,0x391c0cb3,0x4ed8aa4a,0x5b9cca4f,0x682e6ff3,0x748f82ee,0x78a5636f,0x84c87814,0x8cc70208,0x90befffa,0xa4506ceb,0xbef9a3f7,0xc67178f2]
def tk (t:Nat):rT:=BitVec.ofNat 32 (agk.getD t 0)
def fh (M:Nat→rT) (t:Nat):rT:=if _h:t<16 then M t else sg1 (fh M (t-2))+fh M (t-7)+sg0 (fh M (t-15))+fh M (t-16)
termination_by t
decreasing_by all_goals omega
def BJ (M t) (h:t<16):fh M t=M t:=by rw[fh,dif_pos h]
def BK (M t):fh M (t+16)=sg1 (fh M (t+14))+fh M (t+9)+sg0 (fh M (t+1))+fh M t:=by
 rw[fh,dif_neg (by omega)]
 congr 2
structure Hs where
 (a b c d e f g l:rT)
def Hs.Xo (s:Hs) (k w:rT):Hs:=⟨s.l+Sg1 s.e+chW s.e s.f s.g+k+w+(Sg0 s.a+Y_ s.a s.b s.c),s.a,s.b,s.c,s.d+(s.l+Sg1 s.e+chW s.e s.f s.g+k+w),s.e,s.f,s.g⟩
def Hs.sR (s:Hs) (M:Nat→rT):Nat→Hs
 |0=>s
 |t+1=>(s.sR M t).Xo (tk t) (fh M t)
def Hs.add (s r:Hs):Hs:=⟨s.a+r.a,s.b+r.b,s.c+r.c,s.d+r.d,s.e+r.e,s.f+r.f,s.g+r.g,s.l+r.l⟩
def Hs.mix (s:Hs) (M:Nat→rT):Hs:=s.add (s.sR M 64)
def adq (x):0≤wi x:=Int.natCast_nonneg _
def adr (x):wi x<4294967296:=by have:=x.isLt;unfold wi;omega
def Hj (x):IntKind.u32.wrap (wi x)=wi x:=by rw[nP];exact NO (adq x) (adr x)
def qN (x):BitVec.ofInt 32 (wi x)=x:=by apply BitVec.eq_of_toNat_eq;rw[wi,BitVec.ofInt_natCast,SD];exact ND x.isLt
def CF (x y):IntKind.u32.wrap (wi x+wi y)=wi (x+y):=by rw[nP];simp only[wi,BitVec.toNat_add];omega
def GV (x y):bits .xor .u32 (wi x) (wi y)=wi (x^^^y):=by have e:bits .xor .u32 (wi x) (wi y)=IntKind.u32.wrap (wi (BitVec.ofInt 32 (wi x)^^^BitVec.ofInt 32 (wi y))):=rfl;rw[e,qN,qN,Hj]
def LC (x y):bits .and .u32 (wi x) (wi y)=wi (x&&&y):=by have e:bits .and .u32 (wi x) (wi y)=IntKind.u32.wrap (wi (BitVec.ofInt 32 (wi x)&&&BitVec.ofInt 32 (wi y))):=rfl;rw[e,qN,qN,Hj]
def IS (x y):bits .or .u32 (wi x) (wi y)=wi (x|||y):=by have e:bits .or .u32 (wi x) (wi y)=IntKind.u32.wrap (wi (BitVec.ofInt 32 (wi x)|||BitVec.ofInt 32 (wi y))):=rfl;rw[e,qN,qN,Hj]
def Zy (x):bits .xor .u32 4294967295 (wi x)=wi (~~~x):=by
 have e:(4294967295:Int)=wi (BitVec.allOnes 32):=rfl;rw[e,GV]
 congr 1
def SV (x:rT) (k:Nat):IntKind.u32.wrap (wi x*2^k)=wi (x<<<k):=by rw[nP];have e:((2^32:Nat):Int)=4294967296:=rfl;rw[wi,wi,BitVec.toNat_shiftLeft,Nat.shiftLeft_eq,Int.natCast_emod,Int.natCast_mul,Int.natCast_pow,e];rfl
def GW (x:rT) (k:Nat):wi x/2^k=wi (x>>>k):=by rw[wi,wi,BitVec.toNat_ushiftRight,Nat.shiftRight_eq_div_pow,Int.natCast_ediv,Int.natCast_pow];rfl
def Oh (x):wi x/(8:Int)=wi (x>>>3):=GW x 3
def Jh (x):wi x/(1024:Int)=wi (x>>>10):=GW x 10
def aed (e f g):g^^^(e&&&(f^^^g))=chW e f g:=by
 unfold chW
 ext i hi
 simp only[BitVec.getElem_xor,BitVec.getElem_and,BitVec.getElem_not];cases e[i]<;>cases f[i]<;>cases g[i]<;>rfl
def ZT (a b c):(a&&&b)|||(c&&&(a|||b))=Y_ a b c:=by
 unfold Y_
 ext i hi
 simp only[BitVec.getElem_xor,BitVec.getElem_and,BitVec.getElem_or];cases a[i]<;>cases b[i]<;>cases c[i]<;>rfl
def rk (x:rT) (k:Int):rT:=uY x k.toNat
def Hs.RN (s:Hs) (k w:rT):Hs:=
 ⟨s.l+(rk s.e 6^^^rk s.e 11^^^rk s.e 25)+(s.g^^^(s.e&&&(s.f^^^s.g)))+k+w+((rk s.a 2^^^rk s.a 13^^^rk s.a 22)+((s.a&&&s.b)|||(s.c&&&(s.a|||s.b)))),s.a,s.b,s.c,
   s.d+(s.l+(rk s.e 6^^^rk s.e 11^^^rk s.e 25)+(s.g^^^(s.e&&&(s.f^^^s.g)))+k+w),s.e,s.f,s.g⟩
def Hs.Oq (s:Hs) (k w:rT):s.RN k w=s.Xo k w:=by unfold Hs.RN Hs.Xo;rw[aed,ZT];rfl
def PK (M t):
 fh M t+(rk (fh M (t+1)) 7^^^rk (fh M (t+1)) 18^^^fh M (t+1)>>>3)+fh M (t+9)+(rk (fh M (t+14)) 17^^^rk (fh M (t+14)) 19^^^fh M (t+14)>>>10)=fh M (t+16):=by
 rw[BK];show fh M t+sg0 (fh M (t+1))+fh M (t+9)+sg1 (fh M (t+14))=_
 ac_rfl
def Hs.at (s:Hs):Nat→rT
 |0=>s.a|1=>s.b|2=>s.c|3=>s.d|4=>s.e|5=>s.f|6=>s.g|_=>s.l
def Hs.aar (s r:Hs) (j:Nat):(s.add r).at j=s.at j+r.at j:=by unfold Hs.at Hs.add;split<;>rfl
def Hs.cells (s:Hs):List Go.Value:=[.int .u32 (wi s.a),.int .u32 (wi s.b),.int .u32 (wi s.c),.int .u32 (wi s.d),.int .u32 (wi s.e),.int .u32 (wi s.f),.int .u32 (wi s.g),.int .u32 (wi s.l)]
def Hs.ot (s:Hs) (j:Nat) (h:j<8):s.cells.toArray[j]?=some (.int .u32 (wi (s.at j))):=by
 match j,h with
 |0,_|1,_|2,_|3,_|4,_|5,_|6,_|7,_=>rfl
def ip:Hs:=⟨BitVec.ofNat 32 0x6a09e667,BitVec.ofNat 32 0xbb67ae85,BitVec.ofNat 32 0x3c6ef372,BitVec.ofNat 32 0xa54ff53a,BitVec.ofNat 32 0x510e527f,BitVec.ofNat 32 0x9b05688c,BitVec.ofNat 32 0x1f83d9ab,BitVec.ofNat 32 0x5be0cd19⟩
end Go.Proofs.YtjeoeibdgciafaaGreatDoor
namespace Go.Proofs.YtjeoeibdgciafaaGreatDoor
open Go.RowKit BigFrame
open Go.Proofs.Tryz
def ZI (x:rT) (k m:Nat) (a:m=32-k):bits .or .u32 (IntKind.u32.wrap (wi x*2^m)) (wi x/2^k)=wi (uY x k):=by
 rw[SV,GW,IS,a]
 congr 1
 unfold uY;exact BitVec.or_comm _ _
def TQ (x) (k:Nat) (j:1≤k∧k≤31) (w):
 Calls prog 193 #[.int .u32 (wi x),.int .i64 (-(k:Int))] w fun e d=>e= .returned (.int .u32 (wi (uY x k)))∧d=w:=by
 have hs:bits .and .u64 (IntKind.u64.wrap (-(k:Int))) 31=((32-k:Nat):Int):=by have h:=bits_mask .u64 64 (by decide) (fun n o l=>by rw[lP];omega) 5 (by decide) (IntKind.u64.wrap (-(k:Int))) (by rw[lP];omega) (by rw[lP];omega);have e:((2:Int)^5-1)=31:=rfl;have g:((2:Int)^5)=32:=rfl;rw[e,g,lP]at h;rw[lP,h];omega
 have a:=ZI x k (32-k) rfl;obtain⟨m,b⟩:∃m,m=32-k:=⟨_,rfl⟩;rw[←b]at hs a;have i:(32:Int)-m=k:=by omega
 have f:=aa a;clear a
 go_enter func193,ntmps193
 go_wp2
 go_ret
 refine⟨?_,rfl⟩;have c:=f.out;rw[nP,b]at c;show Ending.returned (.int .u32 (bits .or .u32 (wi x*2^(32-k)%4294967296) (wi x/2^(32-(32-k)))))=_;rw[show 32-(32-k)=k from by omega,c]
def TB (x) (k:Nat) (b:1≤k∧k≤31) (w):
 Calls prog 187 #[.int .u32 (wi x),.int .i64 (k:Int)] w fun e a=>e= .returned (.int .u32 (wi (uY x k)))∧a=w:=by
 have h:=TQ x k b
 go_enter func187,ntmps187
 go_wp2_with ((with_reducible refine(h _).mono ?_);rintro e a ⟨rfl,rfl⟩)
 go_ret
 exact⟨rfl,rfl⟩
def Ws (x) (k:Nat) (d:1≤k∧k≤31) (w):
 Calls prog 194 #[.int .u32 (wi x),.int .u64 (k:Int)] w fun e a=>e= .returned (.int .u32 (wi (uY x k)))∧a=w:=by
 obtain⟨m,b⟩:∃m,m=32-k:=⟨_,rfl⟩;have c:(32:Int)-k=m:=by omega
 go_enter func194,ntmps194
 go_wp2
 go_ret
 refine⟨?_,rfl⟩;show Ending.returned (.int .u32 (bits .or .u32 (wi x/2^k) (wi x*2^(32-k)%4294967296)))=_;have e:wi x*2^(32-k)%4294967296=wi (x<<<(32-k)):=by rw[←SV,nP]
 rw[e,GW,IS];rfl
inductive LK where
 |int (k:IntKind)
 |bool
def leafFields (P:Program) (g:TypeId→Option (List LK)):List Field→Nat→Option (List LK)
 |[],_=>some []
 |f::fs,off=>if f.name== "_" ||f.offset !=off then none else
  match g f.type with
  |some l=>if (P.info? f.type).map (·.size)==some l.length then(leafFields P g fs (off+l.length)).map (l++ ·)else none
  |none=>none
def leafs (P:Program):Nat→TypeId→Option (List LK)
 |0,_=>none
 |d+1,t=>match P.underlying t with
  |some .bool=>some [.bool]
  |some (.int k)=>some [.int k]
  |some (.array n e)=>match leafs P d e with
   |some l=>if (P.info? e).map (·.size)==some l.length then some (List.replicate n l).flatten else none
   |none=>none
  |some (.struct fs)=>if P.stoodInHeld t then none else leafFields P (leafs P d) fs.toList 0
  |_=>none
def LK.fit:LK→Value→Prop
 | .int k,v=>∃n,v= .int k n
 | .bool,v=>∃b,v= .bool b
def fits:List LK→List Value→Prop
 |[],[]=>True
 |k::b,v::a=>k.fit v∧fits b a
 |_,_=>False
def eqv:Value→Value→Bool
 | .int _ a,.int _ b=>a==b
 | .bool a,.bool b=>a==b
 |_,_=>false
def eqCells:List Value→List Value→Bool
 |[],[]=>true
 |a::l,b::m=>eqv a b&&eqCells l m
 |_,_=>false
def fk:∀{l:List LK} {xs:List Value},fits l xs→xs.length=l.length
 |[],[],_=>rfl
 |_::l,_::xs,h=>by simp[fk (l:=l) (xs:=xs) h.2]
def pX:∀{l m:List LK} {xs:List Value},fits (l++m) xs→fits l (xs.take l.length)∧fits m (xs.drop l.length)
 |[],m,xs,h=>⟨trivial,by simpa using h⟩
 |k::l,m,v::xs,h=>by have:=pX (l:=l) (m:=m) (xs:=xs) h.2;exact⟨⟨h.1,this.1⟩,this.2⟩
def ph:∀(a b c d:List Value),a.length=b.length→eqCells (a++c) (b++d)=(eqCells a b&&eqCells c d)
 |[],[],c,d,_=>by simp[eqCells]
 |x::a,y::b,c,d,h=>by simp only[List.cons_append,eqCells,ph a b c d (by simpa using h),Bool.and_assoc]
def lT (P:Program) (t:TypeId) (a:List Value):Value:=
 match P.underlying t with
 |some (.struct _)|some (.array _ _)=> .agg a.toArray
 |_=>a.headD undef
section
variable {P:Program}
theorem yc (w t s) (b:List Value) (a) (hs:(P.info? t).map (·.size)=some s) (p:∀d,P.underlying t=some d→d.isRow=false→s=1) (q:a+s≤b.length) (m:∃d,P.underlying t=some d):
 (part t b.toArray a).run P w= .ok (lT P t ((b.drop a).take s)) w:=by
 obtain⟨d,c⟩:=m;cases h:P.info? t with
 |none=>simp[h]at hs
 |some j=>
  have o:j.size=s:=by simpa[h]using hs
  have l:(isAgg t).run P w= .ok d.isRow w:=by unfold isAgg;rw[dN,no c w];cases d<;>simp_all
  by_cases i:d.isRow=true
  ·have f:lT P t ((b.drop a).take s)= .agg ((b.drop a).take s).toArray:=by
    unfold lT;rw[c];cases d<;>simp_all
   rw[f];simp[part,dN,l,i,sizeOf,typeInfo,h,o,Result.andThen]
  ·have g:d.isRow=false:=by simpa using i
   have n:=p d c g;subst n;have k:a<b.length:=by omega
   have f:lT P t ((b.drop a).take 1)=b[a]:=by
    have e:((b.drop a).take 1).headD undef=b[a]:=by rw[List.drop_eq_getElem_cons k];rfl
    unfold lT;rw[c];cases d<;>first|exact e|(simp[TypeDesc.isRow]at g)
   rw[f];simp[part,dN,l,g,Result.andThen,k]
theorem DM {d t l} (h:leafs P d t=some l):∀e,P.underlying t=some e→e.isRow=false→l.length=1:=by
 intro e he a;cases d with
 |zero=>simp[leafs]at h
 |succ d=>
  unfold leafs at h;rw[he]at h;cases e<;>simp_all
  ·subst h;rfl
  ·subst h;rfl
theorem A6 {d t l} (h:leafs P d t=some l):∃e,P.underlying t=some e:=by
 cases d with
 |zero=>simp[leafs]at h
 |succ d=>
  unfold leafs at h;cases he:P.underlying t with
  |none=>rw[he]at h;simp at h
  |some e=>exact⟨e,rfl⟩
theorem wd (g:TypeId→Option (List LK)) (D:Nat)
 (o:∀t l,g t=some l→∀(w:World) (c b:List Value),fits l c→fits l b→(Op.equalIn D t (lT P t c) (lT P t b)).run P w= .ok (eqCells c b) w)
 (hl:∀t l,g t=some l→(∀e,P.underlying t=some e→e.isRow=false→l.length=1)∧∃e,P.underlying t=some e):
 ∀(n:List Field) (a:Nat) (l:List LK),leafFields P g n a=some l→∀(w:World) (c b:List Value),a≤c.length→a≤b.length→fits l (c.drop a)→fits l (b.drop a)→
  (Op.eqFields D c.toArray b.toArray n).run P w= .ok (eqCells (c.drop a) (b.drop a)) w
 |[],a,l,h,w,c,b,_,_,k,j=>by simp only[leafFields,xC]at h;subst h;have M:=fk k;have L:=fk j;rw[s9.1 M,s9.1 L];simp[Op.eqFields,eqCells]
 |f::n,a,l,h,w,c,b,Q,O,k,j=>by
  unfold leafFields at h;split at h
  ·cases h
  ·rename_i hn
   simp only[NS,xA,E6,not_or,SC]at hn;obtain⟨hn,H⟩:=hn;split at h
   ·rename_i d q
    split at h
    ·rename_i F
     have p:(P.info? f.type).map (·.size)=some d.length:=by simpa using F
     obtain⟨m,I,rfl⟩:=Sg.1 h;obtain⟨z,y⟩:=pX k;obtain⟨v,u⟩:=pX j;rw[lO]at y u;have E:=fk k;have C:=fk j;simp only[bJ,bM]at E C;obtain⟨s,r⟩:=hl _ _ q;have B:=fun w=>yc (P:=P) w f.type d.length c a p s (by omega) r;have A:=fun w=>yc (P:=P) w f.type d.length b a p s (by omega) r;have N:=fun w=>o _ _ q w _ _ z v;have i:=fun w=>wd g D o hl n (a+d.length) m I w c b (by omega) (by omega) y u;have K:c.drop a=(c.drop a).take d.length++c.drop (a+d.length):=by rw[←lO,jI]
     have J:b.drop a=(b.drop a).take d.length++b.drop (a+d.length):=by rw[←lO,jI]
     have G:eqCells (c.drop a) (b.drop a)=(eqCells ((c.drop a).take d.length) ((b.drop a).take d.length)&&eqCells (c.drop (a+d.length)) (b.drop (a+d.length))):=by
      conv=>lhs;rw[K,J]
      rw[ph];rw[fk z,fk v]
     rw[G];unfold Op.eqFields;rw[aj hn];simp only[dN,H,B,A,Result.andThen,N];cases eqCells ((c.drop a).take d.length) ((b.drop a).take d.length)
     ·simp
     ·simpa using i w
    ·cases h
   ·cases h
def eqElems (d:Nat) (e:TypeId) (n:Nat) (f c:Array Value):List Nat→Sem Bool
 |[]=>pure true
 |i::is=>do
  let a←part e f (i*n)
  let b←part e c (i*n)
  let r←Op.equalIn d e a b
  if (!r)=true then pure false else eqElems d e n f c is
theorem run_equalIn_array (w d t e c n g f) (p:P.underlying t=some (.array c e)) (hs:(P.info? e).map (·.size)=some n):
 (Op.equalIn (d+1) t (.agg g) (.agg f)).run P w=(eqElems d e n g f (List.range' 0 c)).run P w:=by
 cases h:P.info? e with
 |none=>simp[h]at hs
 |some j=>
  have y:j.size=n:=by simpa[h]using hs
  simp only[Op.equalIn,dN,no p,Result.andThen_ok,sizeOf,typeInfo,run_program,h,y,Sem.run_pure];rw[Std.Legacy.Range.forIn_eq_forIn_range'];simp only[Std.Legacy.Range.size,Nat.sub_zero,rV,Nat.div_one];generalize List.range' 0 c 1=l;clear p
  induction l generalizing w with
  |nil=>simp[eqElems]
  |cons i l v=>
   simp only[List.forIn_cons,eqElems,dN];generalize (part e g (i*n)).run P w=u;cases u with
   |ok a o=>
    simp only[Result.andThen_ok];generalize (part e f (i*n)).run P o=s;cases s with
    |ok b m=>
     simp only[Result.andThen_ok];generalize (Op.equalIn d e a b).run P m=q;cases q with
     |ok r k=>
      cases r
      ·simp
      ·simpa using v k
     |halt x k=>simp[Result.andThen]
    |halt x m=>simp[Result.andThen]
   |halt x o=>simp[Result.andThen]
theorem yM:∀(n:Nat) (l:List LK) (a:List Value),fits (List.replicate (n+1) l).flatten a→fits l (a.take l.length)∧fits (List.replicate n l).flatten (a.drop l.length):=by intro n l a h;rw[List.replicate_succ,List.flatten_cons]at h;exact pX h
theorem yO (D:Nat) (e:TypeId) (l:List LK) (hs:(P.info? e).map (·.size)=some l.length) (m:∀d,P.underlying e=some d→d.isRow=false→l.length=1) (j:∃d,P.underlying e=some d)
 (r:∀(w:World) (b a:List Value),fits l b→fits l a→(Op.equalIn D e (lT P e b) (lT P e a)).run P w= .ok (eqCells b a) w):
 ∀(k i:Nat) (w:World) (b a:List Value),i*l.length≤b.length→i*l.length≤a.length→fits (List.replicate k l).flatten (b.drop (i*l.length))→fits (List.replicate k l).flatten (a.drop (i*l.length))→
  (eqElems D e l.length b.toArray a.toArray (List.range' i k)).run P w= .ok (eqCells (b.drop (i*l.length)) (a.drop (i*l.length))) w
 |0,i,w,b,a,_,_,h,g=>by have c:=fk h;have s:=fk g;simp only[List.replicate_zero,List.flatten_nil,List.length_nil]at c s;rw[s9.1 c,s9.1 s];simp[eqElems,eqCells]
 |k+1,i,w,b,a,E,C,h,g=>by
  obtain⟨q,p⟩:=yM k l _ h;obtain⟨o,n⟩:=yM k l _ g;rw[lO]at p n;have z:=fk q;have y:=fk o;simp only[cf,bJ]at z y;have c:i*l.length+l.length=(i+1)*l.length:=by rw[Fa,NB]
  have v:=fun w=>yc (P:=P) w e l.length b (i*l.length) hs m (by omega) j;have u:=fun w=>yc (P:=P) w e l.length a (i*l.length) hs m (by omega) j;have B:=fun w=>r w _ _ q o;rw[c]at p n;have f:=fun w=>yO D e l hs m j r k (i+1) w b a (by omega) (by omega) p n
  have A:eqCells (b.drop (i*l.length)) (a.drop (i*l.length))=(eqCells ((b.drop (i*l.length)).take l.length) ((a.drop (i*l.length)).take l.length)&&eqCells (b.drop ((i+1)*l.length)) (a.drop ((i+1)*l.length))):=by
   conv=>lhs;rw[←jI l.length (b.drop (i*l.length)),←jI l.length (a.drop (i*l.length))]
   rw[ph _ _ _ _ (by rw[fk q,fk o]),lO,lO,c]
  rw[A,List.range'_succ];unfold eqElems;simp only[dN,v,u,Result.andThen,B];cases eqCells ((b.drop (i*l.length)).take l.length) ((a.drop (i*l.length)).take l.length)
  ·simp
  ·simpa using f w
theorem rM:∀(d:Nat) (t:TypeId) (l:List LK),leafs P d t=some l→∀(D:Nat),d≤D→∀(w:World) (f c:List Value),fits l f→fits l c→
 (Op.equalIn D t (lT P t f) (lT P t c)).run P w= .ok (eqCells f c) w
 |0,t,l,h=>by simp[leafs]at h
 |d+1,t,l,h=>by
  intro D z w f c j i;obtain⟨D,rfl⟩:∃E,D=E+1:=⟨D-1,by omega⟩;unfold leafs at h;split at h
  ·rename_i g
   cases h
   match f,c,j,i with
   |[x],[y],j,i=>obtain⟨a,rfl⟩:=j.1;obtain⟨b,rfl⟩:=i.1;simp[lT,g,run_equalIn_bool w D t a b g,eqCells,eqv]
  ·rename_i k g
   cases h
   match f,c,j,i with
   |[x],[y],j,i=>obtain⟨a,rfl⟩:=j.1;obtain⟨b,rfl⟩:=i.1;simp[lT,g,run_equalIn_int w D t k k a b g,eqCells,eqv]
  ·rename_i n e g
   split at h
   ·rename_i p o
    split at h
    ·rename_i u
     cases h;have q:(P.info? e).map (·.size)=some p.length:=by simpa using u
     have ha:∀m:List Value,lT P t m= .agg m.toArray:=fun m=>by unfold lT;rw[g]
     rw[ha,ha,run_equalIn_array w D t e n p.length _ _ g q];have:=yO D e p q (DM o) (A6 o) (fun w f c a b=>rM d e p o D (by omega) w f c a b) n 0 w f c (by omega) (by omega) (by simpa using j) (by simpa using i);simpa using this
    ·cases h
   ·cases h
  ·rename_i s g
   split at h
   ·cases h
   ·rename_i v
    have ha:∀m:List Value,lT P t m= .agg m.toArray:=fun m=>by unfold lT;rw[g]
    have r:P.fieldsOf t=s:=by unfold Program.fieldsOf;rw[g]
    rw[ha,ha,run_equalIn_struct w D t _ _ (by rw[r];exact g) (by simpa using v),r];have:=wd (leafs P d) D (fun t l hl w f c a b=>rM d t l hl D (by omega) w f c a b) (fun t l hl=>⟨DM hl,A6 hl⟩) s.toList 0 l h w f c (by omega) (by omega) (by simpa using j) (by simpa using i);simpa using this
  ·cases h
end
end Go.Proofs.YtjeoeibdgciafaaGreatDoor
namespace Go.Proofs.YtjeoeibdgciafaaGreatDoor
open Go.RowKit
open Go.RowKit
open Go.Proofs.Tryz
inductive CK where
 |u8|u64|bool
def CK.mk:CK→Int→Value
 | .u8,n=> .int .u8 n
 | .u64,n=> .int .u64 n
 | .bool,n=> .bool (decide (n≠0))
def CK.ok:CK→Int→Prop
 | .u8,n=>0≤n∧n≤255
 | .u64,n=>0≤n∧n≤18446744073709551615
 | .bool,n=>n=0∨n=1
def acj:Nat→Int:=fun _=>0
def agb (j:Nat):CK:=if j<80 then .u8 else if j=81 then .bool else .u64
def u8K (_:Nat):CK:= .u8
def ad' (j:Nat):CK:=if j=32 then .u64 else .u8
def Yw (k:Nat):Option CK:=
 if k=653∨k=719∨k=721∨k=722∨k=987∨k=988∨k=1092∨1957≤k then none else
 some (if k=0∨k=33∨k=42∨k=43∨k=44∨k=686∨k=720∨(979≤k∧k≤986)∨k=993∨k=1026∨k=1059 then .u64
 else if 989≤k∧k≤992 then .bool else .u8)
structure Sx where
 n:Nat→Int
 acN:List (Nat→Int)
 XV:List (Nat→Int)
 ab_:List (Nat→Int)
 ade:List Int
 prev:List Int
 cur:List Int
 S8:List Int
structure Row (w:World) (va:Option Addr) (k:CK) (l:List Int):Prop where
 cell:∀i,i<l.length→∃b o,va=some ⟨b,o,none⟩∧w.cell? ⟨b,o+i,none⟩=some (k.mk (l.getD i 0))
 ok:∀n∈l,k.ok n
structure Rows (w:World) (va:Option Addr) (sz:Nat) (kd:Nat→CK) (l:List (Nat→Int)):Prop where
 cell:∀i,i<l.length→∃b o,va=some ⟨b,o,none⟩∧∀j,j<sz→w.cell? ⟨b,o+i*sz+j,none⟩=some ((kd j).mk (l.getD i acj j))
 ok:∀f∈l,∀j,j<sz→(kd j).ok (f j)
def SlI (w:World) (d:Array Value) (k:Nat) (c:CK) (l:List Int):Prop:=∃b a,d[k]?=some (.slice b l.length a)∧Row w b c l∧l.length≤9223372036854775807
def SlS (w:World) (c:Array Value) (k:Nat) (d:Nat) (e:Nat→CK) (l:List (Nat→Int)):Prop:=∃b a,c[k]?=some (.slice b l.length a)∧Rows w b d e l∧l.length≤9223372036854775807
structure Yn (w:World) (xs:Array Value) (s:Sx):Prop where
 size:xs.size=1957
 one:∀v∈xs,v.oneCell'=true
 flat:∀k c,Yw k=some c→xs[k]?=some (c.mk (s.n k))∧c.ok (s.n k)
 acN:SlS w xs 653 32 u8K s.acN
 XV:SlS w xs 719 65 ad' s.XV
 ab_:SlS w xs 721 86 agb s.ab_
 ade:SlI w xs 722 .u64 s.ade
 prev:SlI w xs 987 .u8 s.prev
 cur:SlI w xs 988 .u8 s.cur
 S8:SlI w xs 1092 .u64 s.S8
def Yn.u64 {w a} {s:Sx} (h:Yn w a s) (k) (b:Yw k=some .u64):a[k]?=some (.int .u64 (s.n k)):=(h.flat k _ b).1
def Row.later {w a c k l} (h:Row w c k l) (f:Below w.heap.size w a):Row a c k l:=⟨fun i d=>let ⟨b,o,e,hc⟩:=h.cell i d;⟨b,o,e,(f.cell (iE hc)).trans hc⟩,h.ok⟩
def Rows.later {w a c d f l} (h:Rows w c d f l) (m:Below w.heap.size w a):Rows a c d f l:=⟨fun i k=>let ⟨b,o,e,hc⟩:=h.cell i k;⟨b,o,e,fun j g=>(m.cell (iE (hc j g))).trans (hc j g)⟩,h.ok⟩
def ae (n:Nat) (a:Nat→CK) (f:Nat→Int):List Value:=(List.range n).map fun j=>(a j).mk (f j)
def ac (n a f):(ae n a f).length=n:=by simp[ae]
def aN (n a f j) (h:j<n):(ae n a f)[j]?=some ((a j).mk (f j)):=by simp[ae,h]
def aA (n a f):(ae n a f).toArray.all (·.oneCell')=true:=by
 rw[IR];intro v c;have b:v∈ae n a f:=by simpa using c
 obtain⟨j,_,rfl⟩:=ft.1 b;cases a j<;>rfl
def Rows.range {w d a f l} (h:Rows w d a f l) (i) (k:i<l.length):
 ∃b o,d=some ⟨b,o,none⟩∧w.rangeAt b (o+i*a) (ae a f (l.getD i acj)):=by
 obtain⟨b,o,e,m⟩:=h.cell i k;refine⟨b,o,e,fun j v c=>?_⟩
 have g:j<a:=by have:=(io.1 c).1;simpa[ae]using this
 rw[aN _ _ _ _ g]at c;rw[m j g,c]
end Go.Proofs.YtjeoeibdgciafaaGreatDoor
namespace Go.Proofs.YtjeoeibdgciafaaGreatDoor
open Go.RowKit BigFrame
open Go.Proofs.Tryz
def aR (w:World) (o p:Obj) (k:Nat) (h:w.heap[k]?=some p):(w.alloc o).heap[k]?=some p:=by
 rw[Below.heap_alloc w o k (by
  by_cases b:k<w.heap.size
  ·exact b
  ·simp[AC (vI b)]at h)]
 exact h
section
variable {P:Program} {ops:Array Oper} {rest:List Oper} {o:Oper} {a:Act} {w:World}
theorem Kf {e} (w t t' x y) (m:o.op= .binOp .neq t x y t') (c b) (k:e x= .agg c.toArray) (j:e y= .agg b.toArray) (i:∀g,lT P t g= .agg g.toArray) (n:P.eqGuardType P.depth t=false) (d l) (hl:leafs P d t=some l) (p:d≤Op.maxDepth) (r:fits l c) (q:fits l b):
 (execOp e o).run P w= .ok (.value (.bool (!eqCells c b))) w:=by
 have h:=rM d t l hl Op.maxDepth p w c b r q;rw[i,i]at h
 have f:(eqGuard .neq t x y (.agg c.toArray) (.agg b.toArray)).run P w= .ok () w:=by simp[eqGuard,go_sem,n]
 unfold execOp;simp only[m,k,j,binOp,Op.equal,dN,f,h,Result.andThen,Sem.run_pure]
theorem ar {f} (w c x) (i:o.op= .load c x) (b k) (g:f x= .pointer (some ⟨b,k,none⟩)) (e d) (n:w.rangeAt b k e) (h:P.underlying c=some d) (m:d.isRow=true) (j:(P.info? c).map (·.size)=some e.length):
 (execOp f o).run P w= .ok (.value (.agg e.toArray)) w:=by
 unfold execOp;simp only[i,g,dN,run_loadAt_mid w b k c e d n h m j,Result.andThen,Sem.run_pure]
theorem au {c} (w b x) (g:o.op= .load b x) (p) (e:c x= .pointer (some p)) (v) (h:w.cell? p=some v) (d) (f:P.underlying b=some d) (j:d.isRow=false):
 (execOp c o).run P w= .ok (.value v) w:=by
 have i:(isAgg b).run P w= .ok false w:=by unfold isAgg;rw[dN,no f w];cases d<;>simp_all
 have hl:(loadVar b p).run P w= .ok v w:=by simp[loadVar,dN,i,Result.andThen,go_sem,h]
 unfold execOp;simp only[g,e,Instr.loadAt,Instr.sureAddr,dN,Sem.run_pure,hl,Result.andThen]
theorem ab {Q} (b:Region.wanted o (yielded ops a.tmps)=true) (v) (he:(execOp a.eval o).run P w= .ok (.value v) w) (h:wpList P ops Q rest (a.put o.dst v) w):wpList P ops Q (o::rest) a w:=by unfold wpList;rw[aj b];refine .inl ?_;unfold Oper.wp;simp only[he,Oper.upon_value];exact h
theorem bi {C K} (v) (he:∀w,C w→(execOp a.eval o).run P w= .ok (.value v) w) (h:K (a.put o.dst v)):o.quiet P a C K:=⟨v,fun w b=>by unfold Oper.quietAt;rw[he w b];exact⟨rfl,rfl⟩,h⟩
end
def CK.lk:CK→LK
 | .u8=> .int .u8
 | .u64=> .int .u64
 | .bool=> .bool
def CK.fit (c:CK) (n:Int):c.lk.fit (c.mk n):=by cases c<;>exact⟨_,rfl⟩
def OL:∀(n:Nat) (b:Nat→CK) (d:List Value),d.length=n→(∀j,j<n→∃m,d[j]?=some ((b j).mk m))→fits ((List.range n).map fun j=>(b j).lk) d
 |0,_,[],_,_=>trivial
 |n+1,b,c::d,hl,h=>by
  rw[Sl,qC,Fc];obtain⟨m,e⟩:=h 0 (by omega);have f:c=(b 0).mk m:=by simpa using e
  refine⟨by rw[f];exact CK.fit _ _,?_⟩;exact OL n (fun j=>b (j+1)) d (by simpa using hl) (fun j g=>by simpa using h (j+1) (by omega))
section
variable {P:Program} {o:Oper} {a:Act}
theorem ay {f} (w c x) (j:o.op= .load c x) (b) (h:f x= .pointer (some ⟨b,0,none⟩)) (t e g d) (n:w.heap[b]?=some (.cells e t g)) (i:P.underlying c=some d) (m:(match d with| .struct _| .array _ _=>true|_=>false)=true) (k:(P.info? c).map (·.size)=some e.size):
 (execOp f o).run P w= .ok (.value (.agg e)) w:=by
 unfold execOp;simp only[j,h,Instr.loadAt,Instr.sureAddr,dN,Sem.run_pure,Result.andThen_ok,run_loadVar_row w b t c e g d n i m k]
theorem jh {K:Act→World→Prop} {Q w} (f:FuncId) (b:Array Value) (he:(execOp a.eval o).run P w= .ok (.enter f b) w) (v:Value) (R:World→Prop) (d:Calls P f b w fun e c=>e= .returned v∧R c) (h:∀c,R c→K (a.put o.dst v) c):o.wp P a w K Q:=by unfold Oper.wp;rw[he];simp only[Oper.upon];exact d.mono fun e c ⟨i,g⟩=>by subst i;exact h c g
theorem bT {K Q w} (b) (f:o.op= .alloc b) (d) (g:o.dst=some d) (z n) (e:(P.info? b).map (fun i=>(i.zero,i.size))=some (some (.agg z),n)) (h:K (a.put (some d) (.pointer (some ⟨w.heap.size,0,none⟩))) (w.alloc (.cells z b))):o.wp P a w K Q:=by obtain⟨c,_⟩:=IN e;unfold Oper.wp execOp;simp only[f,g,Instr.alloc,dN,c,Result.andThen,uf,Sem.run_pure,Oper.upon_value];exact h
end
def nth:List Oper→Nat→Option Oper
 |[],_=>none
 |o::_,0=>some o
 |_::l,i+1=>nth l i
def CI:∀(l:List Oper) (i:Nat),nth l i=l[i]?
 |[],_=>by simp[nth]
 |_::_,0=>by simp[nth]
 |_::l,i+1=>by simp[nth,CI l i]
section
variable {P:Program} {l:List Oper} {Q:Exit→Act→World→Prop} {md:Region.Mode} {S:World→Prop}
theorem adt {i e v d b a w} (k:nth l i=some e) (hs:Region.noSelect l.toArray=true) (m:Region.free md l.toArray b i=true) (j:(Region.ready md l.toArray b).contains i=true) (p:∀c a w,Q (.panic c) (a.put e.dst v) w→Q (.panic c) a w) (g:Region.wanted e (yielded l.toArray a.tmps)=true) (n:S w) (f:∀w,S w→(execOp a.eval e).run P w= .ok (.value v) w) (h:wpAnyH P md l.toArray Q S d (b.setIfInBounds i true) (a.put e.dst v) w):wpAnyH P md l.toArray Q S (d+1) b a w:=wpAnyH_take (by rw[←k,CI];simp) hs m j p (.inl ⟨g,f⟩) n h
def eG (md:Region.Mode) (l:List Oper) (b:Array Bool) (a:Act) (i:Nat) (o:Oper):Bool:=Region.noSelect l.toArray&&Region.free md l.toArray b i&&(Region.ready md l.toArray b).contains i&&Region.wanted o (yielded l.toArray a.tmps)
theorem aJ {i o v b f a w} (j:nth l i=some o) (e:eG md l f a i o=true) (m:∀c a d v w,Q (.panic c) (Act.put a (some d) v) w→Q (.panic c) a w) (k:S w) (g:∀w,S w→(execOp a.eval o).run P w= .ok (.value v) w) (h:wpAnyH P md l.toArray Q S b (f.setIfInBounds i true) (a.put o.dst v) w):wpAnyH P md l.toArray Q S (b+1) f a w:=by unfold eG at e;simp only[nQ]at e;exact adt j e.1.1.1 e.1.1.2 e.1.2 (fun c a w=>by cases o.dst;exact id;exact m c a _ _ w) e.2 k g h
abbrev gives (P:Program) (a:Act) (o:Oper) (w:World):Result Next:=(execOp a.eval o).run P w
abbrev BB (w:World) (v:Value):Result Next:= .ok (.value v) w
theorem d5 (i k) {f b g a w} (j:[nth l i]=[some f]) (q:(eG md l g a i f)=true) (m:∀w,[gives P a f w]=[BB w k]) (p:∀c a d v w,Q (.panic c) (Act.put a (some d) v) w→Q (.panic c) a w) (n:S w) (h:wpAnyH P md l.toArray Q S b (g.setIfInBounds i true) (a.put f.dst k) w):wpAnyH P md l.toArray Q S (b+1) g a w:=by
 injection j with j
 exact aJ j q p n (fun w _=>by have e:=m w;injection e) h
theorem kg (i m j n) {b k f g a w} (y:[nth l i,nth l m]=[some b,some k]) (u:(eG md l g a i b&&eG md l (g.setIfInBounds i true) (a.put b.dst j) m k)=true) (p:∀w,[gives P a b w,gives P (a.put b.dst j) k w]=[BB w j,BB w n]) (s:∀c a d v w,Q (.panic c) (Act.put a (some d) v) w→Q (.panic c) a w) (r:S w) (h:wpAnyH P md l.toArray Q S f ((g.setIfInBounds i true).setIfInBounds m true) ((a.put b.dst j).put k.dst n) w):wpAnyH P md l.toArray Q S (f+2) g a w:=by
 injection y with A z
 have q:eG md l g a i b=true∧(eG md l (g.setIfInBounds i true) (a.put b.dst j) m k)=true:=by simp only[nQ]at u ⊢;simp only[u,and_self]
 exact aJ A q.1 s r (fun w _=>by have e:=p w;injection e) (d5 m n z q.2 (fun w=>by have e:=p w;injection e) s r h)
theorem gY (j m q f n r) {b g p k i a w} (B:[nth l j,nth l m,nth l q]=[some b,some g,some p]) (A:(eG md l i a j b&&eG md l (i.setIfInBounds j true) (a.put b.dst f) m g&&eG md l ((i.setIfInBounds j true).setIfInBounds m true) ((a.put b.dst f).put g.dst n) q p)=true) (s:∀w,[gives P a b w,gives P (a.put b.dst f) g w,gives P ((a.put b.dst f).put g.dst n) p w]=[BB w f,BB w n,BB w r]) (z:∀c a d v w,Q (.panic c) (Act.put a (some d) v) w→Q (.panic c) a w) (y:S w) (h:wpAnyH P md l.toArray Q S k (((i.setIfInBounds j true).setIfInBounds m true).setIfInBounds q true) (((a.put b.dst f).put g.dst n).put p.dst r) w):wpAnyH P md l.toArray Q S (k+3) i a w:=by
 injection B with E C
 have u:eG md l i a j b=true∧(eG md l (i.setIfInBounds j true) (a.put b.dst f) m g&&eG md l ((i.setIfInBounds j true).setIfInBounds m true) ((a.put b.dst f).put g.dst n) q p)=true:=by simp only[nQ]at A ⊢;simp only[A,and_self]
 exact aJ E u.1 z y (fun w _=>by have e:=s w;injection e) (kg m q n r C u.2 (fun w=>by have e:=s w;injection e) z y h)
theorem SY (j m q u f k r y) {b g n s p i a w} (F:[nth l j,nth l m,nth l q,nth l u]=[some b,some g,some n,some s]) (E:(eG md l i a j b&&eG md l (i.setIfInBounds j true) (a.put b.dst f) m g&&eG md l ((i.setIfInBounds j true).setIfInBounds m true) ((a.put b.dst f).put g.dst k) q n&&eG md l (((i.setIfInBounds j true).setIfInBounds m true).setIfInBounds q true) (((a.put b.dst f).put g.dst k).put n.dst r) u s)=true) (z:∀w,[gives P a b w,gives P (a.put b.dst f) g w,gives P ((a.put b.dst f).put g.dst k) n w,gives P (((a.put b.dst f).put g.dst k).put n.dst r) s w]=[BB w f,BB w k,BB w r,BB w y]) (C:∀c a d v w,Q (.panic c) (Act.put a (some d) v) w→Q (.panic c) a w) (B:S w) (h:wpAnyH P md l.toArray Q S p ((((i.setIfInBounds j true).setIfInBounds m true).setIfInBounds q true).setIfInBounds u true) ((((a.put b.dst f).put g.dst k).put n.dst r).put s.dst y) w):wpAnyH P md l.toArray Q S (p+4) i a w:=by
 injection F with H G
 have A:eG md l i a j b=true∧(eG md l (i.setIfInBounds j true) (a.put b.dst f) m g&&eG md l ((i.setIfInBounds j true).setIfInBounds m true) ((a.put b.dst f).put g.dst k) q n&&eG md l (((i.setIfInBounds j true).setIfInBounds m true).setIfInBounds q true) (((a.put b.dst f).put g.dst k).put n.dst r) u s)=true:=by simp only[nQ]at E ⊢;simp only[E,and_self]
 exact aJ H A.1 C B (fun w _=>by have e:=z w;injection e) (gY m q u k r y G A.2 (fun w=>by have e:=z w;injection e) C B h)
theorem GX (k n q u A f i p y B) {b g m r z s j a w} (I:[nth l k,nth l n,nth l q,nth l u,nth l A]=[some b,some g,some m,some r,some z]) (H:(eG md l j a k b&&eG md l (j.setIfInBounds k true) (a.put b.dst f) n g&&eG md l ((j.setIfInBounds k true).setIfInBounds n true) ((a.put b.dst f).put g.dst i) q m&&eG md l (((j.setIfInBounds k true).setIfInBounds n true).setIfInBounds q true) (((a.put b.dst f).put g.dst i).put m.dst p) u r&&eG md l ((((j.setIfInBounds k true).setIfInBounds n true).setIfInBounds q true).setIfInBounds u true) ((((a.put b.dst f).put g.dst i).put m.dst p).put r.dst y) A z)=true) (C:∀w,[gives P a b w,gives P (a.put b.dst f) g w,gives P ((a.put b.dst f).put g.dst i) m w,gives P (((a.put b.dst f).put g.dst i).put m.dst p) r w,gives P ((((a.put b.dst f).put g.dst i).put m.dst p).put r.dst y) z w]=[BB w f,BB w i,BB w p,BB w y,BB w B]) (G:∀c a d v w,Q (.panic c) (Act.put a (some d) v) w→Q (.panic c) a w) (F:S w) (h:wpAnyH P md l.toArray Q S s (((((j.setIfInBounds k true).setIfInBounds n true).setIfInBounds q true).setIfInBounds u true).setIfInBounds A true) (((((a.put b.dst f).put g.dst i).put m.dst p).put r.dst y).put z.dst B) w):wpAnyH P md l.toArray Q S (s+5) j a w:=by
 injection I with K J
 have E:eG md l j a k b=true∧(eG md l (j.setIfInBounds k true) (a.put b.dst f) n g&&eG md l ((j.setIfInBounds k true).setIfInBounds n true) ((a.put b.dst f).put g.dst i) q m&&eG md l (((j.setIfInBounds k true).setIfInBounds n true).setIfInBounds q true) (((a.put b.dst f).put g.dst i).put m.dst p) u r&&eG md l ((((j.setIfInBounds k true).setIfInBounds n true).setIfInBounds q true).setIfInBounds u true) ((((a.put b.dst f).put g.dst i).put m.dst p).put r.dst y) A z)=true:=by simp only[nQ]at H ⊢;simp only[H,and_self]
 exact aJ K E.1 G F (fun w _=>by have e:=C w;injection e) (SY n q u A i p y B J E.2 (fun w=>by have e:=C w;injection e) G F h)
theorem tw (m n r u A E f i p s B F) {b g j q y C z k a w} (L:[nth l m,nth l n,nth l r,nth l u,nth l A,nth l E]=[some b,some g,some j,some q,some y,some C]) (K:(eG md l k a m b&&eG md l (k.setIfInBounds m true) (a.put b.dst f) n g&&eG md l ((k.setIfInBounds m true).setIfInBounds n true) ((a.put b.dst f).put g.dst i) r j&&eG md l (((k.setIfInBounds m true).setIfInBounds n true).setIfInBounds r true) (((a.put b.dst f).put g.dst i).put j.dst p) u q&&eG md l ((((k.setIfInBounds m true).setIfInBounds n true).setIfInBounds r true).setIfInBounds u true) ((((a.put b.dst f).put g.dst i).put j.dst p).put q.dst s) A y&&eG md l (((((k.setIfInBounds m true).setIfInBounds n true).setIfInBounds r true).setIfInBounds u true).setIfInBounds A true) (((((a.put b.dst f).put g.dst i).put j.dst p).put q.dst s).put y.dst B) E C)=true) (G:∀w,[gives P a b w,gives P (a.put b.dst f) g w,gives P ((a.put b.dst f).put g.dst i) j w,gives P (((a.put b.dst f).put g.dst i).put j.dst p) q w,gives P ((((a.put b.dst f).put g.dst i).put j.dst p).put q.dst s) y w,gives P (((((a.put b.dst f).put g.dst i).put j.dst p).put q.dst s).put y.dst B) C w]=[BB w f,BB w i,BB w p,BB w s,BB w B,BB w F]) (J:∀c a d v w,Q (.panic c) (Act.put a (some d) v) w→Q (.panic c) a w) (I:S w) (h:wpAnyH P md l.toArray Q S z ((((((k.setIfInBounds m true).setIfInBounds n true).setIfInBounds r true).setIfInBounds u true).setIfInBounds A true).setIfInBounds E true) ((((((a.put b.dst f).put g.dst i).put j.dst p).put q.dst s).put y.dst B).put C.dst F) w):wpAnyH P md l.toArray Q S (z+6) k a w:=by
 injection L with N M
 have H:eG md l k a m b=true∧(eG md l (k.setIfInBounds m true) (a.put b.dst f) n g&&eG md l ((k.setIfInBounds m true).setIfInBounds n true) ((a.put b.dst f).put g.dst i) r j&&eG md l (((k.setIfInBounds m true).setIfInBounds n true).setIfInBounds r true) (((a.put b.dst f).put g.dst i).put j.dst p) u q&&eG md l ((((k.setIfInBounds m true).setIfInBounds n true).setIfInBounds r true).setIfInBounds u true) ((((a.put b.dst f).put g.dst i).put j.dst p).put q.dst s) A y&&eG md l (((((k.setIfInBounds m true).setIfInBounds n true).setIfInBounds r true).setIfInBounds u true).setIfInBounds A true) (((((a.put b.dst f).put g.dst i).put j.dst p).put q.dst s).put y.dst B) E C)=true:=by simp only[nQ]at K ⊢;simp only[K,and_self]
 exact aJ N H.1 J I (fun w _=>by have e:=G w;injection e) (GX n r u A E i p s B F M H.2 (fun w=>by have e:=G w;injection e) J I h)
theorem cQ {i d c b a w} (n:nth l i=some d) (k:Region.ready md l.toArray b=[i]) (g:Region.wanted d (yielded l.toArray a.tmps)=true) (h:d.wp P a w (fun p f=>S f∧wpAnyH P md l.toArray Q S c (b.setIfInBounds i true) p f) Q):wpAnyH P md l.toArray Q S (c+1) b a w:=by
 refine wpAnyH_all k (by simp) fun j m=>?_;have:j=i:=by simpa using m
 subst this;unfold wpOp;have e:l.toArray[j]?=some d:=by rw[←n,CI];simp
 simp only[e,g,pC];exact .inl h
theorem ab' {i k f e c b a w} (r:nth l i=some f) (p:nth l k=some e) (n:Region.ready md l.toArray b=[i,k]) (m:Region.wanted f (yielded l.toArray a.tmps)=true) (h:Region.wanted e (yielded l.toArray a.tmps)=true) (u:f.wp P a w (fun g d=>S d∧wpAnyH P md l.toArray Q S c (b.setIfInBounds i true) g d) Q) (s:e.wp P a w (fun g d=>S d∧wpAnyH P md l.toArray Q S c (b.setIfInBounds k true) g d) Q):wpAnyH P md l.toArray Q S (c+1) b a w:=by
 refine wpAnyH_all n (by simp) fun j q=>?_;have y:l.toArray[i]?=some f:=by rw[←r,CI];simp
 have v:l.toArray[k]?=some e:=by rw[←p,CI];simp
 have:j=i∨j=k:=by simpa using q
 unfold wpOp;rcases this with rfl|rfl
 ·simp only[y,m,pC]
  exact .inl u
 ·simp only[v,h,pC]
  exact .inl s
end
structure aL (k:Nat) (W w:World):Prop where
 os:w.os=W.os
 tape:w.tape=W.tape
 output:w.output=W.output
 size:W.heap.size≤w.heap.size
 block:∀b,b<W.heap.size→b≠k→w.heap[b]?=W.heap[b]?
def aL.begin (k W):aL k W {W with drawn:=W.drawn+1}:=⟨rfl,rfl,rfl,cD _,fun _ _ _=>rfl⟩
def aL.call {k W w d} (h:aL k W w) (c:Below w.heap.size w d):aL k W d:=⟨c.os.trans h.os,c.tape.trans h.tape,c.output.trans h.output,bg h.size c.size,fun b e f=>(c.block b (du e h.size)).trans (h.block b e f)⟩
def aL.alloc {k W w} (h:aL k W w) (o:Obj):aL k W (w.alloc o):=h.call ((aP _ _).alloc bG _)
def Below.setCells {B:Nat} {a:World} (b:Nat) (d:B≤b):∀(c:List Value) (o:Nat) (w:World),Below B a w→Below B a (w.setCells b o c)
 |[],_,_,h=>h
 |v::c,o,_,h=>Below.setCells b d c (o+1) _ (h.setCell (p:=⟨b,o,none⟩) d v)
def kr (b:Nat):∀(c:List Value) (o:Nat) (w:World),(w.setCells b o c).heap.size=w.heap.size∧∀j,j≠b→(w.setCells b o c).heap[j]?=w.heap[j]?
 |[],_,_=>⟨rfl,fun _ _=>rfl⟩
 |v::c,o,w=>by
  have h:=kr b c (o+1) (w.setCell ⟨b,o,none⟩ v)
  have hs:(w.setCell ⟨b,o,none⟩ v).heap.size=w.heap.size:=by simp
  exact⟨h.1.trans hs,fun j d=>(h.2 j d).trans (Below.heap_setCell w ⟨b,o,none⟩ v j d)⟩
def aL.setCells {k W w} (h:aL k W w) (b o c) (i:b=k∨W.heap.size≤b):aL k W (w.setCells b o c):=by have d:=Below.setCells (B:=0) (a:=w) b (qB _) c o w (aP _ _);have e:=kr b c o w;exact⟨d.os.trans h.os,d.tape.trans h.tape,d.output.trans h.output,by rw[e.1];exact h.size,fun j g f=>(e.2 j (by omega)).trans (h.block j g f)⟩
def aL.cell {k W w} (h:aL k W w) {p} (c:p.block<W.heap.size) (b:p.block≠k):w.cell? p=W.cell? p:=iP (w:=W) (h.block p.block c b)
def aL.below {k n a W w} (h:aL k W w) (c:Below n a W) (d:n≤k) (hn:n≤W.heap.size):Below n a w:=⟨h.os.trans c.os,h.tape.trans c.tape,h.output.trans c.output,bg c.size h.size,fun b hl=>(h.block b (by omega) (by omega)).trans (c.block b hl)⟩
def bO {P:Program} {c:Code} {Q a w} (R:World→Prop) (b:R w) (h:∀W,R W→c.wp P Q a W):c.wp P Q a w:=h w b
def aL.frozen {k W w} (h:aL k W w) {p} (c:p.block<W.heap.size) (b:p.block≠k):w.frozen? p=W.frozen? p:=World.frozen?_of_block (w:=W) (h.block p.block c b)
def SR {Q:Exit→Act→World→Prop} {e:Exit} {a:Act} {w:World} (R:World→Prop) (b:R w) (h:∀W,R W→Q e a W):Q e a w:=h w b
def aI {P f R a w p u b} (h:f.results=#[.cell p b,.tmp u]) (g k c d) (m:a.tmps.getD p undef= .pointer (some ⟨g,k,none⟩)) (q:w.rangeAt g k c) (i:P.underlying b=some d) (r:d.isRow=true) (n:(P.info? b).map (·.size)=some c.length) (e:a.defers=[]) (s:R (.returned (.tuple #[.agg c.toArray,a.tmps.getD u undef])) w):bodyPost P f R .ret a w:=by
 refine Fj ?_ e s;have j:a.tmps[p]?.getD undef= .pointer (some ⟨g,k,none⟩):=by simpa using m
 simp[results,h,j,asAddr,run_loadVar_mid w g k b c d q i r n]
def gF {w c:World} {b o:Nat} {d:List Value} (h:w.rangeAt b o d) (e:c.heap[b]?=w.heap[b]?):c.rangeAt b o d:=fun j v f=>by rw[iP (w:=w) e];exact h j v f
def aL.setCell {k W w} (h:aL k W w) (o v):aL k W (w.setCell ⟨k,o,none⟩ v):=h.setCells k o [v] (Or.inl rfl)
def aE {w:World} {b:Nat} {l:List Value} {t:TypeId} {d:Nat×Nat} (h:w.heap[b]?=some (.cells l.toArray t d)):w.rangeAt b 0 l:=fun j v c=>by rw[bY,br w b j _ _ _ h];simpa using c
structure Bs (n:Nat) (w:World) (xs ds:Array Value) (tx td:TypeId) (W:World):Prop where
 below:Below n w W
 size:n+1+1+1+1≤W.heap.size
 hX:W.heap[n]?=some (.cells xs tx (0,0))
 hD:W.heap[n+1]?=some (.cells ds td (0,0))
 v0:W.cell? ⟨n+1+1,0,none⟩=some (.bool false)
 v1:W.cell? ⟨n+1+1,1,none⟩=some (.bool false)
 v2:W.cell? ⟨n+1+1,2,none⟩=some (.bool false)
 z0:W.frozen? ⟨n+1+1,0,none⟩=false
 z1:W.frozen? ⟨n+1+1,1,none⟩=false
 z2:W.frozen? ⟨n+1+1,2,none⟩=false
def Bs.Cd {n w g m i j W d} (h:Bs n w g m i j W) (q:Below n w d) (hs:W.heap.size≤d.heap.size) (he:∀b,b<n+1+1+1→d.heap[b]?=W.heap[b]?):Bs n w g m i j d:=by have e:=he (n+1+1) (by omega);have c:=fun k=>iP (w:=W) (w':=d) (a:=⟨n+1+1,k,none⟩) e;have f:=fun k=>World.frozen?_of_block (w:=W) (w':=d) (a:=⟨n+1+1,k,none⟩) e;exact⟨q,bg h.size hs,(he n (by omega)).trans h.hX,(he (n+1) (by omega)).trans h.hD,(c 0).trans h.v0,(c 1).trans h.v1,(c 2).trans h.v2,(f 0).trans h.z0,(f 1).trans h.z1,(f 2).trans h.z2⟩
def Bs.call {n w d g e f W i} (h:Bs n w d g e f W) (hn:n≤W.heap.size) (c:Below W.heap.size W i):Bs n w d g e f i:=h.Cd (h.below.trans (c.mono hn)) c.size (fun b hl=>c.block b (by have:=h.size;omega))
def Bs.alloc {n w b e c d W} (h:Bs n w b e c d W) (hn:n≤W.heap.size) (o:Obj):Bs n w b e c d (W.alloc o):=h.call hn ((aP _ _).alloc bG _)
def Bs.setCells {n w d g e f W} (h:Bs n w d g e f W) (b o c) (k:n+1+1+1≤b):Bs n w d g e f (W.setCells b o c):=h.Cd (Below.setCells b (by omega) c o W h.below) (by rw[(kr b c o W).1];exact cD _) (fun j i=>(kr b c o W).2 j (by omega))
def bZ {P:Program} {ops:Array Oper} {Q} {rest:List Oper} {a w} (R:World→Prop) (b:R w) (h:∀W,R W→wpList P ops Q rest a W):wpList P ops Q rest a w:=h w b
def dt {w:World} {o:Obj}:Below w.heap.size w (w.alloc o):=(aP _ _).alloc (cD _) o
def bH {k j i g f:Sort _} {p:k→j→i→g→f→Prop}:∀a b c d e,p a b c d e→p a b c d e:=fun _ _ _ _ _ h=>h
section
variable {ops:Array Oper} {Q:Exit→Act→World→Prop} {rest:List Oper} {a:Act} {w:World} {dst:Option Tmp} {T t':TypeId} {pos:String} {af:Array Edge} {x:Operand} {D:TypeDesc}
theorem dq {o:Oper} {p:Addr} {v:Value} (g:w.cell? p=some v) (d:prog.underlying T=some D) (h:wpList prog ops Q rest (a.put o.dst v) w) (b:a.eval x= .pointer (some p)) (f:D.isRow=false) (e:o.op= .load T x) (c:Region.wanted o (yielded ops a.tmps)=true):wpList prog ops Q (o::rest) a w:=ab c v (au w T x e p b v g D d f) h
theorem fX (d:Tmp) {z:Array Value} {n:Nat} (b:(prog.info? T).map (fun i=>(i.zero,i.size))=some (some (.agg z),n)) (h:wpList prog ops Q rest (a.put (some d) (.pointer (some ⟨w.heap.size,0,none⟩))) (w.alloc (.cells z T))):wpList prog ops Q (⟨some d,.alloc T,t',pos,af,none⟩::rest) a w:=aH rfl fun K c=>bT T rfl d rfl z n b (c _ _ h)
end
def be4 (a b c d:Int):rT:=BitVec.ofInt 32 (a*16777216+b*65536+c*256+d)
def mD (n:Int):Prop:=0≤n∧n≤255
def aeg {a b c d} (ha:mD a) (g:mD b) (f:mD c) (e:mD d):wi (be4 a b c d)=a*16777216+b*65536+c*256+d:=by unfold mD at*;unfold wi be4;rw[BitVec.toNat_ofInt];omega
def Tt {a b c d} (ha:mD a) (g:mD b) (f:mD c) (e:mD d):
 bits .or .u32 (bits .or .u32 (bits .or .u32 (a*16777216%4294967296) (b*65536%4294967296)) (c*256%4294967296)) d=wi (be4 a b c d):=by
 rw[aeg ha g f e];unfold mD at*;rw[NO (by omega) (by omega),NO (by omega) (by omega),NO (by omega) (by omega)];have j:=fun(i:Nat) (x y:Int)=>bits_join .u32 32 (by decide) (fun n k h=>show IntKind.u32.wrap n=n by rw[nP];omega) i x y;rw[j 24 (a*16777216) (b*65536) (by omega) (by omega) (by omega) (by omega) (by omega) (by omega)];rw[j 16 _ (c*256) (by omega) (by omega) (by omega) (by omega) (by omega) (by omega)];rw[j 8 _ d (by omega) (by omega) (by omega) (by omega) (by omega) (by omega)]
def iN (f:Nat→Int) (t:Nat):rT:=be4 (f (4*t)) (f (4*t+1)) (f (4*t+2)) (f (4*t+3))
def Oa (t:Nat) (h:t<4294967296):bits .and .i64 (t:Int) 15=((t%16:Nat):Int):=by
 have a:=fun(n:Int) (d:0≤n) (c:n<2^32)=>show IntKind.i64.wrap n=n by rw[bP];omega
 have:=bits_mask .i64 32 (by decide) a 4 (by decide) (t:Int) (by omega) (by omega);have e:((2:Int)^4-1)=15:=rfl;have b:((2:Int)^4)=16:=rfl;rw[e,b]at this;rw[this];omega
def aej (t:Nat) (h:t<4294967296):bits .and .i64 (t:Int) 63=((t%64:Nat):Int):=by
 have a:=fun(n:Int) (d:0≤n) (c:n<2^32)=>show IntKind.i64.wrap n=n by rw[bP];omega
 have:=bits_mask .i64 32 (by decide) a 6 (by decide) (t:Int) (by omega) (by omega);have e:((2:Int)^6-1)=63:=rfl;have b:((2:Int)^6)=64:=rfl;rw[e,b]at this;rw[this];omega
def oa (n:Nat) (M:Nat→rT) (k:Nat) (w a:World):Prop:=∃C:Array Value,a.heap[n]?=some (.cells C 245 (0,0))∧C.size=16∧(∀j,j<k→C[j]?=some (.int .u32 (wi (M j))))∧Below n w a
def Below.drew {n w W} (h:Below n w W):Below n w {heap:=W.heap,tape:=W.tape,drawn:=W.drawn+1,os:=W.os,output:=W.output}:=⟨h.os,h.tape,h.output,h.size,h.block⟩
def oa.start (n M w a C) (h:a.heap[n]?=some (.cells C 245 (0,0))) (hs:C.size=16) (c:Below n w a):oa n M 0 w a:=⟨C,h,hs,fun _ b=>absurd b (by omega),c⟩
def oa.step {n M k w a C} (f:a.heap[n]?=some (.cells C 245 (0,0))) (hs:C.size=16) (b:∀j,j<k→C[j]?=some (.int .u32 (wi (M j)))) (c:k<16) (d:Below n w a):
 oa n M (k+1) w (a.setCell ⟨n,k,none⟩ (.int .u32 (wi (M k)))):=by
 refine⟨C.setIfInBounds k (.int .u32 (wi (M k))),xJ f _,by simp[hs],fun j g=>?_,d.setCell (by simp) _⟩;by_cases e:j=k
 ·subst e
  simp[hs,c]
 ·rw[Cy (xD e)]
  exact b j (by omega)
def blockOf (n:Nat):Code→Option Code
 | .seq a b=>match blockOf n a with|some c=>some c|none=>blockOf n b
 | .block m c=>if m=n then some c else blockOf n c
 | .loop c=>blockOf n c
 | .scope c=>blockOf n c
 |_=>none
def nb (n:Nat) (f:Func):Code:=match f.body with|some c=>(match blockOf n c with|some d=>d|none=> .skip)|none=> .skip
noncomputable def Oz:Code:=nb 0 Tryz.f164
def Yp (c e d a b n:Nat) (u:Nat→Value):Act:={tmps:=#[.pointer (some ⟨c,0,none⟩),.slice (some ⟨e,d,none⟩) a b,u 2,u 3,.pointer (some ⟨n,0,none⟩),u 5,u 6,u 7,u 8,u 9,u 10,u 11,u 12,u 13,u 14,u 15,u 16,u 17,u 18,u 19,u 20,u 21,u 22,u 23,u 24,u 25,u 26,u 27,u 28,u 29,u 30,u 31,u 32,u 33,u 34,u 35,u 36,u 37,u 38,u 39,u 40,u 41,u 42,u 43,u 44,u 45,u 46,u 47,u 48,u 49,u 50,u 51,u 52,u 53,u 54,u 55,u 56,u 57,u 58,u 59,u 60,u 61,u 62,u 63,u 64,u 65,u 66,u 67,u 68,u 69,u 70,u 71,u 72,u 73,u 74,u 75,u 76,u 77,u 78,u 79,u 80,u 81,u 82,u 83,u 84,u 85,u 86,u 87,u 88,u 89,u 90,u 91,u 92,u 93,u 94,u 95,u 96,u 97,u 98,u 99,u 100,u 101,u 102,u 103,u 104,u 105,u 106,u 107,u 108,u 109,u 110,u 111,u 112,u 113,u 114,u 115,u 116,u 117,u 118,u 119,u 120,u 121,u 122,u 123,u 124,u 125,u 126,u 127,u 128,u 129,u 130,u 131,u 132,u 133,u 134,u 135,u 136,u 137,u 138,u 139,u 140,u 141,u 142,u 143,u 144,u 145,u 146,u 147,u 148,u 149,u 150,u 151,u 152,u 153,u 154,u 155,u 156,u 157,u 158,u 159,u 160,u 161,u 162,u 163,u 164,u 165,u 166,u 167,u 168,u 169,u 170,u 171,u 172,u 173,u 174,u 175,u 176,u 177,u 178,u 179,u 180,u 181,u 182,u 183,u 184,u 185,u 186,u 187,u 188,u 189,u 190,u 191,u 192,u 193,u 194,u 195,u 196,u 197,u 198,u 199,u 200,u 201,u 202,u 203,u 204,u 205,u 206,u 207,u 208,u 209,u 210,u 211,u 212,u 213,u 214,u 215,u 216],defers:=[]}
def Yo (c e d a b n:Nat) (u:Nat→Value):Act:={tmps:=#[.pointer (some ⟨c,0,none⟩),.slice (some ⟨e,d,none⟩) a b,u 2,u 3,.pointer (some ⟨n,0,none⟩),u 5,u 6,u 7,u 8,u 9,u 10,u 11,u 12,u 13,u 14,u 15,u 16,u 17,u 18,u 19,u 20,u 21,.int .i64 0,u 23,u 24,u 25,u 26,u 27,u 28,u 29,u 30,u 31,u 32,u 33,u 34,u 35,u 36,u 37,u 38,u 39,u 40,u 41,u 42,u 43,u 44,u 45,u 46,u 47,u 48,u 49,u 50,u 51,u 52,u 53,u 54,u 55,u 56,u 57,u 58,u 59,u 60,u 61,u 62,u 63,u 64,u 65,u 66,u 67,u 68,u 69,u 70,u 71,u 72,u 73,u 74,u 75,u 76,u 77,u 78,u 79,u 80,u 81,u 82,u 83,u 84,u 85,u 86,u 87,u 88,u 89,u 90,u 91,u 92,u 93,u 94,u 95,u 96,u 97,u 98,u 99,u 100,u 101,u 102,u 103,u 104,u 105,u 106,u 107,u 108,u 109,u 110,u 111,u 112,u 113,u 114,u 115,u 116,u 117,u 118,u 119,u 120,u 121,u 122,u 123,u 124,u 125,u 126,u 127,u 128,u 129,u 130,u 131,u 132,u 133,u 134,u 135,u 136,u 137,u 138,u 139,u 140,u 141,u 142,u 143,u 144,u 145,u 146,u 147,u 148,u 149,u 150,u 151,u 152,u 153,u 154,u 155,u 156,u 157,u 158,u 159,u 160,u 161,u 162,u 163,u 164,u 165,u 166,u 167,u 168,u 169,u 170,u 171,u 172,u 173,u 174,u 175,u 176,u 177,u 178,u 179,u 180,u 181,u 182,u 183,u 184,u 185,u 186,u 187,u 188,u 189,u 190,u 191,u 192,u 193,u 194,u 195,u 196,u 197,u 198,u 199,u 200,u 201,u 202,u 203,u 204,u 205,u 206,u 207,u 208,u 209,u 210,u 211,u 212,u 213,u 214,u 215,u 216],defers:=[]}
def Ub {Q a} (hb p N b d f w W) (hl:64≤b) (Bf:b≤9223372036854775807) (Z:∀j,j<64→w.cell? ⟨p,N+j,none⟩=some (.int .u8 (f j))∧mD (f j)) (GG:p<w.heap.size) (ha:a=Yo hb p N b d w.heap.size (fun k=>a.tmps.getD k undef)) (hM:oa w.heap.size (iN f) 0 w W) (hQ:∀a V,a=Yp hb p N b d w.heap.size (fun k=>a.tmps.getD k undef)→oa w.heap.size (iN f) 16 w V→Q .normal a V):Oz.wp prog (Exit.inBlock 0 Q) a W:=by
 rw[ha];generalize (fun k=>a.tmps.getD k undef)=u;clear ha a;unfold Yo;have c:=aa Z;clear Z;simp only[Oz,nb,Tryz.f164,blockOf,reduceIte,Nat.reduceEqDiff]
 go_loopw [22] (fun i wr=>∃k:Nat,k≤16∧i= .int .i64 k∧oa w.heap.size (iN f) k w wr) (fun i _=>16-(intOf i).toNat)
 case atStart=>exact⟨0,by omega,rfl,hM⟩
 case round=>
  obtain⟨k,hk,rfl,C,D,B,A,E⟩:=hrel;by_cases X:k<16
  ·have M:=(c.out (4*k) (by omega)).1
   have L:=(c.out (4*k+1) (by omega)).1;have K:=(c.out (4*k+2) (by omega)).1;have J:=(c.out (4*k+3) (by omega)).1;rw[←E.cell (by exact GG)]at M L K J;generalize z:f (4*k)=I at M;generalize y:f (4*k+1)=H at L;generalize v:f (4*k+2)=G at K;generalize s:f (4*k+3)=F at J;have wa:IntKind.i64.wrap (4*(k:Int))=((4*k:Nat):Int):=by rw[bP];omega
   have g (j:Nat) (hj:j≤3):IntKind.i64.wrap (((4*k:Nat):Int)+j)=((4*k+j:Nat):Int):=by rw[bP];omega
   have U:=g 1 (by omega);have T:=g 2 (by omega);have S:=g 3 (by omega);have l0:((4*k:Nat):Int)<b:=by omega
   have l1:((4*k+1:Nat):Int)<b:=by omega
   have l2:((4*k+2:Nat):Int)<b:=by omega
   have l3:((4*k+3:Nat):Int)<b:=by omega
   have n:=(c.out (4*k) (by omega)).2;have m:=(c.out (4*k+1) (by omega)).2;have l:=(c.out (4*k+2) (by omega)).2;have h:=(c.out (4*k+3) (by omega)).2;have hX:wi (iN f k)=wi (be4 I H G F):=by rw[iN,z,y,v,s]
   rw[z]at n;rw[y]at m;rw[v]at l;rw[s]at h;have r:=Tt n m l h;rw[←hX]at r;simp only[←nP]at r;have xa:IntKind.u32.wrap I=I:=by rw[nP];unfold mD at n;omega
   have R:IntKind.u32.wrap H=H:=by rw[nP];unfold mD at m;omega
   have P:IntKind.u32.wrap G=G:=by rw[nP];unfold mD at l;omega
   have O:IntKind.u32.wrap F=F:=by rw[nP];unfold mD at h;omega
   clear hX n m l h z y v s;have KV:=aa D;have u9:=aa B;have Cn:=aa A;clear g A B D;generalize ((4*k:Nat))=q at*;generalize q+1=m1 at*;generalize q+2=m2 at*;generalize q+3=m3 at*;simp only[Int.cast_ofNat_Int]at U T S;go_wp2
   go_still_tail 35,(by kernel_rfl)
   refine bZ (fun W=>W.heap[w.heap.size]?=some (.cells C 245 (0,0))∧Below w.heap.size w W) ⟨KV.out,E.drew⟩ ?_;rintro W2 ⟨o,ei⟩;have Y:=br W2 _ k C _ _ o;have hcf:=j' o k;rw[oL (show k<C.size by rw[u9.out];exact X)]at Y;generalize C[k]'_=cv at Y;have ww:=aa o;clear o M L K J wa U T S l0 l1 l2 l3 r xa R P O;go_wp2
   go_round
   case rel=>exact⟨k+1,by omega,by go_num,oa.step ww.out u9.out Cn.out X ei⟩
   case measure=>simp[intOf];omega
  ·have e:k=16:=by omega
   subst e;go_wp2;exact hQ _ _ (by kernel_rfl) ⟨C,D,B,A,E⟩
def aL.tQ {k W w} (h:Below W.heap.size W w):aL k W w:=⟨h.os,h.tape,h.output,h.size,fun b a _=>h.block b a⟩
def aL.TK {k W w p} (h:aL k W w) (d:W.heap.size≤p.block) (v):aL k W (w.setCell p v):=⟨h.os,h.tape,h.output,by rw[show (w.setCell p v).heap.size=w.heap.size from by simp];exact h.size,fun b c a=>(Below.heap_setCell w p v b (by omega)).trans (h.block b c a)⟩
def xy (c:Nat) (H:Array Value) (d:TypeId) (v:Nat→rT) (k:Nat) (w b:World):Prop:=∃a:Array Value,b.heap[c]?=some (.cells a d (0,0))∧a.size=H.size∧(∀j:Nat,a[j]?=if j<k then some (.int .u32 (wi (v j)))else H[j]?)∧aL c w b
def xy.start {b H c} (v) {w a} (e:a.heap[b]?=some (.cells H c (0,0))) (d:aL b w a):xy b H c v 0 w a:=⟨H,e,rfl,fun j=>by simp,d⟩
def xy.step {a H d v k w W b} (l:W.heap[a]?=some (.cells b d (0,0))) (f:b.size=H.size) (i:∀j:Nat,b[j]?=if j<k then some (.int .u32 (wi (v j)))else H[j]?) (g:k<H.size) (h:aL a w W):xy a H d v (k+1) w (W.setCell ⟨a,k,none⟩ (.int .u32 (wi (v k)))):=by
 refine⟨_,xJ l _,by simp[f],fun j=>?_,h.setCell _ _⟩;by_cases e:j=k
 ·subst e
  rw[aj (by omega)];simp[f,g]
 ·rw[Cy (xD e),i j]
  by_cases c:j<k
  ·rw[aj c,aj (by omega)]
  ·rw[an c,an (by omega)]
def Hx {P a o} (w t e x y n) (l:o.op= .index t x y) (j:P.underlying t=some (.array n e)) {d} (he:P.underlying e=some d) (p:d.isRow=false) (hs:(P.info? e).map (·.size)=some 1) (b) (f:a x= .agg b) (k i) (c:a y= .int k (i:Int)) (m:i<n) (v) (g:b[i]?=some v):(execOp a o).run P w= .ok (.value v) w:=by have h:=EJ (P:=P) w t e n j he p hs b k i m v g;unfold execOp;simp only[l,f,c,dN,h,Result.andThen,Sem.run_pure]
noncomputable def Oy:Code:=nb 2 Tryz.f164
def adk (a:Nat) (A:Array Value) (u:Nat→Value):Act:={tmps:=#[.pointer (some ⟨a,0,none⟩),u 1,u 2,u 3,u 4,u 5,u 6,u 7,u 8,u 9,u 10,u 11,u 12,u 13,u 14,u 15,u 16,u 17,u 18,u 19,u 20,u 21,u 22,u 23,u 24,u 25,u 26,u 27,u 28,u 29,u 30,u 31,u 32,u 33,u 34,u 35,u 36,u 37,u 38,u 39,u 40,u 41,u 42,u 43,u 44,u 45,u 46,u 47,u 48,u 49,u 50,u 51,u 52,u 53,u 54,u 55,u 56,u 57,u 58,u 59,u 60,u 61,u 62,u 63,u 64,u 65,u 66,u 67,u 68,u 69,u 70,u 71,u 72,u 73,u 74,u 75,u 76,u 77,u 78,u 79,u 80,u 81,u 82,u 83,u 84,u 85,u 86,u 87,u 88,u 89,u 90,u 91,u 92,u 93,u 94,u 95,u 96,u 97,u 98,u 99,u 100,u 101,u 102,u 103,u 104,u 105,u 106,u 107,u 108,u 109,u 110,u 111,u 112,u 113,u 114,u 115,u 116,u 117,u 118,u 119,u 120,u 121,u 122,u 123,u 124,u 125,u 126,u 127,u 128,u 129,u 130,u 131,u 132,u 133,u 134,u 135,u 136,u 137,u 138,u 139,u 140,u 141,u 142,u 143,u 144,u 145,u 146,u 147,u 148,u 149,u 150,u 151,u 152,u 153,u 154,u 155,u 156,u 157,u 158,u 159,u 160,u 161,u 162,u 163,u 164,u 165,u 166,u 167,u 168,u 169,u 170,u 171,u 172,u 173,u 174,u 175,u 176,u 177,u 178,u 179,u 180,u 181,u 182,u 183,u 184,u 185,u 186,u 187,u 188,u 189,u 190,u 191,u 192,u 193,u 194,u 195,u 196,u 197,u 198,u 199,u 200,u 201,.agg A,.int .i64 0,u 204,u 205,u 206,u 207,u 208,u 209,u 210,u 211,u 212,u 213,u 214,u 215,u 216],defers:=[]}
def Ua {Q a} {A:Array Value} (b:Nat) (H:Array Value) (g:TypeId) (h r:Hs) (w W) (ha:a=adk b A (fun k=>a.tmps.getD k undef)) (L:A=r.cells.toArray) (G:∀j,j<8→H[j]?=some (.int .u32 (wi (h.at j)))) (F:xy b H g (fun j=>h.at j+r.at j) 0 w W) (I:∀a C,a.defers=[]→xy b H g (fun j=>h.at j+r.at j) 8 w C→Q .normal a C):Oy.wp prog (Exit.inBlock 2 Q) a W:=by
 subst L;rw[ha];generalize (fun k=>a.tmps.getD k undef)=u;clear ha a;unfold adk;have s:=aa G;clear G;simp only[Oy,nb,Tryz.f164,blockOf,reduceIte,Nat.reduceEqDiff];have B:=aa r.ot;generalize r.cells.toArray=A at*
 go_loopw [203] (fun i wr=>∃k:Nat,k≤8∧i= .int .i64 k∧xy b H g (fun j=>h.at j+r.at j) k w wr) (fun i _=>8-(intOf i).toNat)
 case atStart=>exact⟨0,by omega,rfl,F⟩
 case round=>
  obtain⟨k,O,rfl,f,d,p,m,c⟩:=hrel;by_cases l:k<8
  ·have D:f[k]?=some (.int .u32 (wi (h.at k))):=(m k).trans ((an (by omega)).trans (s.out k l))
   have y:=(br _ _ k f _ _ d).trans D;have v:=j' d k;have z:=aa d;have q:=aa m;have E:=aa l;clear d m D F
   go_wp2_with ((with_reducible refine Dl 223 ?_);refine ab (by rfl) _ (Hx _ _ _ _ _ 8 rfl IU IV rfl (by kernel_rfl) A (by rfl) .i64 k (by rfl) E.out _ (B.out k E.out)) ?_)
   have R:=CF;have M:(k:Int)<8:=by omega
   refine NP 9 (by kernel_rfl) (by kernel_rfl) ?_;simp only[List.take_succ_cons,List.take_zero,NJ,rZ]
   repeat still_step
   try refine wpStill_nil ?_
   refine bZ (fun o=>o.heap[b]?=some (.cells f g (0,0))∧aL b w o) ⟨z.out,⟨c.os,c.tape,c.output,c.size,c.block⟩⟩ ?_;rintro o ⟨n,K⟩;have P:=(br o _ k f _ _ n).trans ((q.out k).trans ((an (by omega)).trans (s.out k l)));have N:=j' n k;have J:=aa n;clear n y v;go_wp2
   go_round
   case rel=>exact⟨k+1,by omega,by go_num,xy.step J.out p q.out (by rw[←p];exact(Cz.1 ((q.out k).trans ((an (by omega)).trans (s.out k l)))).1) K⟩
   case measure=>simp[intOf];omega
  ·have e:k=8:=by omega
   subst e;go_wp2;exact I _ _ rfl ⟨f,d,p,m,c⟩
def fI {P:Program} {a w Q} {c R:Code} (l:Nat) (J:Act→World→Prop) (d:Act→World→Nat) (j:findLabel c l=some (.seq .skip R)) (b:∀a w,J a w→R.wp P (Exit.jump l (fun i f=>J i f∧d i f<d a w) Q) a w) (first:(∀a w,J a w→R.wp P (Exit.jump l J Q) a w)→c.wp P (Exit.jump l J Q) a w):(Code.scope c).wp P Q a w:=
 wp_scope_jumps l J d j (first fun a w h=>Code.wp_mono (fun e i f g=>by
  cases e<;>first|exact g|exact⟨g.1,g.2.1⟩) (b a w h)) fun a w h=>ij (wp_skip (b a w h))
def Zw (j m k h i n:Nat) (s:Hs) (t:Nat) (u:Nat→Value):Act:={tmps:=#[.pointer (some ⟨j,0,none⟩),.slice (some ⟨m,k,none⟩) h i,u 2,u 3,.pointer (some ⟨n,0,none⟩),u 5,.int .u32 (wi s.a),.int .u32 (wi s.b),.int .u32 (wi s.c),.int .u32 (wi s.d),.int .u32 (wi s.e),.int .u32 (wi s.f),.int .u32 (wi s.g),.int .u32 (wi s.l),.int .i64 (t:Int),u 15,u 16,u 17,u 18,u 19,u 20,u 21,u 22,u 23,u 24,u 25,u 26,u 27,u 28,u 29,u 30,u 31,u 32,u 33,u 34,u 35,u 36,u 37,u 38,u 39,u 40,u 41,u 42,u 43,u 44,u 45,u 46,u 47,u 48,u 49,u 50,u 51,u 52,u 53,u 54,u 55,u 56,u 57,u 58,u 59,u 60,u 61,u 62,u 63,u 64,u 65,u 66,u 67,u 68,u 69,u 70,u 71,u 72,u 73,u 74,u 75,u 76,u 77,u 78,u 79,u 80,u 81,u 82,u 83,u 84,u 85,u 86,u 87,u 88,u 89,u 90,u 91,u 92,u 93,u 94,u 95,u 96,u 97,u 98,u 99,u 100,u 101,u 102,u 103,u 104,u 105,u 106,u 107,u 108,u 109,u 110,u 111,u 112,u 113,u 114,u 115,u 116,u 117,u 118,u 119,u 120,u 121,u 122,u 123,u 124,u 125,u 126,u 127,u 128,u 129,u 130,u 131,u 132,u 133,u 134,u 135,u 136,u 137,u 138,u 139,u 140,u 141,u 142,u 143,u 144,u 145,u 146,u 147,u 148,u 149,u 150,u 151,u 152,u 153,u 154,u 155,u 156,u 157,u 158,u 159,u 160,u 161,u 162,u 163,u 164,u 165,u 166,u 167,u 168,u 169,u 170,u 171,u 172,u 173,u 174,u 175,u 176,u 177,u 178,u 179,u 180,u 181,u 182,u 183,u 184,u 185,u 186,u 187,u 188,u 189,u 190,u 191,u 192,u 193,u 194,u 195,u 196,u 197,u 198,u 199,u 200,u 201,u 202,u 203,u 204,u 205,u 206,u 207,u 208,u 209,u 210,u 211,u 212,u 213,u 214,u 215,u 216],defers:=[]}
def Se (e g f b c n:Nat) (h:Hs) (M:Nat→rT) (w:World) (a:Act) (d:World):Prop:=
 ∃(t:Nat) (s:Hs) (C:Array Value) (u:Nat→Value),a=Zw e g f b c n s t u∧t≤63∧s=h.sR M t∧
  d.heap[n]?=some (.cells C 245 (0,0))∧C.size=16∧(∀k,k<16→C[(t+k)%16]?=some (.int .u32 (wi (fh M (t+k)))))∧Below n w d
def LD (x k) (c:1≤k) (b:k≤31) (w):
 Calls prog 187 #[.int .u32 (wi x),.int .i64 k] w fun e a=>e= .returned (.int .u32 (wi (rk x k)))∧a=w:=by
 obtain⟨m,rfl⟩:=Int.eq_ofNat_of_zero_le (show 0≤k by omega);exact TB x m (by omega) w
def xy.same {c H b v a k w W} (h:xy c H b v k w W) (e:∀j,a j=v j):xy c H b a k w W:=by have:a=v:=funext e;rw[this];exact h
def Se.of {e g f b c n h M w a d} (t s C) (m:a=Zw e g f b c n s t (fun k=>a.tmps.getD k undef)) (l:t≤63) (hs:s=h.sR M t) (o:d.heap[n]?=some (.cells C 245 (0,0))) (i:C.size=16) (j:∀k,k<16→C[(t+k)%16]?=some (.int .u32 (wi (fh M (t+k))))) (p:Below n w d):Se e g f b c n h M w a d:=⟨t,s,C,_,m,l,hs,o,i,j,p⟩
def P' {M t j} {C:Array Value} (c:t%16=j) (a:C.size=16) (b:∀k,k<16→C[(t+k)%16]?=some (.int .u32 (wi (fh M (t+k))))) (k) (d:k<16):
 (C.setIfInBounds j (.int .u32 (wi (fh M (t+16)))))[(t+1+k)%16]?=some (.int .u32 (wi (fh M (t+1+k)))):=by
 subst c;by_cases e:k=15
 ·subst e
  rw[show t+1+15=t+16 from by omega,Nat.add_mod_right];simp[a,E9]
 ·rw[Cy (by omega),show t+1+k=t+(k+1)from by omega]
  exact b (k+1) (by omega)
def Ox (i I Q o z:Nat) (f:Nat→Int) (h:Hs) (H:Array Value) (O:TypeId) (w) (hl:64≤o) (Bf:o≤9223372036854775807) (KR:∀j,j<64→w.cell? ⟨I,Q+j,none⟩=some (.int .u8 (f j))∧mD (f j)) (GG:I<w.heap.size) (y:∀t,t<64→w.cell? ⟨1,t,none⟩=some (.int .u32 (wi (tk t)))) (hH:w.heap[i]?=some (.cells H O (0,0))) (RC:∀j,j<8→H[j]?=some (.int .u32 (wi (h.at j)))):
 Calls prog 164 #[.pointer (some ⟨i,0,none⟩),.slice (some ⟨I,Q,none⟩) o z] w fun e m=>e= .returned (.tuple #[])∧xy i H O (h.mix (iN f)).at 8 w m:=by
 have Iz:=aa RC;have M:i<w.heap.size:=iE ((br w i 0 H _ _ hH).trans (RC 0 (by omega)));have rn:=aa KR;have hK':=aa y;have hKb:1<w.heap.size:=iE (y 0 (by omega));clear KR y RC
 go_enter func164,ntmps164
 go_wp2;refine fI 0 (Se i I Q o z w.heap.size h (iN f) w) (fun a' _=>64-(intOf (a'.tmps.getD 14 undef)).toNat) rfl ?_ ?_
 ·rintro a B ⟨t,s,C,u,rfl,ht,hs,v,F,r,n⟩
  have c0:=(br B _ (t%16) C _ _ v).trans (by simpa using r 0 (by omega));have c1:=(br B _ ((t+1)%16) C _ _ v).trans (r 1 (by omega));have c9:=(br B _ ((t+9)%16) C _ _ v).trans (r 9 (by omega));have c14:=(br B _ ((t+14)%16) C _ _ v).trans (r 14 (by omega));have ck:=(n.cell (p:=⟨1,t,none⟩) hKb).trans (hK'.out t (by omega));have a0:=Oa t (by omega);have a1:=Oa (t+1) (by omega);have a9:=Oa (t+9) (by omega);have a14:=Oa (t+14) (by omega);have a63:=aej t (by omega);rw[ND (show t<64 by omega)]at a63;have i0:t%16<16:=E9 _ (by omega);have i1:(t+1)%16<16:=E9 _ (by omega);have i9:(t+9)%16<16:=E9 _ (by omega);have i14:(t+14)%16<16:=E9 _ (by omega);have w1:IntKind.i64.wrap ((t:Int)+1)=((t+1:Nat):Int):=by rw[bP];omega
  have w9:IntKind.i64.wrap ((t:Int)+9)=((t+9:Nat):Int):=by rw[bP];omega
  have w14:IntKind.i64.wrap ((t:Int)+14)=((t+14:Nat):Int):=by rw[bP];omega
  have hj0:((t%16:Nat):Int)<16:=by omega
  have hj1:(((t+1)%16:Nat):Int)<16:=by omega
  have hj9:(((t+9)%16:Nat):Int)<16:=by omega
  have alE:(((t+14)%16:Nat):Int)<16:=by omega
  have htt:(t:Int)<64:=by omega
  clear i0 i1 i9 i14;generalize gj0:t%16=D at*;generalize (t+1)%16=j1 at*;generalize (t+9)%16=j9 at*;generalize (t+14)%16=j14 at*;generalize hT1:((t+1:Nat):Int)=T1 at w1 a1;generalize ((t+9:Nat):Int)=T9 at w9 a9;generalize ((t+14:Nat):Int)=T14 at w14 a14;obtain⟨Z,Y,X,V,U,T,S,R⟩:=s;unfold Zw
  dsimp only
  have mB:=aa hs;have KV:=aa v;have E:=aa F;have Cn:=aa r;clear hs v F r;have ex:=GV;have ea:=LC;have eo:=IS;have ep:=CF;have es3:=Oh;have ac6:=Jh;go_wp2;refine r8 (by kernel_rfl) (by kernel_rfl) ?_
  repeat (go_big_quiet_step (exact Calls.quiet_of_same (LD _ _ (by omega) (by omega) _)))
  refine r9 ?_;intro _ lp;obtain⟨nq,ov⟩:=lp;subst ov
  go_wp2_with ((with_reducible refine(LD _ _ (by omega) (by omega) _).mono ?_);rintro e m ⟨rfl,rfl⟩)
  go_big_quiet (fail)
  go_wp2;refine bO (fun W=>W.heap=B.heap∧Below w.heap.size w W) ⟨by first|rfl|simp,⟨n.os,n.tape,n.output,n.size,n.block⟩⟩ ?_;rintro W ⟨Q3,G⟩;have c9':=(iP (w:=B) (w':=W) (a:=⟨w.heap.size,j9,none⟩) (by rw[Q3])).trans c9;have N:=aa ((fB (fun hp=>hp[w.heap.size]?) Q3).trans KV.out);clear c0 c1 c9 c14 ck Q3;refine NP 28 (by kernel_rfl) (by kernel_rfl) ?_;simp only[List.take_succ_cons,List.take_zero,NJ,rZ]
  repeat (first
   |still_step
   |refine wpStill_step (fun K y=>?_)
    go_simp;refine⟨_,LD _ _ (by omega) (by omega) _,y _ ?_⟩
    clear y K)
  try refine wpStill_nil ?_
  refine bZ (fun J=>J.heap[w.heap.size]?=some (.cells C 245 (0,0))∧Below w.heap.size w J) ⟨N.out,⟨G.os,G.tape,G.output,G.size,G.block⟩⟩ ?_;rintro J ⟨P,ei⟩;have L:D<C.size:=by rw[E.out];omega
  have mw:=br J _ D C _ _ P;have hcf:=j' P D;rw[oL L]at mw;generalize C[D]'_=cv at mw;have ww:=aa P;rw[PK];clear P c9' N L;by_cases a8:T1<64
  ·have u6:decide (T1<64)=true:=by simpa using a8
   go_wp2
   go_step3
   subst hT1;refine⟨rfl,Se.of (t+1) (Hs.RN ⟨Z,Y,X,V,U,T,S,R⟩ (tk t) (fh (iN f) t)) _ (by kernel_rfl) (by omega) ?_ (xJ ww.out _) (by simp[E.out]) (P' gj0 E.out Cn.out) (ei.setCell (by simp) _),?_⟩
   ·rw[Hs.Oq]
    show _=(h.sR (iN f) t).Xo _ _;rw[←mB.out]
   ·show 64-(((t+1:Nat):Int)).toNat<64-((t:Int)).toNat
    omega
  ·have u6:decide (T1<64)=false:=by simpa using a8
   go_wp2;have YU:xy i H O (fun j=>h.at j+(h.sR (iN f) 64).at j) 0 w (J.setCell ⟨w.heap.size,D,none⟩ (.int .u32 (wi (fh (iN f) (t+16))))):=xy.start _ (by rw[Below.heap_setCell _ _ _ _ (by simp only;omega),ei.block _ M];exact hH) ((aL.tQ ei).TK bG _)
   have hq:Hs.RN ⟨Z,Y,X,V,U,T,S,R⟩ (tk t) (fh (iN f) t)=h.sR (iN f) 64:=by
    have e:t=63:=by omega
    rw[Hs.Oq,mB.out,e];rfl
   refine Ua (A:=(Hs.RN ⟨Z,Y,X,V,U,T,S,R⟩ (tk t) (fh (iN f) t)).cells.toArray) i H O h (h.sR (iN f) 64) w _ (by kernel_rfl) (by rw[hq]) Iz.out YU ?_;intro a m hd hM8;go_wp2;simp only[Exit.jump];exact bodyPost_end (results_none rfl _ _ _) hd ⟨rfl,hM8.same (fun j=>by rw[Hs.mix,Hs.aar])⟩
 ·intro I5
  have LO:=aa I5;clear I5;go_wp2;refine Ub i I Q o z f w _ hl Bf rn.out GG (by kernel_rfl) (oa.start _ _ _ _ _ (IP w _) rfl dt) ?_;intro a m ha ⟨C,v,F,r,n⟩;rw[ha];generalize (fun k=>a.tmps.getD k undef)=u;clear ha a;unfold Yp;have q (j:Nat) (hj:j<8):m.cell? ⟨i,j,none⟩=some (.int .u32 (wi (h.at j))):=(n.cell (by exact M)).trans ((br w i j H _ _ hH).trans (Iz.out j hj));have q0:m.cell? ⟨i,0,none⟩=some (.int .u32 (wi h.a)):=q 0 (by omega);have q1:m.cell? ⟨i,1,none⟩=some (.int .u32 (wi h.b)):=q 1 (by omega);have q2:m.cell? ⟨i,2,none⟩=some (.int .u32 (wi h.c)):=q 2 (by omega);have q3:m.cell? ⟨i,3,none⟩=some (.int .u32 (wi h.d)):=q 3 (by omega);have q4:m.cell? ⟨i,4,none⟩=some (.int .u32 (wi h.e)):=q 4 (by omega);have q5:m.cell? ⟨i,5,none⟩=some (.int .u32 (wi h.f)):=q 5 (by omega);have q6:m.cell? ⟨i,6,none⟩=some (.int .u32 (wi h.g)):=q 6 (by omega);have q7:m.cell? ⟨i,7,none⟩=some (.int .u32 (wi h.l)):=q 7 (by omega);have KV:=aa v;have E:=aa F;have Cn:=aa r;clear q v F r;go_wp2
  go_big_quiet (fail)
  go_wp2
  go_step3
  simp only[Exit.then];rename_i K y;refine y _ _ ?_;refine LO.out _ _ (Se.of 0 h C (by kernel_rfl) (by omega) rfl KV.out E.out (fun k hk=>by rw[bY,ND hk,BJ _ _ hk];exact Cn.out k hk) ⟨n.os,n.tape,n.output,n.size,n.block⟩)
def iQ (s:Hs) (j:Nat):Int:=wi (s.at (j/4))/(2:Int)^(24-8*(j%4))%256
def ye (s:Hs) (k j d:Nat) (c:j<4) (a:d=24-8*j) (D:Int) (b:(2:Int)^d=D):IntKind.u8.wrap (wi (s.at k)/D)=iQ s (4*k+j):=by rw[AB,iQ,show (4*k+j)/4=k from by omega,show (4*k+j)%4=j from by omega,←a,b]
def TU (s j):mD (iQ s j):=by unfold mD iQ;omega
def gW {P d c o a w n Q g} (e x y) (z:o.guard=none) (s:o.op= .store e x y) (b k) (r:a.eval x= .pointer (some ⟨b,k,none⟩)) (f m) (q:a.eval y= .int f m) (p:(P.info? e).map (·.size)=some 1) (C t) (l:w.heap[b]?=some (.cells C t (0,0))) (u:k<C.size) (hn:g≤b) (E:Below g n w) (h:∀W,W.heap[b]?=some (.cells (C.setIfInBounds k (.int f m)) t (0,0))→Below g n W→wpList P d Q c (a.put o.dst undef) W):wpList P d Q (o::c) a w:=by
 refine aH z fun K D=>?_;have B:w.cell? ⟨b,k,none⟩=some C[k]:=(br w b k C _ _ l).trans (oL u);have A:=j' l k;cases j:P.info? e with
 |none=>simp[j]at p
 |some i=>
  have v:i.size=1:=by simpa[j]using p
  have hs:(Instr.storeAt e (.pointer (some ⟨b,k,none⟩)) (.int f m)).run P w= .ok () (w.setCell ⟨b,k,none⟩ (.int f m)):=by simp[Instr.storeAt,Instr.sureAddr,storeVar,storeCells,sizeOf,typeInfo,j,v,go_sem,B,A]
  unfold Oper.wp execOp;simp only[s,r,q,dN,hs,Result.andThen,Sem.run_pure,Oper.upon_skip];exact D _ _ (h _ (xJ l _) (E.setCell hn _))
def aq {P e c o a w w0 Q n0} (f x y) (p:o.guard=none) (n:o.op= .store f x y) (b) (m:a.eval x= .pointer (some ⟨b,0,none⟩)) (d) (l:a.eval y= .agg d) (s:d.all (·.oneCell')=true) (k:(P.info? f).map (·.size)=some d.size) (C t) (i:w.heap[b]?=some (.cells C t (0,0))) (u:C.size=d.size) (hn:n0≤b) (r:Below n0 w0 w) (h:∀W,W.rangeAt b 0 d.toList→Below n0 w0 W→(∀j,j≠b→W.heap[j]?=w.heap[j]?)→wpList P e Q c (a.put o.dst undef) W):wpList P e Q (o::c) a w:=by
 refine aH p fun K q=>?_
 have g:w.there b 0 d.size:=fun j v=>by refine⟨?_,j' i _⟩;rw[br w b (0+j) C _ _ i,bY,oL (by omega)];rfl
 have hs:=run_storeAt_mid (P:=P) w b 0 f d g k s;unfold Oper.wp execOp;simp only[n,m,l,dN,hs,Result.andThen,Sem.run_pure,Oper.upon_skip];exact q _ _ (h _ (AA _ _ _ _ (by simpa using g)) (Below.setCells b hn _ _ _ r) (kr b _ _ _).2)
def fF {P f R a w p b} (h:f.results=#[.cell p b]) (g k c d) (l:a.tmps.getD p undef= .pointer (some ⟨g,k,none⟩)) (n:w.rangeAt g k c) (i:P.underlying b=some d) (o:d.isRow=true) (m:(P.info? b).map (·.size)=some c.length) (e:a.defers=[]) (q:R (.returned (.agg c.toArray)) w):bodyPost P f R .ret a w:=by
 refine Fj ?_ e q;have j:a.tmps[p]?.getD undef= .pointer (some ⟨g,k,none⟩):=by simpa using l
 simp[results,h,j,asAddr,run_loadVar_mid w g k b c d n i o m]
def am:rowB prog 25 32=true:=by kernel_rfl
def Jf (n:Nat) (s:Hs) (k:Nat) (b a:World):Prop:=∃O:Array Value,a.heap[n]?=some (.cells O 25 (0,0))∧O.size=32∧(∀j,j<4*k→O[j]?=some (.int .u8 (iQ s j)))∧Below n b a
def Jf.next {n s k a W} {O:Array Value} (h:∀j,j<4*k→O[j]?=some (.int .u8 (iQ s j))) (hs:O.size=32) (i:k<8) (g:Below n a W) (f:W.heap[n]?=some (.cells ((((O.setIfInBounds (4*k) (.int .u8 (iQ s (4*k)))).setIfInBounds (4*k+1) (.int .u8 (iQ s (4*k+1)))).setIfInBounds (4*k+2) (.int .u8 (iQ s (4*k+2)))).setIfInBounds (4*k+3) (.int .u8 (iQ s (4*k+3)))) 25 (0,0))):
 Jf n s (k+1) a W:=by
 refine⟨_,f,by simp[hs],fun j l=>?_,g⟩;simp only[th,NT,hs];by_cases b:4*k+3=j
 ·subst b;rw[aj rfl,aj (by omega)]
 rw[an b];by_cases c:4*k+2=j
 ·subst c;rw[aj rfl,aj (by omega)]
 rw[an c];by_cases d:4*k+1=j
 ·subst d;rw[aj rfl,aj (by omega)]
 rw[an d];by_cases e:4*k=j
 ·subst e;rw[aj rfl,aj (by omega)]
 rw[an e];exact h j (by omega)
def iW {a n kd f} (hs:a.size=n) (h:∀j,j<n→a[j]?=some ((kd j).mk (f j))):a=(ae n kd f).toArray:=by
 apply Array.ext_getElem?;intro j;by_cases c:j<n
 ·rw[h j c]
  have:=aN n kd f j c;simpa using this.symm
 ·rw[AC (by omega),AC (by simp[ae];omega)]
def PD (b s H tH w) (u:w.heap[b]?=some (.cells H tH (0,0))) (r:∀j,j<8→H[j]?=some (.int .u32 (wi (s.at j)))):
 Calls prog 165 #[.pointer (some ⟨b,0,none⟩)] w fun e w'=>e= .returned (.agg (ae 32 (fun _=> .u8) (iQ s)).toArray)∧Below w.heap.size w w':=by
 have y:b<w.heap.size:=iE ((br w b 0 H _ _ u).trans (r 0 (by omega)));have Iz:=aa r;have VO:=aa u;clear u r;obtain⟨a,h⟩:∃a,a=w.alloc (.cells (List.replicate 32 (Value.int .u8 0)).toArray 25):=⟨_,rfl⟩;have K:Below w.heap.size w a:=by rw[h];exact dt
 have Be:a.heap[w.heap.size]?=some (.cells (List.replicate 32 (Value.int .u8 0)).toArray 25 (0,0)):=by rw[h];exact IP w _
 have pz:a.heap.size=w.heap.size+1:=by rw[h];simp
 go_enter func165,ntmps165
 go_wp2;refine bO (Jf (w.heap.size+1) s 0 a) ⟨_,heap_alloc2_new w _ _,rfl,fun j o=>absurd o (by omega),by rw[←pz,h];exact dt⟩ ?_;intro W0 L;have z:=aa ((K.block b y).trans VO.out)
 go_loopw [7] (fun i wr=>∃k:Nat,k≤8∧i= .int .i64 k∧Jf (w.heap.size+1) s k a wr) (fun i _=>8-(intOf i).toNat)
 case atStart=>exact⟨0,by omega,rfl,L⟩
 case round=>
  obtain⟨k,hk,rfl,O,m,q,l,c⟩:=hrel;clear L;by_cases J:k<8
  ·have hk8:(k:Int)<8:=by omega
   have hx:=(c.cell (p:=⟨b,k,none⟩) (by simp only;omega)).trans ((br a b k H _ _ z.out).trans (Iz.out k J));have wa:IntKind.i64.wrap (4*(k:Int))=((4*k:Nat):Int):=by rw[bP];omega
   have f (j:Nat) (o:j≤3):IntKind.i64.wrap (((4*k:Nat):Int)+j)=((4*k+j:Nat):Int):=by rw[bP];omega
   have Yt:=f 1 (by omega);have Ys:=f 2 (by omega);have Yr:=f 3 (by omega);have l0:((4*k:Nat):Int)<32:=by omega
   have l1:((4*k+1:Nat):Int)<32:=by omega
   have l2:((4*k+2:Nat):Int)<32:=by omega
   have l3:((4*k+3:Nat):Int)<32:=by omega
   have v0:IntKind.u8.wrap (wi (s.at k)/(16777216:Int))=iQ s (4*k):=ye s k 0 24 (by omega) rfl _ rfl;have v1:IntKind.u8.wrap (wi (s.at k)/(65536:Int))=iQ s (4*k+1):=ye s k 1 16 (by omega) rfl _ rfl;have v2:IntKind.u8.wrap (wi (s.at k)/(256:Int))=iQ s (4*k+2):=ye s k 2 8 (by omega) rfl _ rfl
   have v3:IntKind.u8.wrap (wi (s.at k))=iQ s (4*k+3):=by
    have:=ye s k 3 0 (by omega) rfl 1 rfl
    rwa [Int.ediv_one]at this
   have gO:=aa m;have gOc:=aa l;have d:=aa c;have z0:4*k<O.size:=by omega
   have Z:4*k+1<O.size:=by omega
   have Y:4*k+2<O.size:=by omega
   have X:4*k+3<O.size:=by omega
   generalize HV:4*k=g at*;generalize xl:g+1=m1 at*;generalize VE:g+2=m2 at*;generalize O2:g+3=m3 at*;simp only[Int.cast_ofNat_Int]at Yt Ys Yr;clear f m l c;go_wp2
   go_big_quiet (fail)
   go_wp2_with (first
    |refine al 5 ?_;refine gW 5 _ _ rfl rfl (w.heap.size+1) g rfl .u8 _ rfl (by kernel_rfl) O 25 gO.out z0 (by omega) ⟨d.out.os,d.out.tape,d.out.output,d.out.size,d.out.block⟩ (fun W1 R V=>?_);have D:=aa R;have I:=aa V;clear R V
    |refine al 5 ?_;refine gW 5 _ _ rfl rfl (w.heap.size+1) m1 rfl .u8 _ rfl (by kernel_rfl) _ 25 D.out (by simpa using Z) (by omega) I.out (fun W2 Q U=>?_);have C:=aa Q;have G:=aa U;clear Q U
    |refine al 5 ?_;refine gW 5 _ _ rfl rfl (w.heap.size+1) m2 rfl .u8 _ rfl (by kernel_rfl) _ 25 C.out (by simpa using Y) (by omega) G.out (fun W3 P T=>?_);have B:=aa P;have F:=aa T;clear P T
    |refine al 5 ?_;refine gW 5 _ _ rfl rfl (w.heap.size+1) m3 rfl .u8 _ rfl (by kernel_rfl) _ 25 B.out (by simpa using X) (by omega) F.out (fun W4 N S=>?_);have A:=aa N;have E:=aa S;clear N S)
   subst HV xl VE O2;exact⟨⟨k+1,by omega,by go_num,Jf.next gOc.out q J E.out A.out⟩,by simp[intOf];omega⟩
  ·have e:k=8:=by omega
   subst e;have M:=iW (kd:=fun _=> .u8) q (fun j o=>l j (by omega));have n:=c.block w.heap.size (by omega);rw[Be]at n;have kU:=aa (M▸m);have v:=aa n;have Nu:=aa c;clear m l n c M q
   go_wp2_with (first
    |refine ag 25 ?_;refine ab (by rfl) _ (ay _ 25 _ (by rfl) (w.heap.size+1) (by rfl) _ _ (0,0) _ kU.out cH rfl (by rw[ah am];simp[ae])) ?_
    |refine al 25 ?_;refine aq 25 _ _ rfl rfl w.heap.size rfl _ rfl (aA _ _ _) (by rw[ah am];simp[ae]) _ 25 v.out (by simp[ae]) bG (K.trans (Nu.out.mono (by omega))) (fun W hW dY _=>?_))
   exact fF rfl w.heap.size 0 (ae 32 (fun _=> .u8) (iQ s)) _ rfl (by simpa using hW) cH rfl (by rw[ah am,ac]) rfl ⟨rfl,dY⟩
end Go.Proofs.YtjeoeibdgciafaaGreatDoor
