/- Steps of the proof. -/
import Derived.Deep.AppendLies
import Derived.Laws.AppendOwnNone
import Derived.Laws.CopyOwn
import Derived.Test.YtjeoeibdgciafaaGreatDoorM0
set_option linter.all false
set_option maxRecDepth 100000
set_option maxHeartbeats 16000000
namespace Go.Proofs.YtjeoeibdgciafaaGreatDoor
open Go.RowKit BigFrame
open Go.Proofs.Tryz
structure cY (w:World):Prop where
 start:∀j,j<8→w.cell? ⟨0,j,none⟩=some (.int .u32 (wi (ip.at j)))
 round:∀t,t<64→w.cell? ⟨1,t,none⟩=some (.int .u32 (wi (tk t)))
 consts:∀t,t<64→w.cell? ⟨2,t,none⟩=some (.int .u32 (wi (tk t)))
def cY.below {w W n} (h:cY w) (hn:3≤n) (b:Below n w W):cY W:=⟨fun j a=>(b.cell (by simp only;omega)).trans (h.start j a),fun j a=>(b.cell (by simp only;omega)).trans (h.round j a),fun j a=>(b.cell (by simp only;omega)).trans (h.consts j a)⟩
def cY.size {w} (h:cY w):3≤w.heap.size:=iE (h.consts 0 (by omega))
def tt (a b:Nat→Int) (j:Nat):Int:=if j<32 then a j else b (j-32)
def GL (j:Nat):Int:=if j=0 then 128 else if j=62 then 2 else 0
def gX (a b:Nat→Int):Nat→Int:=iQ ((ip.mix (iN (tt a b))).mix (iN GL))
abbrev ax (a:Nat→Int):Array Value:=(ae 32 (fun _=> .u8) a).toArray
def fY (a:Nat→Int):Prop:=∀j,j<32→mD (a j)
def jj (a b):fY (gX a b):=fun _ _=>TU _ _
def ja {P:Program} {o:Oper} {a:Act} {w:World} {K:Act→World→Prop} {Q:Exit→Act→World→Prop} (d s:Operand) (n q:TypeId)
 (E:o.op= .call {callee:= .builtin .copy,args:=#[d,s],argTypes:=#[n,q]}) (c:TypeId) (A:P.underlying n=some (.slice c)) (B:(P.info? c).map (·.size)=some 1)
 (g f b l p y m r:Nat) (H:a.eval d= .slice (some ⟨g,f,none⟩) p y) (hs:a.eval s= .slice (some ⟨b,l,none⟩) m r)
 (i:Array Value) (t:TypeId) (u:w.heap[g]?=some (.cells i t (0,0))) (k:List Value) (hn:k.length=Nat.min m p) (C:w.rangeAt b l k)
 (G:f+k.length≤i.size) (I:∀v∈k,v.oneCell'=true)
 (h:∀W,W.heap[g]?=some (.cells (splice i.toList f k).toArray t (0,0))→aL g w W→K (a.put o.dst (goInt k.length)) W):o.wp P a w K Q:=by
 have D:=run_copy_row (P:=P) w n q o.type c g f p y ⟨b,l,none⟩ m r i t k A B u hn (fun j v z=>by
  have:=C j v z;have e:(⟨b,l,none⟩:Addr).add j=⟨b,l+j,none⟩:=by unfold Addr.add;split<;>simp_all
  rw[e]
  exact this) G I
 unfold Oper.wp;simp[execOp,E,resolve,invoke,builtin,H,hs,D,Result.andThen];refine h _ (show _=_ by simpa[splice]using setRow_heap w g _ _ t _ u) ⟨rfl,rfl,rfl,by simp,fun j _ F=>setRow_other w g j _ F⟩
def lC {l a:List Value} {o j} (hl:o+a.length≤l.length):(splice l o a)[j]?=if j<o then l[j]? else if j<o+a.length then a[j-o]? else l[j]?:=by
 unfold splice;by_cases b:j<o
 ·rw[aj b,eY (by simp;omega),nO b]
 ·rw[an b,fT (by simp;omega)]
  simp only[cf,II (show o≤l.length by omega)];by_cases c:j<o+a.length
  ·rw[aj c,eY (by omega)]
  ·rw[an c,fT (by omega),qD]
   congr 1
   omega
def li {l a:List Value} {o} (hl:o+a.length≤l.length):(splice l o a).length=l.length:=by unfold splice;simp;omega
abbrev rep (n:Nat):Array Value:=(List.replicate n (Value.int .u8 0)).toArray
structure Cr (n:Nat) (w:World) (a b:Nat→Int) (bo pd:Array Value) (W:World):Prop where
 below:Below n w W
 size:n+5≤W.heap.size
 hA:W.heap[n]?=some (.cells (ax a) 25 (0,0))
 hB:W.heap[n+1]?=some (.cells (ax b) 25 (0,0))
 hR:W.heap[n+1+1]?=some (.cells (rep 32) 25 (0,0))
 hBo:W.heap[n+1+1+1]?=some (.cells bo 221 (0,0))
 hP:W.heap[n+1+1+1+1]?=some (.cells pd 221 (0,0))
def Cr.both {n w a b i d f W e} (h:Cr n w a b i f W) (c:aL (n+1+1+1) W e) (g:e.heap[n+1+1+1]?=some (.cells d 221 (0,0))):Cr n w a b d f e:=by have:=h.size;exact⟨c.below h.below (by omega) (by omega),by have:=c.size;omega,(c.block _ (by omega) (by omega)).trans h.hA,(c.block _ (by omega) (by omega)).trans h.hB,(c.block _ (by omega) (by omega)).trans h.hR,g,(c.block _ (by omega) (by omega)).trans h.hP⟩
def Cr.later {n w a b e d W W' k} (h:Cr n w a b e d W) (c:aL k W W') (f:n+5≤k):Cr n w a b e d W':=by have:=h.size;exact⟨c.below h.below (by omega) (by omega),by have:=c.size;omega,(c.block _ (by omega) (by omega)).trans h.hA,(c.block _ (by omega) (by omega)).trans h.hB,(c.block _ (by omega) (by omega)).trans h.hR,(c.block _ (by omega) (by omega)).trans h.hBo,(c.block _ (by omega) (by omega)).trans h.hP⟩
def ak (w:World) (C:Array Value) (t:TypeId) (k:Nat) (a:k=w.heap.size):(w.alloc (.cells C t)).heap[k]?=some (.cells C t (0,0)):=by subst a;exact IP w _
def aL.trans {k A B C} (h:aL k A B) (g:aL k B C):aL k A C:=⟨g.os.trans h.os,g.tape.trans h.tape,g.output.trans h.output,bg h.size g.size,fun b c a=>(g.block b (by have:=h.size;omega) a).trans (h.block b c a)⟩
def Cr.pad {n w a b f g d W e} (h:Cr n w a b f g W) (c:aL (n+1+1+1+1) W e) (i:e.heap[n+1+1+1+1]?=some (.cells d 221 (0,0))):Cr n w a b f d e:=by have:=h.size;exact⟨c.below h.below (by omega) (by omega),by have:=c.size;omega,(c.block _ (by omega) (by omega)).trans h.hA,(c.block _ (by omega) (by omega)).trans h.hB,(c.block _ (by omega) (by omega)).trans h.hR,(c.block _ (by omega) (by omega)).trans h.hBo,i⟩
def M7 (a b):(splice (splice (rep 64).toList 0 (ae 32 (fun _=> .u8) a)).toArray.toList 32 (ae 32 (fun _=> .u8) b)).toArray=(ae 64 (fun _=> .u8) (tt a b)).toArray:=by
 have g:(rep 64).toList.length=64:=rfl;have f:=ac 32 (fun _=>CK.u8) a;have e:=ac 32 (fun _=>CK.u8) b;have d:(splice (rep 64).toList 0 (ae 32 (fun _=> .u8) a)).length=64:=li (by rw[g,f];omega)
 have i:∀j,j<32→(splice (rep 64).toList 0 (ae 32 (fun _=> .u8) a))[j]?=some (.int .u8 (a j)):=fun j h=>by rw[lC (by rw[g,f];omega),an (by omega),f,aj (by omega),aN _ _ _ _ (by omega)];rfl
 generalize splice (rep 64).toList 0 (ae 32 (fun _=> .u8) a)=L at*;refine iW (by rw[cI,li (by rw[e];simp[d])];simpa using d) (fun j h=>?_);rw[fu,lC (by rw[e];simp[d]),e];unfold tt;by_cases c:j<32
 ·rw[aj c,aj c]
  exact i j c
 ·rw[an c,an c,aj (by omega),aN _ _ _ _ (by omega)]
def fQ {P d c o a w Q} (e x y) (u:o.guard=none) (q:o.op= .store e x y) (b k) (p:a.eval x= .pointer (some ⟨b,k,none⟩)) (f m) (n:a.eval y= .int f m) (l:(P.info? e).map (·.size)=some 1) (C t) (j:w.heap[b]?=some (.cells C t (0,0))) (r:k<C.size) (h:∀W,W.heap[b]?=some (.cells (C.setIfInBounds k (.int f m)) t (0,0))→aL b w W→wpList P d Q c (a.put o.dst undef) W):wpList P d Q (o::c) a w:=by
 refine aH u fun K A=>?_;have z:w.cell? ⟨b,k,none⟩=some C[k]:=(br w b k C _ _ j).trans (oL r);have v:=j' j k;cases g:P.info? e with
 |none=>simp[g]at l
 |some i=>
  have s:i.size=1:=by simpa[g]using l
  have hs:(Instr.storeAt e (.pointer (some ⟨b,k,none⟩)) (.int f m)).run P w= .ok () (w.setCell ⟨b,k,none⟩ (.int f m)):=by simp[Instr.storeAt,Instr.sureAddr,storeVar,storeCells,sizeOf,typeInfo,g,s,go_sem,z,v]
  unfold Oper.wp execOp;simp only[q,p,n,dN,hs,Result.andThen,Sem.run_pure,Oper.upon_skip];exact A _ _ (h _ (xJ j _) ((⟨rfl,rfl,rfl,cD _,fun _ _ _=>rfl⟩:aL b w w).setCell _ _))
def cY.range {w} (h:cY w):w.rangeAt 0 0 ip.cells:=fun j v a=>by have b:j<8:=(io.1 a).1;have:=ip.ot j b;rw[fu,a]at this;rw[bY,h.start j b,this]
def Hs.z8 (s:Hs):s.cells.toArray.all (·.oneCell')=true:=by
 rw[IR];intro v a;have:v∈s.cells:=by simpa using a
 simp only[Hs.cells,mF,vJ,vH]at this;rcases this with rfl|rfl|rfl|rfl|rfl|rfl|rfl|rfl<;>rfl
def aL.refl (k W):aL k W W:=⟨rfl,rfl,rfl,cD _,fun _ _ _=>rfl⟩
def U2 {a b} (ha:fY a) (c:fY b) (j) (d:j<64):mD (tt a b j):=by
 unfold tt;split
 ·exact ha j ‹_›
 ·exact c _ (by omega)
def Wx (j):mD (GL j):=by
 unfold mD GL;split
 ·omega
 ·split<;>omega
def Wu (j) (c:j<64):(((rep 64).setIfInBounds 0 (.int .u8 128)).setIfInBounds 62 (.int .u8 2))[j]?=some (.int .u8 (GL j)):=by
 simp only[th,NT];have hs:(rep 64).size=64:=rfl;unfold GL;by_cases a:62=j
 ·subst a;rw[aj rfl,aj (by decide)];rfl
 rw[an a];by_cases b:0=j
 ·subst b;rw[aj rfl,aj (by decide)];rfl
 rw[an b,an (by omega),an (by omega)];simp[c]
def S9:rowB prog 224 8=true:=by kernel_rfl
def cR:(prog.info? 5).map (·.size)=some 1:=by kernel_rfl
def xS (a b) (ha:fY a) (U:fY b) (w) (Y:cY w):
 Calls prog 107 #[.agg (ax a),.agg (ax b)] w fun e w'=>e= .returned (.agg (ax (gX a b)))∧Below w.heap.size w w':=by
 have g:=aa Y;have M:=aa ha;have vB:=aa U;clear Y ha U
 go_enter func107,ntmps107
 go_wp2;refine bO (Cr w.heap.size w a b (rep 64) (rep 64)) ⟨?_,by simp,?_,?_,?_,?_,?_⟩ ?_
 ·exact((((dt.alloc (by simp) _).alloc (by simp;omega) _).alloc (by simp;omega) _).alloc (by simp;omega) _)
 ·exact aR _ _ _ _ (aR _ _ _ _ (aR _ _ _ _ (aR _ _ _ _ (ak _ _ _ _ rfl))))
 ·exact aR _ _ _ _ (aR _ _ _ _ (aR _ _ _ _ (ak _ _ _ _ (by simp))))
 ·exact aR _ _ _ _ (aR _ _ _ _ (ak _ _ _ _ (by simp)))
 ·exact aR _ _ _ _ (ak _ _ _ _ (by simp))
 ·exact ak _ _ _ _ (by simp)
 intro W hW;refine dQ (S:=aL (w.heap.size+1+1+1) W) (by kernel_rfl) ?_;have G:=aL.begin (w.heap.size+1+1+1) W;refine kg 0 1 (.slice (some ⟨w.heap.size+1+1+1,0,none⟩) 32 64) (.slice (some ⟨w.heap.size,0,none⟩) 32 32) rfl (by kernel_rfl) (fun _=>by kernel_rfl) bH ‹_› ?_;go_frame;refine cQ (i:=2) rfl (by kernel_rfl) rfl (ja (.tmp 8) (.tmp 9) 39 39 rfl 5 bF cR (w.heap.size+1+1+1) 0 w.heap.size 0 32 64 32 32 rfl rfl (rep 64) 221 hW.hBo (ae 32 (fun _=> .u8) a) (by simp[ae]) (aE hW.hA) (by simp[ae]) (fun v C=>IR.1 (aA 32 (fun _=> .u8) a) v (by simpa using C)) ?_);intro m T B;refine⟨(aL.begin _ W).trans B,?_⟩;go_frame;refine dM (by kernel_rfl) ?_ _;simp only[Exit.then];rename_i K Z;refine Z _ _ ?_;clear Z K;have z:=hW.both ((aL.begin _ W).trans B) T;clear hW G B T W;refine ij ?_;refine dQ (S:=aL (w.heap.size+1+1+1) m) (by kernel_rfl) ?_;have G:=aL.begin (w.heap.size+1+1+1) m;refine kg 0 1 (.slice (some ⟨w.heap.size+1+1+1,32,none⟩) 32 32) (.slice (some ⟨w.heap.size+1,0,none⟩) 32 32) rfl (by kernel_rfl) (fun _=>by kernel_rfl) bH ‹_› ?_;go_frame;refine cQ (i:=2) rfl (by kernel_rfl) rfl (ja (.tmp 11) (.tmp 12) 39 39 rfl 5 bF cR (w.heap.size+1+1+1) 32 (w.heap.size+1) 0 32 32 32 32 rfl rfl _ 221 z.hBo (ae 32 (fun _=> .u8) b) (by simp[ae]) (aE z.hB) (by simp[ae,splice]) (fun v C=>IR.1 (aA 32 (fun _=> .u8) b) v (by simpa using C)) ?_);intro W2 R A;refine⟨(aL.begin _ m).trans A,?_⟩;go_frame;refine dM (by kernel_rfl) ?_ _;simp only[Exit.then];have F:=z.both ((aL.begin _ m).trans A) R;rw[M7]at F;clear z G A R m;have X:=aa F;clear F
 go_wp2_with (first
  |refine al 5 ?_;refine fQ 5 _ _ rfl rfl (w.heap.size+1+1+1+1) 0 rfl .u8 _ rfl (by kernel_rfl) (rep 64) 221 X.out.hP (by decide) (fun W3 kP xf=>?_);have V:=X.out.pad xf kP
  |refine al 5 ?_;refine fQ 5 _ _ rfl rfl (w.heap.size+1+1+1+1) 62 rfl .u8 _ rfl (by kernel_rfl) _ 221 V.hP (by decide) (fun l re E3=>?_);have E:=aa (V.pad E3 re)
  |refine ag 223 ?_;refine ab (by rfl) _ (ar _ 223 _ (by rfl) 0 0 (by rfl) ip.cells _ (cY.range (g.out.below g.out.size E.out.below)) IU rfl (by kernel_rfl)) ?_
  |refine ao 224 ?_;refine aw rfl rfl 224 7 _ rfl rfl rfl ip.cells.toArray rfl rfl (zeroOf prog 224) (aG S9).1 (aG S9).2 (Hs.z8 _) ?_
   have D:=E.out.size;refine bZ (fun h=>Cr w.heap.size w a b _ _ h∧h.heap[l.heap.size]?=some (.cells ip.cells.toArray 224 (0,0))) ⟨E.out.later (k:=l.heap.size) ((aL.refl _ _).alloc (.cells ip.cells.toArray 224)) D,ak _ _ _ _ rfl⟩ ?_;rintro h ⟨s,u⟩;have y:=aa s;have vD:=aa u;clear s u;have xl:=aa (Ox l.heap.size (w.heap.size+1+1+1) 0 64 64 (tt a b) ip ip.cells.toArray 224 h (by decide) (by decide) (fun j f=>⟨(br h _ _ _ _ _ y.out.hBo).trans (by rw[bY,fu,aN _ _ _ _ f];rfl),U2 M.out vB.out j f⟩) (by have:=y.out.size;omega) (g.out.below g.out.size y.out.below).round vD.out (Hs.ot _))
  |with_reducible refine xl.out.mono ?_
   rintro e W6 ⟨rfl,H6,r,hs6,o,L⟩;have d:=aa (y.out.later L D);have P:=aa r;have I:=aa o;clear r o;have VE:=aa (Ox l.heap.size (w.heap.size+1+1+1+1) 0 64 64 GL (ip.mix (iN (tt a b))) H6 224 W6 (by decide) (by decide) (fun j f=>⟨(br W6 _ _ _ _ _ d.out.hP).trans (by rw[bY];exact Wu j f),Wx j⟩) (by have:=d.out.size;omega) (g.out.below g.out.size d.out.below).round P.out (fun j f=>(I.out j).trans (aj f)))
  |with_reducible refine VE.out.mono ?_
   rintro e W7 ⟨rfl,H7,q,hs7,n,J⟩;have c:=aa (d.out.later J D);have O:=aa q;have H:=aa n;clear q n;have O2:=aa (PD l.heap.size ((ip.mix (iN (tt a b))).mix (iN GL)) H7 224 W7 O.out (fun j f=>(H.out j).trans (aj f)))
  |with_reducible refine O2.out.mono ?_
   rintro e W8 ⟨rfl,p⟩;have N:=aa ((p.block _ (by have:=c.out.size;omega)).trans c.out.hR);have Q:=aa (c.out.below.trans (p.mono (by have:=c.out.size;omega)))
  |refine al 25 ?_;refine aq 25 _ _ rfl rfl (w.heap.size+1+1) rfl _ rfl (aA _ _ _) (by rw[ah am];simp[ae]) _ 25 N.out (by simp[ae]) (by omega) Q.out (fun W9 gM dY _=>?_))
 exact fF rfl (w.heap.size+1+1) 0 (ae 32 (fun _=> .u8) (gX a b)) _ rfl gM cH rfl (by rw[ah am,ac]) rfl ⟨rfl,dY⟩
def SI (x k) (c:1≤k) (b:k≤31) (w):
 Calls prog 194 #[.int .u32 (wi x),.int .u64 k] w fun e a=>e= .returned (.int .u32 (wi (rk x k)))∧a=w:=by
 obtain⟨m,rfl⟩:=Int.eq_ofNat_of_zero_le (show 0≤k by omega);exact Ws x m (by omega) w
def ado (d c a b n:Nat) (u:Nat→Value):Act:={tmps:=#[u 0,.slice (some ⟨d,c,none⟩) a b,.pointer (some ⟨n,0,none⟩),u 3,.pointer (some ⟨n+1,0,none⟩),.pointer (some ⟨n+1+1,0,none⟩),.int .i64 0,u 7,u 8,u 9,u 10,u 11,u 12,u 13,u 14,u 15,u 16,u 17,u 18,u 19,u 20,u 21,u 22,u 23,u 24,u 25,u 26,u 27,u 28,u 29,u 30,u 31,u 32,u 33,u 34,u 35,u 36,u 37,u 38,u 39,u 40,u 41,u 42,u 43,u 44,u 45,u 46,u 47,u 48,u 49,u 50,u 51,u 52,u 53,u 54,u 55,u 56,u 57,u 58,u 59,u 60,u 61,u 62,u 63,u 64,u 65,u 66,u 67,u 68,u 69,u 70,u 71,u 72,u 73,u 74,u 75,u 76,u 77,u 78,u 79,u 80,u 81,u 82,u 83,u 84,u 85,u 86,u 87,u 88,u 89,u 90,u 91,u 92,u 93,u 94,u 95,u 96,u 97,u 98,u 99,u 100,u 101,u 102,u 103,u 104,u 105,u 106,u 107,u 108,u 109,u 110,u 111,u 112,u 113,u 114,u 115,u 116,u 117,u 118,u 119,u 120,u 121,u 122,u 123,u 124,u 125,u 126,u 127,u 128,u 129,u 130,u 131,u 132,u 133,u 134,u 135,u 136,u 137,u 138,u 139,u 140,u 141,u 142,u 143,u 144,u 145,u 146,u 147,u 148,u 149,u 150,u 151,u 152,u 153,u 154,u 155,u 156,u 157,u 158,u 159,u 160,u 161,u 162,u 163,u 164,u 165,u 166,u 167,u 168,u 169,u 170,u 171,u 172,u 173,u 174,u 175,u 176,u 177,u 178,u 179,u 180,u 181,u 182,u 183,u 184,u 185,u 186,u 187,u 188,u 189,u 190,u 191,u 192,u 193,u 194,u 195,u 196,u 197,u 198,u 199,u 200,u 201,u 202,u 203,u 204,u 205,u 206,u 207,u 208,u 209,u 210,u 211,u 212],defers:=[]}
def Wf (d c a b n:Nat) (u:Nat→Value):Act:={tmps:=#[u 0,.slice (some ⟨d,c,none⟩) a b,.pointer (some ⟨n,0,none⟩),u 3,.pointer (some ⟨n+1,0,none⟩),.pointer (some ⟨n+1+1,0,none⟩),u 6,u 7,u 8,u 9,u 10,u 11,u 12,u 13,u 14,u 15,u 16,u 17,u 18,u 19,u 20,u 21,u 22,u 23,u 24,u 25,u 26,u 27,u 28,u 29,u 30,u 31,u 32,u 33,u 34,u 35,u 36,u 37,u 38,u 39,u 40,u 41,u 42,u 43,u 44,u 45,u 46,u 47,u 48,u 49,u 50,u 51,u 52,u 53,u 54,u 55,u 56,u 57,u 58,u 59,u 60,u 61,u 62,u 63,u 64,u 65,u 66,u 67,u 68,u 69,u 70,u 71,u 72,u 73,u 74,u 75,u 76,u 77,u 78,u 79,u 80,u 81,u 82,u 83,u 84,u 85,u 86,u 87,u 88,u 89,u 90,u 91,u 92,u 93,u 94,u 95,u 96,u 97,u 98,u 99,u 100,u 101,u 102,u 103,u 104,u 105,u 106,u 107,u 108,u 109,u 110,u 111,u 112,u 113,u 114,u 115,u 116,u 117,u 118,u 119,u 120,u 121,u 122,u 123,u 124,u 125,u 126,u 127,u 128,u 129,u 130,u 131,u 132,u 133,u 134,u 135,u 136,u 137,u 138,u 139,u 140,u 141,u 142,u 143,u 144,u 145,u 146,u 147,u 148,u 149,u 150,u 151,u 152,u 153,u 154,u 155,u 156,u 157,u 158,u 159,u 160,u 161,u 162,u 163,u 164,u 165,u 166,u 167,u 168,u 169,u 170,u 171,u 172,u 173,u 174,u 175,u 176,u 177,u 178,u 179,u 180,u 181,u 182,u 183,u 184,u 185,u 186,u 187,u 188,u 189,u 190,u 191,u 192,u 193,u 194,u 195,u 196,u 197,u 198,u 199,u 200,u 201,u 202,u 203,u 204,u 205,u 206,u 207,u 208,u 209,u 210,u 211,u 212],defers:=[]}
def adn (d c a b n:Nat) (u:Nat→Value):Act:={tmps:=#[u 0,.slice (some ⟨d,c,none⟩) a b,.pointer (some ⟨n,0,none⟩),u 3,.pointer (some ⟨n+1,0,none⟩),.pointer (some ⟨n+1+1,0,none⟩),u 6,.int .i64 16,u 8,u 9,u 10,u 11,u 12,u 13,u 14,u 15,u 16,u 17,u 18,u 19,u 20,u 21,u 22,u 23,u 24,u 25,u 26,u 27,u 28,u 29,u 30,u 31,u 32,u 33,u 34,u 35,u 36,u 37,u 38,u 39,u 40,u 41,u 42,u 43,u 44,u 45,u 46,u 47,u 48,u 49,u 50,u 51,u 52,u 53,u 54,u 55,u 56,u 57,u 58,u 59,u 60,u 61,u 62,u 63,u 64,u 65,u 66,u 67,u 68,u 69,u 70,u 71,u 72,u 73,u 74,u 75,u 76,u 77,u 78,u 79,u 80,u 81,u 82,u 83,u 84,u 85,u 86,u 87,u 88,u 89,u 90,u 91,u 92,u 93,u 94,u 95,u 96,u 97,u 98,u 99,u 100,u 101,u 102,u 103,u 104,u 105,u 106,u 107,u 108,u 109,u 110,u 111,u 112,u 113,u 114,u 115,u 116,u 117,u 118,u 119,u 120,u 121,u 122,u 123,u 124,u 125,u 126,u 127,u 128,u 129,u 130,u 131,u 132,u 133,u 134,u 135,u 136,u 137,u 138,u 139,u 140,u 141,u 142,u 143,u 144,u 145,u 146,u 147,u 148,u 149,u 150,u 151,u 152,u 153,u 154,u 155,u 156,u 157,u 158,u 159,u 160,u 161,u 162,u 163,u 164,u 165,u 166,u 167,u 168,u 169,u 170,u 171,u 172,u 173,u 174,u 175,u 176,u 177,u 178,u 179,u 180,u 181,u 182,u 183,u 184,u 185,u 186,u 187,u 188,u 189,u 190,u 191,u 192,u 193,u 194,u 195,u 196,u 197,u 198,u 199,u 200,u 201,u 202,u 203,u 204,u 205,u 206,u 207,u 208,u 209,u 210,u 211,u 212],defers:=[]}
def adm (k j h i n:Nat) (s:Hs) (u:Nat→Value):Act:={tmps:=#[u 0,.slice (some ⟨k,j,none⟩) h i,.pointer (some ⟨n,0,none⟩),u 3,.pointer (some ⟨n+1,0,none⟩),.pointer (some ⟨n+1+1,0,none⟩),u 6,u 7,u 8,u 9,.int .u32 (wi s.a),.int .u32 (wi s.b),.int .u32 (wi s.c),.int .u32 (wi s.d),.int .u32 (wi s.e),.int .u32 (wi s.f),.int .u32 (wi s.g),.int .u32 (wi s.l),.int .i64 0,u 19,u 20,u 21,u 22,u 23,u 24,u 25,u 26,u 27,u 28,u 29,u 30,u 31,u 32,u 33,u 34,u 35,u 36,u 37,u 38,u 39,u 40,u 41,u 42,u 43,u 44,u 45,u 46,u 47,u 48,u 49,u 50,u 51,u 52,u 53,u 54,u 55,u 56,u 57,u 58,u 59,u 60,u 61,u 62,u 63,u 64,u 65,u 66,u 67,u 68,u 69,u 70,u 71,u 72,u 73,u 74,u 75,u 76,u 77,u 78,u 79,u 80,u 81,u 82,u 83,u 84,u 85,u 86,u 87,u 88,u 89,u 90,u 91,u 92,u 93,u 94,u 95,u 96,u 97,u 98,u 99,u 100,u 101,u 102,u 103,u 104,u 105,u 106,u 107,u 108,u 109,u 110,u 111,u 112,u 113,u 114,u 115,u 116,u 117,u 118,u 119,u 120,u 121,u 122,u 123,u 124,u 125,u 126,u 127,u 128,u 129,u 130,u 131,u 132,u 133,u 134,u 135,u 136,u 137,u 138,u 139,u 140,u 141,u 142,u 143,u 144,u 145,u 146,u 147,u 148,u 149,u 150,u 151,u 152,u 153,u 154,u 155,u 156,u 157,u 158,u 159,u 160,u 161,u 162,u 163,u 164,u 165,u 166,u 167,u 168,u 169,u 170,u 171,u 172,u 173,u 174,u 175,u 176,u 177,u 178,u 179,u 180,u 181,u 182,u 183,u 184,u 185,u 186,u 187,u 188,u 189,u 190,u 191,u 192,u 193,u 194,u 195,u 196,u 197,u 198,u 199,u 200,u 201,u 202,u 203,u 204,u 205,u 206,u 207,u 208,u 209,u 210,u 211,u 212],defers:=[]}
def adl (k j h i n:Nat) (s:Hs) (u:Nat→Value):Act:={tmps:=#[u 0,.slice (some ⟨k,j,none⟩) h i,.pointer (some ⟨n,0,none⟩),u 3,.pointer (some ⟨n+1,0,none⟩),.pointer (some ⟨n+1+1,0,none⟩),u 6,u 7,u 8,u 9,.int .u32 (wi s.a),.int .u32 (wi s.b),.int .u32 (wi s.c),.int .u32 (wi s.d),.int .u32 (wi s.e),.int .u32 (wi s.f),.int .u32 (wi s.g),.int .u32 (wi s.l),u 18,u 19,u 20,u 21,u 22,u 23,u 24,u 25,u 26,u 27,u 28,u 29,u 30,u 31,u 32,u 33,u 34,u 35,u 36,u 37,u 38,u 39,u 40,u 41,u 42,u 43,u 44,u 45,u 46,u 47,u 48,u 49,u 50,u 51,u 52,u 53,u 54,u 55,u 56,u 57,u 58,u 59,u 60,u 61,u 62,u 63,u 64,u 65,u 66,u 67,u 68,u 69,u 70,u 71,u 72,u 73,u 74,u 75,u 76,u 77,u 78,u 79,u 80,u 81,u 82,u 83,u 84,u 85,u 86,u 87,u 88,u 89,u 90,u 91,u 92,u 93,u 94,u 95,u 96,u 97,u 98,u 99,u 100,u 101,u 102,u 103,u 104,u 105,u 106,u 107,u 108,u 109,u 110,u 111,u 112,u 113,u 114,u 115,u 116,u 117,u 118,u 119,u 120,u 121,u 122,u 123,u 124,u 125,u 126,u 127,u 128,u 129,u 130,u 131,u 132,u 133,u 134,u 135,u 136,u 137,u 138,u 139,u 140,u 141,u 142,u 143,u 144,u 145,u 146,u 147,u 148,u 149,u 150,u 151,u 152,u 153,u 154,u 155,u 156,u 157,u 158,u 159,u 160,u 161,u 162,u 163,u 164,u 165,u 166,u 167,u 168,u 169,u 170,u 171,u 172,u 173,u 174,u 175,u 176,u 177,u 178,u 179,u 180,u 181,u 182,u 183,u 184,u 185,u 186,u 187,u 188,u 189,u 190,u 191,u 192,u 193,u 194,u 195,u 196,u 197,u 198,u 199,u 200,u 201,u 202,u 203,u 204,u 205,u 206,u 207,u 208,u 209,u 210,u 211,u 212],defers:=[]}
def ie (n:Nat) (M:Nat→rT) (k:Nat) (w a:World):Prop:=∃C:Array Value,a.heap[n]?=some (.cells C 247 (0,0))∧C.size=64∧(∀j,j<k→C[j]?=some (.int .u32 (wi (M j))))∧Below n w a
def ie.step {n M k w a C} (f:a.heap[n]?=some (.cells C 247 (0,0))) (hs:C.size=64) (b:∀j,j<k→C[j]?=some (.int .u32 (wi (M j)))) (c:k<64) (d:Below n w a):
 ie n M (k+1) w (a.setCell ⟨n,k,none⟩ (.int .u32 (wi (M k)))):=by
 refine⟨C.setIfInBounds k (.int .u32 (wi (M k))),xJ f _,by simp[hs],fun j g=>?_,d.setCell (by simp) _⟩;by_cases e:j=k
 ·subst e
  simp[hs,c]
 ·rw[Cy (xD e)]
  exact b j (by omega)
noncomputable def OU:Code:=nb 0 Tryz.f189
noncomputable def J3:Code:=nb 2 Tryz.f189
noncomputable def GB:Code:=nb 4 Tryz.f189
def U6 {Q a} (r O b g n f w W) (hn:w.heap.size=n+1+1) (hl:64≤b) (Bf:b≤9223372036854775807) (Z:∀j,j<64→w.cell? ⟨r,O+j,none⟩=some (.int .u8 (f j))∧mD (f j)) (GG:r<w.heap.size) (ha:a=ado r O b g n (fun k=>a.tmps.getD k undef)) (hM:ie (n+1+1) (fh (iN f)) 0 w W) (hQ:∀a X,a=Wf r O b g n (fun k=>a.tmps.getD k undef)→ie (n+1+1) (fh (iN f)) 16 w X→Q .normal a X):OU.wp prog (Exit.inBlock 0 Q) a W:=by
 rw[ha];generalize (fun k=>a.tmps.getD k undef)=u;clear ha a;unfold ado;have c:=aa Z;clear Z;simp only[OU,nb,Tryz.f189,blockOf,reduceIte,Nat.reduceEqDiff]
 go_loopw [6] (fun i wr=>∃k:Nat,k≤16∧i= .int .i64 k∧ie (n+1+1) (fh (iN f)) k w wr) (fun i _=>16-(intOf i).toNat)
 case atStart=>exact⟨0,by omega,rfl,hM⟩
 case round=>
  obtain⟨k,hk,rfl,C,F,E,D,d⟩:=hrel;by_cases a8:k<16
  ·have N:=(c.out (4*k) (by omega)).1
   have M:=(c.out (4*k+1) (by omega)).1;have L:=(c.out (4*k+2) (by omega)).1;have K:=(c.out (4*k+3) (by omega)).1;rw[←d.cell (by simp only;omega)]at N M L K;generalize B:f (4*k)=J at N;generalize A:f (4*k+1)=I at M;generalize z:f (4*k+2)=H at L;generalize y:f (4*k+3)=G at K;have wa:IntKind.i64.wrap (4*(k:Int))=((4*k:Nat):Int):=by rw[bP];omega
   have h (j:Nat) (hj:j≤3):IntKind.i64.wrap (((4*k:Nat):Int)+j)=((4*k+j:Nat):Int):=by rw[bP];omega
   have V:=h 1 (by omega);have U:=h 2 (by omega);have T:=h 3 (by omega);have lk:(k:Int)<64:=by omega
   have l0:((4*k:Nat):Int)<b:=by omega
   have l1:((4*k+1:Nat):Int)<b:=by omega
   have l2:((4*k+2:Nat):Int)<b:=by omega
   have l3:((4*k+3:Nat):Int)<b:=by omega
   have p:=(c.out (4*k) (by omega)).2;have o:=(c.out (4*k+1) (by omega)).2;have m:=(c.out (4*k+2) (by omega)).2;have l:=(c.out (4*k+3) (by omega)).2;have hX:wi (fh (iN f) k)=wi (be4 J I H G):=by rw[BJ _ _ a8,iN,B,A,z,y]
   rw[B]at p;rw[A]at o;rw[z]at m;rw[y]at l;have v:=Tt p o m l;rw[←hX]at v;simp only[←nP]at v;have xa:IntKind.u32.wrap J=J:=by rw[nP];unfold mD at p;omega
   have S:IntKind.u32.wrap I=I:=by rw[nP];unfold mD at o;omega
   have R:IntKind.u32.wrap H=H:=by rw[nP];unfold mD at m;omega
   have P:IntKind.u32.wrap G=G:=by rw[nP];unfold mD at l;omega
   clear hX p o m l B A z y;have KV:=aa F;have u9:=aa E;have Cn:=aa D;clear h D E F;generalize ((4*k:Nat))=s at*;generalize s+1=m1 at*;generalize s+2=m2 at*;generalize s+3=m3 at*;simp only[Int.cast_ofNat_Int]at V U T;go_wp2
   go_still_tail 35,(by kernel_rfl)
   refine bZ (fun W=>W.heap[n+1+1]?=some (.cells C 247 (0,0))∧Below (n+1+1) w W) ⟨KV.out,⟨d.os,d.tape,d.output,d.size,d.block⟩⟩ ?_;rintro W2 ⟨q,ei⟩;have Y:=br W2 _ k C _ _ q;have hcf:=j' q k;rw[oL (show k<C.size by rw[u9.out];omega)]at Y;generalize C[k]'_=cv at Y;have ww:=aa q;clear q N M L K wa V U T l0 l1 l2 l3 v xa S R P;go_wp2
   go_round
   case rel=>exact⟨k+1,by omega,by go_num,ie.step ww.out u9.out Cn.out (by omega) ei⟩
   case measure=>simp[intOf];omega
  ·have e:k=16:=by omega
   subst e;go_wp2;exact hQ _ _ (by kernel_rfl) ⟨C,F,E,D,d⟩
def QT {Q a} (O N j r n M w W) (ha:a=adn O N j r n (fun k=>a.tmps.getD k undef)) (I:ie (n+1+1) (fh M) 16 w W) (Z:∀a F,a=Wf O N j r n (fun k=>a.tmps.getD k undef)→ie (n+1+1) (fh M) 64 w F→Q .normal a F):J3.wp prog (Exit.inBlock 2 Q) a W:=by
 rw[ha];generalize (fun k=>a.tmps.getD k undef)=u;clear ha a;unfold adn;simp only[J3,nb,Tryz.f189,blockOf,reduceIte,Nat.reduceEqDiff]
 go_loopw [7] (fun i wr=>∃k:Nat,16≤k∧k≤64∧i= .int .i64 k∧ie (n+1+1) (fh M) k w wr) (fun i _=>64-(intOf i).toNat)
 case atStart=>exact⟨16,by omega,by omega,rfl,I⟩
 case round=>
  obtain⟨k,h16,hk,rfl,C,f,v,d,g⟩:=hrel;by_cases Y:k<64
  ·obtain⟨m,rfl⟩:∃m,k=m+16:=⟨k-16,by omega⟩
   have c0:=(br wr _ m C _ _ f).trans (d m (by omega));have c1:=(br wr _ (m+1) C _ _ f).trans (d (m+1) (by omega));have c9:=(br wr _ (m+9) C _ _ f).trans (d (m+9) (by omega));have E:=(br wr _ (m+14) C _ _ f).trans (d (m+14) (by omega));have S:IntKind.i64.wrap (((m+16:Nat):Int)-16)=(m:Int):=by rw[bP];omega
   have R:IntKind.i64.wrap (((m+16:Nat):Int)-15)=((m+1:Nat):Int):=by rw[bP];omega
   have P:IntKind.i64.wrap (((m+16:Nat):Int)-7)=((m+9:Nat):Int):=by rw[bP];omega
   have y:IntKind.i64.wrap (((m+16:Nat):Int)-2)=((m+14:Nat):Int):=by rw[bP];omega
   have X:(m:Int)<64:=by omega
   have V:((m+1:Nat):Int)<64:=by omega
   have U:((m+9:Nat):Int)<64:=by omega
   have z:((m+14:Nat):Int)<64:=by omega
   have l16:((m+16:Nat):Int)<64:=by omega
   have l:=BK M m;have KV:=aa f;have L:=aa v;have Cn:=aa d;have A:=aa l;have G:=aa Y;clear f v d l I;generalize alD:m+16=b at*;generalize m+1=h at*;generalize m+9=T at*;generalize m+14=c at*;have ex:=GV;have ea:=LC;have eo:=IS;have ep:=CF;have B:=Oh;have D:=Jh;go_wp2;refine NP 29 (by kernel_rfl) (by kernel_rfl) ?_;simp only[List.take_succ_cons,List.take_zero,NJ,rZ]
   repeat (first
    |still_step
    |refine wpStill_step (fun K J=>?_)
     go_simp;refine⟨_,SI _ _ (by omega) (by omega) _,J _ ?_⟩
     clear J K)
   try refine wpStill_nil ?_
   refine bZ (fun W=>W.heap[n+1+1]?=some (.cells C 247 (0,0))∧Below (n+1+1) w W) ⟨KV.out,⟨g.os,g.tape,g.output,g.size,g.block⟩⟩ ?_;rintro W2 ⟨s,ei⟩;have H:=br W2 _ b C _ _ s;have hcf:=j' s b;rw[oL (show b<C.size by rw[L.out];exact G.out)]at H;generalize C[b]'_=cv at H;have ww:=aa s;have q:sg1 (fh M c)+fh M T+sg0 (fh M h)+fh M m=fh M b:=A.out.symm;have p:rk (fh M c) 17^^^rk (fh M c) 19^^^fh M c>>>10=sg1 (fh M c):=rfl;have o:rk (fh M h) 7^^^rk (fh M h) 18^^^fh M h>>>3=sg0 (fh M h):=rfl;rw[p,o,q];clear s c0 c1 c9 E S R P y X V U z ex ea eo ep B D q p o;go_wp2
   go_round
   case rel=>exact⟨b+1,by omega,by omega,by go_num,ie.step ww.out L.out Cn.out G.out ei⟩
   case measure=>simp[intOf];omega
  ·have e:k=64:=by omega
   subst e;go_wp2;exact Z _ _ (by kernel_rfl) ⟨C,f,v,d,g⟩
def M_ {Q a} (P O m o n h M w W) (N:∀t,t<64→w.cell? ⟨2,t,none⟩=some (.int .u32 (wi (tk t)))) (hn:3≤n) (ha:a=adm P O m o n h (fun k=>a.tmps.getD k undef)) (L:ie (n+1+1) (fh M) 64 w W) (hQ:∀a v,a=adl P O m o n (h.sR M 64) (fun k=>a.tmps.getD k undef)→ie (n+1+1) (fh M) 64 w v→Q .normal a v):GB.wp prog (Exit.inBlock 4 Q) a W:=by
 rw[ha];generalize (fun k=>a.tmps.getD k undef)=u;clear ha a;unfold adm;have I:=aa N;clear N;simp only[GB,nb,Tryz.f189,blockOf,reduceIte,Nat.reduceEqDiff]
 go_loopw [10,11,12,13,14,15,16,17,18] (fun H G F E D B A z i wr=>∃(t:Nat) (s:Hs),t≤64∧i= .int .i64 t∧s=h.sR M t∧H= .int .u32 (wi s.a)∧G= .int .u32 (wi s.b)∧F= .int .u32 (wi s.c)∧E= .int .u32 (wi s.d)∧D= .int .u32 (wi s.e)∧B= .int .u32 (wi s.f)∧A= .int .u32 (wi s.g)∧z= .int .u32 (wi s.l)∧ie (n+1+1) (fh M) 64 w wr) (fun _ _ _ _ _ _ _ _ i _=>64-(intOf i).toNat)
 case atStart=>exact⟨0,h,by omega,rfl,rfl,rfl,rfl,rfl,rfl,rfl,rfl,rfl,rfl,L⟩
 case round=>
  obtain⟨t,s,ht,rfl,hs,rfl,rfl,rfl,rfl,rfl,rfl,rfl,rfl,C,r,y,q,j⟩:=hrel;have J:=aa hs;clear hs L;by_cases K:t<64
  ·have c0:=(br wr _ t C _ _ r).trans (q t K)
   have ck:=(j.cell (p:=⟨2,t,none⟩) (by simp only;omega)).trans (I.out t K);have lt:(t:Int)<64:=by omega
   have KV:=aa r;have u9:=aa y;have Cn:=aa q;clear r y q;obtain⟨Z,Y,X,V,U,T,S,R⟩:=s
   dsimp only
   have ex:=GV;have ea:=LC;have eo:=IS;have ep:=CF;have en (x:rT):bits .xor .u32 (if IntKind.u32.signed=true then-1 else IntKind.u32.max) (wi x)=wi (~~~x):=Zy x;go_wp2
   go_big_quiet (exact Calls.quiet_of_same (SI _ _ (by omega) (by omega) _))
   go_wp2_with ((with_reducible refine(SI _ _ (by omega) (by omega) _).mono ?_);rintro e v ⟨rfl,rfl⟩)
   refine⟨⟨t+1,Hs.Xo ⟨Z,Y,X,V,U,T,S,R⟩ (tk t) (fh M t),by omega,by go_num,?_,rfl,rfl,rfl,rfl,rfl,rfl,rfl,rfl,C,KV.out,u9.out,Cn.out,⟨j.os,j.tape,j.output,j.size,j.block⟩⟩,by simp[intOf];omega⟩;show _=(h.sR M t).Xo _ _;rw[←J.out]
  ·have e:t=64:=by omega
   subst e;go_wp2;refine hQ _ _ ?_ ⟨C,r,y,q,j⟩;rw[←J.out]
   kernel_rfl
def LG:rowB prog 223 8=true:=by kernel_rfl
def ie.drewN {n M k w b} (h:ie n M k w b) (m):ie n M k w (b.drewN m):=by obtain⟨C,e,d,c,a⟩:=h;exact⟨C,e,d,c,⟨a.os,a.tape,a.output,a.size,a.block⟩⟩
def QS (y z n s:Nat) (f:Nat→Int) (h:Hs) (w) (hl:64≤n) (Bf:n≤9223372036854775807) (K:cY w) (I:∀j,j<64→w.cell? ⟨y,z+j,none⟩=some (.int .u8 (f j))∧mD (f j)) (GG:y<w.heap.size):
 Calls prog 189 #[.agg h.cells.toArray,.slice (some ⟨y,z,none⟩) n s] w fun e w'=>e= .returned (.agg (h.mix (iN f)).cells.toArray)∧Below w.heap.size w w':=by
 have D:=K.size;have B:h.mix (iN f)=h.add (h.sR (iN f) 64):=rfl;obtain⟨r,H⟩:∃r,r=h.sR (iN f) 64:=⟨_,rfl⟩;rw[B,←H];have Q0:=aa H;clear B H;obtain⟨m,A⟩:∃m,m=(w.alloc (.cells h.cells.toArray 223)).alloc (.cells (List.replicate 8 (Value.int .u32 0)).toArray 223):=⟨_,rfl⟩;have J:Below w.heap.size w m:=by rw[A];exact dt.alloc (by simp) _
 have Z:m.heap.size=w.heap.size+1+1:=by rw[A];simp
 have Ie:m.heap[w.heap.size]?=some (.cells h.cells.toArray 223 (0,0)):=by rw[A];exact aR _ _ _ _ (ak _ _ _ _ rfl)
 have BX:m.heap[w.heap.size+1]?=some (.cells (List.replicate 8 (Value.int .u32 0)).toArray 223 (0,0)):=by rw[A];exact ak _ _ _ _ (by simp)
 have C:∀j,j<64→m.cell? ⟨y,z+j,none⟩=some (.int .u8 (f j))∧mD (f j):=fun j v=>⟨(J.cell (by exact GG)).trans (I j v).1,(I j v).2⟩;have N:=aa (K.below D J);have M:=aa C;have EC:=aa Ie;have mc:=aa BX;clear I C K Ie BX
 go_enter func189,ntmps189
 go_wp2;refine U6 y z n s w.heap.size f m _ Z hl Bf M.out (by omega) (by kernel_rfl) ⟨_,ak _ _ _ _ (by simp),rfl,fun j v=>absurd v (by omega),by rw[←Z,A];exact dt⟩ ?_;intro a w3 ha Vm;rw[ha];generalize (fun k=>a.tmps.getD k undef)=u;clear ha a;unfold Wf;go_wp2;refine QT y z n s w.heap.size (iN f) m _ (by kernel_rfl) Vm ?_;clear Vm u w3;intro a o ha q;rw[ha];generalize (fun k=>a.tmps.getD k undef)=u;clear ha a;unfold Wf;obtain⟨C4,re,F,E,L⟩:=q;have q:=aa (⟨C4,re,F,E,L⟩:ie (w.heap.size+1+1) (fh (iN f)) 64 m o);have i (j:Nat) (v:j<8):o.cell? ⟨w.heap.size,j,none⟩=some (.int .u32 (wi (h.at j))):=(L.cell (by simp only;omega)).trans ((br m w.heap.size j _ _ _ EC.out).trans (Hs.ot _ _ v));have Y:o.cell? ⟨w.heap.size,0,none⟩=some (.int .u32 (wi h.a)):=i 0 (by omega);have X:o.cell? ⟨w.heap.size,1,none⟩=some (.int .u32 (wi h.b)):=i 1 (by omega);have W:o.cell? ⟨w.heap.size,2,none⟩=some (.int .u32 (wi h.c)):=i 2 (by omega);have V:o.cell? ⟨w.heap.size,3,none⟩=some (.int .u32 (wi h.d)):=i 3 (by omega);have U:o.cell? ⟨w.heap.size,4,none⟩=some (.int .u32 (wi h.e)):=i 4 (by omega);have T:o.cell? ⟨w.heap.size,5,none⟩=some (.int .u32 (wi h.f)):=i 5 (by omega);have S:o.cell? ⟨w.heap.size,6,none⟩=some (.int .u32 (wi h.g)):=i 6 (by omega);have R:o.cell? ⟨w.heap.size,7,none⟩=some (.int .u32 (wi h.l)):=i 7 (by omega);clear i re F E;go_wp2
 go_big_quiet (fail)
 go_wp2;refine M_ y z n s w.heap.size h (iN f) m _ N.out.consts D (by kernel_rfl) (ie.drewN q.out _) ?_;clear Y X W V U T S R L q u o;intro a p ha ⟨C5,BZ,P,O,G⟩;rw[←Q0.out]at ha;rw[ha];generalize (fun k=>a.tmps.getD k undef)=u;clear ha a;unfold adl;have i (j:Nat) (v:j<8):p.cell? ⟨w.heap.size,j,none⟩=some (.int .u32 (wi (h.at j))):=(G.cell (by simp only;omega)).trans ((br m w.heap.size j _ _ _ EC.out).trans (Hs.ot _ _ v));have Y:p.cell? ⟨w.heap.size,0,none⟩=some (.int .u32 (wi h.a)):=i 0 (by omega);have X:p.cell? ⟨w.heap.size,1,none⟩=some (.int .u32 (wi h.b)):=i 1 (by omega);have W:p.cell? ⟨w.heap.size,2,none⟩=some (.int .u32 (wi h.c)):=i 2 (by omega);have V:p.cell? ⟨w.heap.size,3,none⟩=some (.int .u32 (wi h.d)):=i 3 (by omega);have U:p.cell? ⟨w.heap.size,4,none⟩=some (.int .u32 (wi h.e)):=i 4 (by omega);have T:p.cell? ⟨w.heap.size,5,none⟩=some (.int .u32 (wi h.f)):=i 5 (by omega);have S:p.cell? ⟨w.heap.size,6,none⟩=some (.int .u32 (wi h.g)):=i 6 (by omega);have R:p.cell? ⟨w.heap.size,7,none⟩=some (.int .u32 (wi h.l)):=i 7 (by omega);have KT:=aa ((G.block (w.heap.size+1) (by omega)).trans mc.out);have Q:=aa (J.trans (G.mono (by omega)));clear i BZ P O G;have ep:=CF
 go_wp2_with (
  ((with_reducible refine al 223 ?_);refine aq 223 (.tmp 4) (.tmp 212) rfl rfl (w.heap.size+1) (by kernel_rfl) (h.add r).cells.toArray (by kernel_rfl) (Hs.z8 _) (ah LG) _ 223 KT.out rfl (by omega) Q.out (fun W9 gM dY _=>?_)))
 exact fF rfl (w.heap.size+1) 0 (h.add r).cells _ (by kernel_rfl) gM IU rfl (ah LG) rfl ⟨rfl,dY⟩
def bc (a:Nat) (v:Value) (l:List Int) (w:World):Prop:=w.ownsRow a 5 1 v l.length (l.map (Value.int .u8))
def bc.later {a v l w e} (h:bc a v l w) (i:Below w.heap.size w e):bc a v l e:=by
 refine⟨h.1,?_⟩;rcases h.2 with hn|⟨g,d,b,m,k,f,j⟩
 ·exact Or.inl hn
 ·exact Or.inr ⟨g,d,b,m,k,(i.block g (by
   by_cases c:g<w.heap.size
   ·exact c
   ·simp[AC (vI c)]at f)).trans f,j⟩
def bc.row {b v l w} (h:bc b v l w) (hl:∀n∈l,CK.ok .u8 n):∃k c,v= .slice k l.length c∧Row w k .u8 l∧l.length≤c:=by
 rcases h.2 with⟨f,m⟩|⟨g,j,a,f,m,r,q,u,s,p⟩
 ·have o:l=[]:=Ay m
  subst o;exact⟨none,0,by simpa using f,⟨fun i d=>absurd d (by simp),hl⟩,by simp⟩
 ·refine⟨some ⟨g,0,none⟩,j,f,⟨fun i d=>⟨g,0,rfl,?_⟩,hl⟩,q⟩
  rw[br w g (0+i) a _ _ r,bY]
  have e:(a.toList.take (l.length*1))[i]?=some (.int .u8 (l.getD i 0)):=by rw[p];simp[List.getD,d]
  rw[nO (by omega)]at e;simpa[CK.mk]using e
def bc.nil (a w):bc a (.slice none 0 0) [] w:=⟨rfl,Or.inl ⟨rfl,rfl⟩⟩
def bc.new {a w k} (b:a≤k) (l) (hl:l.length≤maxLen) (h:w.heap[k]?=some (.cells (l.map (Value.int .u8)).toArray 5 (0,0))):bc a (.slice (some ⟨k,0,none⟩) l.length l.length) l w:=⟨by simp,Or.inr ⟨k,l.length,_,rfl,b,h,cD _,hl,by simp,by simp[kL]⟩⟩
def WT:∃i,prog.info? 5=some i∧i.zero=some (.int .u8 0)∧i.size=1∧i.bytes=1:=by
 have h:(prog.info? 5).map (fun i=>(i.zero,i.size,i.bytes))=some (some (.int .u8 0),1,1):=by kernel_rfl
 cases a:prog.info? 5 with
 |none=>simp[a]at h
 |some i=>simp only[a,Option.map_some,xC,Prod.mk.injEq]at h;exact⟨i,rfl,h.1,h.2.1,h.2.2⟩
def Ks {a v l w} (h:bc a v l w):∀k,v.ownBlock=some k→a≤k:=by
 intro k b;rcases h.2 with⟨c,_⟩|⟨g,e,d,c,f,_⟩
 ·rw[c]at b;simp[Value.ownBlock]at b
 ·rw[c]at b
  simp only[Value.ownBlock,xC]at b;omega
def tv {o:Oper} {a:Act} {w w0:World} {K:Act→World→Prop} {Q:Exit→Act→World→Prop} (s x:Operand)
 (z:o.op= .call {callee:= .builtin .append,args:=#[s,x],argTypes:=#[39,39]}) (d:Nat) (l m:List Int) (v:Value) (hs:a.eval s=v) (p:bc d v l w) (f:Option Addr) (c:Nat) (r:a.eval x= .slice f m.length c)
 (A:Row w f .u8 m) (F:l.length+m.length≤70368744177664) (q:d≤w.heap.size) (I:f=none→c=0) (D:Below d w0 w)
 (h:∀g W,bc d g (l++m) W→Below d w0 W→d≤W.heap.size→K (a.put o.dst g) W):o.wp prog a w K Q:=by
 obtain⟨i,C,H,J,O⟩:=WT;cases f with
 |none=>
  have M:m=[]:=by
   cases m with
   |nil=>rfl
   |cons y T=>obtain⟨b,G,e,_⟩:=A.cell 0 (by simp);cases e
  subst M;rw[I rfl]at r;have L:=St (P:=prog) (w:=w) d 39 o.type 5 i 1 bF C v l.length _ p;unfold Oper.wp;simp[execOp,z,resolve,invoke,builtin,hs,r,L,Result.andThen];exact h v w (by simpa using p) D q
 |some S=>
  refine wp_append_own (P:=prog) w s x 39 z d 5 i (.int .u8 0) 1 1 bF C H J O rfl (by decide) v l.length _ hs p S m.length c (m.map (Value.int .u8)) r (by simp) (fun j u k=>?_) (fun u k=>?_) (by unfold maxLen;omega) (by omega) q (fun g W R E _=>?_)
  ·have B:j<m.length:=by have:=(io.1 k).1;simpa using this
   obtain⟨b,G,e,N⟩:=A.cell j B;cases e;rw[Fl,N];rw[←k];simp[List.getD,B,CK.mk]
  ·obtain⟨n,_,rfl⟩:=ft.1 k
   rfl
  ·exact h g W (by unfold bc;simpa using R) (D.grown E q (Ks p)) (bg q E.size)
def cB {e d o a w w0 Q} (r:o.guard=none) (s x) (p:o.op= .call {callee:= .builtin .append,args:=#[s,x],argTypes:=#[39,39]}) (b l m v) (hs:a.eval s=v) (n:bc b v l w) (g c) (j:a.eval x= .slice g m.length c) (q:Row w g .u8 m) (f:l.length+m.length≤70368744177664) (u:b≤w.heap.size) (k:g=none→c=0) (y:Below b w0 w) (h:∀i W,bc b i (l++m) W→Below b w0 W→b≤W.heap.size→wpList prog e Q d (a.put o.dst i) W):wpList prog e Q (o::d) a w:=aH r fun _ z=>tv s x p b l m v hs n g c j q f u k y fun i W C B A=>z _ _ (h i W C B A)
def kf (n:Nat):Nat:=(119-n%64)%64
def KX (n:Nat):List Int:=(List.range 8).map fun j=>((n/2^(8*(7-j))%256:Nat):Int)
def qx (l:List Int):List Int:=l++[128]++List.replicate (kf l.length) 0++KX (8*l.length)
def uG (n):kf n<64∧(n+1+kf n)%64=56∧∀k,k<kf n→(n+1+k)%64≠56:=by unfold kf;refine⟨by omega,by omega,fun k a=>by omega⟩
def lenOf:Value→Nat
 | .slice _ n _=>n
 |_=>0
def bc.len {a v l w} (h:bc a v l w):∃d c,v= .slice d l.length c:=by
 rcases h.2 with⟨b,e⟩|⟨g,i,f,b,_⟩
 ·exact⟨none,0,by rw[e];exact b⟩
 ·exact⟨_,_,b⟩
def row_one (w C n b) (h:w.heap[b]?=some (.cells C 5 (0,0))) (d:C=#[.int .u8 n]) (hn:CK.ok .u8 n):Row w (some ⟨b,0,none⟩) .u8 [n]:=by
 subst d;refine⟨fun i c=>⟨b,0,rfl,?_⟩,fun m a=>by simpa using(by simpa using a:m=n)▸hn⟩;have:i=0:=by simpa using c
 subst this;rw[br w b _ _ _ _ h];rfl
def Mt (l o c w) (hl:l.length≤1099511627776) (U:Row w o .u8 l) (R:o=none→c=0):
 Calls prog 188 #[.slice o l.length c] w fun e O=>∃v,e= .returned v∧bc w.heap.size v (qx l) O∧Below w.heap.size w O:=by
 have T:=aa U;have Q:=aa R;clear U R
 go_enter func188,ntmps188
 go_wp2_with (first
  |refine be .append ?_;refine cB rfl (.tmp 6) (.tmp 7) rfl w.heap.size [] l _ rfl (bc.new bG [] (by decide) (ak _ _ _ _ rfl)) o c rfl (T.out.later dt) (by simp;omega) (by simp) Q.out dt ?_
   intro v1 W1 h1 b1 M
  |refine be .append ?_;refine cB rfl (.tmp 8) (.tmp 9) rfl w.heap.size _ [128] _ rfl (h1.later dt) _ 1 rfl (row_one _ _ 128 _ (ak _ _ _ _ rfl) rfl ⟨by decide,by decide⟩) (by simp;omega) (by simp;omega) (fun h=>by cases h) (b1.alloc M _) ?_
   intro v2 W2 h2 b2 K)
 have P:=uG l.length
 go_loopw [3] (fun v wr=>∃k:Nat,k≤kf l.length∧bc w.heap.size v (l++[128]++List.replicate k 0) wr∧Below w.heap.size w wr∧w.heap.size≤wr.heap.size) (fun v _=>l.length+1+kf l.length-lenOf v)
 case atStart=>exact⟨0,by omega,by simpa using h2,b2,K⟩
 case round=>
  obtain⟨k,W,b,hB,X⟩:=hrel;have z:(l++[128]++List.replicate k 0).length=l.length+1+k:=by simp;omega
  obtain⟨eR,c',r⟩:=b.len;rw[z]at r;have u:=aa b;clear b;subst r;by_cases p:k<kf l.length
  ·have nU:=P.2.2 k p
   have S:(((l.length+1+k:Nat):Int).tmod 64 !=56)=true:=by rw[E6,NL (by omega)];omega
   generalize y:l.length+1+k=N at*;clear nU
   go_wp2_with (first
    |refine be .append ?_;refine cB rfl (.tmp 15) (.tmp 16) rfl w.heap.size _ [0] _ rfl (u.out.later dt) _ 1 rfl (row_one _ _ 0 _ (ak _ _ _ _ rfl) rfl ⟨by decide,by decide⟩) (by simp;omega) (by simp;omega) (fun h=>by cases h) (hB.alloc X _) ?_
     intro v3 W3 d A q)
   have e3:l++[128]++List.replicate k 0++[0]=l++[128]++List.replicate (k+1) 0:=by rw[dA,←List.replicate_succ']
   rw[e3]at d;obtain⟨Yv,c3,C⟩:=d.len;refine⟨⟨k+1,by omega,d,A,q⟩,?_⟩;rw[C];show l.length+1+kf l.length-(l++[128]++List.replicate (k+1) 0).length<l.length+1+kf l.length-N;simp;omega
  ·have e:k=kf l.length:=by omega
   subst e
   have S:(((l.length+1+kf l.length:Nat):Int).tmod 64 !=56)=false:=by rw[bne_eq_false_iff_eq,NL (by omega)];omega
   generalize y:l.length+1+kf l.length=N at*;have E:IntKind.u64.wrap ((l.length:Int)*8)=((8*l.length:Nat):Int):=by rw[lP];omega
   have dG:IntKind.u64.wrap (l.length:Int)=(l.length:Int):=by rw[lP];omega
   go_wp2;have Z:=u.out;have g:qx l=l++[128]++List.replicate (kf l.length) 0++KX (8*l.length):=rfl;have D:=aa g;have n:(8*(l.length:Int))=((8*l.length:Nat):Int):=by omega
   rw[n];clear g n E dG S P u T Q h1 b1 M h2 b2 K;generalize hL:l++[128]++List.replicate (kf l.length) 0=L at*;have H:L.length=N:=z;have ut:N≤1099511627840:=by rw[←y];have:=(uG l.length).1;omega
   have hBm:8*l.length≤8796093022208:=by omega
   generalize 8*l.length=B at*;clear hL z p W y;generalize Value.bool (((N:Nat):Int)%64 !=56)=b14;generalize Value.int .i64 (((N:Nat):Int)%64)=b13
   go_loopw [3,5] (fun v i wr=>∃k:Nat,k≤8∧i= .int .i64 (7-(k:Int))∧bc w.heap.size v (L++(KX B).take k) wr∧Below w.heap.size w wr∧w.heap.size≤wr.heap.size) (fun _ i _=>(intOf i+1).toNat)
   case atStart=>exact⟨0,by omega,rfl,by simpa using Z,hB,X⟩
   case round=>
    obtain⟨k,W,rfl,b,m,wk⟩:=hrel;clear Z
    have a:(L++(KX B).take k).length=N+k:=by simp[H,KX];omega
    obtain⟨va4,c4,f⟩:=b.len;rw[a]at f;have Y:=aa b;clear b;subst f;by_cases p:k<8
    ·have rc:IntKind.i64.wrap (8*(7-(k:Int)))=((8*(7-k):Nat):Int):=by rw[bP];omega
     have Ee:IntKind.u64.wrap ((8*(7-k):Nat):Int)=((8*(7-k):Nat):Int):=by rw[lP];omega
     have r:IntKind.u8.wrap ((B:Int)/2^(8*(7-k)))=((B/2^(8*(7-k))%256:Nat):Int):=by
      rw[AB]
      push_cast
      rfl
     have j:CK.ok .u8 ((B/2^(8*(7-k))%256:Nat):Int):=⟨by omega,by omega⟩
     have V:(KX B).take (k+1)=(KX B).take k++[((B/2^(8*(7-k))%256:Nat):Int)]:=by
      have nV:k<(KX B).length:=by simpa[KX]using p
      rw[List.take_succ_eq_append_getElem nV];simp[KX]
     have Z8:=aa V;have F:=aa j;have hsh:((8*(7-k):Nat):Int)<64:=by omega
     have hJ:0≤7-(k:Int):=by omega
     have hJ7:7-(k:Int)≤7:=by omega
     clear V j;generalize B/2^(8*(7-k))%256=bv at*;generalize I:7-(k:Int)=J at*;generalize 8*(7-k)=sh at*
     go_wp2_with (first
      |refine be .append ?_;refine cB rfl (.tmp 26) (.tmp 33) rfl w.heap.size _ [(bv:Int)] _ rfl (Y.out.later dt) _ 1 rfl (row_one _ _ bv _ (ak _ _ _ _ rfl) (by rfl) F.out) (by rw[a];simp;omega) (by simp;omega) (fun h=>by cases h) (m.alloc wk _) ?_
       intro v3 W3 d A q)
     rw[dA,←Z8.out]at d;refine⟨⟨k+1,by omega,by rw[←I];congr 1;omega,d,A,q⟩,?_⟩;simp[intOf];omega
    ·have e:k=8:=by omega
     subst e;have s:=Y.out;rw[show (KX B).take 8=KX B from kL (by simp[KX]),←D.out]at s;have G:=aa s;clear s;go_wp2
     go_ret
     exact⟨_,rfl,G.out,m⟩
def ji (s:Hs) (f:Nat→Int):Nat→Hs
 |0=>s
 |k+1=>(ji s f k).mix (iN fun j=>f (64*k+j))
def rJ (s f k):ji s f (k+1)=(ji s f k).mix (iN fun j=>f (64*k+j)):=rfl
def Hs.kl (s:Hs):s.cells.toArray.size=8:=rfl
def FD (s:Hs):(prog.info? 223).map (·.size)=some s.cells.toArray.size:=by rw[Hs.kl];exact ah LG
def G0 (l:List Int):Nat→Int:=iQ (ji ip (fun j=>(qx l).getD j 0) ((qx l).length/64))
def aaq (n):∀m∈KX n,CK.ok .u8 m:=by intro m a;obtain⟨j,_,rfl⟩:=ft.1 a;exact⟨by omega,by omega⟩
def Wv {l} (h:∀m∈l,CK.ok .u8 m):∀m∈qx l,CK.ok .u8 m:=by
 intro m a;unfold qx at a;simp only[iD,jJ]at a;rcases a with((a|a)|a)|a
 ·exact h m a
 ·subst a;exact⟨by decide,by decide⟩
 ·obtain rfl:=Sr a;exact⟨by decide,by decide⟩
 ·exact aaq _ m a
def ub (l):(qx l).length=l.length+1+kf l.length+8:=by simp[qx,KX];omega
def Ww (l):(qx l).length%64=0∧64≤(qx l).length:=by rw[ub];have:=uG l.length;omega
def wp_store_row {P:Program} {o:Oper} {a:Act} {w:World} {K:Act→World→Prop} {Q:Exit→Act→World→Prop} (k:TypeId) (x y:Operand) (A:o.op= .store k x y) (b:Nat) (u:a.eval x= .pointer (some ⟨b,0,none⟩)) (d:Array Value) (s:a.eval y= .agg d) (e:d.all (·.oneCell')=true)
 (r:(P.info? k).map (·.size)=some d.size) (C:Array Value) (t:TypeId) (l:w.heap[b]?=some (.cells C t (0,0))) (D:C.size=d.size)
 (h:∀W,W.heap[b]?=some (.cells d t (0,0))→aL b w W→K (a.put o.dst undef) W):o.wp P a w K Q:=by
 have n:w.there b 0 d.size:=fun j E=>by refine⟨?_,j' l _⟩;rw[br w b (0+j) C _ _ l,bY,oL (by omega)];rfl
 have hs:=run_storeAt_mid (P:=P) w b 0 k d n r e;have z:=AA w b 0 d.toList (by simpa using n)
 have B:(w.setCells b 0 d.toList).heap[b]?=some (.cells d t (0,0)):=by
  have m:∀(g:List Value) (o:Nat) (w:World) (C:Array Value),w.heap[b]?=some (.cells C t (0,0))→∃f:Array Value,(w.setCells b o g).heap[b]?=some (.cells f t (0,0))∧f.size=C.size:=by
   intro g
   induction g with
   |nil=>intro o w C h;exact⟨C,h,rfl⟩
   |cons v g q=>intro o w C h;obtain⟨f,e,p⟩:=q (o+1) _ _ (xJ (i:=o) h v);exact⟨f,e,by simpa using p⟩
  obtain⟨f,e,p⟩:=m d.toList 0 w C l;rw[e]
  congr 2
  apply Array.ext_getElem?;intro j;by_cases c:j<d.size
  ·have:=z j d[j] (by simp[c])
   rw[bY,br _ b j f _ _ e]at this;rw[this,oL c]
  ·rw[AC (by omega),AC (by omega)]
 unfold Oper.wp execOp;simp only[A,u,s,dN,hs,Result.andThen,Sem.run_pure,Oper.upon_skip];exact h _ B ((aL.refl _ _).setCells b 0 _ (Or.inl rfl))
def wpList_store_row {P e c o a w Q} (f x y) (m:o.guard=none) (k:o.op= .store f x y) (b) (j:a.eval x= .pointer (some ⟨b,0,none⟩)) (d) (i:a.eval y= .agg d) (s:d.all (·.oneCell')=true) (g:(P.info? f).map (·.size)=some d.size) (C t) (p:w.heap[b]?=some (.cells C t (0,0))) (l:C.size=d.size) (h:∀W,W.heap[b]?=some (.cells d t (0,0))→aL b w W→wpList P e Q c (a.put o.dst undef) W):wpList P e Q (o::c) a w:=aH m fun _ n=>wp_store_row f x y k b j d i s g C t p l fun W r q=>n _ _ (h W r q)
def EF {P c w Q a o b} (d:Region.wanted o (yielded c a.tmps)=true) (v) (he:(execOp a.eval o).run P w= .ok (.value v) w) (h:wpStill P c w Q b (a.put o.dst v)):wpStill P c w Q (o::b) a:=by refine wpStill_step fun K e=>?_;rw[aj d];unfold Oper.still;rw[he,Oper.stillUpon_value];exact e _ h
def iu {P:List Int} (h:∀m∈P,CK.ok .u8 m) (i):mD (P.getD i 0):=by
 by_cases c:i<P.length
 ·have:P.getD i 0∈P:=by simp[List.getD,c]
  exact h _ this
 ·have e:P.getD i 0=0:=by simp[List.getD,c]
  rw[e];exact⟨by decide,by decide⟩
structure Br (n g:Nat) (w:World) (s:Hs) (P:List Int) (W:World):Prop where
 below:Below n w W
 size:n+1+1≤W.heap.size
 hg:n+1+1≤g
 hR:W.heap[n]?=some (.cells (rep 32) 25 (0,0))
 hS:W.heap[n+1]?=some (.cells s.cells.toArray 223 (0,0))
 hP:∀i,i<P.length→W.cell? ⟨g,i,none⟩=some (.int .u8 (P.getD i 0))
def Br.words {n g w s s' P W b} (h:Br n g w s P W) (a:aL (n+1) W b) (hs:b.heap[n+1]?=some (.cells s'.cells.toArray 223 (0,0))):Br n g w s' P b:=by have e:=h.size;have d:=h.hg;exact⟨a.below h.below (by omega) (by omega),by have:=a.size;omega,h.hg,(a.block _ (by omega) (by omega)).trans h.hR,hs,fun i c=>(a.cell (p:=⟨g,i,none⟩) (iE (h.hP i c)) (by simp only;omega)).trans (h.hP i c)⟩
def Br.drawn {n g w s P W} (h:Br n g w s P W) (k):Br n g w s P {heap:=W.heap,tape:=W.tape,drawn:=k,os:=W.os,output:=W.output}:=⟨⟨h.below.os,h.below.tape,h.below.output,h.below.size,h.below.block⟩,h.size,h.hg,h.hR,h.hS,h.hP⟩
def Br.later {n g w s P W W'} (h:Br n g w s P W) (a:Below W.heap.size W W'):Br n g w s P W':=by have c:=h.size;exact⟨h.below.trans (a.mono (by omega)),by have:=a.size;omega,h.hg,(a.block _ (by omega)).trans h.hR,(a.block _ (by omega)).trans h.hS,fun i b=>(a.cell (p:=⟨g,i,none⟩) (iE (h.hP i b))).trans (h.hP i b)⟩
def bc.at {b v l w} (h:bc b v l w) (p:0<l.length):∃g a,v= .slice (some ⟨g,0,none⟩) l.length a∧b≤g∧l.length≤a∧a≤maxLen∧∀i,i<l.length→w.cell? ⟨g,i,none⟩=some (.int .u8 (l.getD i 0)):=by
 rcases h.2 with⟨_,d⟩|⟨g,a,c,o,d,n,m,k,q,j⟩
 ·omega
 ·refine⟨g,a,o,d,m,k,fun i f=>?_⟩
  rw[br w g i c _ _ n]
  have e:(c.toList.take (l.length*1))[i]?=some (.int .u8 (l.getD i 0)):=by rw[j];simp[List.getD,f]
  rw[nO (by omega)]at e;simpa using e
def PA {w W c b g P} (a:Below ((w.alloc (.cells c 25)).alloc (.cells b 223)).heap.size ((w.alloc (.cells c 25)).alloc (.cells b 223)) W) (d:((w.alloc (.cells c 25)).alloc (.cells b 223)).heap.size≤g) (e:∀i,i<P.length→W.cell? ⟨g,i,none⟩=some (.int .u8 (P.getD i 0))) (h:c=rep 32:=by rfl) (f:b=ip.cells.toArray:=by rfl):Br w.heap.size g w ip P W:=by subst h f;simp only[bn]at a d;have hs:=a.size;simp only[bn]at hs;exact⟨(dt.alloc (by simp) _).trans (a.mono (by omega)),by omega,d,(a.block _ (by omega)).trans (aR _ _ _ _ (ak _ _ _ _ rfl)),(a.block _ (by omega)).trans (ak _ _ _ _ (by simp)),e⟩
def iG (n:Nat) (s:Hs) (k:Nat) (b a:World):Prop:=∃O:Array Value,a.heap[n]?=some (.cells O 25 (0,0))∧O.size=32∧(∀j,j<k→O[j]?=some (.int .u8 (iQ s j)))∧Below n b a
def iG.step {n s k a W} {O:Array Value} (h:∀j,j<k→O[j]?=some (.int .u8 (iQ s j))) (hs:O.size=32) (b:k<32) (c:W.heap[n]?=some (.cells (O.setIfInBounds k (.int .u8 (iQ s k))) 25 (0,0))) (d:Below n a W):iG n s (k+1) a W:=by
 refine⟨_,c,by simp[hs],fun j f=>?_,d⟩;by_cases e:j=k
 ·subst e
  simp[hs,b]
 ·rw[Cy (xD e)]
  exact h j (by omega)
def Wm {p:Prop} [Decidable p] (a b:Addr):some (if p then a else b)=if p then some a else some b:=by split<;>rfl
def Wk (l A c w) (hl:l.length≤1099511627776) (B:Row w A .u8 l) (D:A=none→c=0) (U:cY w):
 Calls prog 173 #[.slice A l.length c] w fun e w'=>e= .returned (.agg (ax (G0 l)))∧Below w.heap.size w w':=by
 have Q0:=aa B;have zt:=aa D;have T:=aa U;have J:G0 l=iQ (ji ip (fun j=>(qx l).getD j 0) ((qx l).length/64)):=rfl;rw[J];clear J;have K:=fun W h=>Mt l A c W hl (B.later h) D;have xg:=Ww l;have hNl:(qx l).length≤1099511627840:=by rw[ub];have:=uG l.length;omega
 have cM:=aa (Wv B.ok);generalize qx l=P at*;have L:=aa K;generalize N:(fun j=>P.getD j 0)=f;have Q:=aa (fun j=>congrFun N j);clear N;clear B D U K
 go_enter func173,ntmps173
 go_wp2_with (
  ((with_reducible refine(L.out _ (dt.alloc (by simp) _)).mono ?_)
   rintro e W1 ⟨v,rfl,d,Z⟩;obtain⟨g,z,rfl,M,l_,Ja,R⟩:=d.at (by omega);have iY:=aa (PA Z M R)
   clear d Z M R))
 clear L Q0 zt;unfold maxLen at Ja
 go_loopw [4] (fun p wr=>∃(k:Nat) (G:Addr) (m:Nat),64*k≤P.length∧p= .slice (some G) (P.length-64*k) m∧P.length-64*k≤m∧m≤z∧(64*k<P.length→G=⟨g,64*k,none⟩)∧Br w.heap.size g w (ji ip f k) P wr) (fun p _=>lenOf p)
 case atStart=>exact⟨0,_,z,by omega,rfl,by omega,by omega,fun _=>rfl,iY.out⟩
 case round=>
  obtain⟨k,G,m,hk,rfl,m6,zf,n,hW⟩:=hrel;by_cases a8:64*k<P.length
  ·have aly:64≤P.length-64*k:=by omega
   obtain rfl:=n a8;have hlen:64*k+(P.length-64*k)=P.length:=by omega
   have hNr:P.length-64*k≤1099511627840:=by omega
   have a:=aa hW;clear hW n;generalize hrr:P.length-64*k=r at*;have wg:0<r:=by omega
   have VM:(64:Int)≤m:=by omega
   have hrI:(64:Int)≤r:=by omega
   go_wp2;refine NP 3 (by kernel_rfl) (by kernel_rfl) ?_;simp only[List.take_succ_cons,List.take_zero,NJ,rZ];refine EF (by rfl) _ (ay _ 223 _ (by rfl) (w.heap.size+1) (by rfl) _ _ (0,0) _ a.out.hS IU rfl (FD _)) ?_;go_frame
   still_step
   still_step
   refine wpStill_nil ?_;refine bZ (Br w.heap.size g w (ji ip f k) P) (a.out.drawn _) ?_;clear a;intro W2 u;have I:=aa (QS g (64*k) 64 m (fun j=>f (64*k+j)) (ji ip f k) W2 (by decide) (by decide) (T.out.below T.out.size u.below) (fun j E=>⟨(u.hP (64*k+j) (by omega)).trans (by rw[←Q.out]),by rw[←Q.out];exact iu cM.out (64*k+j)⟩) (iE (u.hP 0 (by omega))));have V9:=aa u;clear u
   go_wp2_with (first
    |(with_reducible refine I.out.mono ?_);rintro e W3 ⟨rfl,sN⟩
     have S:=aa (V9.out.later sN)
    |refine al 223 ?_;refine wpList_store_row 223 _ _ rfl rfl (w.heap.size+1) rfl _ rfl (Hs.z8 _) (FD _) _ 223 S.out.hS ((Hs.kl _).trans (Hs.kl _).symm) ?_
     intro W4 re E3
     have Ru:=aa (S.out.words (s':=ji ip f (k+1)) E3 (by rw[rJ];exact re)))
   refine⟨⟨k+1,_,m-64,by omega,by rw[show P.length-64*(k+1)=r-64 from by omega,←Wm],by omega,by omega,fun h=>?_,Ru.out⟩,?_⟩
   ·rw[an (by omega)]
    rfl
   ·show r-64<r
    omega
  ·have e:64*k=P.length:=by omega
   have y:P.length/64=k:=by omega
   rw[show P.length-64*k=0 from by omega]at*;have a:=aa hW;clear hW n;go_wp2;have H:=aa (show ax (iQ (ji ip f (P.length/64)))=ax (iQ (ji ip f k)) by rw[y]);clear y e hk xg l_ m6 zf;generalize ji ip f k=s at*;generalize wr=b at*;have fL:=a.out.size;refine bO (iG b.heap.size s 0 b) ⟨_,ak _ _ _ _ rfl,rfl,fun j E=>absurd E (by omega),dt⟩ ?_;intro W0 X
   go_loopw [6] (fun i W=>∃k:Nat,k≤32∧i= .int .i64 k∧iG b.heap.size s k b W) (fun i _=>32-(intOf i).toNat)
   case atStart=>exact⟨0,by omega,rfl,X⟩
   case round=>
    obtain⟨j,E,rfl,O,d,F,C,o⟩:=hrel;clear X;by_cases qb:j<32
    ·have hx:=(o.cell (p:=⟨w.heap.size+1,j/4,none⟩) (by simp only;omega)).trans ((br b _ (j/4) _ _ _ a.out.hS).trans (Hs.ot s (j/4) (by omega)))
     have jX:(j:Int)/4=((j/4:Nat):Int):=by omega
     have xl:(j:Int)%4=((j%4:Nat):Int):=by omega
     have rc:IntKind.i64.wrap (8*((j%4:Nat):Int))=((8*(j%4):Nat):Int):=by rw[bP];omega
     have Ee:IntKind.i64.wrap (24-((8*(j%4):Nat):Int))=((24-8*(j%4):Nat):Int):=by rw[bP];omega
     have Vd:IntKind.u64.wrap ((24-8*(j%4):Nat):Int)=((24-8*(j%4):Nat):Int):=by rw[lP];omega
     have hv:IntKind.u8.wrap (wi (s.at (j/4))/2^(24-8*(j%4)))=iQ s j:=by rw[AB];rfl
     have lq:((j/4:Nat):Int)<8:=by omega
     have lj:(j:Int)<32:=by omega
     have lsh:((24-8*(j%4):Nat):Int)<32:=by omega
     have gO:=aa d;have gOc:=aa C;have gB:=aa o;clear d C o;generalize 24-8*(j%4)=sh at*;generalize 8*(j%4)=m8 at*;generalize j%4=m4 at*;generalize j/4=q at*
     go_wp2_with (
      ((with_reducible refine al 5 ?_);refine gW 5 _ _ rfl rfl b.heap.size j rfl .u8 _ rfl (by kernel_rfl) O 25 gO.out (by omega) bG gB.out (fun W5 BZ vD=>?_)))
     exact⟨⟨j+1,by omega,by go_num,iG.step gOc.out F qb BZ vD⟩,by simp[intOf];omega⟩
    ·have e:j=32:=by omega
     subst e;have Y:=iW (kd:=fun _=> .u8) F (fun i hi=>C i hi);have V:=(o.block w.heap.size (by omega)).trans a.out.hR;have kU:=aa (Y▸d);have XL:=aa V;have Nu:=aa (a.out.below.trans (o.mono (by omega)));clear d C V o Y F
     go_wp2_with (first
      |refine ag 25 ?_;refine ab (by rfl) _ (ay _ 25 _ (by rfl) b.heap.size (by rfl) _ _ (0,0) _ kU.out cH rfl (by rw[ah am];simp[ae])) ?_
      |refine al 25 ?_;refine aq 25 _ _ rfl rfl w.heap.size rfl _ rfl (aA _ _ _) (by rw[ah am];simp[ae]) _ 25 XL.out (by simp[ae]) bG Nu.out (fun W9 gM dY _=>?_))
     refine fF rfl w.heap.size 0 (ae 32 (fun _=> .u8) (iQ s)) _ rfl gM cH rfl (by rw[ah am,ac]) rfl ⟨?_,dY⟩;rw[H.out]
def L8 {M b} (h:∀t,t<16→M t=b t) (t):fh M t=fh b t:=by
 induction t using Nat.strongRecOn with
 |_ t a=>
  by_cases c:t<16
  ·rw[BJ _ _ c,BJ _ _ c,h t c]
  ·obtain⟨m,rfl⟩:∃m,t=m+16:=⟨t-16,by omega⟩
   rw[BK,BK,a (m+14) (by omega),a (m+9) (by omega),a (m+1) (by omega),a m (by omega)]
def Hs.FV (s:Hs) {M a:Nat→rT} (h:∀t,t<16→M t=a t):s.mix M=s.mix a:=by
 have e:∀t,s.sR M t=s.sR a t:=fun t=>by
  induction t with
  |zero=>rfl
  |succ t b=>show (s.sR M t).Xo _ _=(s.sR a t).Xo _ _;rw[b,L8 h]
 unfold Hs.mix;rw[e]
def DH {f g} (h:∀j,j<64→f j=g j) (t) (a:t<16):iN f t=iN g t:=by unfold iN;rw[h _ (by omega),h _ (by omega),h _ (by omega),h _ (by omega)]
def gc (a:Nat→Int):List Int:=(List.range 32).map a
def e_ (a):(gc a).length=32:=by simp[gc]
def zJ (a j) (h:j<32):(gc a).getD j 0=a j:=by simp[gc,List.getD,h]
def CT {a} (h:fY a):∀m∈gc a,CK.ok .u8 m:=by intro m b;obtain⟨j,c,rfl⟩:=ft.1 b;exact h j (by simpa using c)
def Kd (s f):ji s f 2=(s.mix (iN fun j=>f (64*0+j))).mix (iN fun j=>f (64*1+j)):=by rw[show (2:Nat)=0+1+1 from rfl,rJ,rJ];rfl
def Wj (a b):G0 (gc a++gc b)=gX a b:=by
 have hl:(gc a++gc b).length=64:=by simp[e_]
 have g:(qx (gc a++gc b)).length/64=2:=by rw[ub,hl];rfl
 have f:kf (gc a++gc b).length=55:=by rw[hl];rfl
 have h:KX (8*(gc a++gc b).length)=[0,0,0,0,0,0,2,0]:=by rw[hl];rfl
 have l:∀j,j<64→(qx (gc a++gc b)).getD (64*0+j) 0=tt a b j:=fun j e=>by
  unfold qx tt;rw[Nat.mul_zero,bY,Ff,dA,dA,eY (by rw[hl];exact e)];by_cases c:j<32
  ·rw[aj c,eY (by rw[e_];exact c)]
   exact zJ a j c
  ·rw[an c,fT (by rw[e_];omega),e_]
   exact zJ b (j-32) (by omega)
 have k:∀j,j<64→(qx (gc a++gc b)).getD (64*1+j) 0=GL j:=fun j e=>by
  unfold qx;rw[f,h,Ff,dA,dA,fT (by rw[hl];omega),hl];have:64*1+j-64=j:=by omega
  rw[this];clear this;revert e;revert j;decide
 have i:ji ip (fun j=>(qx (gc a++gc b)).getD j 0) 2=(ip.mix (iN (tt a b))).mix (iN GL):=by refine(Kd _ _).trans ?_;rw[Hs.FV ip (fun t d=>DH l t d)];exact Hs.FV _ (fun t d=>DH k t d)
 exact fB iQ ((fB (ji ip _) g).trans i)
def Ma (w):(Instr.buildSlice 39 0 #[]).run prog w= .ok (.slice (some ⟨w.heap.size,0,none⟩) 0 0) (w.alloc (.cells #[] 5)):=by kernel_rfl
def d' {o:Oper} {a:Act} {w:World} {K:Act→World→Prop} {Q:Exit→Act→World→Prop} (b:o.op= .buildSlice 39 0 #[]) (h:K (a.put o.dst (.slice (some ⟨w.heap.size,0,none⟩) 0 0)) (w.alloc (.cells #[] 5))):o.wp prog a w K Q:=by
 unfold Oper.wp execOp;have e:(#[]:Array (Nat×Operand)).map (fun x=>match x with|(i,x)=>(i,a.eval x))=#[]:=by simp
 simp only[b,e,dN,Ma w,Result.andThen_ok];exact h
def AV {w b a} (h:w.heap[b]?=some (.cells (ax a) 25 (0,0))) (ha:fY a):Row w (some ⟨b,0,none⟩) .u8 (gc a):=by
 refine⟨fun i d=>⟨b,0,rfl,?_⟩,CT ha⟩;have c:i<32:=by rw[e_]at d;exact d
 rw[br w b (0+i) _ _ _ h,bY,fu,aN _ _ _ _ c,zJ a i c]
def yd (a b) (ha:fY a) (q:fY b) (w) (s:cY w):
 Calls prog 123 #[.agg (ax a),.agg (ax b)] w fun e C=>e= .returned (.agg (ax (gX a b)))∧Below w.heap.size w C:=by
 have r:=aa s;have f:=aa ha;have p:=aa q;clear s ha q
 go_enter func123,ntmps123
 go_wp2;refine bO (fun W=>Below w.heap.size w W∧w.heap.size+1+1+1≤W.heap.size∧W.heap[w.heap.size]?=some (.cells (ax a) 25 (0,0))∧W.heap[w.heap.size+1]?=some (.cells (ax b) 25 (0,0))∧W.heap[w.heap.size+1+1]?=some (.cells (rep 32) 25 (0,0))) ⟨?_,by simp,?_,?_,?_⟩ ?_
 ·exact((dt.alloc (by simp) _).alloc (by simp;omega) _)
 ·exact aR _ _ _ _ (aR _ _ _ _ (ak _ _ _ _ rfl))
 ·exact aR _ _ _ _ (ak _ _ _ _ (by simp))
 ·exact ak _ _ _ _ (by simp)
 rintro W ⟨v,hZ,K,o,I⟩;refine dQ (S:=aL (w.heap.size+1+1) W) (by kernel_rfl) ?_;have H:=aL.begin (w.heap.size+1+1) W;refine kg 1 3 (.slice (some ⟨w.heap.size,0,none⟩) 32 32) (.slice (some ⟨w.heap.size+1,0,none⟩) 32 32) rfl (by kernel_rfl) (fun _=>by kernel_rfl) bH ‹_› ?_;go_frame;refine cQ (i:=0) rfl (by kernel_rfl) rfl (d' rfl ?_);refine⟨H.alloc _,?_⟩;go_frame;have c:Below W.heap.size W (({W with drawn:=W.drawn+1}:World).alloc (.cells #[] 5)):=(⟨rfl,rfl,rfl,cD _,fun _ _=>rfl⟩:Below W.heap.size W {W with drawn:=W.drawn+1}).alloc bG _;refine cQ (i:=2) rfl (by kernel_rfl) rfl (tv (.tmp 5) (.tmp 6) rfl W.heap.size [] (gc a) _ rfl (bc.new bG [] (by decide) (ak _ _ _ _ rfl)) (some ⟨w.heap.size,0,none⟩) 32 (by rw[e_];rfl) (AV ((c.block _ (by omega)).trans K) f.out) (by rw[e_];decide) c.size (fun h=>by cases h) c ?_);intro Q X L l B;refine⟨aL.tQ l,?_⟩;go_frame;refine cQ (i:=4) rfl (by kernel_rfl) rfl (tv (.tmp 7) (.tmp 8) rfl W.heap.size _ (gc b) _ rfl L (some ⟨w.heap.size+1,0,none⟩) 32 (by rw[e_];rfl) (AV ((l.block _ (by omega)).trans o) p.out) (by rw[List.nil_append,e_,e_];decide) B (fun h=>by cases h) l ?_);intro P N z k O;refine⟨aL.tQ k,?_⟩;go_frame;rw[List.nil_append]at z;have A:(gc a++gc b).length=64:=by rw[bM,e_,e_]
 obtain⟨g,j,rfl,R,T,_,G⟩:=z.at (by omega)
 have D:∀m∈gc a++gc b,CK.ok .u8 m:=fun m E=>by
  rcases iD.1 E with h|h
  ·exact CT f.out m h
  ·exact CT p.out m h
 refine cQ (i:=5) rfl (by kernel_rfl) rfl (jh 173 #[.slice (some ⟨g,0,none⟩) (gc a++gc b).length j] (by go_simp) _ _ (Wk (gc a++gc b) (some ⟨g,0,none⟩) j N (by omega) ⟨fun i F=>⟨g,0,rfl,by rw[bY];exact G i F⟩,D⟩ (fun h=>by cases h) (r.out.below r.out.size (v.trans (k.mono (by omega))))) ?_);intro V M;have d:=k.trans (M.mono k.size);refine⟨aL.tQ d,?_⟩;go_frame;refine cQ (i:=6) rfl (by kernel_rfl) rfl (wp_store_row 25 _ _ rfl (w.heap.size+1+1) rfl _ rfl (aA _ _ _) (by rw[ah am];simp[ae]) (rep 32) 25 ((d.block _ (by omega)).trans I) (by simp[ae]) ?_);intro U u y;refine⟨(aL.tQ d).trans y,?_⟩;simp only[Act.put];refine dM (by kernel_rfl) ?_ _;have J:=aa (y.below (v.trans (d.mono (by omega))) (by omega) (by have:=d.size;omega));have n:=aa u;clear u;go_wp2;refine fF rfl (w.heap.size+1+1) 0 (ae 32 (fun _=> .u8) (G0 (gc a++gc b))) _ rfl (aE n.out) cH rfl (by rw[ah am,ac]) rfl ⟨?_,J.out⟩;rw[Wj]
def lL (n:Int) (j:Nat):Int:=n/(2:Int)^(8*j)%256
def Th (n j):mD (lL n j):=by unfold mD lL;omega
abbrev kX (n:Int):Array Value:=(ae 8 (fun _=> .u8) (lL n)).toArray
def iA:rowB prog 184 8=true:=by kernel_rfl
def Pn (n:Nat) (m:Int) (k:Nat) (b a:World):Prop:=∃O:Array Value,a.heap[n]?=some (.cells O 184 (0,0))∧O.size=8∧(∀j,j<k→O[j]?=some (.int .u8 (lL m j)))∧Below n b a
def Pn.step {n m k a W} {O:Array Value} (h:∀j,j<k→O[j]?=some (.int .u8 (lL m j))) (hs:O.size=8) (b:k<8) (c:W.heap[n]?=some (.cells (O.setIfInBounds k (.int .u8 (lL m k))) 184 (0,0))) (d:Below n a W):Pn n m (k+1) a W:=by
 refine⟨_,c,by simp[hs],fun j f=>?_,d⟩;by_cases e:j=k
 ·subst e
  simp[hs,b]
 ·rw[Cy (xD e)]
  exact h j (by omega)
def DX (m w):
 (Calls prog 148 #[.int .u64 m] w fun e g=>e= .returned (.agg (kX m))∧Below w.heap.size w g)∧Calls prog 122 #[.int .u64 m] w fun e g=>e= .returned (.agg (kX m))∧Below w.heap.size w g:=by
 refine⟨?_,?_⟩<;>
 (obtain⟨a,b⟩:∃a,a=w.alloc (.cells (rep 8) 184):=⟨_,rfl⟩
  have v:Below w.heap.size w a:=by rw[b];exact dt
  have q:a.heap[w.heap.size]?=some (.cells (rep 8) 184 (0,0)):=by rw[b];exact IP w _
  have p:a.heap.size=w.heap.size+1:=by rw[b];simp
  first
   |go_enter func148,ntmps148
   |go_enter func122,ntmps122
  go_wp2;refine bO (Pn (w.heap.size+1) m 0 a) ⟨_,ak _ _ _ _ (by simp),rfl,fun j s=>absurd s (by omega),by rw[←p,b];exact dt⟩ ?_;clear b;intro R l
  first
   |go_loopw [5] (fun i wr=>∃k:Nat,k≤8∧i= .int .i64 k∧Pn (w.heap.size+1) m k a wr) (fun i _=>8-(intOf i).toNat);case atStart=>exact⟨0,by omega,rfl,l⟩
   |go_loopw [4] (fun i wr=>∃k:Nat,k≤8∧i= .int .i64 k∧Pn (w.heap.size+1) m k a wr) (fun i _=>8-(intOf i).toNat);case atStart=>exact⟨0,by omega,rfl,l⟩
  case round=>
   obtain⟨k,N,rfl,O,f,h,d,c⟩:=hrel;clear l;by_cases r:k<8
   ·have b:IntKind.i64.wrap (8*(k:Int))=((8*k:Nat):Int):=by rw[bP];omega
    have L:IntKind.u64.wrap ((8*k:Nat):Int)=((8*k:Nat):Int):=by rw[lP];omega
    have M:IntKind.u8.wrap (m/2^(8*k))=lL m k:=by rw[AB];rfl
    have J:(k:Int)<8:=by omega
    have H:((8*k:Nat):Int)<64:=by omega
    have F:=aa f;have gOc:=aa d;have G:=aa c;clear f d c;generalize 8*k=I at*
    go_wp2_with (
     ((with_reducible refine al 5 ?_);refine gW 5 _ _ rfl rfl (w.heap.size+1) k rfl .u8 _ rfl (by kernel_rfl) O 184 F.out (by omega) bG G.out (fun Q B D=>?_)))
    exact⟨⟨k+1,by omega,by go_num,Pn.step gOc.out h r B D⟩,by simp[intOf];omega⟩
   ·have e:k=8:=by omega
    subst e;have o:=iW (kd:=fun _=> .u8) h (fun i u=>d i u);have n:=(c.block w.heap.size (by omega)).trans q;have A:=aa (o▸f);have z:=aa n;have E:=aa (v.trans (c.mono (by omega)));clear f d n c o h
    go_wp2_with (first
     |refine ag 184 ?_;refine ab (by rfl) _ (ay _ 184 _ (by rfl) (w.heap.size+1) (by rfl) _ _ (0,0) _ A.out underlying184 rfl (by rw[ah iA];simp[ae])) ?_
     |refine al 184 ?_;refine aq 184 _ _ rfl rfl w.heap.size rfl _ rfl (aA _ _ _) (by rw[ah iA];simp[ae]) _ 184 z.out (by simp[ae]) bG E.out (fun P y C _=>?_))
    exact fF rfl w.heap.size 0 (ae 8 (fun _=> .u8) (lL m)) _ rfl y underlying184 rfl (by rw[ah iA,ac]) rfl ⟨rfl,C⟩)
def qY (m w):
 Calls prog 148 #[.int .u64 m] w fun e a=>e= .returned (.agg (kX m))∧Below w.heap.size w a:=(DX m w).1
def rE (m w):
 Calls prog 122 #[.int .u64 m] w fun e a=>e= .returned (.agg (kX m))∧Below w.heap.size w a:=(DX m w).2
def rdI (f:Nat→Int):Nat→Int
 |0=>0
 |k+1=>rdI f k+f k*2^(8*k)
def QY (f:Nat→Int):Nat→Int
 |0=>0
 |k+1=>QY f k*256+f (7-k)
def CG {f:Nat→Int} (h:∀j,mD (f j)) (k:Nat):0≤rdI f k∧rdI f k<2^(8*k):=by
 induction k with
 |zero=>exact⟨vN _,by show (0:Int)<1;decide⟩
 |succ k c=>
  have a:=h k;unfold mD at a;have b:(0:Int)<2^(8*k):=Int.pow_pos (by decide)
  have e:(2:Int)^(8*(k+1))=256*2^(8*k):=by rw[show 8*(k+1)=8*k+8 from by omega,Int.pow_add,Int.mul_comm];rfl
  have g:f k*2^(8*k)≤255*2^(8*k):=Ss a.2 (Fh b);have d:0≤f k*2^(8*k):=Int.mul_nonneg a.1 (Fh b);show 0≤rdI f k+f k*2^(8*k)∧rdI f k+f k*2^(8*k)<2^(8*(k+1));rw[e];omega
def ZL {f:Nat→Int} (h:∀j,mD (f j)) (k:Nat):0≤QY f k∧QY f k<2^(8*k):=by
 induction k with
 |zero=>exact⟨vN _,by show (0:Int)<1;decide⟩
 |succ k b=>
  have a:=h (7-k);unfold mD at a
  have e:(2:Int)^(8*(k+1))=256*2^(8*k):=by rw[show 8*(k+1)=8*k+8 from by omega,Int.pow_add,Int.mul_comm];rfl
  show 0≤QY f k*256+f (7-k)∧QY f k*256+f (7-k)<2^(8*(k+1));rw[e];omega
def adI (f):QY f 8=rdI f 8:=by simp only[QY,rdI];simp;omega
def adM (s:Nat) (hs:s≤56):(2:Int)^s≤72057594037927936:=by
 have h:(2:Int)^s≤2^56:=by
  have:2^s≤2^56:=nN (by decide) hs
  exact_mod_cast this
 exact h
def a6 (k x y):bits .or k x y=bits .or k y x:=by unfold bits;simp only[BitVec.or_comm]
def Wz {x y:Int} {s:Nat} (hs:s≤56) (d:0≤x∧x<2^s) (c:mD y):bits .or .u64 x (IntKind.u64.wrap (y*2^s))=x+y*2^s:=by
 unfold mD at c;have e:(0:Int)<2^s:=Int.pow_pos (by decide)
 have h:(2:Int)^s≤2^56:=by
  have:2^s≤2^56:=nN (by decide) hs
  exact_mod_cast this
 have k:y*2^s≤255*2^s:=Ss c.2 (Fh e);have g:0≤y*2^s:=Int.mul_nonneg c.1 (Fh e);have j:(2:Int)^56=72057594037927936:=rfl;have f:IntKind.u64.wrap (y*2^s)=y*2^s:=by rw[lP];omega
 have i:(2:Int)^64=18446744073709551616:=rfl;rw[f,a6,bits_join .u64 64 (by decide) (fun n a b=>show IntKind.u64.wrap n=n by rw[lP];omega) s (y*2^s) x g (Int.mul_emod_left _ _) (by omega) d.1 d.2 (by omega)];omega
def ZP {x y} (f:0≤x∧x<72057594037927936) (c:mD y):bits .or .u64 (IntKind.u64.wrap (x*256)) y=x*256+y:=by
 unfold mD at c;have d:IntKind.u64.wrap (x*256)=x*256:=by rw[lP];omega
 have e:(2:Int)^64=18446744073709551616:=rfl;have g:(2:Int)^8=256:=rfl;rw[d];exact bits_join .u64 64 (by decide) (fun n a b=>show IntKind.u64.wrap n=n by rw[lP];omega) 8 (x*256) y (by omega) (by omega) (by omega) c.1 (by omega) (by omega)
def Jp (l q c w) (d:Row w q .u8 l):
 Calls prog 149 #[.slice q l.length c] w fun e B=>e= .returned (.tuple #[.int .u64 (if l.length=8 then rdI (fun j=>l.getD j 0) 8 else 0),.int .i64 (if l.length=8 then 0 else 4)])∧w=B:=by
 by_cases a:l.length=8
 ·rw[aj a,aj a,a]
  obtain⟨b,o,rfl,_⟩:=d.cell 0 (by omega)
  have u (j:Nat) (r:j<8):w.cell? ⟨b,o+j,none⟩=some (.int .u8 (l.getD j 0)):=by obtain⟨P,H,e,h⟩:=d.cell j (by omega);cases e;exact h
  have A:∀j,mD (l.getD j 0):=iu d.ok;obtain⟨f,g⟩:∃f:Nat→Int,∀j,l.getD j 0=f j:=⟨_,fun _=>rfl⟩;have s:(fun j=>l.getD j 0)=f:=funext g;rw[s];have p:=aa (fun j r=>(u j r).trans (by rw[g j]));have v:=aa (fun j=>g j▸A j);clear d a g s u A
  go_enter func149,ntmps149
  go_wp2
  go_loop [4,12] (fun n i=>∃k:Nat,k≤8∧i= .int .i64 k∧n= .int .u64 (rdI f k)) (fun _ i=>8-(intOf i).toNat)
  case atStart=>exact⟨0,by omega,rfl,rfl⟩
  case round=>
   obtain⟨k,O,rfl,rfl⟩:=hrel;by_cases D:k<8
   ·have J:=p.out k D
    have m:=v.out k;have M:bits .or .u64 (rdI f k) (IntKind.u64.wrap (f k*2^(8*k)))=rdI f (k+1):=Wz (by omega) (CG v.out k) m;have L:IntKind.u64.wrap (f k)=f k:=by unfold mD at m;rw[lP];omega
    have K:IntKind.i64.wrap (8*(k:Int))=((8*k:Nat):Int):=by rw[bP];omega
    have I:(k:Int)<8:=by omega
    have E:((8*k:Nat):Int)<64:=by omega
    clear m;generalize F:8*k=G at*;generalize f k=y at*;generalize rdI f k=x at*;generalize C:rdI f (k+1)=z at*;go_wp2
    go_round
    case rel=>exact⟨k+1,by omega,by go_num,by rw[C]⟩
    case measure=>simp[intOf];omega
   ·have e:k=8:=by omega
    subst e;go_wp2
    go_ret2
    exact⟨rfl,rfl⟩
 ·rw[an a,an a]
  have N:((l.length:Int) !=8)=true:=by rw[E6];omega
  clear d
  go_enter func149,ntmps149
  go_wp2
  go_ret2
  exact⟨rfl,rfl⟩
def Fz (l u c w) (d:Row w u .u8 l):
 Calls prog 89 #[.slice u l.length c] w fun e E=>e= .returned (.tuple #[.int .u64 (if l.length=8 then rdI (fun j=>l.getD j 0) 8 else 0),.int .i64 (if l.length=8 then 0 else 4)])∧w=E:=by
 by_cases a:l.length=8
 ·rw[aj a,aj a,a]
  obtain⟨b,o,rfl,_⟩:=d.cell 0 (by omega)
  have B (j:Nat) (v:j<8):w.cell? ⟨b,o+j,none⟩=some (.int .u8 (l.getD j 0)):=by obtain⟨S,K,e,h⟩:=d.cell j (by omega);cases e;exact h
  have D:∀j,mD (l.getD j 0):=iu d.ok;obtain⟨f,m⟩:∃f:Nat→Int,∀j,l.getD j 0=f j:=⟨_,fun _=>rfl⟩;have A:(fun j=>l.getD j 0)=f:=funext m;rw[A,←adI];have r:=aa (fun j v=>(B j v).trans (by rw[m j]));have C:=aa (fun j=>m j▸D j);clear d a m A B D
  go_enter func89,ntmps89
  go_wp2
  go_loop [4,5] (fun n i=>∃k:Nat,k≤8∧i= .int .i64 (7-(k:Int))∧n= .int .u64 (QY f k)) (fun _ i=>(intOf i+1).toNat)
  case atStart=>exact⟨0,by omega,rfl,rfl⟩
  case round=>
   obtain⟨k,R,rfl,rfl⟩:=hrel;by_cases Q:k<8
   ·have M:=r.out (7-k) (by omega)
    have p:=C.out (7-k);have g:=ZL C.out k;have G:=adM (8*k) (by omega);have O:bits .or .u64 (IntKind.u64.wrap (QY f k*256)) (f (7-k))=QY f (k+1):=ZP ⟨g.1,by omega⟩ p;have N:IntKind.u64.wrap (f (7-k))=f (7-k):=by unfold mD at p;rw[lP];omega
    have q:7-(k:Int)=((7-k:Nat):Int):=by omega
    have L:((7-k:Nat):Int)<8:=by omega
    clear p g G;rw[q];generalize 7-k=j at*;have s:=aa q;have I:(0:Int)≤j:=by omega
    clear q;generalize f j=y at*;generalize QY f k=x at*;generalize F:QY f (k+1)=z at*;generalize H:IntKind.u64.wrap (x*256)=J at*;go_wp2
    go_round
    case rel=>exact⟨k+1,by omega,by have:=s.out;congr 1;omega,by rw[F]⟩
    case measure=>simp[intOf]<;>omega
   ·have e:k=8:=by omega
    subst e;go_wp2
    go_ret2
    exact⟨rfl,rfl⟩
 ·rw[an a,an a]
  have P:((l.length:Int) !=8)=true:=by rw[E6];omega
  clear d
  go_enter func89,ntmps89
  go_wp2
  go_ret2
  exact⟨rfl,rfl⟩
def aU {a e f n v j w d} (h:w.ownsRow a e f v n j) (k:Below w.heap.size w d):d.ownsRow a e f v n j:=by
 refine⟨h.1,?_⟩;rcases h.2 with hn|⟨g,c,b,p,o,i,m⟩
 ·exact Or.inl hn
 ·exact Or.inr ⟨g,c,b,p,o,(k.block g (Cz.1 i).1).trans i,m⟩
def de {a b e i n v k w f} (h:w.ownsRow a e i v n k) (m:aL b w f) (r:b<a):f.ownsRow a e i v n k:=by
 refine⟨h.1,?_⟩;rcases h.2 with hn|⟨g,d,c,q,p,j,o⟩
 ·exact Or.inl hn
 ·exact Or.inr ⟨g,d,c,q,p,(m.block g (Cz.1 j).1 (by omega)).trans j,o⟩
def LL {a:Nat} {e:TypeId} {b n:Nat} {v:Value} {d:List Value} {w:World} (h:w.ownsRow a e b v n d):∀k,v.ownBlock=some k→a≤k:=fun k c=>(h.lt k c).1
def aW {a:Nat} {e:TypeId} {i n:Nat} {v:Value} {k:List Value} {w:World} (h:w.ownsRow a e i v n k):∃f c,v= .slice f n c∧(f=none→c=0):=by
 rcases h.2 with⟨b,j⟩|⟨g,d,m,b,_⟩
 ·exact⟨none,0,by rw[b,j],fun _=>rfl⟩
 ·exact⟨_,d,b,fun e=>by cases e⟩
def info_parts {P:Program} {e:TypeId} {z:Value} {a bytes:Nat} (h:(P.info? e).map (fun i=>(i.zero,i.size,i.bytes))=some (some z,a,bytes)):
 ∃i,P.info? e=some i∧i.zero=some z∧i.size=a∧i.bytes=bytes:=by
 cases b:P.info? e with
 |none=>simp[b]at h
 |some i=>simp only[b,Option.map_some,xC,Prod.mk.injEq]at h;exact⟨i,rfl,h.1,h.2.1,h.2.2⟩
def eN {P:Program} {o:Oper} {a:Act} {w w0:World} {K:Act→World→Prop} {Q:Exit→Act→World→Prop} {n0:Nat} (s x:Operand) (t e:TypeId)
 (R:o.op= .call {callee:= .builtin .append,args:=#[s,x],argTypes:=#[t,t]}) (y:P.underlying t=some (.slice e)) (z:Value) (b bytes:Nat)
 (V:(P.info? e).map (fun i=>(i.zero,i.size,i.bytes))=some (some z,b,bytes)) (I:z.cells.size=b) (M:0<b)
 (d n:Nat) (v:Value) (r:List Value) (hs:a.eval s=v) (E:w.ownsRow d e b v n r) (q:Addr) (m c:Nat) (L:a.eval x= .slice (some q) m c) (f:List Value) (hl:f.length=m*b)
 (F:w.rangeAt q.block q.off f) (D:q.spot=none) (B:∀u∈f,u.oneCell'=true) (H:n+m≤70368744177664) (X:(n+m)*bytes≤140737488355328) (A:d≤w.heap.size) (G:n0≤d) (Z:Below n0 w0 w)
 (h:∀p W,W.ownsRow d e b p (n+m) (r++f)→Below n0 w0 W→d≤W.heap.size→(∀k,k<w.heap.size→some k≠v.ownBlock→W.heap[k]?=w.heap[k]?)→(p.ownBlock=v.ownBlock∨p.ownBlock=some w.heap.size)→K (a.put o.dst p) W):o.wp P a w K Q:=by
 obtain⟨i,U,J,N,Y⟩:=info_parts V;obtain⟨g,k,sp⟩:=q;simp only at D F;subst D
 obtain⟨p,W,O,g1,C,_,g4⟩:=run_append_own_at (P:=P) w d t o.type e i z b bytes y U J N Y I M v n r E ⟨g,k,none⟩ m c f hl (fun j u y=>by
  rw[Fl]
  exact F j u y) B (by unfold maxLen;omega) X A
 unfold Oper.wp execOp;simp only[R,resolve,invoke,builtin,dN,Sem.run_pure,Result.andThen_ok,NG,qC,Av,hs,L,O];exact h p W g1 (Z.grown C (bg G A) (fun k T=>bg G (LL E k T))) (bg A C.size) (fun k B h2=>C.block k B h2) g4
def DS (d:Nat) (z:0<d):∀(g:List Value) (k:Nat) (b:List Value) (a:List Value),(∀v∈g,v.cells.size=d)→b.length=k*d→a.length=g.length*d→
 Instr.fill (fun i=>some (i*d,d)) (b++a).toArray ((g.zipIdx k).map fun p=>(p.2,p.1))=some (b++(g.map fun v=>v.cells.toList).flatten).toArray
 |[],k,b,a,_,_,n=>by have:a=[]:=Ay (by simpa using n);subst this;simp[Instr.fill]
 |v::g,k,b,a,hv,o,n=>by
  have f:v.cells.size=d:=hv v (by simp);have m:d≤a.length:=by rw[n,List.length_cons,Fa];omega
  have h:∀(l:List Value) (j:Nat) (A:List Value) (B:List Value),A.length=k*d+j→l.length≤B.length→
   (l.zipIdx j).foldl (fun(q:Array Value) (c,j)=>q.setIfInBounds (k*d+j) c) (A++B).toArray=(A++l++B.drop l.length).toArray:=by
   intro l
   induction l with
   |nil=>intro j A B _ _;simp
   |cons x l s=>
    intro j A B D r;cases B with
    |nil=>simp at r
    |cons y B=>
     rw[List.zipIdx_cons,List.foldl_cons]
     have e:(A++y::B).toArray.setIfInBounds (k*d+j) x=((A++[x])++B).toArray:=by rw[IK,←D,Au _ _ bG];simp
     dsimp only
     rw[e,s (j+1) (A++[x]) B (by simp;omega) (by simpa using r)];simp
  have C:=h v.cells.toList 0 b a (by simpa using o) (by simpa[f]using m);rw[List.zipIdx_cons,qC,Instr.fill]
  dsimp only
  rw[an (by simp[f,o];omega)]
  have E:v.cells.zipIdx.foldl (fun q (c,j)=>q.setIfInBounds (k*d+j) c) (b++a).toArray=(b++v.cells.toList++a.drop d).toArray:=by rw[←Array.foldl_toList,Array.toList_zipIdx,C];simp[f]
  rw[E,DS d z g (k+1) (b++v.cells.toList) (a.drop d) (fun u w=>hv u (by simp[w])) (by simp[o,f,Fa]) (by simp[n,Fa])];simp
def bj {P:Program} {ρ:Operand→Value} {o:Oper} (w:World) (t e:TypeId) (n:Nat) (b:Array (Nat×Operand)) (E:o.op= .buildSlice t n b) (B:P.underlying t=some (.slice e)) (z:Value) (a:Nat)
 (h:(P.info? e).map (fun i=>(i.zero,i.size))=some (some z,a)) (C:0<a) (u:n*a≤2^24) (c:List Value) (hn:c.length=n) (D:(b.toList.map fun p=>(p.1,ρ p.2))=c.zipIdx.map fun p=>(p.2,p.1)) (A:∀v∈c,v.cells.size=a):
 (execOp ρ o).run P w= .ok (.value (.slice (some ⟨w.heap.size,0,none⟩) n n)) (w.alloc (.cells (c.map fun v=>v.cells.toList).flatten.toArray e)):=by
 have q:(b.map fun(i,x)=>(i,ρ x)).toList=c.zipIdx.map fun p=>(p.2,p.1):=by rw[Array.toList_map];exact D
 have y:=(IN h).1
 have hs:(P.info? e).map (·.size)=some a:=by
  cases d:P.info? e with
  |none=>simp[d]at h
  |some i=>simp[d]at h ⊢;exact h.2
 cases d:P.info? e with
 |none=>simp[d]at hs
 |some i=>
  have F:i.size=a:=by simpa[d]using hs
  have j:=fun(g:List Value) (ha:g.length=n*a)=>DS a C c 0 [] g A (by simp) (by rw[ha,hn]);simp only[List.nil_append]at j;have m:¬(n*a>2^24):=by omega
  obtain⟨R,r⟩:∃R:Array Value,R=(c.map fun v=>v.cells.toList).flatten.toArray:=⟨_,rfl⟩;rw[←r]at j ⊢;clear r;unfold execOp;simp only[E,Instr.buildSlice,dN,no B,Result.andThen_ok];have k:(sizeOf e).run P w= .ok a w:=by simp[sizeOf,typeInfo,d,F,go_sem]
  simp only[k,Result.andThen_ok,an m];by_cases s:n*a=0
  ·have f:=j ((Array.range (n*a)).map fun x=>(#[]:Array Value)[x%(#[]:Array Value).size]!).toList (by simp)
   rw[Array.toArray_toList]at f;simp only[aj s,dN,Sem.run_pure,Result.andThen_ok,q,f];rfl
  ·have f:=j ((Array.range (n*a)).map fun x=>z.cells[x%z.cells.size]!).toList (by simp)
   rw[Array.toArray_toList]at f;simp only[an s,dN,Sem.run_pure,Result.andThen_ok,y,q,f];rfl
def simpleV:Value→Bool
 | .int _ _| .bool _| .slice _ _ _| .pointer _=>true
 |_=>false
def bt {P:Program} {o:Oper} {a:Act} {w:World} {K:Act→World→Prop} {Q:Exit→Act→World→Prop} (c:TypeId) (x y:Operand) (n:o.op= .store c x y) (b k:Nat) (j:a.eval x= .pointer (some ⟨b,k,none⟩)) (v:Value) (g:a.eval y=v) (m:simpleV v=true)
 (f:(P.info? c).map (·.size)=some 1) (C:Array Value) (t:TypeId) (e:w.heap[b]?=some (.cells C t (0,0))) (p:k<C.size)
 (h:∀W,W.heap[b]?=some (.cells (C.setIfInBounds k v) t (0,0))→aL b w W→K (a.put o.dst undef) W):o.wp P a w K Q:=by
 have s:w.cell? ⟨b,k,none⟩=some C[k]:=(br w b k C _ _ e).trans (oL p);have r:=j' e k;cases d:P.info? c with
 |none=>simp[d]at f
 |some i=>
  have q:i.size=1:=by simpa[d]using f
  have hs:(Instr.storeAt c (.pointer (some ⟨b,k,none⟩)) v).run P w= .ok () (w.setCell ⟨b,k,none⟩ v):=by
   cases v<;>first
    |simp[simpleV]at m;done
    |simp[Instr.storeAt,Instr.sureAddr,storeVar,storeCells,sizeOf,typeInfo,d,q,go_sem,s,r]
  unfold Oper.wp execOp;simp only[n,j,g,dN,hs,Result.andThen,Sem.run_pure,Oper.upon_skip];exact h _ (xJ e _) ((⟨rfl,rfl,rfl,cD _,fun _ _ _=>rfl⟩:aL b w w).setCell _ _)
def bV {P o a w W K Q} (v) (he:(execOp a.eval o).run P w= .ok (.value v) W) (h:K (a.put o.dst v) W):o.wp P a w K Q:=by unfold Oper.wp;simp only[he,Oper.upon_value];exact h
section
variable {P:Program} {l:List Oper} {Q:Exit→Act→World→Prop} {md:Region.Mode} {S:World→Prop}
theorem vQ {i k d c e b a w Wn} (v p) (q:nth l i=some d) (o:nth l k=some c) (u:Region.ready md l.toArray b=[i,k]) (s:Region.ready md l.toArray (b.setIfInBounds i true)=[k]) (r:Region.ready md l.toArray (b.setIfInBounds k true)=[i]) (n:Region.wanted d (yielded l.toArray a.tmps)=true) (j:Region.wanted c (yielded l.toArray a.tmps)=true) (m:Region.wanted d (yielded l.toArray (a.put c.dst p).tmps)=true) (g:Region.wanted c (yielded l.toArray (a.put d.dst v).tmps)=true) (D:(execOp a.eval d).run P w= .ok (.value v) w) (C:(execOp (a.put c.dst p).eval d).run P Wn= .ok (.value v) Wn) (B:(execOp a.eval c).run P w= .ok (.value p) Wn) (A:(execOp (a.put d.dst v).eval c).run P w= .ok (.value p) Wn) (z:S w) (f:S Wn) (hl:(b.setIfInBounds i true).setIfInBounds k true=(b.setIfInBounds k true).setIfInBounds i true) (y:(a.put d.dst v).put c.dst p=(a.put c.dst p).put d.dst v) (h:wpAnyH P md l.toArray Q S e ((b.setIfInBounds i true).setIfInBounds k true) ((a.put d.dst v).put c.dst p) Wn):wpAnyH P md l.toArray Q S (e+1+1) b a w:=by
 refine ab' q o u n j (bV v D ⟨z,?_⟩) (bV p B ⟨f,?_⟩)
 ·exact cQ o s g (bV p A ⟨f,h⟩)
 ·exact cQ q r m (bV v C ⟨f,by rw[←hl,←y];exact h⟩)
end
def g8 {P b R a w} (h:b.results=#[]) (c:a.defers=[]) (d:R (.returned (.tuple #[])) w):bodyPost P b R .normal a w:=by refine bodyPost_end ?_ c d;simp[results,h]
def cA {P b R a w t} (h:b.results=#[.tmp t]) (v) (d:a.tmps.getD t undef=v) (e:a.defers=[]) (f:R (.returned v) w):bodyPost P b R .ret a w:=by
 refine Fj ?_ e f;have c:a.tmps[t]?.getD undef=v:=by simpa using d
 simp[results,h,c]
def bR {P c R a w t s} (h:c.results=#[.tmp t,.tmp s]) (v u) (e:a.tmps.getD t undef=v) (f:a.tmps.getD s undef=u) (g:a.defers=[]) (i:R (.returned (.tuple #[v,u])) w):bodyPost P c R .ret a w:=by
 refine Fj ?_ g i;have d:a.tmps[t]?.getD undef=v:=by simpa using e
 have b:a.tmps[s]?.getD undef=u:=by simpa using f
 simp[results,h,d,b]
def aV {P c Q b a w d e pos i g} (t) {n f} (h:wpList P c Q (⟨d,.buildSlice t n f,e,pos,i,g⟩::b) a w):wpList P c Q (⟨d,.buildSlice t n f,e,pos,i,g⟩::b) a w:=h
def nZ {P e s} (h:(P.info? e).map (·.size)=some s) (w):(sizeOf e).run P w= .ok s w:=by
 cases a:P.info? e with
 |none=>simp[a]at h
 |some i=>
  have b:i.size=s:=by simpa[a]using h
  simp[sizeOf,typeInfo,a,b,go_sem]
def ai {P d o} (w t e x y) (q:o.op= .indexAddr t x y) (n:P.underlying t=some (.slice e)) (g) (p:(P.info? e).map (·.size)=some g) (b c a f) (m:d x= .slice (some ⟨b,c,none⟩) a f) (h i) (j:d y= .int h (i:Int)) (v:i<a) (k) (r:c+i*g=k):
 (execOp d o).run P w= .ok (.value (.pointer (some ⟨b,k,none⟩))) w:=by
 have s:((i:Int)<(a:Int)):=by omega
 have u:(0:Int)≤(i:Int):=by omega
 unfold execOp;simp only[q,m,j,Instr.indexAt,asIntOf,dN,Sem.run_pure,Result.andThen_ok,no n,aj (And.intro u s),nZ p,Int.toNat_natCast,vO,r]
def vlen:Value→Nat
 | .slice _ n _=>n
 |_=>0
def fH (m:Int):List Int:=(List.range 8).map (lL m)
def aX (m):(fH m).length=8:=by simp[fH]
def na (m):∀n∈fH m,CK.ok .u8 n:=by intro n hn;obtain⟨j,_,rfl⟩:=ft.1 hn;exact Th m j
def mU {w b m t} (h:w.heap[b]?=some (.cells (kX m) t (0,0))):Row w (some ⟨b,0,none⟩) .u8 (fH m):=by
 refine⟨fun i c=>⟨b,0,rfl,?_⟩,na m⟩;have a:i<8:=by rw[aX]at c;exact c
 rw[br w b (0+i) _ _ _ h,bY,fu,aN _ _ _ _ a];simp[fH,List.getD,a]
def zq (v:Value):Array Value:=#[v,.slice none 0 0,.slice none 0 0,.slice none 0 0,.int .i64 0]
def u_ (b:Nat) (l:List Int) (w:World):Prop:=∃v,w.heap[b]?=some (.cells (zq v) 65 (0,0))∧bc (b+1) v l w
def u_.size {b l w} (h:u_ b l w):b+1≤w.heap.size:=by
 obtain⟨v,a,_⟩:=h;by_cases c:b<w.heap.size
 ·exact c
 ·simp[AC (vI c)]at a
def u_.is {b l w v} (c:w.heap[b]?=some (.cells (zq v) 65 (0,0))) (a:bc (b+1) v l w):u_ b l w:=⟨v,c,a⟩
def JW {b:Nat} {v:Value} {w:World} (h:w.heap[b]?=some (.cells (zq v) 65 (0,0))):w.cell? ⟨b,0,none⟩=some v:=by rw[br w b 0 _ _ _ h];rfl
def dv:(prog.info? 39).map (·.size)=some 1:=by kernel_rfl
def P8 (b l m d c w) (h:u_ b l w) (n:Row w d .u8 m) (j:d=none→c=0) (a:l.length+m.length≤70368744177664):
 Calls prog 25 #[.pointer (some ⟨b,0,none⟩),.slice d m.length c] w fun e g=>e= .returned (.tuple #[])∧u_ b (l++m) g∧Below b w g:=by
 have s:=h.size;obtain⟨v,p,k⟩:=h;have o:=aa p;have y:=aa k;have f:=aa n;have u:=aa j;clear p k n j
 go_enter func25,ntmps25
 go_wp2_with (first
  |refine ag 39 ?_;refine dq (v:=v) (JW o.out) bF ?_ rfl rfl rfl rfl
  |refine be .append ?_;refine cB rfl (.tmp 8) (.tmp 9) rfl (b+1) l m v rfl y.out d c rfl f.out a s u.out (aP (b+1) w) ?_
   intro E H q r C
  |refine al 39 ?_;obtain⟨D,F,B,_⟩:=aW q;subst B
   refine aH rfl fun K z=>bt 39 _ _ rfl b 0 rfl _ rfl rfl dv _ _ ((r.block b (by omega)).trans o.out) (by simp[zq]) (fun G A i=>z _ _ ?_))
 exact g8 rfl rfl ⟨rfl,u_.is A (de q i (by omega)),i.below (r.mono (by omega)) bG (by omega)⟩
def mh (m):(kX m).all (·.oneCell')=true:=aA _ _ _
def Wy (b l m w) (h:u_ b l w) (s:l.length≤70368744170000):
 Calls prog 83 #[.pointer (some ⟨b,0,none⟩),.int .u64 m] w fun e f=>e= .returned (.tuple #[])∧u_ b (l++fH m) f∧Below b w f:=by
 have d:=h.size;obtain⟨v,p,j⟩:=h;have o:=aa p;have B:=aa j;clear p j;have C:=aa (qY m w)
 go_enter func83,ntmps83
 go_wp2_with (first
  |with_reducible refine C.out.mono ?_
   rintro e W ⟨rfl,k⟩;have c:=aa k;clear k
  |refine ao 184 ?_;refine aw rfl rfl 184 4 _ rfl rfl rfl (kX m) rfl rfl (zeroOf prog 184) (aG iA).1 (aG iA).2 (mh _) ?_)
 refine bO (fun a=>a.heap[b]?=some (.cells (zq v) 65 (0,0))∧bc (b+1) v l a∧a.heap[W.heap.size]?=some (.cells (kX m) 184 (0,0))∧Below (b+1) w a∧b+1≤W.heap.size∧a.heap.size=W.heap.size+1) ⟨?_,?_,ak _ _ _ _ rfl,?_,bg d c.out.size,by simp⟩ ?_
 ·exact aR _ _ _ _ ((c.out.block b (by omega)).trans o.out)
 ·exact(B.out.later c.out).later dt
 ·exact(c.out.mono d).alloc (bg d c.out.size) _
 intro a D;obtain⟨z,u,y,A,L,M⟩:=D;go_frame;clear c;generalize W.heap.size=n at*;refine dQ (S:=fun _=>True) (by kernel_rfl) ?_;have E:True:=trivial;have G:Below (b+1) w {a with drawn:=a.drawn+1}:=A.drew;refine GX 0 1 5 2 3 (.pointer (some ⟨b,0,none⟩)) (.pointer (some ⟨b,0,none⟩)) (.slice (some ⟨n,0,none⟩) 8 8) (.pointer (some ⟨b,0,none⟩)) (.pointer (some ⟨b,0,none⟩)) rfl (by kernel_rfl) (fun _=>by kernel_rfl) bH ‹_› ?_;go_frame;refine cQ (i:=4) rfl (by kernel_rfl) rfl (bV v (au _ 39 _ (by rfl) ⟨b,0,none⟩ (by rfl) v (JW z) _ bF rfl) ⟨trivial,?_⟩);go_frame;refine cQ (i:=6) rfl (by kernel_rfl) rfl (tv (.tmp 11) (.tmp 12) rfl (b+1) l (fH m) v rfl u (some ⟨n,0,none⟩) 8 (by rw[aX];rfl) (mU y) (by rw[aX];omega) (by show b+1≤a.heap.size;omega) (fun h=>by cases h) G (fun K P q r I=>⟨trivial,?_⟩));obtain⟨J,N,H,_⟩:=aW q;subst H;go_frame;have E:True:=trivial;refine kg 7 8 (.pointer (some ⟨b,0,none⟩)) (.pointer (some ⟨b,0,none⟩)) rfl (by kernel_rfl) (fun _=>by kernel_rfl) bH ‹_› ?_;go_frame;refine cQ (i:=9) rfl (by kernel_rfl) rfl (bt 39 _ _ rfl b 0 rfl _ rfl rfl dv _ _ ((r.block b (by omega)).trans o.out) (by simp[zq]) (fun O F g=>⟨trivial,?_⟩));refine dM (by kernel_rfl) ?_ _;exact g8 rfl rfl ⟨rfl,u_.is F (de q g (by omega)),g.below (r.mono (by omega)) bG (by omega)⟩
def yi {b:Nat} {v:Value} {w:World} (h:w.heap[b]?=some (.cells (zq v) 65 (0,0))) (j:Nat):w.cell? ⟨b,j,none⟩=(zq v)[j]?:=by rw[br w b j _ _ _ h]
def T2 (b l w) (h:u_ b l w) (g:l.length≤70368744177664):
 Calls prog 31 #[.pointer (some ⟨b,0,none⟩)] w fun e d=>(∃a c,e= .returned (.tuple #[.slice a l.length c,.int .i64 0])∧(a=none→c=0)∧bc (b+1) (.slice a l.length c) l d)∧Below b w d:=by
 have r:=h.size;obtain⟨v,p,k⟩:=h;obtain⟨a,c,e,o⟩:=aW k;subst e;have f:=aa p;have u:=aa k;have H:=aa o;clear p k o
 go_enter func31,ntmps31
 go_wp2_with (first
  |refine ag 41 ?_;refine dq (v:=(.int .i64 0)) (yi f.out 4) fU ?_ rfl rfl rfl rfl
  |refine ag 63 ?_;refine dq (v:=(.slice none 0 0)) (yi f.out 2) dZ ?_ rfl rfl rfl rfl)
 refine wp_loop_once ?_;go_wp2;rename_i K A;refine dQ (S:=fun d=>d.heap[b]?=some (.cells (zq (.slice a l.length c)) 65 (0,0))) (by kernel_rfl) ?_;have z:({w with drawn:=w.drawn+1}:World).heap[b]?=some (.cells (zq (.slice a l.length c)) 65 (0,0)):=f.out;have B:Below (b+1) w {w with drawn:=w.drawn+1}:=(aP _ _).drew;refine tw 0 4 1 5 2 6 (.pointer (some ⟨b,0,none⟩)) (.pointer (some ⟨b,0,none⟩)) (.pointer (some ⟨b,0,none⟩)) (.pointer (some ⟨b,0,none⟩)) (.pointer (some ⟨b,0,none⟩)) (.pointer (some ⟨b,1,none⟩)) rfl (by kernel_rfl) (fun _=>by kernel_rfl) bH ‹_› ?_;go_frame;refine aJ (i:=3) (v:=(.slice a l.length c)) rfl (by kernel_rfl) bH ‹_› (fun d j=>au _ 39 _ (by rfl) ⟨b,0,none⟩ (by rfl) _ (yi j 0) _ bF rfl) ?_;go_frame;refine aJ (i:=7) (v:=(.slice none 0 0)) rfl (by kernel_rfl) bH ‹_› (fun d j=>au _ 39 _ (by rfl) ⟨b,1,none⟩ (by rfl) _ (yi j 1) _ bF rfl) ?_;go_frame;refine cQ (i:=8) rfl (by kernel_rfl) rfl (tv (.tmp 61) (.tmp 65) rfl (b+1) l [] _ rfl u.out none 0 rfl ⟨fun i y=>absurd y (by simp),by simp⟩ (by simpa using g) r (fun _=>rfl) B (fun G E m n F=>⟨(n.block b (by omega)).trans f.out,?_⟩));rw[fZ]at m;obtain⟨q,D,C,s⟩:=aW m;subst C;go_frame;have z:E.heap[b]?=some (.cells (zq (.slice a l.length c)) 65 (0,0)):=(n.block b (by omega)).trans f.out;refine d5 9 (.slice q l.length D) rfl (by kernel_rfl) (fun _=>by kernel_rfl) bH ‹_› ?_;go_frame;refine aJ (i:=10) (v:=(.int .i64 0)) rfl (by kernel_rfl) bH ‹_› (fun d j=>by go_simp) ?_;go_frame;refine dM (by kernel_rfl) ?_ _;simp only[Exit.then];refine A _ _ ?_;go_wp2;exact bR rfl _ _ rfl rfl rfl ⟨⟨_,_,rfl,s,m⟩,n.mono (by omega)⟩
def DE (m w):
 Calls prog 108 #[.int .u64 m] w fun e d=>(∃a c,e= .returned (.slice a 8 c)∧(a=none→c=0)∧bc w.heap.size (.slice a 8 c) (fH m) d)∧Below w.heap.size w d:=by
 have n:=aa (rE m w)
 go_enter func108,ntmps108
 go_wp2_with (first
  |with_reducible refine n.out.mono ?_
   rintro e W ⟨rfl,g⟩;have b:=aa g;clear g
  |refine ao 184 ?_;refine aw rfl rfl 184 3 _ rfl rfl rfl (kX m) rfl rfl (zeroOf prog 184) (aG iA).1 (aG iA).2 (mh _) ?_
   have hn:=aa (ak W (kX m) 184 W.heap.size rfl);have i:=aa (b.out.alloc b.out.size (.cells (kX m) 184));have f:=i.out.size
  |refine be .append ?_;refine cB rfl (.tmp 6) (.tmp 7) rfl w.heap.size [] (fH m) _ rfl (bc.new (bg b.out.size (by simp)) [] (by decide) (ak _ _ _ _ (by simp))) (some ⟨W.heap.size,0,none⟩) 8 (by rw[aX];rfl) (mU (aR _ _ _ _ hn.out)) (by simp[aX]) (bg f (by simp)) (fun h=>by cases h) (i.out.alloc f _) ?_
   intro s u j q r;obtain⟨k,p,o,l⟩:=aW j
   subst o)
 exact cA rfl _ rfl rfl ⟨⟨k,p,by simp[aX],l,by simpa[aX]using j⟩,q⟩
end Go.Proofs.YtjeoeibdgciafaaGreatDoor
