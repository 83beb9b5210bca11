/- Steps of the proof. -/
import Derived.Deep.Slices
import Derived.Laws.BytesArg
import Derived.OpenShut
import Derived.ProofKit
import Derived.Shelf.Small.Bits
import Derived.Shelf.Strconv.Itoa0
import Derived.Stop.LaidErr
import Derived.Test.YtjeoeibdgciafaaGreatDoorCards
import Derived.Test.YtjeoeibdgciafaaGreatDoorProg
import Derived.Test.YtjeoeibdgciafaaGreatDoorRows
import Derived.Test.YtjeoeibdgciafaaGreatDoorTie
import Derived.Test.YtjeoeibdgciafaaGreatDoorM3
set_option linter.all false
set_option maxRecDepth 100000
set_option maxHeartbeats 16000000
namespace Go.Proofs.YtjeoeibdgciafaaGreatDoor
open Go.RowKit BigFrame
open Go.Proofs.Tryz
def gJ (A X B:List Int) (p k) (a:A.length=p) (b:X.length=k):((A++(X++B)).drop p).take k=X:=by subst a;subst b;rw[List.drop_left,List.take_left]
def Jq (m) (b:0≤m) (a:m≤18446744073709551615):p9 (fH m)=m:=by
 have e:fH m=[m%256,m/256%256,m/65536%256,m/16777216%256,m/4294967296%256,m/1099511627776%256,m/281474976710656%256,m/72057594037927936%256]:=by show [lL m 0,lL m 1,lL m 2,lL m 3,lL m 4,lL m 5,lL m 6,lL m 7]=_;unfold lL;simp
 rw[e];unfold p9;simp only[rdI,Sp,NI];simp;omega
def Jv (q) (f:q.length=8) (a:∀x∈q,CK.ok .u8 x):fH (p9 q)=q:=by
 match q,f with
 |[a0,d,a2,a3,a4,a5,c,b],_=>
  have o:0≤a0∧a0≤255:=a a0 (by simp);have m:0≤d∧d≤255:=a d (by simp);have l:0≤a2∧a2≤255:=a a2 (by simp);have k:0≤a3∧a3≤255:=a a3 (by simp);have j:0≤a4∧a4≤255:=a a4 (by simp);have i:0≤a5∧a5≤255:=a a5 (by simp);have h:0≤c∧c≤255:=a c (by simp);have g:0≤b∧b≤255:=a b (by simp);clear a
  have e:p9 [a0,d,a2,a3,a4,a5,c,b]=a0+d*256+a2*65536+a3*16777216+a4*4294967296+a5*1099511627776+c*281474976710656+b*72057594037927936:=by unfold p9;simp only[rdI,Sp,NI];simp
  rw[e];show [lL _ 0,lL _ 1,lL _ 2,lL _ 3,lL _ 4,lL _ 5,lL _ 6,lL _ 7]=_;unfold lL;simp only[xF,xB];refine⟨?_,?_,?_,?_,?_,?_,?_,?_⟩<;>simp<;>omega
def Ta (q) (b:q.length=8) (a:∀x∈q,CK.ok .u8 x):CK.ok .u64 (p9 q):=by have h:=CG (f:=fun j=>q.getD j 0) (fun j=>iu a j) 8;have e:(2:Int)^(8*8)=18446744073709551616:=rfl;rw[e]at h;show 0≤p9 q∧p9 q≤18446744073709551615;unfold p9;omega
def tG (r) (l:List Int) (o p n) (h:∀j,j<n→r (o+j)=l.getD (p+j) 0) (hl:p+n≤l.length):ff r o n=(l.drop p).take n:=by
 apply mG;intro i;by_cases c:i<n
 ·simp only[ff,Ax,So c,Option.map_some,Aw,aj c,qD,h i c]
  rw[List.getD,fS (show p+i<l.length by omega)];rfl
 ·rw[eT (by rw[az];omega),eT (by rw[cf];omega)]
def OR (l:List Int) (p k) (h:p+k=l.length):(l.drop p).take k=l.drop p:=kL (by rw[bJ];omega)
def oW (l:List Int) (p k q) (h:p+k=q):(l.drop p).take k++l.drop q=l.drop p:=by rw[←h,←lO,jI]
def jO {l:List Int} (h:∀x∈l,CK.ok .u8 x) (p k):∀x∈(l.drop p).take k,CK.ok .u8 x:=fun x a=>h x (kM (oH a))
structure Law (n:Nat) (w:World) (bs:List (Nat×Array Value×TypeId)) (ss:List Pt) (W:World):Prop where
 hB:Below n w W
 hz:n≤W.heap.size
 hb:∀p∈bs,W.heap[p.1]?=some (.cells p.2.1 p.2.2 (0,0))
 hs:∀p∈ss,cG p.1 p.2.1 p.2.2.2 W∧p.2.2.2.length=p.2.2.1
 hT:cY W
section
variable {n:Nat} {w W W':World} {bs:List (Nat×Array Value×TypeId)} {ss:List Pt}
theorem Law.later (h:Law n w bs ss W) (b:Below W.heap.size W W'):Law n w bs ss W':=⟨h.hB.trans (b.mono h.hz),bg h.hz b.size,fun p a=>(b.block p.1 (aD (h.hb p a))).trans (h.hb p a),fun p a=>⟨(h.hs p a).1.later b,(h.hs p a).2⟩,h.hT.below h.hT.size b⟩
theorem Law.s4 (h:Law n w bs ss W) (C t):Law n w (bs++[(W.heap.size,C,t)]) ss (W.alloc (.cells C t)):=by
 have b:=h.later (W':=W.alloc (.cells C t)) dt;refine⟨b.hB,b.hz,fun p a=>?_,b.hs,b.hT⟩;rcases iD.1 a with a|a
 ·exact b.hb p a
 ·rw[jJ.1 a];exact ak _ _ _ _ rfl
theorem Law.ld (h:Law n w bs ss W) {b c k m} (hs:cG b c m W) (d:m.length=k):Law n w bs (ss++[(b,c,k,m)]) W:=
 ⟨h.hB,h.hz,h.hb,fun p a=>by
   rcases iD.1 a with a|a
   ·exact h.hs p a
   ·rw[jJ.1 a];exact⟨hs,d⟩,h.hT⟩
theorem Law.sl (h:Law n w bs ss W) (i:Nat) {a:Option Addr} {c k:Nat} {m:List Int} (b:ss[i]?=some (a,c,k,m)):cG a c m W:=(h.hs _ (rY b)).1
theorem Law.len (h:Law n w bs ss W) (i:Nat) {a:Option Addr} {c k:Nat} {m:List Int} (b:ss[i]?=some (a,c,k,m)):m.length=k:=(h.hs _ (rY b)).2
theorem Law.bx (h:Law n w bs ss W) (i:Nat) {b:Nat} {C:Array Value} {t} (a:bs[i]?=some (b,C,t)):W.heap[b]?=some (.cells C t (0,0)):=h.hb _ (rY a)
theorem dW {g o} (x) (z:o.op= .convert 39 9 x) (h:Law n w bs ss W) (i:Nat) {a:Option Addr} {c k:Nat} {m:List Int} (q:ss[i]?=some (a,c,k,m)) (u:g x= .slice a k c):
 (execOp g o).run prog W= .ok (.value (.string (strOfNums m))) W:=by
 have hs:=h.sl i q;have p:=h.len i q
 have f:(convert 39 9 (.slice a k c)).run prog W= .ok (.string (strOfNums m)) W:=by
  by_cases r:a=none
  ·subst r
   have d:m=[]:=by
    cases m with
    |nil=>rfl
    |cons y B=>obtain⟨b,l,e,_⟩:=hs.row.cell 0 (by simp);cases e
   subst d;exact run_convert_bytes_nil W 39 5 bF sE k c 9 uN9
  ·obtain⟨s,rfl⟩:=Option.ne_none_iff_exists'.1 r
   by_cases d:m=[]
   ·subst d
    subst p;have:=run_convert_bytes_arg W 39 5 bF sE;have hl:(loadCells s 0).run prog W= .ok #[] W:=by simp[loadCells,go_sem]
    rw[run_convert_bytes_string W 39 9 5 _ _ c bF sE uN9];exact(run_bytesToString W s 0 c [] (by simpa using hl)).trans rfl
   ·have v:0<m.length:=List.length_pos_iff.2 d
    obtain⟨b,l,e,_⟩:=hs.row.cell 0 v;cases e
    exact run_convert_bytes_arg W 39 5 bF sE b l k c m p (fun j D=>by
     obtain⟨E,C,A,f⟩:=hs.row.cell j (by omega);cases A
     exact f) 9 uN9
 unfold execOp;simp only[z,u,dN,f,Result.andThen_ok,Sem.run_pure]
theorem fm {P c Q b a w d e pos f g} (s t) {x} (h:wpList P c Q (⟨d,.convert s t x,e,pos,f,g⟩::b) a w):wpList P c Q (⟨d,.convert s t x,e,pos,f,g⟩::b) a w:=h
theorem LU {P e Q c a w d f pos j g} (b t) {x y i} (h:wpList P e Q (⟨d,.binOp b t x y i,f,pos,j,g⟩::c) a w):wpList P e Q (⟨d,.binOp b t x y i,f,pos,j,g⟩::c) a w:=h
theorem UK (v) (h:∃k m,v=CK.mk k m):eqv v v=true:=by obtain⟨k,m,rfl⟩:=h;cases k<;>simp[CK.mk,eqv]
theorem yP:∀(l:List Value),(∀v∈l,∃k m,v=CK.mk k m)→eqCells l l=true
 |[],_=>rfl
 |v::l,h=>by show (eqv v v&&eqCells l l)=true;rw[UK v (h v (by simp)),yP l fun u a=>h u (by simp[a])];rfl
theorem Qz (N a f):eqCells (ae N a f) (ae N a f)=true:=
 yP _ fun v b=>by obtain⟨j,_,rfl⟩:=ft.1 b;exact⟨_,_,rfl⟩
theorem Tn (N a f):fits ((List.range N).map fun j=>(a j).lk) (ae N a f):=OL N a _ (ac _ _ _) fun j b=>⟨_,aN _ _ _ _ b⟩
theorem Nj (a):lT prog 25 a= .agg a.toArray:=by unfold lT;rw[cH]
theorem MJ:prog.eqGuardType prog.depth 25=false:=by kernel_rfl
theorem Mz:leafs prog 10 25=some ((List.range 32).map fun _=>CK.lk .u8):=by kernel_rfl
theorem rK {a o} (W x y) (e:o.op= .binOp .neq 25 x y 25) (r q b) (d:a x= .agg (ax r)) (c:a y= .agg (ax q)) (f:eqCells (ae 32 (fun _=> .u8) r) (ae 32 (fun _=> .u8) q)= !b):
 (execOp a o).run prog W= .ok (.value (.bool b)) W:=by
 rw[Kf W 25 25 x y e (ae 32 (fun _=> .u8) r) (ae 32 (fun _=> .u8) q) d c Nj MJ 10 _ Mz (by decide) (Tn 32 (fun _=> .u8) r) (Tn 32 (fun _=> .u8) q),f];simp
end
def Law.start {w} (b:cY w):Law w.heap.size w [] [] w:=⟨aP _ _,cD _,(fun p a=>by simp at a),(fun p a=>by simp at a),b⟩
def UD (l:List Int) (x j) (h:j<l.length):(l++[x]).getD j 0=l.getD j 0:=by simp only[List.getD,eY h]
def cG.pre {g c l x W} (h:cG (some ⟨g,0,none⟩) c (l++[x]) W):cG (some ⟨g,0,none⟩) c l W:=by refine⟨⟨fun j d=>?_,fun m a=>h.row.ok m (by simp[a])⟩,h.nil,by have:=h.cap;simp at this;omega,h.low⟩;obtain⟨b,o,e,f⟩:=h.row.cell j (by simp;omega);exact⟨b,o,e,by rw[f,UD l x j d]⟩
def cG.last {g c l x W} (h:cG (some ⟨g,0,none⟩) c (l++[x]) W):W.cell? ⟨g,l.length,none⟩=some (.int .u8 x):=by obtain⟨b,o,e,a⟩:=h.row.cell l.length (by simp);cases e;rw[bY]at a;rw[a];simp[List.getD,CK.mk]
def cG.Y9 {f v l x W} (h:bc f v (l++[x]) W) (hl:∀m∈l,CK.ok .u8 m) (j:CK.ok .u8 x):∃g c,v= .slice (some ⟨g,0,none⟩) (l.length+1) c∧l.length+1≤c∧cG (some ⟨g,0,none⟩) c (l++[x]) W:=by
 have n:∀m∈l++[x],CK.ok .u8 m:=fun m d=>by
  rcases iD.1 d with d|d
  ·exact hl m d
  ·rw[jJ.1 d];exact j
 obtain⟨b,c,e,_,i,k⟩:=Hn h n (by simp);have a:(l++[x]).length=l.length+1:=by simp
 rw[a]at e i;subst e;exact⟨b,c,rfl,i,k,(fun e=>by cases e),by rw[a];exact i,fun p o e=>by cases e;exact rO h (by simp)⟩
def rN (r):eqCells (ae 32 (fun _=> .u8) r) (ae 32 (fun _=> .u8) r)= !false:=Qz 32 _ r
structure rp (n:Nat) (w:World) (bs:List (Nat×Array Value×TypeId)) (ss:List Pt) (Hs:List (World→Prop)) (W:World):Prop extends Law n w bs ss W where
 hH:∀H∈Hs,H W∧∀W1 W2,H W1→Below W1.heap.size W1 W2→H W2
section
variable {n:Nat} {w W W':World} {bs:List (Nat×Array Value×TypeId)} {ss:List Pt} {Hs:List (World→Prop)}
theorem rp.start {w} (b:cY w):rp w.heap.size w [] [] [] w:=⟨Law.start b,fun p a=>by simp at a⟩
theorem rp.later (h:rp n w bs ss Hs W) (b:Below W.heap.size W W'):rp n w bs ss Hs W':=⟨h.toLaw.later b,fun H a=>⟨(h.hH H a).2 _ _ (h.hH H a).1 b,(h.hH H a).2⟩⟩
theorem rp.s4 (h:rp n w bs ss Hs W) (C t):rp n w (bs++[(W.heap.size,C,t)]) ss Hs (W.alloc (.cells C t)):=⟨h.toLaw.s4 C t,(h.later dt).hH⟩
theorem rp.ld (h:rp n w bs ss Hs W) {a c k m} (hs:cG a c m W) (b:m.length=k):rp n w bs (ss++[(a,c,k,m)]) Hs W:=⟨h.toLaw.ld hs b,h.hH⟩
theorem rp.wz (h:rp n w bs ss Hs W) {H} (e:H W) (d:∀b c,H b→Below b.heap.size b c→H c):rp n w bs ss (Hs++[H]) W:=
 ⟨h.toLaw,fun G a=>by
   rcases iD.1 a with a|a
   ·exact h.hH G a
   ·rw[jJ.1 a];exact⟨e,d⟩⟩
theorem rp.get (h:rp n w bs ss Hs W) (i:Nat) {H} (a:Hs[i]?=some H):H W:=(h.hH H (rY a)).1
end
end Go.Proofs.YtjeoeibdgciafaaGreatDoor
namespace Go.Proofs.YtjeoeibdgciafaaGreatDoor
open Go.ChangeShapes Go.WideShapes Go.ChangeAt Go.RowKit
open Go.Proofs.Tryz
def Tryz.own:ownKnob prog.godebug=none:=by kernel_rfl
def Tryz.laidOut:laidOutB prog=true:=by kernel_rfl
def chk2 (P:Program) (w:World):List TypeId→List Value→Bool
 |[],[]=>true
 |u::us,v::a=>Cell.okWideB P w u v&&chk2 P w us a
 |_,_=>false
def JV {P:Program} {w:World}:∀{b:List TypeId} {a:List Value},chk2 P w b a=true→b.length=a.length∧∀(i:Nat) v u,a[i]?=some v→b[i]?=some u→Cell.okWideB P w u v=true
 |[],[],_=>⟨rfl,fun i v u h=>by simp at h⟩
 |[],_::_,h=>by simp[chk2]at h
 |_::_,[],h=>by simp[chk2]at h
 |u::b,v::a,h=>by
  simp only[chk2,nQ]at h;obtain⟨j,g⟩:=JV h.2;refine⟨by simp[j],fun i e f c d=>?_⟩;cases i with
  |zero=>simp only[List.getElem?_cons_zero,xC]at c d;rw[←c,←d];exact h.1
  |succ i=>exact g i e f (by simpa using c) (by simpa using d)
def rowB2 (P:Program) (w:World) (t:TypeId) (b:List Value):Bool:=match P.cellTypes P.depth t with|some a=>chk2 P w a b|none=>false
def D8 {P w t a} (h:rowB2 P w t a.toList=true):Cell.okWideRowB P w t a=true:=by
 unfold rowB2 at h;unfold Cell.okWideRowB;split at h
 ·rename_i b f
  obtain⟨hl,g⟩:=JV h;have c:b.length=a.size:=by simpa using hl
  rw[f];simp only[nQ,xA,nn,rW];refine⟨by rw[c];exact Nat.mod_self _,fun i d=>?_⟩;have e:b[i]?=some b[i]:=fS (by omega);have j:a[i]?=some a[i]:=oL d;rw[c,ND d,e,j];exact g i _ _ (by simp) e
 ·cases h
def uc {P w t a d} (b:P.underlying t=some d) (c:d.isRow=true) (hs:(a.size==P.cellsOf t)=true) (h:rowB2 P w t a.toList=true):Value.okWideB P w t (.agg a)=true:=by unfold Value.okWideB;rw[b];cases d<;>simp_all [TypeDesc.isRow,D8]
def Mv {P w f b a} (h:(P.inits.idxOf? f).isNone=true) (i:P.funcs[f]?=some b) (hs:(b.body.isSome&& !b.ours&&b.nfree==0&&a.size==b.params.size)=true) (e:∀(j:Nat) t v,b.params[j]?=some t→a[j]?=some v→Value.okWideB P w t v=true):Input.okWideB P w f ⟨#[],a,[]⟩=true:=by
 unfold Input.okWideB;simp only[h,i,hs,Bool.and_true,Bool.true_and,List.isEmpty_nil,List.all_nil,nn,rW];intro j g;have k:a.size=b.params.size:=by simp only[nQ,xA]at hs;exact hs.2
 have d:b.params[j]?=some b.params[j]:=oL g;have c:a[j]?=some a[j]:=oL (by omega);rw[d,c];exact e j _ _ d c
def qm {H:Type} {c:TypeId×Value→H} {P f} {s:ChangeSpec} {e l g m W n d v q o a pa pv} (hW:DataW.Whole c P f.params.toList s.vars e W d.toList q o a) (z:∀(b:Nat) (k:Nat→Bool) (G:Bool),DataW.TrodAll c P n b k G f.resultTypes.toList (v.resultList f.resultTypes.size) (s.fn H (q++o)).results []) (C:∀k:Nat→Bool,(∀p∈a,k p.block=true)→DataW.TrodAll c P n 0 k true f.params.toList d.toList (s.fn H (q++o)).args pa) (y:∀k:Nat→Bool,(∀p∈a,k p.block=true)→DataW.TrodVars c P n k s.vars (s.fn H (q++o)).vars pv) (w:a=pa++pv) (B:Below W.heap.size W n) (E:∀(j:Nat) (t:TypeId) (r:Value),f.resultTypes[j]?=some t→(v.resultList f.resultTypes.size)[j]?=some r→Value.okWide P n .any 0 t r):
 s.post c P f e l g m W d v n:=by
 have F:=hW.lt;have i:∀p∈a,(fun b=>decide (b<W.heap.size)) p.block=true:=fun p h=>by simpa using hW.lt p h
 refine⟨q,o,a,[],pa,pv,hW,z _ _ _,C _ i,y _ i,World.keptBut_mono (fun p h=>⟨h,?_⟩) (B.frame (· ∈a)),fun _=>?_⟩
 ·rw[w,iD]at h
  exact Or.inr h
 ·obtain⟨_,_,_,_,_,D,hn⟩:=hW
  refine⟨E,_,_,([]++pa)++pv,⟨[]++pa,pv,trodAll_append (C _ (fun _ _=>rfl)) (z _ _ _),y _ (fun _ _=>rfl),rfl,?_,?_⟩,?_⟩
  ·intro b u h
   have A:MemPlace.cell b u∈a:=by rw[w];simpa using h
   rw[B.frozen (F _ A)];exact D b u A
  ·intro ha
   have:=hn ha;rw[w]at this;simpa using this
  ·intro p h _
   rw[w];simpa using h
end Go.Proofs.YtjeoeibdgciafaaGreatDoor
namespace Go.Proofs.YtjeoeibdgciafaaGreatDoor
open Go.RowKit Go.ChangeShapes Go.WideShapes Go.Deep
open Go.Proofs.Tryz
def leafTF (P:Program) (g:TypeId→Option (List TypeId)):List Field→Nat→Option (List TypeId)
 |[],_=>some []
 |f::fs,off=>if f.offset !=off then none else
  match g f.type with
  |some l=>if P.cellsOf f.type==l.length then(leafTF P g fs (off+l.length)).map (l++ ·)else none
  |none=>none
def leafT (P:Program):Nat→TypeId→Option (List TypeId)
 |0,_=>none
 |d+1,t=>match P.underlying t with
  |some (.array n e)=>match leafT P d e with
   |some l=>if P.cellsOf e==l.length then some (List.replicate n l).flatten else none
   |none=>none
  |some (.struct fs)=>leafTF P (leafT P d) fs.toList 0
  |some _=>some [t]
  |none=>none
section
variable {H:Type} {enc:TypeId×Value→H} {P:Program} {w:World} {base:Nat} {spare:Nat→Bool} {held:Bool}
def ti (enc:TypeId×Value→H) (P:Program) (w:World) (base:Nat) (spare:Nat→Bool) (held:Bool):List TypeId→List Value→Prop
 |[],[]=>True
 |t::c,v::b=>(∃a x,DataW.trod enc P w base spare held a t [v]=some x)∧ti enc P w base spare held c b
 |_,_=>False
theorem yE:∀{ts:List TypeId} {cs:List Value},ti enc P w base spare held ts cs→cs.length=ts.length
 |[],[],_=>rfl
 |_::ts,_::cs,h=>by simp[yE (ts:=ts) (cs:=cs) h.2]
theorem rH:∀{a b:List TypeId} {cs c:List Value},ti enc P w base spare held a cs→ti enc P w base spare held b c→ti enc P w base spare held (a++b) (cs++c)
 |[],_,[],_,_,h=>h
 |_::a,_,_::cs,_,h,k=>⟨h.1,rH (a:=a) (cs:=cs) h.2 k⟩
theorem Fy:∀{b:List TypeId} {c:List Value},ti enc P w base spare held b c→∀(i:Nat) (t:TypeId),b[i]?=some t→∃v,c[i]?=some v∧∃a x,DataW.trod enc P w base spare held a t [v]=some x
 |t::b,v::c,h,0,u,hi=>by simp at hi;subst hi;exact⟨v,rfl,h.1⟩
 |t::b,v::c,h,i+1,u,hi=>by obtain⟨d,f,e⟩:=Fy h.2 i u (by simpa using hi);exact⟨d,by simpa using f,e⟩
theorem Fx {a t b} {x:DataW H×List MemPlace} {d} (c:P.underlying t=some d) (e:d.isRow=false) (h:DataW.trod enc P w base spare held a t b=some x):∃v,b=[v]:=by
 cases a with
 |zero=>simp[DataW.trod]at h
 |succ n=>unfold DataW.trod at h;rw[c]at h;cases d<;>simp[TypeDesc.isRow]at e<;>(split at h<;>first|(exact⟨_,rfl⟩)|(simp_all;done)|simp_all)
theorem Ba (g:TypeId→Option (List TypeId)) (d:List Value):∀(c:List Field) (a:Nat) (l:List TypeId),leafTF P g c a=some l→
 (∀f∈c,∀b,g f.type=some b→P.cellsOf f.type=b.length→ti enc P w base spare held b ((d.drop f.offset).take (P.cellsOf f.type)))→a+l.length=d.length→ti enc P w base spare held l (d.drop a)
 |[],a,l,h,_,hl=>by simp only[leafTF,xC]at h;subst h;simp at hl;rw[NK (by omega)];trivial
 |f::c,a,l,h,hf,hl=>by
  unfold leafTF at h;split at h
  ·cases h
  ·rename_i i
   simp only[E6,ne_eq,SC]at i;split at h
   ·rename_i b o
    split at h
    ·rename_i hs
     have e:P.cellsOf f.type=b.length:=by simpa using hs
     obtain⟨m,n,rfl⟩:=Sg.1 h;have k:=hf f (by simp) b o e;rw[i,e]at k;have j:=Ba g d c (a+b.length) m n (fun q p=>hf q (by simp[p])) (by simp at hl;omega);rw[←lO]at j;have:=rH k j
     rwa [jI]at this
    ·cases h
   ·cases h
theorem DW (l:List TypeId) (a:List Value):∀(k i:Nat),(∀j,i≤j→j<i+k→ti enc P w base spare held l ((a.drop (j*l.length)).take l.length))→(i+k)*l.length=a.length→
 ti enc P w base spare held (List.replicate k l).flatten (a.drop (i*l.length))
 |0,i,_,hl=>by rw[NK (by simp at hl;omega)];trivial
 |k+1,i,h,hl=>by have c:=h i (by omega) (by omega);have b:=DW l a k (i+1) (fun j e d=>h j (by omega) (by omega)) (by rw[←hl];congr 1;omega);rw[show (i+1)*l.length=i*l.length+l.length by rw[Fa,NB],←lO]at b;have:=rH c b;rw[jI]at this;rw[List.replicate_succ,List.flatten_cons];exact this
theorem wJ:∀(d:Nat) (t:TypeId) (l:List TypeId),leafT P d t=some l→P.cellsOf t=l.length→∀(b:Nat) (g:List Value) (x:DataW H×List MemPlace),DataW.trod enc P w base spare held b t g=some x→
 ti enc P w base spare held l g
 |0,t,l,h=>by simp[leafT]at h
 |d+1,t,l,h=>by
  intro A b g x k;unfold leafT at h;split at h
  ·rename_i n e c
   split at h
   ·rename_i o p
    split at h
    ·rename_i hs
     cases h;have y:P.cellsOf e=o.length:=by simpa using hs
     obtain⟨u,m,_,_,a,C,s⟩:=DataW.trod_array c k
     have:=DW (enc:=enc) (P:=P) (w:=w) (base:=base) (spare:=spare) (held:=held) o g n 0 (fun j _ M=>by
      have F:j<n:=by omega
      have:=s j F;rw[y,fS (by omega)]at this
      exact wJ d e o p y m _ _ this) (by rw[a,A];simp)
     simpa using this
    ·cases h
   ·cases h
  ·rename_i I c
   obtain⟨u,m,_,_,a,C,G⟩:=DataW.trod_struct c k
   have:=Ba (enc:=enc) (w:=w) (base:=base) (spare:=spare) (held:=held) (leafT P d) g I.toList 0 l h (fun f r B E D=>by
    obtain⟨i,z⟩:=Sm.1 r;have:=G i f (by simpa using z)
    have q:i<u.length:=by have:=(io.1 z).1;simp at this;omega
    rw[fS q]at this
    exact wJ d f.type B E D m _ _ this) (by rw[a,A];simp)
   simpa using this
  ·rename_i J K L c
   cases h;obtain⟨v,rfl⟩:=Fx c (by cases J<;>simp_all [TypeDesc.isRow]) k;exact⟨⟨b,x,k⟩,trivial⟩
  ·cases h
theorem Addr.ext' {a:Addr} (h:a.spot=none):a=⟨a.block,a.off,none⟩:=by
 cases a;subst h;rfl
def CK.isB (P:Program) (t:TypeId):CK→Bool
 | .u8=>match P.underlying t with|some (.int .u8)=>true|_=>false
 | .u64=>match P.underlying t with|some (.int .u64)=>true|_=>false
 | .bool=>match P.underlying t with|some .bool=>true|_=>false
theorem Gy {f t v} {x:DataW H×List MemPlace} {c} (a:CK.isB P t c=true) (h:DataW.trod enc P w base spare held f t [v]=some x):v=c.mk (num v)∧c.ok (num v):=by
 cases c
 ·simp only[CK.isB]at a
  split at a
  ·rename_i d
   obtain⟨n,e,_,g⟩:=DataW.trod_int d h;cases e;simp[Lit.wf,IntKind.min,IntKind.max,IntKind.signed,IntKind.bits]at g;exact⟨rfl,by simp only[CK.ok,num];omega⟩
  ·cases a
 ·simp only[CK.isB]at a
  split at a
  ·rename_i d
   obtain⟨n,e,_,g⟩:=DataW.trod_int d h;cases e;simp[Lit.wf,IntKind.min,IntKind.max,IntKind.signed,IntKind.bits]at g;exact⟨rfl,by simp only[CK.ok,num];omega⟩
  ·cases a
 ·simp only[CK.isB]at a
  split at a
  ·rename_i d
   obtain⟨b,e,_⟩:=DataW.trod_bool d h;cases e;cases b<;>exact⟨rfl,by simp[CK.ok,num]⟩
  ·cases a
def Vb (P:Program) (d:Nat) (e:TypeId) (a:Nat) (b:Nat→CK):Bool:=
 match leafT P d e with
 |some l=>l.length==a&&P.cellsOf e==a&&(List.range a).all fun j=>CK.isB P (l.getD j 0) (b j)
 |none=>false
theorem uK {d e g i} (b:Vb P d e g i=true) {a c} {x:DataW H×List MemPlace} (h:DataW.trod enc P w base spare held a e c=some x):
 c.length=g∧∀j,j<g→∃v,c[j]?=some v∧v=(i j).mk (num v)∧(i j).ok (num v):=by
 unfold Vb at b;split at b
 ·rename_i l hl
  simp only[nQ,xA,nn,rW]at b;obtain⟨⟨q,r⟩,p⟩:=b;have k:=wJ d e l hl (by omega) a c x h;refine⟨by rw[yE k,q],fun j o=>?_⟩;obtain⟨v,n,f,y,m⟩:=Fy k j (l.getD j 0) (by simp[List.getD,show j<l.length by omega]);exact⟨v,n,Gy (p j o) m⟩
 ·cases b
theorem FA {t e d c z} (O:P.underlying t=some (.slice e)) (C:Vb P d e c z=true) (K:P.cellsOf e=c) (U:0<c) {y v} {x:DataW H×List MemPlace} (h:DataW.trod enc P w base spare held y t [v]=some x):∃I g l,v= .slice I l.length g∧Rows w I c z l∧l.length≤9223372036854775807:=by
 rcases open_slice O h with⟨q,_⟩|⟨a,b,g,m,n,D,X,q,W,hl,S,G,_,A⟩
 ·simp only[xF,xB]at q
  exact⟨none,0,[],q,⟨fun i o=>by simp at o,fun f F=>by simp at F⟩,by simp⟩
 ·simp only[xF,xB]at q
  have V:b≤m:=by rw[G];split<;>omega
  refine⟨some a,g,(List.range b).map fun i j=>num ((w.cell? (a.add (i*c+j))).getD undef),by simpa using q,⟨?_,?_⟩,by simp[maxLen]at S ⊢;omega⟩
  ·intro i o
   have M:i<b:=by simpa using o
   have B:a=⟨a.block,a.off,none⟩:=by
    obtain⟨u,s,r⟩:=A 0 (by omega);obtain⟨L,p⟩:=uK C r;obtain⟨J,k,_⟩:=p 0 U;have:=(NQ s).2.2 0 (by omega);rw[k]at this;simp only[E8,Addr.add,pC]at this
    have hs:a.spot=none:=by
     unfold World.cell? at this;split at this
     ·split at this
      ·cases this
      ·rename_i R
       simpa using R
     ·cases this
    exact Addr.ext' hs
   refine⟨a.block,a.off,by rw[←B],fun j E=>?_⟩;obtain⟨u,s,r⟩:=A i (by omega);obtain⟨L,p⟩:=uK C r;obtain⟨J,k,T,_⟩:=p j E;have:=(NQ s).2.2 j (by omega);rw[k,add_add,K,B]at this
   have N:(⟨a.block,a.off,none⟩:Addr).add (i*c+j)=⟨a.block,a.off+i*c+j,none⟩:=by rw[vO,oF]
   rw[N]at this;rw[this];simp only[List.getD,Ax,So M,Option.map_some,Option.getD_some];rw[B,N,this,Option.getD_some];exact fB some T
  ·intro f F j E
   obtain⟨i,o,rfl⟩:=ft.1 F;have M:i<b:=by simpa using o
   obtain⟨u,s,r⟩:=A i (by omega);obtain⟨L,p⟩:=uK C r;obtain⟨J,k,_,Q⟩:=p j E;have:=(NQ s).2.2 j (by omega);rw[k,add_add,K]at this;show (z j).ok (num ((w.cell? (a.add (i*c+j))).getD undef));rw[this];exact Q
theorem Jl {t e d c} (q:P.underlying t=some (.slice e)) (s:Vb P d e 1 (fun _=>c)=true) (r:P.cellsOf e=1) {g v} {x:DataW H×List MemPlace} (h:DataW.trod enc P w base spare held g t [v]=some x):∃j a l,v= .slice j l.length a∧Row w j c l∧l.length≤9223372036854775807:=by
 obtain⟨j,a,l,p,k,hl⟩:=FA q s r (by omega) h;refine⟨j,a,l.map (· 0),by simpa using p,⟨fun i u=>?_,fun n hn=>?_⟩,by simpa using hl⟩
 ·have m:i<l.length:=by simpa using u
  obtain⟨b,o,e,z⟩:=k.cell i m;refine⟨b,o,e,?_⟩;have:=z 0 (by omega);simp only[As,Nat.add_zero]at this;rw[this];simp[List.getD,m]
 ·obtain⟨f,y,rfl⟩:=ft.1 hn
  exact k.ok f y 0 (by omega)
end
end Go.Proofs.YtjeoeibdgciafaaGreatDoor
namespace Go.Proofs.YtjeoeibdgciafaaGreatDoor
open Go.RowKit Go.ChangeShapes Go.WideShapes Go.ChangeAt Go.Deep BigFrame
open Go.Proofs.Tryz
def Vr:List Int:=(List.range 64).map fun t=>wi (tk t)
def Yq:List Int:=(List.range 8).map fun j=>wi (ip.at j)
def agd:(Rows.laid_pharos_pharosref02_constants:DataW Unit)=Lib.tabData .u32 Vr:=by kernel_rfl
def age:(Rows.laid_pharos_sha_start:DataW Unit)=Lib.tabData .u32 Yq:=by kernel_rfl
def gK:prog.globalNamed "pharos/pharosref02.constants" =some 2:=by kernel_rfl
def gI:prog.globalNamed "pharos/sha.start" =some 0:=by kernel_rfl
def gR:prog.globalNamed "pharos/sha.round" =some 1:=by kernel_rfl
def gtK:(prog.globals[2]?).map (·.type)=some 247:=by kernel_rfl
def gtI:(prog.globals[0]?).map (·.type)=some 223:=by kernel_rfl
def gtR:(prog.globals[1]?).map (·.type)=some 247:=by kernel_rfl
def Zv:prog.cellsOf 222=1:=by kernel_rfl
def ac9:prog.cellsOf 247=64:=by kernel_rfl
def ca8:prog.cellsOf 223=8:=by kernel_rfl
def X8:List (String×DataW Unit):=[("pharos/pharosref02.constants",Rows.laid_pharos_pharosref02_constants),("pharos/sha.start",Rows.laid_pharos_sha_start),("pharos/sha.round",Rows.laid_pharos_sha_round)]
def Og (t) (h:t<64):Vr.getD t 0=wi (tk t):=by unfold Vr;simp[List.getD,h]
def Wg (t) (h:t<8):Yq.getD t 0=wi (ip.at t):=by unfold Yq;simp[List.getD,h]
def Hk {W} (e:laidMetH prog X8 W):cY W:=by
 have h:laidMet prog [("pharos/pharosref02.constants",Lib.tabData .u32 Vr),("pharos/sha.start",Lib.tabData .u32 Yq),("pharos/sha.round",Lib.tabData .u32 Vr)] W:=by rw[←age,←agd];exact e
 have a:=SA gK gtK underlying247 IV Zv ac9 h;have b:=SA gI gtI IU IV Zv ca8 h.tail;have c:=SA gR gtR underlying247 IV Zv ac9 h.tail.tail;have f:Vr.length=64:=by simp[Vr]
 have g:Yq.length=8:=by simp[Yq]
 exact⟨fun j d=>by rw[b.cell gI j (by omega),Wg j d],fun j d=>by rw[c.cell gR j (by omega),Og j d],fun j d=>by rw[a.cell gK j (by omega),Og j d]⟩
def Za (a:List Int):Obj→Obj
 | .cells _ t frozen=> .cells (a.map fun z=>Value.int .u32 z).toArray t frozen
 |o=>o
noncomputable def iV (a:Os):World:={World.holding prog a ⟨#[],#[],[]⟩with heap:=(((World.holding prog a ⟨#[],#[],[]⟩).heap.modify 2 (Za Vr)).modify 0 (Za Yq)).modify 1 (Za Vr)}
def Hl (b a):laidMetH prog X8 ((iV b).forCall (fun _ _=>0) ⟨#[],a,[]⟩).memory:=laidMet_of_run' 8 (by kernel_rfl) (by kernel_rfl)
def XX:prog.cellsOf 5=1:=by kernel_rfl
def adW:Vb prog 10 5 1 (fun _=> .u8)=true:=by kernel_rfl
def U1 {H:Type} (d:DataW H):1≤Rows.uptoBulk d:=by
 cases d with
 |lit l=>cases l<;>simp[Rows.uptoBulk]
 |_=>simp[Rows.uptoBulk]
def yy {H:Type}:∀l:List (DataW H),l.length≤Rows.uptoBulkAll l
 |[]=>qB _
 |x::r=>by have b:=U1 x;have a:=yy r;simp only[Rows.uptoBulkAll,List.length_cons];omega
def wS {H:Type} {q:TypeId×Value→H} {W i z d f g v} {x:DataW H×List MemPlace} (h:DataW.trod q prog W i d f g 39 [v]=some x) (k:Value.okWide prog W .any z 39 v):
 ∃j c l,v= .slice j l.length c∧cG j c l W∧l.length≤Rows.uptoBulk x.1:=by
 obtain⟨j,c,l,rfl,s,_⟩:=Jl bF adW XX h;simp only[Value.okWide,bF,Cell.okWide]at k
 have u:∀b o,j=some ⟨b,o,none⟩→b<W.heap.size:=fun b o e=>by
  subst e;simp only[Cell.ok,bF]at k;obtain⟨_,_,_,_,A,r,hs,_⟩:=k;simp only[World.shape?]at hs;by_cases w:b<W.heap.size
  ·exact w
  ·rw[AC (by omega)]at hs
   simp at hs
 rcases open_slice1 bF XX h with⟨e,rfl⟩|⟨a,p,B,m,n,V,D,E,e,_,hl,_,C,rfl,_⟩
 ·simp only[xF,NR,xB]at e
  obtain⟨rfl,y,rfl⟩:=e;exact⟨none,0,l,rfl,⟨s,fun _=>rfl,by omega,u⟩,by omega⟩
 ·simp only[xF,NR,xB]at e
  obtain⟨rfl,y,rfl⟩:=e;refine⟨some a,c,l,rfl,⟨s,(fun e=>by cases e),by omega,u⟩,?_⟩;have:=yy ((List.range p).map D);simp only[Rows.uptoBulk,jK,Sn]at this ⊢;omega
def Hi (w):Value.okWideB prog w 39 (.slice none 0 0)=true:=by unfold Value.okWideB;rw[bF];rfl
def Hh {h g} (w f c e d) (n:Value.okWideB prog w h e=true) (m:Value.okWideB prog w g d=true) (k:(prog.inits.idxOf? f).isNone=true) (l:prog.funcs[f]?=some c) (hs:(c.body.isSome&& !c.ours&&c.nfree==0&&2==c.params.size)=true) (i:c.params=#[h,g]):Input.okWideB prog w f ⟨#[],#[e,d],[]⟩=true:=
 Mv k l hs fun j t v a b=>by
  rw[i]at a
  match j,a,b with
  |0,a,b=>simp only[fu,List.getElem?_cons_zero,xC]at a b;subst a;subst b;exact n
  |1,a,b=>simp only[fu,List.getElem?_cons_succ,List.getElem?_cons_zero,xC]at a b;subst a;subst b;exact m
end Go.Proofs.YtjeoeibdgciafaaGreatDoor
namespace Go.Proofs.YtjeoeibdgciafaaGreatDoor
open Go.RowKit Go.ChangeShapes Go.WideShapes Go.Deep
open Go.Proofs.Tryz
def De {H:Type}:∀{l:List (DataW H)} {d:DataW H},d∈l→Rows.uptoBulk d≤Rows.uptoBulkAll l
 |x::l,d,h=>by
  rcases mF.1 h with rfl|h
  ·simp only[Rows.uptoBulkAll];omega
  ·have:=De h
   simp only[Rows.uptoBulkAll];omega
section
variable {H:Type} {enc:TypeId×Value→H} {P:Program} {w:World} {base:Nat} {spare:Nat→Bool} {held:Bool} {N:Nat}
theorem J_ {a:List (DataW H×List MemPlace)} {b:List MemPlace} (h:Rows.uptoBulk ((DataW.agg (a.map (·.1)),b):DataW H×List MemPlace).1≤N):∀y∈a,Rows.uptoBulk y.1≤N:=fun y c=>by have d:=De (List.mem_map_of_mem (f:=(·.1)) c);simp only[Rows.uptoBulk]at h;omega
def tj (enc:TypeId×Value→H) (P:Program) (w:World) (base:Nat) (spare:Nat→Bool) (held:Bool) (N:Nat):List TypeId→List Value→Prop
 |[],[]=>True
 |t::c,v::b=>(∃a x,DataW.trod enc P w base spare held a t [v]=some x∧Rows.uptoBulk x.1≤N)∧tj enc P w base spare held N c b
 |_,_=>False
theorem yF:∀{ts:List TypeId} {cs:List Value},tj enc P w base spare held N ts cs→cs.length=ts.length
 |[],[],_=>rfl
 |_::ts,_::cs,h=>by simp[yF (ts:=ts) (cs:=cs) h.2]
theorem rI:∀{a b:List TypeId} {cs c:List Value},tj enc P w base spare held N a cs→tj enc P w base spare held N b c→tj enc P w base spare held N (a++b) (cs++c)
 |[],_,[],_,_,h=>h
 |_::a,_,_::cs,_,h,k=>⟨h.1,rI (a:=a) (cs:=cs) h.2 k⟩
theorem zG:∀{b:List TypeId} {c:List Value},tj enc P w base spare held N b c→∀(i:Nat) (t:TypeId),b[i]?=some t→∃v,c[i]?=some v∧∃a x,DataW.trod enc P w base spare held a t [v]=some x∧Rows.uptoBulk x.1≤N
 |t::b,v::c,h,0,u,hi=>by simp at hi;subst hi;exact⟨v,rfl,h.1⟩
 |t::b,v::c,h,i+1,u,hi=>by obtain⟨d,f,e⟩:=zG h.2 i u (by simpa using hi);exact⟨d,by simpa using f,e⟩
theorem yN (g:TypeId→Option (List TypeId)) (d:List Value):∀(c:List Field) (a:Nat) (l:List TypeId),leafTF P g c a=some l→
 (∀f∈c,∀b,g f.type=some b→P.cellsOf f.type=b.length→tj enc P w base spare held N b ((d.drop f.offset).take (P.cellsOf f.type)))→a+l.length=d.length→tj enc P w base spare held N l (d.drop a)
 |[],a,l,h,_,hl=>by simp only[leafTF,xC]at h;subst h;simp at hl;rw[NK (by omega)];trivial
 |f::c,a,l,h,hf,hl=>by
  unfold leafTF at h;split at h
  ·cases h
  ·rename_i i
   simp only[E6,ne_eq,SC]at i;split at h
   ·rename_i b o
    split at h
    ·rename_i hs
     have e:P.cellsOf f.type=b.length:=by simpa using hs
     obtain⟨m,n,rfl⟩:=Sg.1 h;have k:=hf f (by simp) b o e;rw[i,e]at k;have j:=yN g d c (a+b.length) m n (fun q p=>hf q (by simp[p])) (by simp at hl;omega);rw[←lO]at j;have:=rI k j
     rwa [jI]at this
    ·cases h
   ·cases h
theorem Bb (l:List TypeId) (a:List Value):∀(k i:Nat),(∀j,i≤j→j<i+k→tj enc P w base spare held N l ((a.drop (j*l.length)).take l.length))→(i+k)*l.length=a.length→
 tj enc P w base spare held N (List.replicate k l).flatten (a.drop (i*l.length))
 |0,i,_,hl=>by rw[NK (by simp at hl;omega)];trivial
 |k+1,i,h,hl=>by have c:=h i (by omega) (by omega);have b:=Bb l a k (i+1) (fun j e d=>h j (by omega) (by omega)) (by rw[←hl];congr 1;omega);rw[show (i+1)*l.length=i*l.length+l.length by rw[Fa,NB],←lO]at b;have:=rI c b;rw[jI]at this;rw[List.replicate_succ,List.flatten_cons];exact this
theorem tX:∀(d:Nat) (t:TypeId) (l:List TypeId),leafT P d t=some l→P.cellsOf t=l.length→∀(b:Nat) (k:List Value) (x:DataW H×List MemPlace),DataW.trod enc P w base spare held b t k=some x→Rows.uptoBulk x.1≤N→
 tj enc P w base spare held N l k
 |0,t,l,h=>by simp[leafT]at h
 |d+1,t,l,h=>by
  intro C b k x o q;unfold leafT at h;split at h
  ·rename_i n e g
   split at h
   ·rename_i p r
    split at h
    ·rename_i hs
     cases h;have A:P.cellsOf e=p.length:=by simpa using hs
     obtain⟨z,m,_,rfl,a,E,y⟩:=DataW.trod_array g o;have c:=J_ q
     have:=Bb (enc:=enc) (P:=P) (w:=w) (base:=base) (spare:=spare) (held:=held) p k n 0 (fun j _ Q=>by
      have I:j<n:=by omega
      have:=y j I;rw[A,fS (by omega)]at this
      exact tX d e p r A m _ _ this (c _ (oI _))) (by rw[a,C];simp)
     simpa using this
    ·cases h
   ·cases h
  ·rename_i K g
   obtain⟨z,m,_,rfl,a,E,J⟩:=DataW.trod_struct g o;have c:=J_ q
   have:=yN (enc:=enc) (w:=w) (base:=base) (spare:=spare) (held:=held) (leafT P d) k K.toList 0 l h (fun f u D G F=>by
    obtain⟨i,B⟩:=Sm.1 u;have:=J i f (by simpa using B)
    have s:i<z.length:=by have:=(io.1 B).1;simp at this;omega
    rw[fS s]at this
    exact tX d f.type D G F m _ _ this (c _ (oI _))) (by rw[a,C];simp)
   simpa using this
  ·rename_i L M O g
   cases h;obtain⟨v,rfl⟩:=Fx g (by cases L<;>simp_all [TypeDesc.isRow]) o;exact⟨⟨b,x,o,q⟩,trivial⟩
  ·cases h
theorem Mf {t e d g k} (o:P.underlying t=some (.slice e)) (r:Vb P d e g k=true) (p:P.cellsOf e=g) (s:0<g) {c v} {x:DataW H×List MemPlace} (h:DataW.trod enc P w base spare held c t [v]=some x):∃f b l,v= .slice f l.length b∧Rows w f g k l∧l.length≤Rows.uptoBulk x.1:=by
 obtain⟨f,b,l,i,q,_⟩:=FA o r p s h;refine⟨f,b,l,i,q,?_⟩;rcases open_slice o h with⟨e,rfl⟩|⟨a,j,u,m,n,D,y,e,_,_,_,_,rfl,_⟩
 ·rw[i]at e
  simp only[xF,NR,xB]at e;omega
 ·rw[i]at e
  simp only[xF,NR,xB]at e;have:=yy ((List.range j).map D);simp only[Rows.uptoBulk,jK,Sn]at this ⊢;omega
theorem FC {t e d c} (j:P.underlying t=some (.slice e)) (m:Vb P d e 1 (fun _=>c)=true) (k:P.cellsOf e=1) {b v} {x:DataW H×List MemPlace} (h:DataW.trod enc P w base spare held b t [v]=some x):∃f a l,v= .slice f l.length a∧Row w f c l∧l.length≤Rows.uptoBulk x.1:=by
 obtain⟨f,a,l,i,n,_⟩:=Jl j m k h;obtain⟨o,s,p,g,_,q⟩:=Mf j m k (by decide) h;rw[i]at g;injection g with _ r _
 exact⟨f,a,l,i,n,by omega⟩
def oQ (P:Program) (t:TypeId):List TypeId:=(leafT P 12 t).getD []
def kindsB (P:Program) (t:TypeId) (n:Nat) (K:Nat→Option CK):Bool:=
 (leafT P 12 t).isSome&&(oQ P t).length==n&&P.cellsOf t==n&&(List.range n).all fun j=>match K j with
   |some c=>CK.isB P ((oQ P t).getD j 0) c
   |none=>true
theorem nw {t n K} (i:kindsB P t n K=true) {a b} {x:DataW H×List MemPlace} (h:DataW.trod enc P w base spare held a t b=some x) (u:Rows.uptoBulk x.1≤N):
 b.length=n∧(∀j,j<n→∀c,K j=some c→∃v,b[j]?=some v∧v=c.mk (num v)∧c.ok (num v))∧∀j,j<n→∃v a y,b[j]?=some v∧DataW.trod enc P w base spare held a ((oQ P t).getD j 0) [v]=some y∧Rows.uptoBulk y.1≤N:=by
 unfold kindsB at i;simp only[nQ,xA,nn,rW]at i;obtain⟨⟨⟨z,p⟩,A⟩,o⟩:=i;obtain⟨l,hl⟩:=Ny.1 z;have q:oQ P t=l:=by unfold oQ;rw[hl];rfl
 rw[q]at p o ⊢;have g:=tX (N:=N) 12 t l hl (by omega) a b x h u;refine⟨by rw[yF g,p],fun j k c r=>?_,fun j k=>?_⟩
 ·obtain⟨v,e,f,y,d,_⟩:=zG g j (l.getD j 0) (by simp[List.getD,show j<l.length by omega])
  have m:=o j k;rw[r]at m;exact⟨v,e,Gy m d⟩
 ·obtain⟨v,e,f,y,d,s⟩:=zG g j (l.getD j 0) (by simp[List.getD,show j<l.length by omega])
  exact⟨v,f,y,e,d,s⟩
end
end Go.Proofs.YtjeoeibdgciafaaGreatDoor
namespace Go.Proofs.YtjeoeibdgciafaaGreatDoor
open Go.RowKit BigFrame
open Go.Proofs.Tryz
structure BoxL (n:Nat) (C:List Value) (t:TypeId) (w W:World):Prop where
 hX:W.heap[n]?=some (.cells C.toArray t (0,0))
 hB:Below n w W
def BoxL.later {n C t w W W'} (h:BoxL n C t w W) (a:Below (n+1) W W'):BoxL n C t w W':=⟨(a.block n (by omega)).trans h.hX,h.hB.trans (a.mono (by omega))⟩
def BoxL.cell {n C t w W} (h:BoxL n C t w W) (j):W.cell? ⟨n,j,none⟩=C[j]?:=by rw[br W n j _ _ _ h.hX,fu]
def dg {W:World} {n:Nat} {C pre c b:List Value} {t:TypeId} {g:Nat×Nat} (h:W.heap[n]?=some (.cells C.toArray t g)) (f:C=pre++(c++b)) (a:Nat) (e:pre.length=a):W.rangeAt n a c:=fun j v d=>by subst e;rw[br W n _ _ _ _ h,fu,f,fT (by omega),jH,eY (io.1 d).1];exact d
def Mg {W n a k b f} (h:W.rangeAt n a (ae b (fun _=>k) f)) (d:∀j,j<b→k.ok (f j)):Row W (some ⟨n,a,none⟩) k (ff f 0 b):=by
 refine⟨fun i c=>⟨n,a,rfl,?_⟩,fun m e=>?_⟩
 ·rw[az]at c
  rw[h i _ (aN _ _ _ _ c),n9 _ _ _ _ c,bY]
 ·obtain⟨j,g,rfl⟩:=ft.1 e
  rw[bY];exact d j (by simpa using g)
def BoxL.sl {n C t w W} (h:BoxL n C t w W) {pre post a c f} (i:C=pre++(ae a (fun _=> .u8) f++post)) (g:pre.length=c) (d:∀j,j<a→CK.ok .u8 (f j)):cG (some ⟨n,c,none⟩) a (ff f 0 a) W:=⟨Mg (dg h.hX i c g) d,(fun e=>by cases e),by rw[az];exact cD _,fun b o e=>by cases e;exact aD h.hX⟩
structure c8 (n:Nat) (C:List Value) (t:TypeId) (ps:List Pt) (w W:World):Prop extends BoxL n C t w W where
 hP:∀p∈ps,cG p.1 p.2.1 p.2.2.2 W∧p.2.2.2.length=p.2.2.1
section
variable {n:Nat} {C:List Value} {t:TypeId} {ps:List Pt} {w W W':World}
theorem c8.later (h:c8 n C t ps w W) (b:Below W.heap.size W W'):c8 n C t ps w W':=⟨h.toBoxL.later (b.mono (by have:=aD h.hX;omega)),fun p a=>⟨(h.hP p a).1.later b,(h.hP p a).2⟩⟩
theorem c8.add (h:c8 n C t ps w W) {b c k m} (hs:cG b c m W) (d:m.length=k):c8 n C t (ps++[(b,c,k,m)]) w W:=
 ⟨h.toBoxL,fun p a=>by
   rcases iD.1 a with a|a
   ·exact h.hP p a
   ·rw[jJ.1 a];exact⟨hs,d⟩⟩
theorem c8.own (h:c8 n C t ps w W) {v m k} (b:bc W.heap.size v ([]++m) W') (i:Below W.heap.size W W') (g:∀x∈m,CK.ok .u8 x) (d:m.length=k):∃a c,v= .slice a k c∧c8 n C t (ps++[(a,c,k,m)]) w W':=by rw[List.nil_append]at b;obtain⟨a,c,e,f⟩:=aW b;rw[d]at e;subst e;exact⟨a,c,rfl,(h.later i).add (cG.b_ b g f) d⟩
theorem c8.begin (b:(w.alloc (.cells C.toArray t)).heap[n]?=some (.cells C.toArray t (0,0))) (hn:w.heap.size=n):c8 n C t [] w (w.alloc (.cells C.toArray t)):=by subst hn;exact⟨⟨b,dt⟩,fun p a=>by simp at a⟩
theorem c8.parts (h:c8 n C t ps w W):c8 n C t ps w (W.alloc (.cells ((il ps).map fun v=>v.cells.toList).flatten.toArray 39))∧nd W.heap.size (iI ps) (W.alloc (.cells ((il ps).map fun v=>v.cells.toList).flatten.toArray 39)):=by
 have f:Below W.heap.size W (W.alloc (.cells ((il ps).map fun v=>v.cells.toList).flatten.toArray 39)):=dt;have b:=h.later f;refine⟨b,il ps,by rw[ak _ _ _ _ rfl,oj],by simp[il,iI],fun i d=>?_⟩;have a:i<ps.length:=by simpa[iI]using d
 obtain⟨hs,c⟩:=b.hP (ps[i]) (oI a);have e:(iI ps).getD i []=(ps[i]).2.2.2:=by simp[iI,List.getD,a]
 rw[e];exact⟨(ps[i]).1,(ps[i]).2.1,by simp[il,a,c],hs.row,hs.nil,hs.low⟩
theorem c8.RQ (h:c8 n C t ps w W) {k S L V Z} (a) (hV:V=(il ps).toArray) (hZ:Z=(HT a).toArray) (v:ps.length=k) (d:a.length=k) (l:1≤k) (B:k≤64) (s:∀z∈a,z≤65536) (y:∀i,i<k→a.getD i 0≠0→((iI ps).getD i []).length=a.getD i 0) (hL:eS a (iI ps)=L) (A:L.length=S) (j:S≤1099511627776):
 Calls prog 48 #[.slice (some ⟨W.heap.size,0,none⟩) k k,.slice (some ⟨W.heap.size+1,0,none⟩) k k] ((W.alloc (.cells V 39)).alloc (.cells Z 3)) fun e o=>(∃b c,e= .returned (.tuple #[.slice b S c,.int .i64 0])∧(b=none→c=0)∧bc n (.slice b S c) L o)∧Below n w o:=by
 subst hV;subst hZ;subst A;subst hL;have g:=h.parts;rw[oj]at g;have p:=CE a (W.alloc (.cells (il ps).toArray 39));rw[nr,bn]at p;have q:Below (W.alloc (.cells (il ps).toArray 39)).heap.size (W.alloc (.cells (il ps).toArray 39)) ((W.alloc (.cells (il ps).toArray 39)).alloc (.cells (HT a).toArray 3)):=dt;have r:=g.1.later q;have u:(iI ps).length=k:=by simp[iI,v]
 have F:=aD r.hX
 have f:Ip (headN a) a (iI ps) k≤1099511627776:=by unfold eS at j;rw[d,bM]at j;exact j
 refine(Jz W.heap.size (W.heap.size+1) (iI ps) a k k k _ (g.2.later q) p u d l B s y f).mono fun _ _ ⟨⟨b,c,l,m,E⟩,D⟩=>⟨⟨b,c,l,m,lh E (by omega)⟩,r.hB.trans (D.mono (by omega))⟩
end
structure cm (n:Nat) (C:List Value) (t tc:TypeId) (K:Nat) (rs:List (Nat→Int)) (w W:World):Prop extends BoxL n C t w W where
 hR:W.heap[n+1]?=some (.cells zr 25 (0,0))
 hC:wG tc (n+1+1) K (leaf rs) W
 is:∀r∈rs,fY r
 hT:cY W
 h3:3≤n
section
variable {n:Nat} {C:List Value} {t tc:TypeId} {K:Nat} {rs:List (Nat→Int)} {w W W':World}
theorem cm.size (h:cm n C t tc K rs w W):n+3≤W.heap.size:=by obtain⟨C,a,_⟩:=h.hC;have:=aD a;omega
theorem cm.later (h:cm n C t tc K rs w W) (a:Below W.heap.size W W'):cm n C t tc K rs w W':=by have hs:=h.size;exact⟨h.toBoxL.later (a.mono (by omega)),(a.block _ (by omega)).trans h.hR,h.hC.block (a.block _ (by omega)),h.is,h.hT.below (by have:=h.h3;omega) a,h.h3⟩
theorem cm.begin {Z} (f:(w.alloc (.cells C.toArray t)).heap[n]?=some (.cells C.toArray t (0,0))) (hn:w.heap.size=n) (a:cY w) (e:Z.size=K*32) (c:∀i,i<K*32→Z[i]?=some (.int .u8 0)):
 cm n C t tc K [] w (((w.alloc (.cells C.toArray t)).alloc (.cells zr 25)).alloc (.cells Z tc)):=by
 subst hn;have b:Below w.heap.size w (((w.alloc (.cells C.toArray t)).alloc (.cells zr 25)).alloc (.cells Z tc)):=(dt.alloc (by simp) _).alloc (by simp;omega) _;exact⟨⟨aR _ _ _ _ (aR _ _ _ _ f),b⟩,aR _ _ _ _ (ak _ _ _ _ (by simp)),⟨Z,ak _ _ _ _ (by simp),e,fun i h j g=>by rw[c (32*i+j) (by omega),tT];rfl⟩,(fun r d=>by simp at d),a.below a.size b,a.size⟩
theorem cm.pack (h:cm n C t tc K rs w W) (l i c k q) (hl:cG i c l W) (u:l.length=k) (s:(k+31)/32=q) (F:1≤k) (E:k≤100000):
 Calls prog 50 #[.slice i k c] W fun e f=>∃a j,e= .returned (.slice a q j)∧j_ f a (chunks l)∧(∀b o,a=some ⟨b,o,none⟩→b<f.heap.size)∧q≤j∧cm n C t tc K rs w f:=by
 subst u;refine(qU l i c W hl.row hl.low (by omega)).mono fun _ _ ⟨⟨a,j,p,y⟩,v⟩=>?_;have r:(chunks l).length=q:=by rw[di,s]
 obtain⟨g,B,e,D,d⟩:=gz y (by omega);injection e with A G z
 subst A;subst z;have m:=d.choose_spec.2.2.1;rw[r]at d m p;exact⟨_,_,p,d.row (chunks l) (by omega) (fun _ _=>rfl) (im hl.row.ok),(fun b o e=>by cases e;exact d.lt),m,h.later v⟩
theorem cm.Pc (h:cm n C t tc K rs w W) (l a c q d m) (hl:j_ W a (chunks l)) (j:∀b o,a=some ⟨b,o,none⟩→b<W.heap.size) (r:q≤c) (g:(l.length+31)/32=q) (i:m=(q:Int)) (p:lN q d) (k:d≤40):
 Calls prog 49 #[.slice a q c,.int .i64 m] W fun e f=>e= .returned (.agg (ax (uU d l)))∧cm n C t tc K rs w f:=by
 subst i;exact(mj (chunks l) q q d a c W (by rw[di,g]) bG p k hl j r h.hT).mono fun _ _ ⟨u,s⟩=>⟨u,h.later s⟩
theorem cm.last (h:cm n C t tc K rs w W) (d m) (f:m=(K:Int)) (j:rs.length=K) (i:lN K d) (g:d≤40):
 Calls prog 49 #[.slice (some ⟨n+1+1,0,none⟩) K K,.int .i64 m] W fun e a=>e= .returned (.agg (ax (fullT d (leaf rs))))∧Below n w a∧a.heap[n+1]?=some (.cells zr 25 (0,0)):=by
 subst f;have hs:=h.size;exact(mj rs K K d _ K W j bG i g (h.hC.row (by omega) h.is) (fun b o e=>by cases e;omega) bG h.hT).mono fun _ _ ⟨k,c⟩=>⟨k,h.hB.trans (c.mono (by omega)),(c.block _ (by omega)).trans h.hR⟩
theorem vW {g c o a Q} (J:o.guard=none) (x y) (E:o.op= .store 25 x y) (i r) (A:a.eval x= .pointer (some ⟨n+1+1,32*i,none⟩)) (z:a.eval y= .agg (ax r)) {m} (h:cm n C t tc K m w W) (G:∀q∈rs,fY q) (hl:∀b,b≠i→leaf m b=leaf rs b) (I:rs.length=i) (M:i<K) (D:fY r) (F:∀W',cm n C t tc K (rs++[r]) w W'→wpList prog g Q c (a.put o.dst undef) W'):wpList prog g Q (o::c) a W:=by
 obtain⟨C,l,P,u⟩:=h.hC;have hs:=h.size
 have p:W.there (n+1+1) (32*i) (ax r).size:=fun j d=>by
  have d:j<32:=by simpa[ae]using d
  refine⟨?_,j' l _⟩;rw[br W (n+1+1) _ C _ _ l,u i M j d];rfl
 refine aH J fun R L=>s_ 25 x y E (n+1+1) (32*i) (ax r) A z p (by rw[ah am];simp[ae]) (aA _ _ _) (L _ _ (F _ ?_));have k:aL (n+1+1) W (W.setCells (n+1+1) (32*i) (ax r).toList):=(aL.refl _ _).setCells _ _ _ (Or.inl rfl);obtain⟨v,s,O⟩:=gq (n+1+1) (ax r).toList (32*i) W C _ l;have B:=AA W (n+1+1) (32*i) (ax r).toList (by simpa using p);have N:Below n w (W.setCells (n+1+1) (32*i) (ax r).toList):=k.below h.hB (by omega) (by omega);refine⟨⟨(k.block n (by omega) (by omega)).trans h.hX,N⟩,(k.block _ (by omega) (by omega)).trans h.hR,⟨v,s,O.trans P,fun b H j d=>?_⟩,fun q f=>?_,?_,h.h3⟩
 ·rw[←br _ (n+1+1) (32*b+j) v _ _ s,tU,I]
  by_cases e:b=i
  ·subst e
   rw[aj rfl];exact B j _ (aN 32 (fun _=> .u8) r j d)
  ·rw[an e,←hl b e,Cw (n+1+1) _ _ W ⟨n+1+1,32*b+j,none⟩ (fun _ _=>by simp[ae];omega),br W (n+1+1) _ C _ _ l]
   exact u b H j d
 ·rcases iD.1 f with f|f
  ·exact G q f
  ·rw[jJ.1 f];exact D
 ·exact h.hT.below (by have:=h.h3;omega) (k.below (aP (n+1+1) W) bG (by omega))
theorem fG {c b o a Q} (l:o.guard=none) (x y) (g:o.op= .store 25 x y) (i r) (e:a.eval x= .pointer (some ⟨n+1+1,32*i,none⟩)) (d:a.eval y= .agg (ax r)) (h:cm n C t tc K rs w W) (k:rs.length=i) (m:i<K) (f:fY r) (j:∀W',cm n C t tc K (rs++[r]) w W'→wpList prog c Q b (a.put o.dst undef) W'):wpList prog c Q (o::b) a W:=vW l x y g i r e d h h.is (fun _ _=>rfl) k m f j
end
def MI (er b rs w) (h:me er b rs w) (he:er≠0):
 Calls prog 39 #[.pointer (some ⟨b,0,none⟩)] w fun e a=>e= .returned (.tuple #[.agg (ax bh),.int .i64 er])∧Below w.heap.size w a:=by
 have I:=h.size;obtain⟨E,v,o,D⟩:=h;have q:=aa o;clear o D E;have J:(er !=0)=true:=by simp[he]
 have A:=aa ((aP w.heap.size w).alloc bG (.cells zr 25));have y:=aa (ak w zr 25 w.heap.size rfl)
 go_enter func39,ntmps39
 go_wp2_with (
  ((with_reducible refine ao 25 ?_);refine fX 2 cg ?_))
 refine bO (fun W=>W.heap[b]?=some (.cells (tm er v) 108 (0,0))∧W.heap[w.heap.size]?=some (.cells zr 25 (0,0))∧Below w.heap.size w W) ⟨aR _ _ _ _ q.out,y.out,A.out⟩ ?_;clear q A y;rintro B ⟨l,k,m⟩;have d:=aa l;have j:=aa k;have c:=aa m;clear l k m;refine fI 0 (fun _ _=>False) (fun _ _=>0) rfl (fun _ _ h=>h.elim) ?_;intro _
 go_wp2_with (first
  |refine ag 41 ?_;refine dq (v:=(.int .i64 er)) (jx d.out 1) fU ?_ rfl rfl rfl rfl
  |refine cZ 25 ?_;refine ab (by rfl) _ (ct _ rfl) ?_
  |refine al 25 ?_;refine aq (w0:=w) (n0:=w.heap.size) 25 _ _ rfl rfl w.heap.size rfl _ rfl (aA _ _ _) (by rw[ah am];simp[ae]) _ 25 j.out (by rw[bL];simp[ae]) bG c.out (fun g L z _=>?_))
 rename_i K u;refine dQ (S:=fun a=>a.cell? ⟨b,1,none⟩=some (.int .i64 er)) (by kernel_rfl) ?_;have s:({B with drawn:=B.drawn+1}:World).cell? ⟨b,1,none⟩=some (.int .i64 er):=jx d.out 1;refine aJ (i:=0) (v:=(.agg (ax bh))) rfl (by kernel_rfl) bH ‹_› (fun a _=>ct a rfl) ?_;go_frame;refine gY 1 2 3 (.pointer (some ⟨b,0,none⟩)) (.pointer (some ⟨b,0,none⟩)) (.pointer (some ⟨b,1,none⟩)) rfl (by kernel_rfl) (fun _=>by kernel_rfl) bH ‹_› ?_;go_frame;refine aJ (i:=4) (v:=(.int .i64 er)) rfl (by kernel_rfl) bH ‹_› (fun a r=>au _ 41 _ (by rfl) ⟨b,1,none⟩ (by rfl) _ r _ fU rfl) ?_;go_frame;refine cQ (i:=5) rfl (by kernel_rfl) rfl (wp_store_row 25 _ _ rfl w.heap.size rfl (ax bh) rfl (aA _ _ _) (by rw[ah am];simp[ae]) _ 25 j.out (by rw[bL];simp[ae]) (fun g F f=>⟨(f.cell (p:=⟨b,1,none⟩) (aD d.out) (show b≠w.heap.size by omega)).trans (jx d.out 1),?_⟩));have s:g.cell? ⟨b,1,none⟩=some (.int .i64 er):=(f.cell (p:=⟨b,1,none⟩) (aD d.out) (show b≠w.heap.size by omega)).trans (jx d.out 1);go_frame;refine aJ (i:=6) (v:=(.int .i64 er)) rfl (by kernel_rfl) bH ‹_› (fun a r=>by go_simp) ?_;go_frame;refine dM (by kernel_rfl) ?_ _;simp only[Exit.then];refine u _ _ ?_;have z:Below w.heap.size w g:=f.below c.out.drew bG c.out.size;clear s u K;go_wp2;simp only[Exit.jump];exact aI rfl w.heap.size 0 (ae 32 (fun _=> .u8) bh) _ rfl (aE F) cH rfl (by rw[ah am,ac]) rfl ⟨rfl,z⟩
structure bD (n:Nat) (C:List Value) (t:TypeId) (er:Int) (rs:List (Nat→Int)) (w W:World):Prop extends BoxL n C t w W where
 hR:W.heap[n+1]?=some (.cells zr 25 (0,0))
 hH:me er (n+1+1) rs W
 hT:cY W
 h3:3≤n
section
variable {n:Nat} {C:List Value} {t:TypeId} {er:Int} {rs:List (Nat→Int)} {w W W':World}
theorem bD.step {c b} (h:bD n C t er rs w W) (d:me c (n+1+1) b W') (a:Below (n+1+1) W W'):bD n C t c b w W':=⟨h.toBoxL.later (a.mono (by omega)),(a.block (n+1) (by omega)).trans h.hR,d,h.hT.below (by have:=h.h3;omega) a,h.h3⟩
theorem bD.later (h:bD n C t er rs w W) (a:Below W.heap.size W W'):bD n C t er rs w W':=h.step (h.hH.later a) (a.mono h.hH.size|>.mono (by omega))
theorem bD.put (h:bD n C t er rs w W) (r a) (d:fY r) (b:rs.length≤1000):
 Calls prog 85 #[.pointer (some ⟨n+1+1,0,none⟩),.agg (ax r),.int .i64 a] W fun e c=>e= .returned (.tuple #[])∧bD n C t (if er=0 then a else er) (rs++[r]) w c:=
 (F_ (n+1+1) er a rs r W h.hH d (by omega)).mono fun _ _ ⟨i,g,f⟩=>⟨i,h.step g f⟩
theorem bD.bytes (h:bD n C t er rs w W) (l b c k d) (hl:cG b c l W) (j:l.length=k) (a:1≤k) (f:k≤100000) (o:lN ((k+31)/32) d) (m:d≤40) (g:rs.length≤1000):
 Calls prog 90 #[.pointer (some ⟨n+1+1,0,none⟩),.slice b k c] W fun e i=>e= .returned (.tuple #[])∧bD n C t er (rs++[uU d l]) w i:=by
 unfold uU;subst j;exact(wN (n+1+1) d rs l _ c W h.hH h.hT (by have:=h.h3;omega) hl.row hl.cap a (by omega) o m (by omega)).mono fun _ _ ⟨a,f,p⟩=>⟨a,h.step f p⟩
theorem bD.done (h:bD n C t 0 rs w W) (d) (f:lN rs.length d) (hn:1≤rs.length) (c:d≤40):
 Calls prog 39 #[.pointer (some ⟨n+1+1,0,none⟩)] W fun e a=>e= .returned (.tuple #[.agg (ax (fullT d (leaf rs))),.int .i64 0])∧Below n w a∧a.heap[n+1]?=some (.cells zr 25 (0,0)):=
 (zT (n+1+1) d rs W h.hH h.hT (by have:=h.h3;omega) f hn c).mono fun _ _ ⟨g,b⟩=>⟨g,h.hB.trans (b.mono (by omega)),(b.block (n+1) (by omega)).trans h.hR⟩
theorem bD.xO (h:bD n C t er rs w W) (he:er≠0):
 Calls prog 39 #[.pointer (some ⟨n+1+1,0,none⟩)] W fun e a=>e= .returned (.tuple #[.agg (ax bh),.int .i64 er])∧Below n w a∧a.heap[n+1]?=some (.cells zr 25 (0,0)):=
 (MI er (n+1+1) rs W h.hH he).mono fun _ _ ⟨c,b⟩=>⟨c,h.hB.trans (b.mono (by have:=h.hH.size;omega)),(b.block (n+1) (by have:=h.hH.size;omega)).trans h.hR⟩
theorem bD.begin (d:(w.alloc (.cells C.toArray t)).heap[n]?=some (.cells C.toArray t (0,0))) (hn:w.heap.size=n) (a:cY w):
 bD n C t 0 [] w (((w.alloc (.cells C.toArray t)).alloc (.cells zr 25)).alloc (.cells (nT (.slice none 0 0)) 108)):=by
 subst hn;have b:Below w.heap.size w (((w.alloc (.cells C.toArray t)).alloc (.cells zr 25)).alloc (.cells (nT (.slice none 0 0)) 108)):=(dt.alloc (by simp) _).alloc (by simp;omega) _;exact⟨⟨aR _ _ _ _ (aR _ _ _ _ d),b⟩,aR _ _ _ _ (ak _ _ _ _ (by simp)),⟨(fun r c=>by simp at c),_,ak _ _ _ _ (by simp),rfl,Or.inl ⟨rfl,rfl⟩⟩,a.below a.size b,a.size⟩
end
end Go.Proofs.YtjeoeibdgciafaaGreatDoor
namespace Go.Proofs.YtjeoeibdgciafaaGreatDoor
open Go.Shelf
open Go.Proofs.Tryz
def Tryz.lays125_ren:Go.Shelf.Ren:=⟨fun|125=>184|128=>191|129=>192|n=>n,fun|46=>208|3=>3|51=>222|53=>26|4=>4|5=>5|9=>9|n=>n,fun|n=>n⟩
def Tryz.lays125:Go.Proofs.Lays.n125 prog Tryz.lays125_ren:={
 mixed:=by kernel_rfl
 f125:=func184.trans (fB some (by kernel_rfl))
 f128:=func191.trans (fB some (by kernel_rfl))
 f129:=func192.trans (fB some (by kernel_rfl))
 t3:=pi
 a3:=Tryz.isAgg3
 z3:=Tryz.sizeOf3
 v3:=Tryz.zeroValue3
 t4:=GE
 a4:=Tryz.isAgg4
 z4:=Tryz.sizeOf4
 v4:=Tryz.zeroValue4
 t5:=sE
 a5:=Tryz.isAgg5
 z5:=Tryz.sizeOf5
 v5:=Tryz.zeroValue5
 t9:=uN9
 a9:=Tryz.isAgg9
 z9:=Tryz.sizeOf9
 v9:=Tryz.zeroValue9
 t46:=underlying208
 a46:=Tryz.isAgg208
 z46:=Tryz.sizeOf208
 v46:=Tryz.zeroValue208
 t51:=IV
 a51:=Tryz.isAgg222
 z51:=Tryz.sizeOf222
 v51:=Tryz.zeroValue222
 t53:=Ik
 a53:=Tryz.isAgg26
 z53:=Tryz.sizeOf26
 v53:=Tryz.zeroValue26}
def Tryz.bits_Len (x w) (c:0≤x) (b:x≤18446744073709551615):
 Calls prog 184 #[.int .u64 x] w fun e a=>e= .returned (.int .i64 (Lib.bitLen x.toNat))∧a=w:=Any.bits_Len Tryz.lays125 x w c b
def Tryz.lays131_ren:Go.Shelf.Ren:=⟨fun|131=>177|126=>190|n=>n,fun|5=>5|3=>3|9=>9|n=>n,fun|n=>n⟩
def Tryz.lays131:Go.Proofs.Lays.n131 prog Tryz.lays131_ren:={
 mixed:=by kernel_rfl
 f126:=func190.trans (fB some (by kernel_rfl))
 f131:=func177.trans (fB some (by kernel_rfl))
 t3:=pi
 a3:=Tryz.isAgg3
 z3:=Tryz.sizeOf3
 v3:=Tryz.zeroValue3
 t5:=sE
 a5:=Tryz.isAgg5
 z5:=Tryz.sizeOf5
 v5:=Tryz.zeroValue5
 t9:=uN9
 a9:=Tryz.isAgg9
 z9:=Tryz.sizeOf9
 v9:=Tryz.zeroValue9}
def Tryz.bits_LeadingZeros8 (x w) (c:0≤x) (b:x≤255):
 Calls prog 177 #[.int .u8 x] w fun e a=>e= .returned (.int .i64 (8-(Lib.bitLen x.toNat:Int)))∧a=w:=Any.bits_LeadingZeros8 Tryz.lays131 x w c b
end Go.Proofs.YtjeoeibdgciafaaGreatDoor
namespace Go.Proofs.YtjeoeibdgciafaaGreatDoor
open Go.RowKit BigFrame
open Go.Proofs.Tryz
def we:∀(f d x:Nat),x<2^f→x<2^d→(d=0∨2^(d-1)≤x)→Lib.bitLenAux f x=d
 |0,d,x,c,h1,a=>by
  have:x=0:=by simpa using c
  subst this;rcases a with a|a
  ·exact a.symm
  ·have:=Nat.pow_pos (n:=d-1) (show 0<2 by decide)
   omega
 |f+1,d,x,c,h1,a=>by
  unfold Lib.bitLenAux;by_cases b:x=0
  ·rw[aj b]
   rcases a with a|a
   ·exact a.symm
   ·have:=Nat.pow_pos (n:=d-1) (show 0<2 by decide)
    omega
  ·rw[an b]
   obtain⟨e,rfl⟩:∃e,d=e+1:=⟨d-1,by
    have:d≠0:=fun e=>by subst e;simp at h1;omega
    omega⟩
   have k:2^e≤x:=by
    rcases a with a|a
    ·omega
    ·exact a
   have j:=NA 2 f;have i:=NA 2 e
   rw[we f e (x/2) (by omega) (by omega) (by
    rcases E' e with h|h
    ·exact Or.inl h
    ·right
     obtain⟨q,rfl⟩:∃q,e=q+1:=⟨e-1,by omega⟩;have g:=Nat.pow_succ 2 q;simp only[rV]
     omega)]
   omega
def Nb {m d} (b:lN m d) (e:2≤m) (a:d≤40):Lib.bitLen (m-1)=d:=by
 have c:2^d≤2^40:=nN (by decide) a;have f:=b.1;refine we 64 d (m-1) (by omega) (by omega) ?_;rcases b.2 with h|h
 ·exact Or.inl h
 ·right;omega
def DI (m d w) (a:lN m d) (b:d≤40):
 Calls prog 156 #[.int .i64 (m:Int)] w fun e i=>e= .returned (.int .i64 (d:Int))∧w=i:=by
 have f:2^d≤2^40:=nN (by decide) b;have p:m≤1099511627776:=bg a.1 f;clear f;by_cases z:m<2
 ·have o:d=0:=by
   rcases a.2 with h|h
   ·exact h
   ·have:=Nat.pow_pos (n:=d-1) (show 0<2 by decide)
    have y:2^(d-1)<2:=by omega
    by_cases l:d-1=0
    ·exfalso
     rw[l]at h;simp at h;omega
    ·have v:2^1≤2^(d-1):=nN (by decide) (by omega)
     omega
  subst o;have j:((m:Int)<2):=by omega
  clear a b
  go_enter func156,ntmps156
  go_wp2;exact cA rfl _ rfl rfl ⟨rfl,rfl⟩
 ·have j:¬((m:Int)<2):=by omega
  have r:(2:Int)≤(m:Int):=by omega
  have g:=Nb a (by omega) b;have u:IntKind.i64.wrap ((m:Int)-1)=((m-1:Nat):Int):=by rw[bP];omega
  have s:IntKind.u64.wrap ((m-1:Nat):Int)=((m-1:Nat):Int):=by rw[lP];omega
  have c:=aa (Tryz.bits_Len ((m-1:Nat):Int) w (by omega) (by omega));rw[Int.toNat_natCast,g]at c;clear a g;generalize k:((m-1:Nat):Int)=q at*;clear k
  go_enter func156,ntmps156
  go_wp2_with (
   ((with_reducible refine c.out.mono ?_)
    rintro e W ⟨rfl,rfl⟩
    clear c))
  exact cA rfl _ rfl rfl ⟨rfl,rfl⟩
def DF (d:Nat) (w) (n:cY w) (X:d≤40):
 Calls prog 157 #[.int .i64 (d:Int)] w fun e a=>e= .returned (.slice (some ⟨w.heap.size,0,none⟩) (d+1) (d+1))∧cU w.heap.size (d+1) (d+1) (fun k=>fullT k fun _=>bh) a∧Below w.heap.size w a:=by
 have s:=aa n;have L:=n.size;clear n;have I:IntKind.i64.wrap ((d:Int)+1)=((d+1:Nat):Int):=by rw[bP];omega
 go_enter func157,ntmps157
 go_wp2_with (
  ((with_reducible refine nc 106 ?_);refine aH rfl fun K g=>bV _ (nf _ _ _ rfl (d+1) rfl rfl (by omega)) (g _ _ ?_);clear g K))
 refine bO (fun W=>cU w.heap.size (d+1) (d+1) (fun _=>bh) W∧Below w.heap.size w W) ⟨rF w (d+1),dt⟩ ?_;rintro W1 ⟨B,F⟩;have A:=aa B;have N:=aa (fun W (h:Below w.heap.size w W)=>s.out.below L h);clear B s;clear I
 go_loopw [9] (fun i wr=>∃k:Nat,k≤d∧i= .int .i64 k∧cU w.heap.size (d+1) (d+1) (fun j=>if j≤k then fullT j fun _=>bh else bh) wr∧Below w.heap.size w wr) (fun i _=>d-(intOf i).toNat)
 case atStart=>exact⟨0,by omega,rfl,A.out.congr (fun i _=>by
  by_cases h:i≤0
  ·have:i=0:=by omega
   subst this;rfl
  ·rw[an h]),F⟩
 case round=>
  obtain⟨k,V,rfl,z,E⟩:=hrel;have c:=aa z;clear z A F;by_cases U:k<d
  ·have T:((k:Int)<(d:Int)):=by omega
   have R:IntKind.i64.wrap ((k:Int)+1)=((k+1:Nat):Int):=by rw[bP];omega
   have l:=dj k (f:=fun _=>bh) (fun _=>g7);go_wp2;rename_i K g;refine dQ (S:=fun _=>True) (by kernel_rfl) ?_;have O:True:=trivial;have D:Below w.heap.size w {wr with drawn:=wr.drawn+1}:=E.drew;have J:=N.out _ D;have b:=aa (c.out.range k (by omega));simp only[aj (cD k)]at b;refine d5 0 (.slice (some ⟨w.heap.size,0,none⟩) (d+1) (d+1)) rfl (by kernel_rfl) (fun _=>by kernel_rfl) bH ‹_› ?_;go_frame;refine aJ (i:=1) (v:=(.int .i64 (k:Int))) rfl (by kernel_rfl) bH ‹_› (fun a o=>by go_simp) ?_;go_frame;refine d5 3 (.slice (some ⟨w.heap.size,0,none⟩) (d+1) (d+1)) rfl (by kernel_rfl) (fun _=>by kernel_rfl) bH ‹_› ?_;go_frame;refine aJ (i:=4) (v:=(.int .i64 (k:Int))) rfl (by kernel_rfl) bH ‹_› (fun a o=>by go_simp) ?_;go_frame;refine d5 7 (.slice (some ⟨w.heap.size,0,none⟩) (d+1) (d+1)) rfl (by kernel_rfl) (fun _=>by kernel_rfl) bH ‹_› ?_;go_frame;refine aJ (i:=8) (v:=(.int .i64 (k:Int))) rfl (by kernel_rfl) bH ‹_› (fun a o=>by go_simp) ?_;go_frame;refine aJ (i:=2) (v:=(.int .i64 ((k+1:Nat):Int))) rfl (by kernel_rfl) bH ‹_› (fun a o=>by go_simp) ?_;go_frame;refine aJ (i:=5) (v:=(.pointer (some ⟨w.heap.size,32*k,none⟩))) rfl (by kernel_rfl) bH ‹_› (fun a _=>ai a 106 25 _ _ (by rfl) fC 32 (ah am) w.heap.size 0 (d+1) (d+1) (by rfl) .i64 k (by rfl) (by omega) _ (by omega)) ?_;go_frame;refine aJ (i:=9) (v:=(.pointer (some ⟨w.heap.size,32*k,none⟩))) rfl (by kernel_rfl) bH ‹_› (fun a _=>ai a 106 25 _ _ (by rfl) fC 32 (ah am) w.heap.size 0 (d+1) (d+1) (by rfl) .i64 k (by rfl) (by omega) _ (by omega)) ?_;go_frame;refine vQ (i:=6) (k:=10) (.agg (ax (fullT k fun _=>bh))) (.agg (ax (fullT k fun _=>bh))) (Wn:={wr with drawn:=wr.drawn+1}) rfl rfl (by kernel_rfl) (by kernel_rfl) (by kernel_rfl) rfl rfl rfl rfl (ar _ 25 _ (by rfl) w.heap.size _ (by rfl) _ _ b.out cH rfl (by rw[ah am,ac])) (ar _ 25 _ (by rfl) w.heap.size _ (by rfl) _ _ b.out cH rfl (by rw[ah am,ac])) (ar _ 25 _ (by rfl) w.heap.size _ (by rfl) _ _ b.out cH rfl (by rw[ah am,ac])) (ar _ 25 _ (by rfl) w.heap.size _ (by rfl) _ _ b.out cH rfl (by rw[ah am,ac])) trivial trivial rfl rfl ?_;go_frame;refine cQ (i:=11) rfl (by kernel_rfl) rfl (jh 107 #[.agg (ax (fullT k fun _=>bh)),.agg (ax (fullT k fun _=>bh))] (by go_simp) _ _ (xS _ _ l l _ J) ?_);intro Z m;refine⟨trivial,?_⟩;go_frame;refine aJ (i:=12) (v:=(.pointer (some ⟨w.heap.size,32*(k+1),none⟩))) rfl (by kernel_rfl) bH ‹_› (fun a _=>ai a 106 25 _ _ (by rfl) fC 32 (ah am) w.heap.size 0 (d+1) (d+1) (by rfl) .i64 (k+1) (by rfl) (by omega) _ (by omega)) ?_;go_frame;refine cQ (i:=13) rfl (by kernel_rfl) rfl (ne _ _ rfl w.heap.size (d+1) (d+1) (k+1) _ rfl (gX (fullT k fun _=>bh) (fullT k fun _=>bh)) rfl (c.out.block (m.block w.heap.size c.out.lt)) (by omega) (fun Q y q=>⟨trivial,?_⟩));refine dM (by kernel_rfl) ?_ _;refine g _ _ ?_;clear g K;have r:w.heap.size≤wr.heap.size:=pD c.out.lt;have C:Below w.heap.size w Q:=q.below (D.trans (m.mono r)) bG (bg r m.size)
   have u:=aa (y.congr (f':=fun j=>if j≤k+1 then fullT j fun _=>bh else bh) (fun i M=>by
    by_cases H:i=k+1
    ·subst H
     simp only[pC,aj bG];rfl
    ·rw[an H]
     by_cases G:i≤k
     ·rw[aj G,aj (by omega)]
     ·rw[an G,an (by omega)]))
   clear y q b c m O;go_wp2
   first
    |exact⟨⟨k+1,by omega,by go_num,u.out,C⟩,by simp[intOf];omega⟩
    |refine⟨?_,by simp[intOf];omega⟩
     (repeat apply Exists.intro)
     exact⟨⟨k+1,by omega,by go_num,u.out,C⟩,rfl⟩
  ·have e:k=d:=by omega
   subst e;have p:=aa (c.out.congr (f':=fun j=>fullT j fun _=>bh) (fun i M=>by rw[aj (by omega)]));go_wp2;exact cA rfl _ rfl rfl ⟨rfl,p.out,E⟩
def D1 {P d o} (w t e x y z) (r:o.op= .slice t x none (some y) (some z)) (p:P.underlying t=some (.slice e)) (g) (q:(P.info? e).map (·.size)=some g) (a n c) (m:∀f,a=some f→f.spot=none) (l:d x= .slice a n c) (j:d y= .int .i64 (n:Int)) (i:d z= .int .i64 (n:Int)) (B:n≤c):
 (execOp d o).run P w= .ok (.value (.slice a n n)) w:=by
 have h:(0:Int)≤(n:Int):=by omega
 have v:(n:Int)≤(c:Int):=by omega
 have u:(n:Int)≤(n:Int):=vN _
 have s:(if n=0 then a else a.map (·.add (0*g)))=a:=by
  split
  ·rfl
  ·cases a with
   |none=>rfl
   |some f=>obtain⟨b,k,A⟩:=f;have:=m _ rfl;simp only at this;subst this;simp[vO]
 unfold execOp;simp only[r,l,j,i,Option.map_some,Option.map_none,Instr.sliceAt,Instr.slice,Instr.sliceBounds,Instr.sliceBound,asIntOf,dN,Sem.run_pure,Result.andThen_ok,no p,nZ q,aj (And.intro h v),aj (And.intro h u),Int.toNat_natCast,Nat.sub_zero];rw[s]
def Wi {o:Oper} {a:Act} {w:World} {K:Act→World→Prop} {Q:Exit→Act→World→Prop} (s x:Operand) (I:o.op= .call {callee:= .builtin .append,args:=#[s,x],argTypes:=#[106,106]})
 (b k n:Nat) (F:Nat→Nat→Int) (hs:a.eval s= .slice (some ⟨b,k,none⟩) n n) (G:∀i,i<n→w.rangeAt b (k+32*i) (ae 32 (fun _=> .u8) (F i))) (g:Nat) (z:Nat→Int) (E:a.eval x= .slice (some ⟨g,0,none⟩) 1 1) (L:w.heap[g]?=some (.cells (ax z) 25 (0,0))) (hn:n≤1099511627776)
 (h:∀c W,n+1≤c→cU w.heap.size c (n+1) (fun i=>if i<n then F i else z) W→Below w.heap.size w W→K (a.put o.dst (.slice (some ⟨w.heap.size,0,none⟩) (n+1) c)) W):o.wp prog a w K Q:=by
 obtain⟨C,J,D,y,M⟩:=info_parts kC
 obtain⟨m,d,f⟩:∃m:List Value,m.length=n*32∧∀i,i<n→∀j,j<32→m[32*i+j]?=some (.int .u8 (F i j)):=⟨d8 ((List.range n).map F),by rw[ql];simp,fun i u j r=>by
  rw[wK _ i j (by simpa using u) r]
  simp[leaf,List.getD,u]⟩
 have H:=run_append_grow (P:=prog) w 106 o.type 25 C _ fC J D ⟨b,k,none⟩ n n m (by rw[y];exact d) (fun q v p=>by
  have O:q<n*32:=by rw[←d];exact(io.1 p).1
  rw[Fl];have B:=G (q/32) (by omega) (q%32) _ (aN 32 (fun _=> .u8) (F (q/32)) (q%32) (by omega));have A:=f (q/32) (by omega) (q%32) (by omega);rw[show 32*(q/32)+q%32=q by omega,p]at A;rw[show k+32*(q/32)+q%32=k+q by omega]at B;rw[B];exact A.symm) ⟨g,0,none⟩ 1 1 (ae 32 (fun _=> .u8) z) (by rw[y,ac]) (fun q v p=>by
  rw[Fl]
  exact aE L q v p) (by omega) (by omega) (growslice_fits (by omega) (by rw[M];omega))
 unfold Oper.wp execOp;simp only[I,resolve,invoke,builtin,dN,Sem.run_pure,Result.andThen_ok,NG,qC,Av,hs,E,H];have l:=grownCap_ge w (n+1) n 25;refine h _ _ l ⟨_,ak _ _ _ _ rfl,?_,l,fun i u j r=>?_⟩ ((aP _ _).drew.alloc bG _)
 ·simp only[SE,cI,size_zeroCells,d,ac]
  have N:(Value.agg (rep 32)).cells.size=32:=rfl;rw[N];omega
 ·show _=some (Value.int IntKind.u8 ((if i<n then F i else z) j))
  by_cases e:i<n
  ·rw[aj e,SG (by simp only[SE,cI,d,ac];omega),SG (by simp only[cI,d];omega),fu]
   exact f i e j r
  ·obtain rfl:i=n:=by omega
   rw[an e,SG (by simp only[SE,cI,d,ac];omega),Array.getElem?_append_right (by simp only[cI,d];omega),fu,cI,d,show 32*i+j-i*32=j by omega];exact aN 32 (fun _=> .u8) z j r
def Zz (L:List (Nat→Int)) (n H:Nat) (z:Nat→Int) (b o c:Nat) (d:Nat→Nat→Int) (w) (hn:L.length=n) (hH:(n+1)/2=H) (dG:1≤n) (Q2:n≤4294967296) (ka:j_ w (some ⟨b,o,none⟩) L) (cT:b<w.heap.size) (l_:n≤c) (hz:fY z) (YJ:∀i,d i=if i<n then leaf L i else z) (fP:cY w):
 Calls prog 158 #[.slice (some ⟨b,o,none⟩) n c,.agg (ax z)] w fun e a=>∃g,e= .returned (.slice (some ⟨g,0,none⟩) H H)∧cU g H H (fun j=>gX (d (2*j)) (d (2*j+1))) a∧w.heap.size≤g∧Below w.heap.size w a:=by
 have hT:=aa fP;have Nt:=aa (fun W (h:Below w.heap.size w W)=>fP.below fP.size h)
 have dC:=aa (show ∀i,i<n→w.rangeAt b (o+32*i) (ae 32 (fun _=> .u8) (leaf L i))from fun i p=>by
  obtain⟨b',o',e,h⟩:=ka.cell i (by omega);cases e
  exact h)
 have O:=aa cT
 have A:=aa (show ∀i,fY (d i)from fun i=>by
  rw[YJ];split
  ·exact eO ka.is i
  ·exact hz)
 have V7:=aa YJ;clear fP ka cT YJ hn
 go_enter func158,ntmps158
 by_cases acB:n%2=1
 ·have hm:((n:Nat):Int).tmod 2=1:=by rw[NL (by omega)];omega
  have YT:n+1=2*H:=by omega
  go_wp2_with (
   ((with_reducible refine fo 25 ?_);refine bW rfl 25 _ rfl _ rfl ?_))
  rename_i K m;refine dQ (S:=fun a=>a.heap[w.heap.size]?=some (.cells (ax z) 25 (0,0))) (by kernel_rfl) ?_;have s:({w.alloc (.cells (ax z) 25)with drawn:=(w.alloc (.cells (ax z) 25)).drawn+1}:World).heap[w.heap.size]?=some (.cells (ax z) 25 (0,0)):=ak _ _ _ _ rfl;refine gY 0 1 3 (.slice (some ⟨b,o,none⟩) n c) (.slice (some ⟨b,o,none⟩) n c) (.slice (some ⟨b,o,none⟩) n c) rfl (by kernel_rfl) (fun _=>by kernel_rfl) bH ‹_› ?_;go_frame;refine aJ (i:=2) (v:=(.int .i64 (n:Int))) rfl (by kernel_rfl) bH ‹_› (fun a f=>by go_simp) ?_;go_frame;refine aJ (i:=4) (v:=(.int .i64 (n:Int))) rfl (by kernel_rfl) bH ‹_› (fun a f=>by go_simp) ?_;go_frame;refine aJ (i:=6) (v:=(.agg (ax z))) rfl (by kernel_rfl) bH ‹_› (fun a f=>ay a 25 _ (by rfl) w.heap.size (by rfl) _ _ (0,0) _ f cH rfl (by rw[ah am];simp[ae])) ?_;go_frame;refine aJ (i:=5) (v:=(.slice (some ⟨b,o,none⟩) n n)) rfl (by kernel_rfl) bH ‹_› (fun a _=>D1 a 106 25 _ _ _ (by rfl) fC 32 (ah am) (some ⟨b,o,none⟩) n c (fun ad e=>by cases e;rfl) (by rfl) (by rfl) (by rfl) l_) ?_;go_frame;have F:Below w.heap.size w {w.alloc (.cells (ax z) 25)with drawn:=(w.alloc (.cells (ax z) 25)).drawn+1}:=dt.drew;generalize hWb:({w.alloc (.cells (ax z) 25)with drawn:=(w.alloc (.cells (ax z) 25)).drawn+1}:World)=Wb at*;have acX:w.heap.size≤Wb.heap.size:=F.size;clear hWb;refine cQ (i:=7) rfl (by kernel_rfl) rfl (bV _ (eF _ _ (by rfl) z (by rfl)) ⟨aR _ _ _ _ s,?_⟩);go_frame;have G:=F.alloc acX (.cells (ax z) 25);refine cQ (i:=8) rfl (by kernel_rfl) rfl (Wi _ _ rfl b o n (leaf L) rfl (fun i p=>gF (dC.out i p) (G.block b O.out)) _ z rfl (ak _ _ _ _ rfl) (by omega) (fun C2 W hC I Vn=>⟨(Vn.block _ (by rw[bn];have:=aD s;omega)).trans (aR _ _ _ _ s),?_⟩));have eJ:W.heap[w.heap.size]?=some (.cells (ax z) 25 (0,0)):=(Vn.block _ (by rw[bn];have:=aD s;omega)).trans (aR _ _ _ _ s);have dY:Below w.heap.size w W:=G.trans (Vn.mono (by rw[bn];omega));go_frame;generalize (Wb.alloc (.cells (ax z) 25)).heap.size=l at*;refine d5 9 (.slice (some ⟨l,0,none⟩) (n+1) C2) rfl (by kernel_rfl) (fun _=>by kernel_rfl) bH ‹_› ?_;go_frame;refine dM (by kernel_rfl) ?_ _;refine m _ _ ?_;clear m K s eJ G Vn F acX
  have UR:∀i,i<n+1→W.rangeAt l (0+32*i) (ae 32 (fun _=> .u8) (d i)):=fun i p=>by rw[V7.out,bY];exact I.range i p
  have UL:=I.lt;have UB:=dY;clear I dY V7 acB hm;refine bO (fun W=>(∀i,i<(n+1)→W.rangeAt l (0+32*i) (ae 32 (fun _=> .u8) (d i)))∧l<W.heap.size∧Below w.heap.size w W) ⟨UR,UL,UB⟩ ?_;clear dC O hT;rintro W ⟨X,P,r⟩;have Y:=aa X;clear X;have E:IntKind.i64.wrap (H:Int)=(H:Int):=by rw[bP];omega
  have Xx:((n+1:Nat):Int).tdiv 2=(H:Int):=by rw[show ((n+1:Nat):Int)=2*(H:Int) by omega];exact IM _ (by decide)
  go_wp2_with (
   ((with_reducible refine nc 106 ?_);refine aH rfl fun K m=>bV _ (nf _ _ _ rfl H rfl rfl (by omega)) (m _ _ ?_);clear m K))
  have hHn:2*H≤n+1:=by omega
  refine bO (fun D=>cU W.heap.size H H (fun _=>bh) D∧Below W.heap.size W D) ⟨rF W H,dt⟩ ?_;rintro D ⟨V,dX⟩;have U:=aa V;clear V E Xx
  go_loopw [26] (fun i wr=>∃k:Nat,k≤H∧i= .int .i64 k∧cU W.heap.size H H (fun j=>if j<k then gX (d (2*j)) (d (2*j+1))else bh) wr∧Below W.heap.size W wr) (fun i _=>H-(intOf i).toNat)
  case atStart=>exact⟨0,by omega,rfl,U.out.congr (fun i _=>an (by omega)),dX⟩
  case round=>
   obtain⟨k,hk,rfl,T,ei⟩:=hrel;have q:=aa T;clear T U dX;by_cases a8:k<H
   ·have u6:((k:Int)<(H:Int)):=by omega
    have Ee:IntKind.i64.wrap (2*(k:Int))=((2*k:Nat):Int):=by rw[bP];omega
    have Vd:IntKind.i64.wrap (((2*k:Nat):Int)+1)=((2*k+1:Nat):Int):=by rw[bP];omega
    have hw5:IntKind.i64.wrap (2*(k:Int)+1)=2*(k:Int)+1:=by rw[bP];omega
    go_wp2;rename_i K m;refine dQ (S:=fun _=>True) (by kernel_rfl) ?_;have s:True:=trivial;have y:Below W.heap.size W {wr with drawn:=wr.drawn+1}:=ei.drew;have Xw:=Nt.out _ (r.trans (y.mono r.size));have C:=aa (gF (Y.out (2*k) (by omega)) (y.block l P));have B:=aa (gF (Y.out (2*k+1) (by omega)) (y.block l P));refine d5 0 (.slice (some ⟨W.heap.size,0,none⟩) H H) rfl (by kernel_rfl) (fun _=>by kernel_rfl) bH ‹_› ?_;go_frame;refine aJ (i:=1) (v:=(.int .i64 (k:Int))) rfl (by kernel_rfl) bH ‹_› (fun a f=>by go_simp) ?_;go_frame;refine aJ (i:=2) (v:=(.slice (some ⟨l,0,none⟩) (n+1) C2)) rfl (by kernel_rfl) bH ‹_› (fun a f=>by go_simp) ?_;go_frame;refine aJ (i:=3) (v:=(.int .i64 (k:Int))) rfl (by kernel_rfl) bH ‹_› (fun a f=>by go_simp) ?_;go_frame;refine aJ (i:=7) (v:=(.slice (some ⟨l,0,none⟩) (n+1) C2)) rfl (by kernel_rfl) bH ‹_› (fun a f=>by go_simp) ?_;go_frame;refine aJ (i:=8) (v:=(.int .i64 (k:Int))) rfl (by kernel_rfl) bH ‹_› (fun a f=>by go_simp) ?_;go_frame;refine aJ (i:=4) (v:=(.int .i64 ((2*k:Nat):Int))) rfl (by kernel_rfl) bH ‹_› (fun a f=>by go_simp) ?_;go_frame;refine aJ (i:=9) (v:=(.int .i64 ((2*k:Nat):Int))) rfl (by kernel_rfl) bH ‹_› (fun a f=>by go_simp) ?_;go_frame;refine aJ (i:=10) (v:=(.int .i64 ((2*k+1:Nat):Int))) rfl (by kernel_rfl) bH ‹_› (fun a f=>by go_simp) ?_;go_frame;refine aJ (i:=5) (v:=(.pointer (some ⟨l,0+32*(2*k),none⟩))) rfl (by kernel_rfl) bH ‹_› (fun a _=>ai a 106 25 _ _ (by rfl) fC 32 (ah am) l 0 ((n+1)) C2 (by rfl) .i64 (2*k) (by rfl) (by omega) _ (by omega)) ?_;go_frame;refine aJ (i:=11) (v:=(.pointer (some ⟨l,0+32*(2*k+1),none⟩))) rfl (by kernel_rfl) bH ‹_› (fun a _=>ai a 106 25 _ _ (by rfl) fC 32 (ah am) l 0 ((n+1)) C2 (by rfl) .i64 (2*k+1) (by rfl) (by omega) _ (by omega)) ?_;go_frame;refine vQ (i:=6) (k:=12) (.agg (ax (d (2*k)))) (.agg (ax (d (2*k+1)))) (Wn:={wr with drawn:=wr.drawn+1}) rfl rfl (by kernel_rfl) (by kernel_rfl) (by kernel_rfl) rfl rfl rfl rfl (ar _ 25 _ (by rfl) l _ (by rfl) _ _ C.out cH rfl (by rw[ah am,ac])) (ar _ 25 _ (by rfl) l _ (by rfl) _ _ C.out cH rfl (by rw[ah am,ac])) (ar _ 25 _ (by rfl) l _ (by rfl) _ _ B.out cH rfl (by rw[ah am,ac])) (ar _ 25 _ (by rfl) l _ (by rfl) _ _ B.out cH rfl (by rw[ah am,ac])) trivial trivial rfl rfl ?_;go_frame;refine cQ (i:=13) rfl (by kernel_rfl) rfl (jh 107 #[.agg (ax (d (2*k))),.agg (ax (d (2*k+1)))] (by go_simp) _ _ (xS _ _ (A.out _) (A.out _) _ Xw) ?_);intro W4 u;refine⟨trivial,?_⟩;go_frame;refine aJ (i:=14) (v:=(.pointer (some ⟨W.heap.size,32*k,none⟩))) rfl (by kernel_rfl) bH ‹_› (fun a _=>ai a 106 25 _ _ (by rfl) fC 32 (ah am) W.heap.size 0 H H (by rfl) .i64 k (by rfl) (by omega) _ (by omega)) ?_;go_frame;refine cQ (i:=15) rfl (by kernel_rfl) rfl (ne _ _ rfl W.heap.size H H k _ rfl (gX (d (2*k)) (d (2*k+1))) rfl (q.out.block (u.block W.heap.size q.out.lt)) a8 (fun W5 R M=>⟨trivial,?_⟩));refine dM (by kernel_rfl) ?_ _;refine m _ _ ?_;clear m K;have N:W.heap.size≤wr.heap.size:=pD q.out.lt;have Z:Below W.heap.size W W5:=M.below (y.trans (u.mono N)) bG (bg N u.size)
    have Q:=aa (R.congr (f':=fun j=>if j<k+1 then gX (d (2*j)) (d (2*j+1))else bh) (fun i p=>by
     by_cases c1:i=k
     ·subst c1
      simp only[pC,aj (mE _)]
     ·rw[an c1]
      by_cases c2:i<k
      ·rw[aj c2,aj (by omega)]
      ·rw[an c2,an (by omega)]))
    clear R M C B q u s;go_wp2
    first
     |exact⟨⟨k+1,by omega,by go_num,Q.out,Z⟩,by simp[intOf];omega⟩
     |refine⟨?_,by simp[intOf];omega⟩
      (repeat apply Exists.intro)
      exact⟨⟨k+1,by omega,by go_num,Q.out,Z⟩,rfl⟩
   ·have e:k=H:=by omega
    subst e;have J:=aa (q.out.congr (f':=fun j=>gX (d (2*j)) (d (2*j+1))) (fun i p=>by rw[aj p]));go_wp2;exact cA rfl _ rfl rfl ⟨W.heap.size,rfl,J.out,r.size,r.trans (ei.mono r.size)⟩
 ·have hm:((n:Nat):Int).tmod 2=0:=by rw[NL (by omega)];omega
  have YT:n=2*H:=by omega
  have UR:∀i,i<n→(w.alloc (.cells (ax z) 25)).rangeAt b (o+32*i) (ae 32 (fun _=> .u8) (d i)):=fun i p=>by rw[V7.out,aj p];exact gF (dC.out i p) (Below.heap_alloc _ _ _ O.out)
  have UL:b<(w.alloc (.cells (ax z) 25)).heap.size:=by rw[bn];have:=O.out;omega
  have UB:Below w.heap.size w (w.alloc (.cells (ax z) 25)):=dt;clear V7 acB;have E:IntKind.i64.wrap (H:Int)=(H:Int):=by rw[bP];omega
  have Xx:((n:Nat):Int).tdiv 2=(H:Int):=by rw[show ((n:Nat):Int)=2*(H:Int) by omega];exact IM _ (by decide)
  have hHn:2*H≤n:=by omega
  have hHm:H≤4294967296:=by omega
  have alH:=aa YT;have hH2:=aa hH;clear YT hH
  go_wp2_with (
   ((with_reducible refine nc 106 ?_)
    refine bZ (fun W=>(∀i,i<n→W.rangeAt b (o+32*i) (ae 32 (fun _=> .u8) (d i)))∧b<W.heap.size∧Below w.heap.size w W) ⟨UR,UL,UB⟩ ?_;clear dC O hT UR UL UB;rintro W ⟨X,P,r⟩;have Y:=aa X;clear X
    refine aH rfl fun K m=>bV _ (nf _ _ _ rfl H rfl rfl hHm) (m _ _ ?_);clear m K))
  clear hm;refine bO (fun D=>cU W.heap.size H H (fun _=>bh) D∧Below W.heap.size W D) ⟨rF W H,dt⟩ ?_;rintro D ⟨V,dX⟩;have U:=aa V;clear V E Xx
  go_loopw [26] (fun i wr=>∃k:Nat,k≤H∧i= .int .i64 k∧cU W.heap.size H H (fun j=>if j<k then gX (d (2*j)) (d (2*j+1))else bh) wr∧Below W.heap.size W wr) (fun i _=>H-(intOf i).toNat)
  case atStart=>exact⟨0,by omega,rfl,U.out.congr (fun i _=>an (by omega)),dX⟩
  case round=>
   obtain⟨k,hk,rfl,T,ei⟩:=hrel;have q:=aa T;clear T U dX;by_cases a8:k<H
   ·have u6:((k:Int)<(H:Int)):=by omega
    have Ee:IntKind.i64.wrap (2*(k:Int))=((2*k:Nat):Int):=by rw[bP];omega
    have Vd:IntKind.i64.wrap (((2*k:Nat):Int)+1)=((2*k+1:Nat):Int):=by rw[bP];omega
    have hw5:IntKind.i64.wrap (2*(k:Int)+1)=2*(k:Int)+1:=by rw[bP];omega
    go_wp2;rename_i K m;refine dQ (S:=fun _=>True) (by kernel_rfl) ?_;have s:True:=trivial;have y:Below W.heap.size W {wr with drawn:=wr.drawn+1}:=ei.drew;have Xw:=Nt.out _ (r.trans (y.mono r.size));have C:=aa (gF (Y.out (2*k) (by omega)) (y.block b P));have B:=aa (gF (Y.out (2*k+1) (by omega)) (y.block b P));refine d5 0 (.slice (some ⟨W.heap.size,0,none⟩) H H) rfl (by kernel_rfl) (fun _=>by kernel_rfl) bH ‹_› ?_;go_frame;refine aJ (i:=1) (v:=(.int .i64 (k:Int))) rfl (by kernel_rfl) bH ‹_› (fun a f=>by go_simp) ?_;go_frame;refine aJ (i:=2) (v:=(.slice (some ⟨b,o,none⟩) n c)) rfl (by kernel_rfl) bH ‹_› (fun a f=>by go_simp) ?_;go_frame;refine aJ (i:=3) (v:=(.int .i64 (k:Int))) rfl (by kernel_rfl) bH ‹_› (fun a f=>by go_simp) ?_;go_frame;refine aJ (i:=7) (v:=(.slice (some ⟨b,o,none⟩) n c)) rfl (by kernel_rfl) bH ‹_› (fun a f=>by go_simp) ?_;go_frame;refine aJ (i:=8) (v:=(.int .i64 (k:Int))) rfl (by kernel_rfl) bH ‹_› (fun a f=>by go_simp) ?_;go_frame;refine aJ (i:=4) (v:=(.int .i64 ((2*k:Nat):Int))) rfl (by kernel_rfl) bH ‹_› (fun a f=>by go_simp) ?_;go_frame;refine aJ (i:=9) (v:=(.int .i64 ((2*k:Nat):Int))) rfl (by kernel_rfl) bH ‹_› (fun a f=>by go_simp) ?_;go_frame;refine aJ (i:=10) (v:=(.int .i64 ((2*k+1:Nat):Int))) rfl (by kernel_rfl) bH ‹_› (fun a f=>by go_simp) ?_;go_frame;refine aJ (i:=5) (v:=(.pointer (some ⟨b,o+32*(2*k),none⟩))) rfl (by kernel_rfl) bH ‹_› (fun a _=>ai a 106 25 _ _ (by rfl) fC 32 (ah am) b o (n) c (by rfl) .i64 (2*k) (by rfl) (by omega) _ (by omega)) ?_;go_frame;refine aJ (i:=11) (v:=(.pointer (some ⟨b,o+32*(2*k+1),none⟩))) rfl (by kernel_rfl) bH ‹_› (fun a _=>ai a 106 25 _ _ (by rfl) fC 32 (ah am) b o (n) c (by rfl) .i64 (2*k+1) (by rfl) (by omega) _ (by omega)) ?_;go_frame;refine vQ (i:=6) (k:=12) (.agg (ax (d (2*k)))) (.agg (ax (d (2*k+1)))) (Wn:={wr with drawn:=wr.drawn+1}) rfl rfl (by kernel_rfl) (by kernel_rfl) (by kernel_rfl) rfl rfl rfl rfl (ar _ 25 _ (by rfl) b _ (by rfl) _ _ C.out cH rfl (by rw[ah am,ac])) (ar _ 25 _ (by rfl) b _ (by rfl) _ _ C.out cH rfl (by rw[ah am,ac])) (ar _ 25 _ (by rfl) b _ (by rfl) _ _ B.out cH rfl (by rw[ah am,ac])) (ar _ 25 _ (by rfl) b _ (by rfl) _ _ B.out cH rfl (by rw[ah am,ac])) trivial trivial rfl rfl ?_;go_frame;refine cQ (i:=13) rfl (by kernel_rfl) rfl (jh 107 #[.agg (ax (d (2*k))),.agg (ax (d (2*k+1)))] (by go_simp) _ _ (xS _ _ (A.out _) (A.out _) _ Xw) ?_);intro W4 u;refine⟨trivial,?_⟩;go_frame;refine aJ (i:=14) (v:=(.pointer (some ⟨W.heap.size,32*k,none⟩))) rfl (by kernel_rfl) bH ‹_› (fun a _=>ai a 106 25 _ _ (by rfl) fC 32 (ah am) W.heap.size 0 H H (by rfl) .i64 k (by rfl) (by omega) _ (by omega)) ?_;go_frame;refine cQ (i:=15) rfl (by kernel_rfl) rfl (ne _ _ rfl W.heap.size H H k _ rfl (gX (d (2*k)) (d (2*k+1))) rfl (q.out.block (u.block W.heap.size q.out.lt)) a8 (fun W5 R M=>⟨trivial,?_⟩));refine dM (by kernel_rfl) ?_ _;refine m _ _ ?_;clear m K;have N:W.heap.size≤wr.heap.size:=pD q.out.lt;have Z:Below W.heap.size W W5:=M.below (y.trans (u.mono N)) bG (bg N u.size)
    have Q:=aa (R.congr (f':=fun j=>if j<k+1 then gX (d (2*j)) (d (2*j+1))else bh) (fun i p=>by
     by_cases c1:i=k
     ·subst c1
      simp only[pC,aj (mE _)]
     ·rw[an c1]
      by_cases c2:i<k
      ·rw[aj c2,aj (by omega)]
      ·rw[an c2,an (by omega)]))
    clear R M C B q u s;go_wp2
    first
     |exact⟨⟨k+1,by omega,by go_num,Q.out,Z⟩,by simp[intOf];omega⟩
     |refine⟨?_,by simp[intOf];omega⟩
      (repeat apply Exists.intro)
      exact⟨⟨k+1,by omega,by go_num,Q.out,Z⟩,rfl⟩
   ·have e:k=H:=by omega
    subst e;have J:=aa (q.out.congr (f':=fun j=>gX (d (2*j)) (d (2*j+1))) (fun i p=>by rw[aj p]));go_wp2;exact cA rfl _ rfl rfl ⟨W.heap.size,rfl,J.out,r.size,r.trans (ei.mono r.size)⟩
def jM (a:List (Nat→Int)) (n j:Nat) (i:Nat):Nat→Int:=if i<n then leaf a i else fullT j fun _=>bh
def KE (a n H j) (d:(n+1)/2=H):jM ((List.range H).map fun i=>gX (jM a n j (2*i)) (jM a n j (2*i+1))) H (j+1)=level (jM a n j):=by
 funext i
 unfold level;by_cases h:i<H
 ·show (if i<H then _ else _)=_
  rw[aj h];simp[leaf,List.getD,h]
 ·show (if i<H then _ else _)=_
  rw[an h];have c:jM a n j (2*i)=fullT j fun _=>bh:=an (by omega);have b:jM a n j (2*i+1)=fullT j fun _=>bh:=an (by omega);rw[c,b];rfl
structure ST (d:Nat) (R:Nat→Int) (zg:Nat) (w:World) (j n b o c:Nat) (rs:List (Nat→Int)) (W:World):Prop where
 hn:rs.length=n
 h1:1≤n
 h2:n≤2^(d-j)
 hc:n≤c
 hr:j_ W (some ⟨b,o,none⟩) rs
 hb:b<W.heap.size
 hR:fullT (d-j) (jM rs n j)=R
 hz:cU zg (d+1) (d+1) (fun k=>fullT k fun _=>bh) W
 h4:W.heap[w.heap.size]?=some (.cells zr 25 (0,0))
 hB:Below w.heap.size w W
def zP (a n m d M c w) (hn:a.length=n) (hm:n≤m) (O:lN m d) (gS:d≤32) (D:j_ w M a) (cT:∀b o,M=some ⟨b,o,none⟩→b<w.heap.size) (hc:n≤c) (K:cY w):
 Calls prog 100 #[.slice M n c,.int .i64 (m:Int)] w fun e w'=>e= .returned (.tuple #[.agg (ax (fullT d (leaf a))),.int .i64 0])∧Below w.heap.size w w':=by
 obtain⟨R,T⟩:∃R,R=fullT d (leaf a):=⟨_,rfl⟩;rw[←T];have I:=aa O;have E:=aa D;have F:=aa cT;have hT:=aa K;have P:=aa (fun W (h:Below w.heap.size w W)=>K.below K.size h);have hp:2^d≤2^32:=nN (by decide) gS;have acG:m≤4294967296:=bg O.1 hp;have l:=aa T;have u:=aa hn;have g1:decide (1099511627776<(m:Int))=false:=by simp;omega
 have g2:decide ((m:Int)<(n:Int))=false:=by simp;omega
 have g3:¬((m:Int)<0):=by omega
 clear O D cT K hp T hn;by_cases Y:n=0
 ·subst Y
  have RT:a=[]:=Ay u.out;have S:=l.out;rw[RT,tT]at S;have hRz:=aa S;clear S l E F u RT
  go_enter func100,ntmps100
  go_wp2_with (first
   |refine ao 25 ?_;refine fX 4 cg ?_
   |with_reducible refine(DI m d _ I.out (by omega)).mono ?_
    rintro e W ⟨rfl,rfl⟩
   |with_reducible refine(DF d _ (P.out _ ((aP _ w).alloc bG (.cells zr 25))) (by omega)).mono ?_
    rintro e W ⟨rfl,hZ,k⟩;have s:=aa (hZ.range d (by omega));have h4:=aa ((k.block w.heap.size (by rw[bn];omega)).trans (ak w zr 25 _ rfl));have hB:=aa (((aP _ w).alloc bG (.cells zr 25)).trans (k.mono (by rw[bn];omega)));generalize (w.alloc (.cells zr 25)).heap.size=p at*;clear hZ k
   |refine aC 106 ?_;refine ab (by rfl) _ (ai _ 106 25 _ _ rfl fC 32 (ah am) p 0 (d+1) (d+1) rfl .i64 d rfl (by omega) (32*d) (by omega)) ?_
   |refine ag 25 ?_;refine ab (by rfl) _ (ar _ 25 _ (by rfl) p (32*d) (by rfl) _ _ s.out cH rfl (by rw[ah am,ac])) ?_
   |refine al 25 ?_;refine aq (w0:=w) (n0:=w.heap.size) 25 _ _ rfl rfl w.heap.size rfl _ rfl (aA _ _ _) (by rw[ah am];simp[ae]) _ 25 h4.out (by rw[bL];simp[ae]) bG hB.out (fun W9 J V _=>?_))
  rw[←hRz.out]at J;exact aI rfl w.heap.size 0 (ae 32 (fun _=> .u8) R) _ rfl J cH rfl (by rw[ah am,ac]) rfl ⟨rfl,V⟩
 ·obtain⟨b,o,gb,_⟩:=E.out.cell 0 (by rw[u.out];omega)
  subst gb;have q0:((n:Int)==0)=false:=by simp[Y]
  go_enter func100,ntmps100
  go_wp2_with (first
   |refine ao 25 ?_;refine fX 4 cg ?_
   |with_reducible refine(DI m d _ I.out (by omega)).mono ?_
    rintro e W ⟨rfl,rfl⟩
   |with_reducible refine(DF d _ (P.out _ ((aP _ w).alloc bG (.cells zr 25))) (by omega)).mono ?_
    rintro e W ⟨rfl,hZ,k⟩
    have YW:=aa (show ST d R (w.alloc (.cells zr 25)).heap.size w 0 n b o c a W from⟨u.out,by omega,by have:=I.out.1;simp;omega,hc,E.out.later (((aP _ w).alloc bG (.cells zr 25)).trans (k.mono (by rw[bn];omega))) (fun b' o' e=>by cases e;exact F.out b o rfl),by have:=F.out b o rfl;have:=k.size;rw[bn]at this;omega,by
     rw[l.out,Nat.sub_zero]
     congr 1
     funext i
     unfold jM;by_cases h:i<n
     ·rw[aj h]
     ·rw[an h,C3 a i (by rw[u.out];omega)]
      rfl,hZ,(k.block w.heap.size (by rw[bn];omega)).trans (ak _ _ _ _ rfl),((aP _ w).alloc bG (.cells zr 25)).trans (k.mono (by rw[bn];omega))⟩)
    generalize (w.alloc (.cells zr 25)).heap.size=p at*
    clear hZ k)
  clear E F hT l u g1 g2 g3 q0 Y hc hm I
  go_loopw [0,35] (fun ch i wr=>∃(j n b o c:Nat) (a:List (Nat→Int)),j≤d∧i= .int .i64 (j:Int)∧ch= .slice (some ⟨b,o,none⟩) n c∧ST d R p w j n b o c a wr) (fun _ i _=>d-(intOf i).toNat)
  case atStart=>exact⟨0,n,b,o,c,a,by omega,rfl,rfl,YW.out⟩
  case round=>
   obtain⟨j,n,b,o,c,a,hj,rfl,rfl,B⟩:=hrel;clear YW;have f:=aa B;clear B;have hJB:=f.out.hB;by_cases a8:j<d
   ·have lj:(j:Int)<(d:Int):=by omega
    obtain⟨H,U⟩:∃H,(n+1)/2=H:=⟨_,rfl⟩;have agX:n≤4294967296:=bg f.out.h2 (bg (nN (by decide) (show d-j≤32 by omega)) (by decide));have s:=aa (f.out.hz.range j (by omega));have y:=aa (Zz a n H (fullT j fun _=>bh) b o c (jM a n j) wr f.out.hn U f.out.h1 agX f.out.hr f.out.hb f.out.hc (dj j fun _=>g7) (fun i=>rfl) (P.out _ f.out.hB));have Rp:=KE a n H j U;have q:((List.range H).map fun i=>gX (jM a n j (2*i)) (jM a n j (2*i+1))).length=H:=by simp
    have KN:=NA 2 (d-(j+1));rw[show (d-(j+1)).succ=d-j by omega]at KN;have hH1:1≤H:=by have:=f.out.h1;omega
    have hH2:H≤2^(d-(j+1)):=by have:=f.out.h2;omega
    have z:fullT (d-(j+1)) (jM ((List.range H).map fun i=>gX (jM a n j (2*i)) (jM a n j (2*i+1))) H (j+1))=R:=by rw[Rp,←pU,show d-(j+1)+1=d-j by omega];exact f.out.hR
    have ahd:=aa z
    have Nn:=aa (show ∀r∈(List.range H).map fun i=>gX (jM a n j (2*i)) (jM a n j (2*i+1)),fY r from fun r hr=>by
     obtain⟨i,_,rfl⟩:=ft.1 hr
     exact jj _ _)
    have H8:=aa (show ∀i,i<H→leaf ((List.range H).map fun i=>gX (jM a n j (2*i)) (jM a n j (2*i+1))) i=gX (jM a n j (2*i)) (jM a n j (2*i+1))from fun i G=>by simp[leaf,List.getD,G]);have N:=aa q;clear Rp KN z U q;generalize ((List.range H).map fun i=>gX (jM a n j (2*i)) (jM a n j (2*i+1)))=C at*
    go_wp2_with (first
     |refine aC 106 ?_;refine ab (by rfl) _ (ai _ 106 25 _ _ rfl fC 32 (ah am) p 0 (d+1) (d+1) rfl .i64 j rfl (by omega) (32*j) (by omega)) ?_
     |refine ag 25 ?_;refine ab (by rfl) _ (ar _ 25 _ (by rfl) p (32*j) (by rfl) _ _ s.out cH rfl (by rw[ah am,ac])) ?_
     |with_reducible refine y.out.mono ?_
      rintro e W2 ⟨g,rfl,Q,hg,L⟩;have A:=aa (show ST d R p w (j+1) H g 0 H C W2 from⟨N.out,hH1,hH2,cD _,Q.row C (by rw[N.out];exact cD _) (fun i G=>H8.out i (by rw[N.out]at G;exact G)) Nn.out,Q.lt,ahd.out,f.out.hz.block (L.block p f.out.hz.lt),(L.block w.heap.size (aD f.out.h4)).trans f.out.h4,f.out.hB.trans (L.mono f.out.hB.size)⟩)
      clear y Q L)
    first
     |exact⟨⟨j+1,H,g,0,H,C,by omega,by go_num,rfl,A.out⟩,by simp[intOf];omega⟩
     |refine⟨?_,by simp[intOf];omega⟩
      (repeat apply Exists.intro)
      exact⟨⟨j+1,H,g,0,H,C,by omega,by go_num,rfl,A.out⟩,rfl⟩
   ·have e:j=d:=by omega
    subst e;have dG:n=1:=by have h1:=f.out.h1;have v:=f.out.h2;rw[Ar]at v;simp at v;omega
    have D:wr.rangeAt b o (ae 32 (fun _=> .u8) R):=by obtain⟨b',o',e,h⟩:=f.out.hr.cell 0 (by rw[f.out.hn];omega);cases e;have v:=f.out.hR;rw[Ar]at v;have X:jM a n j 0=R:=v;unfold jM at X;rw[aj (by omega)]at X;rw[X]at h;exact h
    have Z:=aa D;have m6:=f.out.hc;subst dG
    go_wp2_with (first
     |refine aC 106 ?_;refine ab (by rfl) _ (ai _ 106 25 _ _ rfl fC 32 (ah am) b o 1 c rfl .i64 0 rfl (by decide) o (by omega)) ?_
     |refine ag 25 ?_;refine ab (by rfl) _ (ar _ 25 _ (by rfl) b o (by rfl) _ _ Z.out cH rfl (by rw[ah am,ac])) ?_
     |refine al 25 ?_;refine aq (w0:=w) (n0:=w.heap.size) 25 _ _ rfl rfl w.heap.size rfl _ rfl (aA _ _ _) (by rw[ah am];simp[ae]) _ 25 f.out.h4 (by rw[bL];simp[ae]) bG f.out.hB (fun W9 J V _=>?_))
    exact aI rfl w.heap.size 0 (ae 32 (fun _=> .u8) R) _ rfl J cH rfl (by rw[ah am,ac]) rfl ⟨rfl,V⟩
def adj (r:Nat→Int) (m:Int) (b c a d:Nat) (w W:World):Prop:=W.heap[b]?=some (.cells (ax r) 25 (0,0))∧W.heap[c]?=some (.cells zr 25 (0,0))∧W.heap[a]?=some (.cells zr 25 (0,0))∧W.heap[d]?=some (.cells (kX m) 184 (0,0))∧Below b w W∧b<c∧c<a∧a<d
def CZ (r m w) (G:fY r) (o:cY w):
 Calls prog 101 #[.agg (ax r),.int .u64 m] w fun e Q=>e= .returned (.agg (ax (gX r (je m))))∧Below w.heap.size w Q:=by
 have V:=aa G;have N:=aa (fun W (h:Below w.heap.size w W)=>o.below o.size h);have R:=aa (ir m);clear G o;have Y:=aa (fun W=>qY m W)
 go_enter func101,ntmps101
 go_wp2_with (first
  |((with_reducible refine ao 25 ?_);first|refine aH rfl fun K j=>bT 25 rfl 4 rfl zr 32 cg (j _ _ ?_)|refine fX 5 cg ?_)
  |with_reducible refine(Y.out _).mono ?_
   rintro e W ⟨rfl,L⟩;have b:=aa L;clear L
  |refine ao 184 ?_;refine aw rfl rfl 184 6 _ rfl rfl rfl (kX m) rfl rfl (zeroOf prog 184) (aG iA).1 (aG iA).2 (mh _) ?_)
 try go_frame
 have F:=b.out.size;simp only[bn]at F;have M:Below w.heap.size w (((w.alloc (.cells (ax r) 25)).alloc (.cells zr 25)).alloc (.cells zr 25)):=(((aP _ w).alloc bG _).alloc (by simp only[bn];omega) _).alloc (by simp only[bn];omega) _;have g:∀i,i<(((w.alloc (.cells (ax r) 25)).alloc (.cells zr 25)).alloc (.cells zr 25)).heap.size→(W.alloc (.cells (kX m) 184)).heap[i]?=(((w.alloc (.cells (ax r) 25)).alloc (.cells zr 25)).alloc (.cells zr 25)).heap[i]?:=fun i H=>((aP W.heap.size W).alloc bG _).block i (du H b.out.size)|>.trans (b.out.block i H)
 refine bO (adj r m w.heap.size (w.heap.size+1) (w.heap.size+1+1) W.heap.size w) ⟨(g _ (by simp only[bn];omega)).trans (aR _ _ _ _ (aR _ _ _ _ (ak _ _ _ _ rfl))),(g _ (by simp only[bn];omega)).trans (aR _ _ _ _ (ak _ _ _ _ (by simp))),(g _ (by simp only[bn];omega)).trans (ak _ _ _ _ (by simp)),ak _ _ _ _ rfl,(M.trans (b.out.mono (by simp only[bn];omega))).alloc (by omega) _,by omega,by omega,by omega⟩ ?_;clear b M g F;generalize X:w.heap.size+1+1=a at*;generalize s:w.heap.size+1=d at*;clear X s;generalize W.heap.size=B at*;clear W;intro P v;obtain⟨k,n,l,D,C,z4,z5,z6⟩:=v;rename_i K j;refine dQ (S:=fun _=>True) (by kernel_rfl) ?_;have hS:True:=trivial;refine kg 0 1 (.slice (some ⟨a,0,none⟩) 32 32) (.slice (some ⟨B,0,none⟩) 8 8) rfl (by kernel_rfl) (fun _=>by kernel_rfl) bH ‹_› ?_;go_frame;refine cQ (i:=2) rfl (by kernel_rfl) rfl (ja (.tmp 9) (.tmp 10) 39 39 rfl 5 bF cR a 0 B 0 32 32 8 8 rfl rfl zr 25 l (ae 8 (fun _=> .u8) (lL m)) (by simp[ae]) (aE D) (by rw[bL];simp[ae]) (fun u T=>cl u T) ?_);intro O J E;refine⟨trivial,?_⟩;go_frame;refine dM (by kernel_rfl) ?_ _;refine j _ _ ?_;clear j K;have I:O.heap[a]?=some (.cells (ax (je m)) 25 (0,0)):=(FU m)▸J;have f:aL a P O:=(aL.begin _ P).trans E;have q:=aa (f.below C (by omega) (by have:=aD l;omega));have U:=aa (aE ((f.block _ (aD k) (by omega)).trans k));have c:=aa ((f.block d (aD n) (by omega)).trans n);have z:=aa (aE I);have y:=aa (N.out _ q.out);clear E f I J k n l D C hS N
 go_wp2_with (first
  |((with_reducible refine ag 25 ?_);first|refine ab (by rfl) _ (ar _ 25 _ (by rfl) w.heap.size 0 (by rfl) _ _ U.out cH rfl (by rw[ah am,ac])) ?_|refine ab (by rfl) _ (ar _ 25 _ (by rfl) a 0 (by rfl) _ _ z.out cH rfl (by rw[ah am,ac])) ?_)
  |with_reducible refine(xS r (je m) V.out R.out _ y.out).mono ?_
   rintro e W4 ⟨rfl,p⟩;have vD:=aa (q.out.trans (p.mono q.out.size));have A:=aa ((p.block d (aD c.out)).trans c.out);clear p
  |refine al 25 ?_;refine aq (w0:=w) (n0:=w.heap.size) 25 _ _ rfl rfl d rfl _ rfl (aA _ _ _) (by rw[ah am];simp[ae]) _ 25 A.out (by rw[bL];simp[ae]) (by omega) vD.out (fun W9 Z dY _=>?_))
 exact fF rfl d 0 (ae 32 (fun _=> .u8) (gX r (je m))) _ rfl Z cH rfl (by rw[ah am,ac]) rfl ⟨rfl,dY⟩
def zK (r m w) (N:fY r) (q:cY w):
 Calls prog 53 #[.agg (ax r),.int .u64 m] w fun e Z=>e= .returned (.agg (ax (gX r (je m))))∧Below w.heap.size w Z:=by
 have hr:=aa N;have T:=aa (fun W (h:Below w.heap.size w W)=>q.below q.size h);have hz:=aa (ir m);clear N q;have xl:=aa (fun W=>rE m W)
 go_enter func53,ntmps53
 go_wp2_with (first
  |((with_reducible refine ao 25 ?_);first|refine aH rfl fun K hK=>bT 25 rfl 4 rfl zr 32 cg (hK _ _ ?_)|refine fX 5 cg ?_)
  |with_reducible refine(xl.out _).mono ?_
   rintro e W ⟨rfl,R⟩;have f:=aa R;clear R
  |refine ao 184 ?_;refine aw rfl rfl 184 6 _ rfl rfl rfl (kX m) rfl rfl (zeroOf prog 184) (aG iA).1 (aG iA).2 (mh _) ?_)
 try go_frame
 have M:=f.out.size;simp only[bn]at M;have S:Below w.heap.size w (((w.alloc (.cells (ax r) 25)).alloc (.cells zr 25)).alloc (.cells zr 25)):=(((aP _ w).alloc bG _).alloc (by simp only[bn];omega) _).alloc (by simp only[bn];omega) _;have d:∀i,i<(((w.alloc (.cells (ax r) 25)).alloc (.cells zr 25)).alloc (.cells zr 25)).heap.size→(W.alloc (.cells (kX m) 184)).heap[i]?=(((w.alloc (.cells (ax r) 25)).alloc (.cells zr 25)).alloc (.cells zr 25)).heap[i]?:=fun i Q=>((aP W.heap.size W).alloc bG _).block i (du Q f.out.size)|>.trans (f.out.block i Q)
 refine bO (adj r m w.heap.size (w.heap.size+1) (w.heap.size+1+1) W.heap.size w) ⟨(d _ (by simp only[bn];omega)).trans (aR _ _ _ _ (aR _ _ _ _ (ak _ _ _ _ rfl))),(d _ (by simp only[bn];omega)).trans (aR _ _ _ _ (ak _ _ _ _ (by simp))),(d _ (by simp only[bn];omega)).trans (ak _ _ _ _ (by simp)),ak _ _ _ _ rfl,(S.trans (f.out.mono (by simp only[bn];omega))).alloc (by omega) _,by omega,by omega,by omega⟩ ?_;clear f S d M;generalize YH:w.heap.size+1+1=b at*;generalize B:w.heap.size+1=c at*;have C:=aa (show w.heap.size<c∧w.heap.size<b by omega);clear YH B;generalize W.heap.size=I at*;clear W;intro W0 g;have l:=aa g;clear g
 go_loopw [7] (fun i wr=>∃k:Nat,k≤8∧i= .int .i64 (k:Int)∧qH b 0 k (fH m) wr∧aL b W0 wr) (fun i _=>8-(intOf i).toNat)
 case atStart=>exact⟨0,by omega,rfl,qH.start _ _ _ _ l.out.2.2.1,aL.refl _ _⟩
 case round=>
  obtain⟨k,d,rfl,s,a⟩:=hrel;obtain⟨n,p,L,o,J,z4,Y,z6⟩:=l.out;have D:=aa ((a.block I (aD o) (by omega)).trans o);have z:=aa (a.below J (by omega) (by have:=aD L;omega));have K7:=aa (aE ((a.block _ (aD n) (by omega)).trans n));have j:=aa ((a.block c (aD p) (by omega)).trans p);clear n p L o J;by_cases P:k<8
  ·have t1:decide ((k:Int)<8)=true:=by simp;omega
   have l8:(k:Int)<8:=by omega
   have l32:(k:Int)<32:=by omega
   obtain⟨O,V,Ld,U⟩:=s;have KV:=aa V;have Zr:=aa U;have F:=aa a;clear V U a l
   have A:=aa (show (fH m).getD (32*0+k) 0=lL m k by
    simp[fH,List.getD,P])
   have zC:=aa (show wr.cell? ⟨I,k,none⟩=some (.int .u8 (lL m k)) by
    have X:=aE D.out k _ (aN 8 (fun _=> .u8) (lL m) k P);rw[bY]at X
    exact X)
   generalize hy:lL m k=y at*;clear hy
   go_wp2_with (first
    |refine ag 5 ?_;refine dq (v:=(.int .u8 y)) zC.out sE ?_ rfl rfl rfl rfl
    |refine al 5 ?_;refine fQ 5 _ _ rfl rfl b k rfl .u8 y rfl (by kernel_rfl) O 25 KV.out (by omega) (fun W5 BZ EY=>?_))
   exact⟨⟨k+1,by omega,by go_num,qH.step Zr.out Ld (by omega) (by rw[A.out];exact BZ),F.out.trans EY⟩,by simp[intOf];omega⟩
  ·have e:k=8:=by omega
   subst e;have G:=aa (show wr.rangeAt b 0 (ae 32 (fun _=> .u8) (je m))from aE (s.done (Or.inr (by simp[fH]))));have E:=aa (T.out _ z.out);clear s T l a;have Y:=C.out
   go_wp2_with (first
    |((with_reducible refine ag 25 ?_);first|refine ab (by rfl) _ (ar _ 25 _ (by rfl) w.heap.size 0 (by rfl) _ _ K7.out cH rfl (by rw[ah am,ac])) ?_|refine ab (by rfl) _ (ar _ 25 _ (by rfl) b 0 (by rfl) _ _ G.out cH rfl (by rw[ah am,ac])) ?_)
    |with_reducible refine(yd r (je m) hr.out hz.out _ E.out).mono ?_
     rintro e W4 ⟨rfl,u⟩;have vD:=aa (z.out.trans (u.mono z.out.size));have H:=aa ((u.block c (aD j.out)).trans j.out);clear u
    |refine al 25 ?_;refine aq (w0:=w) (n0:=w.heap.size) 25 _ _ rfl rfl c rfl _ rfl (aA _ _ _) (by rw[ah am];simp[ae]) _ 25 H.out (by rw[bL];simp[ae]) (by omega) vD.out (fun W9 gM dY _=>?_))
   exact fF rfl c 0 (ae 32 (fun _=> .u8) (gX r (je m))) _ rfl gM cH rfl (by rw[ah am,ac]) rfl ⟨rfl,dY⟩
end Go.Proofs.YtjeoeibdgciafaaGreatDoor
