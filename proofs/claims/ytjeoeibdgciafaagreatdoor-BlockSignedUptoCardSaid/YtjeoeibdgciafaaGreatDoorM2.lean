/- Steps of the proof. -/
import Derived.ScopeJumps
import Derived.Test.YtjeoeibdgciafaaGreatDoorM1
set_option linter.all false
set_option maxRecDepth 100000
set_option maxHeartbeats 16000000
namespace Go.Proofs.YtjeoeibdgciafaaGreatDoor
open Go.RowKit BigFrame
open Go.Proofs.Tryz
def bh:Nat→Int:=fun _=>0
def g7:fY bh:=fun _ _=>⟨by simp[bh],by simp[bh]⟩
def fullT:Nat→(Nat→Nat→Int)→Nat→Int
 |0,f=>f 0
 |d+1,f=>gX (fullT d f) (fullT d fun i=>f (i+2^d))
def level (f:Nat→Nat→Int):Nat→Nat→Int:=fun i=>gX (f (2*i)) (f (2*i+1))
def pU:∀(d:Nat) (f:Nat→Nat→Int),fullT (d+1) f=fullT d (level f)
 |0,f=>rfl
 |d+1,f=>by
  have c:=pU d f;have b:=pU d (fun i=>f (i+2^(d+1)))
  have a:level (fun i=>f (i+2^(d+1)))=fun i=>level f (i+2^d):=by
   funext i
   have e:2*(i+2^d)=2*i+2^(d+1):=by rw[Nat.pow_succ];omega
   have g:2*i+1+2^(d+1)=2*i+2^(d+1)+1:=by omega
   simp only[level,e,g]
  show gX (fullT (d+1) f) (fullT (d+1) fun i=>f (i+2^(d+1)))=gX (fullT d (level f)) (fullT d fun i=>level f (i+2^d));rw[c,b,a]
def pV:∀(d:Nat) {f g:Nat→Nat→Int},(∀i,i<2^d→f i=g i)→fullT d f=fullT d g
 |0,f,g,h=>h 0 (by decide)
 |d+1,f,g,h=>by have b:=NA 2 d;rw[fullT,fullT,pV d (fun i a=>h i (by omega)),pV d (f:=fun i=>f (i+2^d)) (g:=fun i=>g (i+2^d)) (fun i a=>h _ (by omega))]
def dj:∀(d:Nat) {f:Nat→Nat→Int},(∀i,fY (f i))→fY (fullT d f)
 |0,_,h=>h 0
 |_+1,_,_=>jj _ _
def leaf (a:List (Nat→Int)) (i:Nat):Nat→Int:=a.getD i bh
def eO {a} (h:∀r∈a,fY r) (i):fY (leaf a i):=by
 unfold leaf;by_cases c:i<a.length
 ·rw[List.getD,fS c];exact h _ (oI c)
 ·rw[List.getD,eT (vI c)];exact g7
def Uk (a k):leaf (a++List.replicate k bh)=leaf a:=by
 funext i
 unfold leaf;simp only[List.getD];by_cases c:i<a.length
 ·rw[eY c]
 ·rw[fT (vI c),eT (l:=a) (vI c)]
  by_cases b:i-a.length<k
  ·rw[IL,aj b];rfl
  ·rw[eT (by simpa using b)]
def lN (n d:Nat):Prop:=n≤2^d∧(d=0∨2^(d-1)<n)
def Mr:∀(n:Nat),1≤n→n&&&(n-1)=0→∃e,n=2^e:=by
 intro n
 induction n using Nat.strongRecOn with
 |_ n b=>
  intro l h;by_cases j:n=1
  ·exact⟨0,j⟩
  rcases Nat.mod_two_eq_zero_or_one n with d|d
  ·obtain⟨m,rfl⟩:∃m,n=2*m:=⟨n/2,by omega⟩
   have c:m&&&(m-1)=0:=by
    apply Nat.eq_of_testBit_eq;intro i;have:=fB (fun x=>x.testBit (i+1)) h;simp only[Nat.testBit_and,Nat.zero_testBit]at this ⊢;rw[Nz,Nz]at this;have k:2*m/2=m:=by omega
    have a:(2*m-1)/2=m-1:=by omega
    rwa [k,a]at this
   obtain⟨e,he⟩:=b m (by omega) (by omega) c;exact⟨e+1,by rw[Nat.pow_succ,he];omega⟩
  ·exfalso
   have g:n/2≠0:=by omega
   obtain⟨i,f⟩:=Nat.exists_testBit_of_ne_zero g;have:=fB (fun x=>x.testBit (i+1)) h;simp only[Nat.testBit_and,Nat.zero_testBit]at this;rw[Nz,Nz]at this;have a:(n-1)/2=n/2:=by omega
   rw[a,f]at this;cases this
def lN.pow {n d m:Nat} (h:lN n d) (hn:1≤n) (j:n≤m) (i:m≤2^d):m&&&(m-1)=0↔m=2^d:=by
 constructor
 ·intro f
  obtain⟨e,rfl⟩:=Mr m (by omega) f
  congr 1
  rcases oD e d with c|c
  ·rcases h.2 with g|g
   ·omega
   ·have:=nN (n:=2) (by decide) (show e≤d-1 by omega)
    omega
  ·rcases oD d e with b|b
   ·have:=Nat.pow_lt_pow_right (a:=2) (by decide) b
    omega
   ·omega
 ·rintro rfl
  rw[XT,Nat.mod_self]
def Xl (n:Nat) (a:1≤n) (h:n<2199023255552):bits .and .i64 (n:Int) ((n:Int)-1)=((n&&&(n-1):Nat):Int):=by
 have e:(n:Int)-1=((n-1:Nat):Int):=by omega
 rw[e];exact(bits_nat .i64 41 (by decide) (fun m b a=>by rw[bP];omega) n (n-1) h (by omega)).1
def d8 (b:List (Nat→Int)):List Value:=(b.map fun a=>ae 32 (fun _=> .u8) a).flatten
def ql (b):(d8 b).length=b.length*32:=by
 induction b with
 |nil=>rfl
 |cons a b c=>
  have h:(d8 (a::b)).length=32+(d8 b).length:=by show ((ae 32 (fun _=> .u8) a)++d8 b).length=_;rw[bM,ac]
  rw[h,c,List.length_cons];omega
def iC (b a):d8 (b++a)=d8 b++d8 a:=by simp[d8]
def lE (a):d8 [a]=ae 32 (fun _=> .u8) a:=by simp[d8]
def cl {n a f}:∀u∈ae n a f,u.oneCell'=true:=fun v b=>IR.1 (aA n a f) v (by simpa using b)
def jU (a:Nat) (v:Value) (b:List (Nat→Int)) (w:World):Prop:=w.ownsRow a 25 32 v b.length (d8 b)
def tm (a:Int) (v:Value):Array Value:=#[v,.int .i64 a]
abbrev nT (v:Value):Array Value:=tm 0 v
structure me (er:Int) (b:Nat) (rs:List (Nat→Int)) (w:World):Prop where
 is:∀r∈rs,fY r
 has:∃v,w.heap[b]?=some (.cells (tm er v) 108 (0,0))∧jU (b+1) v rs w
abbrev xQ (b:Nat) (a:List (Nat→Int)) (w:World):Prop:=me 0 b a w
def aD {w:World} {b:Nat} {o:Obj} (h:w.heap[b]?=some o):b<w.heap.size:=(Cz.1 h).1
def me.size {c b rs w} (h:me c b rs w):b+1≤w.heap.size:=by obtain⟨v,a,_⟩:=h.has;exact aD a
def jx {a:Int} {b:Nat} {v:Value} {w:World} (h:w.heap[b]?=some (.cells (tm a v) 108 (0,0))) (j:Nat):w.cell? ⟨b,j,none⟩=(tm a v)[j]?:=by rw[br w b j _ _ _ h]
def adv:(prog.info? 106).map (·.size)=some 1:=by kernel_rfl
def kC:(prog.info? 25).map (fun i=>(i.zero,i.size,i.bytes))=some (some (.agg (rep 32)),32,32):=by kernel_rfl
def wL:(prog.info? 25).map (fun i=>(i.zero,i.size))=some (some (.agg (rep 32)),32):=by kernel_rfl
def eF {b o} (w a) (f:o.op= .buildSlice 106 1 a) (r) (d:(a.toList.map fun p=>(p.1,b p.2))=[(0,.agg (ax r))]):
 (execOp b o).run prog w= .ok (.value (.slice (some ⟨w.heap.size,0,none⟩) 1 1)) (w.alloc (.cells (ax r) 25)):=by
 have h:=bj w 106 25 1 a f fC (.agg (rep 32)) 32 wL (by decide) (by decide) [.agg (ax r)] rfl d (fun u c=>by rw[jJ.1 c];show (ae 32 _ r).toArray.size=32;simp[ae])
 have e:(([Value.agg (ax r)].map fun v=>v.cells.toList).flatten.toArray:Array Value)=ax r:=by show ((ax r).toList++[]).toArray=ax r;rw[fZ]
 rwa [e]at h
def aek (d:Int) (b n:Nat) (v:Value) (c:List (Nat→Int)) (r:Nat→Int) (w a:World):Prop:=a.heap[b]?=some (.cells (tm d v) 108 (0,0))∧jU (b+1) v c a∧a.heap[n]?=some (.cells (ax r) 25 (0,0))∧Below (b+1) w a∧b+1≤n∧n<a.heap.size∧∀k,v.ownBlock=some k→k<n
def Ob (c:Int) (b n:Nat) (v:Value) (d:List (Nat→Int)) (r:Nat→Int) (w e:World):Prop:=∃a,aek c b n v d r a e∧a.heap[b]?=some (.cells (tm c v) 108 (0,0))∧Below b w a
def zr:Array Value:=rep 32
def cg:(prog.info? 25).map (fun i=>(i.zero,i.size))=some (some (.agg zr),32):=wL
def bL:zr.size=32:=rfl
def fg (l:List Int) (i:Nat):Nat→Int:=fun j=>if j<32 then l.getD (32*i+j) 0 else 0
def Uu {l:List Int} (h:∀m∈l,CK.ok .u8 m) (j):mD (l.getD j 0):=by
 by_cases c:j<l.length
 ·rw[List.getD,fS c];exact h _ (oI c)
 ·rw[List.getD,eT (vI c)];exact⟨by decide,by decide⟩
def Gx {l} (h:∀m∈l,CK.ok .u8 m) (i):fY (fg l i):=fun j a=>by unfold fg;rw[aj a];exact Uu h _
def je (m:Int):Nat→Int:=fg (fH m) 0
def ir (m):fY (je m):=Gx (na m) 0
def FU (m):(splice (rep 32).toList 0 (ae 8 (fun _=> .u8) (lL m))).toArray=ax (je m):=by
 have a:(rep 32).toList.length=32:=rfl;have hl:=ac 8 (fun _=>CK.u8) (lL m);refine iW (by rw[cI,li (by rw[a,hl];omega)];exact a) (fun j b=>?_);rw[fu,lC (by rw[a,hl];omega),an (by omega),hl];simp only[je,fg,aj b,Nat.mul_zero,bY,Nat.sub_zero];by_cases c:j<8
 ·rw[aj c,aN _ _ _ _ c]
  simp[fH,List.getD,c,CK.mk]
 ·rw[an c]
  have d:(fH m).getD j 0=0:=by rw[List.getD,eT (by rw[aX];omega)];rfl
  rw[d];show (List.replicate 32 (Value.int .u8 0))[j]?=_;rw[IL,aj b];rfl
def aht (e:Int) (b n c:Nat) (v:Value) (d:List (Nat→Int)) (m:Int) (w a:World):Prop:=a.heap[b]?=some (.cells (tm e v) 108 (0,0))∧jU (b+1) v d a∧a.heap[n]?=some (.cells zr 25 (0,0))∧a.heap[c]?=some (.cells (kX m) 184 (0,0))∧Below (b+1) w a∧b+1≤n∧n<c∧c<a.heap.size∧∀k,v.ownBlock=some k→k<n
def Dy {a b e i n v l w f} (h:w.ownsRow a e i v n l) (m:aL b w f) (o:v.ownBlock≠some b):f.ownsRow a e i v n l:=by
 refine⟨h.1,?_⟩;rcases h.2 with hn|⟨g,d,c,k,q,j,p⟩
 ·exact Or.inl hn
 ·exact Or.inr ⟨g,d,c,k,q,(m.block g (Cz.1 j).1 (fun e=>o (by rw[k,e];rfl))).trans j,p⟩
def cU (g a k:Nat) (f:Nat→Nat→Int) (W:World):Prop:=∃C:Array Value,W.heap[g]?=some (.cells C 25 (0,0))∧C.size=a*32∧k≤a∧∀i,i<k→∀j,j<32→C[32*i+j]?=some (.int .u8 (f i j))
def cU.congr {g a k f f' W} (h:cU g a k f W) (he:∀i,i<k→f' i=f i):cU g a k f' W:=by obtain⟨C,m,l,e,d⟩:=h;exact⟨C,m,l,e,fun i b j c=>by rw[he i b];exact d i b j c⟩
def cU.less {g a k k' f W} (h:cU g a k f W) (l:k'≤k):cU g a k' f W:=by obtain⟨C,e,d,n,c⟩:=h;exact⟨C,e,d,by omega,fun i m j b=>c i (by omega) j b⟩
def cU.range {g b k f W} (h:cU g b k f W) (i) (d:i<k):W.rangeAt g (32*i) (ae 32 (fun _=> .u8) (f i)):=by
 obtain⟨C,l,n,m,e⟩:=h;intro j v a;have c:j<32:=by have:=(io.1 a).1;rwa [ac]at this
 rw[br W g _ C _ _ l,e i d j c];rw[aN _ _ _ _ c]at a;exact a
def cU.block {g a k f W b} (h:cU g a k f W) (he:b.heap[g]?=W.heap[g]?):cU g a k f b:=by obtain⟨C,d,c⟩:=h;exact⟨C,he.trans d,c⟩
def cU.lt {g a k f W} (h:cU g a k f W):g<W.heap.size:=by obtain⟨C,b,_⟩:=h;exact aD b
def wK (b i j) (c:i<b.length) (e:j<32):(d8 b)[32*i+j]?=some (.int .u8 (leaf b i j)):=by
 induction b generalizing i with
 |nil=>simp at c
 |cons a b d=>
  show ((ae 32 (fun _=> .u8) a)++d8 b)[32*i+j]?=_;cases i with
  |zero=>rw[eY (by rw[ac];omega),Nat.mul_zero,bY,aN _ _ _ _ e];rfl
  |succ i=>rw[fT (by rw[ac];omega),ac,show 32*(i+1)+j-32=32*i+j by omega,d i (by simpa using c)];rfl
def gz {b v c w} (h:jU b v c w) (hn:0<c.length):∃g a,v= .slice (some ⟨g,0,none⟩) c.length a∧b≤g∧cU g a c.length (leaf c) w:=by
 rcases h.2 with⟨_,r⟩|⟨g,a,d,p,o,n,m,q,l,k⟩
 ·omega
 ·refine⟨g,a,p,o,d,n,l,m,fun i f j e=>?_⟩
  have:=wK c i j f e;rw[←k,nO (by omega)]at this;simpa using this
def gq (b:Nat):∀(c:List Value) (o:Nat) (w:World) (C:Array Value) (t:TypeId),w.heap[b]?=some (.cells C t (0,0))→∃a:Array Value,(w.setCells b o c).heap[b]?=some (.cells a t (0,0))∧a.size=C.size
 |[],_,_,C,_,h=>⟨C,h,rfl⟩
 |v::c,o,w,C,t,h=>by obtain⟨a,e,d⟩:=gq b c (o+1) _ _ t (xJ (i:=o) h v);exact⟨a,e,by simpa using d⟩
def ne {o:Oper} {a:Act} {w:World} {K:Act→World→Prop} {Q:Exit→Act→World→Prop} (x y:Operand) (v:o.op= .store 25 x y) (g c k i:Nat) (f:Nat→Nat→Int) (u:a.eval x= .pointer (some ⟨g,32*i,none⟩)) (r:Nat→Int) (s:a.eval y= .agg (ax r)) (F:cU g c k f w) (G:i<k)
 (h:∀W,cU g c k (fun j=>if j=i then r else f j) W→aL g w W→K (a.put o.dst undef) W):o.wp prog a w K Q:=by
 obtain⟨C,l,p,E,D⟩:=F;have A:∀j,j<32→32*i+j<C.size:=fun j b=>by rw[p];omega
 have m:w.there g (32*i) (ax r).size:=fun j b=>by
  have b:j<32:=by simpa[ae]using b
  refine⟨?_,j' l _⟩;rw[br w g _ C _ _ l,oL (A j b)];rfl
 refine s_ 25 x y v g (32*i) (ax r) u s m (by rw[ah am];simp[ae]) (aA _ _ _) (h _ ?_ ((aL.refl _ _).setCells g _ _ (Or.inl rfl)));obtain⟨q,n,B⟩:=gq g (ax r).toList (32*i) w C _ l;have hs:=AA w g (32*i) (ax r).toList (by simpa using m);refine⟨q,n,B.trans p,E,fun d z j b=>?_⟩;rw[←br _ g (32*d+j) q _ _ n];by_cases e:d=i
 ·subst e
  simp only[pC];exact hs j _ (aN 32 (fun _=> .u8) r j b)
 ·simp only[an e]
  rw[Cw g _ _ w ⟨g,32*d+j,none⟩ (fun _ _=>by simp[ae];omega),br w g _ C _ _ l];exact D d z j b
def ct {a o} (w) (d:o.op= .build 25 #[]):(execOp a o).run prog w= .ok (.value (.agg (ax bh))) w:=by
 have b:=(IN wL).1 w;have c:prog.underlying 25=some (.array 32 5):=cH;have hs:(sizeOf 5).run prog w= .ok 1 w:=nZ cR w;have e:(#[]:Array (Nat×Operand)).map (fun x=>match x with|(i,x)=>(i,a x))=#[]:=by simp
 unfold execOp;simp only[d,Instr.build,dN,b,Result.andThen_ok,no c,hs,e,Sem.run_pure];rfl
def Of (b n g N a:Nat) (u:Nat→Value):Act:={tmps:=#[.pointer (some ⟨b,0,none⟩),u 1,.pointer (some ⟨n,0,none⟩),.int .i64 0,.slice (some ⟨g,0,none⟩) N a,u 5,u 6,u 7,u 8,u 9,u 10,u 11,u 12,u 13,u 14,u 15,u 16,u 17,u 18,u 19,u 20,u 21,u 22,u 23,u 24,u 25,u 26,u 27,u 28,u 29,u 30,u 31,u 32,u 33,u 34,u 35,u 36,u 37,u 38,u 39,u 40,u 41,u 42,u 43,u 44,u 45,u 46,u 47,u 48,u 49,u 50,u 51,u 52,u 53,u 54,u 55,u 56,u 57,u 58,u 59,u 60,u 61,u 62,u 63],defers:=[]}
def Jg (b c n:Nat) (R:Nat→Int) (w:World) (a:Act) (h:World):Prop:=∃(e g d:Nat) (f:Nat→Nat→Int) (u:Nat→Value),a=Of b n g (2^e) d u∧e≤40∧fullT e f=R∧(∀i,fY (f i))∧cU g d (2^e) f h∧h.heap[n]?=some (.cells zr 25 (0,0))∧c≤g∧g≠n∧Below c w h
def Jg.of {b c n:Nat} {R:Nat→Int} {w:World} {a:Act} {h:World} (e g d:Nat) (f:Nat→Nat→Int) (l:a=Of b n g (2^e) d (fun k=>a.tmps.getD k undef)) (he:e≤40) (m:fullT e f=R) (j:∀i,fY (f i)) (s:cU g d (2^e) f h) (r:h.heap[n]?=some (.cells zr 25 (0,0))) (q:c≤g) (p:g≠n) (o:Below c w h):Jg b c n R w a h:=⟨e,g,d,f,_,l,he,m,j,s,r,q,p,o⟩
def Ui (f i):fY (level f i):=jj _ _
def ahu (a n d:Nat) (c:List (Nat→Int)) (w:World) (v:Value) (b:World):Prop:=∃k,c.length+k≤2^d∧jU a v (c++List.replicate k bh) b∧b.heap[n]?=some (.cells zr 25 (0,0))∧Below a w b∧v.ownBlock≠some n
def wc (b l d p v w) (fM:w.heap[b]?=some (.cells (nT v) 108 (0,0))) (OZ:jU l v p w) (RT:∀r∈p,fY r) (fP:cY w) (h3:3≤l) (i_:l≤w.heap.size) (lM:lN p.length d) (hn:1≤p.length) (gS:d≤40):
 Calls prog 39 #[.pointer (some ⟨b,0,none⟩)] w fun e q=>e= .returned (.tuple #[.agg (ax (fullT d (leaf p))),.int .i64 0])∧Below l w q:=by
 have vB:=aa fM;have Am:=aa OZ;have a8:=OZ.lt;have Nn:=aa RT;have hT:=aa fP;have hd:=aa lM;clear fM OZ RT fP lM;generalize hR:fullT d (leaf p)=R
 go_enter func39,ntmps39
 go_wp2_with (
  ((with_reducible refine ao 25 ?_);refine fX 2 cg ?_))
 refine bO (fun W=>W.heap[b]?=some (.cells (nT v) 108 (0,0))∧jU l v p W∧W.heap[w.heap.size]?=some (.cells zr 25 (0,0))∧Below l w W) ⟨aR _ _ _ _ vB.out,aU Am.out dt,ak _ _ _ _ rfl,(aP _ _).alloc i_ _⟩ ?_;rintro W0 ⟨kb,kv,kn,kB⟩;have Xu:v.ownBlock≠some w.heap.size:=fun e=>by have:=(a8 _ e).2;omega
 have hTn:∀W,Below l w W→cY W:=fun W h=>hT.out.below h3 h;clear a8 vB Am hT;have ahc:=aa hTn;clear hTn;generalize hwn:w.heap.size=n at*;have Vc:=aa kb;have Q:=aa kv;have Xq:=aa kn;clear kb kv kn;refine fI 0 (Jg b l n R w) (fun a' _=>vlen (a'.tmps.getD 4 undef)) rfl ?_ ?_
 ·rintro a wr ⟨e,g,m,f,u,rfl,he,hf,Z,P,J,hg,y,C⟩
  have z:l≤wr.heap.size:=by have:=C.size;omega
  have A:=aa J;have E:=aa P;have Y:=aa Z;clear J P Z Vc Q Xq Nn hd;have V6:2^e≤1099511627776:=nN (n:=2) (by decide) he;by_cases e0:e=0
  ·subst e0
   have wg:=E.out.range 0 (by decide);simp only[Nat.pow_zero]at*;simp only[Of]
   go_wp2_with (first
    |refine ag 25 ?_;refine ab (by rfl) _ (ar _ 25 _ (by rfl) g 0 (by rfl) _ _ wg cH rfl (by rw[ah am,ac])) ?_
    |refine al 25 ?_;refine aq (w0:=w) (n0:=l) 25 _ _ rfl rfl n rfl _ rfl (aA _ _ _) (by rw[ah am];simp[ae]) _ 25 A.out (by rw[bL];simp[ae]) (by omega) C (fun W9 gM dY _=>?_))
   simp only[Exit.jump];refine aI rfl n 0 (ae 32 (fun _=> .u8) (f 0)) _ rfl gM cH rfl (by rw[ah am,ac]) rfl ⟨?_,dY⟩;have e:f 0=R:=hf;rw[e];rfl
  ·obtain⟨H,hH,ut⟩:∃H,H=2^(e-1)∧2^e=2*H:=⟨_,rfl,by rw[←Nat.pow_succ'];congr 1;omega⟩
   have hH1:1≤H:=by rw[hH];exact Nat.one_le_two_pow
   simp only[Of];generalize hN:2^e=N at*;have hgt:(1:Int)<(N:Int):=by omega
   have hq:(N:Int).tdiv 2=(H:Int):=by rw[ut,show ((2*H:Nat):Int)=2*(H:Int) by omega];exact IM _ (by decide)
   have hwH:IntKind.i64.wrap (H:Int)=(H:Int):=by rw[bP];omega
   have BY:=aa hN;have VO:=aa hH;have G:=aa ut;clear hN hH ut;have ai5:N≤m:=E.out.choose_spec.2.2.1;have hHb:H≤549755813888:=by have:=G.out;omega
   have RC:H≤m:=by have:=G.out;omega
   go_wp2;refine bO (fun W=>cU g m N f W∧W.heap[n]?=some (.cells zr 25 (0,0))∧Below l w W) ⟨E.out,A.out,C⟩ ?_;clear E A C z wr;rintro W1 ⟨E,dG,dX⟩;have xw:=aa E;have X:=aa dG;clear E dG
   go_loopw [37] (fun i wr=>∃k:Nat,k≤H∧i= .int .i64 k∧cU g m N (fun j=>if j<k then level f j else f j) wr∧wr.heap[n]?=some (.cells zr 25 (0,0))∧Below l w wr) (fun i _=>H-(intOf i).toNat)
   case atStart=>exact⟨0,by omega,rfl,xw.out.congr (fun i _=>an (by omega)),X.out,dX⟩
   case round=>
    obtain⟨k,hk,rfl,BX,Q2,ei⟩:=hrel;have O:=aa BX;have Pf:=aa Q2;clear BX Q2 xw X dX;by_cases a8:k<H
    ·have u6:((k:Int)<(H:Int)):=by omega
     have Ee:IntKind.i64.wrap (2*(k:Int))=((2*k:Nat):Int):=by rw[bP];omega
     have Vd:IntKind.i64.wrap (((2*k:Nat):Int)+1)=((2*k+1:Nat):Int):=by rw[bP];omega
     have hw5:IntKind.i64.wrap (2*(k:Int)+1)=2*(k:Int)+1:=by rw[bP];omega
     have hw4:IntKind.i64.wrap ((k:Int)+1)=((k+1:Nat):Int):=by rw[bP];omega
     go_wp2;rename_i K s;refine dQ (S:=fun _=>True) (by kernel_rfl) ?_;have hS:True:=trivial;have iZ:Below l w {wr with drawn:=wr.drawn+1}:=ei.drew;have Xw:=ahc.out _ iZ;have BU:2*k+1<N:=by have:=G.out;omega
     have Bh:=aa (O.out.range (2*k) (by omega));have Ep:=aa (O.out.range (2*k+1) (by omega));simp only[an (show ¬2*k<k by omega),an (show ¬2*k+1<k by omega)]at Bh Ep;refine d5 0 (.slice (some ⟨g,0,none⟩) N m) rfl (by kernel_rfl) (fun _=>by kernel_rfl) bH ‹_› ?_;go_frame;refine aJ (i:=1) (v:=(.int .i64 (k:Int))) rfl (by kernel_rfl) bH ‹_› (fun q L=>by go_simp) ?_;go_frame;refine d5 2 (.slice (some ⟨g,0,none⟩) N m) rfl (by kernel_rfl) (fun _=>by kernel_rfl) bH ‹_› ?_;go_frame;refine aJ (i:=3) (v:=(.int .i64 (k:Int))) rfl (by kernel_rfl) bH ‹_› (fun q L=>by go_simp) ?_;go_frame;refine d5 7 (.slice (some ⟨g,0,none⟩) N m) rfl (by kernel_rfl) (fun _=>by kernel_rfl) bH ‹_› ?_;go_frame;refine aJ (i:=8) (v:=(.int .i64 (k:Int))) rfl (by kernel_rfl) bH ‹_› (fun q L=>by go_simp) ?_;go_frame;refine aJ (i:=4) (v:=(.int .i64 ((2*k:Nat):Int))) rfl (by kernel_rfl) bH ‹_› (fun q L=>by go_simp) ?_;go_frame;refine aJ (i:=9) (v:=(.int .i64 ((2*k:Nat):Int))) rfl (by kernel_rfl) bH ‹_› (fun q L=>by go_simp) ?_;go_frame;refine aJ (i:=10) (v:=(.int .i64 ((2*k+1:Nat):Int))) rfl (by kernel_rfl) bH ‹_› (fun q L=>by go_simp) ?_;go_frame;refine aJ (i:=5) (v:=(.pointer (some ⟨g,32*(2*k),none⟩))) rfl (by kernel_rfl) bH ‹_› (fun q _=>ai q 106 25 _ _ (by rfl) fC 32 (ah am) g 0 N m (by rfl) .i64 (2*k) (by rfl) (by omega) _ (by omega)) ?_;go_frame;refine aJ (i:=11) (v:=(.pointer (some ⟨g,32*(2*k+1),none⟩))) rfl (by kernel_rfl) bH ‹_› (fun q _=>ai q 106 25 _ _ (by rfl) fC 32 (ah am) g 0 N m (by rfl) .i64 (2*k+1) (by rfl) (by omega) _ (by omega)) ?_;go_frame;refine vQ (i:=6) (k:=12) (.agg (ax (f (2*k)))) (.agg (ax (f (2*k+1)))) (Wn:={wr with drawn:=wr.drawn+1}) rfl rfl (by kernel_rfl) (by kernel_rfl) (by kernel_rfl) rfl rfl rfl rfl (ar _ 25 _ (by rfl) g _ (by rfl) _ _ Bh.out cH rfl (by rw[ah am,ac])) (ar _ 25 _ (by rfl) g _ (by rfl) _ _ Bh.out cH rfl (by rw[ah am,ac])) (ar _ 25 _ (by rfl) g _ (by rfl) _ _ Ep.out cH rfl (by rw[ah am,ac])) (ar _ 25 _ (by rfl) g _ (by rfl) _ _ Ep.out cH rfl (by rw[ah am,ac])) trivial trivial rfl rfl ?_;go_frame;refine cQ (i:=13) rfl (by kernel_rfl) rfl (jh 107 #[.agg (ax (f (2*k))),.agg (ax (f (2*k+1)))] (by go_simp) _ _ (xS (f (2*k)) (f (2*k+1)) (Y.out _) (Y.out _) _ Xw) ?_);intro W4 B;refine⟨trivial,?_⟩;go_frame;refine aJ (i:=14) (v:=(.pointer (some ⟨g,32*k,none⟩))) rfl (by kernel_rfl) bH ‹_› (fun q _=>ai q 106 25 _ _ (by rfl) fC 32 (ah am) g 0 N m (by rfl) .i64 k (by rfl) (by omega) _ (by omega)) ?_;go_frame;refine cQ (i:=15) rfl (by kernel_rfl) rfl (ne _ _ rfl g m N k _ rfl (gX (f (2*k)) (f (2*k+1))) rfl (O.out.block (B.block g O.out.lt)) (by omega) (fun W5 KT EY=>⟨trivial,?_⟩));refine dM (by kernel_rfl) ?_ _;refine s _ _ ?_;clear s K;simp only[Act.put]
     have Q6:=aa (KT.congr (f':=fun j=>if j<k+1 then level f j else f j) (fun i hi=>by
      by_cases c1:i=k
      ·subst c1
       simp only[pC,aj (mE i)];rfl
      ·by_cases c2:i<k
       ·simp only[an c1,aj c2,aj (show i<k+1 by omega)]
       ·simp only[an c1,an c2,an (show ¬i<k+1 by omega)]))
     have hn6:=aa ((EY.block n (by have:=B.size;have:=aD Pf.out;exact du this B.size) (xD y)).trans ((B.block n (aD Pf.out)).trans Pf.out));have hB6:=aa (EY.below (iZ.trans (B.mono (by have:=ei.size;show l≤wr.heap.size;omega))) hg (by have:=B.size;have:=ei.size;exact bg (show l≤wr.heap.size by omega) B.size));clear KT EY B iZ Xw Bh Ep hS;go_wp2;exact⟨⟨k+1,by omega,by go_num,Q6.out,hn6.out,hB6.out⟩,by simp[intOf];omega⟩
    ·have e:k=H:=by omega
     subst e;go_wp2
     go_step3
     have hNe:=BY.out;have hHe:=VO.out;have hR7:=(O.out.less (k':=k) (by have:=G.out;omega)).congr (f':=level f) (fun i hi=>(aj hi).symm);have hfl:fullT (e-1) (level f)=R:=by rw[←pU,show e-1+1=e by omega];exact hf
     have pI:k<N:=by have:=G.out;omega
     clear G BY a8;subst hHe;exact⟨rfl,Jg.of (e-1) g m (level f) (by kernel_rfl) (by omega) hfl (Ui f) hR7 Pf.out hg y ei,pI⟩
 ·intro I5
  have LO:=aa I5;clear I5
  go_wp2_with (first
   |refine ag 41 ?_;refine dq (v:=(.int .i64 0)) (jx Vc.out 1) fU ?_ rfl rfl rfl rfl
   |refine ag 106 ?_;refine dq (v:=v) (jx Vc.out 0) fC ?_ rfl rfl rfl rfl)
  rename_i K s
  go_loopw [4] (fun i wr=>ahu l n d p w i wr) (fun i _=>2^d-vlen i)
  case atStart=>exact⟨0,by have:=hd.out.1;omega,by rw[List.replicate_zero,fZ];exact Q.out,Xq.out,kB,Xu⟩
  case round=>
   obtain⟨k,hk,hO,J,C,nU⟩:=hrel;have z:l≤wr.heap.size:=by have:=C.size;omega
   have D:(p++List.replicate k bh).length=p.length+k:=by simp
   have T:(p++List.replicate k bh)++[bh]=p++List.replicate (k+1) bh:=by rw[dA,←List.replicate_succ']
   have H8:=Uk p k
   have U:∀r∈p++List.replicate k bh,fY r:=fun r I=>by
    rcases iD.1 I with I|I
    ·exact Nn.out r I
    ·rw[Sr I];exact g7
   generalize p++List.replicate k bh=o at*;obtain⟨va,c,e,agL⟩:=aW hO;clear agL;subst e;have kU:=aa hO;have A:=aa J;have agM:=aa T;have agO:=aa U;have agY:=aa H8;clear hO J T U H8;have V6:2^d≤1099511627776:=nN (n:=2) (by decide) gS;have rc:IntKind.i64.wrap ((o.length:Int)-1)=(o.length:Int)-1:=by rw[bP];omega
   have hand:=Xl o.length (by omega) (by omega);have V:=aa (hd.out.pow hn (show p.length≤o.length by omega) (by omega));generalize hMe:o.length&&&(o.length-1)=M at*;have alI:=aa hMe;clear hMe;have N7:=aa D;have F:=aa hk;clear D hk;by_cases hM:M=0
   ·have hM':((M:Int) !=0)=false:=by simp[hM]
    have hq:=aa (V.out.1 hM);go_wp2
    go_step3
    rename_i K s;refine s _ _ ?_;obtain⟨g,m,e,hg,P⟩:=gz kU.out (by have:=N7.out;omega);obtain⟨rfl,rfl⟩:va=some ⟨g,0,none⟩∧c=m:=by injection e with e1 e2 e3;exact⟨e1,e3⟩
    rw[hq.out]at P ⊢;have y:g≠n:=fun e=>nU (by rw[e];rfl);refine LO.out _ _ (Jg.of d g c (leaf o) (by kernel_rfl) gS (by rw[agY.out];exact hR) (eO agO.out) P A.out hg y C)
   ·have hM':((M:Int) !=0)=true:=by simp[hM]
    go_wp2_with (first
     |refine cZ 25 ?_;refine ab (by rfl) _ (ct _ rfl) ?_
     |refine aV 106 ?_;refine aH rfl fun K s=>bV _ (eF _ _ rfl bh (by rfl)) (s _ _ ?_);clear s K
     |refine be .append ?_;refine aH rfl fun K s=>eN (.tmp 27) (.tmp 29) 106 25 rfl fC (.agg (rep 32)) 32 32 kC rfl (by decide) l o.length _ (d8 o) rfl (aU kU.out dt) ⟨wr.heap.size,0,none⟩ 1 1 rfl (ae 32 (fun _=> .u8) bh) (by rw[ac]) (aE (ak _ _ _ _ rfl)) rfl cl (by have:=N7.out;have:=F.out;omega) (by have:=N7.out;have:=F.out;omega) (bg z (by simp)) bG (C.alloc z _) (fun v1 W2 h1 b1 z1 o1 q1=>s _ _ ?_);clear s K
      rw[show d8 o++ae 32 (fun _=> .u8) bh=d8 (o++[bh]) by rw[iC,lE],show o.length+1=(o++[bh]).length by simp]at h1;obtain⟨eE,c1,e1,ig⟩:=aW h1;clear ig;subst e1;have ur:=aa ((o1 n (by rw[bn];have:=aD A.out;omega) (xD nU)).trans (aR _ _ _ _ A.out));have agV:=aa (fun e:Value.ownBlock _=some n=>q1.elim (fun h=>nU (h.symm.trans e)) (fun h=>by have:=s5 (e.symm.trans h);have:=aD A.out;rw[bn]at*;omega));have my:=aa h1
      clear o1 q1 h1)
    have e2:o.length+1=(o++[bh]).length:=by simp
    have e3:=N7.out;have e4:o.length≠2^d:=fun e=>hM (V.out.2 e);have e5:=F.out;refine⟨⟨k+1,by omega,?_,ur.out,b1,?_⟩,?_⟩
    ·rw[←agM.out,e2]
     exact my.out
    ·rw[e2]
     exact agV.out
    ·simp only[vlen]
     show 2^d-(o.length+1)<2^d-o.length;omega
def zT (b d a w) (h:xQ b a w) (k:cY w) (n:3≤b) (i:lN a.length d) (hn:1≤a.length) (g:d≤40):
 Calls prog 39 #[.pointer (some ⟨b,0,none⟩)] w fun e c=>e= .returned (.tuple #[.agg (ax (fullT d (leaf a))),.int .i64 0])∧Below b w c:=by
 obtain⟨v,j,f⟩:=h.has;exact(wc b (b+1) d a v w j f h.is k (by omega) h.size i hn g).mono fun e c ⟨m,l⟩=>⟨m,l.mono (by omega)⟩
def chunks (l:List Int):List (Nat→Int):=(List.range ((l.length+31)/32)).map (fg l)
def di (l):(chunks l).length=(l.length+31)/32:=by simp[chunks]
def pY (l i) (h:i<(l.length+31)/32):leaf (chunks l) i=fg l i:=by simp[leaf,chunks,List.getD,h]
def im {l} (h:∀m∈l,CK.ok .u8 m):∀r∈chunks l,fY r:=by intro r a;obtain⟨i,_,rfl⟩:=ft.1 a;exact Gx h i
def yJ {g a n b f d W} (h:cU g a n f W) (k:a≤maxLen) (j:b≤g) (hn:d.length=n) (he:∀i,i<n→leaf d i=f i):jU b (.slice (some ⟨g,0,none⟩) n a) d W:=by
 obtain⟨C,p,o,m,l⟩:=h;subst hn;refine⟨ql d,Or.inr ⟨g,a,C,rfl,j,p,m,k,o,?_⟩⟩;apply mG;intro q;by_cases c:q<d.length*32
 ·have e:q=32*(q/32)+q%32:=by omega
  rw[nO c,e,wK d (q/32) (q%32) (by omega) (by omega),he _ (by omega)];simpa using l (q/32) (by omega) (q%32) (by omega)
 ·rw[eT (by simp;omega),eT (by rw[ql];omega)]
def rF (w:World) (n:Nat):cU w.heap.size n n (fun _=>bh) (w.alloc (.cells (madeCells zr (n*32)) 25)):=by
 refine⟨_,ak _ _ _ _ rfl,size_madeCells _ _,cD _,fun i d j c=>?_⟩
 have b:∀q,q<32→zr[q]! = .int .u8 0:=fun q a=>by
  rw[getElem!_def]
  have:zr[q]?=some (Value.int .u8 0):=by show (List.replicate 32 (Value.int .u8 0)).toArray[q]?=_;rw[fu];rw[IL,aj a]
  rw[this]
 have a:32*i+j<n*32:=by omega
 simp only[madeCells,Array.getElem?_map,Array.getElem?_range,aj a,Option.map_some];rw[bL];rw[b _ (E9 _ (by decide))];rfl
def Hv {o:Oper} {a:Act} {w:World} {K:Act→World→Prop} {Q:Exit→Act→World→Prop} (d s:Operand)
 (M:o.op= .call {callee:= .builtin .copy,args:=#[d,s],argTypes:=#[39,39]}) (g k n i b z y A:Nat) (f:Nat→Nat→Int) (H:Nat) (N:a.eval d= .slice (some ⟨g,32*i,none⟩) 32 H) (hs:a.eval s= .slice (some ⟨b,z,none⟩) y A)
 (R:cU g k n f w) (S:i<n) (m:List Int) (B:m.length=Nat.min y 32) (J:∀j,j<m.length→w.cell? ⟨b,z+j,none⟩=some (.int .u8 (m.getD j 0))) (r:Nat→Int) (L:∀j,j<32→r j=if j<m.length then m.getD j 0 else f i j)
 (h:∀W,cU g k n (fun j=>if j=i then r else f j) W→aL g w W→K (a.put o.dst (goInt m.length)) W):o.wp prog a w K Q:=by
 obtain⟨C,P,G,O,F⟩:=R;have hl:m.length≤32:=by rw[B];exact NF _ _
 have u:32*i+(m.map (Value.int .u8)).length≤C.toList.length:=by
  rw[jK];have:C.toList.length=k*32:=by simpa using G
  omega
 refine ja d s 39 39 M 5 bF cR g (32*i) b z 32 H y A N hs C _ P (m.map (Value.int .u8)) (by rw[jK];exact B) (fun j v q=>?_) (by rw[Array.length_toList]at u;exact u) (fun v q=>?_) (fun W hW I=>?_)
 ·have l:j<m.length:=by have:=(io.1 q).1;simpa using this
  rw[J j l,←q];simp[List.getD,l]
 ·obtain⟨_,_,rfl⟩:=ft.1 q
  rfl
 ·rw[jK]
  refine h W ⟨_,hW,by rw[cI,li u,Array.length_toList,G],O,fun p D j l=>?_⟩ I;rw[fu,lC u,jK];by_cases e:p=i
  ·subst e
   rw[an (by omega)];simp only[pC];rw[L j l];by_cases c:j<m.length
   ·rw[aj (by omega),aj c,jH]
    simp[List.getD,c]
   ·rw[an (by omega),an c]
    simpa using F p D j l
  ·simp only[an e]
   have E:=F p D j l;by_cases c:32*p+j<32*i
   ·rw[aj c];simpa using E
   ·rw[an c,an (by omega)];simpa using E
def EH {P a o} (w t e n x) (h:o.op= .slice t x none none none) (f:P.underlying t=some (.array n e)) (c) (g:(P.info? e).map (·.size)=some c) (b k) (d:a x= .pointer (some ⟨b,k,none⟩)):
 (execOp a o).run P w= .ok (.value (.slice (some ⟨b,k,none⟩) n n)) w:=by
 unfold execOp;simp only[h,d,Option.map_none,Instr.sliceAt,Instr.sliceBounds,Instr.sureAddr,dN,Sem.run_pure,Result.andThen_ok,no f,nZ g,E8,vO,Nat.add_zero,ite_self,Nat.sub_zero]
def pg {P f o} (w t e x y) (n:o.op= .slice t x (some y) none none) (j:P.underlying t=some (.slice e)) (g) (l:(P.info? e).map (·.size)=some g) (b d a c k) (i:f x= .slice (some ⟨b,d,none⟩) a c) (h:f y= .int .i64 (k:Int)) (v:k≤a) (z:k<c) (q) (m:d+k*g=q):
 (execOp f o).run P w= .ok (.value (.slice (some ⟨b,q,none⟩) (a-k) (c-k))) w:=by
 have p:c≠k:=by omega
 have s:(0:Int)≤(k:Int):=by omega
 have r:(k:Int)≤(a:Int):=by omega
 unfold execOp;simp[n,i,h,Instr.sliceAt,Instr.slice,Instr.sliceBounds,Instr.sliceBound,asIntOf,dN,Sem.run_pure,Result.andThen_ok,no j,nZ l,vO,m,p,s,r];intro u;omega
def nf {a o} (w x y) (e:o.op= .makeSlice 106 x y) (n) (d:a x= .int .i64 (n:Int)) (c:a y= .int .i64 (n:Int)) (hn:n≤4294967296):
 (execOp a o).run prog w= .ok (.value (.slice (some ⟨w.heap.size,0,none⟩) n n)) (w.alloc (.cells (madeCells zr (n*32)) 25)):=by
 obtain⟨i,f,b,hs,g⟩:=info_parts kC;have h:=Cv (P:=prog) w 106 25 i _ fC f b .i64 .i64 n n (by omega) (vN _) (by rw[g];omega) (by omega);simp only[Int.toNat_natCast,hs]at h;unfold execOp;simp only[e,d,c,dN,h,Result.andThen_ok,Sem.run_pure];rfl
def nc {P c Q b a w d e pos f g} (t) {x y} (h:wpList P c Q (⟨d,.makeSlice t x y,e,pos,f,g⟩::b) a w):wpList P c Q (⟨d,.makeSlice t x y,e,pos,f,g⟩::b) a w:=h
def CW (l J c w) (hl:Row w J .u8 l) (hc:l.length≤c) (hlen:l.length≤70368744177):
 Calls prog 150 #[.slice J l.length c] w fun e b=>(∃I c',e= .returned (.slice I (chunks l).length c')∧jU w.heap.size (.slice I (chunks l).length c') (chunks l) b)∧Below w.heap.size w b:=by
 have z:=aa hl;clear hl;generalize hL:l.length=L at*;have n:=aa hL;clear hL;have P:IntKind.i64.wrap ((L:Int)+31)=((L+31:Nat):Int):=by rw[bP];omega
 have u:((L+31:Nat):Int).tdiv 32=(((L+31)/32:Nat):Int):=by rw[Int.tdiv_eq_ediv_of_nonneg (by omega)];omega
 obtain⟨N,B⟩:∃N,(L+31)/32=N:=⟨_,rfl⟩;rw[B]at u;have m:=aa B;clear B;have Vd:IntKind.i64.wrap (N:Int)=(N:Int):=by have:=m.out;rw[bP];omega
 go_enter func150,ntmps150
 generalize hM:((L+31:Nat):Int)=M at P u;clear hM
 go_wp2_with (
  ((with_reducible refine nc 106 ?_);refine aH rfl fun K p=>bV _ (nf _ _ _ rfl N rfl rfl (by have:=m.out;omega)) (p _ _ ?_);clear p K))
 refine bO (fun W=>cU w.heap.size N N (fun _=>bh) W∧Below w.heap.size w W) ⟨rF w N,dt⟩ ?_;rintro W1 ⟨Y,Z⟩;have X:=aa Y;clear Y;have xe:=aa (fun W (h:Below w.heap.size w W)=>z.out.later h);generalize Q:w.heap.size=a at*;have q:=aa Q;clear Q P u Vd
 go_loopw [12] (fun i wr=>∃k:Nat,k≤N∧i= .int .i64 k∧cU a N N (fun j=>if j<k then fg l j else bh) wr∧Below a w wr) (fun i _=>N-(intOf i).toNat)
 case atStart=>exact⟨0,by omega,rfl,X.out.congr (fun i _=>an (by omega)),Z⟩
 case round=>
  obtain⟨k,hk,rfl,V,D⟩:=hrel;have U:=aa V;clear V X Z;by_cases a8:k<N
  ·have hkL:32*k<L:=by have:=m.out;omega
   have hw4:IntKind.i64.wrap (32*(k:Int))=((32*k:Nat):Int):=by rw[bP];omega
   have hw5:IntKind.i64.wrap ((k:Int)+1)=((k+1:Nat):Int):=by rw[bP];omega
   have u6:((k:Int)<(N:Int)):=by omega
   obtain⟨s,r,rfl,_⟩:=z.out.cell 0 (by rw[n.out];omega);go_wp2;rename_i K p;refine dQ (S:=fun _=>True) (by kernel_rfl) ?_;have hS:True:=trivial;have C:Below a w {wr with drawn:=wr.drawn+1}:=D.drew;refine d5 0 (.slice (some ⟨a,0,none⟩) N N) rfl (by kernel_rfl) (fun _=>by kernel_rfl) bH ‹_› ?_;go_frame;refine aJ (i:=1) (v:=(.int .i64 (k:Int))) rfl (by kernel_rfl) bH ‹_› (fun b R=>by go_simp) ?_;go_frame;refine aJ (i:=2) (v:=(.pointer (some ⟨a,32*k,none⟩))) rfl (by kernel_rfl) bH ‹_› (fun b _=>ai b 106 25 _ _ (by rfl) fC 32 (ah am) a 0 N N (by rfl) .i64 k (by rfl) (by omega) _ (by omega)) ?_;go_frame;refine aJ (i:=3) (v:=(.slice (some ⟨a,32*k,none⟩) 32 32)) rfl (by kernel_rfl) bH ‹_› (fun b _=>EH b 25 5 32 _ (by rfl) cH 1 cR a (32*k) (by rfl)) ?_;go_frame;refine d5 4 (.slice (some ⟨s,r,none⟩) L c) rfl (by kernel_rfl) (fun _=>by kernel_rfl) bH ‹_› ?_;go_frame;refine aJ (i:=5) (v:=(.int .i64 (k:Int))) rfl (by kernel_rfl) bH ‹_› (fun b R=>by go_simp) ?_;go_frame;refine aJ (i:=6) (v:=(.int .i64 ((32*k:Nat):Int))) rfl (by kernel_rfl) bH ‹_› (fun b R=>by go_simp) ?_;go_frame;refine aJ (i:=7) (v:=(.slice (some ⟨s,r+32*k,none⟩) (L-32*k) (c-32*k))) rfl (by kernel_rfl) bH ‹_› (fun b _=>pg b 39 5 _ _ (by rfl) bF 1 cR s r L c (32*k) (by rfl) (by rfl) (by omega) (by omega) _ (by omega)) ?_;go_frame;have o:((l.drop (32*k)).take 32).length=Nat.min (L-32*k) 32:=by rw[cf,bJ,n.out,Nat.min_comm]
   have g:∀j,j<32→((l.drop (32*k)).take 32).getD j 0=l.getD (32*k+j) 0:=fun j d=>by simp only[List.getD,Aw,aj d,qD]
   refine cQ (i:=8) rfl (by kernel_rfl) rfl (Hv _ _ rfl a N N k s (r+32*k) (L-32*k) (c-32*k) _ 32 rfl rfl (U.out.block rfl) a8 ((l.drop (32*k)).take 32) o (fun j d=>?_) (fg l k) (fun j d=>?_) (fun W5 T O=>⟨trivial,?_⟩))
   ·have F:j<32:=by rw[o]at d;exact du d (NF _ _)
    have E:32*k+j<l.length:=by rw[o]at d;rw[n.out];have:=du d (Nat.min_le_left _ _);omega
    obtain⟨b',o',e,G⟩:=(z.out.later (q.out.symm▸C)).cell (32*k+j) E;cases e;rw[g j F,oF];exact G
   ·rw[g j d]
    unfold fg;rw[aj d,an (Nat.lt_irrefl k)];by_cases f:j<((l.drop (32*k)).take 32).length
    ·rw[aj f]
    ·rw[an f,List.getD,eT]
     ·rfl
     ·rw[o]at f
      rw[n.out];have:Nat.min (L-32*k) 32≤j:=by omega
      rcases Nat.le_total (L-32*k) 32 with h|h
      ·rw[show Nat.min (L-32*k) 32=L-32*k from II h]at this;omega
      ·rw[show Nat.min (L-32*k) 32=32 from Nat.min_eq_right h]at this;omega
   refine dM (by kernel_rfl) ?_ _;refine p _ _ ?_;clear p K o g hS;simp only[Act.put]
   have Q6:=aa (T.congr (f':=fun j=>if j<k+1 then fg l j else bh) (fun i A=>by
    by_cases f:i=k
    ·subst f
     simp only[pC,aj (mE i)]
    ·by_cases c2:i<k
     ·simp only[an f,aj c2,aj (show i<k+1 by omega)]
     ·simp only[an f,an c2,an (show ¬i<k+1 by omega)]))
   have H:=aa (O.below C bG (by have:=D.size;have:=q.out;show a≤wr.heap.size;omega));clear T O C;go_wp2;exact⟨⟨k+1,by omega,by go_num,Q6.out,H.out⟩,by simp[intOf];omega⟩
  ·have e:k=N:=by omega
   subst e;have y:(chunks l).length=k:=by rw[di,n.out,m.out]
   go_wp2;refine cA rfl (.slice (some ⟨a,0,none⟩) k k) rfl rfl ⟨⟨some ⟨a,0,none⟩,k,by rw[y],?_⟩,by rw[q.out];exact D⟩;rw[y];exact yJ U.out (by have:=m.out;unfold maxLen;omega) (by rw[q.out];exact cD _) y (fun i A=>by rw[pY l i (by rw[n.out,m.out];exact A),aj A])
def aC {P c Q b a w d e pos f g} (t) {x y} (h:wpList P c Q (⟨d,.indexAddr t x y,e,pos,f,g⟩::b) a w):wpList P c Q (⟨d,.indexAddr t x y,e,pos,f,g⟩::b) a w:=h
def run_build {P a o w} (t b) (c:o.op= .build t b) (v) (h:(Instr.build t (b.toList.map fun x=>(x.1,a x.2)).toArray).run P w= .ok v w):
 (execOp a o).run P w= .ok (.value v) w:=by
 unfold execOp
 have e:(b.map fun x=>match x with|(i,x)=>(i,a x))=(b.toList.map fun x=>(x.1,a x.2)).toArray:=by rw[←Array.toList_map]
 simp only[c,e,dN,h,Result.andThen,Sem.run_pure]
def M5 (a n c w):(Instr.build 108 #[(0,.slice a n c)]).run prog w= .ok (.agg (nT (.slice a n c))) w:=by kernel_rfl
def Qo (a n c):(nT (.slice a n c)).all (·.oneCell')=true:=by kernel_rfl
def Jm:rowB prog 108 2=true:=by kernel_rfl
def C9 (b o a w) (h:me o b a w) (hlen:a.length≤1099511627776):
 (∀(P:Int) (r:Nat→Int),fY r→Calls prog 85 #[.pointer (some ⟨b,0,none⟩),.agg (ax r),.int .i64 P] w fun e q=>e= .returned (.tuple #[])∧me (if o=0 then P else o) b (a++[r]) q∧Below b w q)∧
 (∀m:Int,Calls prog 84 #[.pointer (some ⟨b,0,none⟩),.int .u64 m] w fun e q=>e= .returned (.tuple #[])∧me o b (a++[je m]) q∧Below b w q)∧
 ∀(d:Nat) (l:List Int) (R:Option Addr) (c:Nat) (_:cY w) (_:3≤b) (_:Row w R .u8 l) (_:l.length≤c) (_:1≤l.length) (_:l.length≤70368744177) (_:lN ((l.length+31)/32) d) (_:d≤40),Calls prog 90 #[.pointer (some ⟨b,0,none⟩),.slice R l.length c] w fun e q=>e= .returned (.tuple #[])∧me o b (a++[fullT d (leaf (chunks l))]) q∧Below b w q:=by
 have C:=h.size;have Nn:=aa h.is;obtain⟨v,hb,hv⟩:=h.has;have A:=aa hb;have X:=aa hv;have D:=hv.lt;clear hb hv h;refine⟨fun P r wg=>?put,fun m=>?u64,fun d l R c fP h3 Z hc K' Bf hd gS=>?bytes⟩
 case' put=>
  have hr:=aa wg;clear wg;obtain⟨z,L⟩:∃z,z=if o=0 then P else o:=⟨_,rfl⟩
  rw[←L]
  go_enter func85,ntmps85
  by_cases he:o=0
  case' pos=>
   subst he;obtain rfl:z=P:=by rw[L,aj rfl]
   clear L
   go_wp2_with (first
    |refine ag 41 ?_;refine dq (p:=⟨b,1,none⟩) (v:=(.int .i64 0)) (jx (aR _ _ _ _ A.out) 1) fU ?_ rfl rfl rfl rfl
    |refine al 41 ?_
     refine aH rfl fun K O=>bt 41 _ _ rfl b 1 rfl (.int .i64 z) rfl rfl (by kernel_rfl) _ _ (aR _ _ _ _ A.out) (by simp[tm]) (fun f fW I=>O _ _ ?_);clear O K;have ww:f.heap[b]?=some (.cells (tm z v) 108 (0,0)):=fW;have G:=aa (And.intro ww I)
     clear ww fW I)
   try simp only[Act.put]
   refine bO (Ob z b w.heap.size v a r w) ⟨f,⟨G.out.1,de (aU X.out dt) G.out.2 (by omega),(G.out.2.block _ (by simp) (by omega)).trans (ak _ _ _ _ rfl),aP _ _,C,du (by simp) G.out.2.size,fun k E=>(D k E).2⟩,G.out.1,G.out.2.below ((aP b w).alloc (by omega) _) bG (by simp;omega)⟩ ?_;clear G f
  case' neg=>
   obtain rfl:z=o:=by rw[L,an he]
   clear L;have he2:(z==0)=false:=by simp[he]
   go_wp2_with (
    ((with_reducible refine ag 41 ?_);refine dq (p:=⟨b,1,none⟩) (v:=(.int .i64 z)) (jx (aR _ _ _ _ A.out) 1) fU ?_ rfl rfl rfl rfl))
   try simp only[Act.put]
   refine bO (Ob z b w.heap.size v a r w) ⟨w,⟨aR _ _ _ _ A.out,aU X.out dt,ak _ _ _ _ rfl,(aP _ _).alloc C _,C,by simp,fun k E=>(D k E).2⟩,A.out,aP _ _⟩ ?_;clear he2
  all_goals
   clear D
   try clear he
   generalize w.heap.size=n at*
 case' u64=>
  have hr:=aa (ir m);generalize j:je m=r at*;have Y:=aa j;clear j;have xl:=aa (qY m (w.alloc (.cells zr 25)))
  go_enter func84,ntmps84
  go_wp2_with (first
   |refine ao 25 ?_;refine fX 4 cg ?_
   |with_reducible refine xl.out.mono ?_
    rintro e W ⟨rfl,M⟩;have s:=aa M;clear M
   |refine ao 184 ?_;refine aw rfl rfl 184 5 _ rfl rfl rfl (kX m) rfl rfl (zeroOf prog 184) (aG iA).1 (aG iA).2 (mh _) ?_)
  try go_frame
  have pz:=s.out.size;rw[bn]at pz;refine bO (aht o b w.heap.size W.heap.size v a m w) ⟨aR _ _ _ _ ((s.out.block b (by rw[bn];omega)).trans (aR _ _ _ _ A.out)),aU (aU (aU X.out dt) s.out) dt,aR _ _ _ _ ((s.out.block _ (by rw[bn];omega)).trans (ak _ _ _ _ rfl)),ak _ _ _ _ rfl,((((aP _ _).alloc C _).trans (s.out.mono (by rw[bn];omega))).alloc (by omega) _),C,by omega,by rw[bn];omega,fun k E=>(D k E).2⟩ ?_;clear s pz;generalize W.heap.size=n' at*;clear W;intro W0 hW0;clear D;generalize w.heap.size=n at*;obtain⟨H,T,B,Xq,U,kz,kz',ks,y⟩:=hW0;rename_i K O;refine dQ (S:=fun _=>True) (by kernel_rfl) ?_;have N:True:=trivial;refine kg 0 1 (.slice (some ⟨n,0,none⟩) 32 32) (.slice (some ⟨n',0,none⟩) 8 8) rfl (by kernel_rfl) (fun _=>by kernel_rfl) bH ‹_› ?_;go_frame;refine cQ (i:=2) rfl (by kernel_rfl) rfl (ja (.tmp 8) (.tmp 9) 39 39 rfl 5 bF cR n 0 n' 0 32 32 8 8 rfl rfl zr 25 B (ae 8 (fun _=> .u8) (lL m)) (by simp[ae]) (aE Xq) (by rw[bL];simp[ae]) (fun u hu=>cl u hu) ?_);intro f wj I;refine⟨trivial,?_⟩;go_frame;refine dM (by kernel_rfl) ?_ _;refine O _ _ ?_;clear O K;have zf:f.heap[n]?=some (.cells (ax r) 25 (0,0)):=Y.out▸(FU m)▸wj;have V:aL n W0 f:=(aL.begin _ W0).trans I;refine bO (Ob o b n v a r w) ⟨w,⟨(V.block b (aD H) (by omega)).trans H,Dy T V (fun e=>by have:=y _ e;omega),zf,V.below U (by omega) (by omega),kz,aD zf,y⟩,A.out,aP _ _⟩ ?_;clear I V zf wj H T B Xq U kz kz' ks y f W0 N
 case' bytes=>
  obtain⟨r,j⟩:∃r,r=fullT d (leaf (chunks l)):=⟨_,rfl⟩;rw[←j];have Y:=aa j;clear j;have hr:=aa (show fY r from Y.out▸dj d (eO (im Z.ok)));have hpk:=aa (CW l R c w Z hc Bf);have hT:=aa fP;have YP:=aa (im Z.ok);clear Z fP
  go_enter func90,ntmps90
  go_wp2_with (first
   |with_reducible refine hpk.out.mono ?_
    rintro e W ⟨⟨eR,c',rfl,hO⟩,M⟩;have s:=aa M;have kU:=aa hO;clear M hO
   |refine cZ 108 ?_;refine ab (by rfl) _ (run_build _ _ rfl _ (M5 eR _ c' _)) ?_
   |refine ao 108 ?_;refine aw rfl rfl 108 4 _ rfl rfl rfl (nT (.slice eR (chunks l).length c')) rfl rfl (zeroOf prog 108) (aG Jm).1 (aG Jm).2 (Qo _ _ _) ?_
    have mL:=aa (ak W (nT (.slice eR (chunks l).length c')) 108 W.heap.size rfl);have kt:=s.out.size;have Zo:=(wc W.heap.size w.heap.size d (chunks l) _ _ mL.out (aU kU.out dt) YP.out ((hT.out.below (show 3≤w.heap.size by omega) s.out).below (show 3≤W.heap.size by omega) dt) (by omega) (by rw[bn];omega) (by rw[di];exact hd) (by rw[di];omega) gS);rw[←Y.out]at Zo;have Q:=aa Zo;clear Zo
   |with_reducible refine Q.out.mono ?_
    rintro e f ⟨rfl,kK⟩;have F:=aa (s.out.trans (((aP _ _).alloc (show w.heap.size≤W.heap.size from kt) _).trans kK));clear kK
   |refine ao 25 ?_;refine aw rfl rfl 25 5 _ rfl rfl rfl (ax r) rfl rfl (zeroOf prog 25) (aG am).1 (aG am).2 (aA _ _ _) ?_)
  refine bO (Ob o b f.heap.size v a r w) ⟨w,⟨aR _ _ _ _ ((F.out.block b (by omega)).trans A.out),aU (aU X.out F.out) dt,ak _ _ _ _ rfl,(F.out.mono C).alloc (bg C F.out.size) _,bg C F.out.size,by rw[bn];omega,fun k E=>du (D k E).2 F.out.size⟩,A.out,aP _ _⟩ ?_;clear F Q mL kt kU s;generalize f.heap.size=n at*;clear f;clear D
 all_goals
  intro g iY;obtain⟨w0,⟨H,T,B,U,kz,ks,y⟩,aS,h0⟩:=iY;have fM:=aa aS;clear aS;have Xu:v.ownBlock≠some n:=fun e=>by have:=(y n e);omega
  refine dQ (S:=fun q=>q.heap[n]?=some (.cells (ax r) 25 (0,0))) (by kernel_rfl) ?_;have N:({g with drawn:=g.drawn+1}:World).heap[n]?=some (.cells (ax r) 25 (0,0)):=B;have dX:Below (b+1) w0 {g with drawn:=g.drawn+1}:=U.drew;refine SY 0 1 2 3 (.pointer (some ⟨b,0,none⟩)) (.pointer (some ⟨b,0,none⟩)) (.pointer (some ⟨b,0,none⟩)) (.pointer (some ⟨b,0,none⟩)) rfl (by kernel_rfl) (fun _=>by kernel_rfl) bH ‹_› ?_;go_frame;refine aJ (i:=5) (v:=(.agg (ax r))) rfl (by kernel_rfl) bH ‹_› (fun q cX=>ay _ 25 _ (by rfl) n (by rfl) _ (ax r) (0,0) _ cX cH rfl (by rw[ah am];simp[ae])) ?_;go_frame;refine vQ (i:=4) (k:=6) v (.slice (some ⟨g.heap.size,0,none⟩) 1 1) (Wn:=({g with drawn:=g.drawn+1}:World).alloc (.cells (ax r) 25)) rfl rfl (by kernel_rfl) (by kernel_rfl) (by kernel_rfl) rfl rfl rfl rfl (au _ 106 _ (by rfl) ⟨b,0,none⟩ (by rfl) v (jx H 0) _ fC rfl) (au _ 106 _ (by rfl) ⟨b,0,none⟩ (by rfl) v (jx (aR _ _ _ _ H) 0) _ fC rfl) (eF _ _ (by rfl) r (by rfl)) (eF _ _ (by rfl) r (by rfl)) B (aR _ _ _ _ B) rfl rfl ?_;go_frame;refine cQ (i:=7) rfl (by kernel_rfl) rfl (eN _ _ 106 25 rfl fC (.agg (rep 32)) 32 32 kC rfl (by decide) (b+1) a.length v (d8 a) rfl (aU (show g.ownsRow (b+1) 25 32 v a.length (d8 a)from T) ((aP _ _).drew.alloc (by exact cD _) _)) ⟨g.heap.size,0,none⟩ 1 1 rfl (ae 32 (fun _=> .u8) r) (by rw[ac]) (aE (IP _ _)) rfl cl (by omega) (by omega) (by show b+1≤((World.alloc _ _).heap.size);rw[bn];show b+1≤g.heap.size+1;omega) bG (dX.alloc (by show b+1≤g.heap.size;omega) _) (fun v1 f h1 b1 z1 o1 _=>⟨(o1 n (by rw[bn];show n<g.heap.size+1;omega) (xD Xu)).trans (aR _ _ _ _ B),?_⟩));rw[show a.length+1=(a++[r]).length by simp,show d8 a++ae 32 (fun _=> .u8) r=d8 (a++[r]) by rw[iC,lE]]at h1;obtain⟨eE,c1,e1,_⟩:=aW h1;subst e1;go_frame;have N:f.heap[n]?=some (.cells (ax r) 25 (0,0)):=(o1 n (by rw[bn];show n<g.heap.size+1;omega) (xD Xu)).trans (aR _ _ _ _ B);refine kg 8 9 (.pointer (some ⟨b,0,none⟩)) (.pointer (some ⟨b,0,none⟩)) rfl (by kernel_rfl) (fun _=>by kernel_rfl) bH ‹_› ?_;go_frame;refine cQ (i:=10) rfl (by kernel_rfl) rfl (bt 106 _ _ rfl b 0 rfl _ rfl rfl adv _ _ ((b1.block b (by omega)).trans fM.out) (by simp[tm]) (fun W3 kP Ed=>⟨(Ed.block n (aD N) (by omega)).trans N,?_⟩));refine dM (by kernel_rfl) ?_ _
  exact g8 rfl rfl ⟨rfl,⟨fun x J=>by
   rcases iD.1 J with J|J
   ·exact Nn.out x J
   ·rw[jJ.1 J];exact hr.out,_,kP,de h1 Ed (by omega)⟩,h0.trans (Ed.below (b1.mono (by omega)) bG (by omega))⟩
def F_ (b d f c r w) (h:me d b c w) (i:fY r) (a:c.length≤1099511627776):
 Calls prog 85 #[.pointer (some ⟨b,0,none⟩),.agg (ax r),.int .i64 f] w fun e g=>e= .returned (.tuple #[])∧me (if d=0 then f else d) b (c++[r]) g∧Below b w g:=(C9 b d c w h a).1 f r i
def C8 (b c r w) (h:xQ b c w) (f:fY r) (a:c.length≤1099511627776):
 Calls prog 85 #[.pointer (some ⟨b,0,none⟩),.agg (ax r),.int .i64 0] w fun e d=>e= .returned (.tuple #[])∧xQ b (c++[r]) d∧Below b w d:=
 (F_ b 0 0 c r w h f a).mono fun _ _ ⟨j,i,g⟩=>⟨j,i,g⟩
def JI {d} (b c m w) (h:me d b c w) (a:c.length≤1099511627776):
 Calls prog 84 #[.pointer (some ⟨b,0,none⟩),.int .u64 m] w fun e f=>e= .returned (.tuple #[])∧me d b (c++[je m]) f∧Below b w f:=(C9 b d c w h a).2.1 m
def wN {i} (b d f l g c w) (h:me i b f w) (r:cY w) (s:3≤b) (n:Row w g .u8 l) (q:l.length≤c) (m:1≤l.length) (k:l.length≤70368744177) (p:lN ((l.length+31)/32) d) (o:d≤40) (a:f.length≤1099511627776):
 Calls prog 90 #[.pointer (some ⟨b,0,none⟩),.slice g l.length c] w fun e j=>e= .returned (.tuple #[])∧me i b (f++[fullT d (leaf (chunks l))]) j∧Below b w j:=(C9 b i f w h a).2.2 d l g c r s n q m k p o
def BT (u:Value) (e:Nat) (d:Option Addr) (n c b a:Nat):Array Value:=#[.slice d n c,.int .i64 b,u,.int .i64 e,.int .i64 a]
abbrev inC (d:Option Addr) (n c b a:Nat):Array Value:=BT (.slice none 0 0) 0 d n c b a
structure xh (u:Value) (nx:Nat) (i:Nat) (l:List Int) (va:Option Addr) (c at' err:Nat) (w:World):Prop where
 cells:w.heap[i]?=some (.cells (BT u nx va l.length c at' err) 135 (0,0))
 row:Row w va .u8 l
 low:∀b o,va=some ⟨b,o,none⟩→b<i
 cap:l.length≤c
 nil:va=none→c=0
 Es:l.length≤70368744177664
def xh.size {u e i l d c b a w} (h:xh u e i l d c b a w):i+1≤w.heap.size:=aD h.cells
def xh.later {u k i l g c d a w f} (h:xh u k i l g c d a w) (m:Below (i+1) w f):xh u k i l g c d a f:=
 ⟨(m.block i (by omega)).trans h.cells,⟨fun j n=>by
   obtain⟨b,o,e,p⟩:=h.row.cell j n
   exact⟨b,o,e,(m.cell (by have:=h.low _ _ e;exact Nat.lt_succ_of_lt this)).trans p⟩,h.row.ok⟩,h.low,h.cap,h.nil,h.Es⟩
def xh.set {u f i l d c m k p n w a} (h:xh u f i l d c m k w) (r:Below i w a) (g:a.heap[i]?=some (.cells (BT u f d l.length c p n) 135 (0,0))):xh u f i l d c p n a:=
 ⟨g,⟨fun j q=>by
   obtain⟨b,o,e,g⟩:=h.row.cell j q
   exact⟨b,o,e,(r.cell (by have:=h.low _ _ e;exact this)).trans g⟩,h.row.ok⟩,h.low,h.cap,h.nil,h.Es⟩
abbrev K1 (i:Nat) (l:List Int) (d:Option Addr) (c b a:Nat) (w:World):Prop:=xh (.slice none 0 0) 0 i l d c b a w
def dV {i:Nat} {C:Array Value} {w:World} (h:w.heap[i]?=some (.cells C 135 (0,0))) (j:Nat):w.cell? ⟨i,j,none⟩=C[j]?:=by rw[br w i j _ _ _ h]
def LE:(prog.info? 3).map (·.size)=some 1:=by kernel_rfl
def oR:(prog.info? 41).map (·.size)=some 1:=by kernel_rfl
def tW (a n c w):(Instr.build 135 #[(0,.slice a n c)]).run prog w= .ok (.agg (inC a n c 0 0)) w:=by kernel_rfl
def T3 (l:List Int) (a:Option Addr) (c g:Nat) (w) (hl:Row w a .u8 l) (z:l.length≤c) (hn:a=none→c=0) (r:∀b o,a=some ⟨b,o,none⟩→b<w.heap.size) (D:g≤1000000) (y:l.length≤70368744177664):
 Calls prog 59 #[.slice a l.length c,.int .i64 (g:Int),.int .i64 0] w fun e q=>e= .returned (.pointer (some ⟨w.heap.size,0,none⟩))∧K1 w.heap.size l a c 0 (if l.length=g then 0 else 4) q∧Below w.heap.size w q:=by
 have v:=aa hl;have u:=aa r;clear hl r;have i:∀(h:Nat) (W:World),W.heap[w.heap.size]?=some (.cells (inC a l.length c 0 h) 135 (0,0))→Below w.heap.size w W→K1 w.heap.size l a c 0 h W:=fun h W B A=>⟨B,v.out.later A,u.out,z,hn,y⟩;have p:=aa i;clear i
 go_enter func59,ntmps59
 rcases Nat.lt_trichotomy l.length g with m|m|m
 ·have s:decide ((l.length:Int)<(g:Int))=true:=by simpa using m
  go_wp2_with (first
   |refine cZ 135 ?_;refine ab (by rfl) _ (run_build _ _ rfl _ (tW _ _ _ _)) ?_
   |refine al 41 ?_;refine aH rfl fun K d=>bt 41 _ _ rfl w.heap.size 4 rfl _ rfl rfl oR _ _ (ak _ _ _ _ rfl) (by simp[BT]) (fun n k j=>d _ _ ?_);clear d K)
  have f:=j.below ((aP w.heap.size w).alloc bG _) bG (by rw[bn];omega);exact cA rfl _ rfl rfl ⟨rfl,p.out 4 n k f,f⟩
 ·subst m
  have s:decide ((l.length:Int)<(l.length:Int))=false:=by simp
  have C:((l.length:Int) !=(l.length:Int))=false:=by simp
  go_wp2_with (first
   |refine cZ 135 ?_;refine ab (by rfl) _ (run_build _ _ rfl _ (tW _ _ _ _)) ?_
   |refine al 41 ?_;refine aH rfl fun K d=>bt 41 _ _ rfl w.heap.size 4 rfl _ rfl rfl oR _ _ (ak _ _ _ _ rfl) (by simp[BT]) (fun n k j=>d _ _ ?_);clear d K)
  have f:=((aP w.heap.size w).alloc bG (.cells (inC a l.length c 0 0) 135));exact cA rfl _ rfl rfl ⟨rfl,p.out 0 _ (ak _ _ _ _ rfl) f,f⟩
 ·have s:decide ((l.length:Int)<(g:Int))=false:=by simp;omega
  have C:((l.length:Int) !=(g:Int))=true:=by simp;omega
  go_wp2_with (first
   |refine cZ 135 ?_;refine ab (by rfl) _ (run_build _ _ rfl _ (tW _ _ _ _)) ?_
   |refine al 41 ?_;refine aH rfl fun K d=>bt 41 _ _ rfl w.heap.size 4 rfl _ rfl rfl oR _ _ (ak _ _ _ _ rfl) (by simp[BT]) (fun n k j=>d _ _ ?_);clear d K)
  have f:=j.below ((aP w.heap.size w).alloc bG _) bG (by rw[bn];omega);exact cA rfl _ rfl rfl ⟨rfl,p.out 4 n k f,f⟩
def Rh (l:List Int) (b a n:Nat):List Int:=if a=0 then(l.drop b).take n else List.replicate n 0
def Ux:(prog.info? 5).map (fun i=>(i.zero,i.size,i.bytes))=some (some (.int .u8 0),1,1):=by kernel_rfl
def ng {a o} (w x y) (e:o.op= .makeSlice 39 x y) (n) (d:a x= .int .i64 (n:Int)) (c:a y= .int .i64 (n:Int)) (hn:n≤4294967296):
 (execOp a o).run prog w= .ok (.value (.slice (some ⟨w.heap.size,0,none⟩) n n)) (w.alloc (.cells (madeCells #[.int .u8 0] n) 5)):=by
 obtain⟨i,f,b,hs,g⟩:=info_parts Ux;have h:=Cv (P:=prog) w 39 5 i _ bF f b .i64 .i64 n n (by omega) (vN _) (by rw[g];omega) (by omega);simp only[Int.toNat_natCast,hs,As]at h;unfold execOp;simp only[e,d,c,dN,h,Result.andThen_ok,Sem.run_pure];rfl
def Ud (w:World) (n:Nat):Row (w.alloc (.cells (madeCells #[.int .u8 0] n) 5)) (some ⟨w.heap.size,0,none⟩) .u8 (List.replicate n 0):=by
 refine⟨fun i c=>⟨w.heap.size,0,rfl,?_⟩,fun m a=>?_⟩
 ·have b:i<n:=by simpa using c
  rw[br _ w.heap.size (0+i) _ _ _ (ak _ _ _ _ rfl),bY];simp[madeCells,b,List.getD,Nat.mod_one,CK.mk]
 ·rw[Sr a];exact⟨by decide,by decide⟩
def qh {P g o} (w t e x y z) (u:o.op= .slice t x (some y) (some z) none) (p:P.underlying t=some (.slice e)) (j) (r:(P.info? e).map (·.size)=some j) (b f h c a n) (m:g x= .slice (some ⟨b,f,none⟩) h c) (l:g y= .int .i64 (a:Int)) (k:g z= .int .i64 ((a+n:Nat):Int)) (F:0<n) (A:a+n≤c) (q) (s:f+a*j=q):
 (execOp g o).run P w= .ok (.value (.slice (some ⟨b,q,none⟩) n (c-a))) w:=by
 obtain⟨d,i⟩:∃d,d=a+n:=⟨_,rfl⟩;have hn:d-a=n:=by omega
 rw[←i]at k A;rw[←hn];have v:c≠a:=by omega
 have E:(0:Int)≤(a:Int):=by omega
 have D:(a:Int)≤(d:Int):=by omega
 have C:(0:Int)≤(d:Int):=by omega
 have B:(d:Int)≤(c:Int):=by omega
 have G:a≤d:=by omega
 unfold execOp;simp only[u,m,l,k,Option.map_some,Option.map_none,Instr.sliceAt,Instr.slice,Instr.sliceBounds,Instr.sliceBound,asIntOf,dN,Sem.run_pure,Result.andThen_ok,no p,nZ r,aj (And.intro E D),aj (And.intro C B),Int.toNat_natCast,Option.map_some,vO,s,an v]
def jk {w l b o} (h:Row w (some ⟨b,o,none⟩) .u8 l) (k n) (i:k+n≤l.length):Row w (some ⟨b,o+k,none⟩) .u8 ((l.drop k).take n):=by
 refine⟨fun j d=>⟨b,o+k,rfl,?_⟩,fun m a=>h.ok m (kM (oH a))⟩;have c:j<n:=by rw[cf]at d;omega
 obtain⟨p,g,e,f⟩:=h.cell (k+j) (by omega);cases e;rw[oF,f];simp only[List.getD,Aw,aj c,qD]
def zQ {u o} (i l z c a b n w) (h:xh u o i l z c a b w) (L:0<n) (hn:n≤4294967296) (B:b=0→a+n≤l.length):
 Calls prog 61 #[.pointer (some ⟨i,0,none⟩),.int .i64 (n:Int)] w fun e d=>(∃q s,e= .returned (.slice q n s)∧n≤s∧(q=none→s=0)∧Row d q .u8 (Rh l a b n))∧xh u o i l z c (if b=0 then a+n else a) b d∧aL i w d:=by
 have F:=h.size;have j:=aa h;clear h
 go_enter func61,ntmps61
 by_cases he:b=0
 ·subst he
  have y:=B rfl;have M:=j.out.Es;have O:=j.out.cap;obtain⟨m,k,rfl,_⟩:=j.out.row.cell 0 (by omega);have J:IntKind.i64.wrap ((a:Int)+(n:Int))=((a+n:Nat):Int):=by rw[bP];omega
  clear B
  go_wp2_with (first
   |refine ag 41 ?_;refine dq (v:=(.int .i64 0)) (dV j.out.cells 4) fU ?_ rfl rfl rfl rfl)
  rename_i K g;refine dQ (S:=fun d=>d.heap[i]?=some (.cells (BT u o (some ⟨m,k,none⟩) l.length c a 0) 135 (0,0))) (by kernel_rfl) ?_;have C:({w with drawn:=w.drawn+1}:World).heap[i]?=some (.cells (BT u o (some ⟨m,k,none⟩) l.length c a 0) 135 (0,0)):=j.out.cells;refine gY 0 4 8 (.pointer (some ⟨i,0,none⟩)) (.pointer (some ⟨i,0,none⟩)) (.pointer (some ⟨i,0,none⟩)) rfl (by kernel_rfl) (fun _=>by kernel_rfl) bH ‹_› ?_;go_frame;refine aJ (i:=12) (v:=(.int .i64 (n:Int))) rfl (by kernel_rfl) bH ‹_› (fun d f=>by go_simp) ?_;go_frame;refine tw 1 5 9 2 6 10 (.pointer (some ⟨i,0,none⟩)) (.pointer (some ⟨i,0,none⟩)) (.pointer (some ⟨i,0,none⟩)) (.pointer (some ⟨i,0,none⟩)) (.pointer (some ⟨i,1,none⟩)) (.pointer (some ⟨i,1,none⟩)) rfl (by kernel_rfl) (fun _=>by kernel_rfl) bH ‹_› ?_;go_frame;refine aJ (i:=3) (v:=(.slice (some ⟨m,k,none⟩) l.length c)) rfl (by kernel_rfl) bH ‹_› (fun d f=>au _ 39 _ (by rfl) ⟨i,0,none⟩ (by rfl) _ (dV f 0) _ bF rfl) ?_;go_frame;refine aJ (i:=7) (v:=(.int .i64 (a:Int))) rfl (by kernel_rfl) bH ‹_› (fun d f=>au _ 3 _ (by rfl) ⟨i,1,none⟩ (by rfl) _ (dV f 1) _ pi rfl) ?_;go_frame;refine aJ (i:=11) (v:=(.int .i64 (a:Int))) rfl (by kernel_rfl) bH ‹_› (fun d f=>au _ 3 _ (by rfl) ⟨i,1,none⟩ (by rfl) _ (dV f 1) _ pi rfl) ?_;go_frame;refine aJ (i:=13) (v:=(.int .i64 ((a+n:Nat):Int))) rfl (by kernel_rfl) bH ‹_› (fun d f=>by go_simp) ?_;go_frame;refine aJ (i:=14) (v:=(.slice (some ⟨m,k+a,none⟩) n (c-a))) rfl (by kernel_rfl) bH ‹_› (fun d f=>qh (P:=prog) d 39 5 (.tmp 16) (.tmp 20) (.tmp 26) (by rfl) bF 1 cR m k l.length c a n (by rfl) (by rfl) (by rfl) (by omega) (by omega) (k+a) (by omega)) ?_;go_frame;refine d5 15 (.slice (some ⟨m,k+a,none⟩) n (c-a)) rfl (by kernel_rfl) (fun _=>by kernel_rfl) bH ‹_› ?_;go_frame;refine dM (by kernel_rfl) ?_ _;refine g _ _ ?_;clear g K;refine bO (fun W=>W.heap[i]?=some (.cells (BT u o (some ⟨m,k,none⟩) l.length c a 0) 135 (0,0))∧aL i w W) ⟨C,aL.begin i w⟩ ?_;rintro R ⟨A,E⟩;have p:=aa A;clear C A
  go_wp2_with (first
   |refine ag 3 ?_;refine dq (v:=(.int .i64 (a:Int))) (dV p.out 1) pi ?_ rfl rfl rfl rfl
   |refine al 3 ?_;refine aH rfl fun K g=>bt 3 _ _ rfl i 1 rfl (.int .i64 ((a+n:Nat):Int)) rfl rfl LE _ _ p.out (by simp[BT]) (fun Q H G=>g _ _ ?_);clear g K)
  have D:=E.trans G;have r:=D.below (aP i w) bG (by omega);have hI:=j.out.set r H;refine cA rfl _ rfl rfl ⟨⟨_,_,rfl,by omega,fun e=>(by cases e),?_⟩,hI,D⟩;exact jk hI.row a n y
 ·have N:((b:Int) !=0)=true:=by simp[he]
  have I:(b=0)=False:=by simp[he]
  go_wp2_with (first
   |refine ag 41 ?_;refine dq (v:=(.int .i64 (b:Int))) (dV j.out.cells 4) fU ?_ rfl rfl rfl rfl
   |refine nc 39 ?_;refine aH rfl fun K g=>bV _ (ng _ _ _ rfl n rfl rfl hn) (g _ _ ?_);clear g K)
  have r:Below (i+1) w (w.alloc (.cells (madeCells #[.int .u8 0] n) 5)):=(aP _ _).alloc F _;refine cA rfl _ rfl rfl ⟨⟨_,_,rfl,cD _,fun e=>(by cases e),?_⟩,j.out.later r,(aL.refl _ _).alloc _⟩;unfold Rh;rw[an he];exact Ud w n
def aL.lo {i w a} (h:aL i w a) (hn:i≤w.heap.size):Below i w a:=h.below (aP _ _) bG hn
def Uz {u k} (i l g c b a n w) (h:xh u k i l g c b a w) (m:0<n) (hn:n≤4294967296) (o:a=0→b+n≤l.length):
 Calls prog 61 #[.pointer (some ⟨i,0,none⟩),.int .i64 (n:Int)] w fun e d=>(∃f j,e= .returned (.slice f n j)∧n≤j∧(f=none→j=0)∧Row d f .u8 (Rh l b a n))∧xh u k i l g c (if a=0 then b+n else b) a d∧Below i w d:=
 (zQ i l g c b a n w h m hn o).mono fun _ _ ⟨r,q,p⟩=>⟨r,q,p.lo (by have:=h.size;omega)⟩
def wM {l at' err n} (h:err=0→at'+n≤l.length):(Rh l at' err n).length=n:=by
 unfold Rh;by_cases c:err=0
 ·rw[aj c,cf,bJ];have:=h c;omega
 ·rw[an c,vK]
def C7 {u} {k:Nat} (i:Nat) (l:List Int) (j:Option Addr) (c d a f:Nat) (w) (h:xh u k i l j c d a w):
 Calls prog 63 #[.pointer (some ⟨i,0,none⟩),.int .i64 (f:Int)] w fun e g=>e= .returned (.tuple #[])∧xh u k i l j c d (if a=0 then f else a) g∧aL i w g:=by
 have q:=h.size;have b:=aa h;clear h
 go_enter func63,ntmps63
 by_cases he:a=0
 ·subst he
  go_wp2_with (first
   |refine ag 41 ?_;refine dq (v:=(.int .i64 0)) (dV b.out.cells 4) fU ?_ rfl rfl rfl rfl
   |refine al 41 ?_;refine aH rfl fun K n=>bt 41 _ _ rfl i 4 rfl (.int .i64 (f:Int)) rfl rfl oR _ _ b.out.cells (by simp[BT]) (fun s o m=>n _ _ ?_);clear n K)
  have p:=m.below (aP i w) bG (by omega);exact g8 rfl rfl ⟨rfl,b.out.set p o,m⟩
 ·have r:((a:Int)==0)=false:=by simp[he]
  go_wp2_with (
   ((with_reducible refine ag 41 ?_);refine dq (v:=(.int .i64 (a:Int))) (dV b.out.cells 4) fU ?_ rfl rfl rfl rfl))
  exact g8 rfl rfl ⟨rfl,b.out,aL.refl _ _⟩
def OJ {u} {j:Nat} (i:Nat) (l:List Int) (d:Option Addr) (c b a f:Nat) (w) (h:xh u j i l d c b a w):
 Calls prog 63 #[.pointer (some ⟨i,0,none⟩),.int .i64 (f:Int)] w fun e g=>e= .returned (.tuple #[])∧xh u j i l d c b (if a=0 then f else a) g∧Below i w g:=
 (C7 i l d c b a f w h).mono fun _ _ ⟨n,m,k⟩=>⟨n,m,k.lo (by have:=h.size;omega)⟩
def inN (l:List Int) (b a:Nat):Int:=rdI (fun j=>(Rh l b a 8).getD j 0) 8
def OI {u p} (i l g c a b w) (h:xh u p i l g c a b w) (j:b=0→a+8≤l.length):
 Calls prog 88 #[.pointer (some ⟨i,0,none⟩)] w fun e o=>e= .returned (.int .u64 (inN l a b))∧xh u p i l g c (if b=0 then a+8 else a) b o∧aL i w o:=by
 have q:=wM j;have s:=aa (show Calls prog 61 #[.pointer (some ⟨i,0,none⟩),.int .i64 8] w _ from zQ i l g c a b 8 w h (by omega) (by omega) j);clear h j;unfold inN;generalize (if b=0 then a+8 else a)=C at*;generalize Rh l a b 8=m at*;have k:=aa q;clear q
 go_enter func88,ntmps88
 go_wp2_with (first
  |with_reducible refine s.out.mono ?_
   rintro e W ⟨⟨v,A,rfl,B,y,r⟩,hI,z⟩;have f:=Jp m v A W r;rw[k.out]at f;simp only[pC]at f;have d:=aa f;have n:=aa hI;clear f hI r s y
  |with_reducible refine d.out.mono ?_
   rintro e D ⟨rfl,rfl⟩
   clear d)
 exact cA rfl _ rfl rfl ⟨rfl,n.out,z⟩
def Z7 {u g} (i l d c b a w) (h:xh u g i l d c b a w) (j:a=0→b+8≤l.length):
 Calls prog 88 #[.pointer (some ⟨i,0,none⟩)] w fun e f=>e= .returned (.int .u64 (inN l b a))∧xh u g i l d c (if a=0 then b+8 else b) a f∧Below i w f:=
 (OI i l d c b a w h j).mono fun _ _ ⟨n,m,k⟩=>⟨n,m,k.lo (by have:=h.size;omega)⟩
section
variable {P:Program} {a:Act} {C:World→Prop} {K:Act→Prop} {d:Option Tmp} {ty:TypeId} {pos:String} {af:Array Edge} {g:Option (Nat×Bool)}
theorem dw (t) {x} (h:(⟨d,.load t x,ty,pos,af,g⟩:Oper).quiet P a C K):(⟨d,.load t x,ty,pos,af,g⟩:Oper).quiet P a C K:=h
theorem eB (t) {x y} (h:(⟨d,.indexAddr t x y,ty,pos,af,g⟩:Oper).quiet P a C K):(⟨d,.indexAddr t x y,ty,pos,af,g⟩:Oper).quiet P a C K:=h
end
def et (g:Nat) (b:List Nat) (w:World):Prop:=w.heap[g]?=some (.cells (b.map fun z:Nat=>Value.int .i64 (z:Int)).toArray 3 (0,0))
def et.cell {g b w} (h:et g b w) (i) (c:i<b.length):w.cell? ⟨g,i,none⟩=some (.int .i64 ((b.getD i 0:Nat):Int)):=by rw[br w g i _ _ _ h,fu,Ax];simp[List.getD,c]
def et.block {g b w c} (h:et g b w) (he:c.heap[g]?=w.heap[g]?):et g b c:=he.trans h
def et.later {g n b w c} (h:et g b w) (f:Below n w c) (e:g<n):et g b c:=h.block (f.block g e)
def d6:(prog.info? 3).map (·.size)=some 1:=by kernel_rfl
def pS (g b n c w) (h:et g b w) (hn:b.length=n) (E:1≤n) (D:n≤64) (l:∀z∈b,z≤65536):
 Calls prog 117 #[.slice (some ⟨g,0,none⟩) n c] w fun e o=>e= .returned (.bool true)∧w=o:=by
 have m:=aa (fun i (p:i<n)=>h.cell i (by omega));have j:=aa (fun i (p:i<n)=>show b.getD i 0≤65536 from l _ (by simp[List.getD,show i<b.length by omega]));clear h l hn;have y:decide ((n:Int)<1)=false:=by simp;omega
 have u:decide ((64:Int)<(n:Int))=false:=by simp;omega
 go_enter func117,ntmps117
 go_wp2
 go_loop [3] (fun i=>∃k:Nat,k≤n∧i= .int .i64 (k:Int)) (fun i=>n-(intOf i).toNat)
 case atStart=>exact⟨0,by omega,rfl⟩
 case round=>
  obtain⟨k,B,rfl⟩:=hrel;by_cases f:k<n
  ·have q:=aa (m.out k f)
   have A:=j.out k f;clear m j;generalize b.getD k 0=z at*;have s:decide ((z:Int)<0)=false:=by simp
   have r:decide ((65536:Int)<(z:Int))=false:=by simp;omega
   go_wp2_with (first
    |refine aC 63 ?_;refine ab (by rfl) _ (ai _ 63 3 _ _ rfl dZ 1 d6 g 0 n c rfl .i64 k rfl f k (by omega)) ?_
    |refine ag 3 ?_;refine dq (v:=(.int .i64 (z:Int))) q.out pi ?_ rfl rfl rfl rfl)
   go_round
   case rel=>exact⟨k+1,by omega,by go_num⟩
   case measure=>simp[intOf];omega
  ·have e:k=n:=by omega
   subst e;go_wp2;exact cA rfl _ rfl rfl ⟨rfl,rfl⟩
def headN:List Nat→Nat
 |[]=>0
 |z::b=>(if z=0 then 4 else z)+headN b
def tV:∀{zs:List Nat},(∀z∈zs,z≤65536)→headN zs≤zs.length*65536
 |[],_=>by simp[headN]
 |z::zs,h=>by
  have f:=h z (by simp);have e:=tV (zs:=zs) (fun y b=>h y (by simp[b]));have c:(zs.length+1)*65536=zs.length*65536+65536:=by omega
  simp only[headN,List.length_cons];rw[c];split<;>omega
def rL (a b):headN (a++b)=headN a+headN b:=by
 induction a with
 |nil=>simp[headN]
 |cons z a c=>simp only[List.cons_append,headN,c];omega
def lF (b:List Nat) (k) (h:k<b.length):headN (b.take (k+1))=headN (b.take k)+(if b.getD k 0=0 then 4 else b.getD k 0):=by
 have e:b.take (k+1)=b.take k++[b.getD k 0]:=by rw[s6,List.getD,fS h];rfl
 rw[e,rL];simp[headN]
def mW (b k):headN (b.take k)≤headN b:=by have e:=rL (b.take k) (b.drop k);rw[jI]at e;omega
def yu (g b n c w) (h:et g b w) (hn:b.length=n) (T:n≤64) (m:∀z∈b,z≤65536):
 Calls prog 118 #[.slice (some ⟨g,0,none⟩) n c] w fun e E=>e= .returned (.int .i64 (headN b:Nat))∧w=E:=by
 have B:=aa (fun i (J:i<n)=>h.cell i (by omega));have q:=tV m;have o:=aa (mW b);have u:=aa (fun k (I:k<n)=>lF b k (by omega));have D:headN (b.take n)=headN b:=by rw[←hn,gC]
 have L:=aa D;have r:=aa (fun i (J:i<n)=>show b.getD i 0≤65536 from m _ (by simp[List.getD,show i<b.length by omega]));rw[hn]at q;clear h m hn D;generalize M:headN b=H at*;clear M
 go_enter func118,ntmps118
 go_wp2
 go_loop [3,4] (fun v i=>∃k:Nat,k≤n∧i= .int .i64 (k:Int)∧v= .int .i64 ((headN (b.take k):Nat):Int)) (fun _ i=>n-(intOf i).toNat)
 case atStart=>exact⟨0,by omega,rfl,rfl⟩
 case round=>
  obtain⟨k,I,rfl,rfl⟩:=hrel;have S:=o.out k;by_cases j:k<n
  ·have A:=aa (B.out k j)
   have O:=r.out k j;have f:=u.out k j;have R:=o.out (k+1);clear B r o u;generalize b.getD k 0=z at*;generalize headN (b.take k)=s at*;generalize y:headN (b.take (k+1))=l at*;by_cases p:z=0
   ·subst p
    rw[aj rfl]at f;have G:=aa f;have F:IntKind.i64.wrap ((s:Int)+4)=(l:Int):=by rw[bP];omega
    have Q:IntKind.i64.wrap (l:Int)=(l:Int):=by rw[bP];omega
    clear f
    go_wp2_with (first
     |refine aC 63 ?_;refine ab (by rfl) _ (ai _ 63 3 _ _ rfl dZ 1 d6 g 0 n c rfl .i64 k rfl j k (by omega)) ?_
     |refine ag 3 ?_;refine dq (v:=(.int .i64 0)) A.out pi ?_ rfl rfl rfl rfl)
    go_round
    case rel=>exact⟨k+1,by omega,by go_num,by rw[y]⟩
    case measure=>simp[intOf];omega
   ·rw[an p]at f
    have N:((z:Int)==0)=false:=by simp[p]
    have G:=aa f;have F:IntKind.i64.wrap ((s:Int)+(z:Int))=(l:Int):=by rw[bP];omega
    clear f
    go_wp2_with (first
     |refine aC 63 ?_;refine ab (by rfl) _ (ai _ 63 3 _ _ rfl dZ 1 d6 g 0 n c rfl .i64 k rfl j k (by omega)) ?_
     |refine ag 3 ?_;refine dq (v:=(.int .i64 (z:Int))) A.out pi ?_ rfl rfl rfl rfl)
    go_round
    case rel=>exact⟨k+1,by omega,by go_num,by rw[y]⟩
    case measure=>simp[intOf];omega
  ·have e:k=n:=by omega
   subst e;have ha:=L.out;rw[ha];go_wp2;exact cA rfl _ rfl rfl ⟨rfl,rfl⟩
def nd (g:Nat) (f:List (List Int)) (w:World):Prop:=∃h:List Value,w.heap[g]?=some (.cells h.toArray 39 (0,0))∧h.length=f.length∧∀i,i<f.length→∃e c,h[i]?=some (.slice e (f.getD i []).length c)∧Row w e .u8 (f.getD i [])∧(e=none→c=0)∧∀b o,e=some ⟨b,o,none⟩→b<w.heap.size
def nd.cell {g f w} (h:nd g f w) (i) (j:i<f.length):∃e c,w.cell? ⟨g,i,none⟩=some (.slice e (f.getD i []).length c)∧Row w e .u8 (f.getD i [])∧(e=none→c=0)∧∀b o,e=some ⟨b,o,none⟩→b<w.heap.size:=by obtain⟨p,n,q,m⟩:=h;obtain⟨e,c,l,k⟩:=m i j;exact⟨e,c,by rw[br w g i _ _ _ n,fu];exact l,k⟩
def Qp (b:List (List Int)) (k) (h:k<b.length):(b.take (k+1)).flatten=(b.take k).flatten++b.getD k []:=by
 have e:b.take (k+1)=b.take k++[b.getD k []]:=by rw[s6,List.getD,fS h];rfl
 rw[e];simp
section
variable {P:Program} {ops:Array Oper} {Q:Exit→Act→World→Prop} {rest:List Oper} {a:Act} {w:World} {d:Option Tmp} {ty:TypeId} {pos:String} {af:Array Edge} {g:Option (Nat×Bool)}
theorem dy (t) {x y} (h:wpList P ops Q (⟨d,.call {callee:= .builtin .append,args:=#[x,y],argTypes:=#[t,t]},ty,pos,af,g⟩::rest) a w):wpList P ops Q (⟨d,.call {callee:= .builtin .append,args:=#[x,y],argTypes:=#[t,t]},ty,pos,af,g⟩::rest) a w:=h
theorem fj (t) {x c e b} (h:wpList P ops Q (⟨d,.slice t x c e b,ty,pos,af,g⟩::rest) a w):wpList P ops Q (⟨d,.slice t x c e b,ty,pos,af,g⟩::rest) a w:=h
end
def ml:(prog.info? 3).map (fun i=>(i.zero,i.size,i.bytes))=some (some (.int .i64 0),1,8):=by kernel_rfl
def rz:(prog.info? 39).map (fun i=>(i.zero,i.size,i.bytes))=some (some (.slice none 0 0),1,24):=by kernel_rfl
def nu:(prog.info? 39).map (fun i=>(i.zero,i.size))=some (some (.slice none 0 0),1):=by kernel_rfl
def lV:(prog.info? 3).map (fun i=>(i.zero,i.size))=some (some (.int .i64 0),1):=by kernel_rfl
def PY (x y w):Calls prog 140 #[.slice none 0 0,.int .i64 x,.int .i64 y] w fun e b=>e= .returned (.bool true)∧w=b:=by
 go_enter func140,ntmps140
 go_wp2;refine wp_loop_once ?_;go_wp2;exact cA rfl _ rfl rfl ⟨rfl,rfl⟩
def cutL:List Nat→List Int→List (List Int)
 |[],_=>[]
 |z::b,l=>l.take z::cutL b (l.drop z)
def jc:∀(b:List Nat) (l:List Int),(cutL b l).length=b.length
 |[],_=>rfl
 |z::b,l=>by simp[cutL,jc b]
def Dc:∀(b:List Nat) (l:List Int) (i:Nat),(∀z∈b,z≠0)→i<b.length→(cutL b l).getD i []=(l.drop (headN (b.take i))).take (b.getD i 0)
 |[],_,i,_,h=>by simp at h
 |z::b,l,0,_,_=>by simp[cutL,headN]
 |z::b,l,i+1,hz,h=>by have c:=Dc b (l.drop z) i (fun y e=>hz y (by simp[e])) (by simpa using h);have f:z≠0:=hz z (by simp);simp only[cutL,NI,List.take_succ_cons,headN,an f];rw[c,lO]
def g6 (e:Nat) (v:Value) (f:List (List Int)) (W:World):Prop:=∃g c,v= .slice (some ⟨g,0,none⟩) f.length c∧e≤g∧g<W.heap.size∧∀i,i<f.length→∃h j,W.cell? ⟨g,i,none⟩=some (.slice h (f.getD i []).length j)∧Row W h .u8 (f.getD i [])∧(h=none→j=0)∧(f.getD i []).length≤j∧∀b o,h=some ⟨b,o,none⟩→e≤b∧b<W.heap.size
def iL (e k:Nat) (v:Value) (c:Nat→List Int) (W:World):Prop:=∃f:List Value,W.ownsRow e 39 1 v k f∧f.length=k∧∀i,i<k→∃b o h,f[i]?=some (.slice (some ⟨b,o,none⟩) (c i).length h)∧Row W (some ⟨b,o,none⟩) .u8 (c i)∧(c i).length≤h∧b<W.heap.size∧v.ownBlock≠some b∧e≤b
def iL.nil (c b W):iL c 0 (.slice none 0 0) b W:=⟨[],⟨rfl,Or.inl ⟨rfl,rfl⟩⟩,rfl,fun i e=>absurd e (by omega)⟩
def iL.later {e k v c W W'} (h:iL e k v c W) (f:Below W.heap.size W W'):iL e k v c W':=by obtain⟨j,y,u,s⟩:=h;refine⟨j,aU y f,u,fun i l=>?_⟩;obtain⟨b,o,z,r,q,p,n,m⟩:=s i l;exact⟨b,o,z,r,q.later f,p,du n f.size,m⟩
def iL.form {f k v b W} (h:iL f k v b W):∃i c,v= .slice i k c:=by obtain⟨l,j,_⟩:=h;obtain⟨i,c,e,_⟩:=aW j;exact⟨i,c,e⟩
def iL.step {base k:Nat} {v v':Value} {part:Nat→List Int} {W n} {y:List Value} (F:y.length=k) (O:∀i,i<k→∃b o u,y[i]?=some (.slice (some ⟨b,o,none⟩) (part i).length u)∧Row W (some ⟨b,o,none⟩) .u8 (part i)∧(part i).length≤u∧b<W.heap.size∧v.ownBlock≠some b∧base≤b) {b c:Nat} (J:base≤b) (s:Row W (some ⟨b,0,none⟩) .u8 (part k)) (z:(part k).length≤c) (A:b<W.heap.size) (r:v.ownBlock≠some b) (l:n.ownsRow base 39 1 v' (k+1) (y++[.slice (some ⟨b,0,none⟩) (part k).length c])) (G:∀j,j<W.heap.size→some j≠v.ownBlock→n.heap[j]?=W.heap[j]?) (p:v'.ownBlock=v.ownBlock∨v'.ownBlock=some W.heap.size) (hs:W.heap.size≤n.heap.size):iL base (k+1) v' part n:=by
 have H:∀f,f<W.heap.size→v.ownBlock≠some f→n.heap[f]?=W.heap[f]?:=fun f l q=>G f l (fun e=>q e.symm)
 have D:∀f,f<W.heap.size→v.ownBlock≠some f→v'.ownBlock≠some f:=fun f l q e=>by
  rcases p with p|p
  ·exact q (p▸e)
  ·rw[p]at e;cases e;omega
 have C:∀f h m,Row W (some ⟨f,h,none⟩) .u8 m→f<W.heap.size→v.ownBlock≠some f→Row n (some ⟨f,h,none⟩) .u8 m:=fun f h m s l q=>⟨fun j I=>by
  obtain⟨T,R,e,z⟩:=s.cell j I;cases e
  exact⟨f,h,rfl,(iP (w:=W) (H f l q)).trans z⟩,s.ok⟩
 refine⟨_,l,by simp[F],fun i S=>?_⟩;by_cases e:i=k
 ·subst e
  exact⟨b,0,c,by rw[fT (by omega),F];simp,C b 0 _ s A r,z,du A hs,D b A r,J⟩
 ·obtain⟨f,h,u,N,M,L,B,E,K⟩:=O i (by omega)
  exact⟨f,h,u,by rw[eY (by omega)];exact N,C f h _ M B E,L,du B hs,D f B E,K⟩
def iL.parts {f k v c W} (h:iL f k v c W) (I:1≤k) (j) (r:j.length=k) (he:∀i,i<k→j.getD i []=c i):g6 f v j W:=by
 obtain⟨G,C,K,B⟩:=h;rcases C.2 with⟨q,p⟩|⟨g,l,F,q,p,n,N,M,L,D⟩
 ·omega
 ·subst r
  refine⟨g,l,q,p,aD n,fun i m=>?_⟩;obtain⟨b,o,E,A,z,y,u,J,s⟩:=B i m;refine⟨some ⟨b,o,none⟩,E,?_⟩;rw[he i m];refine⟨?_,z,(fun e=>by cases e),y,fun O H e=>by cases e;exact⟨s,u⟩⟩;rw[br W g i _ _ _ n,←A,←D,nO (by omega)];simp
def uP (l:List Int) (p:Option Addr) (c f) (b:List Nat) (n i w) (hZ:et f b w) (hn:b.length=n) (q:1≤n) (m:n≤64) (h:∀z∈b,z≤65536) (hl:l.length<headN b):
 Calls prog 73 #[.slice p l.length c,.slice (some ⟨f,0,none⟩) n i] w fun e o=>e= .returned (.tuple #[.slice none 0 0,.int .i64 4])∧w=o:=by
 have j:=aa (pS f b n i w hZ hn q m h);have k:=aa (yu f b n i w hZ hn m h);clear hZ hn h;generalize headN b=H at*;have r:decide ((l.length:Int)<(H:Int))=true:=by simp;omega
 go_enter func73,ntmps73
 go_wp2_with (first
  |with_reducible refine j.out.mono ?_
   rintro e W ⟨rfl,rfl⟩;clear j
  |with_reducible refine k.out.mono ?_
   rintro e W ⟨rfl,rfl⟩
   clear k)
 exact bR rfl _ _ rfl rfl rfl ⟨rfl,rfl⟩
def Hn {f v l w} (h:bc f v l w) (hl:∀n∈l,CK.ok .u8 n) (u:0<l.length):∃b c,v= .slice (some ⟨b,0,none⟩) l.length c∧f≤b∧l.length≤c∧Row w (some ⟨b,0,none⟩) .u8 l:=by
 obtain⟨s,c,e,k,m⟩:=h.row hl;rcases h.2 with⟨j,i⟩|⟨g,r,q,j,i,A⟩
 ·omega
 ·have p:=e.symm.trans j
  injection p with o z y
  subst o;exact⟨g,c,e,i,m,k⟩
def rO {e b n c l w} (h:bc e (.slice (some ⟨b,0,none⟩) n c) l w) (p:0<l.length):b<w.heap.size:=by
 rcases h.2 with⟨f,k⟩|⟨g,o,m,f,k,j,_⟩
 ·omega
 ·injection f with i r q
  cases i;exact aD j
def Xc (l va c A f n J w) (fq:Row w va .u8 l) (cT:∀b o,va=some ⟨b,o,none⟩→b<w.heap.size) (hc:l.length≤c) (hZ:et A f w) (hn:f.length=n) (y:1≤n) (xg:n≤64) (I:∀z∈f,z≤65536) (jo:∀z∈f,z≠0) (hl:l.length=headN f):
 Calls prog 73 #[.slice va l.length c,.slice (some ⟨A,0,none⟩) n J] w fun e w'=>(∃v,e= .returned (.tuple #[v,.int .i64 0])∧g6 w.heap.size v (cutL f l) w')∧Below w.heap.size w w':=by
 have hS:=aa (pS A f n J w hZ hn y xg I);have hH:=aa (yu A f n J w hZ hn xg I);have mL:=aa (fun i (E:i<n)=>hZ.cell i (by omega));have qv:A<w.heap.size:=aD hZ;have Y:=aa (fun i (E:i<n)=>show f.getD i 0≠0 from jo _ (by simp[List.getD,show i<f.length by omega]));have U:=tV I;rw[hn]at U;have D:=aa (mW f);have Z:=aa (fun k (hk:k<n)=>lF f k (by omega));have O:=aa (fun i (E:i<n)=>show f.getD i 0≤65536 from I _ (by simp[List.getD,show i<f.length by omega]));obtain⟨m,mH⟩:∃m:Nat→List Int,∀i,i<n→m i=(l.drop (headN (f.take i))).take (f.getD i 0):=⟨_,fun _ _=>rfl⟩;have wt:=aa (fun i (E:i<n)=>(Dc f l i jo (by omega)).trans (mH i E).symm);have pB:(cutL f l).length=n:=by rw[jc,hn]
 have sX:headN (f.take n)=headN f:=by rw[←hn,gC]
 rw[←hl]at sX U;have T:∀i,headN (f.take i)≤l.length:=fun i=>hl▸mW f i;have V:=aa hl;have HW:=aa fq;have df:=aa cT;replace D:=aa T;clear hZ hn I jo hl fq cT;have G9:=aa mH;have Jb:=aa sX;rw[←V.out]at hH;clear T mH sX V;generalize hL:l.length=L at*;have Ei:=aa hL;generalize cutL f l=ps at*;have Lu:=aa pB;clear hL pB;have t1:decide ((L:Int)<(L:Int))=false:=by simp
 have t2:((L:Int) !=(L:Int))=false:=by simp
 go_enter func73,ntmps73
 go_wp2_with (first
  |with_reducible refine hS.out.mono ?_
   rintro e W ⟨rfl,rfl⟩;clear hS
  |with_reducible refine hH.out.mono ?_
   rintro e W ⟨rfl,rfl⟩
   clear hH)
 go_loopw [7,8,9] (fun x k i wr=>∃j:Nat,j≤n∧i= .int .i64 (j:Int)∧k= .int .i64 ((headN (f.take j):Nat):Int)∧x= .slice none 0 0∧w=wr) (fun _ _ i _=>n-(intOf i).toNat)
 case atStart=>exact⟨0,by omega,rfl,rfl,rfl,rfl⟩
 case round=>
  obtain⟨j,hj,rfl,rfl,rfl,rfl⟩:=hrel;have hm:=D.out j;by_cases u:j<n
  ·have m6:=aa (mL.out j u)
   have H:=Y.out j u;have B:=Z.out j u;have VE:=D.out (j+1);clear mL Y D Z;generalize f.getD j 0=z at*;generalize headN (f.take j)=s at*;generalize vl:headN (f.take (j+1))=s2 at*;rw[an H]at B;have t0:((z:Int)==0)=false:=by simp[H]
   have QZ:=aa B;have rc:IntKind.i64.wrap ((s:Int)+(z:Int))=(s2:Int):=by rw[bP];omega
   clear B
   go_wp2_with (first
    |refine aC 63 ?_;refine ab (by rfl) _ (ai _ 63 3 _ _ rfl dZ 1 d6 A 0 n J rfl .i64 j rfl u j (by omega)) ?_
    |refine ag 3 ?_;refine dq (v:=(.int .i64 (z:Int))) m6.out pi ?_ rfl rfl rfl rfl)
   exact⟨⟨j+1,by omega,by go_num,by rw[vl],rfl,trivial⟩,by simp[intOf];omega⟩
  ·have e:j=n:=by omega
   subst e;clear u;rw[Jb.out];clear hm;have En:(0:Int)≤(L:Int):=by omega
   have S:w.ownsRow w.heap.size 3 1 (.slice none 0 0) 0 []:=⟨rfl,Or.inl ⟨rfl,rfl⟩⟩;have R:=aa S;clear S
   go_wp2_with (first
    |with_reducible refine(PY _ _ _).mono ?_
     rintro e W ⟨rfl,rfl⟩
    |refine aV 63 ?_;refine aH rfl fun K r=>bV _ (bj _ 63 3 1 _ rfl dZ (.int .i64 0) 1 lV (by decide) (by decide) [.int .i64 (L:Int)] rfl rfl (by simp[Value.cells])) (r _ _ ?_);clear r K
    |refine dy 63 ?_;refine aH rfl fun K r=>eN (.tmp 65) (.tmp 68) 63 3 rfl dZ (.int .i64 0) 1 8 ml rfl (by decide) w.heap.size 0 _ [] rfl (aU R.out dt) ⟨w.heap.size,0,none⟩ 1 1 rfl [.int .i64 (L:Int)] rfl (aE (ak _ _ _ _ rfl)) rfl (by simp[Value.oneCell']) (by omega) (by omega) (by simp) bG dt (fun v1 W2 y N z1 o1 q1=>r _ _ ?_);clear r K
     obtain⟨eE,c1,e1,ig⟩:=aW y;clear ig o1 q1 y
     subst e1)
   refine bO (fun W=>Below w.heap.size w W) N ?_;clear N z1 R;rintro W0 fe;have wx:=aa fe;clear fe
   go_loopw [8,10,11,12] (fun k v x i wr=>∃q:Nat,q≤j∧i= .int .i64 (q:Int)∧k= .int .i64 ((headN (f.take q):Nat):Int)∧x= .int .i64 0∧(∃vo co,v= .slice vo q co)∧iL w.heap.size q v m wr∧Below w.heap.size w wr) (fun _ _ _ i _=>j-(intOf i).toNat)
   case atStart=>exact⟨0,by omega,rfl,rfl,rfl,⟨none,0,rfl⟩,iL.nil _ _ _,wx.out⟩
   case round=>
    obtain⟨q,hq,rfl,rfl,rfl,⟨vo,co,rfl⟩,hO,F⟩:=hrel;clear wx;by_cases u:q<j
    ·have hcz:=aa (fun W (h:Below w.heap.size w W)=>(h.cell (p:=⟨A,q,none⟩) qv).trans (mL.out q u))
     have H:=Y.out q u;have Al:=O.out q u;have B:=Z.out q u;have xl:=D.out q;have VE:=D.out (q+1);have zn:=G9.out q u;clear mL Y Z G9 O;rw[an H]at B;generalize f.getD q 0=z at*;generalize headN (f.take q)=s at*;generalize vl:headN (f.take (q+1))=s2 at*;have t0:((z:Int)==0)=false:=by simp[H]
     have Ln:=aa vl;clear vl;have fL:s+z≤L:=by omega
     have rc:IntKind.i64.wrap ((s:Int)+(z:Int))=((s+z:Nat):Int):=by rw[bP];omega
     have QZ:=aa B;obtain⟨bb,M,rfl,_⟩:=HW.out.cell 0 (by rw[Ei.out];omega);have GG:=df.out bb M rfl;have dC:=aa (show Row wr (some ⟨bb,M+s,none⟩) .u8 (m q)from by rw[zn];exact jk (HW.out.later F) s z (by rw[Ei.out];exact fL));have wh:(m q).length=z:=by rw[zn,cf,bJ,Ei.out];omega
     have C:=aa wh;clear wh zn B;obtain⟨vs,GF,g2,g3⟩:=hO;have Ev:=aa GF;have VS:=aa g2;have VR:=aa g3;have VB:=GF.lt;have kt:w.heap.size≤wr.heap.size:=F.size;clear GF g2 g3
     go_wp2_with (first
      |refine aC 63 ?_;refine ab (by rfl) _ (ai _ 63 3 _ _ rfl dZ 1 d6 A 0 j J rfl .i64 q rfl u q (by omega)) ?_
      |((with_reducible refine ag 3 ?_);refine dq (p:=⟨A,q,none⟩) (v:=(.int .i64 (z:Int))) (hcz.out _ ?_) pi ?_ rfl rfl rfl rfl;(first|exact F|exact F.alloc kt _|exact X.out))
      |refine aV 39 ?_;refine aH rfl fun K r=>d' rfl (r _ _ ?_);clear r K
      |refine fj 39 ?_;refine ab (by rfl) _ (qh (P:=prog) _ 39 5 (.tmp 103) (.tmp 104) (.tmp 110) rfl bF 1 cR bb M L c s z rfl rfl rfl (by omega) (by omega) (M+s) (by omega)) ?_
      |refine dy 39 ?_;refine cB (w0:=wr) rfl (.tmp 102) (.tmp 111) rfl wr.heap.size [] (m q) _ rfl (bc.new bG [] (by decide) (ak _ _ _ _ rfl)) (some ⟨bb,M+s,none⟩) (c-s) (by rw[C.out];rfl) (dC.out.later dt) (by rw[C.out,List.length_nil];omega) (by simp) (fun h=>by cases h) dt (fun v1 W1 y N z1=>?_)
       rw[List.nil_append]at y;obtain⟨pb,pc,e1,pge,Nl,sS⟩:=Hn y dC.out.ok (by rw[C.out];omega);rw[C.out]at e1;subst e1;have G:=aa N;have IZ:=aa sS;have alA:=VB;have hpW:=rO y (by rw[C.out];omega);clear y N sS
      |refine aV 114 ?_;refine aH rfl fun K r=>bV _ (bj _ 114 39 1 _ rfl cV (.slice none 0 0) 1 nu (by decide) (by decide) [.slice (some ⟨pb,0,none⟩) z pc] rfl rfl (by simp[Value.cells])) (r _ _ ?_);clear r K
      |refine dy 114 ?_;refine aH rfl fun K r=>eN (.tmp 101) (.tmp 113) 114 39 rfl cV (.slice none 0 0) 1 24 rz rfl (by decide) w.heap.size q _ vs rfl (aU (aU Ev.out G.out) dt) ⟨W1.heap.size,0,none⟩ 1 1 rfl [.slice (some ⟨pb,0,none⟩) z pc] rfl (aE (ak _ _ _ _ rfl)) rfl (by simp[Value.oneCell']) (by omega) (by omega) (by have:=G.out.size;simp;omega) bG (aP _ _) (fun v2 W2 h2 b2 z2 o2 q2=>r _ _ ?_);clear r K
       obtain⟨sD,c2,e2,GN⟩:=aW h2;clear GN;subst e2
       have pj:=aa (iL.step (v':= .slice sD (q+1) c2) (base:=w.heap.size) (W:=W1.alloc (.cells #[.slice (some ⟨pb,0,none⟩) z pc] 39)) VS.out (fun i E=>by
        obtain⟨b',o',ci,k4,k5,k6,k7,k8,k9⟩:=VR.out i E
        exact⟨b',o',ci,k4,(k5.later G.out).later dt,k6,by rw[bn];have:=G.out.size;omega,k8,k9⟩) (by omega) (IZ.out.later dt) Nl (by rw[bn];omega) (fun e=>by have:=(VB _ e).2;omega) (by rw[C.out];exact h2) o2 q2 b2.size)
       have X:=aa (((F.trans (G.out.mono kt)).alloc (by have:=G.out.size;omega) _).trans b2)
       clear h2 b2 o2 q2)
     exact⟨⟨q+1,by omega,by go_num,by rw[Ln.out,QZ.out,Int.natCast_add],rfl,⟨_,_,rfl⟩,pj.out,X.out⟩,by simp[intOf];omega⟩
    ·have e:q=j:=by omega
     subst e;have u6:¬((q:Int)<(q:Int)):=by omega
     have kU:=aa hO;clear hO;go_wp2;exact bR rfl _ _ rfl rfl rfl ⟨⟨_,rfl,kU.out.parts y ps Lu.out wt.out⟩,F⟩
def dl {P f o} (w t e x z) (n:o.op= .slice t x none (some z) none) (l:P.underlying t=some (.slice e)) (i) (m:(P.info? e).map (·.size)=some i) (b d g a c) (k:f x= .slice (some ⟨b,d,none⟩) g a) (j:f z= .int .i64 (c:Int)) (h:c≤a):
 (execOp f o).run P w= .ok (.value (.slice (some ⟨b,d,none⟩) c a)) w:=by
 have q:(0:Int)≤(c:Int):=by omega
 have p:(c:Int)≤(a:Int):=by omega
 unfold execOp;simp only[n,k,j,Option.map_some,Option.map_none,Instr.sliceAt,Instr.slice,Instr.sliceBounds,Instr.sliceBound,asIntOf,dN,Sem.run_pure,Result.andThen_ok,no l,nZ m,aj (And.intro q p),Int.toNat_natCast,vO,E8,Nat.add_zero,ite_self,Nat.sub_zero]
def vZ {P g o} (w t e x y) (n:o.op= .slice t x (some y) none none) (l:P.underlying t=some (.slice e)) (h) (m:(P.info? e).map (·.size)=some h) (b f a d k) (j:g x= .slice (some ⟨b,f,none⟩) a d) (i:g y= .int .i64 (k:Int)) (r:k≤a):
 (execOp g o).run P w= .ok (.value (.slice (some ⟨b,if d=k then f else f+k*h,none⟩) (a-k) (d-k))) w:=by
 have q:(0:Int)≤(k:Int):=by omega
 have p:(k:Int)≤(a:Int):=by omega
 unfold execOp;simp only[n,j,i,Option.map_some,Option.map_none,Instr.sliceAt,Instr.slice,Instr.sliceBounds,Instr.sliceBound,asIntOf,dN,Sem.run_pure,Result.andThen_ok,no l,nZ m,aj (And.intro q p),Int.toNat_natCast,vO];by_cases c:d=k
 ·simp only[aj c]
 ·simp only[an c,Option.map_some]
structure j_ (w:World) (va:Option Addr) (rs:List (Nat→Int)):Prop where
 cell:∀i,i<rs.length→∃b o,va=some ⟨b,o,none⟩∧w.rangeAt b (o+32*i) (ae 32 (fun _=> .u8) (leaf rs i))
 is:∀r∈rs,fY r
def j_.later {w c n a d} (h:j_ w a d) (j:Below n w c) (hn:∀b o,a=some ⟨b,o,none⟩→b<n):j_ c a d:=
 ⟨fun i f=>by
   obtain⟨b,o,e,g⟩:=h.cell i f
   exact⟨b,o,e,gF g (j.block b (hn b o e))⟩,h.is⟩
def cU.row {g b k f w} (h:cU g b k f w) (a) (hl:a.length≤k) (d:∀i,i<a.length→leaf a i=f i) (c:∀r∈a,fY r):j_ w (some ⟨g,0,none⟩) a:=⟨fun i e=>⟨g,0,rfl,by rw[d i e,bY];exact h.range i (by omega)⟩,c⟩
def j_.take {w b o a} (h:j_ w (some ⟨b,o,none⟩) a) (k):j_ w (some ⟨b,o,none⟩) (a.take k):=by
 refine⟨fun i f=>⟨b,o,rfl,?_⟩,fun r d=>h.is r (oH d)⟩;have c:i<k∧i<a.length:=by rw[cf]at f;omega
 obtain⟨m,l,e,g⟩:=h.cell i c.2;cases e;have j:leaf (a.take k) i=leaf a i:=by simp only[leaf,List.getD,Aw,aj c.1]
 rw[j];exact g
def j_.drop {w b o a} (h:j_ w (some ⟨b,o,none⟩) a) (k c) (f:k<a.length→c=o+k*32):j_ w (some ⟨b,c,none⟩) (a.drop k):=by
 refine⟨fun i j=>⟨b,c,rfl,?_⟩,fun r d=>h.is r (kM d)⟩;have g:k+i<a.length:=by rw[bJ]at j;omega
 obtain⟨p,n,e,l⟩:=h.cell (k+i) g;cases e;have m:leaf (a.drop k) i=leaf a (k+i):=by simp only[leaf,List.getD,qD]
 rw[m,f (by omega),show o+k*32+32*i=o+32*(k+i) by omega];exact l
def QJ (m d w) (h:lN m d) (A:d≤40):
 Calls prog 170 #[.int .i64 (m:Int)] w fun e j=>e= .returned (.int .i64 (d:Int))∧w=j:=by
 have g:=aa h;clear h
 go_enter func170,ntmps170
 go_wp2
 go_loop [3] (fun i=>∃k:Nat,k≤d∧i= .int .i64 (k:Int)) (fun i=>d-(intOf i).toNat)
 case atStart=>exact⟨0,by omega,rfl⟩
 case round=>
  obtain⟨k,z,rfl⟩:=hrel;have u:2^k≤1099511627776:=nN (n:=2) (by decide) (show k≤40 by omega);have s:IntKind.u64.wrap (k:Int)=(k:Int):=by rw[lP];omega
  have o:(k:Int)<64:=by omega
  obtain⟨p,b⟩:∃p:Nat,2^k=p:=⟨_,rfl⟩;have c:(2:Int)^k=(p:Int):=by rw[←b];exact(Int.natCast_pow 2 k).symm▸rfl
  have r:IntKind.i64.wrap ((2:Int)^k)=(p:Int):=by rw[c,bP];omega
  have f:=aa b;clear b c;by_cases y:k<d
  ·have v:((p:Int)<(m:Int)):=by
    have a:=g.out.2;have C:2^k≤2^(d-1):=nN (by decide) (by omega);have l:=f.out;have B:2^(d-1)<m:=by rcases a with a|a<;>omega
    omega
   go_wp2
   go_round
   case rel=>exact⟨k+1,by omega,by go_num⟩
   case measure=>simp[intOf];omega
  ·have e:k=d:=by omega
   subst e
   have q:¬((p:Int)<(m:Int)):=by have a:=g.out.1;have l:=f.out;omega
   go_wp2;exact cA rfl _ rfl rfl ⟨rfl,rfl⟩
def lv (n:Nat):List (Nat→Int):=(List.range n).map fun k=>fullT k fun _=>bh
def jy (n):(lv n).length=n:=by simp[lv]
def AO (n k) (h:k<n):leaf (lv n) k=fullT k fun _=>bh:=by simp[leaf,lv,List.getD,h]
def J' (n) (hn:0<n):lv (n+1)=lv n++[gX (fullT (n-1) fun _=>bh) (fullT (n-1) fun _=>bh)]:=by obtain⟨m,rfl⟩:∃m,n=m+1:=⟨n-1,by omega⟩;simp only[lv,s7,kN,qC,Av,rV];rfl
def Pr (d:Nat) (w) (u:cY w) (gS:d≤40):
 Calls prog 171 #[.int .i64 (d:Int)] w fun e a=>(∃b c,e= .returned (.slice b (d+1) c)∧jU w.heap.size (.slice b (d+1) c) (lv (d+1)) a)∧Below w.heap.size w a:=by
 have Z:=aa u;have V:=u.size;clear u
 go_enter func171,ntmps171
 go_wp2_with (first
  |refine cZ 25 ?_;refine ab (by rfl) _ (ct _ rfl) ?_
  |refine aV 106 ?_;refine aH rfl fun K M=>bV _ (eF _ _ rfl bh (by rfl)) (M _ _ ?_);clear M K)
 have h:jU w.heap.size (.slice (some ⟨w.heap.size,0,none⟩) 1 1) (lv 1) (w.alloc (.cells (ax bh) 25)):=by
  refine yJ (f:=fun _=>bh) ⟨_,ak _ _ _ _ rfl,by simp[ae],cD _,fun i Y j X=>?_⟩ (by decide) bG rfl (fun i Y=>?_)
  ·have e:i=0:=by omega
   subst e;rw[Nat.mul_zero,bY,fu,aN _ _ _ _ X];rfl
  ·have e:i=0:=by omega
   subst e;rfl
 refine bO (fun W=>jU w.heap.size (.slice (some ⟨w.heap.size,0,none⟩) 1 1) (lv 1) W∧Below w.heap.size w W) ⟨h,dt⟩ ?_;clear h;rintro W0 ⟨L,N⟩
 go_loopw [3] (fun v wr=>∃k:Nat,1≤k∧k≤d+1∧(∃b c,v= .slice b k c)∧jU w.heap.size v (lv k) wr∧Below w.heap.size w wr) (fun v _=>d+1-vlen v)
 case atStart=>exact⟨1,by omega,by omega,⟨_,_,rfl⟩,L,N⟩
 case round=>
  obtain⟨k,pA,BU,⟨b,c,rfl⟩,m,C⟩:=hrel;clear L N;by_cases a8:k≤d
  ·have u6:((k:Int)≤(d:Int)):=by omega
   obtain⟨g,I,e,hg,p⟩:=gz m (by rw[jy];omega);rw[jy]at e p;obtain⟨rfl,rfl⟩:b=some ⟨g,0,none⟩∧c=I:=by injection e with D e2 e3;exact⟨D,e3⟩
   clear e;have s:=p.range (k-1) (by omega);rw[AO k (k-1) (by omega)]at s;have H:=aa s;have A:=aa m;have XL:=aa p;clear s m p;have n:=aa (show fY (fullT (k-1) fun _=>bh)from dj _ fun _=>g7);have F:=aa (J' k (by omega));generalize T:fullT (k-1) (fun _=>bh)=z at*;clear T;have rc:IntKind.i64.wrap ((k:Int)-1)=((k-1:Nat):Int):=by rw[bP];omega
   have J:w.heap.size≤wr.heap.size:=C.size;go_wp2;refine dQ (S:=fun _=>True) (by kernel_rfl) ?_;have hS:True:=trivial;have B:Below w.heap.size w {wr with drawn:=wr.drawn+1}:=C.drew;have l:({wr with drawn:=wr.drawn+1}:World).rangeAt g (32*(k-1)) (ae 32 (fun _=> .u8) z):=H.out;refine GX 0 1 2 7 8 (.slice (some ⟨g,0,none⟩) k c) (.slice (some ⟨g,0,none⟩) k c) (.slice (some ⟨g,0,none⟩) k c) (.slice (some ⟨g,0,none⟩) k c) (.slice (some ⟨g,0,none⟩) k c) rfl (by kernel_rfl) (fun _=>by kernel_rfl) bH ‹_› ?_;go_frame;refine aJ (i:=3) (v:=(.int .i64 (k:Int))) rfl (by kernel_rfl) bH ‹_› (fun a y=>by go_simp) ?_;go_frame;refine aJ (i:=9) (v:=(.int .i64 (k:Int))) rfl (by kernel_rfl) bH ‹_› (fun a y=>by go_simp) ?_;go_frame;refine aJ (i:=4) (v:=(.int .i64 ((k-1:Nat):Int))) rfl (by kernel_rfl) bH ‹_› (fun a y=>by go_simp) ?_;go_frame;refine aJ (i:=10) (v:=(.int .i64 ((k-1:Nat):Int))) rfl (by kernel_rfl) bH ‹_› (fun a y=>by go_simp) ?_;go_frame;refine aJ (i:=5) (v:=(.pointer (some ⟨g,32*(k-1),none⟩))) rfl (by kernel_rfl) bH ‹_› (fun a _=>ai a 106 25 _ _ (by rfl) fC 32 (ah am) g 0 k c (by rfl) .i64 (k-1) (by rfl) (by omega) _ (by omega)) ?_;go_frame;refine aJ (i:=11) (v:=(.pointer (some ⟨g,32*(k-1),none⟩))) rfl (by kernel_rfl) bH ‹_› (fun a _=>ai a 106 25 _ _ (by rfl) fC 32 (ah am) g 0 k c (by rfl) .i64 (k-1) (by rfl) (by omega) _ (by omega)) ?_;go_frame;refine vQ (i:=6) (k:=12) (.agg (ax z)) (.agg (ax z)) (Wn:={wr with drawn:=wr.drawn+1}) rfl rfl (by kernel_rfl) (by kernel_rfl) (by kernel_rfl) rfl rfl rfl rfl (ar _ 25 _ (by rfl) g _ (by rfl) _ _ l cH rfl (by rw[ah am,ac])) (ar _ 25 _ (by rfl) g _ (by rfl) _ _ l cH rfl (by rw[ah am,ac])) (ar _ 25 _ (by rfl) g _ (by rfl) _ _ l cH rfl (by rw[ah am,ac])) (ar _ 25 _ (by rfl) g _ (by rfl) _ _ l cH rfl (by rw[ah am,ac])) trivial trivial rfl rfl ?_;go_frame;refine cQ (i:=13) rfl (by kernel_rfl) rfl (jh 123 #[.agg (ax z),.agg (ax z)] (by go_simp) _ _ (yd z z n.out n.out _ (Z.out.below V B)) ?_);intro E r;refine⟨trivial,?_⟩;go_frame;have G:=r.size;have o:w.heap.size≤E.heap.size:=bg J G;refine cQ (i:=14) rfl (by kernel_rfl) rfl (bV _ (eF _ _ rfl (gX z z) (by rfl)) ⟨trivial,?_⟩);go_frame;have q:jU w.heap.size (.slice (some ⟨g,0,none⟩) k c) (lv k) (E.alloc (.cells (ax (gX z z)) 25)):=aU (aU (w:={wr with drawn:=wr.drawn+1}) A.out r) dt;unfold jU at q;rw[jy]at q;refine cQ (i:=15) rfl (by kernel_rfl) rfl (eN (.tmp 10) (.tmp 24) 106 25 rfl fC (.agg (rep 32)) 32 32 kC rfl (by decide) w.heap.size k _ (d8 (lv k)) rfl q ⟨E.heap.size,0,none⟩ 1 1 rfl (ae 32 (fun _=> .u8) (gX z z)) (by rw[ac]) (aE (ak _ _ _ _ rfl)) rfl cl (by omega) (by omega) (bg o (by simp)) bG ((B.trans (r.mono (by exact J))).alloc o _) (fun v1 W2 h O z1 R Q=>⟨trivial,?_⟩));clear R Q q;rw[show d8 (lv k)++ae 32 (fun _=> .u8) (gX z z)=d8 (lv (k+1)) by rw[F.out,iC,lE]]at h;obtain⟨P,c1,D,U⟩:=aW h;clear U;subst D;go_frame;refine d5 16 (.slice P (k+1) c1) rfl (by kernel_rfl) (fun _=>by kernel_rfl) bH ‹_› ?_;go_frame;refine dM (by kernel_rfl) ?_ _;have my:=aa h;have sQ:=aa O;clear h O B r l hS;go_wp2;refine⟨⟨k+1,by omega,by omega,⟨_,_,rfl⟩,?_,sQ.out⟩,by simp only[vlen];omega⟩;unfold jU;rw[jy];exact my.out
  ·have e:k=d+1:=by omega
   subst e;have hge:¬(((d+1:Nat):Int)≤(d:Int)):=by omega
   have A:=aa m;clear m;go_wp2;exact cA rfl _ rfl rfl ⟨⟨b,c,rfl,A.out⟩,C⟩
end Go.Proofs.YtjeoeibdgciafaaGreatDoor
