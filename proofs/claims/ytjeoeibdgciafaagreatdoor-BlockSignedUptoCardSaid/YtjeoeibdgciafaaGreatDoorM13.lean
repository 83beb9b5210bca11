/- Steps of the proof. -/
import Derived.Test.YtjeoeibdgciafaaGreatDoorM12
set_option linter.all false
set_option maxRecDepth 100000
set_option maxHeartbeats 16000000
namespace Go.Proofs.YtjeoeibdgciafaaGreatDoor
open Go.RowKit BigFrame
open Go.Proofs.Tryz
def B7 (N:Nat) (a:List Value) (W:World):Prop:=∀v∈a,∀b,blk v=some b→N≤b∧b<W.heap.size
def B7.flat (N n a f W):B7 N (ae n a f) W:=fun v c b e=>by obtain⟨j,_,rfl⟩:=ft.1 c;cases h:a j<;>simp[h,CK.mk,blk]at e
def B7.app {N c b W} (h:B7 N c W) (g:B7 N b W):B7 N (c++b) W:=fun v d=>by
 rcases iD.1 d with a|a
 ·exact h v a
 ·exact g v a
def B7.idx {N n c a W} (g f) (h:∀b o,a=some ⟨b,o,none⟩→N≤b∧b<W.heap.size):B7 N (bI (.slice a n c) g f) W:=by
 intro v d b e;rcases mF.1 d with rfl|d
 ·match a,e with
  |some ⟨i,o,none⟩,e=>cases e;exact h b o rfl
 ·exact((B7.flat N _ _ _ W).app (B7.flat N _ _ _ W)) v d b e
section
variable {α:Type}
def El.mK (e:El α) (P:List Int→Prop) (g:Nat) (f:List Int→α) (h:List Int→Nat):Prop:=∀l d c W,Hid (cG d c l W)→Hid (P l)→Calls prog g #[.slice d l.length c] W fun x a=>(∃b,x= .returned (.tuple #[.agg b.toArray,.int .i64 (h l:Int)])∧e.R (f l) b a∧B7 W.heap.size b a)∧Below W.heap.size W a
theorem mY {i N S t f d L G} (h:∀l a c w,Hid (cG a c l w)→Hid (l.length=S)→Calls prog i #[.slice a S c] w fun e b=>e= .returned (.tuple #[.agg (ae N f (d l)).toArray,.int .i64 0])∧Below w.heap.size w b):(tp N t f L G).mK (fun l=>l.length=S) i d fun _=>0:=fun l a c W hs hl=>by have g:=h l a c W hs hl;rw[←hl.out]at g;exact g.mono fun _ b ⟨k,j⟩=>⟨⟨_,k,rfl,B7.flat _ _ _ _ _⟩,j⟩
theorem Gf:nE.mK (fun l=>l.length=416) 66 (rdF aM) (fun _=>0)∧nE.mK (fun l=>l.length=416) 76 (rdF aM) (fun _=>0):=⟨mY rS,mY q_⟩
theorem Gi:nF.mK (fun l=>l.length=112) 71 (rdF bk) (fun _=>0)∧nF.mK (fun l=>l.length=112) 81 (rdF bk) (fun _=>0):=⟨mY Ai,mY yW⟩
theorem Gl:nG.mK (fun l=>l.length=408) 70 cK (fun _=>0)∧nG.mK (fun l=>l.length=408) 80 cK (fun _=>0):=⟨mY fun l a c w hs hl=>D7 l a c w hs.out.row hs.out.cap hs.out.nil hs.out.low hl.out,mY fun l a c w hs hl=>Bx l a c w hs.out hl.out⟩
structure E4 where
 XS:List Int→Nat
 Rd:List Int→Ix×Ix
 h4:∀l,AN l (XS l) (Rd l).1 (Rd l).2
 XR:List Int→Nat
 Nk:List Int→At
 h5:∀l,AM l (XR l) (Nk l).aO (Nk l).fd (Nk l).fs
theorem yg:∃_:E4,True:=by obtain⟨f,i⟩:=Cx (fun l=>Ni l);obtain⟨o,h⟩:=Cx i;obtain⟨n,e⟩:=Cx h;obtain⟨g,d⟩:=Cx (fun l=>Nf l);obtain⟨m,c⟩:=Cx d;obtain⟨k,b⟩:=Cx c;obtain⟨j,a⟩:=Cx b;exact⟨⟨f,fun l=>(o l,n l),e,g,fun l=>⟨m l,k l,j l⟩,a⟩,trivial⟩
theorem Gs (r:E4):nk.mK (fun l=>l.length<4294967296) 68 r.Rd r.XS∧nk.mK (fun l=>l.length<4294967296) 78 r.Rd r.XS:=by
 have h:∀(l:List Int) (N:Nat) (Y:Array Value) (W:World),BS N (r.Rd l).1 (r.Rd l).2 Y W→∃a,Y=a.toArray∧nk.R (r.Rd l) a W∧B7 N a W:=fun l N Y W ⟨s,t,g,⟨b,c,p,n,m⟩,⟨k,d,o,f,e⟩⟩=>by subst p;subst o;exact⟨_,g,⟨_,_,rfl,⟨b,c,rfl,n⟩,⟨k,d,rfl,f⟩⟩,(B7.idx _ _ m).app (B7.idx _ _ e)⟩
 refine⟨fun l b c W hs hl=>?_,fun l b c W hs hl=>?_⟩
 ·exact(Kn l _ _ _ (r.h4 l) b c W hs.out hs.out.low (bg (pD hl.out) (by decide))).mono fun x i ⟨⟨Y,g,_,_,f⟩,e⟩=>by obtain⟨a,rfl,j⟩:=h l _ Y i f;exact⟨⟨a,g,j⟩,e⟩
 ·exact(HH l _ _ _ (r.h4 l) b c W hs.out (bg (pD hl.out) (by decide))).mono fun x i ⟨⟨Y,g,_,_,f⟩,e⟩=>by obtain⟨a,rfl,j⟩:=h l _ Y i f;exact⟨⟨a,g,j⟩,e⟩
theorem Gp (r:E4):mO.mK (fun l=>l.length<4294967296) 69 r.Nk r.XR∧mO.mK (fun l=>l.length<4294967296) 79 r.Nk r.XR:=by
 have f:∀(l:List Int) (N:Nat) (Y:Array Value) (W:World),rC N (r.Nk l).aO (r.Nk l).fd (r.Nk l).fs Y W→∃a,Y=a.toArray∧mO.R (r.Nk l) a W∧B7 N a W:=fun l N Y W ⟨s,e,⟨b,c,m,k,j,d⟩⟩=>by subst m;exact⟨_,e,⟨_,rfl,b,c,rfl,k,j⟩,B7.idx _ _ d⟩
 refine⟨fun l b c W hs hl=>?_,fun l b c W hs hl=>?_⟩
 ·exact(Km l _ _ _ _ (r.h5 l) b c W hs.out hs.out.low hl.out).mono fun x g ⟨⟨Y,e,_,_,d⟩,i⟩=>by obtain⟨a,rfl,h⟩:=f l _ Y g d;exact⟨⟨a,e,h⟩,i⟩
 ·exact(HG l _ _ _ _ (r.h5 l) b c W hs.out hl.out).mono fun x g ⟨⟨Y,e,_,_,d⟩,i⟩=>by obtain⟨a,rfl,h⟩:=f l _ Y g d;exact⟨⟨a,e,h⟩,i⟩
end
def DQ {α:Type} {N:Nat}:∀{b:List (List α)},(∀a∈b,a.length=N)→∀i a,b[i]?=some a→∀j,j<N→b.flatten[i*N+j]?=a[j]?
 |[],_,i,a,h,_,_=>by simp at h
 |c::b,hN,0,a,h,j,d=>by
  have e:c=a:=by simpa using h
  subst e;rw[List.flatten_cons,E8,bY,eY (by rw[hN c (by simp)];exact d)]
 |c::b,hN,i+1,a,h,j,d=>by
  have g:=hN c (by simp);have e:(i+1)*N+j=c.length+(i*N+j):=by rw[g,Nat.succ_mul];omega
  rw[List.flatten_cons,e,fT (by omega),jH];exact DQ (fun x f=>hN x (by simp[f])) i a (by simpa using h) j d
def Kp (k:Nat) (W W':World):Prop:=W.heap.size≤W'.heap.size∧∀b,k≤b→b<W.heap.size→W'.heap[b]?=W.heap[b]?
def Kp.refl (k W):Kp k W W:=⟨cD _,fun _ _ _=>rfl⟩
def Kp.trans {k W f d} (h:Kp k W f) (g:Kp k f d):Kp k W d:=⟨bg h.1 g.1,fun b c a=>(g.2 b c (du a h.1)).trans (h.2 b c a)⟩
def Kp.below {k n W d c} (h:Kp k W d) (g:Below n d c) (hn:W.heap.size≤n):Kp k W c:=⟨bg h.1 g.size,fun b f a=>(g.block b (du a hn)).trans (h.2 b f a)⟩
def Kp.apart {k q W d c} (h:Kp k W d) (g:aL q d c) (i:q<k):Kp k W c:=⟨bg h.1 g.size,fun b f a=>(g.block b (du a h.1) (by omega)).trans (h.2 b f a)⟩
def ZO {base k e c n v f W W'} (h:W.ownsRow base e c v n f) (i:Kp k W W') (p:k≤base):W'.ownsRow base e c v n f:=by
 refine⟨h.1,?_⟩;rcases h.2 with hn|⟨g,b,a,o,m,d,j⟩
 ·exact Or.inl hn
 ·exact Or.inr ⟨g,b,a,o,m,(i.2 g (by omega) (aD d)).trans d,j⟩
def d9.kp {base k v f W W'} (h:d9 base v f W) (d:Kp k W W') (E:k≤base):d9 base v f W':=by
 rcases h with h|⟨g,c,C,B,n,A⟩
 ·exact Or.inl h
 ·refine Or.inr ⟨g,c,C,B,du n d.1,fun i y=>?_⟩
  obtain⟨p,D,s,m,r,q,a⟩:=A i y;refine⟨p,D,(iP (w:=W) (d.2 g (by omega) n)).trans s,⟨fun j u=>?_,m.ok⟩,r,q,fun b o e=>⟨(a b o e).1,du (a b o e).2 d.1⟩⟩;obtain⟨b,o,e,z⟩:=m.cell j u;exact⟨b,o,e,(iP (w:=W) (d.2 b (by have:=(a b o e).1;omega) (a b o e).2)).trans z⟩
section
variable {α:Type} {e:El α} {base k:Nat} {v:Value} {l:List α} {W W':World}
def rf (e:El α) (base:Nat) (v:Value) (l:List α) (W:World):Prop:=∃c:List (List Value),W.ownsRow base e.t e.N v l.length c.flatten∧c.length=l.length∧∀(i:Nat) (a:α),l[i]?=some a→∃d,c[i]?=some d∧e.R a d W∧∀u∈d,∀b,blk u=some b→base≤b∧b<W.heap.size∧v.ownBlock≠some b
theorem rf.nil (e:El α) (base W):rf e base (.slice none 0 0) [] W:=⟨[],⟨by simp,Or.inl ⟨rfl,rfl⟩⟩,rfl,fun i a h=>by simp at h⟩
theorem rf.kp (h:rf e base v l W) (he:e.Ok) (f:Kp k W W') (m:k≤base):rf e base v l W':=by obtain⟨q,p,o,n⟩:=h;refine⟨q,ZO p f m,o,fun i a ha=>?_⟩;obtain⟨r,j,g,d⟩:=n i a ha;exact⟨r,j,he.Cd g fun u c b e=>f.2 b (by have:=(d u c b e).1;omega) (d u c b e).2.1,fun u c b e=>⟨(d u c b e).1,du (d u c b e).2.1 f.1,(d u c b e).2.2⟩⟩
theorem rf.form (h:rf e base v l W):∃a c,v= .slice a l.length c∧(a=none→c=0):=by obtain⟨d,b,_⟩:=h;exact aW b
theorem rf.lis (h:rf e base v l W) (he:e.Ok):qf e l v W:=by
 obtain⟨s,c,f,D⟩:=h.form;obtain⟨I,E,O,m⟩:=h;refine⟨s,c,f,D,fun i a ha=>?_⟩;obtain⟨r,w,b,M⟩:=m i a ha;have C:=(io.1 ha).1;rcases E.2 with⟨_,H⟩|⟨g,L,J,p,H,o,R,Q,P,G⟩
 ·omega
 ·rw[f]at p
  cases p;refine⟨g,0,r,rfl,fun j u d=>?_,b,aD o⟩
  have hl:∀x∈I,x.length=e.N:=fun x y=>by obtain⟨q,z,rfl⟩:=List.mem_iff_getElem.1 y;obtain⟨K,n,F,_⟩:=m q _ (fS (by omega));rw[fS z]at n;cases n;exact he.len F
  have B:j<e.N:=by have:=(io.1 d).1;rw[he.len b]at this;exact this
  have A:i*e.N+j<l.length*e.N:=du (show i*e.N+j<(i+1)*e.N by rw[Nat.succ_mul];omega) (Nat.mul_le_mul_right _ C);rw[bY,br _ _ _ _ _ _ o,←d,←DQ hl i r w j B,←G,nO A];simp
theorem rf.kA {r Q j a d D M Vs T E pos s af O9 x y u g} (h:rf e base v l W) (he:e.Ok) (ht:e.t=E) (Y:prog.underlying T=some (.slice E)) (A:e.R u g W) (hF:B7 base g W) (O:∀w∈g,∀b,blk w=some b→v.ownBlock≠some b) (hb:base≤W.heap.size) (hl:l.length≤1000000) (hx:(a.put (some D) (.slice (some ⟨W.heap.size,0,none⟩) 1 1)).eval x=v) (hD:(a.put (some D) (.slice (some ⟨W.heap.size,0,none⟩) 1 1)).eval (.tmp D)= .slice (some ⟨W.heap.size,0,none⟩) 1 1) (hy:a.eval y= .agg g.toArray) (k':∀L W',rf e base L (l++[u]) W'→Below base W W'→wpList prog r Q j ((a.put (some D) (.slice (some ⟨W.heap.size,0,none⟩) 1 1)).put d L) W'):
 wpList prog r Q (⟨some D,.buildSlice T 1 #[(0,y)],M,pos,af,none⟩::⟨d,.call {callee:= .builtin .append,args:=#[x,.tmp D],argTypes:=#[T,T]},Vs,s,O9,none⟩::j) a W:=by
 subst ht;obtain⟨Et,h1,h2,h3⟩:=h;obtain⟨B,C,ei,Z⟩:=he.byt;have p:=aG he.row
 have hi:(prog.info? e.t).map (fun i=>(i.zero,i.size,i.bytes))=some (some (.agg (zeroOf prog e.t)),e.N,B):=by
  cases n:prog.info? e.t with
  |none=>simp[n]at C
  |some i=>simp[n]at p C ⊢;exact⟨p.1.1,p.1.2,C⟩
 have F:Below W.heap.size W (W.alloc (.cells g.toArray e.t)):=dt;have X:=he.len A;have ef:((([.agg g.toArray]:List Value).map fun v=>v.cells.toList).flatten.toArray:Array Value)=g.toArray:=by simp[Value.cells]
 have S:=bj (ρ:=a.eval) (o:=⟨some D,.buildSlice T 1 #[(0,y)],M,pos,af,none⟩) W T e.t 1 _ rfl Y (.agg (zeroOf prog e.t)) e.N p.1 Z (by have:=he.nle;omega) [.agg g.toArray] rfl (by simp[hy]) (fun w f=>by rw[jJ.1 f];simp[Value.cells,X]);rw[ef]at S;refine aH rfl fun K hK=>bV _ S (hK _ _ ?_);have z:(l.length+1)*B≤140737488355328:=bg (Nat.mul_le_mul (show l.length+1≤1000001 by omega) ei) (by decide);refine aH rfl fun K2 E2=>eN (w0:=W.alloc (.cells g.toArray e.t)) (n0:=base) x (.tmp D) T e.t rfl Y (.agg (zeroOf prog e.t)) e.N B hi p.2 Z base l.length v Et.flatten hx (aU h1 F) ⟨W.heap.size,0,none⟩ 1 1 hD g (by rw[X,NB]) (aE (ak _ _ _ _ rfl)) rfl (he.one A) (by omega) z (by rw[bn];omega) bG (aP _ _) (fun J H g2 b3 z3 o3 q3=>E2 _ _ (k' J H ?_ ((F.mono hb).trans b3)));have V:∀b,b<W.heap.size→v.ownBlock≠some b→H.heap[b]?=W.heap[b]?:=fun b g1 G=>(o3 b (by rw[bn];omega) (fun e=>G e.symm)).trans (F.block b g1)
 have U:∀b,b<W.heap.size→v.ownBlock≠some b→J.ownBlock≠some b:=fun b g1 G e=>by
  rcases q3 with n|n
  ·exact G (n▸e)
  ·rw[n,bn]at e;cases e;omega
 have P:W.heap.size≤H.heap.size:=by have:=b3.size;rw[bn]at this;omega
 refine⟨Et++[g],by rw[Sq,bM,List.flatten_cons,List.flatten_nil,fZ];exact g2,by simp[h2],fun i c q=>?_⟩;by_cases Em:i<l.length
 ·rw[eY Em]at q
  obtain⟨I,k1,k2,m⟩:=h3 i c q;exact⟨I,by rw[eY (by omega)];exact k1,he.Cd k2 fun w f b e=>V b (m w f b e).2.1 (m w f b e).2.2,fun w f b e=>⟨(m w f b e).1,du (m w f b e).2.1 P,U b (m w f b e).2.1 (m w f b e).2.2⟩⟩
 ·have e0:i=l.length:=by have:=(io.1 q).1;rw[bM,List.length_singleton]at this;omega
  subst e0;rw[fT bG,Ar]at q;obtain rfl:u=c:=by simpa using q
  exact⟨g,by rw[fT (by omega),h2,Ar];rfl,he.Cd A fun w f b e=>V b (hF w f b e).2 (O w f b e),fun w f b e=>⟨(hF w f b e).1,du (hF w f b e).2 P,U b (hF w f b e).2 (O w f b e)⟩⟩
end
structure Ej (n N:Nat) (Z:Array Value) (C:List Value) (t:TypeId) (u:Value) (aB:List Nat) (nx:Nat) (l:List Int) (va:Option Addr) (c at' err:Nat) (w W:World):Prop where
 hR:W.heap[n]?=some (.cells Z t (0,0))
 hX:W.heap[n+1]?=some (.cells C.toArray t (0,0))
 hI:xh u nx (n+1+1) l va c at' err W
 hO:W.ownsRow (n+1+1+1) 3 1 u aB.length (aB.map fun n:Nat=>Value.int .i64 (n:Int))
 hN:∀g,u.ownBlock=some g→g<N
 hB:Below n w W
 gb:∀b o,va=some ⟨b,o,none⟩→b<n
 h3:n+3≤N
 hW:N≤W.heap.size
section
variable {n N:Nat} {Z:Array Value} {C:List Value} {t:TypeId} {u:Value} {aB:List Nat} {nx:Nat} {l:List Int} {va:Option Addr} {c at' err:Nat} {w W W':World}
theorem Ej.of (h:dr n Z C.toArray t aB nx l va c at' err w W):∃u,Ej n W.heap.size Z C t u aB nx l va c at' err w W:=by
 obtain⟨u,d,b⟩:=h.hI.ex;refine⟨u,h.hR,h.hX,d,b,fun g e=>?_,h.hB,h.gb,h.size,cD _⟩;rcases b.2 with⟨a,_⟩|⟨k,j,i,a,m,f,_⟩
 ·rw[a]at e;cases e
 ·rw[a]at e;cases e;exact aD f
theorem Ej.rdO (h:Ej n N Z C t u aB nx l va c at' err w W):dr n Z C.toArray t aB nx l va c at' err w W:=⟨h.hR,h.hX,⟨u,h.hI,h.hO⟩,h.hB,h.gb⟩
theorem Ej.turn {p m} (h:Ej n N Z C t u aB nx l va c at' err w W) (i:Below n W W') (a:∀b,b<N→b≠n+1→b≠n+1+1→W'.heap[b]?=W.heap[b]?) (s:W'.heap[n+1]?=some (.cells p.toArray t (0,0))) (hI:W'.heap[n+1+1]?=some (.cells (BT u nx va l.length c at' m) 135 (0,0))):Ej n N Z p t u aB nx l va c at' m w W':=by
 have A:=h.h3;refine⟨(a n (by omega) (by omega) (by omega)).trans h.hR,s,⟨hI,⟨fun j q=>?_,h.hI.row.ok⟩,h.hI.low,h.hI.cap,h.hI.nil,h.hI.Es⟩,?_,h.hN,h.hB.trans i,h.gb,h.h3,bg h.hW i.size⟩
 ·obtain⟨b,o,e,r⟩:=h.hI.row.cell j q
  have:=h.gb b o e;exact⟨b,o,e,(iP (w:=W) (a b (by omega) (by omega) (by omega))).trans r⟩
 ·refine⟨h.hO.1,?_⟩
  rcases h.hO.2 with hn|⟨g,f,d,k,z,y,v⟩
  ·exact Or.inl hn
  ·exact Or.inr ⟨g,f,d,k,z,(a g (h.hN g (by rw[k];rfl)) (by omega) (by omega)).trans y,v⟩
theorem Ej.later (h:Ej n N Z C t u aB nx l va c at' err w W) (a:Below N W W'):Ej n N Z C t u aB nx l va c at' err w W':=by have e:=h.h3;exact h.turn (a.mono (by omega)) (fun b d _ _=>a.block b d) ((a.block _ (by omega)).trans h.hX) ((a.block _ (by omega)).trans h.hI.cells)
theorem Ej.rj {d} (h:Ej n N Z C t u aB nx l va c at' err w W) (a:aL (n+1) W W') (e:W'.heap[n+1]?=some (.cells d.toArray t (0,0))):Ej n N Z d t u aB nx l va c at' err w W':=by have i:=h.h3;have hW:=h.hW;exact h.turn (a.below (aP n W) (by omega) (by omega)) (fun b g f _=>a.block b (by omega) f) e ((a.block _ (by omega) (by omega)).trans h.hI.cells)
theorem Ej.tr {Q} (h:Ej n N Z C t u aB nx l va c at' err w W) {er:Nat} {x:Int} (e:x=(er:Int)) (k:∀W',Hid (Ej n N Z C t u aB nx l va c at' (if err=0 then er else err) w W')→aL (n+1+1) W W'→Q (.returned (.tuple #[])) W'):Calls prog 63 #[.pointer (some ⟨n+1+1,0,none⟩),.int .i64 x] W Q:=by
 subst e;have i:=h.h3;have hW:=h.hW
 exact(C7 (n+1+1) l va c at' err er W h.hI).mono fun _ W' ⟨d,f,a⟩=>by rw[d];exact k W' (h.turn (a.below (aP n W) (by omega) (by omega)) (fun b g _ d=>a.block b (by omega) d) ((a.block _ (by omega) (by omega)).trans h.hX) f.cells) a
theorem Ej.dS (h:Ej n N Z C t u aB nx l va c at' err w W):W.cell? ⟨n+1+1,4,none⟩=some (.int .i64 (err:Int)):=dV h.hI.cells 4
end
def kA {i Q e a d s pos C x y b k c v l m o W} (h:bc b v l W) (hs:a.eval x=v) (w:a.eval y= .slice o k c) (p:cG o c m W) (z:m.length=k) (j:l.length+k≤70368744177664) (A:b≤W.heap.size) (u:∀f g n,(f=none→g=0)→bc b (.slice f (l++m).length g) (l++m) n→Below b W n→b≤n.heap.size→wpList prog i Q e (a.put d (.slice f (l++m).length g)) n):
 wpList prog i Q (⟨d,.call {callee:= .builtin .append,args:=#[x,y],argTypes:=#[39,39]},s,pos,C,none⟩::e) a W:=by
 subst z;refine cB (w0:=W) rfl x y rfl b l m v hs h o c w p.row j A p.nil (aP _ _) fun F D q B r=>?_;obtain⟨f,g,rfl,hn⟩:=aW q;exact u f g D hn q B r
def d9.get {b k v j d W} (h:d9 b (.slice j k v) d W) {i} (l:i<d.length):∃g a f,j=some ⟨g,0,none⟩∧W.cell? ⟨g,i,none⟩=some (.slice a (d.getD i []).length f)∧cG a f (d.getD i []) W:=by
 rcases h with⟨rfl,_⟩|⟨g,c,u,y,w,s⟩
 ·exact absurd l (by simp)
 ·obtain⟨a,f,r,q,p,n,m⟩:=s i l
  cases u;exact⟨g,a,f,rfl,r,q,p,n,fun b o e=>(m b o e).2⟩
def d9.form {b v a W} (h:d9 b v a W):∃d c,v= .slice d a.length c:=by
 rcases h with⟨rfl,h⟩|⟨g,c,h,_⟩
 ·exact⟨none,0,h⟩
 ·exact⟨_,c,h⟩
def TW (a) {k} (b:k<a.length):(layK (4*a.length) (List.replicate a.length 0) a (k+1)).1=(layK (4*a.length) (List.replicate a.length 0) a k).1++jB ((4*a.length+(a.take k).flatten.length:Nat):Int):=by have h:=(mR a (4*a.length) a.length k (by omega)).1;rw[tJ a k (by omega)]at h;simp only[layK,show (List.replicate a.length 0).getD k 0=0 by simp[List.getD,b],aj,h]
def Qq (a:List (List Int)) {k} (b:k<a.length):(a.take (k+1)).flatten=(a.take k).flatten++a.getD k []:=by rw[lU a [] k b];simp
def Um (a):lZ a=(layK (4*a.length) (List.replicate a.length 0) a a.length).1++(a.take a.length).flatten:=by have h:=(mR a (4*a.length) a.length a.length bG).1;rw[tJ a a.length bG]at h;unfold lZ eS;rw[vK,mS,h]
def PX (a v b w) (Q:d9 b v a w) (hn:a.length≤1000) (hl:a.flatten.length≤1000000000):
 Calls prog 43 #[v] w fun e w'=>(∃l c,e= .returned (.slice l (lZ a).length c)∧(l=none→c=0)∧bc w.heap.size (.slice l (lZ a).length c) (lZ a) w')∧Below w.heap.size w w':=by
 obtain⟨l,c,rfl⟩:=Q.form;have hP:=aa Q;clear Q;have P:=aa (fun k n=>TW a (k:=k) n);have I:=aa (fun k n=>Qq a (k:=k) n);have H8:=aa (fun k (n:k≤a.length)=>show (layK (4*a.length) (List.replicate a.length 0) a k).1.length=4*k from(mR a _ _ k n).2);have f:=aa (fun k=>bg (sr a k) hl);have T:=aa (show (layK (4*a.length) (List.replicate a.length 0) a 0).1=[]from rfl);have s:=aa (show (a.take 0).flatten=[]from rfl);rw[Um];generalize y:(fun k=>(layK (4*a.length) (List.replicate a.length 0) a k).1)=J at*;have F:=aa (fun k=>congrFun y k);clear y;simp only[F.out]at P H8 T ⊢;generalize hG:(fun k=>(a.take k).flatten)=G at*;have VP:=aa (fun k=>congrFun hG k);clear hG;simp only[VP.out]at P I f s ⊢;clear F VP
 go_enter func43,ntmps43
 go_wp2
 go_loopw [3,4,5] (fun o m i wr=>∃k:Nat,k≤a.length∧i= .int .i64 (k:Int)∧m= .int .i64 ((4*a.length+(G k).length:Nat):Int)∧(∃l c,o= .slice l (J k).length c)∧bc w.heap.size o (J k) wr∧Below w.heap.size w wr) (fun _ _ i _=>a.length-(intOf i).toNat)
 case atStart=>refine⟨0,by omega,rfl,by rw[s.out];go_num,⟨none,0,by rw[T.out];rfl⟩,by rw[T.out];exact bc.nil _ _,aP _ _⟩
 case round=>
  obtain⟨k,n,rfl,rfl,⟨M,Y,rfl⟩,C,z⟩:=hrel;have u:=aa C;have j:=aa z;have fL:=z.size;have E:=aa (H8.out k n);have hgk:=f.out k;clear C z;by_cases d:k<a.length
  ·obtain⟨g,L,X,rfl,A,H⟩:=hP.out.get d
   have B:=aa A;have e1:=aa (show J (k+1)=J k++jB (4*(a.length:Int)+((G k).length:Int)) by rw[P.out k d];simp);have D:=aa (I.out k d);have KP:=f.out (k+1);have Eg:=KP;rw[D.out,bM]at Eg;have O:decide ((k:Int)<(a.length:Int))=true:=by simp;omega
   clear A H;generalize a.getD k []=p at*
   go_wp2_with (first
    |(with_reducible refine(FJ _ _).mono ?_);rintro e W ⟨rfl,rfl⟩
    |refine dy 39 ?_;refine kA (u.out.later dt) rfl rfl (cG.b_ (bc.new bG _ (by rw[cC];decide) (ak _ _ _ _ rfl)) (rt _) (fun e=>by cases e)) (cC _) (by have:=E.out;omega) (by simp;omega) (fun N Z W U r q S=>?_);clear U;have R:=aa r;have K:=aa ((j.out.alloc fL _).trans q);clear r q S
    |refine aC 114 ?_;refine ab (by rfl) _ (ai _ 114 39 _ _ rfl cV 1 dv g 0 a.length c rfl .i64 k rfl d k (by omega)) ?_
    |refine ag 39 ?_;refine dq (v:=(.slice L p.length X)) ((K.out.cell (iE B.out)).trans B.out) bF ?_ rfl rfl rfl rfl)
   refine⟨⟨k+1,d,by go_num,by rw[D.out,bM];go_num,⟨N,Z,by rw[e1.out,bM]⟩,?_,K.out⟩,by simp[intOf];omega⟩;rw[e1.out];have h:=R.out;rw[bM]at h;exact h
  ·have O:decide ((k:Int)<(a.length:Int))=false:=by simp;omega
   have V:k=a.length:=by omega
   subst V;go_wp2;have y:=aa (show J a.length=J a.length++G 0 by rw[s.out,fZ])
   go_loopw [3,6] (fun o i wr=>∃k:Nat,k≤a.length∧i= .int .i64 (k:Int)∧(∃l c,o= .slice l (J a.length++G k).length c)∧bc w.heap.size o (J a.length++G k) wr∧Below w.heap.size w wr) (fun _ i _=>a.length-(intOf i).toNat)
   case atStart=>exact⟨0,by omega,rfl,⟨M,Y,by rw[←y.out]⟩,by rw[←y.out];exact u.out,j.out⟩
   case round=>
    obtain⟨k,n,rfl,⟨M,Y,rfl⟩,C,z⟩:=hrel;replace u:=aa C;clear j y;have j:=aa z;clear C z;by_cases d:k<a.length
    ·obtain⟨g,L,X,rfl,A,H⟩:=hP.out.get d
     have B:=aa A;have hs:=aa (H.later j.out);have D:=aa (show J a.length++G (k+1)=(J a.length++G k)++a.getD k [] by rw[I.out k d,dA]);have hm:=aa (show (J a.length++G k).length≤1000004000 by have:=f.out k;have:=E.out;rw[bM];omega);have hq:=f.out (k+1);rw[I.out k d,bM]at hq;have O:decide ((k:Int)<(a.length:Int))=true:=by simp;omega
     clear A H;generalize a.getD k []=p at*;generalize J a.length++G k=o at*
     go_wp2_with (first
      |refine aC 114 ?_;refine ab (by rfl) _ (ai _ 114 39 _ _ rfl cV 1 dv g 0 a.length c rfl .i64 k rfl d k (by omega)) ?_
      |refine ag 39 ?_;refine dq (v:=(.slice L p.length X)) ((j.out.cell (iE B.out)).trans B.out) bF ?_ rfl rfl rfl rfl
      |refine dy 39 ?_;refine kA u.out rfl rfl hs.out rfl (by have:=hm.out;omega) j.out.size (fun N Z W U r q S=>?_);clear U;have R:=aa r;have K:=aa (j.out.trans q);clear r q S)
     refine⟨?_,by simp[intOf];omega⟩
     (repeat apply Exists.intro)
     refine⟨⟨k+1,d,by go_num,⟨N,Z,by rw[D.out,bM]⟩,?_,K.out⟩,rfl⟩;rw[D.out];have h:=R.out;rw[bM]at h;exact h
    ·have O:decide ((k:Int)<(a.length:Int))=false:=by simp;omega
     have V:k=a.length:=by omega
     subst V;have hf:=aa (aW u.out);go_wp2;obtain⟨eR,c',r,q⟩:=hf.out;cases r;exact cA rfl _ rfl rfl ⟨⟨M,Y,rfl,q,u.out⟩,j.out⟩
def pt (k:Option Nat) (m:Nat) (P:List Int):Nat:=match k with|some s=>(jt P.length s m).toNat|none=>lR P m
def cE (k:Option Nat) (m:Nat) (P:List Int):List (List Int):=match k with|some s=>mQ P s m|none=>kQ P m
def firstE (er:List Int→Nat):List (List Int)→Nat
 |[]=>0
 |p::ps=>if er p=0 then firstE er ps else er p
def wP (er:List Int→Nat) (x:List Int):∀a,firstE er (a++[x])=if firstE er a=0 then er x else firstE er a
 |[]=>by simp only[List.nil_append,firstE,pC];split<;>simp_all
 |p::a=>by rw[List.cons_append,firstE,firstE,wP er x a];split<;>simp_all
def kx (k:Option Nat) (m:Nat) (er:List Int→Nat) (P:List Int) (q:Nat):Nat:=if pt k m P=0 then firstE er ((cE k m P).take q)else pt k m P
def UX {k m P} (h:pt k m P≠0):cE k m P=[]:=by
 cases k with
 |none=>
  unfold cE pt at*;simp only at h ⊢;unfold kQ;split
  ·rfl
  ·first|rfl|rw[an h]
 |some s=>unfold cE pt at*;simp only at h ⊢;unfold mQ;rw[an (fun e=>h (by rw[e];rfl))]
def Qc (k m er P):kx k m er P 0=pt k m P:=by
 unfold kx;split
 ·rename_i h;rw[h];rfl
 ·rfl
def Qd {k m er P q} (a:q<(cE k m P).length):(if kx k m er P q=0 then er ((cE k m P).getD q [])else kx k m er P q)=kx k m er P (q+1):=by
 have b:pt k m P=0:=qE fun h=>by rw[UX h]at a;exact absurd a (by simp)
 unfold kx;rw[aj b,aj b,lU _ [] q a,wP]
def Gu (L s m):jt L s m=((jt L s m).toNat:Int):=by
 unfold jt;split
 ·rfl
 ·split<;>rfl
def dr.tr {n:Nat} {Z C:Array Value} {t} {aB:List Nat} {nx:Nat} {l:List Int} {va:Option Addr} {c at':Nat} {w W Q} (h:dr n Z C t aB nx l va c at' 0 w W) {er:Nat} {x:Int} (a:x=(er:Int)) (k:∀W',Hid (dr n Z C t aB nx l va c at' er w W')→aL (n+1+1) W W'→Q (.returned (.tuple #[])) W'):Calls prog 63 #[.pointer (some ⟨n+1+1,0,none⟩),.int .i64 x] W Q:=(h.fail er er x a (aj rfl)).mono fun _ W' ⟨f,d,b⟩=>by rw[f];exact k W' d b
section
variable {α:Type} {e:El α} {ck:Option Nat} {m:Nat} {er:List Int→Nat} {rd:List Int→α} {B:List Int} {n N p:Nat} {Z:Array Value} {C:List Value} {t:TypeId} {aB:List Nat} {nx:Nat} {l:List Int} {va:Option Addr} {c at':Nat} {W0 w W W':World} {q z:Nat} {v u:Value}
structure B6 (e:El α) (ck:Option Nat) (m:Nat) (er:List Int→Nat) (rd:List Int→α) (B:List Int) (n N p:Nat) (Z:Array Value) (C:List Value) (t:TypeId) (aB:List Nat) (nx:Nat) (l:List Int) (va:Option Addr) (c at':Nat) (W0 w:World) (q:Nat) (v:Value) (z:Nat) (u:Value) (W:World):Prop where
 hK:Ej n N Z (C.set p v) t u aB nx l va c at' z w W
 hO:rf e N v (((cE ck m B).take q).map rd) W
 hP:Kp (n+3) W0 W
 hz:z=kx ck m er B q
 hp:p<C.length
theorem B6.begin (h:dr n Z C.toArray t aB nx l va c at' (pt ck m B) w W) (b:C[p]?=some (.slice none 0 0)):∃u,B6 e ck m er rd B n W.heap.size p Z C t aB nx l va c at' W w 0 (.slice none 0 0) (pt ck m B) u W:=by
 obtain⟨u,f⟩:=Ej.of h;obtain⟨a,d⟩:=io.1 b;have e:C.set p (.slice none 0 0)=C:=by rw[←d];exact List.set_getElem_self a
 exact⟨u,by rw[e];exact f,rf.nil _ _ _,Kp.refl _ _,(Qc _ _ _ _).symm,a⟩
theorem B6.size (h:B6 e ck m er rd B n N p Z C t aB nx l va c at' W0 w q v z u W):n+3≤N∧N≤W.heap.size:=⟨h.hK.h3,h.hK.hW⟩
theorem B6.later (h:B6 e ck m er rd B n N p Z C t aB nx l va c at' W0 w q v z u W) (he:e.Ok) (a:Below W.heap.size W W'):B6 e ck m er rd B n N p Z C t aB nx l va c at' W0 w q v z u W':=⟨h.hK.later (a.mono h.hK.hW),h.hO.kp he ((Kp.refl N W).below a bG) bG,h.hP.below a h.hP.1,h.hz,h.hp⟩
abbrev PgI (e:El α) (ck:Option Nat) (m:Nat) (er:List Int→Nat) (rd:List Int→α) (B:List Int) (n N p:Nat) (Z:Array Value) (C:List Value) (t:TypeId) (aB:List Nat) (nx:Nat) (l:List Int) (va:Option Addr) (c at':Nat) (W0 w:World):Prop:=∃I:Value→World→Prop,I (.int .i64 0) W0∧(∀i a,I i a→∃q v z u,q≤(cE ck m B).length∧i= .int .i64 (q:Int)∧B6 e ck m er rd B n N p Z C t aB nx l va c at' W0 w q v z u a)∧(∀i q v z u a,i= .int .i64 ((q+1:Nat):Int)→q<(cE ck m B).length→B6 e ck m er rd B n N p Z C t aB nx l va c at' W0 w (q+1) v z u a→I i a)
theorem B6.inv (er:List Int→Nat) (rd:List Int→α) (e:El α) (h:dr n Z C.toArray t aB nx l va c at' (pt ck m B) w W) (d:C[p]?=some (.slice none 0 0)):PgI e ck m er rd B n W.heap.size p Z C t aB nx l va c at' W w:=by obtain⟨u,a⟩:=B6.begin (e:=e) (er:=er) (rd:=rd) h d;exact⟨fun i b=>∃q v z u,q≤(cE ck m B).length∧i= .int .i64 (q:Int)∧B6 e ck m er rd B n W.heap.size p Z C t aB nx l va c at' W w q v z u b,⟨0,_,_,u,qB _,rfl,a⟩,fun _ _ h=>h,fun _ q v z u _ a g f=>⟨q+1,v,z,u,g,a,f⟩⟩
structure VV (e:El α) (rd:List Int→α) (N:Nat) (v:Value) (x:List Int) (b:Nat) (cs:List Value) (W:World):Prop where
 hi:Rc e (rd x) b 0 cs W
 hF:B7 N cs W
 hv:∀y∈cs,∀b,blk y=some b→v.ownBlock≠some b
 hb:N≤b∧b<W.heap.size
theorem Te {a:Nat} {e:TypeId} {f n b:Nat} {v:Value} {j:List Value} {W:World} (h:W.ownsRow a e f v n j) (d:v.ownBlock=some b):b<W.heap.size:=by
 rcases h.2 with⟨rfl,_⟩|⟨g,o,k,rfl,r,i,_⟩
 ·cases d
 ·cases d;exact aD i
theorem VV.of {x d a f} (h:B6 e ck m er rd B n N p Z C t aB nx l va c at' W0 w q v z u W) (he:e.Ok) (A:e.R (rd x) d a) (hF:B7 W.heap.size d a) (s:Below W.heap.size W a) (o:Rc e (rd x) a.heap.size 0 d f) (r:Below a.heap.size a f) (k:a.heap.size<f.heap.size):VV e rd N v x a.heap.size d f:=by
 have F:=h.size;have E:=s.size;have D:=r.size;refine⟨o,fun y g b i=>?_,fun y g b i e=>?_,by omega,k⟩
 ·have:=hF y g b i;omega
 ·obtain⟨G,j,_⟩:=h.hO
  have:=Te j e;have:=(hF y g b i).1;omega
theorem VV.kp {x b k o} (h:VV e rd N v x b o W) (he:e.Ok) (f:Kp k W W') (H:k≤N):VV e rd N v x b o W':=by obtain⟨⟨G,F,E,D⟩,g,A,i⟩:=h;refine⟨⟨fun j s=>?_,he.Cd F fun y a b d=>f.2 b (by have:=(g y a b d).1;omega) (g y a b d).2,E,D⟩,fun y a b d=>⟨(g y a b d).1,du (g y a b d).2 f.1⟩,A,i.1,du i.2 f.1⟩;exact fun r=>(iP (w:=W) (f.2 b (by omega) i.2)).trans (G j s r)
theorem B6.tr {Q} (h:B6 e ck m er rd B n N p Z C t aB nx l va c at' W0 w q v z u W) (he:e.Ok) (o:q<(cE ck m B).length) {b f x} (i:(cE ck m B).getD q []=x) (j:VV e rd N v x b f W) {y} (g:y=(er x:Int)) (k:∀W' d,Hid (Ej n N Z (C.set p v) t u aB nx l va c at' d w W'∧rf e N v (((cE ck m B).take q).map rd) W'∧Kp (n+3) W0 W'∧d=kx ck m er B (q+1))→Hid (VV e rd N v x b f W')→Q (.returned (.tuple #[])) W'):Calls prog 63 #[.pointer (some ⟨n+1+1,0,none⟩),.int .i64 y] W Q:=by have s:=h.size;refine h.hK.tr g fun W' r a=>k W' _ ⟨r.out,h.hO.kp he ((Kp.refl (n+3) W).apart a (by omega)) (by omega),h.hP.apart a (by omega),?_⟩ (j.kp he ((Kp.refl (n+3) W).apart a (by omega)) (by omega));rw[←Qd o,←h.hz,i]
end
section
variable {P:List Int} {va:Option Addr} {c:Nat} {W:World} {Q:Ending→World→Prop}
theorem Yj {j} (o:Oe j) {s m} {A:List Int→Prop} (_:∀x∈cE (some s) m P,A x) (hs:cG va c P W) (hl:P.length≤70368744170000) {g h} (f:g=(s:Int)) (b:h=(m:Int)) (i:(1≤s∧s≤65536)∧m≤1000) (k:∀W' v,Hid (d9 W.heap.size v (cE (some s) m P) W')→Below W.heap.size W W'→Q (.returned (.tuple #[v,.int .i64 (pt (some s) m P:Int)])) W'):Calls prog j #[.slice va P.length c,.int .i64 g,.int .i64 h] W Q:=by subst f;subst b;exact(o s m P va c W hs hl i.1 i.2).mono fun _ _ ⟨⟨v,f,b⟩,r⟩=>by rw[f,Gu];exact k _ v b r
theorem I1 {g} (i:Oc g) {m} {r:List Int→Prop} (_:∀x∈cE none m P,r x) (hs:cG va c P W) (hl:P.length≤70368744170000) {f} (b:f=(m:Int)) (h:m≤1000) (k:∀W' v,Hid (d9 W.heap.size v (cE none m P) W')→Below W.heap.size W W'→Q (.returned (.tuple #[v,.int .i64 (pt none m P:Int)])) W'):Calls prog g #[.slice va P.length c,.int .i64 f] W Q:=by subst b;exact(i P m va c W hs hl h).mono fun _ _ ⟨⟨v,o,b⟩,j⟩=>by rw[o];exact k _ v b j
end
section
variable {ops:Array Oper} {Q:Exit→Act→World→Prop} {rest:List Oper} {a:Act} {d:Option Tmp} {D:Tmp} {ty T E:TypeId} {pos pos':String} {af O9:Array Edge} {x y:Operand} {W:World} {α:Type} {e:El α} {u:α} {cs:List Value}
theorem ahs (he:e.Ok) (j:e.t=E) (b:e.R u cs W) (h:(a.put (some D) (.pointer (some ⟨W.heap.size,0,none⟩))).eval y= .agg cs.toArray)
 (k:∀W',Rc e u W.heap.size 0 cs W'→Below W.heap.size W W'→W.heap.size<W'.heap.size→wpList prog ops Q rest ((a.put (some D) (.pointer (some ⟨W.heap.size,0,none⟩))).put d undef) W') (i:(a.put (some D) (.pointer (some ⟨W.heap.size,0,none⟩))).eval (.tmp D)= .pointer (some ⟨W.heap.size,0,none⟩)):wpList prog ops Q (⟨some D,.alloc E,T,pos,af,none⟩::⟨d,.store E (.tmp D) y,ty,pos',O9,none⟩::rest) a W:=by
 subst j;have g:Below W.heap.size W (W.alloc (.cells cs.toArray e.t)):=dt;have f:cs.toArray.size=e.N:=by rw[cI,he.len b]
 refine aw rfl rfl e.t D y rfl rfl rfl cs.toArray i h (zeroOf prog e.t) ?_ ?_ (he.all b) (k _ ⟨aE (ak _ _ _ _ rfl),he.Yy b g,he.len b,he.all b⟩ g (by rw[bn];omega))
 ·rw[f];exact(aG he.row).1
 ·rw[f];exact(aG he.row).2
theorem Il {n p} {C:List Value} {t v} (i:W.heap[n]?=some (.cells C.toArray t (0,0))) (h:p<C.length) (j:(prog.info? T).map (·.size)=some 1) (g:simpleV v=true) (f:a.eval x= .pointer (some ⟨n,p,none⟩)) (b:a.eval y=v) (k:∀W',W'.heap[n]?=some (.cells (C.set p v).toArray t (0,0))→aL n W W'→wpList prog ops Q rest (a.put d undef) W'):wpList prog ops Q (⟨d,.store T x y,ty,pos,af,none⟩::rest) a W:=aH rfl fun K o=>bt T x y rfl n p f v b g j C.toArray t i (by simpa using h) fun W' s r=>o _ _ (k W' (by rw[s,IK]) r)
end
def rh (n:Nat) (u:Nat→Value):Act:={tmps:=#[u 0,u 1,.pointer (some ⟨n,0,none⟩),u 3,.pointer (some ⟨n+1,0,none⟩),.pointer (some ⟨n+1+1,0,none⟩),u 6,u 7,u 8,u 9,u 10,u 11,u 12,u 13,u 14,u 15,u 16,u 17,u 18,u 19,u 20,u 21,u 22,u 23,u 24,u 25,u 26,u 27,u 28,u 29,u 30,u 31,u 32,u 33,u 34,u 35,u 36,u 37,u 38,u 39,u 40,u 41,u 42,u 43,u 44,u 45,u 46,u 47,u 48,u 49,u 50,u 51,u 52,u 53,u 54,u 55,u 56,u 57,u 58,u 59,u 60,u 61,u 62,u 63,u 64,u 65,u 66,u 67,u 68,u 69,u 70,u 71,u 72,u 73,u 74,u 75,u 76,u 77,u 78,u 79,u 80,u 81,u 82,u 83,u 84,u 85,u 86,u 87,u 88,u 89,u 90,u 91,u 92,u 93,u 94,u 95,u 96,u 97,u 98,u 99,u 100,u 101,u 102,u 103,u 104,u 105,u 106,u 107,u 108,u 109,u 110,u 111,u 112,u 113,u 114,u 115,u 116,u 117,u 118,u 119,u 120,u 121,u 122,u 123,u 124,u 125,u 126,u 127,u 128,u 129,u 130,u 131,u 132,u 133,u 134,u 135,u 136,u 137,u 138,u 139,u 140,u 141,u 142,u 143,u 144,u 145,u 146,u 147,u 148,u 149,u 150,u 151,u 152,u 153,u 154,u 155,u 156,u 157,u 158,u 159,u 160,u 161,u 162,u 163,u 164,u 165,u 166,u 167,u 168,u 169,u 170,u 171,u 172,u 173,u 174,u 175,u 176,u 177,u 178,u 179,u 180,u 181,u 182,u 183,u 184,u 185,u 186,u 187,u 188,u 189,u 190,u 191,u 192,u 193,u 194,u 195,u 196,u 197,u 198,u 199,u 200,u 201,u 202,u 203,u 204,u 205,u 206,u 207,u 208,u 209,u 210,u 211,u 212,u 213,u 214,u 215,u 216,u 217,u 218,u 219,u 220,u 221,u 222,u 223,u 224,u 225,u 226,u 227,u 228,u 229,u 230,u 231,u 232,u 233,u 234,u 235,u 236,u 237,u 238,u 239,u 240,u 241,u 242,u 243,u 244,u 245,u 246,u 247,u 248,u 249,u 250,u 251,u 252,u 253,u 254,u 255,u 256,u 257,u 258,u 259,u 260,u 261,u 262,u 263,u 264,u 265,u 266,u 267,u 268,u 269,u 270,u 271,u 272,u 273,u 274,u 275,u 276,u 277,u 278,u 279,u 280,u 281,u 282],defers:=[]}
section
variable {α:Type} {e:El α} {ck:Option Nat} {m:Nat} {er:List Int→Nat} {rd:List Int→α} {B x:List Int} {n N p:Nat} {Z:Array Value} {C:List Value} {t:TypeId} {aB:List Nat} {nx:Nat} {l:List Int} {va:Option Addr} {c at':Nat} {W0 w W W':World} {q z:Nat} {v v' u:Value}
theorem B6.next (b:Ej n N Z ((C.set p v).set p v') t u aB nx l va c at' z w W) (k:rf e N v' (((cE ck m B).take q).map rd++[rd x]) W) (j:Kp (n+3) W0 W) (f:z=kx ck m er B (q+1)) (h:q<(cE ck m B).length) (g:(cE ck m B).getD q []=x) (i:p<C.length):B6 e ck m er rd B n N p Z C t aB nx l va c at' W0 w (q+1) v' z u W:=⟨by rw[List.set_set]at b;exact b,by rw[lU _ [] q h,g,kN];exact k,j,f,i⟩
theorem B6.done {Q:Exit→Act→World→Prop} {A:Act} {b:World} (o:∀(j:Nat→Value) v' i W',b.heap.size≤i→dr n Z (C.set p v').toArray t aB nx l va c at' (kx ck m er B (cE ck m B).length) w W'→rf e i v' ((cE ck m B).map rd) W'→Kp (n+3) b W'→Q .normal (rh n j) W')
 (h:B6 e ck m er rd B n W0.heap.size p Z C t aB nx l va c at' W0 w (cE ck m B).length v z u W) (f:Kp (n+3) b W0) (r:A=rh n fun k=>A.tmps.getD k undef):Q .normal A W:=by
 have g:=o (fun k=>A.tmps.getD k undef) v W0.heap.size W f.1 (by rw[←h.hz];exact h.hK.rdO) (by have:=h.hO;rw[gC]at this;exact this) (f.trans h.hP);rw[←r]at g;exact g
end
def El.mK.mJ {α:Type} {e:El α} {P:List Int→Prop} {b} {rd:List Int→α} {er:List Int→Nat} {Q} {va:Option Addr} {c} {l:List Int} {W} (h:e.mK P b rd er) (hs:Hid (cG va c l W)) (f:Hid (P l)) (k:∀W' cs,Hid (e.R (rd l) cs W')→Hid (B7 W.heap.size cs W')→Hid (Below W.heap.size W W')→Q (.returned (.tuple #[.agg cs.toArray,.int .i64 (er l:Int)])) W'):Calls prog b #[.slice va l.length c] W Q:=(h l va c W hs f).mono fun _ W' ⟨⟨cs,o,j,i⟩,g⟩=>by rw[o];exact k W' cs j i g
def Td {α:Type} {e:El α} {b v} {l:List α} {W} (h:rf e b v l W):∃va k c,v= .slice va k c:=by obtain⟨va,c,f,_⟩:=h.form;exact⟨va,_,c,f⟩
def JU (q:Nat):decide ((q:Int)<(q:Int))=false:=by simp
def Dx {α:Type} {ck:Option Nat} {m b k F q} {B:List Int} {j:Option Addr} {W} {P:List Int→Prop} (h:d9 b (.slice j k F) (cE ck m B) W) (i:q<(cE ck m B).length) (o:∀x∈cE ck m B,P x) (G:(cE ck m B).length≤1000) (rd:List Int→α):∃g va f x,j=some ⟨g,0,none⟩∧Hid (W.cell? ⟨g,q,none⟩=some (.slice va x.length f))∧Hid (cG va f x W)∧Hid ((cE ck m B).getD q []=x)∧Hid (P x)∧(((cE ck m B).take q).map rd).length≤1000000∧decide ((q:Int)<((cE ck m B).length:Int))=true:=by obtain⟨g,va,f,A,s,r⟩:=h.get i;exact⟨g,va,f,_,A,s,r,rfl,o _ (by rw[Ff,fS i];exact oI i),by rw[jK,cf];omega,by simp;omega⟩
def dr.wE {n Z C t aB nx l va c at' w W Q} (h:dr n Z C t aB nx l va c at' 0 w W) (A:nx+1<aB.length) (F:aB.length≤1000) {a b} (ha:aB.getD nx 0=a) (H:aB.getD (nx+1) 0=b) (J:a≤b) (G:b≤l.length) (s:0<l.length) (I:at'≤1000000) {P} (g:P=(l.drop a).take (b-a)) (k:∀W' f r,Hid (cG f r P W'∧dr n Z C t aB (nx+1) l va c (at'+4) 0 w W'∧Kp (n+3) W W')→Q (.returned (.slice f P.length r)) W'):Calls prog 64 #[.pointer (some ⟨n+1+1,0,none⟩)] W Q:=by
 have hl:P.length=b-a:=by rw[g,cf,bJ];omega
 rw[hl]at k
 exact(yt (n+1+1) l va c at' W h.hI A F a b ha H J G s I).mono fun _ W' ⟨⟨U,o,O,M,L,S,K⟩,j,i⟩=>by rw[M];exact k W' _ O ⟨⟨by rw[g];exact K,(fun e=>by cases e),by rw[hl];exact L,fun V R e=>by cases e;have:=j.size;omega⟩,h.step j i,(Kp.refl _ _).apart i (by omega)⟩
def PG (k p f g j:Nat) (ck:Option Nat) (m:Nat):Prop:=∀(F:Func) (_:F=Tryz.f11) (Q:Exit→Act→World→Prop) (α:Type) (e:El α) (P:List Int→Prop) (rd:List Int→α) (er:List Int→Nat) (n:Nat) (Z:Array Value) (C:List Value) (t:TypeId) (aB:List Nat) (nx:Nat) (l:List Int) (va:Option Addr) (c at' a b:Nat) (w W:World) (u:Nat→Value),
 e.Ok→e.t=g→prog.underlying f=some (.slice g)→(prog.info? f).map (·.size)=some 1→e.mK P j rd er→(∀x∈cE ck m ((l.drop a).take (b-a)),P x)→(cE ck m ((l.drop a).take (b-a))).length≤1000→p<C.length→C[p]?=some (.slice none 0 0)→nx+1<aB.length→aB.length≤1000→aB.getD nx 0=a→aB.getD (nx+1) 0=b→a≤b→b≤l.length→0<l.length→l.length<4294967296→at'≤1000000→dr n Z C.toArray t aB nx l va c at' 0 w W→
 (∀i v' h W',W.heap.size≤h→dr n Z (C.set p v').toArray t aB (nx+1) l va c (at'+4) (kx ck m er ((l.drop a).take (b-a)) (cE ck m ((l.drop a).take (b-a))).length) w W'→rf e h v' ((cE ck m ((l.drop a).take (b-a))).map rd) W'→Kp (n+3) W W'→Q .normal (rh n i) W')→(pq k F).wp prog Q (rh n u) W
def pG:PG 10 193 29 74 66 (some 416) 2∧PG 21 194 30 86 68 none 1∧PG 32 195 31 90 69 none 4∧PG 43 196 32 98 70 (some 408) 2∧PG 54 197 33 103 71 (some 112) 2:=by
 refine⟨?_,?_,?_,?_,?_⟩<;>
 (intro F hF Q α e P rd er n Z C t aB nx l va c at' a b w W u he O xa En R' S N9 L gu K8 EZ ha s HZ nV fq hl9 kO cc R
  obtain⟨B,M⟩:∃B,B=(l.drop a).take (b-a):=⟨_,rfl⟩;have hS:=aa cc;have hC:=aa gu;have hu:=aa xa;have hi:=aa En;have Q5:=aa R';have hBB:=aa M;have ku:=aa ha;have jq:=aa s;rw[←M]at S N9 R;have xe:B.length≤70368744170000:=by rw[M,cf,bJ];omega
  have U:=aa S;have gQ:=aa R;have An:=aa L;clear cc gu xa En R' S R M ha s;subst hF;simp only[pq,pc,pcAt,headAt,Tryz.f11,reduceIte,Nat.reduceEqDiff,Nat.reduceBEq,dR];unfold rh
  go_wp2_with (first
   |(with_reducible refine dr.wE hS.out K8 EZ ku.out jq.out HZ nV fq kO hBB.out ?_);intro W1 vb cb f
   |refine ag 41 ?_;refine dq (v:=(.int .i64 0)) f.out.2.1.dS fU ?_ rfl rfl rfl rfl
   |refine Yj PL U.out f.out.1 xe rfl rfl (by decide) ?_;intro W2 v2 k h;have eJ:=aa (f.out.2.1.after h);have BU:=aa (f.out.2.2.below h f.out.2.2.1);obtain⟨vz,cz,rfl⟩:=k.out.form;clear h
   |refine I1 PI U.out f.out.1 xe rfl (by decide) ?_;intro W2 v2 k h;have eJ:=aa (f.out.2.1.after h);have BU:=aa (f.out.2.2.below h f.out.2.2.1);obtain⟨vz,cz,rfl⟩:=k.out.form;clear h
   |(with_reducible refine dr.tr eJ.out rfl ?_);intro W3 J h4;have jG:=aa J.out;have sJ:=aa (BU.out.apart h4 (by omega));have YK:=aa ((Kp.refl (n+3) W2).apart h4 (by omega));clear J h4)
  have hP:=aa (k.out.kp YK.out (by have:=f.out.2.1.size;omega));obtain⟨I,i0,i1,i2⟩:=B6.inv er rd e jG.out hC.out;have g0:=aa i0;have g1:=aa i1;have g2:=aa i2;clear i0 i1 i2 k
  first|go_loopw [93] I (fun i _=>(cE (some 416) 2 B).length-(intOf i).toNat)|go_loopw [129] I (fun i _=>(cE none 1 B).length-(intOf i).toNat)|go_loopw [165] I (fun i _=>(cE none 4 B).length-(intOf i).toNat)|go_loopw [201] I (fun i _=>(cE (some 408) 2 B).length-(intOf i).toNat)|go_loopw [237] I (fun i _=>(cE (some 112) 2 B).length-(intOf i).toNat)
  case atStart=>exact g0.out
  case round=>
   obtain⟨q,v,z,w9,hq,rfl,X⟩:=g1.out _ _ hrel;have Y:=aa X;have hPr:=aa (hP.out.kp X.hP (by have:=f.out.2.1.size;omega));clear hrel g0 X;rcases E_ hq with H|e0
   ·obtain⟨g,vx,cx,x,rfl,hc,hs,K,hpx,YE,lt⟩:=Dx hPr.out H U.out N9 rd
    go_wp2_with (first
     |refine aC 114 ?_;refine ab (by rfl) _ (ai _ 114 39 _ _ rfl cV 1 dv g 0 _ cz rfl .i64 q rfl H q (by omega)) ?_
     |refine ag 39 ?_;refine dq (v:=(.slice vx x.length cx)) hc.out bF ?_ rfl rfl rfl rfl
     |(with_reducible refine El.mK.mJ Q5.out hs hpx ?_);intro W4 cs hR hF s
     |refine ao _ ?_;refine ahs he O hR.out rfl (fun W5 J h h6=>?_) rfl;have o:=aa (VV.of Y.out he hR.out hF.out s.out J h h6);have XP:=aa (Y.out.later he (s.out.trans (h.mono s.out.size)));clear J h h6
     |(with_reducible refine B6.tr XP.out he H K.out o.out rfl ?_);intro W6 z6 A o
     |refine ag _ ?_;refine u5 A.out.1.hX (List.getElem?_set_self L) hu.out rfl ?_
     |refine ag _ ?_;refine ldE he O rfl o.out.hi ?_
     |refine aV _ ?_;refine rf.kA A.out.2.1 he O hu.out o.out.hi.r o.out.hF o.out.hv A.out.1.hW YE rfl rfl rfl ?_;intro v1 W7 G j;obtain⟨vy,ky,cy,rfl⟩:=Td G;have zh:=aa G;have V:=aa (A.out.1.later j);have sG:=aa (A.out.2.2.1.below j bG);clear G j
     |refine al _ ?_;refine Il V.out.hX (by rw[NH];exact L) hi.out rfl rfl rfl ?_;intro W8 G j;have E2:=aa (V.out.rj j G);have nL:=aa (zh.out.kp he ((Kp.refl (n+3) W7).apart j (by omega)) V.out.h3);have k:=aa (sG.out.apart j (by omega));clear G j)
    exact⟨g2.out _ q _ _ _ _ (by go_num) H (B6.next E2.out nL.out k.out A.out.2.2.2 H K.out L),by simp[intOf];omega⟩
   ·have lt:=JU q
    subst e0;go_wp2
    exact B6.done gQ.out Y.out sJ.out (by kernel_rfl))
def dr.WP {n Z C t e f l d c b a w W Q} (h:dr n Z C t e f l d c b a w W) (he:a≠0) (k:Q (.returned (.slice none 0 0)) W):Calls prog 64 #[.pointer (some ⟨n+1+1,0,none⟩)] W Q:=by obtain⟨u,j,_⟩:=h.hI.ex;exact(F8 (n+1+1) l d c b a W j he).mono fun _ _ ⟨i,g⟩=>by subst g;rw[i];exact k
def PE (k:Nat):Prop:=∀(F:Func) (_:F=Tryz.f11) (Q:Exit→Act→World→Prop) (n:Nat) (Z C:Array Value) (t:TypeId) (f:List Nat) (g:Nat) (l:List Int) (d:Option Addr) (c a b:Nat) (w W:World) (u:Nat→Value),
 b≠0→dr n Z C t f g l d c a b w W→(∀e,Q .normal (rh n e) W)→(pq k F).wp prog Q (rh n u) W
def XZ {n:Nat} {Q:Exit→Act→World→Prop} {A:Act} {W:World} (g:∀a,Q .normal (rh n a) W) (b:A=rh n (fun k=>A.tmps.getD k undef)):Q .normal A W:=by
 have c:=g (fun k=>A.tmps.getD k undef)
 rwa [←b]at c
def pE:PE 10∧PE 21∧PE 32∧PE 43∧PE 54:=by
 refine⟨?_,?_,?_,?_,?_⟩<;>
 (intro F hF Q n Z C t j k l h c g e w W u he a d
  have b:=aa a;have f:=aa d;have i:((e:Int)==0)=false:=by simp;omega
  clear a d;subst hF;simp only[pq,pc,pcAt,headAt,Tryz.f11,reduceIte,Nat.reduceEqDiff,Nat.reduceBEq,dR];unfold rh
  go_wp2_with (first
   |with_reducible refine dr.WP b.out he ?_
   |refine ag 41 ?_;refine dq (v:=(.int .i64 (e:Int))) b.out.dS fU ?_ rfl rfl rfl rfl)
  exact XZ f.out (by kernel_rfl))
def sI (f:Nat→Int) (a b:Nat) (h:Nat→Int):Nat→Int:=fun j=>if a≤j∧j<a+b then h (j-a)else f j
def G4 {a b r d ii f h} (i:∀j,j<b→d (a+j)=ii j):ae (a+(b+r)) d (sI f a b h)=ae a d f++(ae b ii h++ae r (fun j=>d (a+(b+j))) (fb f (a+b))):=by rw[jn i,bU (N:=a) (g:=f) (fun j e=>by unfold sI;rw[an (by omega)]),bU (N:=b) (g:=h) (fun j e=>by unfold fb sI;rw[aj (by omega),jH]),bU (N:=r) (g:=fb f (a+b)) (fun j e=>by unfold fb sI;rw[an (by omega)])]
def tA {f r h:Nat→Int} (a b:Nat) (e:∀k,k<a→f k=r k) (d:∀j,j<b→h j=r (a+j)):∀k,k<a+b→sI f a b h k=r k:=fun k g=>by
 unfold sI;split
 ·rw[d _ (by omega)];congr 1;omega
 ·exact e k (by omega)
section
variable {n:Nat} {Z:Array Value} {t:TypeId} {aB:List Nat} {nx:Nat} {l:List Int} {va:Option Addr} {c at' err:Nat} {w W:World} {f:Nat→Int} {post:List Value}
theorem Fw {o:Oper} {a:Act} {K:Act→World→Prop} {Q:Exit→Act→World→Prop} (d s:Operand) (B:o.op= .call {callee:= .builtin .copy,args:=#[d,s],argTypes:=#[39,39]}) (e k r b i v u:Nat) (C:a.eval d= .slice (some ⟨n+1,e,none⟩) k u) (hs:a.eval s= .slice (some ⟨b,i,none⟩) k v)
 (h:dr n Z (ae 193 (kdF jC) f++post).toArray t aB nx l va c at' err w W) (p:∀j,j<k→kdF jC (e+j)= .u8) (m:e+(k+r)=193) (q:List Int) (A:Row W (some ⟨b,i,none⟩) .u8 q) (z:q.length=k)
 (E:∀g,dr n Z (ae 193 (kdF jC) (sI f e k fun j=>q.getD j 0)++post).toArray t aB nx l va c at' err w g→K (a.put o.dst (goInt k)) g):o.wp prog a W K Q:=by
 refine og d s B e k b i v u C hs h (ae e (kdF jC) f) (ae r (fun j=>kdF jC (e+(k+j))) (fb f (e+k))++post) (fb f e) ?_ (ac _ _ _) q A z fun g D _=>E g ?_
 ·rw[←m,jn (ii:=fun _=> .u8) p];simp only[dA]
 ·rw[←m,G4 (ii:=fun _=> .u8) p];simpa only[dA]using D
end
def acg (l j) (h:j<96):l.getD (0+j) 0=rdF jC l (0+j):=by
 rw[bY];show _=if j<96 then l.getD j 0 else _
 rw[aj h]
def acf (l j) (h:j<32):l.getD (168+j) 0=rdF jC l (161+j):=by
 have e:rdF jC l (161+j)=rdF [some 32] ((((l.drop 96).drop 32).drop 8).drop 32) j:=by show (if 161+j<96 then _ else rdF [some 32,none,some 32,some 32] (l.drop 96) (161+j-96))=_;rw[an (by omega),show 161+j-96=65+j by omega];show (if 65+j<32 then _ else rdF [none,some 32,some 32] ((l.drop 96).drop 32) (65+j-32))=_;rw[an (by omega),show 65+j-32=(32+j)+1 by omega];show (if 32+j<32 then _ else rdF [some 32] ((((l.drop 96).drop 32).drop 8).drop 32) (32+j-32))=_;rw[an (by omega),jH]
 rw[e];show _=if j<32 then((((l.drop 96).drop 32).drop 8).drop 32).getD j 0 else _
 rw[aj h];simp[Ff,qD,←oF]
def PB (k b K:Nat):Prop:=∀(F:Func) (_:F=Tryz.f11) (Q:Exit→Act→World→Prop) (n:Nat) (Z:Array Value) (f:Nat→Int) (post:List Value) (t:TypeId) (aB:List Nat) (nx:Nat) (l:List Int) (va:Option Addr) (c at' e:Nat) (w W:World) (u:Nat→Value),
 (e=0→at'=(if b=0 then 0 else 168)∧at'+K≤l.length)→dr n Z (ae 193 (kdF jC) f++post).toArray t aB nx l va c at' e w W→(e=0→∀k,k<b→f k=rdF jC l k)→
 (∀j g h i,dr n Z (ae 193 (kdF jC) g++post).toArray t aB nx l va c h e w i→(e=0→h=at'+K∧∀k,k<b+K→g k=rdF jC l k)→Q .normal (rh n j) i)→(∀c a d v w,Q (.panic c) (Act.put a (some d) v) w→Q (.panic c) a w)→(pq k F).wp prog Q (rh n u) W
def X0 {n:Nat} {Q:Exit→Act→World→Prop} {P:(Nat→Int)→Nat→World→Prop} {R:(Nat→Int)→Nat→Prop} {f:Nat→Int} {a:Nat} {A:Act} {W:World} (g:∀d f a b,P f a b→R f a→Q .normal (rh n d) b) (h:P f a W) (i:R f a) (e:A=rh n (fun k=>A.tmps.getD k undef)):Q .normal A W:=by
 have j:=g (fun k=>A.tmps.getD k undef) f a W h i
 rwa [←e]at j
def pB4:PB 4 0 96:=by intro F hF Q n Z f post t aB nx l va c at' K w W u d h b k s;have B:=aa h;have C:=aa k;have y:=aa b;have g:=aa d;clear h k b d;subst hF;simp only[pq,pc,pcAt,headAt,Tryz.f11,reduceIte,Nat.reduceEqDiff,Nat.reduceBEq,dR];unfold rh;refine dQ (S:=fun _=>True) (by kernel_rfl) ?_;have I:True:=trivial;refine gY 0 1 2 (.pointer (some ⟨n+1,0,none⟩)) (.slice (some ⟨n+1,0,none⟩) 96 96) (.pointer (some ⟨n+1+1,0,none⟩)) rfl (by kernel_rfl) (fun _=>by kernel_rfl) s ‹_› ?_;refine cQ (i:=3) rfl (by kernel_rfl) rfl (it 61 #[.pointer (some ⟨n+1+1,0,none⟩),.int .i64 96] (by go_simp) _ ((B.out.drew _).kh 96 (96:Int) rfl (by decide) (by decide) (fun e=>(g.out e).2)) ?_);rintro v L ⟨E,o,D,m,rfl,G,H,p,q,r,A,J⟩;refine⟨trivial,?_⟩;go_frame;refine cQ (i:=4) rfl (by kernel_rfl) rfl (Fw _ _ rfl 0 96 97 E o D 96 rfl rfl A (bB rfl) rfl m p q (fun M z=>⟨trivial,?_⟩));refine dM (by kernel_rfl) ?_ _;exact X0 C.out z (fun e=>by rw[aj e];exact⟨rfl,tA 0 96 (y.out e) fun j a=>by rw[r e,bA _ _ _ _ a,(g.out e).1];exact acg l j a⟩) (by kernel_rfl)
def pB9:PB 9 161 32:=by intro F hF Q n Z f post t aB nx l va c at' K w W u d h b k s;have B:=aa h;have C:=aa k;have y:=aa b;have g:=aa d;clear h k b d;subst hF;simp only[pq,pc,pcAt,headAt,Tryz.f11,reduceIte,Nat.reduceEqDiff,Nat.reduceBEq,dR];unfold rh;refine dQ (S:=fun _=>True) (by kernel_rfl) ?_;have I:True:=trivial;refine gY 0 1 2 (.pointer (some ⟨n+1,161,none⟩)) (.slice (some ⟨n+1,161,none⟩) 32 32) (.pointer (some ⟨n+1+1,0,none⟩)) rfl (by kernel_rfl) (fun _=>by kernel_rfl) s ‹_› ?_;refine cQ (i:=3) rfl (by kernel_rfl) rfl (it 61 #[.pointer (some ⟨n+1+1,0,none⟩),.int .i64 32] (by go_simp) _ ((B.out.drew _).kh 32 (32:Int) rfl (by decide) (by decide) (fun e=>(g.out e).2)) ?_);rintro v L ⟨E,o,D,m,rfl,G,H,p,q,r,A,J⟩;refine⟨trivial,?_⟩;go_frame;refine cQ (i:=4) rfl (by kernel_rfl) rfl (Fw _ _ rfl 161 32 0 E o D 32 rfl rfl A (bB rfl) rfl m p q (fun M z=>⟨trivial,?_⟩));refine dM (by kernel_rfl) ?_ _;exact X0 C.out z (fun e=>by rw[aj e];exact⟨rfl,tA 161 32 (y.out e) fun j a=>by rw[r e,bA _ _ _ _ a,(g.out e).1];exact acf l j a⟩) (by kernel_rfl)
section
variable {ops:Array Oper} {Q:Exit→Act→World→Prop} {rest:List Oper} {a:Act} {d:Option Tmp} {D:Tmp} {ty Vs:TypeId} {pos pos':String} {af O9:Array Edge} {x y:Operand} {W W1 W0 w:World}
theorem jU.kA {b v rs r} (h:jU b v rs W) (hW:b≤W.heap.size) (hn:rs.length≤1000000000) (p:(a.put (some D) (.slice (some ⟨W.heap.size,0,none⟩) 1 1)).eval x=v) (A:(a.put (some D) (.slice (some ⟨W.heap.size,0,none⟩) 1 1)).eval (.tmp D)= .slice (some ⟨W.heap.size,0,none⟩) 1 1) (o:a.eval y= .agg (ax r)) (m:∀i c g,jU b (.slice i (rs.length+1) c) (rs++[r]) g→Below b W g→wpList prog ops Q rest ((a.put (some D) (.slice (some ⟨W.heap.size,0,none⟩) 1 1)).put d (.slice i (rs.length+1) c)) g):
 wpList prog ops Q (⟨some D,.buildSlice 106 1 #[(0,y)],ty,pos,af,none⟩::⟨d,.call {callee:= .builtin .append,args:=#[x,.tmp D],argTypes:=#[106,106]},Vs,pos',O9,none⟩::rest) a W:=by
 have j:Below W.heap.size W (W.alloc (.cells (ax r) 25)):=dt;refine aH rfl fun K z=>bV _ (eF _ _ rfl r (by simp[o])) (z _ _ ?_);refine aH rfl fun L s=>eN (w0:=W.alloc (.cells (ax r) 25)) (n0:=b) x (.tmp D) 106 25 rfl fC (.agg (rep 32)) 32 32 kC rfl (by decide) b rs.length v (d8 rs) p (aU h j) ⟨W.heap.size,0,none⟩ 1 1 A (ae 32 (fun _=> .u8) r) (by rw[ac]) (aE (ak _ _ _ _ rfl)) rfl cl (by omega) (by omega) (by rw[bn];omega) bG (aP _ _) (fun I G f F _ _ _=>s _ _ ?_);obtain⟨k,E,B,_⟩:=aW f;subst B;refine m k E G ?_ ((j.mono hW).trans F);have e:d8 rs++ae 32 (fun _=> .u8) r=d8 (rs++[r]):=by rw[iC,lE]
 rw[e]at f;unfold jU;rw[bM,List.length_singleton];exact f
theorem alR {r} (c:(a.put (some D) (.pointer (some ⟨W.heap.size,0,none⟩))).eval y= .agg (ax r)) (f:(a.put (some D) (.pointer (some ⟨W.heap.size,0,none⟩))).eval (.tmp D)= .pointer (some ⟨W.heap.size,0,none⟩)) (k:∀b,Hid (b.heap[W.heap.size]?=some (.cells (ax r) 25 (0,0)))→Below W.heap.size W b→wpList prog ops Q rest ((a.put (some D) (.pointer (some ⟨W.heap.size,0,none⟩))).put d undef) b):wpList prog ops Q (⟨some D,.alloc 25,ty,pos,af,none⟩::⟨d,.store 25 (.tmp D) y,Vs,pos',O9,none⟩::rest) a W:=aw rfl rfl 25 D y rfl rfl rfl (ax r) f c (zeroOf prog 25) (aG am).1 (aG am).2 (aA _ _ _) (k _ (ak _ _ _ _ rfl) dt)
theorem Y' {r b} (c:a.eval x= .pointer (some ⟨b,0,none⟩)) (h:W.heap[b]?=some (.cells (ax r) 25 (0,0))) (k:wpList prog ops Q rest (a.put d (.agg (ax r))) W):wpList prog ops Q (⟨d,.load 25 x,ty,pos,af,none⟩::rest) a W:=ab rfl _ (ay _ 25 _ rfl b c _ _ (0,0) _ h cH rfl (by rw[ah am];simp[ae])) k
variable {α:Type} {e:El α} {l:List α} {q:Nat} {u:α} {v:Value} {er:Int}
def GI (e:El α) (l:List α) (q:Nat) (W0:World) (v:Value) (er:Int) (W:World):Prop:=jU W0.heap.size v ((l.take q).map e.G) W∧Below W0.heap.size W0 W∧er=wy e l q
abbrev GrI (e:El α) (l:List α) (W0:World):Prop:=∃I:Value→Value→Value→World→Prop,I (.slice none 0 0) (.int .i64 0) (.int .i64 0) W0∧(∀v b i f,I v b i f→∃q g c er,q≤l.length∧i= .int .i64 (q:Int)∧v= .slice g q c∧b= .int .i64 er∧GI e l q W0 v er f)∧(∀v i q er f,i= .int .i64 ((q+1:Nat):Int)→q<l.length→GI e l (q+1) W0 v er f→I v (.int .i64 er) i f)
theorem GI.inv (e:El α) (l:List α) (W0):GrI e l W0:=by refine⟨fun v b i f=>∃q er,q≤l.length∧i= .int .i64 (q:Int)∧b= .int .i64 er∧GI e l q W0 v er f,⟨0,0,qB _,rfl,rfl,⟨rfl,Or.inl ⟨rfl,rfl⟩⟩,aP _ _,(uM e l).symm⟩,fun v b i f ⟨q,er,g,j,h,k⟩=>?_,fun v i q er f g j h=>⟨q+1,er,j,g,rfl,h⟩⟩;obtain⟨o,c,m,_⟩:=aW (show f.ownsRow _ _ _ _ _ _ from k.1);rw[jK,cf,II g]at m;exact⟨q,o,c,er,g,j,m,h,k⟩
theorem GI.kA (h:GI e l q W0 v er W) (he:e.Ok) (ha:l[q]?=some u) (B:q<l.length) (hl:l.length≤1048576) (i:Below W.heap.size W W1) {k} (z:k=if er=0 then e.E u else er) (r:(a.put (some D) (.slice (some ⟨W1.heap.size,0,none⟩) 1 1)).eval x=v) (A:(a.put (some D) (.slice (some ⟨W1.heap.size,0,none⟩) 1 1)).eval (.tmp D)= .slice (some ⟨W1.heap.size,0,none⟩) 1 1) (p:a.eval y= .agg (ax (e.G u))) (o:∀b c f,Hid (GI e l (q+1) W0 (.slice b (q+1) c) k f)→wpList prog ops Q rest ((a.put (some D) (.slice (some ⟨W1.heap.size,0,none⟩) 1 1)).put d (.slice b (q+1) c)) f):
 wpList prog ops Q (⟨some D,.buildSlice 106 1 #[(0,y)],ty,pos,af,none⟩::⟨d,.call {callee:= .builtin .append,args:=#[x,.tmp D],argTypes:=#[106,106]},Vs,pos',O9,none⟩::rest) a W1:=by
 have j:=h.2.1.trans (i.mono h.2.1.size);have hn:((l.take q).map e.G).length=q:=by rw[jK,cf];omega
 have s:(l.take (q+1)).map e.G=(l.take q).map e.G++[e.G u]:=by rw[s6,ha];simp
 refine jU.kA (aU (show W.ownsRow _ _ _ _ _ _ from h.1) i) j.size (by omega) r A p fun b c f g m=>?_;rw[hn]at g ⊢;refine o b c f ⟨by rw[s];exact g,j.trans m,?_⟩;rw[z,h.2.2];exact qX he ha
end
def Io {α:Type} (e:El α) (d:Nat) (b:Int) (l:List α):Nat→Int:=if decide ((l.length:Int)>b)then bh else fullT d (leaf (l.map e.G))
def Lm {α:Type} (e:El α) (d:Nat) (b:Int) (l:List α):Nat→Int:=gX (Io e d b l) (je l.length)
def Tk {α:Type} {e:El α} (he:e.Ok) {l:List α} (f:∀u∈l,e.ok u):∀r∈l.map e.G,fY r:=fun r c=>by obtain⟨u,b,rfl⟩:=ft.1 c;exact he.Gis (f u b)
def ry {α:Type} {e:El α} (he:e.Ok) {l:List α} (c:∀u∈l,e.ok u) (d b):fY (Io e d b l):=by
 unfold Io;split
 ·exact g7
 ·exact dj d (eO (Tk he c))
section
variable {α:Type} {e:El α} {l:List α} {W W0:World} {er:Int} {Q:Ending→World→Prop}
theorem GI.row {f c} (h:GI e l l.length W0 (.slice f l.length c) er W) (he:e.Ok) (i:∀u∈l,e.ok u):j_ W f (l.map e.G)∧(∀b o,f=some ⟨b,o,none⟩→b<W.heap.size)∧l.length≤c:=by have g:=h.1;rw[gC]at g;exact jU.VY g (by simp) (Tk he i)
theorem GI.ads {b:Option Addr} {c:Nat} (h:GI e l l.length W0 (.slice b l.length c) er W) (he:e.Ok) (A:∀u∈l,e.ok u) (E:cY W) {f:Int} {N d:Nat} (B:f=(N:Int)) (j:lN N d∧d≤32∧N≤1000) (k:∀m z,Below W.heap.size W m→Q (.returned (.tuple #[.agg (ax (Io e d f l)),.int .i64 z])) m):Calls prog 100 #[.slice b l.length c,.int .i64 f] W Q:=by
 subst B;unfold Io at k;by_cases s:N<l.length
 ·rw[aj (by simp;omega)]at k
  exact(DG l.length N b c W s (by omega)).mono fun _ _ ⟨i,g⟩=>by rw[i];exact k _ _ g
 ·rw[an (by simp;omega)]at k
  obtain⟨r,p,o⟩:=h.row he A;exact(zP (l.map e.G) l.length N d b c W (by simp) (by omega) j.1 j.2.1 r p o E).mono fun _ _ ⟨i,g⟩=>by rw[i];exact k _ _ g
theorem agy {r m} (c:fY r) (f:cY W) (k:∀b,Below W.heap.size W b→Q (.returned (.agg (ax (gX r (je m))))) b):Calls prog 101 #[.agg (ax r),.int .u64 m] W Q:=(CZ r m W c f).mono fun _ _ ⟨h,g⟩=>by rw[h];exact k _ g
variable {n:Nat} {C:List Value} {t:TypeId} {rs:List (Nat→Int)} {w:World}
theorem bD.putK (h:bD n C t er rs w W) {r b} (f:fY r) (hl:rs.length≤100) (k:∀c,Hid (bD n C t (if er=0 then b else er) (rs++[r]) w c)→Q (.returned (.tuple #[])) c):Calls prog 85 #[.pointer (some ⟨n+1+1,0,none⟩),.agg (ax r),.int .i64 b] W Q:=(h.put r b f (by omega)).mono fun _ _ ⟨i,g⟩=>by rw[i];exact k _ g
def vT (c:Bool) (e:El α) (b:Nat):Prop:=match c with|false=>e.iG b|true=>e.SU b∧∀u,e.E u=0
theorem vT.z {b} (h:vT true e b) (u):e.E u=0:=h.2 u
theorem vT.pK {c} (h:vT false e c) {u b} (g:e.ok u) (j:e.R u b W) (i:cY W) (k:∀f,Below W.heap.size W f→Q (.returned (.tuple #[.agg (ax (e.G u)),.int .i64 (e.E u)])) f):Calls prog c #[.agg b.toArray] W Q:=(h u b W g j i).mono fun _ _ ⟨o,m⟩=>by rw[o];exact k _ m
theorem vT.sK {c} (h:vT true e c) {u b} (g:e.ok u) (j:e.R u b W) (i:cY W) (k:∀f,Below W.heap.size W f→Q (.returned (.agg (ax (e.G u)))) f):Calls prog c #[.agg b.toArray] W Q:=(h.1 u b W g j i).mono fun _ _ ⟨o,m⟩=>by rw[o];exact k _ m
end
def FrH (n:Nat) (u:Nat→Value):Act:={tmps:=#[.pointer (some ⟨n+1+1,0,none⟩),.pointer (some ⟨n,0,none⟩),u 2,u 3,u 4,u 5,u 6,u 7,u 8,u 9,u 10,u 11,u 12,u 13,u 14,u 15,u 16,u 17,u 18,u 19,u 20,u 21,u 22,u 23,u 24,u 25,u 26,u 27,u 28,u 29,u 30,u 31,u 32,u 33,u 34,u 35,u 36,u 37,u 38,u 39,u 40,u 41,u 42,u 43,u 44,u 45,u 46,u 47,u 48,u 49,u 50,u 51,u 52,u 53,u 54,u 55,u 56,u 57,u 58,u 59,u 60,u 61,u 62,u 63,u 64,u 65,u 66,u 67,u 68,u 69,u 70,u 71,u 72,u 73,u 74,u 75,u 76,u 77,u 78,u 79,u 80,u 81,u 82,u 83,u 84,u 85,u 86,u 87,u 88,u 89,u 90,u 91,u 92,u 93,u 94,u 95,u 96,u 97,u 98,u 99,u 100,u 101,u 102,u 103,u 104,u 105,u 106,u 107,u 108,u 109,u 110,u 111,u 112,u 113,u 114],defers:=[]}
def FrJ (n:Nat) (u:Nat→Value):Act:={tmps:=#[.pointer (some ⟨n+1+1,0,none⟩),.pointer (some ⟨n,0,none⟩),u 2,u 3,u 4,u 5,u 6,u 7,u 8,u 9,u 10,u 11,u 12,u 13,u 14,u 15,u 16,u 17,u 18,u 19,u 20,u 21,u 22,u 23,u 24,u 25,u 26,u 27,u 28,u 29,u 30,u 31,u 32,u 33,u 34,u 35,u 36,u 37,u 38,u 39,u 40,u 41,u 42,u 43,u 44,u 45,u 46,u 47,u 48,u 49,u 50,u 51,u 52,u 53,u 54,u 55,u 56,u 57,u 58,u 59,u 60,u 61,u 62,u 63,u 64,u 65,u 66,u 67,u 68,u 69,u 70,u 71,u 72,u 73,u 74,u 75,u 76,u 77,u 78,u 79,u 80,u 81,u 82,u 83,u 84,u 85,u 86,u 87,u 88,u 89,u 90,u 91,u 92,u 93,u 94,u 95,u 96,u 97,u 98,u 99,u 100,u 101,u 102,u 103,u 104,u 105,u 106,u 107,u 108,u 109,u 110,u 111,u 112,u 113,u 114,u 115,u 116,u 117,u 118,u 119,u 120,u 121,u 122,u 123,u 124,u 125,u 126,u 127,u 128,u 129,u 130,u 131,u 132,u 133,u 134,u 135,u 136,u 137,u 138,u 139],defers:=[]}
def tlAt (k:Nat):Code→Option Code
 | .seq a b=>if headAt k a then some (.seq a b)else match tlAt k a with|some c=>some c|none=>tlAt k b
 | .block _ c=>tlAt k c
 | .loop c=>tlAt k c
 | .region n o d=>if n==k then some (.region n o d)else none
 |_=>none
def tq (k:Nat) (f:Func):Code:=match f.body with|some c=>(match tlAt k c with|some d=>d|none=> .skip)|none=> .skip
def aeh (k) {f P Q a w} (h:(tq k f).wp P Q a w):(tq k f).wp P Q a w:=h
def HL (q:Func→Code) (r:Func) (i:Nat→(Nat→Value)→Act) (m:Bool) (p N d k g o:Nat) (b:Int):Prop:=∀(F:Func) (_:F=r) (Q:Exit→Act→World→Prop) (f:Type) (e:El f) (n:Nat) (C:List Value) (t:TypeId) (c:Int) (a:List (Nat→Int)) (l:List f) (v:Value) (tb:Bool) (w W:World) (u:Nat→Value),
 decide ((l.length:Int)>b)=tb→e.Ok→e.t=g→prog.underlying k=some (.slice g)→vT m e o→b=(N:Int)→lN N d∧d≤32∧N≤1000→C[p]?=some v→qf e l v w→(∀u∈l,e.ok u)→l.length≤1048576→w.heap.size=n→a.length≤100→bD n C t c a w W→
 (∀j h,bD n C t (if c=0 then(if tb then 6 else jf e l)else c) (a++[Lm e d b l]) w h→Q .normal (i n j) h)→(q F).wp prog Q (i n u) W
def ad3 {b:Nat→(Nat→Value)→Act} {n:Nat} {Q:Exit→Act→World→Prop} {P:World→Prop} {A:Act} {W:World} (g:∀c a,P a→Q .normal (b n c) a) (h:P W) (d:A=b n (fun k=>A.tmps.getD k undef)):Q .normal A W:=by
 have e:=g (fun k=>A.tmps.getD k undef) W h
 rwa [←d]at e
def uJ {n C t a b c w W} (h:bD n C t a c w W) (e:a=b):bD n C t b c w W:=e▸h
def hL:HL (pq 3) Tryz.f37 FrH false 193 2 1 29 74 99 2∧HL (tq 17) Tryz.f37 FrH false 194 1 0 30 86 102 1∧HL (pq 0) Tryz.f38 FrJ false 195 4 2 31 90 103 4∧HL (pq 14) Tryz.f38 FrJ false 196 2 1 32 98 104 2∧HL (pq 28) Tryz.f38 FrJ true 197 2 1 33 103 105 2:=by
 refine⟨?_,?_,?_,?_,?_⟩<;>
 (intro F hF Q α e n C t er rs l v tb w W u htb he p M U R h V A P hl hn Nn Y T
  have m:=aa Y;have hC:=aa V;have N:=aa M;have B:=aa U;have y:=aa P;have hN:=aa R;have hd:=aa h;have gQ:=aa T;obtain⟨va,c,rfl,-⟩:=id A;have hR:=aa A;clear Y T V M U A P R h;subst hn;subst hF;simp only[pq,pc,pcAt,tq,tlAt,headAt,Tryz.f37,Tryz.f38,reduceIte,Nat.reduceEqDiff,Nat.reduceBEq,dR]
  first|unfold FrH|unfold FrJ
  go_wp2_with ((with_reducible refine ag _ ?_);refine u5 m.out.hX hC.out N.out rfl ?_)
  obtain⟨I,L,K,J⟩:=GI.inv e l W;have Z:=aa L;have g1:=aa K;have g2:=aa J;clear L K J
  first|go_loopw [4,5,31] I (fun _ _ i _=>l.length-(intOf i).toNat)|go_loopw [4,5,44] I (fun _ _ i _=>l.length-(intOf i).toNat)|go_loopw [12,13,69] I (fun _ _ i _=>l.length-(intOf i).toNat)|go_loopw [12,13,82] I (fun _ _ i _=>l.length-(intOf i).toNat)|go_loopw [20,107] (fun v i=>I v (.int .i64 0) i) (fun _ i _=>l.length-(intOf i).toNat)
  case atStart=>exact Z.out
  case round=>
   obtain⟨q,va9,c9,bd,hq,rfl,rfl,H,D⟩:=g1.out _ _ _ _ hrel;cases H;have G:=aa D;have f:=aa (m.out.later D.2.1);clear hrel Z D;by_cases j:q<l.length
   ·obtain⟨z,k⟩:∃z,l[q]?=some z:=⟨_,fS j⟩
    obtain⟨b,o,cs,rfl,S⟩:=(hR.out.later he f.out.hB).get he k;have g:=aa S;have ha:=aa k;have O:=aa (y.out z (rY k));have lt:decide ((q:Int)<(l.length:Int))=true:=by simp;omega
    have a:=aa (aP wr.heap.size wr);clear S k
    first|(rcases tg (bd=0)with rfl|c0)|skip
    all_goals
     try have t9:(bd==0)=false:=by simp[c0]
     go_wp2_with (first
      |refine aC _ ?_;refine ixE he p N.out rfl rfl j ?_
      |refine ag 25 ?_;refine Y' rfl s.out ?_
      |refine ag _ ?_;refine ldE he p rfl g.out ?_
      |refine ao 25 ?_;refine alR rfl rfl (fun W s d=>?_);replace a:=aa (a.out.trans (d.mono a.out.size));clear d
      |refine ao _ ?_;refine alE he p g.out rfl (fun W' X d=>?_) rfl;have g:=aa X;replace a:=aa (a.out.trans (d.mono a.out.size));clear X d
      |(with_reducible refine vT.pK B.out O.out g.out.r (f.out.later a.out).hT ?_);intro W d;replace a:=aa (a.out.trans (d.mono a.out.size));clear d
      |(with_reducible refine vT.sK B.out O.out g.out.r (f.out.later a.out).hT ?_);intro W d;replace a:=aa (a.out.trans (d.mono a.out.size));clear d
      |((with_reducible refine aV 106 ?_);refine GI.kA G.out he ha.out j hl a.out (by first|exact(show (0:Int)=if (0:Int)=0 then e.E z else 0 by rw[aj rfl,B.out.z])|exact(aj rfl).symm|exact(an c0).symm) rfl rfl rfl ?_;intro eE c1 W XP))
     exact⟨g2.out _ _ q _ _ (by go_num) j XP.out,by simp[intOf];omega⟩
   ·have e0:q=l.length:=by omega
    have lt:decide ((q:Int)<(l.length:Int))=false:=by simp;omega
    have a:=aa (aP wr.heap.size wr);subst e0;cases tb
    all_goals
     go_wp2_with (first
      |refine ag 25 ?_;refine Y' rfl s.out ?_
      |refine ao 25 ?_;refine alR rfl rfl (fun W s d=>?_);replace a:=aa (a.out.trans (d.mono a.out.size));clear d
      |(with_reducible refine GI.ads G.out he y.out f.out.hT hN.out hd.out ?_);intro W z9 d;replace a:=aa (a.out.trans (d.mono a.out.size));clear d
      |(with_reducible refine agy (ry he y.out _ _) (f.out.later a.out).hT ?_);intro W d;replace a:=aa (a.out.trans (d.mono a.out.size));clear d
      |(with_reducible refine bD.putK (f.out.later a.out) (jj _ _) Nn ?_);intro W m)
     exact ad3 gQ.out (uJ m.out (by first|rfl|exact fB (fun x=>if er=0 then x else er) G.out.2.2)) (by kernel_rfl))
def bK:List Value:=cJ (fun _=>0) (fun _=>0) (.slice none 0 0) (.slice none 0 0) (.slice none 0 0) (.slice none 0 0) (.slice none 0 0)
def qQ:(prog.info? 38).map (fun i=>(i.zero,i.size))=some (some (.agg bK.toArray),302):=by kernel_rfl
def gV:(prog.info? 38).map (·.size)=some 302:=by kernel_rfl
def od:bK.toArray.all (·.oneCell')=true:=by kernel_rfl
def nI {a o} (w) (b:o.op= .build 38 #[]):(execOp a o).run prog w= .ok (.value (.agg bK.toArray)) w:=by
 have h:(Instr.build 38 #[]).run prog w= .ok (.agg bK.toArray) w:=by kernel_rfl
 exact run_build 38 #[] b _ h
def aca (F) (hF:F=Tryz.f11) (R n C z A l y c j a w b u) (he:a≠0) (g:dr n bK.toArray C 38 z A l y c j a w b) (o:∀s,Below n w s→R (.returned (.tuple #[.agg bK.toArray,.int .i64 (a:Int)])) s):(tq 65 F).wp prog (bodyPost prog Tryz.f11 R) (rh n u) b:=by
 have d:=aa g;have E:=aa o;have G:((a:Int)==0)=false:=by simp;omega
 have H:((a:Int) !=0)=true:=by simp;omega
 have I:=g.size;clear g o;subst hF;simp only[tq,tlAt,headAt,Tryz.f11,reduceIte,Nat.reduceEqDiff,Nat.reduceBEq,dR];unfold rh
 go_wp2_with (first
  |refine ag 41 ?_;refine dq (v:=(.int .i64 (a:Int))) d.out.dS fU ?_ rfl rfl rfl rfl)
 rename_i K q;refine dQ (S:=fun e=>e.cell? ⟨n+1+1,4,none⟩=some (.int .i64 (a:Int))) (by kernel_rfl) ?_;have f:({b with drawn:=b.drawn+1}:World).cell? ⟨n+1+1,4,none⟩=some (.int .i64 (a:Int)):=d.out.dS;refine aJ (i:=0) (v:=(.agg bK.toArray)) rfl (by kernel_rfl) bH ‹_› (fun e _=>nI e rfl) ?_;go_frame;refine gY 1 2 3 (.pointer (some ⟨n+1+1,0,none⟩)) (.pointer (some ⟨n+1+1,0,none⟩)) (.pointer (some ⟨n+1+1,4,none⟩)) rfl (by kernel_rfl) (fun _=>by kernel_rfl) bH ‹_› ?_;go_frame;refine aJ (i:=4) (v:=(.int .i64 (a:Int))) rfl (by kernel_rfl) bH ‹_› (fun e m=>au _ 41 _ (by rfl) ⟨n+1+1,4,none⟩ (by rfl) _ m _ fU rfl) ?_;go_frame;refine cQ (i:=5) rfl (by kernel_rfl) rfl (wp_store_row 38 _ _ rfl n rfl _ rfl od (by rw[gV];rfl) _ 38 (d.out.drew _).hR rfl (fun r B h=>⟨(h.cell (p:=⟨n+1+1,4,none⟩) (by show n+1+1<b.heap.size;omega) (show n+1+1≠n by omega)).trans d.out.dS,?_⟩));have k:r.cell? ⟨n+1+1,4,none⟩=some (.int .i64 (a:Int)):=(h.cell (p:=⟨n+1+1,4,none⟩) (by show n+1+1<b.heap.size;omega) (show n+1+1≠n by omega)).trans d.out.dS;clear f;have f:=k;clear k;go_frame;refine aJ (i:=6) (v:=(.int .i64 (a:Int))) rfl (by kernel_rfl) bH ‹_› (fun e m=>by go_simp) ?_;go_frame;refine dM (by kernel_rfl) ?_ _;simp only[Exit.then];refine q _ _ ?_;have D:Below n w r:=h.below (d.out.drew _).hB bG (by show n≤b.heap.size;omega);clear f q K;go_wp2;exact aI rfl n 0 bK _ rfl (aE B) qa rfl (by rw[gV];rfl) rfl (E.out _ D)
def TE (k:Nat):Prop:=∀(F:Func) (_:F=Tryz.f11) (R:Ending→World→Prop) (n:Nat) (C:Array Value) (f:List Nat) (g:Nat) (l:List Int) (e:Option Addr) (c b a:Nat) (w W:World) (u:Nat→Value),a≠0→dr n bK.toArray C 38 f g l e c b a w W→
 (∀d,Below n w d→R (.returned (.tuple #[.agg bK.toArray,.int .i64 (a:Int)])) d)→(tq k F).wp prog (bodyPost prog Tryz.f11 R) (rh n u) W
def TE.step {k f} (m:∀F,F=Tryz.f11→tq k F= .seq (pq k F) (tq f F)) (h:PE k) (p:TE f):TE k:=by intro F hF R n C d e l b c a i w W u he g o;rw[m F hF];refine ij ?_;refine h F hF _ n _ C _ d e l b c a i w W u he g ?_;exact fun j=>p F hF R n C d e l b c a i w W j he g o
def ac_ (F) (h:F=Tryz.f11):tq 54 F= .seq (pq 54 F) (tq 65 F):=by
 subst h
 kernel_rfl
def ac' (F) (h:F=Tryz.f11):tq 43 F= .seq (pq 43 F) (tq 54 F):=by
 subst h
 kernel_rfl
def ada (F) (h:F=Tryz.f11):tq 32 F= .seq (pq 32 F) (tq 43 F):=by
 subst h
 kernel_rfl
def adb (F) (h:F=Tryz.f11):tq 21 F= .seq (pq 21 F) (tq 32 F):=by
 subst h
 kernel_rfl
def adc (F) (h:F=Tryz.f11):tq 10 F= .seq (pq 10 F) (tq 21 F):=by
 subst h
 kernel_rfl
def acb:TE 54:=TE.step ac_ pE.2.2.2.2 aca
def acc:TE 43:=TE.step ac' pE.2.2.2.1 acb
def acd:TE 32:=TE.step ada pE.2.2.1 acc
def ace:TE 21:=TE.step adb pE.2.1 acd
def agi:TE 10:=TE.step adc pE.1 ace
def GA {i e d c b} (f g) (h:∀v∈[i,e,d,c,b],v.oneCell'=true):(ae 193 (kdF jC) f++[i,e,d,c,b]++(ae 104 av g++[])).toArray.all (·.oneCell')=true:=by
 rw[vM,nn];intro v a;rcases iD.1 a with a|a
 ·rcases iD.1 a with a|a
  ·exact cl v a
  ·exact h v a
 ·rw[fZ]at a
  exact cl v a
def agf (F) (hF:F=Tryz.f11) (R n f p m k j i V X l U c h w r u) (kO:h+97≤l.length) (hw:w.heap.size=n) (B:∀v∈[p,m,k,j,i],v.oneCell'=true) (L:dr n bK.toArray (cJ f (fun _=>0) p m k j i).toArray 38 V X l U c h 0 w r) (M:∀A,Below n w A→Kp (n+3) r A→R (.returned (.tuple #[.agg (cJ f (aY ((l.drop h).take 97)) p m k j i).toArray,.int .i64 0])) A):(tq 65 F).wp prog (bodyPost prog Tryz.f11 R) (rh n u) r:=by
 have a:=aa L;have gQ:=aa M;have Y:=aa B;have g:=aa (Kp.refl (n+3) r);clear L M B;subst hF;simp only[tq,tlAt,headAt,Tryz.f11,reduceIte,Nat.reduceEqDiff,Nat.reduceBEq,dR];unfold rh
 go_wp2_with (first
  |refine ag 41 ?_;refine dq (v:=(.int .i64 0)) a.out.dS fU ?_ rfl rfl rfl rfl
  |with_reducible refine(dr.kh a.out 97 (97:Int) rfl (by decide) (by decide) (fun _=>kO)).mono ?_
   rintro e W5 ⟨vv,rfl,b,W,c',q,rfl,I,J,C,E,H,d,Q⟩;rw[aj rfl]at d;have D:=aa C;have G:=aa E;have Z:=aa (H rfl);replace g:=aa (g.out.apart Q (by omega));replace a:=aa d;clear C E H Q;clear d
  |with_reducible refine(uo q (some ⟨b,W,none⟩) c' _ D.out (by rw[G.out];exact I) (fun e=>by cases e) (fun b o e=>by cases e;exact J) G.out).mono ?_
   rintro e s ⟨rfl,y⟩;have d:=a.out.after y;replace g:=aa (g.out.below y g.out.1);replace a:=aa d;clear y I J D;clear d
  |refine ao 36 ?_;refine aw rfl rfl 36 _ _ rfl rfl rfl (ae 104 av (aY q)).toArray rfl rfl (zeroOf prog 36) (aG cL).1 (aG cL).2 (aA _ _ _) ?_
  |refine ag 36 ?_;refine ab (by rfl) _ (ay _ 36 _ (by rfl) s.heap.size (by rfl) _ _ (0,0) _ (ak s (ae 104 av (aY q)).toArray 36 s.heap.size rfl) GK rfl (by rw[ah cL];simp[ae])) ?_
  |refine al 36 ?_;refine aF 36 (n+1) 198 rfl ?_;refine iv rfl 36 _ _ rfl 198 rfl (ae 104 av (aY q)) rfl (by rw[ah cL,ac]) cl (a.out.after dt) (ae 193 (kdF jC) f++[p,m,k,j,i]) (ae 104 av fun _=>0) [] (by simp[cJ]) (by simp[ac]) (by rw[ac,ac]) (fun W7 d P=>?_)
   replace g:=aa ((g.out.below ((aP _ s).alloc bG (.cells (ae 104 av (aY q)).toArray 36)) g.out.1).apart P (by omega));replace a:=aa d;clear P;clear d
  |with_reducible refine(dr.fail a.out 0 0 (0:Int) rfl rfl).mono ?_
   rintro e W8 ⟨rfl,d,O⟩;replace g:=aa (g.out.apart O (by omega));replace a:=aa d;clear O;clear d
  |refine ag 38 ?_;refine ab (by rfl) _ (ay _ 38 _ (by rfl) (n+1) (by rfl) _ _ (0,0) _ a.out.hX qa rfl (by rw[gV];simp[ac])) ?_
  |refine al 38 ?_;refine aF 38 n 0 rfl ?_;refine aH rfl fun K N=>wp_store_row 38 _ _ rfl n rfl _ rfl (GA _ _ Y.out) (by rw[gV];simp[ac]) _ 38 a.out.hR (by simp[ac,bK,cJ]) (fun T iJ S=>N _ _ ?_);clear N K)
 have hB:Below n w T:=S.below a.out.hB bG (by have:=a.out.size;omega);have z:=gQ.out T hB (g.out.apart S (by omega));rw[←Z.out]at z;rw[show cJ f (aY q) p m k j i=ae 193 (kdF jC) f++[p,m,k,j,i]++(ae 104 av (aY q)++[]) by simp[cJ]]at z;exact aI rfl n 0 _ _ rfl (aE iJ) qa rfl (by rw[gV];simp[ac]) rfl z
def gm {s m P} (hs:1≤s):(∀x∈cE (some s) m P,x.length=s)∧(cE (some s) m P).length≤m:=by
 by_cases h:jt P.length s m=0
 ·exact⟨(zW hs h).2.2,(zW hs h).2.1⟩
 ·have e:cE (some s) m P=[]:=by unfold cE mQ;exact an h
  rw[e];simp
def kD {m P}:(∀x∈cE none m P,x.length≤P.length)∧(cE none m P).length≤m:=by
 by_cases a:P.length=0
 ·have e:cE none m P=[]:=by unfold cE kQ;exact aj a
  rw[e];simp
 ·by_cases h:lR P m=0
  ·have e:cE none m P=fV (dE P) P:=by unfold cE kQ;exact(an a).trans (aj h)
   rw[e];refine⟨fun x b=>?_,?_⟩
   ·obtain⟨i,_,rfl⟩:=ft.1 b
    unfold ik;split<;>(rw[cf,bJ];omega)
   ·rw[dO]
    unfold dE;rw[vK];refine vI fun c=>?_;unfold lR at h;rw[an a]at h;split at h
    ·exact absurd h (by decide)
    ·split at h
     ·exact absurd h (by decide)
     ·exact absurd h (by decide)
  ·have e:cE none m P=[]:=by unfold cE kQ;exact(an a).trans (an h)
   rw[e];simp
def rf.low {m:Type} {e:El m} {N p v} {l:List m} {W} (h:rf e p v l W) (hn:N≤p):rf e N v l W:=by
 obtain⟨w,o,s,r⟩:=h;refine⟨w,⟨o.1,?_⟩,s,fun i a ha=>?_⟩
 ·rcases o.2 with hn|⟨g,k,j,f,d,c,q⟩
  ·exact Or.inl hn
  ·exact Or.inr ⟨g,k,j,f,bg hn d,c,q⟩
 ·obtain⟨y,f,d,c⟩:=r i a ha
  exact⟨y,f,d,fun u n b e=>⟨bg hn (c u n b e).1,(c u n b e).2⟩⟩
def rf.one {a:Type} {e:El a} {N v} {l:List a} {W} (h:rf e N v l W):v.oneCell'=true:=by obtain⟨b,c,rfl,_⟩:=h.form;rfl
def mP (a:List Nat) (l:List Int) (i:Nat):List Int:=(l.drop (a.getD i 0)).take (a.getD (i+1) 0-a.getD i 0)
def ya (a l i):(mP a l i).length≤l.length:=by unfold mP;rw[cf,bJ];omega
abbrev dz:Value:= .slice none 0 0
def GU (r:E4) (a:List Nat) (l:List Int):Nat:=kx (some 416) 2 (fun _=>0) (mP a l 0) (cE (some 416) 2 (mP a l 0)).length
def Ty (f g a):(cJ f g dz dz dz dz dz).set 193 a=cJ f g a dz dz dz dz:=by unfold cJ;rw[Au _ _ (by rw[ac];decide),ac];rfl
def GT (r:E4) (a:List Nat) (l:List Int):Nat:=kx (none) 1 r.XS (mP a l 1) (cE (none) 1 (mP a l 1)).length
def Tx (f g b a):(cJ f g b dz dz dz dz).set 194 a=cJ f g b a dz dz dz:=by unfold cJ;rw[Au _ _ (by rw[ac];decide),ac];rfl
def GS (r:E4) (a:List Nat) (l:List Int):Nat:=kx (none) 4 r.XR (mP a l 2) (cE (none) 4 (mP a l 2)).length
def Tw (f g c b a):(cJ f g c b dz dz dz).set 195 a=cJ f g c b a dz dz:=by unfold cJ;rw[Au _ _ (by rw[ac];decide),ac];rfl
def GR (r:E4) (a:List Nat) (l:List Int):Nat:=kx (some 408) 2 (fun _=>0) (mP a l 3) (cE (some 408) 2 (mP a l 3)).length
def Tv (f g d c b a):(cJ f g d c b dz dz).set 196 a=cJ f g d c b a dz:=by unfold cJ;rw[Au _ _ (by rw[ac];decide),ac];rfl
def ID (r:E4) (a:List Nat) (l:List Int):Nat:=kx (some 112) 2 (fun _=>0) (mP a l 4) (cE (some 112) 2 (mP a l 4)).length
def Tu (f g e d c b a):(cJ f g e d c b dz).set 197 a=cJ f g e d c b a:=by unfold cJ;rw[Au _ _ (by rw[ac];decide),ac];rfl
def nl (r:E4) (a:List Nat) (l:List Int):Nat:=if GU r a l=0 then(if GT r a l=0 then(if GS r a l=0 then(if GR r a l=0 then ID r a l else GR r a l)else GS r a l)else GT r a l)else GU r a l
def Ap (r:E4) (a:List Nat) (l:List Int):Bo:=⟨rdF jC l,aY ((l.drop 220).take 97),(cE (some 416) 2 (mP a l 0)).map (rdF aM),(cE (none) 1 (mP a l 1)).map r.Rd,(cE (none) 4 (mP a l 2)).map r.Nk,(cE (some 408) 2 (mP a l 3)).map cK,(cE (some 112) 2 (mP a l 4)).map (rdF bk)⟩
structure If (b:Bo) (N:Nat) (v3 v4 v5 v6 v7:Value) (W:World):Prop where
 o3:rf nE N v3 b.ps W
 o4:rf nk N v4 b.ss W
 o5:rf mO N v5 b.zp W
 o6:rf nG N v6 b.ds W
 o7:rf nF N v7 b.es W
def If.kp {b N k i g f e d W j} (h:If b N i g f e d W) (a:Kp k W j) (c:k≤N):If b N i g f e d j:=⟨h.o3.kp h_ a c,h.o4.kp gy a c,h.o5.kp gx a c,h.o6.kp ib a c,h.o7.kp ia a c⟩
def If.at {b N f e d c a W} (h:If b N f e d c a W):b.at f e d c a W:=⟨h.o3.lis h_,h.o4.lis gy,h.o5.lis gx,h.o6.lis ib,h.o7.lis ia⟩
def agh (r F) (hF:F=Tryz.f11) (R n f a l e c w W u) (hf:∀k,k<193→f k=rdF jC l k) (hw:w.heap.size=n) (hl:l.length<4294967296) (zw:317≤l.length) (hlen:a.length=6) (d:∀i,i<5→a.getD i 0≤a.getD (i+1) 0∧a.getD (i+1) 0≤l.length) (hS:dr n bK.toArray (cJ f (fun _=>0) dz dz dz dz dz).toArray 38 a 0 l e c 200 0 w W) (J:∀er b,er≠0→er=nl r a l→Below n w b→R (.returned (.tuple #[.agg bK.toArray,.int .i64 (er:Int)])) b) (hQ:∀m q y A B b,nl r a l=0→If (Ap r a l) (n+3) m q y A B b→Below n w b→R (.returned (.tuple #[.agg (cJ (Ap r a l).f (Ap r a l).g m q y A B).toArray,.int .i64 0])) b):
 (tq 10 F).wp prog (bodyPost prog Tryz.f11 R) (rh n u) W:=by
 have fL:=hS.size;rw[adc F hF];refine ij ?_;refine pG.1 F hF _ _ nE _ (rdF aM) (fun _=>0) n _ (cJ f (fun _=>0) dz dz dz dz dz) _ a 0 l e c 200 _ _ w W u h_ rfl Cb (by kernel_rfl) Gf.1 (gm (by decide)).1 (bg (gm (by decide)).2 (by decide)) (by rw[eP];decide) (bQ f _ _ _ _ _ _ 0 _ rfl) (by omega) (by omega) rfl rfl (d 0 (by decide)).1 (d 0 (by decide)).2 (by omega) hl (by decide) hS ?_;intro u0 m N0 V Vl I E1 hK0;show (tq 21 F).wp prog (bodyPost prog Tryz.f11 R) (rh n u0) V;rw[Ty]at I
 change dr n _ _ _ _ _ _ _ _ _ (GU r a l) w V at I
 have jo:=hK0.1;refine Decidable.byCases (p:=GU r a l=0) (fun j=>?_) (fun j=>ace F hF R n _ a _ l e c _ (GU r a l) w V u0 j I fun b h=>J _ b j (by unfold nl;rw[an j]) h);rw[j]at I;rw[adb F hF];refine ij ?_;refine pG.2.1 F hF _ _ nk _ r.Rd r.XS n _ (cJ f (fun _=>0) m dz dz dz dz) _ a 1 l e c 204 _ _ w V u0 gy rfl Ca (by kernel_rfl) (Gs r).1 (fun x d=>oE (kD.1 x d) (oE (ya a l 1) hl)) (bg kD.2 (by decide)) (by rw[eP];decide) (bQ f _ _ _ _ _ _ 1 _ rfl) (by omega) (by omega) rfl rfl (d 1 (by decide)).1 (d 1 (by decide)).2 (by omega) hl (by decide) I ?_;intro u1 q N1 U O6 H fR Eq;show (tq 32 F).wp prog (bodyPost prog Tryz.f11 R) (rh n u1) U;rw[Tx]at H
 change dr n _ _ _ _ _ _ _ _ _ (GT r a l) w U at H
 have xk:=Eq.1;refine Decidable.byCases (p:=GT r a l=0) (fun o=>?_) (fun o=>acd F hF R n _ a _ l e c _ (GT r a l) w U u1 o H fun b h=>J _ b o (by unfold nl;rw[aj j,an o]) h);rw[o]at H;rw[ada F hF];refine ij ?_;refine pG.2.2.1 F hF _ _ mO _ r.Nk r.XR n _ (cJ f (fun _=>0) m q dz dz dz) _ a 2 l e c 208 _ _ w U u1 gx rfl B' (by kernel_rfl) (Gp r).1 (fun x d=>oE (kD.1 x d) (oE (ya a l 2) hl)) (bg kD.2 (by decide)) (by rw[eP];decide) (bQ f _ _ _ _ _ _ 2 _ rfl) (by omega) (by omega) rfl rfl (d 2 (by decide)).1 (d 2 (by decide)).2 (by omega) hl (by decide) H ?_;intro Z y N2 T ut G nL E2;show (tq 43 F).wp prog (bodyPost prog Tryz.f11 R) (rh n Z) T;rw[Tw]at G
 change dr n _ _ _ _ _ _ _ _ _ (GS r a l) w T at G
 have Al:=E2.1;refine Decidable.byCases (p:=GS r a l=0) (fun s=>?_) (fun s=>acc F hF R n _ a _ l e c _ (GS r a l) w T Z s G fun b h=>J _ b s (by unfold nl;rw[aj j,aj o,an s]) h);rw[s]at G;rw[ac' F hF];refine ij ?_;refine pG.2.2.2.1 F hF _ _ nG _ cK (fun _=>0) n _ (cJ f (fun _=>0) m q y dz dz) _ a 3 l e c 212 _ _ w T Z ib rfl B_ (by kernel_rfl) Gl.1 (gm (by decide)).1 (bg (gm (by decide)).2 (by decide)) (by rw[eP];decide) (bQ f _ _ _ _ _ _ 3 _ rfl) (by omega) (by omega) rfl rfl (d 3 (by decide)).1 (d 3 (by decide)).2 (by omega) hl (by decide) G ?_;intro Y A N3 S hN3 E Rx Q;show (tq 54 F).wp prog (bodyPost prog Tryz.f11 R) (rh n Y) S;rw[Tv]at E
 change dr n _ _ _ _ _ _ _ _ _ (GR r a l) w S at E
 have hz3:=Q.1;refine Decidable.byCases (p:=GR r a l=0) (fun z=>?_) (fun z=>acb F hF R n _ a _ l e c _ (GR r a l) w S Y z E fun b h=>J _ b z (by unfold nl;rw[aj j,aj o,aj s,an z]) h);rw[z]at E;rw[ac_ F hF];refine ij ?_;refine pG.2.2.2.2 F hF _ _ nF _ (rdF bk) (fun _=>0) n _ (cJ f (fun _=>0) m q y A dz) _ a 4 l e c 216 _ _ w S Y ia rfl B9 (by kernel_rfl) Gi.1 (gm (by decide)).1 (bg (gm (by decide)).2 (by decide)) (by rw[eP];decide) (bQ f _ _ _ _ _ _ 4 _ rfl) (by omega) (by omega) rfl rfl (d 4 (by decide)).1 (d 4 (by decide)).2 (by omega) hl (by decide) E ?_;intro X B N4 L hN4 D zo XN;show (tq 65 F).wp prog (bodyPost prog Tryz.f11 R) (rh n X) L;rw[Tu]at D
 change dr n _ _ _ _ _ _ _ _ _ (ID r a l) w L at D
 have Xr:=XN.1;refine Decidable.byCases (p:=ID r a l=0) (fun K=>?_) (fun K=>aca F hF R n _ a _ l e c _ (ID r a l) w L X K D fun b h=>J _ b K (by unfold nl;rw[aj j,aj o,aj s,aj z]) h);rw[K]at D;have M:=Kp.refl (n+3) L;have N:=XN.trans M;have O:=Q.trans N;have P:=E2.trans O;have kk0:=Eq.trans P;refine agf F hF R n f m q y A B a _ l e c _ w L X (by omega) hw (fun v hv=>?_) D fun b h C=>?_
 ·simp only[mF,vJ,vH]at hv
  rcases hv with rfl|rfl|rfl|rfl|rfl
  ·exact E1.one
  ·exact fR.one
  ·exact nL.one
  ·exact Rx.one
  ·exact zo.one
 ·have e0:nl r a l=0:=by unfold nl;rw[aj j,aj o,aj s,aj z,K]
  have h9:=hQ m q y A B b e0 ⟨(E1.low (show n+3≤N0 by omega)).kp h_ (kk0.trans C) bG,(fR.low (show n+3≤N1 by omega)).kp gy (P.trans C) bG,(nL.low (show n+3≤N2 by omega)).kp gx (O.trans C) bG,(Rx.low (show n+3≤N3 by omega)).kp ib (N.trans C) bG,(zo.low (show n+3≤N4 by omega)).kp ia (M.trans C) bG⟩ h;unfold cJ at h9 ⊢;rw[bU (g:=rdF jC l) hf];exact h9
structure vF (n:Nat) (C:List Value) (w W:World):Prop where
 hR:W.heap[n]?=some (.cells bK.toArray 38 (0,0))
 hX:W.heap[n+1]?=some (.cells C.toArray 38 (0,0))
 hB:Below n w W
 hz:n+2≤W.heap.size
def Gd {er:List Int→Nat}:∀{q:Nat} {b:List (List Int)},firstE er (b.take q)=0→q<b.length→er (b.getD q [])≠0→firstE er b=er (b.getD q [])
 |0,p::b,_,_,h=>an h
 |q+1,p::b,c,f,h=>by
  rw[List.take_succ_cons,firstE]at c;split at c
  ·rename_i g
   rw[firstE,aj g];exact Gd c (by simpa using f) h
  ·contradiction
section
variable {α:Type} {e:El α} {ck:Option Nat} {m:Nat} {er:List Int→Nat} {rd:List Int→α} {B x:List Int} {n N p b0:Nat} {C:List Value} {W0 w W W' W1 W2 W3:World} {q:Nat} {v v':Value} {cs:List Value}
theorem vF.later (h:vF n C w W) (b:Below W.heap.size W W'):vF n C w W':=by have c:=h.hz;exact⟨(b.block _ (by omega)).trans h.hR,(b.block _ (by omega)).trans h.hX,h.hB.trans (b.mono (by omega)),bg c b.size⟩
theorem vF.apart (h:vF n C w W) (b:aL b0 W W') (f:n+2≤b0):vF n C w W':=by have c:=h.hz;exact⟨(b.block _ (by omega) (by omega)).trans h.hR,(b.block _ (by omega) (by omega)).trans h.hX,b.below h.hB (by omega) (by omega),bg c b.size⟩
theorem vF.rj {c} (h:vF n C w W) (b:aL (n+1) W W') (g:W'.heap[n+1]?=some (.cells c.toArray 38 (0,0))):vF n c w W':=by have f:=h.hz;exact⟨(b.block _ (by omega) (by omega)).trans h.hR,g,b.below h.hB (by omega) (by omega),bg f b.size⟩
structure K0 (e:El α) (ck:Option Nat) (m:Nat) (er:List Int→Nat) (rd:List Int→α) (B:List Int) (n N p:Nat) (C:List Value) (W0 w:World) (q:Nat) (v:Value) (W:World):Prop where
 hK:vF n (C.set p v) w W
 hO:rf e N v (((cE ck m B).take q).map rd) W
 hP:Kp (n+2) W0 W
 hz:firstE er ((cE ck m B).take q)=0
 hN:n+2≤N∧N≤W.heap.size
 hp:p<C.length
abbrev RfI (e:El α) (ck:Option Nat) (m:Nat) (er:List Int→Nat) (rd:List Int→α) (B:List Int) (n N p:Nat) (C:List Value) (W0 w:World):Prop:=∃I:Value→World→Prop,I (.int .i64 0) W0∧(∀i b,I i b→∃q v,q≤(cE ck m B).length∧i= .int .i64 (q:Int)∧K0 e ck m er rd B n N p C W0 w q v b)∧(∀i q v b,i= .int .i64 ((q+1:Nat):Int)→q<(cE ck m B).length→K0 e ck m er rd B n N p C W0 w (q+1) v b→I i b)
theorem K0.inv (ck:Option Nat) (m) (B:List Int) (er:List Int→Nat) (rd:List Int→α) (e:El α) (h:vF n C w W) (g:C[p]?=some (.slice none 0 0)):RfI e ck m er rd B n W.heap.size p C W w:=by
 obtain⟨b,c⟩:=io.1 g;have k:C.set p (.slice none 0 0)=C:=by rw[←c];exact List.set_getElem_self b
 refine⟨fun i f=>∃q v,q≤(cE ck m B).length∧i= .int .i64 (q:Int)∧K0 e ck m er rd B n W.heap.size p C W w q v f,⟨0,.slice none 0 0,qB _,rfl,by rw[k];exact h,rf.nil _ _ _,Kp.refl _ _,rfl,⟨h.hz,cD _⟩,b⟩,fun _ _ h=>h,fun _ q v _ j b c=>⟨q+1,v,b,j,c⟩⟩
theorem K0.later (h:K0 e ck m er rd B n N p C W0 w q v W) (he:e.Ok) (b:Below W.heap.size W W'):K0 e ck m er rd B n N p C W0 w q v W':=⟨h.hK.later b,h.hO.kp he ((Kp.refl N W).below b bG) bG,h.hP.below b h.hP.1,h.hz,⟨h.hN.1,bg h.hN.2 b.size⟩,h.hp⟩
theorem K0.read (h:K0 e ck m er rd B n N p C W0 w q v W) (he:e.Ok) (j:Below W.heap.size W W1) (o:W.heap.size<W1.heap.size) (i:Below W1.heap.size W1 W2) (k:e.R (rd x) cs W2) (hF:B7 W1.heap.size cs W2) (A:W3.heap[W.heap.size]?=some (.cells cs.toArray e.t (0,0))) (f:aL W.heap.size W2 W3):K0 e ck m er rd B n N p C W0 w q v W3∧VV e rd N v x W.heap.size cs W3:=by
 have I:=i.size;have H:=f.size;have F:=h.hN;have G:=h.later he (j.trans (i.mono (pD o)));refine⟨⟨G.hK.apart f (by omega),h.hO.kp he ?_ bG,?_,h.hz,⟨F.1,by omega⟩,h.hp⟩,⟨aE A,he.Cd k fun u r b c=>f.block b (hF u r b c).2 (by have:=(hF u r b c).1;omega),he.len k,he.all k⟩,fun y g b c=>⟨by have:=(hF y g b c).1;omega,by have:=(hF y g b c).2;omega⟩,fun y g b c e=>?_,by omega,by omega⟩
 ·exact⟨by omega,fun b s l=>(f.block b (by omega) (by omega)).trans ((i.block b (by omega)).trans (j.block b l))⟩
 ·refine⟨by have:=h.hP.1;omega,fun b s l=>?_⟩
  have:=h.hP.1;exact(f.block b (by omega) (by omega)).trans ((i.block b (by omega)).trans ((j.block b (by omega)).trans (h.hP.2 b s l)))
 ·obtain⟨J,z,_⟩:=h.hO
  have:=Te z e;have:=(hF y g b c).1;omega
theorem K0.next (f:vF n ((C.set p v).set p v') w W) (k:rf e N v' (((cE ck m B).take q).map rd++[rd x]) W) (j:Kp (n+2) W0 W) (g:firstE er ((cE ck m B).take q)=0) (h:er x=0) (l:n+2≤N∧N≤W.heap.size) (c:q<(cE ck m B).length) (b:(cE ck m B).getD q []=x) (i:p<C.length):K0 e ck m er rd B n N p C W0 w (q+1) v' W:=⟨by rw[List.set_set]at f;exact f,by rw[lU _ [] q c,b,kN];exact k,j,by rw[lU _ [] q c,b,wP,aj g,h],l,i⟩
end
section
variable {ops:Array Oper} {Q:Exit→Act→World→Prop} {rest:List Oper} {a:Act} {d:Option Tmp} {D:Tmp} {ty E:TypeId} {pos:String} {af:Array Edge} {x y:Operand} {W:World} {α:Type} {e:El α} {u:α} {cs:List Value}
theorem adh (he:e.Ok) (b:e.t=E) (k:∀W',Hid (W'.heap[W.heap.size]?=some (.cells (zeroOf prog e.t) e.t (0,0)))→Hid (Below W.heap.size W W')→W.heap.size<W'.heap.size→wpList prog ops Q rest (a.put (some D) (.pointer (some ⟨W.heap.size,0,none⟩))) W'):wpList prog ops Q (⟨some D,.alloc E,ty,pos,af,none⟩::rest) a W:=by subst b;exact aH rfl fun K c=>bT e.t rfl D rfl (zeroOf prog e.t) e.N (aG he.row).1 (c _ _ (k _ (ak _ _ _ _ rfl) dt (by rw[bn];omega)))
theorem stE {g Z} (he:e.Ok) (i:e.t=E) (b:e.R u cs W) (c:W.heap[g]?=some (.cells Z e.t (0,0))) (hZ:Z.size=e.N) (h:a.eval x= .pointer (some ⟨g,0,none⟩)) (f:a.eval y= .agg cs.toArray) (k:∀W',W'.heap[g]?=some (.cells cs.toArray e.t (0,0))→aL g W W'→wpList prog ops Q rest (a.put d undef) W'):wpList prog ops Q (⟨d,.store E x y,ty,pos,af,none⟩::rest) a W:=by subst i;exact aH rfl fun K j=>wp_store_row e.t x y rfl g h cs.toArray f (he.all b) (by rw[ah he.row,cI,he.len b]) Z e.t c (by rw[hZ,cI,he.len b]) fun W' o l=>j _ _ (k W' o l)
end
end Go.Proofs.YtjeoeibdgciafaaGreatDoor
