/- Steps of the proof. -/
import Derived.Test.YtjeoeibdgciafaaGreatDoorM9
set_option linter.all false
set_option maxRecDepth 100000
set_option maxHeartbeats 16000000
namespace Go.Proofs.YtjeoeibdgciafaaGreatDoor
open Go.RowKit BigFrame
open Go.Proofs.Tryz
def yx {p:Int→Prop} (h:∀n:Fin 256,p ((n:Nat):Int)) {y:Int} (c:0≤y) (b:y≤255):p y:=by have a:=h ⟨y.toNat,by omega⟩;rw[show (((⟨y.toNat,by omega⟩:Fin 256):Nat):Int)=y from by show ((y.toNat:Nat):Int)=y;omega]at a;exact a
def Ue {y:Int} (c:0≤y) (b:y≤255) {r:Nat} (a:r<8):y%2^(r+1)=y%2^r+(if mz y r≠0 then 2^r else 0):=by
 have h:∀y:Fin 256,∀r:Fin 8,((y:Nat):Int)%2^((r:Nat)+1)=((y:Nat):Int)%2^(r:Nat)+(if mz ((y:Nat):Int) (r:Nat)≠0 then 2^(r:Nat)else 0):=by unfold mz;decide+kernel
 exact yx (p:=fun y=>y%2^(r+1)=y%2^r+(if mz y r≠0 then 2^r else 0)) (fun n=>h n ⟨r,a⟩) c b
def WL {y:Int} (b:0≤y) (a:y≤255):y%2^Lib.bitLen y.toNat=y:=by
 have h:∀n:Fin 256,((n:Nat):Int)%2^Lib.bitLen (n:Nat)=((n:Nat):Int):=by decide+kernel
 exact yx (p:=fun y=>y%2^Lib.bitLen y.toNat=y) (fun n=>h n) b a
def ZU {y:Int} (d:0≤y) (c:y≤255) {s:Nat} (hs:s<8) (b:2^s≤y) (a:y<2^(s+1)):Lib.bitLen y.toNat=s+1:=by
 have h:∀n:Fin 256,∀s:Fin 8,(2:Int)^(s:Nat)≤((n:Nat):Int)→((n:Nat):Int)<2^((s:Nat)+1)→Lib.bitLen (n:Nat)=(s:Nat)+1:=by decide+kernel
 exact yx (p:=fun y=>2^s≤y→y<2^(s+1)→Lib.bitLen y.toNat=s+1) (fun n=>h n ⟨s,hs⟩) d c b a
def U9 {y:Int} (d:0≤y) (c:y≤255) {s r:Nat} (hs:s<8) (a:r<8) (b:y<2^s):mz (y+2^s) r=if r=s then 1 else mz y r:=by
 have h:∀n:Fin 256,∀s:Fin 8,((n:Nat):Int)<2^(s:Nat)→∀r:Fin 8,mz (((n:Nat):Int)+2^(s:Nat)) (r:Nat)=if (r:Nat)=(s:Nat)then 1 else mz ((n:Nat):Int) (r:Nat):=by unfold mz;decide+kernel
 exact yx (p:=fun y=>y<2^s→mz (y+2^s) r=if r=s then 1 else mz y r) (fun n e=>h n ⟨s,hs⟩ e ⟨r,a⟩) d c b
def Yl {q:List Int} (b:∀x∈q,CK.ok .u8 x) (j):0≤q.getD j 0∧q.getD j 0≤255:=by
 by_cases h:j<q.length
 ·have a:CK.ok .u8 (q.getD j 0):=b _ (by
   rw[show q.getD j 0=q[j] by simp[List.getD,h]]
   exact oI _)
  exact⟨a.1,by have:=a.2;omega⟩
 ·rw[show q.getD j 0=0 by simp[List.getD,h]]
  exact⟨by decide,by decide⟩
def J6 {q l:List Int} (a:∀x∈q,CK.ok .u8 x):∀k,(∀i,i<k→l.getD i 0=sy q i)→∀j,bitC l k j=q.getD j 0%2^(min 8 (k-8*j))
 |0,_,j=>by simp[bitC,Int.emod_one]
 |k+1,h,j=>by
  have f:=J6 a k (fun i n=>h i (by omega)) j;obtain⟨d,c⟩:=Yl a j;simp only[bitC];rw[f,h k (by omega)];by_cases e:j=k/8
  ·have m:min 8 (k-8*j)=k%8:=by omega
   have g:min 8 (k+1-8*j)=k%8+1:=by omega
   rw[m,g,Ue d c (by omega:k%8<8)];unfold sy;rw[←e]
   congr 1
   by_cases b:mz (q.getD j 0) (k%8)≠0
   ·rw[aj b,aj ⟨rfl,b⟩]
   ·rw[an b,an (fun h=>b h.2)]
  ·rw[an (fun h=>e h.1),Fi]
   by_cases o:j<k/8
   ·rw[show min 8 (k-8*j)=8 by omega,show min 8 (k+1-8*j)=8 by omega]
   ·rw[show min 8 (k-8*j)=0 by omega,show min 8 (k+1-8*j)=0 by omega]
def Uf {q} (c:∀x∈q,CK.ok .u8 x) (g:q.length≠0) (f:ga q≠0):iq (ju q (jZ q))=q:=by
 obtain⟨v,u⟩:=OA c g f;obtain⟨a,b⟩:=yq c g;obtain⟨y,h,_⟩:=ny (ga q) a b;have w:=(h f).1
 have k:=J6 (l:=ju q (jZ q)++[1]) c (jZ q+1) (fun i z=>by
  by_cases e:i=jZ q
  ·subst e
   rw[zV _ _ _ (dn _ _),OV c g f]
  ·rw[←zU _ _ _ (by rw[dn];omega),qZ _ _ _ (by omega)])
 have hn:jZ q/8+1=q.length:=by omega
 unfold iq;rw[dn,hn];apply mG;intro j;by_cases d:j<q.length
 ·have e:(Q' (ju q (jZ q)++[1]) q.length (jZ q+1))[j]?=some (bitC (ju q (jZ q)++[1]) (jZ q+1) j):=by simp[Q',d]
  rw[e,k j,fS d];have o:q.getD j 0=q[j]:=by simp[List.getD,d]
  obtain⟨s,r⟩:=Yl c j;rw[←o]
  congr 1
  by_cases hl:j=q.length-1
  ·have n:q.getD j 0=ga q:=by unfold ga;rw[hl]
   have m:min 8 (jZ q+1-8*j)=Lib.bitLen (ga q).toNat:=by unfold jZ;omega
   rw[m,n];exact WL a b
  ·rw[show min 8 (jZ q+1-8*j)=8 by omega]
   have p:(2:Int)^8=256:=by decide
   omega
 ·rw[eT (by rw[pf];omega),eT (by omega)]
def GC (l:List Int):∀k j r,r<8→mz (bitC l k j) r=if 8*j+r<k∧l.getD (8*j+r) 0≠0 then 1 else 0
 |0,j,r,hr=>by simp[bitC,mz]
 |k+1,j,r,hr=>by
  have a:=GC l k j r hr;obtain⟨g,f⟩:=z_ l k j;have b:=(uF l k j).2;simp only[bitC];by_cases c:j=k/8∧l.getD k 0≠0
  ·rw[aj c]
   obtain⟨m,i⟩:=c;rw[show min 8 (k-8*j)=k%8 by omega]at b;rw[U9 g f (by omega:k%8<8) hr b];by_cases e:r=k%8
   ·rw[aj e,aj ⟨by omega,by rw[show 8*j+r=k by omega];exact i⟩]
   ·rw[an e,a]
    by_cases d:8*j+r<k∧l.getD (8*j+r) 0≠0
    ·rw[aj d,aj ⟨by omega,d.2⟩]
    ·rw[an d,an (fun h=>d ⟨by have:=h.1;omega,h.2⟩)]
  ·rw[an c,Fi,a]
   by_cases d:8*j+r<k∧l.getD (8*j+r) 0≠0
   ·rw[aj d,aj ⟨by omega,d.2⟩]
   ·rw[an d,an (fun h=>by
     by_cases e:8*j+r=k
     ·exact c ⟨by omega,by rw[←e];exact h.2⟩
     ·exact d ⟨by have:=h.1;omega,h.2⟩)]
def FY (l j) (h:j<l.length/8+1):(iq l).getD j 0=bitC (l++[1]) (l.length+1) j:=by simp[iq,Q',List.getD,h]
def ME (l):ga (iq l)=bitC (l++[1]) (l.length+1) (l.length/8):=by unfold ga;rw[kJ,rV,FY _ _ (by omega)]
def A8 (l:List Int):2^(l.length%8)≤ga (iq l)∧ga (iq l)<2^(l.length%8+1)∧ga (iq l)≤255:=by
 rw[ME];obtain⟨c,b⟩:=uF (l++[1]) l.length (l.length/8);obtain⟨_,a⟩:=z_ (l++[1]) (l.length+1) (l.length/8);rw[show min 8 (l.length-8*(l.length/8))=l.length%8 by omega]at b
 have e:bitC (l++[1]) (l.length+1) (l.length/8)=bitC (l++[1]) l.length (l.length/8)+2^(l.length%8):=by simp only[bitC];rw[aj ⟨trivial,by rw[zV l 1 _ rfl];decide⟩]
 refine⟨by omega,?_,a⟩;rw[e,Int.pow_succ];omega
def DL (l):jZ (iq l)=l.length:=by
 obtain⟨a,b,c⟩:=A8 l;have d:=BM (qB (l.length%8));have e:(2:Int)^0=1:=by decide
 have h:=ZU (y:=ga (iq l)) (by omega) c (by omega:l.length%8<8) a b;unfold jZ;rw[h,kJ];omega
def D9 (l):ga (iq l)≠0:=by
 obtain⟨a,_,_⟩:=A8 l;have b:=BM (qB (l.length%8));have c:(2:Int)^0=1:=by decide
 omega
def DU {l} (a:l.length≤64):iO (iq l)=0:=by unfold iO;rw[an (by rw[kJ];omega),an (D9 l),an (by rw[DL];omega)]
def KL {l} (f:l.length≤64) (d:∀x∈l,CK.ok .bool x):fi (iq l)=l:=by
 unfold fi;rw[aj (DU f),DL];apply mG;intro i;by_cases b:i<l.length
 ·have e:(ju (iq l) l.length)[i]?=some (sy (iq l) i):=by simp[ju,b]
  rw[e,fS b];have c:l.getD i 0=l[i]:=by simp[List.getD,b]
  rw[←c]
  congr 1
  unfold sy;rw[FY _ _ (by omega),GC _ _ _ _ (by omega),show 8*(i/8)+i%8=i by omega,←zU l 1 i b];have a:CK.ok .bool (l.getD i 0):=d _ (by rw[c];exact oI _);rcases a with a|a
  ·rw[a,an (fun h=>h.2 rfl)]
  ·rw[a,aj ⟨by omega,by decide⟩]
 ·rw[eT (by rw[dn];omega),eT (by omega)]
def U8 (q):∀x∈fi q,CK.ok .bool x:=by
 unfold fi;split
 ·exact yA _ _
 ·intro x a;simp at a
def Qw {q} (h:iO q=0):q.length≠0∧ga q≠0∧jZ q≤64:=by
 unfold iO at h;by_cases b:q.length=0
 ·rw[aj b]at h;cases h
 ·rw[an b]at h
  by_cases a:ga q=0
  ·rw[aj a]at h;cases h
  ·rw[an a]at h
   by_cases c:64<jZ q
   ·rw[aj c]at h;cases h
   ·exact⟨b,a,by omega⟩
def HS {q} (h:iO q=0):(fi q).length=jZ q:=by unfold fi;rw[aj h,dn]
end Go.Proofs.YtjeoeibdgciafaaGreatDoor
namespace Go.Proofs.YtjeoeibdgciafaaGreatDoor
open Go.ChangeShapes Go.WideShapes Go.ChangeAt Go.RowKit BigFrame
open Go.Proofs.Tryz
def AM (l:List Int) (a:Nat) (b:List Int) (d c:Nat→Int):Prop:=
 (a≠0∧b=[]∧d=(fun _=>0)∧c=(fun _=>0)∧(l.length<228∧a=4∨228≤l.length∧aK l 0≠228∧a=5∨228≤l.length∧aK l 0=228∧iO (l.drop 228)=a))∨
 (a=0∧228≤l.length∧aK l 0=228∧iO (l.drop 228)=0∧b=fi (l.drop 228)∧d=dp ((l.drop 4).take 128)∧c=fun j=>l.getD (132+j) 0)
def Nf (l):∃f c e d,AM l f c e d:=by
 by_cases g:l.length<228
 ·exact⟨4,[],_,_,Or.inl ⟨by decide,rfl,rfl,rfl,Or.inl ⟨g,rfl⟩⟩⟩
 ·by_cases a:aK l 0=228
  ·by_cases b:iO (l.drop 228)=0
   ·exact⟨0,_,_,_,Or.inr ⟨rfl,by omega,a,b,rfl,rfl,rfl⟩⟩
   ·exact⟨iO (l.drop 228),[],_,_,Or.inl ⟨b,rfl,rfl,rfl,Or.inr (Or.inr ⟨by omega,a,rfl⟩)⟩⟩
  ·exact⟨5,[],_,_,Or.inl ⟨by decide,rfl,rfl,rfl,Or.inr (Or.inl ⟨by omega,a,rfl⟩)⟩⟩
def Po.later {l s W W'} (h:Po l s W) (b:Below W.heap.size W W'):Po l s W':=by obtain⟨a,c,f,e,d⟩:=h;exact⟨a,c,f,e,d.later b⟩
def lA (a:List Int) (c b:Nat→Int) (Y:Array Value) (W:World):Prop:=∃s,Y=(bI s c b).toArray∧Po a s W
def rC (a:Nat) (b:List Int) (d c:Nat→Int) (Y:Array Value) (W:World):Prop:=∃s,Y=(bI s d c).toArray∧iT b s a W
def rC.at {a b d c Y W} (h:rC a b d c Y W):lA b d c Y W:=by obtain⟨s,e,f⟩:=h;exact⟨s,e,f.at⟩
def lA.later {a c b} (Y W W') (h:lA a c b Y W) (d:Below W.heap.size W W'):lA a c b Y W':=by obtain⟨s,e,f⟩:=h;exact⟨s,e,f.later d⟩
def lA.size {a c b Y W} (h:lA a c b Y W):Y.size=197:=by obtain⟨s,rfl,_⟩:=h;rw[cI,bp]
def lA.one {a d b Y W} (h:lA a d b Y W):Y.all (·.oneCell')=true:=by obtain⟨s,rfl,e,c,rfl,_⟩:=h;exact kj _ _ _ _ _
def lA.congr {a f c d b Y W} (h:lA a f c Y W) (i:∀j,j<100→f j=d j) (hs:∀j,j<96→c j=b j):lA a d b Y W:=by obtain⟨s,e,k⟩:=h;refine⟨s,?_,k⟩;rw[e];unfold bI;rw[bU (N:=100) (kd:=ba) i,bU (N:=96) (kd:=fun _=> .u8) hs]
def uH (W):lA [] (fun _=>0) (fun _=>0) (bI (.slice none 0 0) (fun _=>0) (fun _=>0)).toArray W:=⟨_,rfl,none,0,rfl,fun _=>rfl,On⟩
def Km (l f m u r) (z:AM l f m u r) (d c w) (hs:cG d c l w) (y:∀b o,d=some ⟨b,o,none⟩→b<w.heap.size) (n:l.length<4294967296):
 Calls prog 69 #[.slice d l.length c] w fun e a=>(∃Y:Array Value,e= .returned (.tuple #[.agg Y,.int .i64 (f:Int)])∧Y.size=197∧Y.all (·.oneCell')=true∧rC w.heap.size m u r Y a)∧Below w.heap.size w a:=by
 rcases z with⟨B,rfl,rfl,rfl,h⟩|⟨rfl,hl,v,A,rfl,rfl,rfl⟩
 ·have k:∀i:Ending,i= .returned (.tuple #[.agg (bI (.slice none 0 0) (fun _=>0) (fun _=>0)).toArray,.int .i64 (f:Int)])→∀a,∃Y:Array Value,i= .returned (.tuple #[.agg Y,.int .i64 (f:Int)])∧Y.size=197∧Y.all (·.oneCell')=true∧rC w.heap.size [] (fun _=>0) (fun _=>0) Y a:=
   fun i he a=>⟨_,he,(uH a).size,(uH a).one,_,rfl,iT.nil _ _⟩
  exact((Du l d c w hs y (by omega) f B).2 n h).mono fun e a ⟨he,g⟩=>⟨k e he a,g⟩
 ·refine(Mq l l.length (l.length-228) d c w hs rfl (by omega) n v A).mono fun e a ⟨⟨s,he,q⟩,g⟩=>⟨?_,g⟩
  have p:lA (fi (l.drop 228)) (dp ((l.drop 4).take 128)) (fun j=>l.getD (132+j) 0) (bI s (dp ((l.drop 4).take 128)) (fun j=>l.getD (132+j) 0)).toArray a:=⟨s,rfl,q.at⟩;exact⟨_,he,p.size,p.one,s,rfl,q⟩
def HG (l b k q p) (u:AM l b k q p) (d c w) (hs:cG d c l w) (m:l.length<4294967296):
 Calls prog 79 #[.slice d l.length c] w fun e a=>(∃Y:Array Value,e= .returned (.tuple #[.agg Y,.int .i64 (b:Int)])∧Y.size=197∧Y.all (·.oneCell')=true∧rC w.heap.size k q p Y a)∧Below w.heap.size w a:=by
 rcases u with⟨y,rfl,rfl,rfl,h⟩|⟨rfl,hl,r,v,rfl,rfl,rfl⟩
 ·have i:∀g:Ending,g= .returned (.tuple #[.agg (bI (.slice none 0 0) (fun _=>0) (fun _=>0)).toArray,.int .i64 (b:Int)])→∀a,∃Y:Array Value,g= .returned (.tuple #[.agg Y,.int .i64 (b:Int)])∧Y.size=197∧Y.all (·.oneCell')=true∧rC w.heap.size [] (fun _=>0) (fun _=>0) Y a:=
   fun g he a=>⟨_,he,(uH a).size,(uH a).one,_,rfl,iT.nil _ _⟩
  exact((AU l d c w hs (by omega) b y).2 m h).mono fun e a ⟨he,f⟩=>⟨i e he a,f⟩
 ·refine(Kj l l.length (l.length-228) d c w hs rfl (by omega) m r v).mono fun e a ⟨⟨s,he,o⟩,f⟩=>⟨?_,f⟩
  have n:lA (fi (l.drop 228)) (dp ((l.drop 4).take 128)) (fun j=>l.getD (132+j) 0) (bI s (dp ((l.drop 4).take 128)) (fun j=>l.getD (132+j) 0)).toArray a:=⟨s,rfl,o.at⟩;exact⟨_,he,n.size,n.one,s,rfl,o⟩
def QC {l c f e} (a:∀x∈l,CK.ok .u8 x) (h:AM l 0 c f e):dU c f e=l∧c.length≤64∧(∀j,j<100→(ba j).ok (f j))∧∀j,j<96→CK.ok .u8 (e j):=by
 rcases h with⟨p,_⟩|⟨_,hl,n,d,rfl,rfl,rfl⟩
 ·exact absurd rfl p
 ·obtain⟨b,k,i⟩:=Qw d
  have g:((l.drop 4).take 128).length=128:=by rw[cf,bJ];rw[bJ]at b;omega
  refine⟨?_,by rw[HS d];exact i,FP g (jO a _ _),fun j _=>iu a _⟩;have o:fi (l.drop 228)=ju (l.drop 228) (jZ (l.drop 228)):=by unfold fi;rw[aj d]
  have q:228<l.length:=by rw[bJ]at b;omega
  unfold dU;rw[o,Uf (fun x m=>a x (kM m)) b k,DV _ g (jO a _ _),tG _ l 0 132 96 (fun j _=>by rw[bY]) (by omega)];rw[show jB 228=l.take 4 from(mX a (by omega) 228 n).symm];rw[dA,oW l 132 96 228 (by decide),dA,oW l 4 128 132 (by decide),jI]
def Kt (a c b):aK (dU a c b) 0=228:=by
 unfold aK
 have e:rdI (fun j=>(dU a c b).getD (0+j) 0) 4=rdI (fun j=>(jB 228).getD j 0) 4:=uw 4 fun j d=>by rw[bY];simp only[dU,dA,List.getD];rw[eY (by rw[cC];exact d)]
 rw[e];decide
def QW {a c b} (e:a.length≤64) (k:∀m∈a,CK.ok .bool m) (l:∀j,j<100→(ba j).ok (c j)) (hs:∀j,j<96→CK.ok .u8 (b j)):
 ∃g f,AM (dU a c b) 0 a g f∧(∀j,j<100→g j=c j)∧∀j,j<96→f j=b j:=by
 have i:=jA a c b
 have h:(dU a c b).drop 228=iq a:=by unfold dU;rw[Az (by simp[cC,bS,az])]
 have n:((dU a c b).drop 4).take 128=eQ c:=by rw[show dU a c b=jB 228++(eQ c++(ff b 0 96++iq a)) by simp[dU]];exact gJ _ _ _ 4 128 rfl (bS _)
 have o:((dU a c b).drop 132).take 96=ff b 0 96:=by rw[show dU a c b=(jB 228++eQ c)++(ff b 0 96++iq a) by simp[dU]];exact gJ _ _ _ 132 96 (by simp[cC,bS]) (az _ _ _)
 refine⟨_,_,Or.inr ⟨rfl,by omega,Kt _ _ _,by rw[h];exact DU e,by rw[h,KL e k],rfl,rfl⟩,fun j d=>?_,fun j d=>?_⟩
 ·rw[n]
  exact Dv c l j d
 ·show (dU a c b).getD (132+j) 0=b j
  rw[←bA _ 132 96 j d,o,n9 _ _ _ _ d,bY]
def adV:Vb prog 10 4 1 (fun _=> .bool)=true:=by kernel_rfl
def adw:prog.cellsOf 4=1:=by kernel_rfl
def Xm (X:Array Value) (W:World):Prop:=∃a c b,lA a c b X W∧(∀m∈a,CK.ok .bool m)∧(∀j,j<100→(ba j).ok (c j))∧(∀j,j<96→CK.ok .u8 (b j))∧a.length≤1048576
def Qk:kindsB prog 90 197 vR=true:=by kernel_rfl
def QP:(oQ prog 90).getD 0 0=88:=by kernel_rfl
def T8 {H:Type} {j:TypeId×Value→H} {W g b d t e} (o:prog.underlying t=some (.slice e)) {f k n c} {x:DataW H×List MemPlace} (h:DataW.trod j prog W g b d f t [.slice k n c]=some x):k=none→c=0:=fun l=>by
 subst l;rcases Go.Deep.open_slice o h with⟨e,_⟩|⟨a,q,s,m,r,D,u,e,_⟩
 ·injection e with i _
  injection i
 ·injection e with i _
  injection i with p _ _
  cases p
def WG {H:Type} {k:TypeId×Value→H} {W g b d N f X} {x:DataW H×List MemPlace} (h:DataW.trod k prog W g b d f 90 X.toList=some x) (z:Rows.uptoBulk x.1≤N) (F:N≤1048576):Xm X W:=by
 obtain⟨hl,u,ha⟩:=nw Qk h z;obtain⟨D,G,C,B,i,I⟩:=ha 0 (by decide);rw[QP]at i;obtain⟨r,l,q,rfl,n,E⟩:=FC kW adV adw i;have w:=T8 kW i
 have o:∀j,j<197→∀c,vR j=some c→X.toList[j]?=some (c.mk (num (X.toList.getD j undef)))∧c.ok (num (X.toList.getD j undef)):=fun j a c y=>by
  obtain⟨v,m,e,s⟩:=u j a c y;have A:X.toList.getD j undef=v:=by simp only[List.getD,m,Option.getD_some]
  rw[A,m];exact⟨fB some e,s⟩
 have p:∀j,j<100→X.toList[1+j]?=some ((ba j).mk (num (X.toList.getD (1+j) undef)))∧(ba j).ok (num (X.toList.getD (1+j) undef)):=fun j a=>o (1+j) (by omega) (ba j) (by unfold vR;rw[an (by omega),aj (by omega),jH]);have hs:∀j,j<96→X.toList[101+j]?=some (.int .u8 (num (X.toList.getD (101+j) undef)))∧CK.ok .u8 (num (X.toList.getD (101+j) undef)):=fun j a=>o (101+j) (by omega) .u8 (by unfold vR;rw[an (by omega),an (by omega)]);refine⟨q,fun j=>num (X.toList.getD (1+j) undef),fun j=>num (X.toList.getD (101+j) undef),⟨_,?_,r,l,rfl,w,n⟩,n.ok,fun j a=>(p j a).2,fun j a=>(hs j a).2,by omega⟩;apply Array.toList_inj.1;exact F9 hl B (fun j a=>(p j a).1) (fun j a=>(hs j a).1)
def ZG:rowB prog 90 197=true:=by kernel_rfl
end Go.Proofs.YtjeoeibdgciafaaGreatDoor
namespace Go.Proofs.YtjeoeibdgciafaaGreatDoor
open Go.RowKit BigFrame
open Go.Proofs.Tryz
structure Ix where
 aO:List Int
 fd:Nat→Int
 fs:Nat→Int
structure Ix.ok (a:Ix):Prop where
 hw:∀m∈a.aO,CK.ok .u64 m
 hd:∀j,j<100→(ba j).ok (a.fd j)
 hs:∀j,j<96→CK.ok .u8 (a.fs j)
 Es:a.aO.length≤1048576
def Ix.err (a:Ix):Int:=if a.aO.length≤64 then 0 else 6
def Ix.L (a:Ix):List Int:=if a.aO.length≤64 then eU a.aO a.fd a.fs else[]
def Ix.R (a:Ix):Nat→Int:=if a.aO.length≤64 then xT a.aO a.fd a.fs else bh
def Ix.cells (a:Ix) (s:Value):List Value:=bI s a.fd a.fs
def Ix.at (a:Ix) (s:Value) (W:World):Prop:=∃b c,s= .slice b a.aO.length c∧Row W b .u64 a.aO
def Ix.at.later {a:Ix} {s:Value} {W W'} (h:a.at s W) (d:Below W.heap.size W W'):a.at s W':=by obtain⟨b,c,e,f⟩:=h;exact⟨b,c,e,f.later d⟩
def Ix.aT (a:Ix) (s:Value):(a.cells s).length=197:=bp _ _ _
def Ix.IF (a:Ix):a.L.length≤740:=by
 unfold Ix.L;split
 ·rw[ll];omega
 ·simp
def Ix.We {a:Ix} (h:a.ok):∀m∈a.L,CK.ok .u8 m:=by
 unfold Ix.L;split
 ·exact QB h.hd h.hs
 ·intro m b;simp at b
def Ix.IE {a:Ix} (h:a.ok):fY a.R:=by
 unfold Ix.R;split
 ·exact Mh h.hd h.hs
 ·exact g7
def Ix.one {a:Ix} {s:Value} {W} (h:a.at s W):∀v∈a.cells s,v.oneCell'=true:=by obtain⟨d,c,rfl,_⟩:=h;have b:=kj d a.aO.length c a.fd a.fs;rw[vM,nn]at b;exact b
def Tj {a:Ix} (d:a.ok) {s:Value} {W} (h:a.at s W):
 Calls prog 92 #[.agg (a.cells s).toArray] W fun e f=>(∃b c,e= .returned (.tuple #[.slice b a.L.length c,.int .i64 a.err])∧(b=none→c=0)∧bc W.heap.size (.slice b a.L.length c) a.L f)∧Below W.heap.size W f:=by
 obtain⟨b,c,rfl,i⟩:=h;unfold Ix.L Ix.err Ix.cells;by_cases g:a.aO.length≤64
 ·simp only[aj g]
  rw[ll];exact WY a.aO b c a.fd a.fs d.hd d.hs W i g
 ·simp only[an g]
  exact(UN a.aO b c a.fd a.fs d.hd d.hs W i (by omega) (by have:=d.Es;omega)).mono fun e f ⟨k,j⟩=>⟨⟨none,0,k,fun _=>rfl,bc.nil _ _⟩,j⟩
def xV {a:Ix} (d:a.ok) {s:Value} {W} (h:a.at s W):
 Calls prog 110 #[.agg (a.cells s).toArray] W fun e f=>(∃b c,e= .returned (.tuple #[.slice b a.L.length c,.int .i64 a.err])∧(b=none→c=0)∧bc W.heap.size (.slice b a.L.length c) a.L f)∧Below W.heap.size W f:=by
 obtain⟨b,c,rfl,i⟩:=h;unfold Ix.L Ix.err Ix.cells;by_cases g:a.aO.length≤64
 ·simp only[aj g]
  rw[ll];exact TX a.aO b c a.fd a.fs d.hd d.hs W i g
 ·simp only[an g]
  exact(P0 a.aO b c a.fd a.fs d.hd d.hs W i (by omega) (by have:=d.Es;omega)).mono fun e f ⟨k,j⟩=>⟨⟨none,0,k,fun _=>rfl,bc.nil _ _⟩,j⟩
def OF {a:Ix} (b:a.ok) {s:Value} {W} (h:a.at s W) (i:cY W):
 Calls prog 159 #[.agg (a.cells s).toArray] W fun e j=>e= .returned (.tuple #[.agg (ax a.R),.int .i64 a.err])∧Below W.heap.size W j:=by
 obtain⟨f,c,rfl,g⟩:=h;unfold Ix.R Ix.err Ix.cells;by_cases d:a.aO.length≤64
 ·simp only[aj d]
  exact TR a.aO f c a.fd a.fs b.hd b.hs W i g d
 ·simp only[an d]
  exact PU a.aO f c a.fd a.fs b.hd b.hs W i g (by omega) (by have:=b.Es;omega)
def tL {a:Ix} (b:a.ok) {s:Value} {W} (h:a.at s W) (i:cY W):
 Calls prog 124 #[.agg (a.cells s).toArray] W fun e j=>e= .returned (.tuple #[.agg (ax a.R),.int .i64 a.err])∧Below W.heap.size W j:=by
 obtain⟨f,c,rfl,g⟩:=h;unfold Ix.R Ix.err Ix.cells;by_cases d:a.aO.length≤64
 ·simp only[aj d]
  exact PO a.aO f c a.fd a.fs b.hd b.hs W i g d
 ·simp only[an d]
  exact Mc a.aO f c a.fd a.fs b.hd b.hs W i g (by omega) (by have:=b.Es;omega)
def lc (a b:Ix) (s t:Value):List Value:=a.cells s++b.cells t
def jd (a b s t):(lc a b s t).length=394:=by simp[lc,Ix.aT]
def k_ (a b:Ix):Int:=if a.err=0 then b.err else a.err
def kZ (a b:Ix):List Int:=if k_ a b=0 then jB 8++(jB ((8+a.L.length:Nat):Int)++(a.L++b.L))else[]
def zx (a b:Ix):Nat→Int:=if k_ a b=0 then fullT 1 (leaf [a.R,b.R])else bh
def p8 {a b} (h:k_ a b=0):(kZ a b).length=8+a.L.length+b.L.length:=by unfold kZ;rw[aj h];simp only[bM,cC];omega
def Xk (a b):(kZ a b).length≤2000:=by
 have d:=a.IF;have c:=b.IF;by_cases h:k_ a b=0
 ·rw[p8 h];omega
 ·unfold kZ;rw[an h];simp
def Xj {a b} (ha:a.ok) (d:b.ok):∀m∈kZ a b,CK.ok .u8 m:=by
 unfold kZ;split
 ·exact dB (rt _) (dB (rt _) (dB (Ix.We ha) (Ix.We d)))
 ·intro m c;simp at c
def lg:(prog.info? 86).map (·.size)=some 394:=by kernel_rfl
def pQ (a b s t):lc a b s t=[]++(a.cells s++b.cells t):=rfl
def pP (a b s t):lc a b s t=a.cells s++(b.cells t++[]):=by simp[lc]
def W_ (a b) (B:a.ok) (A:b.ok) (s t w) (G:a.at s w) (F:b.at t w):
 Calls prog 32 #[.agg (lc a b s t).toArray] w fun e y=>(∃g c,e= .returned (.tuple #[.slice g (kZ a b).length c,.int .i64 (k_ a b)])∧(g=none→c=0)∧bc w.heap.size (.slice g (kZ a b).length c) (kZ a b) y)∧Below w.heap.size w y:=by
 have ha:=aa B;have I:=aa A;have N:=aa G;have M:=aa F;have R:=a.IF;have Q:=b.IF;have K:=aa (show k_ a b=if a.err=0 then b.err else a.err from rfl);have hL:=aa (show kZ a b=if k_ a b=0 then jB 8++(jB ((8+a.L.length:Nat):Int)++(a.L++b.L))else[]from rfl);have v:=aa (fun h=>p8 (a:=a) (b:=b) h);clear B A G F;generalize k_ a b=E at*;generalize kZ a b=L at*
 go_enter func32,ntmps32
 go_wp2_with (first
  |refine ao 65 ?_;refine fX 4 oe ?_
   refine bZ (fun W=>dD w.heap.size (lc a b s t) 86 W.heap.size [] [] [] [] 0 w W) (dD.begin rfl rfl) ?_;intro W C;have d:=aa C;clear C
  |refine ag 84 ?_;refine ab (by rfl) _ (ar _ 84 _ (by rfl) w.heap.size 0 rfl (a.cells s) _ (dK d.out.hX (pQ a b s t) 0 rfl) nC rfl (by rw[cS,Ix.aT])) ?_
  |refine ag 84 ?_;refine ab (by rfl) _ (ar _ 84 _ (by rfl) w.heap.size 197 rfl (b.cells t) _ (dK d.out.hX (pP a b s t) 197 (Ix.aT _ _)) nC rfl (by rw[cS,Ix.aT])) ?_
  |with_reducible refine(Tj ha.out (N.out.later d.out.hB)).mono ?_
   rintro r P ⟨⟨m,u,rfl,n,j⟩,l⟩;have f:=d.out.later l;have k:=aa (lh j d.out.hW);replace d:=aa f;clear f n j l
  |with_reducible refine(Tj I.out (M.out.later d.out.hB)).mono ?_
   rintro r P ⟨⟨m,u,rfl,n,j⟩,l⟩;have f:=d.out.later l;have k:=aa (lh j d.out.hW);replace d:=aa f;clear f n j l
  |with_reducible refine(dD.put d.out a.L a.L.length m u a.err k.out rfl (by decide) (by simp;omega) (by decide) (by decide)).mono ?_
   rintro r W ⟨rfl,f⟩;rw[aj rfl]at f;replace d:=aa f;clear k;clear f
  |with_reducible refine(dD.put d.out b.L b.L.length m u b.err k.out rfl (by decide) (by simp;omega) (by decide) (by decide)).mono ?_
   rintro r W ⟨rfl,f⟩;rw[←K.out]at f;replace d:=aa f;clear k
   clear f)
 by_cases q:E=0
 ·subst q
  have hl:=aa (v.out rfl)
  go_wp2_with (
   ((with_reducible refine(dD.done d.out L.length ?hl rfl ?ha ?he ?hs ?hn).mono ?hM)
    case hl=>rw[hl.out];simp;omega
    case ha=>
     intro i o
     match i,o with
     |0,_=>show 0+4≤8;decide
     |1,_=>show 4+4≤8;decide
    case he=>
     intro i o
     match i,o with
     |0,_=>show 0≤_;exact qB _
     |1,_=>show (([]:List Int)++a.L).length≤_;simp;omega
    case hs=>rw[hl.out];omega
    case hn=>decide
    rintro e W ⟨⟨g,c,rfl,z,D⟩,p⟩;have J:=aa D;have H:=aa z
    clear D z))
  refine bR rfl _ _ rfl rfl rfl ⟨⟨g,c,rfl,H.out,?_⟩,p⟩;have h:bc w.heap.size (.slice g L.length c) (jB 8++(jB ((8+a.L.length:Nat):Int)++(a.L++b.L))) W:=J.out;have O:L=jB 8++(jB ((8+a.L.length:Nat):Int)++(a.L++b.L)):=by have:=hL.out;simpa using this
  rw[←O]at h;exact h
 ·have hl:L=[]:=by rw[hL.out,an q]
  go_wp2_with (
   ((with_reducible refine(dD.xO d.out q).mono ?_)
    rintro e W ⟨rfl,p⟩))
  exact bR rfl _ _ rfl rfl rfl ⟨⟨none,0,by rw[hl];rfl,fun _=>rfl,by rw[hl];exact bc.nil _ _⟩,p⟩
def TT (a b) (j:a.ok) (i:b.ok) (s t w) (o:cY w) (u:a.at s w) (r:b.at t w):
 Calls prog 102 #[.agg (lc a b s t).toArray] w fun e y=>e= .returned (.tuple #[.agg (ax (zx a b)),.int .i64 (k_ a b)])∧Below w.heap.size w y:=by
 have ha:=aa j;have B:=aa i;have I:=aa u;have H:=aa r;have C:=aa o;have F:=aa (Ix.IE j);have D:=aa (Ix.IE i);have G:=aa (show k_ a b=if a.err=0 then b.err else a.err from rfl);have q:=aa (show zx a b=if k_ a b=0 then fullT 1 (leaf [a.R,b.R])else bh from rfl);clear j i u r o;generalize k_ a b=E at*;generalize zx a b=R at*
 go_enter func102,ntmps102
 go_wp2_with (first
  |refine ao 25 ?_;refine fX 2 cg ?_
  |refine ao 108 ?_;refine fX 4 jw ?_
   refine bZ (fun W=>bD w.heap.size (lc a b s t) 86 0 [] w W) (bD.begin (ak _ _ _ _ rfl) rfl C.out) ?_;intro W p;have c:=aa p;clear p
  |refine ag 84 ?_;refine ab (by rfl) _ (ar _ 84 _ (by rfl) w.heap.size 0 rfl (a.cells s) _ (dg c.out.hX (pQ a b s t) 0 rfl) nC rfl (by rw[cS,Ix.aT])) ?_
  |refine ag 84 ?_;refine ab (by rfl) _ (ar _ 84 _ (by rfl) w.heap.size 197 rfl (b.cells t) _ (dg c.out.hX (pP a b s t) 197 (Ix.aT _ _)) nC rfl (by rw[cS,Ix.aT])) ?_
  |with_reducible refine(OF ha.out (I.out.later c.out.hB) c.out.hT).mono ?_
   rintro e W ⟨rfl,f⟩;have d:=c.out.later f;clear f;replace c:=aa d;clear d
  |with_reducible refine(bD.put c.out a.R a.err F.out (by simp)).mono ?_
   rintro e W ⟨rfl,d⟩;rw[aj rfl]at d;replace c:=aa d;clear d
  |with_reducible refine(OF B.out (H.out.later c.out.hB) c.out.hT).mono ?_
   rintro e W ⟨rfl,f⟩;have d:=c.out.later f;clear f;replace c:=aa d;clear d
  |with_reducible refine(bD.put c.out b.R b.err D.out (by simp)).mono ?_
   rintro e W ⟨rfl,d⟩;rw[←G.out]at d;replace c:=aa d
   clear d)
 by_cases n:E=0
 ·subst n
  go_wp2_with (first
   |with_reducible refine(bD.done c.out 1 (by simp[lN]) (by simp) (by decide)).mono ?_
    rintro e W ⟨rfl,h,g⟩;have l:=aa g;have A:=h.size;clear g c
   |refine al 25 ?_;refine aq (w0:=w) (n0:=w.heap.size) 25 _ _ rfl rfl (w.heap.size+1) rfl _ rfl (aA _ _ _) (by rw[ah am];simp[ae]) _ 25 l.out (by rw[bL];simp[ae]) (by omega) h (fun J k m _=>?_))
  exact aI rfl (w.heap.size+1) 0 (ae 32 (fun _=> .u8) (fullT 1 (leaf [a.R,b.R]))) _ rfl k cH rfl (by rw[ah am,ac]) rfl ⟨by rw[show R=fullT 1 (leaf [a.R,b.R]) by have:=q.out;simpa using this];rfl,m⟩
 ·go_wp2_with (first
   |with_reducible refine(bD.xO c.out n).mono ?_
    rintro e W ⟨rfl,h,g⟩;have l:=aa g;have A:=h.size;clear g c
   |refine al 25 ?_;refine aq (w0:=w) (n0:=w.heap.size) 25 _ _ rfl rfl (w.heap.size+1) rfl _ rfl (aA _ _ _) (by rw[ah am];simp[ae]) _ 25 l.out (by rw[bL];simp[ae]) (by omega) h (fun J k m _=>?_))
  exact aI rfl (w.heap.size+1) 0 (ae 32 (fun _=> .u8) bh) _ rfl k cH rfl (by rw[ah am,ac]) rfl ⟨by rw[show R=bh by have:=q.out;simpa[n]using this];rfl,m⟩
def ZX (a b):eS [0,0] [a,b]=jB 8++(jB ((8+a.length:Nat):Int)++(a++b)):=by simp[eS,layK,headN]
def aah (d c:List Int) (i) (b:i<2) (a:[0,0].getD i 0≠0):([d,c].getD i []).length=[0,0].getD i 0:=by
 match i,b with
 |0,_=>exact absurd rfl a
 |1,_=>exact absurd rfl a
def TZ (a b) (z:a.ok) (y:b.ok) (s t w) (J:a.at s w) (H:b.at t w):
 Calls prog 42 #[.agg (lc a b s t).toArray] w fun e D=>(∃m c,e= .returned (.tuple #[.slice m (kZ a b).length c,.int .i64 (k_ a b)])∧(m=none→c=0)∧bc w.heap.size (.slice m (kZ a b).length c) (kZ a b) D)∧Below w.heap.size w D:=by
 have ha:=aa z;have F:=aa y;have B:=aa J;have I:=aa H;have v:=aa (Ix.We z);have o:=aa (Ix.We y);have R:=a.IF;have Q:=b.IF;clear z y J H
 go_enter func42,ntmps42
 by_cases i:a.err=0
 ·have n:=aa (show k_ a b=b.err by unfold k_;rw[aj i])
  have p:=aa i;by_cases l:b.err=0
  ·have hL:=aa (show kZ a b=jB 8++(jB ((8+a.L.length:Nat):Int)++(a.L++b.L)) by unfold kZ;rw[n.out,aj l])
   have hl:=aa (p8 (a:=a) (b:=b) (n.out.trans l));have O:=aa (n.out.trans l);rw[O.out];generalize kZ a b=L at*;have C:=aa l;clear i l
   go_wp2_with (first
    |refine fo 86 ?_;refine bW rfl 86 _ rfl _ rfl ?_
     refine bZ (fun W=>c8 w.heap.size (lc a b s t) 86 [] w W) (c8.begin (ak _ _ _ _ rfl) rfl) ?_;intro W j;have d:=aa j;clear j
    |refine ag 84 ?_;refine ab (by rfl) _ (ar _ 84 _ (by rfl) w.heap.size 0 rfl (a.cells s) _ (dg d.out.hX (pQ a b s t) 0 rfl) nC rfl (by rw[cS,Ix.aT])) ?_
    |refine ag 84 ?_;refine ab (by rfl) _ (ar _ 84 _ (by rfl) w.heap.size 197 rfl (b.cells t) _ (dg d.out.hX (pP a b s t) 197 (Ix.aT _ _)) nC rfl (by rw[cS,Ix.aT])) ?_
    |with_reducible refine(xV ha.out (B.out.later d.out.hB)).mono ?_
     rintro i u ⟨⟨q,r,rfl,g,f⟩,h⟩;rw[p.out];replace d:=aa ((d.out.later h).add (cG.b_ f v.out g) rfl);clear g f h
    |with_reducible refine(xV F.out (I.out.later d.out.hB)).mono ?_
     rintro i u ⟨⟨q,r,rfl,g,f⟩,h⟩;rw[C.out];replace d:=aa ((d.out.later h).add (cG.b_ f o.out g) rfl);clear g f h
    |with_reducible refine(c8.RQ d.out (k:=2) (S:=L.length) (L:=L) [0,0] ?hV ?hZ rfl rfl (by decide) (by decide) (by decide) ?hF ?hL rfl ?hs).mono ?hM
     case hV=>rfl
     case hZ=>rfl
     case hF=>exact aah a.L b.L
     case hL=>rw[hL.out];exact ZX a.L b.L
     case hs=>rw[hl.out];omega
     rintro e W ⟨⟨m,c,rfl,E,G⟩,P⟩;have N:=aa G;have K:=aa E
     clear G E)
   exact bR rfl _ _ rfl rfl rfl ⟨⟨m,c,rfl,K.out,N.out⟩,P⟩
  ·have hL:kZ a b=[]:=by unfold kZ;rw[n.out,an l]
   rw[hL,n.out];have M:(b.err !=0)=true:=by simp[l]
   clear hL i
   go_wp2_with (first
    |refine fo 86 ?_;refine bW rfl 86 _ rfl _ rfl ?_
     refine bZ (fun W=>c8 w.heap.size (lc a b s t) 86 [] w W) (c8.begin (ak _ _ _ _ rfl) rfl) ?_;intro W j;have d:=aa j;clear j
    |refine ag 84 ?_;refine ab (by rfl) _ (ar _ 84 _ (by rfl) w.heap.size 0 rfl (a.cells s) _ (dg d.out.hX (pQ a b s t) 0 rfl) nC rfl (by rw[cS,Ix.aT])) ?_
    |refine ag 84 ?_;refine ab (by rfl) _ (ar _ 84 _ (by rfl) w.heap.size 197 rfl (b.cells t) _ (dg d.out.hX (pP a b s t) 197 (Ix.aT _ _)) nC rfl (by rw[cS,Ix.aT])) ?_
    |with_reducible refine(xV ha.out (B.out.later d.out.hB)).mono ?_
     rintro i u ⟨⟨q,r,rfl,g,f⟩,h⟩;rw[p.out];replace d:=aa ((d.out.later h).add (cG.b_ f v.out g) rfl);clear g f h
    |with_reducible refine(xV F.out (I.out.later d.out.hB)).mono ?_
     rintro i u ⟨⟨q,r,rfl,g,f⟩,h⟩;replace d:=aa ((d.out.later h).add (cG.b_ f o.out g) rfl)
     clear g f h)
   exact bR rfl _ _ rfl rfl rfl ⟨⟨none,0,rfl,fun _=>rfl,bc.nil _ _⟩,d.out.hB⟩
 ·have A:k_ a b=a.err:=by unfold k_;rw[an i]
  have hL:kZ a b=[]:=by unfold kZ;rw[A,an i]
  rw[hL,A];have M:(a.err !=0)=true:=by simp[i]
  clear hL A
  go_wp2_with (first
   |refine fo 86 ?_;refine bW rfl 86 _ rfl _ rfl ?_
    refine bZ (fun W=>c8 w.heap.size (lc a b s t) 86 [] w W) (c8.begin (ak _ _ _ _ rfl) rfl) ?_;intro W j;have d:=aa j;clear j
   |refine ag 84 ?_;refine ab (by rfl) _ (ar _ 84 _ (by rfl) w.heap.size 0 rfl (a.cells s) _ (dg d.out.hX (pQ a b s t) 0 rfl) nC rfl (by rw[cS,Ix.aT])) ?_
   |refine ag 84 ?_;refine ab (by rfl) _ (ar _ 84 _ (by rfl) w.heap.size 197 rfl (b.cells t) _ (dg d.out.hX (pP a b s t) 197 (Ix.aT _ _)) nC rfl (by rw[cS,Ix.aT])) ?_
   |with_reducible refine(xV ha.out (B.out.later d.out.hB)).mono ?_
    rintro i u ⟨⟨q,r,rfl,g,f⟩,h⟩;replace d:=aa ((d.out.later h).add (cG.b_ f v.out g) rfl)
    clear g f h)
  exact bR rfl _ _ rfl rfl rfl ⟨⟨none,0,rfl,fun _=>rfl,bc.nil _ _⟩,d.out.hB⟩
def PQ (a b) (u:a.ok) (r:b.ok) (s t w) (F:cY w) (L:a.at s w) (I:b.at t w):
 Calls prog 54 #[.agg (lc a b s t).toArray] w fun e N=>e= .returned (.tuple #[.agg (ax (zx a b)),.int .i64 (k_ a b)])∧Below w.heap.size w N:=by
 have ha:=aa u;have E:=aa r;have A:=aa L;have J:=aa I;have v:=aa F;have y:=aa (Ix.IE u);have H:=aa (Ix.IE r);clear u r L I F
 go_enter func54,ntmps54
 by_cases l:a.err=0
 ·have q:=aa (show k_ a b=b.err by unfold k_;rw[aj l])
  have p:=aa l;by_cases m:b.err=0
  ·have j:=aa (show zx a b=fullT 1 (leaf [a.R,b.R]) by unfold zx;rw[q.out,aj m])
   rw[q.out,j.out,m];have B:=aa m;clear l m j
   go_wp2_with (first
    |refine ao 25 ?_;refine fX 2 cg ?_
    |refine ao 163 ?_;refine aH rfl fun K k=>bT 163 rfl 5 rfl (rep 64) 64 (by kernel_rfl) (k _ _ ?_);clear k K
     refine bZ (fun W=>cm w.heap.size (lc a b s t) 86 163 2 [] w W) (cm.begin (ak _ _ _ _ rfl) rfl v.out (by simp) (iM _)) ?_;intro W i;have c:=aa i;clear i
    |refine ag 84 ?_;refine ab (by rfl) _ (ar _ 84 _ (by rfl) w.heap.size 0 rfl (a.cells s) _ (dg c.out.hX (pQ a b s t) 0 rfl) nC rfl (by rw[cS,Ix.aT])) ?_
    |refine ag 84 ?_;refine ab (by rfl) _ (ar _ 84 _ (by rfl) w.heap.size 197 rfl (b.cells t) _ (dg c.out.hX (pP a b s t) 197 (Ix.aT _ _)) nC rfl (by rw[cS,Ix.aT])) ?_
    |with_reducible refine(tL ha.out (A.out.later c.out.hB) c.out.hT).mono ?_
     rintro e W ⟨rfl,f⟩;rw[p.out];have d:=c.out.later f;clear f;replace c:=aa d;clear d
    |refine al 25 ?_;refine aF 25 (w.heap.size+1+1) (32*0) rfl ?_;refine fG rfl _ _ rfl 0 a.R rfl rfl c.out rfl (by decide) y.out (fun h d=>?_)
     obtain⟨W,g⟩:∃W,W=h:=⟨_,rfl⟩;subst g;replace c:=aa d;clear d
    |with_reducible refine(tL E.out (J.out.later c.out.hB) c.out.hT).mono ?_
     rintro e W ⟨rfl,f⟩;rw[B.out];have d:=c.out.later f;clear f;replace c:=aa d;clear d
    |refine al 25 ?_;refine aF 25 (w.heap.size+1+1) (32*1) rfl ?_;refine fG rfl _ _ rfl 1 b.R rfl rfl c.out rfl (by decide) H.out (fun h d=>?_)
     obtain⟨W,g⟩:∃W,W=h:=⟨_,rfl⟩;subst g;replace c:=aa d;clear d
    |with_reducible refine(cm.last c.out 1 (2:Int) rfl rfl (by unfold lN;decide) (by decide)).mono ?_
     rintro e W ⟨rfl,Q,G⟩;have P:=aa G;clear G c
    |refine al 25 ?_;refine aq (w0:=w) (n0:=w.heap.size) 25 _ _ rfl rfl (w.heap.size+1) rfl _ rfl (aA _ _ _) (by rw[ah am];simp[ae]) _ 25 P.out (by rw[bL];simp[ae]) (by omega) Q (fun M n o _=>?_))
   exact aI rfl (w.heap.size+1) 0 (ae 32 (fun _=> .u8) (fullT 1 (leaf [a.R,b.R]))) _ rfl n cH rfl (by rw[ah am,ac]) rfl ⟨rfl,o⟩
  ·have j:zx a b=bh:=by unfold zx;rw[q.out,an m]
   rw[q.out,j];have O:(b.err !=0)=true:=by simp[m]
   clear j l
   go_wp2_with (first
    |refine ao 25 ?_;refine fX 2 cg ?_
    |refine ao 163 ?_;refine aH rfl fun K k=>bT 163 rfl 5 rfl (rep 64) 64 (by kernel_rfl) (k _ _ ?_);clear k K
     refine bZ (fun W=>cm w.heap.size (lc a b s t) 86 163 2 [] w W) (cm.begin (ak _ _ _ _ rfl) rfl v.out (by simp) (iM _)) ?_;intro W i;have c:=aa i;clear i
    |refine ag 84 ?_;refine ab (by rfl) _ (ar _ 84 _ (by rfl) w.heap.size 0 rfl (a.cells s) _ (dg c.out.hX (pQ a b s t) 0 rfl) nC rfl (by rw[cS,Ix.aT])) ?_
    |refine ag 84 ?_;refine ab (by rfl) _ (ar _ 84 _ (by rfl) w.heap.size 197 rfl (b.cells t) _ (dg c.out.hX (pP a b s t) 197 (Ix.aT _ _)) nC rfl (by rw[cS,Ix.aT])) ?_
    |with_reducible refine(tL ha.out (A.out.later c.out.hB) c.out.hT).mono ?_
     rintro e W ⟨rfl,f⟩;rw[p.out];have d:=c.out.later f;clear f;replace c:=aa d;clear d
    |refine al 25 ?_;refine aF 25 (w.heap.size+1+1) (32*0) rfl ?_;refine fG rfl _ _ rfl 0 a.R rfl rfl c.out rfl (by decide) y.out (fun h d=>?_)
     obtain⟨W,g⟩:∃W,W=h:=⟨_,rfl⟩;subst g;replace c:=aa d;clear d
    |with_reducible refine(tL E.out (J.out.later c.out.hB) c.out.hT).mono ?_
     rintro e W ⟨rfl,f⟩;skip;have d:=c.out.later f;clear f;replace c:=aa d;clear d
    |refine al 25 ?_;refine aF 25 (w.heap.size+1+1) (32*1) rfl ?_;refine fG rfl _ _ rfl 1 b.R rfl rfl c.out rfl (by decide) H.out (fun h d=>?_)
     obtain⟨W,g⟩:∃W,W=h:=⟨_,rfl⟩;subst g;replace c:=aa d;clear d
    |refine cZ 25 ?_;refine ab (by rfl) _ (ct _ rfl) ?_
    |refine al 25 ?_;refine aF 25 (w.heap.size+1) 0 rfl ?_;refine aq (w0:=w) (n0:=w.heap.size) 25 _ _ rfl rfl (w.heap.size+1) rfl _ rfl (aA _ _ _) (by rw[ah am];simp[ae]) _ 25 c.out.hR (by rw[bL];simp[ae]) (by omega) c.out.hB (fun M n o _=>?_)
    )
   exact aI rfl (w.heap.size+1) 0 (ae 32 (fun _=> .u8) bh) _ rfl n cH rfl (by rw[ah am,ac]) rfl ⟨rfl,o⟩
 ·have z:k_ a b=a.err:=by unfold k_;rw[an l]
  have j:zx a b=bh:=by unfold zx;rw[z,an l]
  rw[z,j];have O:(a.err !=0)=true:=by simp[l]
  clear j z
  go_wp2_with (first
   |refine ao 25 ?_;refine fX 2 cg ?_
   |refine ao 163 ?_;refine aH rfl fun K k=>bT 163 rfl 5 rfl (rep 64) 64 (by kernel_rfl) (k _ _ ?_);clear k K
    refine bZ (fun W=>cm w.heap.size (lc a b s t) 86 163 2 [] w W) (cm.begin (ak _ _ _ _ rfl) rfl v.out (by simp) (iM _)) ?_;intro W i;have c:=aa i;clear i
   |refine ag 84 ?_;refine ab (by rfl) _ (ar _ 84 _ (by rfl) w.heap.size 0 rfl (a.cells s) _ (dg c.out.hX (pQ a b s t) 0 rfl) nC rfl (by rw[cS,Ix.aT])) ?_
   |refine ag 84 ?_;refine ab (by rfl) _ (ar _ 84 _ (by rfl) w.heap.size 197 rfl (b.cells t) _ (dg c.out.hX (pP a b s t) 197 (Ix.aT _ _)) nC rfl (by rw[cS,Ix.aT])) ?_
   |with_reducible refine(tL ha.out (A.out.later c.out.hB) c.out.hT).mono ?_
    rintro e W ⟨rfl,f⟩;skip;have d:=c.out.later f;clear f;replace c:=aa d;clear d
   |refine al 25 ?_;refine aF 25 (w.heap.size+1+1) (32*0) rfl ?_;refine fG rfl _ _ rfl 0 a.R rfl rfl c.out rfl (by decide) y.out (fun h d=>?_)
    obtain⟨W,g⟩:∃W,W=h:=⟨_,rfl⟩;subst g;replace c:=aa d;clear d
   |refine cZ 25 ?_;refine ab (by rfl) _ (ct _ rfl) ?_
   |refine al 25 ?_;refine aF 25 (w.heap.size+1) 0 rfl ?_;refine aq (w0:=w) (n0:=w.heap.size) 25 _ _ rfl rfl (w.heap.size+1) rfl _ rfl (aA _ _ _) (by rw[ah am];simp[ae]) _ 25 c.out.hR (by rw[bL];simp[ae]) (by omega) c.out.hB (fun M n o _=>?_)
   )
  exact aI rfl (w.heap.size+1) 0 (ae 32 (fun _=> .u8) bh) _ rfl n cH rfl (by rw[ah am,ac]) rfl ⟨rfl,o⟩
def vG:Ix:=⟨[],fun _=>0,fun _=>0⟩
def wn:Value:= .slice none 0 0
def Ix.own (a:Ix) (s:Value) (d:Nat) (W:World):Prop:=∃e c,s= .slice e a.aO.length c∧Row W e .u64 a.aO∧∀b o,e=some ⟨b,o,none⟩→d≤b∧b<W.heap.size
def Ix.own.at {a:Ix} {s:Value} {b:Nat} {W} (h:a.own s b W):a.at s W:=by obtain⟨d,c,e,f,_⟩:=h;exact⟨d,c,e,f⟩
def Ix.own.later {a:Ix} {s:Value} {d:Nat} {W W'} (h:a.own s d W) (f:Below W.heap.size W W'):a.own s d W':=by obtain⟨i,c,e,j,g⟩:=h;exact⟨i,c,e,j.later f,fun b o e=>⟨(g b o e).1,du (g b o e).2 f.size⟩⟩
def Ix.own.apart {a:Ix} {s:Value} {d k:Nat} {W m} (h:a.own s d W) (g:aL k W m) (u:k<d):a.own s d m:=by obtain⟨n,c,e,j,f⟩:=h;refine⟨n,c,e,⟨fun i q=>?_,j.ok⟩,fun b o e=>⟨(f b o e).1,du (f b o e).2 g.size⟩⟩;obtain⟨b,o,l,r⟩:=j.cell i q;have:=f b o l;exact⟨b,o,l,(g.cell (p:=⟨b,o+i,none⟩) this.2 (show b≠k by omega)).trans r⟩
def Ix.own.uW {a:Ix} {s:Value} {d lS:Nat} {W} (h:a.own s d W) (i:lS≤d):a.own s lS W:=by obtain⟨g,c,e,j,f⟩:=h;exact⟨g,c,e,j,fun b o e=>⟨bg i (f b o e).1,(f b o e).2⟩⟩
def Pb (a W):vG.own wn a W:=⟨none,0,rfl,On,fun b o e=>by cases e⟩
abbrev Ix.rd (l:List Int) (e:Nat) (a:Ix):Prop:=Od l e a.aO a.fd a.fs
def OG (l g a) (E:Ix.rd l g a) (f c w) (hs:cG f c l w) (n:∀b o,f=some ⟨b,o,none⟩→b<w.heap.size) (D:l.length≤70368744177664):
 Calls prog 133 #[.slice f l.length c] w fun e d=>(∃s,e= .returned (.tuple #[.agg (a.cells s).toArray,.int .i64 (g:Int)])∧a.own s w.heap.size d)∧Below w.heap.size w d:=by
 rcases E with⟨F,m,j,i,h⟩|⟨rfl,k,hl,C,B,m,j,i⟩
 ·have G:a=vG:=by cases a;cases m;cases j;cases i;rfl
  subst G;have r:∀q:Ending,q= .returned (.tuple #[.agg (bI (.slice none 0 0) (fun _=>0) (fun _=>0)).toArray,.int .i64 (g:Int)])→∀d,∃s,q= .returned (.tuple #[.agg (vG.cells s).toArray,.int .i64 (g:Int)])∧vG.own s w.heap.size d:=fun q he d=>⟨wn,he,Pb _ _⟩;exact((Du l f c w hs n D g F).1 h).mono fun e d ⟨he,p⟩=>⟨r e he d,p⟩
 ·refine(Mp l l.length k f c w hs rfl hl C B).mono fun e d ⟨⟨u,y,he,v⟩,p⟩=>⟨?_,p⟩
  obtain⟨z,I⟩:=AW v (CY (by rw[bJ,hl];omega) (fun x A=>hs.row.ok x (kM A)));have n:=v.lt;obtain⟨H,K,J⟩:=a;simp only at m j i;subst m;subst j;subst i;exact⟨.slice u k y,he,u,y,by rw[iw],z,fun b o e=>by subst e;exact n b rfl⟩
def Jn (l f a) (E:Ix.rd l f a) (g c w) (hs:cG g c l w) (D:l.length≤70368744177664):
 Calls prog 142 #[.slice g l.length c] w fun e d=>(∃s,e= .returned (.tuple #[.agg (a.cells s).toArray,.int .i64 (f:Int)])∧a.own s w.heap.size d)∧Below w.heap.size w d:=by
 rcases E with⟨F,m,j,i,h⟩|⟨rfl,k,hl,C,A,m,j,i⟩
 ·have G:a=vG:=by cases a;cases m;cases j;cases i;rfl
  subst G;have q:∀p:Ending,p= .returned (.tuple #[.agg (bI (.slice none 0 0) (fun _=>0) (fun _=>0)).toArray,.int .i64 (f:Int)])→∀d,∃s,p= .returned (.tuple #[.agg (vG.cells s).toArray,.int .i64 (f:Int)])∧vG.own s w.heap.size d:=fun p he d=>⟨wn,he,Pb _ _⟩;exact((AU l g c w hs D f F).1 h).mono fun e d ⟨he,n⟩=>⟨q e he d,n⟩
 ·refine(Ki l l.length k g c w hs rfl hl C A).mono fun e d ⟨⟨r,v,he,u⟩,n⟩=>⟨?_,n⟩
  obtain⟨y,I⟩:=AW u (CY (by rw[bJ,hl];omega) (fun x z=>hs.row.ok x (kM z)));have B:=u.lt;obtain⟨H,K,J⟩:=a;simp only at m j i;subst m;subst j;subst i;exact⟨.slice r k v,he,r,v,by rw[iw],y,fun b o e=>by subst e;exact B b rfl⟩
def qe (l:List Int):List Int:=(l.drop 8).take (aK l 4-8)
def s0 (l:List Int):List Int:=(l.drop (aK l 4)).take (l.length-aK l 4)
def AN (l:List Int) (c:Nat) (a b:Ix):Prop:=
 (c≠0∧a=vG∧b=vG∧(l.length<8∧c=4∨8≤l.length∧¬bz 8 l.length [aK l 0,aK l 4] 2∧c=5∨
   8≤l.length∧bz 8 l.length [aK l 0,aK l 4] 2∧(Ix.rd (qe l) c vG∨∃d,Ix.rd (qe l) 0 d∧Ix.rd (s0 l) c vG)))∨
 (c=0∧8≤l.length∧bz 8 l.length [aK l 0,aK l 4] 2∧Ix.rd (qe l) 0 a∧Ix.rd (s0 l) 0 b)
def F3 (l):∃e a,Ix.rd l e a:=by obtain⟨e,b,d,c,h⟩:=MH l;exact⟨e,⟨b,d,c⟩,h⟩
def JD {l e a} (h:Ix.rd l e a) (f:e≠0):a=vG:=by
 rcases h with⟨_,b,d,c,_⟩|⟨b,_⟩
 ·cases a;cases b;cases d;cases c;rfl
 ·exact absurd b f
def Ni (l):∃j a b,AN l j a b:=by
 by_cases k:l.length<8
 ·exact⟨4,vG,vG,Or.inl ⟨by decide,rfl,rfl,Or.inl ⟨k,rfl⟩⟩⟩
 ·by_cases d:bz 8 l.length [aK l 0,aK l 4] 2
  ·obtain⟨i,a,c⟩:=F3 (qe l)
   by_cases f:i=0
   ·subst f
    obtain⟨h,b,g⟩:=F3 (s0 l);by_cases e:h=0
    ·subst e
     exact⟨0,a,b,Or.inr ⟨rfl,by omega,d,c,g⟩⟩
    ·have:=JD g e
     subst this;exact⟨h,vG,vG,Or.inl ⟨e,rfl,rfl,Or.inr (Or.inr ⟨by omega,d,Or.inr ⟨a,c,g⟩⟩)⟩⟩
   ·have:=JD c f
    subst this;exact⟨i,vG,vG,Or.inl ⟨f,rfl,rfl,Or.inr (Or.inr ⟨by omega,d,Or.inl c⟩)⟩⟩
  ·exact⟨5,vG,vG,Or.inl ⟨by decide,rfl,rfl,Or.inr (Or.inl ⟨by omega,d,rfl⟩)⟩⟩
def Dj {l} (c:8≤l.length) (h:bz 8 l.length [aK l 0,aK l 4] 2):aK l 0=8∧8≤aK l 4∧aK l 4≤l.length:=by have b:=h 0 (by decide);have a:=h 1 (by decide);unfold g5 at b a;simp at b a;omega
def cG.ack {g o c l W} (h:cG (some ⟨g,o,none⟩) c l W):∀b a,some (⟨g,o,none⟩:Addr)=some ⟨b,a,none⟩→b<W.heap.size:=h.low
def dr.Z2 {n Z C t f g l j c d w W} (h:dr n Z C t f g l j c d 0 w W) (u:g+1<f.length) (v:f.length≤1000) (a b) (ha:f.getD g 0=a) (z:f.getD (g+1) 0=b) (B:a≤b) (y:b≤l.length) (s:0<l.length) (A:d≤1000000) (q) (r:(l.drop a).take (b-a)=q):
 Calls prog 64 #[.pointer (some ⟨n+1+1,0,none⟩)] W fun e k=>∃i o p,e= .returned (.slice (some ⟨i,o,none⟩) q.length p)∧cG (some ⟨i,o,none⟩) p q k∧dr n Z C t f (g+1) l j c (d+4) 0 w k:=by
 subst r;have hl:((l.drop a).take (b-a)).length=b-a:=by rw[cf,bJ];omega
 exact(yt (n+1+1) l j c d W h.hI u v a b ha z B y s A).mono fun _ L ⟨⟨i,o,H,G,F,J,E⟩,m,D⟩=>⟨i,o,H,by rw[hl];exact G,⟨E,(fun e=>by cases e),by rw[hl];exact F,fun K I e=>by cases e;have:=m.size;omega⟩,h.step m D⟩
def lB (a b:Ix) (Y:Array Value) (W:World):Prop:=∃s t,Y=(lc a b s t).toArray∧a.at s W∧b.at t W
def BS (c:Nat) (a b:Ix) (Y:Array Value) (W:World):Prop:=∃s t,Y=(lc a b s t).toArray∧a.own s c W∧b.own t c W
def lB.later {a b} (Y W W') (h:lB a b Y W) (c:Below W.heap.size W W'):lB a b Y W':=by obtain⟨s,t,e,f,d⟩:=h;exact⟨s,t,e,f.later c,d.later c⟩
def lB.size {a b Y W} (h:lB a b Y W):Y.size=394:=by obtain⟨s,t,rfl,_⟩:=h;rw[cI,jd]
def lB.one {a b Y W} (h:lB a b Y W):Y.all (·.oneCell')=true:=by
 obtain⟨s,t,rfl,e,d⟩:=h;rw[vM,nn];intro v c;rcases iD.1 c with c|c
 ·exact Ix.one e v c
 ·exact Ix.one d v c
def Cp:List Value:=lc vG vG wn wn
def BO:(prog.info? 86).map (fun i=>(i.zero,i.size))=some (some (.agg Cp.toArray),394):=by kernel_rfl
def uk {a o} (w) (b:o.op= .build 86 #[]):(execOp a o).run prog w= .ok (.value (.agg Cp.toArray)) w:=by
 have h:(Instr.build 86 #[]).run prog w= .ok (.agg Cp.toArray) w:=by kernel_rfl
 exact run_build 86 #[] b _ h
def yf (W):lB vG vG Cp.toArray W:=⟨wn,wn,rfl,(Pb 0 W).at,(Pb 0 W).at⟩
def Jo (b W):BS b vG vG Cp.toArray W:=⟨wn,wn,rfl,Pb b W,Pb b W⟩
def Bu {b o} (w a) (e:o.op= .buildSlice 63 2 a) (n m) (d:(a.toList.map fun p=>(p.1,b p.2))=[(0,.int .i64 n),(1,.int .i64 m)]):
 (execOp b o).run prog w= .ok (.value (.slice (some ⟨w.heap.size,0,none⟩) 2 2)) (w.alloc (.cells #[.int .i64 n,.int .i64 m] 3)):=
 bj w 63 3 2 a e dZ (.int .i64 0) 1 oo (by decide) (by decide) [.int .i64 n,.int .i64 m] rfl d (fun u c=>by
  simp only[mF,vJ,vH]at c
  rcases c with rfl|rfl<;>rfl)
def SW (W:World):∀j,j<2→(W.alloc (.cells #[.int .i64 (0:Int),.int .i64 (4:Int)] 3)).cell? ⟨W.heap.size,j,none⟩=some (.int .i64 (([0,4].getD j 0:Nat):Int)):=fun j a=>by
 have h:=br _ _ j _ _ _ (ak W #[.int .i64 (0:Int),.int .i64 (4:Int)] 3 W.heap.size rfl)
 match j,a with
 |0,_=>exact h
 |1,_=>exact h
def SX {m} (h:8≤m):∀j,j<2→[0,4].getD j 0+4≤m:=fun j a=>by
 match j,a with
 |0,_=>show 0+4≤m;omega
 |1,_=>show 4+4≤m;omega
def J9:Cp.toArray.all (·.oneCell')=true:=by kernel_rfl
def Dk {a b s t W} (d:a.at s W) (c:b.at t W):(lc a b s t).toArray.all (·.oneCell')=true:=(show lB a b (lc a b s t).toArray W from⟨s,t,rfl,d,c⟩).one
def dr.Z3 {n Z C t f g l k c d w W} (h:dr n Z C t f g l k c d 0 w W) (v:g+1<f.length) (y:f.length≤1000) (a b) (ha:f.getD g 0=a) (A:f.getD (g+1) 0=b) (D:a≤b) (z:b≤l.length) (u:0<l.length) (B:d≤1000000) (q) (s:(l.drop a).take (b-a)=q):
 Calls prog 64 #[.pointer (some ⟨n+1+1,0,none⟩)] W fun e j=>∃i o r,e= .returned (.slice (some ⟨i,o,none⟩) q.length r)∧cG (some ⟨i,o,none⟩) r q j∧aL (n+1+1) W j∧dr n Z C t f (g+1) l k c (d+4) 0 w j:=by
 subst s;have hl:((l.drop a).take (b-a)).length=b-a:=by rw[cf,bJ];omega
 exact(yt (n+1+1) l k c d W h.hI v y a b ha A D z u B).mono fun _ L ⟨⟨i,o,H,G,F,J,E⟩,p,m⟩=>⟨i,o,H,by rw[hl];exact G,⟨E,(fun e=>by cases e),by rw[hl];exact F,fun K I e=>by cases e;have:=p.size;omega⟩,m,h.step p m⟩
def Ix.kl (a:Ix) (s:Value):(a.cells s).toArray.size=197:=a.aT s
def BL:rowB prog 84 197=true:=by kernel_rfl
def BP {a:Ix} {s:Value} {c:World} (W:World) (h:a.at s c):(a.cells s).toArray.all (·.oneCell')=true∧∀v∈a.cells s,v.oneCell'=true:=by have b:=Ix.one h;exact⟨by rw[vM,nn];exact b,b⟩
def Ng {l} (h:¬bz 8 l.length [aK l 0,aK l 4] 2):¬bz 8 l.length ([0,4].map (aK l)) 2:=h
def Ix.rdL {l e a} (h:Ix.rd l e a):∃A,Hid (A=a)∧Ix.rd l e A:=⟨a,aa rfl,h⟩
def dr.wld {n Z C t d e l b c a f w W} (_:dr n Z C t d e l b c a f w W):∃g,g=W:=⟨W,rfl⟩
def Kn (l j a b) (hR:AN l j a b) (Z c w) (fc:cG Z c l w) (cT:∀b o,Z=some ⟨b,o,none⟩→b<w.heap.size) (cW:l.length≤70368744177664):
 Calls prog 68 #[.slice Z l.length c] w fun e D=>(∃Y:Array Value,e= .returned (.tuple #[.agg Y,.int .i64 (j:Int)])∧Y.size=394∧Y.all (·.oneCell')=true∧BS w.heap.size a b Y D)∧Below w.heap.size w D:=by
 have hs:=aa fc;have df:=aa cT;clear fc cT;rcases hR with⟨h0,rfl,rfl,⟨T,he⟩|⟨T,H,he⟩|⟨T,H,X|⟨a',X,h4⟩⟩⟩|⟨rfl,T,H,X,h4⟩<;>
 (first
  |obtain⟨A,hAe,RV⟩:=Ix.rdL X
   have Be:=aa RV;clear RV X
   try (obtain⟨B,XQ,RU⟩:=Ix.rdL h4
        have K7:=aa RU
        clear RU h4)
   obtain⟨kw,jX,zd⟩:=Dj T H;have hg:=aa (show bz 8 l.length ([0,4].map (aK l)) 2 from H);have Vo:=aa (show ([0,4].map (aK l)++[l.length]).getD 0 0=8 from kw);obtain⟨u,M⟩:∃u,u=aK l 4:=⟨_,rfl⟩;have zh:=aa (show ([0,4].map (aK l)++[l.length]).getD (0+1) 0=u from M.symm);have Ie:=aa (show ([0,4].map (aK l)++[l.length]).getD (1+1) 0=l.length from rfl);have ahn:=aa (show ([0,4].map (aK l)++[l.length]).getD 1 0=u from M.symm);have fe:=aa (show 0+1<([0,4].map (aK l)++[l.length]).length from(by decide:0+1<3));have dX:=aa (show 1+1<([0,4].map (aK l)++[l.length]).length from(by decide:1+1<3));have iZ:=aa (show ([0,4].map (aK l)++[l.length]).length≤1000 from(by decide:3≤1000));have hP:=aa (show (l.drop 8).take (u-8)=qe l by unfold qe;rw[M]);have hQ:=aa (show (l.drop u).take (l.length-u)=s0 l by unfold s0;rw[M]);have hPl:(qe l).length≤70368744177664:=by unfold qe;rw[cf,bJ];omega
   have hQl:(s0 l).length≤70368744177664:=by unfold s0;rw[cf,bJ];omega
   rw[←M]at jX zd;clear kw H M;generalize qe l=P at*;generalize s0 l=Q at*
  |have hgb:=aa (Ng H)
   clear H
  |skip
  try (have nU:((j:Int)==0)=false:=by simp[h0])
  try (have Zj:((j:Int) !=0)=true:=by simp[h0])
  obtain⟨L,uT⟩:∃L,L=l.length:=⟨_,rfl⟩;rw[←uT]at cW T ⊢;have hL:=aa uT.symm;clear uT
  go_enter func68,ntmps68
  go_wp2_with (first
   |refine ao 86 ?_;refine fX 2 BO ?_
   |refine ao 86 ?_;refine fX 4 BO ?_
   |with_reducible refine(dr.open L 8 (8:Int) rfl hL.out 2 (2:Int) rfl (by decide) (err:=4) (an (by omega)) (by decide) hs.out.row hs.out.cap hs.out.nil df.out (by rw[hL.out];exact cW)).mono ?_
    rintro e W ⟨rfl,d,y⟩;rw[←he]at d;have f:=aa d;clear d y
   |with_reducible refine(dr.open L 8 (8:Int) rfl hL.out 2 (2:Int) rfl (by decide) (err:=0) (aj (by omega)) (by decide) hs.out.row hs.out.cap hs.out.nil df.out (by rw[hL.out];exact cW)).mono ?_
    rintro e W ⟨rfl,d,y⟩;have f:=aa d;have hW:=aa y;clear d y
   |refine aV 63 ?_;refine aH rfl fun K E=>bV _ (Bu _ _ (by rfl) (0:Int) (4:Int) (by rfl)) (E _ _ ?_);clear E K
    have d:=f.out.after ((aP _ W).alloc bG (.cells #[.int .i64 (0:Int),.int .i64 (4:Int)] 3));have hz:=f.out.size
    first
     |have y:=hW.out.later (((aP _ W).alloc hW.out.size (.cells #[.int .i64 (0:Int),.int .i64 (4:Int)] 3)))
     |(clear f
       have f:=aa d
       clear d)
   |with_reducible refine(dr.NY f.out h0 (8:Int) _ 2 2).mono ?_
    rintro e C ⟨rfl,d⟩;replace f:=aa d;clear d
   |with_reducible refine(dr.NX d y 8 W.heap.size 2 2 (8:Int) rfl [0,4] (by rw[hL.out];omega) rfl (by decide) (by rw[hL.out];omega) (SW W) (by rw[bn];omega) (by omega) (SX (by rw[hL.out];omega)) hgb.out).mono ?_
    clear d y hz;rintro e C ⟨rfl,aB,N⟩;clear f hW;rw[←he]at N;have f:=aa N;clear N
   |with_reducible refine(dr.Z3 f.out dX.out iZ.out u l.length ahn.out Ie.out zd bG (by rw[hL.out];omega) (by decide) Q hQ.out).mono ?_
    rintro e W ⟨bb,ob,cb,rfl,n,Er,d⟩;have R:=g.out.apart Er (by omega);replace f:=aa d;clear g Er;have g:=aa R;have G:=aa n;clear d n R
   |with_reducible refine(OG Q _ B K7.out (some ⟨bb,ob,none⟩) cb _ G.out G.out.ack (by omega)).mono ?_
    rintro e I ⟨⟨q,rfl,h⟩,n⟩;have k:=aa (h.uW (lS:=w.heap.size+3) f.out.size);have d:=f.out.after n;have R:=g.out.later n;have F:=aa (BP I h.at);replace f:=aa d;clear h n G g;have g:=aa R;clear d R
   |refine ao 84 ?_;refine aw rfl rfl 84 8 _ rfl rfl rfl (B.cells q).toArray rfl rfl (zeroOf prog 84) (by rw[Ix.kl];exact(aG BL).1) (by rw[Ix.kl];exact(aG BL).2) F.out.1 ?_
    have d:=f.out.after ((aP _ I).alloc bG (.cells (B.cells q).toArray 84));have h:=g.out.later ((aP _ I).alloc bG (.cells (B.cells q).toArray 84));have s:=k.out.later ((aP _ I).alloc bG (.cells (B.cells q).toArray 84));have Q2:=ak I (B.cells q).toArray 84 I.heap.size rfl
   |refine ag 84 ?_;refine ab (by rfl) _ (ay _ 84 _ (by rfl) I.heap.size (by rfl) _ _ (0,0) _ Q2 nC rfl (by rw[cS,cI,Ix.aT])) ?_
    replace f:=aa d;clear Q2 g k;have g:=aa h;have k:=aa s;clear d h s
   |refine al 84 ?_;refine aF 84 (w.heap.size+1) 197 rfl ?_;refine iv rfl 84 _ _ rfl 197 rfl (B.cells q) rfl (by rw[cS,Ix.aT]) F.out.2 f.out (A.cells r) (vG.cells wn) [] (by simp) (Ix.aT _ _) (by rw[Ix.aT,Ix.aT]) (fun W7 d O=>?_)
    rw[fZ]at d;have h:=g.out.apart O (by omega);have s:=k.out.apart O (by omega);replace f:=aa d;clear g k F O;have g:=aa h;have k:=aa s;clear d h s
   |with_reducible refine(dr.fail f.out j j (j:Int) rfl (aj rfl)).mono ?_
    rintro e W8 ⟨rfl,d,m⟩;have h:=g.out.apart m (by omega);have s:=k.out.apart m (by omega);replace f:=aa d;clear g k m;have g:=aa h;have k:=aa s;clear d h s
   |with_reducible refine(dr.fail f.out 0 0 (0:Int) rfl (aj rfl)).mono ?_
    rintro e W8 ⟨rfl,d,m⟩;have h:=g.out.apart m (by omega);have s:=k.out.apart m (by omega);replace f:=aa d;clear g k m;have g:=aa h;have k:=aa s;clear d h s
   |with_reducible refine(dr.Fo d y 8 W.heap.size 2 2 (8:Int) rfl [0,4] (by rw[hL.out];omega) rfl (by decide) (by rw[hL.out];omega) (SW W) (by rw[bn];omega) (by omega) (SX (by rw[hL.out];omega)) hg.out).mono ?_
    clear d y hz;rintro e C ⟨rfl,N⟩;replace f:=aa N;clear hW;clear N
   |with_reducible refine(dr.Z2 f.out fe.out iZ.out 8 u Vo.out zh.out jX zd (by rw[hL.out];omega) (by decide) P hP.out).mono ?_
    rintro e W ⟨bb,ob,cb,rfl,n,d⟩;replace f:=aa d;have G:=aa n;clear d n
   |with_reducible refine(OG P _ A Be.out (some ⟨bb,ob,none⟩) cb _ G.out G.out.ack (by omega)).mono ?_
    rintro e C ⟨⟨r,rfl,h⟩,n⟩;have g:=aa (h.uW (lS:=w.heap.size+3) f.out.size);have d:=f.out.after n;have F:=aa (BP C h.at);replace f:=aa d;clear h n G;clear d
   |refine ao 84 ?_;refine aw rfl rfl 84 6 _ rfl rfl rfl (A.cells r).toArray rfl rfl (zeroOf prog 84) (by rw[Ix.kl];exact(aG BL).1) (by rw[Ix.kl];exact(aG BL).2) F.out.1 ?_
    have d:=f.out.after ((aP _ C).alloc bG (.cells (A.cells r).toArray 84));have h:=g.out.later ((aP _ C).alloc bG (.cells (A.cells r).toArray 84));have dG:=ak C (A.cells r).toArray 84 C.heap.size rfl
   |refine ag 84 ?_;refine ab (by rfl) _ (ay _ 84 _ (by rfl) C.heap.size (by rfl) _ _ (0,0) _ dG nC rfl (by rw[cS,cI,Ix.aT])) ?_
    replace f:=aa d;clear dG g;have g:=aa h;clear d h
   |refine al 84 ?_;refine aF 84 (w.heap.size+1) 0 rfl ?_;refine iv rfl 84 _ _ rfl 0 rfl (A.cells r) rfl (by rw[cS,Ix.aT]) F.out.2 f.out [] (vG.cells wn) (vG.cells wn) rfl rfl (by rw[Ix.aT,Ix.aT]) (fun W3 d O=>?_)
    have h:=g.out.apart O (by omega);replace f:=aa d;clear g F O;have g:=aa h;clear d h
   |with_reducible refine(dr.fail f.out j j (j:Int) rfl (aj rfl)).mono ?_
    rintro e W4 ⟨rfl,d,m⟩;have h:=g.out.apart m (by omega);replace f:=aa d;clear g m;have g:=aa h;clear d h
   |with_reducible refine(dr.fail f.out 0 0 (0:Int) rfl (aj rfl)).mono ?_
    rintro e W4 ⟨rfl,d,m⟩;have h:=g.out.apart m (by omega);replace f:=aa d;clear g m;have g:=aa h;clear d h
   |refine ag 41 ?_;refine dq (v:=(.int .i64 (0:Int))) f.out.dS fU ?_ rfl rfl rfl rfl
   |refine ag 41 ?_;refine dq (v:=(.int .i64 (j:Int))) f.out.dS fU ?_ rfl rfl rfl rfl
   |refine ag 86 ?_;refine ab (by rfl) _ (ay _ 86 _ (by rfl) (w.heap.size+1) (by rfl) _ _ (0,0) _ f.out.hX Li rfl (by rw[lg];simp[Ix.aT])) ?_
   |refine al 86 ?_;refine aF 86 w.heap.size 0 rfl ?_;refine aH rfl fun K E=>wp_store_row 86 _ _ rfl w.heap.size rfl (lc A B r q).toArray rfl (Dk g.out.at k.out.at) (by rw[lg,cI,jd]) _ 86 f.out.hR (by rw[cI,cI,jd];rfl) (fun J iJ z=>E _ _ ?_);clear E K)
  first
  |obtain rfl:=hAe.out;obtain rfl:=XQ.out
   have V:lB A B (lc A B r q).toArray J:=⟨r,q,rfl,(g.out.apart z (by omega)).at,(k.out.apart z (by omega)).at⟩;exact aI rfl w.heap.size 0 (lc A B r q) _ rfl (aE iJ) Li rfl (by rw[lg,jd]) rfl ⟨⟨_,rfl,V.size,V.one,r,q,rfl,(g.out.apart z (by omega)).uW (by omega),(k.out.apart z (by omega)).uW (by omega)⟩,z.below f.out.hB bG (by have:=f.out.size;omega)⟩
  |obtain⟨U,mM⟩:=dr.wld f.out
   subst mM;rename_i K E;have V1:=f.out.size;refine dQ (S:=fun D=>D.cell? ⟨w.heap.size+1+1,4,none⟩=some (.int .i64 (j:Int))) (by kernel_rfl) ?_;have H_:({U with drawn:=U.drawn+1}:World).cell? ⟨w.heap.size+1+1,4,none⟩=some (.int .i64 (j:Int)):=f.out.dS;refine aJ (i:=0) (v:=(.agg Cp.toArray)) rfl (by kernel_rfl) bH ‹_› (fun D _=>uk D rfl) ?_;go_frame;refine gY 1 2 3 (.pointer (some ⟨w.heap.size+1+1,0,none⟩)) (.pointer (some ⟨w.heap.size+1+1,0,none⟩)) (.pointer (some ⟨w.heap.size+1+1,4,none⟩)) rfl (by kernel_rfl) (fun _=>by kernel_rfl) bH ‹_› ?_;go_frame;refine aJ (i:=4) (v:=(.int .i64 (j:Int))) rfl (by kernel_rfl) bH ‹_› (fun D cX=>au _ 41 _ (by rfl) ⟨w.heap.size+1+1,4,none⟩ (by rfl) _ cX _ fU rfl) ?_;go_frame;refine cQ (i:=5) rfl (by kernel_rfl) rfl (wp_store_row 86 _ _ rfl w.heap.size rfl _ rfl J9 (by rw[lg];rfl) _ 86 (f.out.drew _).hR rfl (fun J iJ z=>⟨(z.cell (p:=⟨w.heap.size+1+1,4,none⟩) (by show w.heap.size+1+1<U.heap.size;omega) (show w.heap.size+1+1≠w.heap.size by omega)).trans f.out.dS,?_⟩));replace H_:J.cell? ⟨w.heap.size+1+1,4,none⟩=some (.int .i64 (j:Int)):=(z.cell (p:=⟨w.heap.size+1+1,4,none⟩) (by show w.heap.size+1+1<U.heap.size;omega) (show w.heap.size+1+1≠w.heap.size by omega)).trans f.out.dS;go_frame;refine aJ (i:=6) (v:=(.int .i64 (j:Int))) rfl (by kernel_rfl) bH ‹_› (fun D cX=>by go_simp) ?_;go_frame;refine dM (by kernel_rfl) ?_ _;simp only[Exit.then];refine E _ _ ?_;have dY:Below w.heap.size w J:=z.below (f.out.drew _).hB bG (by show w.heap.size≤U.heap.size;omega);clear H_ E K;go_wp2
   exact aI rfl w.heap.size 0 Cp _ rfl (aE iJ) Li rfl (by rw[lg];rfl) rfl ⟨⟨_,rfl,(yf J).size,(yf J).one,Jo _ J⟩,dY⟩)
def CQ (W:World):et W.heap.size [0,0] (W.alloc (.cells #[.int .i64 0,.int .i64 0] 3)):=by have h:=CE [0,0] W;rw[nr]at h;exact h
def UV {l} (a:aK l 0=8):fV [0,0] l=[qe l,s0 l]:=by simp[fV,ik,gU,cutA,headN,s7,a,qe,s0]
def HH (l T a b) (hR:AN l T a b) (m c w) (fc:cG m c l w) (O:l.length≤70368744177664):
 Calls prog 78 #[.slice m l.length c] w fun e Z=>(∃Y:Array Value,e= .returned (.tuple #[.agg Y,.int .i64 (T:Int)])∧Y.size=394∧Y.all (·.oneCell')=true∧BS w.heap.size a b Y Z)∧Below w.heap.size w Z:=by
 have hs:=aa fc;clear fc;rcases hR with⟨h0,rfl,rfl,⟨i,he⟩|⟨i,p,he⟩|⟨i,p,N|⟨a',N,S⟩⟩⟩|⟨rfl,i,p,N,S⟩<;>
 (first
  |obtain⟨A,X,RV⟩:=Ix.rdL N
   have Be:=aa RV;clear RV N
   try (obtain⟨B,XQ,RU⟩:=Ix.rdL S
        have K7:=aa RU
        clear RU S)
   have q:=aa (fun(W:World) (j:Nat) (hl:cG m c l W) (hZ:et j [0,0] W)=>uD l m c j [0,0] 2 2 W hl hZ rfl (by decide) (by decide) (by decide) i (by decide) O 2 rfl (by decide) p);rw[UV (Dj i p).1]at q;have V:(qe l).length≤70368744177664:=by unfold qe;rw[cf,bJ];omega
   have U:(s0 l).length≤70368744177664:=by unfold s0;rw[cf,bJ];omega
   clear p;generalize qe l=P at*;generalize s0 l=Q at*
   try (have Zj:((T:Int) !=0)=true:=by simp[h0])
  |have I:=aa (fun(W:World) (j:Nat) (hl:cG m c l W) (hZ:et j [0,0] W)=>uO l m c j [0,0] 2 2 W hl hZ rfl (by decide) (by decide) (by decide) i (by decide) O 2 rfl (by decide) p)
   clear p;subst he
  |have H:=aa (fun(W:World) (j:Nat) (hZ:et j [0,0] W)=>uP l m c j [0,0] 2 2 W hZ rfl (by decide) (by decide) (by decide) i)
   subst he
  obtain⟨L,uT⟩:∃L,L=l.length:=⟨_,rfl⟩;have hL:=aa uT.symm;clear uT;rw[hL.out]at O i ⊢
  first
   |rw[hL.out]at q
   |rw[hL.out]at I
   |rw[hL.out]at H
  go_enter func78,ntmps78
  go_wp2_with (first
   |refine ao 86 ?_;refine fX 2 BO ?_
   |refine ao 86 ?_;refine fX 4 BO ?_
    refine bZ (fun W=>RqX w.heap.size Cp Cp 86 w W) (RqX.begin rfl rfl rfl) ?_;intro W f;have d:=aa f;clear f
   |with_reducible refine(H.out _ W.heap.size (CQ W)).mono ?_
    rintro e W2 ⟨rfl,rfl⟩;replace d:=aa (d.out.later ((aP _ W).alloc bG (.cells #[.int .i64 0,.int .i64 0] 3)))
   |with_reducible refine(I.out _ W.heap.size ((hs.out.later d.out.hB).later ((aP _ W).alloc bG _)) (CQ W)).mono ?_
    rintro e W2 ⟨rfl,M⟩;replace d:=aa ((d.out.later ((aP _ W).alloc bG (.cells #[.int .i64 0,.int .i64 0] 3))).later M)
   |refine aC 114 ?_;refine ab (by rfl) _ (ai _ 114 39 _ _ rfl cV 1 dv gp 0 2 cp rfl .i64 1 rfl (by decide) 1 (by decide)) ?_
   |refine ag 39 ?_;refine dq (v:=(.slice vr Q.length cr)) G.out bF ?_ rfl rfl rfl rfl
   |with_reducible refine(Jn Q _ B K7.out vr cr _ E.out U).mono ?_
    rintro e W6 ⟨⟨r,rfl,g⟩,s⟩;have u:=aa (g.uW (lS:=w.heap.size+2) d.out.size);have f:=d.out.later s;have KU:=h.out.later s;have z:=aa (BP W6 g.at);replace d:=aa f;clear g s h E G;have h:=aa KU;clear f KU
   |refine al 84 ?_;refine aF 84 (w.heap.size+1) 197 rfl ?_;refine oc rfl 84 _ _ rfl 197 rfl (B.cells r) rfl (by rw[cS,Ix.aT]) z.out.2 d.out (A.cells n) (vG.cells wn) [] (by simp) (Ix.aT _ _) (by rw[Ix.aT,Ix.aT]) (fun W7 f y=>?_)
    rw[fZ]at f;have g:=h.out.apart y (by omega);have Ia:=u.out.apart y (by omega);replace d:=aa f;clear h u z y;have h:=aa g;have u:=aa Ia;clear f g Ia
   |with_reducible refine(q.out _ W.heap.size ((hs.out.later d.out.hB).later ((aP _ W).alloc bG _)) (CQ W)).mono ?_
    rintro e W2 ⟨⟨v,rfl,sG⟩,M⟩;obtain⟨gp,cp,rfl,f⟩:=KZ.of (d.out.later ((aP _ W).alloc bG (.cells #[.int .i64 0,.int .i64 0] 3))) (k:=2) rfl M sG;replace d:=aa f;clear sG M;obtain⟨vq,cq,oz,jX,_⟩:=f.part 0 P.length P (by simp) rfl rfl;have sM:=aa oz;have hq:=aa jX;clear f oz jX
   |refine aC 114 ?_;refine ab (by rfl) _ (ai _ 114 39 _ _ rfl cV 1 dv gp 0 2 cp rfl .i64 0 rfl (by decide) 0 (by decide)) ?_
   |refine ag 39 ?_;refine dq (v:=(.slice vq P.length cq)) sM.out bF ?_ rfl rfl rfl rfl
   |with_reducible refine(Jn P _ A Be.out vq cq _ hq.out V).mono ?_
    rintro e W3 ⟨⟨n,rfl,g⟩,s⟩;have h:=aa (g.uW (lS:=w.heap.size+2) d.out.size);have f:=d.out.later s;have z:=aa (BP W3 g.at);replace d:=aa f;clear g s hq sM;clear f
   |refine al 84 ?_;refine aF 84 (w.heap.size+1) 0 rfl ?_;refine oc rfl 84 _ _ rfl 0 rfl (A.cells n) rfl (by rw[cS,Ix.aT]) z.out.2 d.out [] (vG.cells wn) (vG.cells wn) rfl rfl (by rw[Ix.aT,Ix.aT]) (fun W4 f y=>?_)
    have g:=h.out.apart y (by omega);replace d:=aa f;clear h z y;have h:=aa g;clear f g;obtain⟨vr,cr,R5,F,_⟩:=d.out.part 1 Q.length Q (by simp) rfl rfl;have G:=aa R5;have E:=aa F;clear R5 F
   |((with_reducible refine ag 86 ?_);refine ab (by rfl) _ (ay _ 86 _ (by rfl) (w.heap.size+1) (by rfl) _ _ (0,0) _ d.out.hX Li rfl (by rw[lg];first|rfl|simp[Ix.aT])) ?_)
   |refine al 86 ?_;refine aF 86 w.heap.size 0 rfl ?_;refine aH rfl fun K C=>wp_store_row 86 _ _ rfl w.heap.size rfl (lc A B n r).toArray rfl (Dk h.out.at u.out.at) (by rw[lg,cI,jd]) _ 86 d.out.hR (by rw[cI,cI,jd];rfl) (fun D R o=>C _ _ ?_);clear C K
   |refine cZ 86 ?_;refine ab (by rfl) _ (uk _ rfl) ?_
   |refine al 86 ?_;refine aF 86 w.heap.size 0 rfl ?_;refine aH rfl fun K C=>wp_store_row 86 _ _ rfl w.heap.size rfl _ rfl J9 (by rw[lg];rfl) _ 86 d.out.hR rfl (fun D R o=>C _ _ ?_);clear C K)
  first
  |obtain rfl:=X.out;obtain rfl:=XQ.out
   have J:lB A B (lc A B n r).toArray D:=⟨n,r,rfl,(h.out.apart o (by omega)).at,(u.out.apart o (by omega)).at⟩;exact aI rfl w.heap.size 0 (lc A B n r) _ rfl (aE R) Li rfl (by rw[lg,jd]) rfl ⟨⟨_,rfl,J.size,J.one,n,r,rfl,(h.out.apart o (by omega)).uW (by omega),(u.out.apart o (by omega)).uW (by omega)⟩,o.below d.out.hB bG (by have:=d.out.size;omega)⟩
  |exact aI rfl w.heap.size 0 Cp _ rfl (aE R) Li rfl (by rw[lg];rfl) rfl ⟨⟨_,rfl,(yf D).size,(yf D).one,Jo _ D⟩,o.below d.out.hB bG (by have:=d.out.size;omega)⟩)
def zO (l p):aK (l.drop p) 0=aK l p:=by
 unfold aK
 congr 1
 exact uw 4 fun j _=>by simp only[List.getD,bY,qD]
def CX {A B p} (b:A.length=p) (n):aK (A++(jB n++B)) p=aK (jB n) 0:=by
 unfold aK
 congr 1
 refine uw 4 fun j a=>?_;simp only[List.getD,bY];rw[fT (by omega),b,jH,eY (by rw[cC];exact a)]
def yl (n:Nat) (h:n<4294967296):aK (jB (n:Int)) 0=n:=by
 have a:=x4 (l:=jB (n:Int)) (rt _) 0;simp only[rdI,bY]at a
 have g:∀j,j<4→(jB (n:Int)).getD j 0=lL n j:=fun j b=>by
  match j,b with
  |0,_=>rfl
  |1,_=>rfl
  |2,_=>rfl
  |3,_=>rfl
 rw[g 0 (by decide),g 1 (by decide),g 2 (by decide),g 3 (by decide)]at a;unfold lL at a;omega
def Fits (zs:List Nat) (ps:List (List Int)):Prop:=ps.length=zs.length∧∀i,i<zs.length→zs.getD i 0≠0→(ps.getD i []).length=zs.getD i 0
section
variable {zs:List Nat} {ps:List (List Int)} {H:Nat}
theorem om (h:Fits zs ps):∀k,k≤zs.length→(layK H zs ps k).1.length=headN (zs.take k)
 |0,_=>by simp[layK,headN]
 |k+1,c=>by
  have a:=om h k (by omega);rw[lF zs k (by omega)];simp only[layK];split
  ·simp[cC,a]
  ·rename_i b
   rw[bM,a,h.2 k (by omega) b]
theorem qO (k:Nat):∀n,k≤n→(∃t,(layK H zs ps n).1=(layK H zs ps k).1++t)∧∃t,(layK H zs ps n).2=(layK H zs ps k).2++t
 |0,d=>by
  obtain rfl:k=0:=by omega
  exact⟨⟨[],by simp⟩,[],by simp⟩
 |n+1,d=>by
  rcases oD n k with c|c
  ·obtain rfl:k=n+1:=by omega
   exact⟨⟨[],by simp⟩,[],by simp⟩
  ·obtain⟨⟨t,b⟩,u,a⟩:=qO k n c
   simp only[layK];split
   ·exact⟨⟨t++_,by rw[b,dA]⟩,u++_,by rw[a,dA]⟩
   ·exact⟨⟨t++_,by rw[b,dA]⟩,u,a⟩
theorem yw (k:Nat):∀n,k≤n→∃t,cutA zs n=cutA zs k++t
 |0,c=>by
  obtain rfl:k=0:=by omega
  exact⟨[],by simp⟩
 |n+1,c=>by
  rcases oD n k with b|b
  ·obtain rfl:k=n+1:=by omega
   exact⟨[],by simp⟩
  ·obtain⟨t,a⟩:=yw k n b
   simp only[cutA];split
   ·exact⟨t++_,by rw[a,dA]⟩
   ·exact⟨t,a⟩
theorem UT (A X B:List Int) (p k) (a:A.length=p) (b:X.length=k):((A++X++B).drop p).take k=X:=by rw[dA];exact gJ A X B p k a b
theorem Ti (h:Fits zs ps) (k) (b:k<zs.length) (X) (c:X=if zs.getD k 0=0 then jB ((headN zs+(layK (headN zs) zs ps k).2.length:Nat):Int)else ps.getD k []):
 ((eS zs ps).drop (headN (zs.take k))).take X.length=X:=by
 obtain⟨⟨t,a⟩,_⟩:=qO (H:=headN zs) (zs:=zs) (ps:=ps) (k+1) zs.length b
 have e:(layK (headN zs) zs ps (k+1)).1=(layK (headN zs) zs ps k).1++X:=by subst c;simp only[layK];split<;>rfl
 unfold eS;rw[a,e,dA];exact UT _ X _ _ _ (om h k (by omega)) rfl
theorem ko (h:Fits zs ps):(eS zs ps).length=headN zs+(layK (headN zs) zs ps zs.length).2.length:=by unfold eS;rw[bM,om h zs.length bG,gC]
theorem P_ (l:List Int) (p:Nat) (n:Nat) (h:(l.drop p).take 4=jB (n:Int)) (hn:n<4294967296):aK l p=n:=by rw[←yl n hn,←h];exact(qM l p).symm
theorem OB (h:Fits zs ps) (hl:(eS zs ps).length<4294967296) (k) (c:k<zs.length) (a:zs.getD k 0=0):aK (eS zs ps) (headN (zs.take k))=headN zs+(layK (headN zs) zs ps k).2.length:=by obtain⟨_,t,b⟩:=qO (H:=headN zs) (zs:=zs) (ps:=ps) k zs.length (by omega);rw[ko h,b,bM]at hl;refine P_ _ _ _ ?_ (by omega);exact Ti h k c (jB _) (by rw[aj a])
theorem yL {t u:List Nat} {x} (f):((t++[x]++u).map f).getD t.length 0=f x:=by simp[List.getD]
theorem yn (h:Fits zs ps) (hl:(eS zs ps).length<4294967296):∀d k,k+d=zs.length→(gU zs (eS zs ps)).getD (cutA zs k).length 0=headN zs+(layK (headN zs) zs ps k).2.length
 |0,k,f=>by
  obtain rfl:k=zs.length:=by omega
  unfold gU;rw[List.getD,fT (by simp),jK,Ar,List.getElem?_cons_zero,Option.getD_some,ko h]
 |d+1,k,f=>by
  have b:=yn h hl d (k+1) (by omega);by_cases a:zs.getD k 0=0
  ·obtain⟨t,c⟩:=yw (zs:=zs) (k+1) zs.length (by omega)
   have e:cutA zs (k+1)=cutA zs k++[headN (zs.take k)]:=by simp only[cutA,aj a]
   unfold gU;rw[c,e,List.getD,eY (by simp)];have:=yL (t:=cutA zs k) (u:=t) (x:=headN (zs.take k)) (aK (eS zs ps));rw[List.getD]at this;rw[this];exact OB h hl k (by omega) a
  ·have i:cutA zs (k+1)=cutA zs k:=by simp only[cutA,an a]
   have g:(layK (headN zs) zs ps (k+1)).2=(layK (headN zs) zs ps k).2:=by simp only[layK,an a]
   rw[i,g]at b;exact b
theorem OP (h:Fits zs ps) (hl:(eS zs ps).length<4294967296):fV zs (eS zs ps)=ps:=by
 refine mG fun i=>?_;by_cases b:i<zs.length
 ·have e:(fV zs (eS zs ps))[i]?=some (ik zs (eS zs ps) i):=by simp[fV,b]
  have k:ps[i]?=some (ps.getD i []):=by
   have:i<ps.length:=by rw[h.1];exact b
   simp[List.getD,this]
  rw[e,k]
  congr 1
  unfold ik;by_cases a:zs.getD i 0=0
  ·rw[aj a]
   have j:(cutA zs (i+1)).length=(cutA zs i).length+1:=by simp only[cutA,aj a,bM,List.length_cons,List.length_nil]
   have f:=yn h hl (zs.length-i) i (by omega);have c:=yn h hl (zs.length-(i+1)) (i+1) (by omega);rw[j]at c;have d:(layK (headN zs) zs ps (i+1)).2=(layK (headN zs) zs ps i).2++ps.getD i []:=by simp only[layK,aj a]
   rw[f,c,d,bM];obtain⟨_,t,g⟩:=qO (H:=headN zs) (zs:=zs) (ps:=ps) (i+1) zs.length b;unfold eS;rw[g,d,dA,←dA];refine gJ _ _ _ _ _ ?_ (by omega);rw[bM,om h zs.length bG,gC]
  ·rw[an a]
   have:=Ti h i b (ps.getD i []) (by rw[an a])
   rwa [h.2 i b a]at this
 ·rw[eT (by rw[dO];omega),eT (by rw[h.1];omega)]
theorem Gw {q:Nat}:∀n,q<(cutA zs n).length→∃k,k<n∧zs.getD k 0=0∧(cutA zs k).length=q
 |0,h=>by simp[cutA]at h
 |n+1,h=>by
  by_cases a:q<(cutA zs n).length
  ·obtain⟨k,d,c⟩:=Gw n a
   exact⟨k,by omega,c⟩
  ·simp only[cutA]at h
   split at h
   ·rename_i b
    simp only[bM,List.length_singleton]at h;exact⟨n,by omega,b,by omega⟩
   ·exact absurd h a
theorem JB:∀k,(cutA zs k).length=0→(layK H zs ps k).2=[]
 |0,_=>rfl
 |k+1,h=>by
  simp only[cutA]at h;split at h
  ·simp at h
  ·rename_i a
   simp only[layK,an a];exact JB k h
theorem Db (l) {q} (h:q<(cutA zs zs.length).length):(gU zs l).getD q 0=((cutA zs zs.length).map (aK l)).getD q 0:=by unfold gU;rw[List.getD,eY (by rw[jK];exact h)];rfl
theorem JA (h:Fits zs ps) (hl:(eS zs ps).length<4294967296):bz (headN zs) (eS zs ps).length ((cutA zs zs.length).map (aK (eS zs ps))) (cutA zs zs.length).length:=fun q d=>by
 have b:∀q,q<(cutA zs zs.length).length→∃k,k<zs.length∧(cutA zs k).length=q∧((cutA zs zs.length).map (aK (eS zs ps))).getD q 0=headN zs+(layK (headN zs) zs ps k).2.length:=fun q d=>by obtain⟨k,i,g,a⟩:=Gw zs.length d;have:=yn h hl (zs.length-k) k (by omega);rw[a,Db _ d]at this;exact⟨k,i,a,this⟩
 obtain⟨k,i,g,a⟩:=b q d;have hL:=ko h;obtain⟨_,t,l⟩:=qO (H:=headN zs) (zs:=zs) (ps:=ps) k zs.length (by omega);rw[l,bM]at hL;rintro(⟨rfl,hb⟩|hb|hb)
 ·rw[a,JB k g]at hb
  exact hb rfl
 ·by_cases e:q=0
  ·rw[aj e,a]at hb
   omega
  ·rw[an e,a]at hb
   obtain⟨c,p,o,n⟩:=b (q-1) (by omega)
   have m:c≤k:=by
    rcases oD k c with f|f
    ·have:=z7 zs k c (by omega);omega
    ·exact f
   obtain⟨_,u,j⟩:=qO (H:=headN zs) (zs:=zs) (ps:=ps) c k m;rw[n,j,bM]at hb;omega
 ·rw[a]at hb
  omega
theorem JX {l} (b:∀x∈l,CK.ok .u8 x) {p} (c:p+4≤l.length):(l.drop p).take 4=jB (aK l p:Int):=mX (l:=l.drop p) (fun x a=>b x (kM a)) (by rw[bJ];omega) _ (zO l p)
theorem D0 (l:List Int) {a b c} (f:a≤b) (d:b≤c):(l.drop a).take (b-a)++(l.drop b).take (c-b)=(l.drop a).take (c-a):=by
 have e:l.drop b=(l.drop a).drop (b-a):=by rw[lO,show a+(b-a)=b by omega]
 rw[e,←IJ,show b-a+(c-b)=c-a by omega]
theorem OC {l} (s:∀x∈l,CK.ok .u8 x) (w:headN zs≤l.length) (m:bz (headN zs) l.length ((cutA zs zs.length).map (aK l)) (cutA zs zs.length).length) (z:(cutA zs zs.length).length=0→l.length=headN zs):
 Fits zs (fV zs l)∧eS zs (fV zs l)=l:=by
 have v:Fits zs (fV zs l):=⟨dO zs l,fun i j a=>by
  rw[fN _ _ _ j,ik,an a,cf,bJ];have y:=lF zs i j;rw[an a]at y;have J:=mW zs (i+1)
  omega⟩
 have d:∀k,k≤zs.length→(layK (headN zs) zs (fV zs l) k).1=l.take (headN (zs.take k))∧headN zs≤(gU zs l).getD (cutA zs k).length 0∧(gU zs l).getD (cutA zs k).length 0≤l.length∧
  (layK (headN zs) zs (fV zs l) k).2=(l.drop (headN zs)).take ((gU zs l).getD (cutA zs k).length 0-headN zs):=by
  intro k
  induction k with
  |zero=>
   intro _
   have e:(gU zs l).getD (cutA zs 0).length 0=headN zs:=by
    rcases E' (cutA zs zs.length).length with b|b
    ·have D:cutA zs zs.length=[]:=s9.1 b
     show (gU zs l).getD 0 0=_;unfold gU;rw[D];exact z b
    ·show (gU zs l).getD 0 0=_
     rw[Db _ b];have:=m 0 b;unfold g5 at this;by_cases hn:((cutA zs zs.length).map (aK l)).getD 0 0=headN zs
     ·exact hn
     ·exact absurd (Or.inl ⟨rfl,hn⟩) this
   rw[e];simp[layK,headN,w]
  |succ k p=>
   intro u;obtain⟨h,g,q,f⟩:=p (by omega);have I:=mW zs (k+1);have hs:=lF zs k (by omega);by_cases a:zs.getD k 0=0
   ·obtain⟨G,F,E⟩:=OQ zs l zs.length _ k rfl rfl m (by omega) a
    have B:(cutA zs (k+1)).length=(cutA zs k).length+1:=by simp only[cutA,aj a,bM,List.length_cons,List.length_nil]
    have A:(gU zs l).getD (cutA zs k).length 0=aK l (headN (zs.take k)):=by
     obtain⟨t,r⟩:=yw (zs:=zs) (k+1) zs.length u;have e:cutA zs (k+1)=cutA zs k++[headN (zs.take k)]:=by simp only[cutA,aj a]
     rw[Db _ G,r,e];exact yL (aK l)
    rw[aj a]at hs;rw[B];simp only[layK,aj a];rw[fN _ _ _ (by omega),ik,aj a,h,f];have c:((l.drop (headN zs)).take ((gU zs l).getD (cutA zs k).length 0-headN zs)).length=(gU zs l).getD (cutA zs k).length 0-headN zs:=by rw[cf,bJ];omega
    refine⟨?_,by omega,E,D0 l g F⟩;rw[c,show headN zs+((gU zs l).getD (cutA zs k).length 0-headN zs)=(gU zs l).getD (cutA zs k).length 0 by omega,A,←JX s (by omega),hs,IJ]
   ·have C:cutA zs (k+1)=cutA zs k:=by simp only[cutA,an a]
    rw[an a]at hs;rw[C];simp only[layK,an a];refine⟨?_,g,q,f⟩;rw[fN _ _ _ (by omega),ik,an a,h,hs,IJ]
 obtain⟨o,_,_,n⟩:=d zs.length bG;refine⟨v,?_⟩;unfold eS;rw[o,n,gC]
 have e:(gU zs l).getD (cutA zs zs.length).length 0=l.length:=by unfold gU;rw[List.getD,fT (by simp),jK,Ar];rfl
 rw[e,show (l.drop (headN zs)).take (l.length-headN zs)=l.drop (headN zs)from kL (by rw[bJ];exact cD _),jI]
end
end Go.Proofs.YtjeoeibdgciafaaGreatDoor
namespace Go.Proofs.YtjeoeibdgciafaaGreatDoor
open Go.ChangeShapes Go.WideShapes Go.ChangeAt Go.RowKit BigFrame
open Go.Proofs.Tryz
def F1 {l a} (g:∀x∈l,CK.ok .u8 x) (h:Ix.rd l 0 a):a.ok∧a.err=0∧a.L=l:=by obtain⟨f,b,e,d,c⟩:=QA g h;exact⟨⟨e,d,c,by omega⟩,by unfold Ix.err;rw[aj b],by unfold Ix.L;rw[aj b];exact f⟩
def FZ {a:Ix} (h:a.ok) (b:a.err=0):∃c,Ix.rd a.L 0 c∧c.aO=a.aO∧∀s,c.cells s=a.cells s:=by
 have d:a.aO.length≤64:=by
  unfold Ix.err at b;split at b
  ·assumption
  ·cases b
 obtain⟨k,j,i,g,f⟩:=Qn d h.hw h.hd h.hs;refine⟨⟨a.aO,k,j⟩,by unfold Ix.L;rw[aj d];exact i,rfl,fun s=>?_⟩;unfold Ix.cells bI;rw[bU (N:=100) (kd:=ba) g,bU (N:=96) (kd:=fun _=> .u8) f]
def QE {l a b} (c:∀x∈l,CK.ok .u8 x) (h:AN l 0 a b):a.ok∧b.ok∧k_ a b=0∧kZ a b=l:=by
 rcases h with⟨m,_⟩|⟨_,i,g,k,j⟩
 ·exact absurd rfl m
 ·obtain⟨f,y,w⟩:=Dj i g
  obtain⟨v,u,s⟩:=F1 (l:=qe l) (jO c 8 _) k;obtain⟨r,q,p⟩:=F1 (l:=s0 l) (jO c (aK l 4) _) j;have d:k_ a b=0:=by unfold k_;rw[aj u];exact q
  refine⟨v,r,d,?_⟩;unfold kZ;rw[aj d,s,p];have o:l.take 4=jB 8:=mX c (by omega) 8 f
  have n:(l.drop 4).take 4=jB ((8+(qe l).length:Nat):Int):=by
   have hl:(qe l).length=aK l 4-8:=by unfold qe;rw[cf,bJ];omega
   rw[hl,show 8+(aK l 4-8)=aK l 4 by omega];exact mX (l:=l.drop 4) (fun x e=>c x (kM e)) (by rw[bJ];omega) _ (zO l 4)
  rw[←o,←n];unfold qe s0;rw[OR l (aK l 4) (l.length-aK l 4) (by omega),oW l 8 (aK l 4-8) (aK l 4) (by omega),oW l 4 4 8 (by decide),jI]
def QX {a b} (ha:a.ok) (n:b.ok) (c:k_ a b=0):∃e d,AN (kZ a b) 0 e d∧e.aO=a.aO∧d.aO=b.aO∧(∀s,e.cells s=a.cells s)∧∀s,d.cells s=b.cells s:=by
 have g:a.err=0:=by
  unfold k_ at c;split at c
  ·assumption
  ·contradiction
 have r:b.err=0:=by unfold k_ at c;rwa [aj g]at c
 obtain⟨e,k,i,v⟩:=FZ ha g;obtain⟨d,j,h,u⟩:=FZ n r;have hl:=p8 c;have y:=a.IF;have w:=b.IF;have hL:kZ a b=jB 8++(jB ((8+a.L.length:Nat):Int)++(a.L++b.L)):=by unfold kZ;rw[aj c]
 have l:aK (kZ a b) 0=8:=by rw[hL];exact(CX (A:=[]) rfl 8).trans (yl 8 (by decide))
 have f:aK (kZ a b) 4=8+a.L.length:=by rw[hL];exact(CX (cC _) _).trans (yl _ (by omega))
 have p:qe (kZ a b)=a.L:=by unfold qe;rw[f,hL,show jB 8++(jB ((8+a.L.length:Nat):Int)++(a.L++b.L))=(jB 8++jB ((8+a.L.length:Nat):Int))++(a.L++b.L) by simp];exact gJ _ _ _ 8 (8+a.L.length-8) (by simp[cC]) (by omega)
 have o:s0 (kZ a b)=b.L:=by unfold s0;rw[f,hl,hL,show jB 8++(jB ((8+a.L.length:Nat):Int)++(a.L++b.L))=(jB 8++(jB ((8+a.L.length:Nat):Int)++a.L))++(b.L++[]) by simp];exact gJ _ _ _ _ _ (by simp[cC];omega) (by omega)
 refine⟨e,d,Or.inr ⟨rfl,by omega,fun q m=>?_,by rw[p];exact k,by rw[o];exact j⟩,i,h,v,u⟩;rw[l,f];unfold g5
 match q,m with
 |0,_=>simp;omega
 |1,_=>simp;omega
def lB.congr {a b d c Y W} (h:lB d c Y W) (l:d.aO=a.aO) (k:c.aO=b.aO) (p:∀s,d.cells s=a.cells s) (o:∀s,c.cells s=b.cells s):lB a b Y W:=by obtain⟨s,t,e,⟨n,r,j,g⟩,m,q,i,f⟩:=h;rw[l]at j g;rw[k]at i f;refine⟨s,t,?_,⟨n,r,j,g⟩,m,q,i,f⟩;rw[e];unfold lc;rw[p,o]
def Xn (X:Array Value) (W:World):Prop:=∃a b:Ix,lB a b X W∧a.ok∧b.ok
def SN (j:Nat):Option CK:=if j<197 then vR j else vR (j-197)
def Ql:kindsB prog 86 394 SN=true:=by kernel_rfl
def QQ:(oQ prog 86).getD 0 0=78:=by kernel_rfl
def QO:(oQ prog 86).getD 197 0=78:=by kernel_rfl
def X_ {H:Type} {m:TypeId×Value→H} {W k g h N i off} {b:List Value} {l} {y:DataW H×List MemPlace} (E:b[off]?=some l) (z:DataW.trod m prog W k g h i 78 [l]=some y) (I:Rows.uptoBulk y.1≤N) (G:N≤1048576) (u:off+197≤b.length) (B:∀j,j<197→∀c,vR j=some c→∃v,b[off+j]?=some v∧v=c.mk (num v)∧c.ok (num v)):∃a:Ix,a.ok∧a.at l W∧(b.drop off).take 197=a.cells l:=by
 obtain⟨w,n,o,rfl,q,F⟩:=FC qw Z5 ZA z
 have r:∀j,j<197→∀c,vR j=some c→b[off+j]?=some (c.mk (num (b.getD (off+j) undef)))∧c.ok (num (b.getD (off+j) undef)):=fun j d c C=>by
  obtain⟨v,p,e,A⟩:=B j d c C;have D:b.getD (off+j) undef=v:=by simp only[List.getD,p,Option.getD_some]
  rw[D,p];exact⟨fB some e,A⟩
 have s:∀j,j<100→b[off+(1+j)]?=some ((ba j).mk (num (b.getD (off+(1+j)) undef)))∧(ba j).ok (num (b.getD (off+(1+j)) undef)):=fun j d=>r (1+j) (by omega) (ba j) (by unfold vR;rw[an (by omega),aj (by omega),jH]);have hs:∀j,j<96→b[off+(101+j)]?=some (.int .u8 (num (b.getD (off+(101+j)) undef)))∧CK.ok .u8 (num (b.getD (off+(101+j)) undef)):=fun j d=>r (101+j) (by omega) .u8 (by unfold vR;rw[an (by omega),an (by omega)]);refine⟨⟨o,fun j=>num (b.getD (off+(1+j)) undef),fun j=>num (b.getD (off+(101+j)) undef)⟩,⟨q.ok,fun j d=>(s j d).2,fun j d=>(hs j d).2,by show o.length≤_;omega⟩,⟨w,n,rfl,q⟩,?_⟩;have f:∀j,j<197→((b.drop off).take 197)[j]?=b[off+j]?:=fun j d=>by rw[nO d,qD]
 exact F9 (by rw[cf,bJ];omega) (by rw[f 0 (by decide)];exact E) (fun j d=>by rw[f _ (by omega)];exact(s j d).1) (fun j d=>by rw[f _ (by omega)];exact(hs j d).1)
def WH {H:Type} {k:TypeId×Value→H} {W g d e N f X} {x:DataW H×List MemPlace} (h:DataW.trod k prog W g d e f 86 X.toList=some x) (s:Rows.uptoBulk x.1≤N) (q:N≤1048576):Xn X W:=by
 obtain⟨hl,p,ha⟩:=nw Ql h s;obtain⟨m,K,I,w,o,C⟩:=ha 0 (by decide);obtain⟨l,J,G,v,n,B⟩:=ha 197 (by decide);rw[QQ]at o;rw[QO]at n
 obtain⟨a,F,E,D⟩:=X_ (off:=0) w o C q (by omega) (fun j r c i=>by
  rw[bY]
  exact p j (by omega) c (by unfold SN;rw[aj (by omega)];exact i))
 obtain⟨b,A,z,y⟩:=X_ (off:=197) v n B q (by omega) (fun j r c i=>p (197+j) (by omega) c (by unfold SN;rw[an (by omega),jH];exact i));refine⟨a,b,⟨m,l,?_,E,z⟩,F,A⟩;apply Array.toList_inj.1;show X.toList=a.cells m++b.cells l;rw[←D,←y,rZ];have u:(X.toList.drop 197).take 197=X.toList.drop 197:=kL (by rw[bJ];omega);rw[u,jI]
def ZH:rowB prog 86 394=true:=by kernel_rfl
end Go.Proofs.YtjeoeibdgciafaaGreatDoor
namespace Go.Proofs.YtjeoeibdgciafaaGreatDoor
open Go.RowKit BigFrame
open Go.Proofs.Tryz
def bu:Nat→CK:=kdF bl
def fa:(Nat→Int)→List Int:=dF bl
def fw:List Int→Nat→Int:=rdF bl
section
variable {f g:Nat→Int} {l:List Int} {w:World}
theorem fO (f):(fa f).length=184:=ez bl f
theorem mv (a:∀j,j<177→(bu j).ok (f j)):∀m∈fa f,CK.ok .u8 m:=x6 (fd:=bl) rfl a
theorem lJ (a:∀j,j<177→(bu j).ok (f j)):fY (dI f):=D_ a
theorem BA (f) (d:∀j,j<177→(bu j).ok (f j)) (w):Calls prog 95 #[.agg (ae 177 bu f).toArray] w fun e b=>(∃a c,e= .returned (.slice a 184 c)∧(a=none→c=0)∧bc w.heap.size (.slice a 184 c) (fa f) b)∧Below w.heap.size w b:=Ak f w d
theorem Ac (f) (d:∀j,j<177→(bu j).ok (f j)) (w):Calls prog 114 #[.agg (ae 177 bu f).toArray] w fun e b=>(∃a c,e= .returned (.tuple #[.slice a 184 c,.int .i64 0])∧(a=none→c=0)∧bc w.heap.size (.slice a 184 c) (fa f) b)∧Below w.heap.size w b:=yZ f w d
theorem Ab (f) (b:∀j,j<177→(bu j).ok (f j)) (w) (c:cY w):Calls prog 162 #[.agg (ae 177 bu f).toArray] w fun e a=>e= .returned (.agg (ax (dI f)))∧Below w.heap.size w a:=yY f w b c
theorem yS (f) (b:∀j,j<177→(bu j).ok (f j)) (w) (c:cY w):Calls prog 126 #[.agg (ae 177 bu f).toArray] w fun e a=>e= .returned (.tuple #[.agg (ax (dI f)),.int .i64 0])∧Below w.heap.size w a:=wY f w b c
theorem wW (l a c w) (h:Row w a .u8 l) (j:l.length≤c) (hn:a=none→c=0) (hl:∀b o,a=some ⟨b,o,none⟩→b<w.heap.size) (i:l.length=184):
 Calls prog 136 #[.slice a 184 c] w fun e d=>e= .returned (.tuple #[.agg (ae 177 bu (fw l)).toArray,.int .i64 0])∧Below w.heap.size w d:=y8 l a c w ⟨h,hn,j,hl⟩ i
theorem vd (l a c w) (hs:cG a c l w) (d:l.length=184):
 Calls prog 145 #[.slice a 184 c] w fun e b=>e= .returned (.tuple #[.agg (ae 177 bu (fw l)).toArray,.int .i64 0])∧Below w.heap.size w b:=wZ l a c w hs d
theorem up (h:∀k,k<177→f k=g k):fa f=fa g:=wR (fd:=bl) rfl h
theorem Ad (hl:l.length=184) (a:∀x∈l,CK.ok .u8 x) (k) (b:k<177):(bu k).ok (fw l k):=IY (fd:=bl) rfl hl a k b
theorem za (l) (hl:l.length=184) (a:∀x∈l,CK.ok .u8 x):fa (fw l)=l:=CP (fd:=bl) hl a
end
def bf (j:Nat):CK:=if j<304 then .u8 else if j<305 then .u64 else .u8
def gH (f:Nat→Int):List Int:=ff f 0 224++fa (fb f 224)
def iy (f):(gH f).length=408:=by simp[gH,aX,az,fO]
def EU {f} (a:∀j,j<401→(bf j).ok (f j)):∀m∈gH f,CK.ok .u8 m:=(dB (eM (gr a (da (by kernel_rfl)) (by decide))) (mv (d7 a (bB (by kernel_rfl)) (by decide))))
def lD:rowB prog 98 401=true:=by kernel_rfl
def Rf (a b) (h:a+b≤224):∀j,j<b→bf (a+j)= .u8:=fun j c=>by unfold bf;rw[aj (by omega)]
def FB:rowB prog 92 224=true:=by kernel_rfl
def Om (f N o i) (h:i*32+32≤N):((ae N (fun _=>CK.u8) (fb f o)).toArray.extract (i*32) (i*32+32))=(ae 32 (fun _=>CK.u8) (fb f (o+32*i))).toArray:=by refine iW (by rw[extract_size _ _ _ (by simpa[ae]using h)]) (fun j a=>?_);rw[KI _ _ _ _ a,fu,aN _ _ _ _ (by omega)];unfold fb;rw[show o+(i*32+j)=o+32*i+j by omega]
def PS {g f o t W} (h:W.heap[g]?=some (.cells (ae 32 (fun _=>CK.u8) (fb f o)).toArray t (0,0))) (c:∀j,j<32→mD (f (o+j))):cG (some ⟨g,0,none⟩) 32 (ff f o 32) W:=by refine⟨⟨fun i a=>⟨g,0,rfl,?_⟩,eM c⟩,(fun e=>by cases e),by rw[az];exact cD _,fun b d e=>by cases e;exact aD h⟩;rw[az]at a;rw[br W g _ _ _ _ h,fu,aN _ _ _ _ (by omega),n9 _ _ _ _ a];simp[fb]
def JY (f o a b c) (h:o+a=b) (d:a+c=b-o+c):ff f o a++ff f b c=ff f o (a+c):=by
 subst h;unfold ff;rw[List.range_add,kN,Fc]
 congr 1
 apply Fd;intro j _;simp[oF]
def Ol {P a o} (w t e n s x y) (j:o.op= .index t x y) (h:P.underlying t=some (.array n e)) {d} (he:P.underlying e=some d) (m:d.isRow=true) (hs:(P.info? e).map (·.size)=some s) (b) (g:a x= .agg b) (k i) (f:a y= .int k i) (l:i<n) (z) (c:b.extract (i*s) (i*s+s)=z):(execOp a o).run P w= .ok (.value (.agg z)) w:=by subst c;unfold execOp;simp only[j,g,f,dN,D2 w t e n s h he m hs b k i l,Result.andThen,Sem.run_pure]
def KJ (f) (q:∀j,j<401→(bf j).ok (f j)) (w):
 Calls prog 34 #[.agg (ae 401 bf f).toArray] w fun e l=>(∃d c,e= .returned (.tuple #[.slice d 408 c,.int .i64 0])∧(d=none→c=0)∧bc w.heap.size (.slice d 408 c) (gH f) l)∧Below w.heap.size w l:=by
 have g:=aa q;clear q
 go_enter func34,ntmps34
 go_wp2_with (first
  |refine ao 65 ?_;refine fX 4 C6 ?_
   refine bZ (fun W=>fA w.heap.size 401 bf f 98 [] w W) (fA.begin (ak _ _ _ _ rfl) rfl) ?_;intro W s;have b:=aa s;clear s
  |refine ag 92 ?_;refine ab (by rfl) _ (ar _ 92 _ (by rfl) w.heap.size 0 (by rfl) (ae 224 (fun _=> .u8) (fb f 0)) _ (b.out.toBox.sub 0 224 (fun _=> .u8) (Rf 0 224 (by decide)) (by decide)) underlying92 rfl (by rw[ah FB,ac])) ?_
   obtain⟨X,h⟩:∃X,X=(ae 224 (fun _=>CK.u8) (fb f 0)).toArray:=⟨_,rfl⟩;rw[←h];have B:=aa h
   clear h)
 go_loopw [9] (fun i wr=>∃k:Nat,k≤7∧i= .int .i64 (k:Int)∧fA w.heap.size 401 bf f 98 (ff f 0 (32*k)) w wr) (fun i _=>7-(intOf i).toNat)
 case atStart=>exact⟨0,by omega,rfl,b.out⟩
 case round=>
  obtain⟨k,A,rfl,a⟩:=hrel;replace b:=aa a;clear a;by_cases p:k<7
  ·have G:(k:Int)<7:=by omega
   go_wp2_with (first
    |refine Dl 92 ?_;refine ab (by rfl) _ (Ol _ 92 25 7 32 _ _ rfl underlying92 cH rfl (ah am) X rfl .i64 k rfl p (ae 32 (fun _=> .u8) (fb f (0+32*k))).toArray (by rw[B.out];exact Om f 224 0 k (by omega))) ?_
    |refine ao 25 ?_;refine aw rfl rfl 25 _ _ rfl rfl rfl (ae 32 (fun _=> .u8) (fb f (0+32*k))).toArray rfl rfl (zeroOf prog 25) (aG am).1 (aG am).2 (aA _ _ _) ?_
     refine bZ (fun W=>fA w.heap.size 401 bf f 98 (ff f 0 (32*k)) w W∧cG (some ⟨wr.heap.size,0,none⟩) 32 (ff f (32*k) 32) W) ⟨b.out.later dt,PS (by rw[bY];exact ak _ _ _ _ rfl) (gr g.out (Rf (32*k) 32 (by omega)) (by omega))⟩ ?_;rintro W ⟨a,v⟩;replace b:=aa a;have D:=aa v;clear a v
    |with_reducible refine(fA.app b.out _ 32 _ _ D.out (az _ _ _) (by rw[az];omega)).mono ?_
     rintro e W ⟨rfl,a⟩;rw[JY f 0 (32*k) (32*k) 32 (by omega) (by omega)]at a;replace b:=aa a
     clear a)
   first
    |exact⟨⟨k+1,by omega,by go_num,b.out⟩,by simp[intOf];omega⟩
    |refine⟨?_,by simp[intOf];omega⟩
     (repeat apply Exists.intro)
     exact⟨⟨k+1,by omega,by go_num,b.out⟩,rfl⟩
  ·have e:k=7:=by omega
   subst e;clear p A
   go_wp2_with (first
    |refine ag 96 ?_;refine ab (by rfl) _ (ar _ 96 _ (by rfl) w.heap.size 224 rfl (ae 177 bu (fb f 224)) _ (b.out.toBox.sub 224 177 bu (bB (by kernel_rfl)) (by decide)) Lh rfl (by rw[ah eA,ac])) ?_
    |with_reducible refine(BA (fb f 224) (d7 g.out (bB (by kernel_rfl)) (by decide)) _).mono ?_
     rintro e W ⟨⟨y,F,rfl,o,n⟩,r⟩;have a:=b.out.later r;have hl:=aa (cG.b_ n (mv (d7 g.out (bB (by kernel_rfl)) (by decide))) o);replace b:=aa a;clear a o n r
    |with_reducible refine(fA.app b.out _ 184 y F hl.out (fO _) (by rw[az];decide)).mono ?_
     rintro e W ⟨rfl,a⟩;clear hl;replace b:=aa a;clear a
    |with_reducible refine(fA.done b.out 408 (by rw[bM,az,fO]) (by decide)).mono ?_
     rintro e W ⟨⟨d,c,rfl,m,u⟩,E⟩;have C:=aa u;have z:=aa m
     clear u m)
   exact bR rfl _ _ rfl rfl rfl ⟨⟨d,c,rfl,z.out,C.out⟩,E⟩
def cK (l:List Int) (k:Nat):Int:=if k<224 then l.getD (0+(k-0)) 0 else fw ((l.drop 224).take 184) (k-224)
def pT:(prog.info? 98).map (fun i=>(i.zero,i.size))=some (some (.agg (ae 401 bf fun _=>0).toArray),401):=by kernel_rfl
def D7 (l f c w) (D:Row w f .u8 l) (X:l.length≤c) (G:f=none→c=0) (H:∀b o,f=some ⟨b,o,none⟩→b<w.heap.size) (y:l.length=408):
 Calls prog 70 #[.slice f 408 c] w fun e s=>e= .returned (.tuple #[.agg (ae 401 bf (cK l)).toArray,.int .i64 0])∧Below w.heap.size w s:=by
 have P:=aa D;have Q:=aa G;have T:=aa H;have z:=aa y;have V:l.length≤70368744177664:=by rw[y];decide
 clear y;clear D G H
 go_enter func70,ntmps70
 go_wp2_with (first
  |refine ao 98 ?_;refine fX 2 pT ?_
  |refine ao 98 ?_;refine fX 4 pT ?_
  |with_reducible refine(RdS.open (N:=401) (kd:=bf) (r:=cK l) rfl 408 408 (408:Int) rfl z.out (err:=0) rfl (by decide) P.out X Q.out T.out V).mono ?_
   rintro e W ⟨rfl,d⟩;have a:=aa d
   clear d)
 go_loopw [11] (fun i wr=>∃k:Nat,k≤7∧i= .int .i64 (k:Int)∧RdS w.heap.size 401 bf 98 l f c (32*k) 0 (32*k) (cK l) w wr) (fun i _=>7-(intOf i).toNat)
 case atStart=>exact⟨0,by omega,rfl,a.out⟩
 case round=>
  obtain⟨k,U,rfl,d⟩:=hrel;replace a:=aa d;clear d;by_cases R:k<7
  ·have lk:(k:Int)<7:=by omega
   go_wp2;rename_i K O;refine dQ (S:=fun _=>True) (by kernel_rfl) ?_;have Z:True:=trivial;refine aJ (i:=0) (v:=(.int .i64 (k:Int))) rfl (by kernel_rfl) bH ‹_› (fun s cX=>by go_simp) ?_;go_frame;refine d5 1 (.pointer (some ⟨w.heap.size+1,0,none⟩)) rfl (by kernel_rfl) (fun _=>by kernel_rfl) bH ‹_› ?_;go_frame;refine aJ (i:=2) (v:=(.pointer (some ⟨w.heap.size+1,k*32,none⟩))) rfl (by kernel_rfl) bH ‹_› (fun s cX=>by go_simp) ?_;go_frame;refine kg 3 4 (.slice (some ⟨w.heap.size+1,k*32,none⟩) 32 32) (.pointer (some ⟨w.heap.size+1+1,0,none⟩)) rfl (by kernel_rfl) (fun _=>by kernel_rfl) bH ‹_› ?_;go_frame;refine cQ (i:=5) rfl (by kernel_rfl) rfl (it 61 #[.pointer (some ⟨w.heap.size+1+1,0,none⟩),.int .i64 32] (by go_simp) _ ((a.out.drew _).Tq 32 (32:Int) rfl (by decide) (by decide) (fun _=>by rw[z.out];omega)) ?_);rintro v W ⟨b,u,B,q,rfl,n,p,h,g,m,d⟩;refine⟨trivial,?_⟩;go_frame;rw[NC k 32];refine cQ (i:=6) rfl (by kernel_rfl) rfl (wH _ _ rfl (32*k) 32 b u B 32 rfl rfl d q h g rfl (Rf (32*k) 32 (by omega)) (by omega) (fun e j I=>by rw[m (by trivial),bA _ _ _ _ I];unfold cK;rw[aj (by omega)];congr 1;omega) (fun W M=>⟨trivial,?_⟩));refine dM (by kernel_rfl) ?_ _;refine O _ _ ?_;replace a:=aa M;clear O K Z h n p m g d;clear M;generalize goInt 32=gi;go_frame;go_wp2
   first
    |exact⟨⟨k+1,by omega,by go_num,a.out⟩,by simp[intOf];omega⟩
    |refine⟨?_,by simp[intOf];omega⟩
     (repeat apply Exists.intro)
     exact⟨⟨k+1,by omega,by go_num,a.out⟩,rfl⟩
  ·have e:k=7:=by omega
   subst e;clear R U;obtain⟨W,A⟩:∃W,W=wr:=⟨_,rfl⟩;subst A;have L:RdS w.heap.size 401 bf 98 l f c 224 0 224 (cK l) w W:=a.out;replace a:=aa L;clear L
   go_wp2_with (first
    |refine ag 41 ?_;refine dq (v:=(.int .i64 0)) a.out.dS fU ?_ rfl rfl rfl rfl
    |with_reducible refine(RdS.kh a.out 184 (184:Int) rfl (by decide) (by decide) (fun _=>by rw[z.out];decide)).mono ?_
     rintro e W ⟨b,u,B,q,rfl,n,p,C,E,F,d⟩;have h:=aa C;have g:=aa E;have m:=aa F;clear C E F;replace a:=aa d;clear d
    |with_reducible refine(wW q (some ⟨b,u,none⟩) B _ h.out (by rw[g.out];exact n) (fun e=>by cases e) (fun b o e=>by cases e;exact p) g.out).mono ?_
     rintro e W ⟨rfl,J⟩;have d:=a.out.later J;clear J n p h;replace a:=aa d;clear d
    |refine ao 96 ?_;refine aw rfl rfl 96 _ _ rfl rfl rfl (ae 177 bu (fw q)).toArray rfl rfl (zeroOf prog 96) (aG eA).1 (aG eA).2 (aA _ _ _) ?_
    |refine ag 96 ?_;refine ab (by rfl) _ (ay _ 96 _ (by rfl) W.heap.size (by rfl) _ _ (0,0) _ (ak W (ae 177 bu (fw q)).toArray 96 W.heap.size rfl) Lh rfl (by rw[ah eA];simp[ae])) ?_
    |refine al 96 ?_;refine aF 96 (w.heap.size+1) 224 rfl ?_;refine vY rfl 96 _ _ rfl 224 177 rfl bu (fw q) rfl (ah eA) (a.out.later dt) rfl (bB (by kernel_rfl)) (by decide) (fun e j I=>by rw[m.out (by trivial)];simp only[cK];(repeat' split)<;>first|(exfalso;omega)|(congr 1<;>omega)) (fun W1 d=>?_)
     obtain⟨W,A⟩:∃W,W=W1:=⟨_,rfl⟩;subst A;clear m g;replace a:=aa d;clear d
    |with_reducible refine(RdS.Yg a.out).mono ?_
     rintro e W ⟨rfl,d⟩;replace a:=aa d;clear d
    |refine ag 41 ?_;refine dq (v:=(.int .i64 0)) a.out.dS fU ?_ rfl rfl rfl rfl
    |refine ag 98 ?_;refine ab (by rfl) _ (ay _ 98 _ (by rfl) (w.heap.size+1) (by rfl) _ _ (0,0) _ a.out.res RK rfl (by rw[ah lD];simp[ae])) ?_
    |refine al 98 ?_;refine aF 98 w.heap.size 0 rfl ?_;refine aq (w0:=w) (n0:=w.heap.size) 98 _ _ rfl rfl w.heap.size rfl _ rfl (aA _ _ _) (by rw[ah lD];simp[ae]) _ 98 a.out.hR (by simp[ae]) (by omega) a.out.hB (fun W9 Y dY _=>?_))
   exact aI rfl w.heap.size 0 (ae 401 bf (cK l)) _ rfl Y RK rfl (by rw[ah lD,ac]) rfl ⟨rfl,dY⟩
def HM {l} (hl:l.length=408) (b:∀x∈l,CK.ok .u8 x) (k) (d:k<401):(bf k).ok (cK l k):=by
 by_cases c:k<224
 ·have a:bf k= .u8:=by have h:=((da (by kernel_rfl)):∀j,j<224→bf (0+j)= .u8) (k-0) (by omega);rwa [show 0+(k-0)=k by omega]at h
  rw[a];unfold cK;rw[aj c];exact iu b _
 have a:bf k=bu (k-224):=by have h:=((bB (by kernel_rfl)):∀j,j<177→bf (224+j)=bu j) (k-224) (by omega);rwa [show 224+(k-224)=k by omega]at h
 rw[a];unfold cK;rw[an c];exact Ad (oT l 224 184 408 hl (by decide)) (jO b _ _) (k-224) (by omega)
def ET (l) (hl:l.length=408) (a:∀x∈l,CK.ok .u8 x):gH (cK l)=l:=by
 have d:ff (cK l) 0 224=(l.drop 0).take 224:=tG _ l 0 0 224 (fun j b=>by unfold cK;(repeat' split)<;>first|(exfalso;omega)|(congr 1<;>omega)) (by omega)
 have c:fa (fb (cK l) 224)=(l.drop 224).take 184:=by
  rw[up (g:=fw ((l.drop 224).take 184)) fun j b=>by
   show cK l (224+j)=_
   simp only[cK];(repeat' split)<;>first|(exfalso;omega)|(congr 1<;>omega)]
  exact za _ (oT l 224 184 408 hl (by decide)) (jO a _ _)
 unfold gH;rw[d,c]
 try simp only[dA]
 rw[OR l 224 184 (by omega),oW l 0 224 224 (by decide)];rfl
end Go.Proofs.YtjeoeibdgciafaaGreatDoor
