/- Steps of the proof. -/
import Derived.Test.YtjeoeibdgciafaaGreatDoorM6
set_option linter.all false
set_option maxRecDepth 100000
set_option maxHeartbeats 16000000
namespace Go.Proofs.YtjeoeibdgciafaaGreatDoor
open Go.RowKit BigFrame
open Go.Proofs.Tryz
def Uj (rs r k i) (a:k<rs.length):leaf (rs.set k r) i=if i=k then r else leaf rs i:=by
 unfold leaf;simp only[List.getD,Fe];by_cases e:k=i
 ·subst e;simp[a]
 ·rw[an e,an (fun h=>e h.symm)]
section
variable {n:Nat} {C:List Value} {t tc:TypeId} {K:Nat} {rs:List (Nat→Int)} {w W W':World}
theorem EG {f b o a Q} (H:o.guard=none) (x y) (D:o.op= .store 25 x y) (i r) (z:a.eval x= .pointer (some ⟨n+1+1,32*i,none⟩)) (v:a.eval y= .agg (ax r)) (h:cm n C t tc K rs w W) (G:i<rs.length) (J:i<K) (B:fY r) (E:∀W',cm n C t tc K (rs.set i r) w W'→wpList prog f Q b (a.put o.dst undef) W'):wpList prog f Q (o::b) a W:=by
 obtain⟨Z,l,N,s⟩:=h.hC;have hs:=h.size
 have m:W.there (n+1+1) (32*i) (ax r).size:=fun j c=>by
  have c:j<32:=by simpa[ae]using c
  refine⟨?_,j' l _⟩;rw[br W (n+1+1) _ Z _ _ l,s i J j c];rfl
 refine aH H fun O I=>s_ 25 x y D (n+1+1) (32*i) (ax r) z v m (by rw[ah am];simp[ae]) (aA _ _ _) (I _ _ (E _ ?_));have k:aL (n+1+1) W (W.setCells (n+1+1) (32*i) (ax r).toList):=(aL.refl _ _).setCells _ _ _ (Or.inl rfl);obtain⟨u,p,M⟩:=gq (n+1+1) (ax r).toList (32*i) W Z _ l;have A:=AA W (n+1+1) (32*i) (ax r).toList (by simpa using m);have L:Below n w (W.setCells (n+1+1) (32*i) (ax r).toList):=k.below h.hB (by omega) (by omega);refine⟨⟨(k.block n (by omega) (by omega)).trans h.hX,L⟩,(k.block _ (by omega) (by omega)).trans h.hR,⟨u,p,M.trans N,fun g F j c=>?_⟩,fun q d=>?_,?_,h.h3⟩
 ·rw[←br _ (n+1+1) (32*g+j) u _ _ p,Uj _ _ _ _ G]
  by_cases e:g=i
  ·subst e
   rw[aj rfl];exact A j _ (aN 32 (fun _=> .u8) r j c)
  ·rw[an e,Cw (n+1+1) _ _ W ⟨n+1+1,32*g+j,none⟩ (fun _ _=>by simp[ae];omega),br W (n+1+1) _ Z _ _ l]
   exact s g F j c
 ·rcases List.mem_or_eq_of_mem_set d with d|d
  ·exact h.is q d
  ·rw[d];exact B
 ·exact h.hT.below (by have:=h.h3;omega) (k.below (aP (n+1+1) W) bG (by omega))
theorem cm.ZJ (h:cm n C t tc K rs w W) (i) (d:i<K) (r) (c:leaf rs i=r):W.rangeAt (n+1+1) (32*i) (ae 32 (fun _=> .u8) r):=by
 subst c;obtain⟨Z,f,g,e⟩:=h.hC;intro j v a;have b:j<32:=by have:=(io.1 a).1;rwa [ac]at this
 rw[aN _ _ _ _ b]at a;rw[br W (n+1+1) _ _ _ _ f,e i d j b];exact a
theorem cm.X2 (h:cm n C t tc K rs w W) (l g c k q) (hl:cG g c l W) (v:l.length=k) (u:(k+31)/32=q) (z:k≤1000000000):
 Calls prog 50 #[.slice g k c] W fun e f=>∃a d,e= .returned (.slice a q d)∧j_ f a (chunks l)∧(∀b o,a=some ⟨b,o,none⟩→b<f.heap.size)∧q≤d∧cm n C t tc K rs w f:=by
 subst v;refine(qU l g c W hl.row hl.low (by omega)).mono fun _ _ ⟨⟨a,d,m,j⟩,y⟩=>?_;have i:(chunks l).length=q:=by rw[di,u]
 rw[i]at m j;obtain⟨s,r,p⟩:=j.VY i (im hl.row.ok);exact⟨a,d,m,s,r,p,h.later y⟩
theorem cm.X6 (h:cm n C t tc K rs w W) (l:List (Nat→Int)) (a:Option Addr) (c q d m:Nat) (x:Int) (g:x=(m:Int)) (hl:j_ W a l) (k:∀b o,a=some ⟨b,o,none⟩→b<W.heap.size) (s:q≤c) (i:l.length=q) (j:q≤m) (r:lN m d) (p:d≤40):
 Calls prog 49 #[.slice a q c,.int .i64 x] W fun e f=>e= .returned (.agg (ax (fullT d (leaf l))))∧cm n C t tc K rs w f:=by
 subst g;exact(mj l q m d a c W i j r p hl k s h.hT).mono fun _ _ ⟨v,u⟩=>⟨v,h.later u⟩
end
def Mc (a b g f d) (k:∀j,j<100→(ba j).ok (f j)) (i:∀j,j<96→CK.ok .u8 (d j)) (w) (l:cY w) (h:Row w b .u64 a) (B:64<a.length) (D:a.length≤1000000000):
 Calls prog 124 #[.agg (bI (.slice b a.length g) f d).toArray] w fun e p=>e= .returned (.tuple #[.agg (ax bh),.int .i64 6])∧Below w.heap.size w p:=by
 have E:=aa k;have hs:=aa i;have A:=aa h;have r:=aa l;clear k i h l;have y:decide ((64:Int)<(a.length:Int))=true:=by simp;omega
 go_enter func124,ntmps124
 go_wp2_with (first
  |refine ao 25 ?_;refine fX 2 cg ?_
  |refine ao 182 ?_;refine aH rfl fun K o=>bT 182 rfl 5 rfl (rep 96) 96 (by kernel_rfl) (o _ _ ?_);clear o K
   refine bZ (fun W=>cm w.heap.size (bI (.slice b a.length g) f d) 84 182 3 [] w W) (cm.begin (ak _ _ _ _ rfl) rfl r.out (by simp) (iM _)) ?_;intro W m;have c:=aa m;clear m
  |refine ag 78 ?_;refine dq (v:=(.slice b a.length g)) (c.out.toBoxL.cell 0) qw ?_ rfl rfl rfl rfl
  |refine cZ 25 ?_;refine ab (by rfl) _ (ct _ rfl) ?_
  |refine al 25 ?_;refine aF 25 (w.heap.size+1) 0 rfl ?_;refine aq (w0:=w) (n0:=w.heap.size) 25 _ _ rfl rfl (w.heap.size+1) rfl _ rfl (aA _ _ _) (by rw[ah am];simp[ae]) _ 25 c.out.hR (by rw[bL];simp[ae]) (by omega) c.out.hB (fun F q s _=>?_))
 exact aI rfl (w.heap.size+1) 0 (ae 32 (fun _=> .u8) bh) _ rfl q cH rfl (by rw[ah am,ac]) rfl ⟨rfl,s⟩
def PO (a r o g f) (lM:∀j,j<100→(ba j).ok (g j)) (fc:∀j,j<96→CK.ok .u8 (f j)) (w) (fP:cY w) (jW:Row w r .u64 a) (hk:a.length≤64):
 Calls prog 124 #[.agg (bI (.slice r a.length o) g f).toArray] w fun e w'=>e= .returned (.tuple #[.agg (ax (xT a g f)),.int .i64 0])∧Below w.heap.size w w':=by
 have hd:=aa lM;have hs:=aa fc;have hw:=aa jW;have hT:=aa fP;clear lM fc jW fP;have t1:decide ((64:Int)<(a.length:Int))=false:=by simp;omega
 go_enter func124,ntmps124
 go_wp2_with (first
  |refine ao 25 ?_;refine fX 2 cg ?_
  |refine ao 182 ?_;refine aH rfl fun K hK=>bT 182 rfl 5 rfl (rep 96) 96 (by kernel_rfl) (hK _ _ ?_);clear hK K
   refine bZ (fun W=>cm w.heap.size (bI (.slice r a.length o) g f) 84 182 3 [] w W) (cm.begin (ak _ _ _ _ rfl) rfl hT.out (by simp) (iM _)) ?_;intro W cc;have b:=aa cc;clear cc
  |refine ag 78 ?_;refine dq (v:=(.slice r a.length o)) (b.out.toBoxL.cell 0) qw ?_ rfl rfl rfl rfl
  |refine cZ 25 ?_;refine ab (by rfl) _ (ct _ rfl) ?_
  |refine al 25 ?_;refine aF 25 (w.heap.size+1) 0 rfl ?_;refine aq (w0:=w) (n0:=w.heap.size) 25 _ _ rfl rfl (w.heap.size+1) rfl _ rfl (aA _ _ _) (by rw[ah am];simp[ae]) _ 25 b.out.hR (by rw[bL];simp[ae]) (by omega) b.out.hB (fun W9 gM dY _=>?_))
 have hf8:=dm;obtain⟨N,S⟩:∃N,N=W.heap.size:=⟨_,rfl⟩;have Vk:w.heap.size+3≤N:=by rw[S];exact b.out.size
 have J:=aa (Nat.le_of_eq S);clear S
 go_loopw [6,7] (fun p i wr=>∃k:Nat,k≤a.length∧i= .int .i64 (k:Int)∧cm w.heap.size (bI (.slice r a.length o) g f) 84 182 3 [] w wr∧(∃L c,p= .slice L (8*k) c)∧bc N p (d_ (a.take k)) wr∧N≤wr.heap.size) (fun _ i _=>a.length-(intOf i).toNat)
 case atStart=>exact⟨0,by omega,rfl,b.out,⟨none,0,rfl⟩,bc.nil _ _,J.out⟩
 case round=>
  obtain⟨k,BU,rfl,d,⟨L,c,rfl⟩,sG,xk⟩:=hrel;replace b:=aa d;clear J;have G:=aa sG;clear d sG;by_cases R:k<a.length
  ·obtain⟨V,M,rfl,wj⟩:=(hw.out.later b.out.hB).cell k R
   have hc:=aa wj;have No:=aa (o9 a k R);have O:=aa (show (d_ (a.take k)).length=8*k by rw[dm,cf];omega);clear wj;generalize a.getD k 0=m at*;generalize d_ (a.take k)=q at*;generalize zd:d_ (a.take (k+1))=q2 at*;have V5:=aa zd;clear zd;have lk:(k:Int)<(a.length:Int):=by omega
   go_wp2_with (first
    |refine ag 78 ?_;refine dq (v:=(.slice (some ⟨V,M,none⟩) a.length o)) (b.out.toBoxL.cell 0) qw ?_ rfl rfl rfl rfl
    |refine aC 78 ?_;refine ab (by rfl) _ (ai _ 78 26 _ _ rfl qw 1 rq V M a.length o rfl .i64 k rfl R (M+k) (by omega)) ?_
    |refine ag 26 ?_;refine dq (v:=(.int .u64 m)) hc.out Ik ?_ rfl rfl rfl rfl
    |with_reducible refine(A4 m _).mono ?_
     rintro U W2 ⟨⟨vn,cn,rfl,dG,fR⟩,l⟩;have u:=aa (b.out.later l);have mC:=aa (aU G.out l);have nL:=aa (cG.b_ fR (na m) dG);have Al:=l.size;clear l fR dG
    |refine dy 39 ?_;refine cB (w0:=W2) rfl (.tmp 20) (.tmp 26) rfl N q (fH m) _ rfl (by unfold bc;rw[O.out];exact(by have h:=mC.out;rw[O.out]at h;exact h)) vn cn (by rw[aX];rfl) nL.out.row (by rw[O.out,aX];omega) (by omega) nL.out.nil (aP _ _) (fun v1 W3 T P z1=>?_)
     obtain⟨z,H,U,vk⟩:=aW T;rw[bM,O.out,aX]at U;subst U;have jG:=aa (show cm w.heap.size (bI (.slice (some ⟨V,M,none⟩) a.length o) g f) 84 182 3 [] w W3 from⟨u.out.toBoxL.later (P.mono (by omega)),(P.block _ (by omega)).trans u.out.hR,u.out.hC.block (P.block _ (by omega)),u.out.is,u.out.hT.below (by have:=u.out.h3;omega) P,u.out.h3⟩);have my:=aa T
     clear T vk)
   exact⟨⟨k+1,by omega,by go_num,jG.out,⟨z,H,rfl⟩,by rw[V5.out,No.out];exact my.out,z1⟩,by simp[intOf];omega⟩
  ·have e0:k=a.length:=by omega
   subst e0;rw[gC]at G
   have XD:L=none→c=0:=by
    obtain⟨eR,c',e',vt⟩:=aW G.out;injection e' with e5 e6 e7
    subst e5;subst e7;exact vt
   have K_:=dm a;have Bd:=aa (cG.b_ (by have h:=G.out;exact h) (nt a) XD);obtain⟨q,Q⟩:∃q,q=(8*a.length+31)/32:=⟨_,rfl⟩;have Y:q≤16:=by omega
   have pB:=aa (show (chunks (d_ a)).length=q by rw[di,K_,Q]);have Ve:=aa Q.symm;have I:=aa (Oi a);have X:=aa (show fullT 4 (leaf (chunks (d_ a)))=B8 a from rfl);have Q5:=aa (lY hd.out);have Z:=aa (jj (B8 a) (je (a.length:Int)));have Ep:=aa (show fY (uU 2 (ff f 0 96))from jg (eM fun j hj=>by rw[bY];exact hs.out j hj));clear G XD Q
   go_wp2_with (first
    |with_reducible refine(cm.X2 b.out (d_ a) L c (8*a.length) q Bd.out K_ Ve.out (by omega)).mono ?_
     rintro e W ⟨z,H,rfl,A,E,F,d⟩;have B:=aa A;have D:=aa E;clear A E Bd;replace b:=aa d;clear d
    |with_reducible refine(cm.X6 b.out (chunks (d_ a)) z H q 4 16 (16:Int) rfl B.out D.out F pB.out Y (by unfold lN;decide) (by decide)).mono ?_
     rintro e W ⟨rfl,d⟩;rw[X.out];clear B D F;replace b:=aa d;clear d
    |refine al 25 ?_;refine aF 25 (w.heap.size+1+1) (32*0) rfl ?_;refine fG rfl (.tmp 31) (.tmp 30) rfl 0 (B8 a) rfl rfl b.out rfl (by decide) I.out (fun y d=>?_)
     obtain⟨W,s⟩:∃W,W=y:=⟨_,rfl⟩;subst s;replace b:=aa d;clear d
    |refine ag 25 ?_;refine ab (by rfl) _ (ar _ 25 _ (by rfl) (w.heap.size+1+1) (32*0) rfl (ae 32 (fun _=> .u8) (B8 a)) _ (b.out.ZJ 0 (by decide) _ rfl) cH rfl (by rw[ah am,ac])) ?_
    |refine ag 78 ?_;refine dq (v:=(.slice r a.length o)) (b.out.toBoxL.cell 0) qw ?_ rfl rfl rfl rfl
    |with_reducible refine(zK (B8 a) (a.length:Int) _ I.out b.out.hT).mono ?_
     rintro e W ⟨rfl,l⟩;have d:=b.out.later l;clear l;replace b:=aa d;clear d
    |refine al 25 ?_;refine aF 25 (w.heap.size+1+1) (32*0) rfl ?_;refine EG rfl (.tmp 39) (.tmp 38) rfl 0 (gX (B8 a) (je (a.length:Int))) rfl rfl b.out (by simp) (by decide) Z.out (fun y d=>?_)
     obtain⟨W,s⟩:∃W,W=y:=⟨_,rfl⟩;subst s;replace b:=aa d;clear d
    |refine ag 82 ?_;refine ab (by rfl) _ (ar _ 82 _ (by rfl) w.heap.size 1 rfl (ae 100 ba g) _ (dg b.out.hX (pre:=[.slice r a.length o]) rfl 1 rfl) Bi rfl (by rw[ah gl,ac])) ?_
    |with_reducible refine(Dr g hd.out _ b.out.hT).mono ?_
     rintro e W ⟨rfl,l⟩;have d:=b.out.later l;clear l;replace b:=aa d;clear d
    |refine al 25 ?_;refine aF 25 (w.heap.size+1+1) (32*1) rfl ?_;refine fG rfl _ _ rfl 1 (gt g) rfl rfl b.out rfl (by decide) Q5.out (fun y d=>?_)
     obtain⟨W,s⟩:∃W,W=y:=⟨_,rfl⟩;subst s;replace b:=aa d;clear d
    |with_reducible refine(cm.pack b.out (ff f 0 96) _ 96 96 3 (b.out.toBoxL.sl (pre:= .slice r a.length o::ae 100 ba g) (post:=[]) (by simp[bI]) (by simp[ac]) hs.out) (az _ _ _) (by decide) (by decide) (by decide)).mono ?_
     rintro e W ⟨z,H,rfl,A,E,F,d⟩;have B:=aa A;have D:=aa E;clear A E;replace b:=aa d;clear d
    |with_reducible refine(cm.Pc b.out (ff f 0 96) z H 3 2 (3:Int) B.out D.out F (by rw[az]) rfl (by unfold lN;decide) (by decide)).mono ?_
     rintro e W ⟨rfl,d⟩;clear B D F;replace b:=aa d;clear d
    |refine al 25 ?_;refine aF 25 (w.heap.size+1+1) (32*2) rfl ?_;refine fG rfl _ _ rfl 2 (uU 2 (ff f 0 96)) rfl rfl b.out rfl (by decide) Ep.out (fun y d=>?_)
     obtain⟨W,s⟩:∃W,W=y:=⟨_,rfl⟩;subst s;replace b:=aa d;clear d
    |with_reducible refine(cm.last b.out 2 (3:Int) rfl rfl (by unfold lN;decide) (by decide)).mono ?_
     rintro e W ⟨rfl,gA,mN⟩;have oB:=aa mN;clear mN b
    |refine al 25 ?_;refine aq (w0:=w) (n0:=w.heap.size) 25 _ _ rfl rfl (w.heap.size+1) rfl _ rfl (aA _ _ _) (by rw[ah am];simp[ae]) _ 25 oB.out (by rw[bL];simp[ae]) (by omega) gA (fun W9 gM dY _=>?_))
   exact aI rfl (w.heap.size+1) 0 (ae 32 (fun _=> .u8) (xT a g f)) _ rfl gM cH rfl (by rw[ah am,ac]) rfl ⟨rfl,dY⟩
def P9 (l:List Int) (va:Option Addr) (c a m:Nat) (w) (hl:Row w va .u8 l) (s:l.length≤c) (hn:va=none→c=0) (g:∀b o,va=some ⟨b,o,none⟩→b<w.heap.size) (C:a≤1000000) (B:0<m) (r:l.length≤70368744177664):
 Calls prog 59 #[.slice va l.length c,.int .i64 (a:Int),.int .i64 (m:Int)] w fun e w'=>e= .returned (.pointer (some ⟨w.heap.size,0,none⟩))∧K1 w.heap.size l va c 0 (if a≤l.length then 0 else 4) w'∧Below w.heap.size w w':=by
 have q:=aa hl;have p:=aa g;clear hl g;have f:∀(err:Nat) (W:World),W.heap[w.heap.size]?=some (.cells (inC va l.length c 0 err) 135 (0,0))→Below w.heap.size w W→K1 w.heap.size l va c 0 err W:=fun err W y v=>⟨y,q.out.later v,p.out,s,hn,r⟩;have j:=aa f;clear f;have D:((m:Int)==0)=false:=by simp;omega
 go_enter func59,ntmps59
 by_cases k:a≤l.length
 ·have z:decide ((l.length:Int)<(a:Int))=false:=by simp;omega
  rw[aj k]
  go_wp2_with (
   ((with_reducible refine cZ 135 ?_);refine ab (by rfl) _ (run_build _ _ rfl _ (tW _ _ _ _)) ?_))
  have d:=((aP w.heap.size w).alloc bG (.cells (inC va l.length c 0 0) 135));exact cA rfl _ rfl rfl ⟨rfl,j.out 0 _ (ak _ _ _ _ rfl) d,d⟩
 ·have z:decide ((l.length:Int)<(a:Int))=true:=by simp;omega
  rw[an k]
  go_wp2_with (first
   |refine cZ 135 ?_;refine ab (by rfl) _ (run_build _ _ rfl _ (tW _ _ _ _)) ?_
   |refine al 41 ?_;refine aH rfl fun K h=>bt 41 _ _ rfl w.heap.size 4 rfl _ rfl rfl oR _ _ (ak _ _ _ _ rfl) (by simp[BT]) (fun A u n=>h _ _ ?_);clear h K)
  have d:=n.below ((aP w.heap.size w).alloc bG _) bG (by rw[bn];omega);exact cA rfl _ rfl rfl ⟨rfl,j.out 4 A u d,d⟩
def aK (l:List Int) (p:Nat):Nat:=(rdI (fun j=>l.getD (p+j) 0) 4).toNat
def x4 {l} (h:∀x∈l,CK.ok .u8 x) (p):((aK l p:Nat):Int)=rdI (fun j=>l.getD (p+j) 0) 4:=by have:=CG (f:=fun j=>l.getD (p+j) 0) (fun j=>iu h (p+j)) 4;unfold aK;omega
def WI {l} (h:∀x∈l,CK.ok .u8 x) (p):aK l p<4294967296:=by have a:=(CG (f:=fun j=>l.getD (p+j) 0) (fun j=>iu h (p+j)) 4).2;have e:(2:Int)^(8*4)=4294967296:=rfl;rw[e]at a;have:=x4 h p;omega
def yj {x y:Int} {s:Nat} (hs:s≤24) (e:0≤x∧x<2^s) (d:mD y):bits .or .i64 x (IntKind.i64.wrap (y*2^s))=x+y*2^s:=by
 unfold mD at d;have f:(0:Int)<2^s:=Int.pow_pos (by decide)
 have j:(2:Int)^s≤2^24:=by
  have:2^s≤2^24:=nN (by decide) hs
  exact_mod_cast this
 have o:y*2^s≤255*2^s:=Ss d.2 (Fh f);have h:0≤y*2^s:=Int.mul_nonneg d.1 (Fh f);have m:(2:Int)^24=16777216:=rfl;have g:IntKind.i64.wrap (y*2^s)=y*2^s:=by rw[bP];omega
 have k:(2:Int)^63=9223372036854775808:=rfl;rw[g,a6,bits_join .i64 63 (by decide) (fun n a b=>show IntKind.i64.wrap n=n by rw[bP];omega) s (y*2^s) x h (Int.mul_emod_left _ _) (by omega) e.1 e.2 (by omega)];omega
structure zk (aB:List Nat) (nx:Nat) (i:Nat) (l:List Int) (va:Option Addr) (c at' err:Nat) (w:World):Prop where
 ex:∃u,xh u nx i l va c at' err w∧w.ownsRow (i+1) 3 1 u aB.length (aB.map fun n:Nat=>Value.int .i64 (n:Int))
section
variable {aB:List Nat} {nx i:Nat} {l:List Int} {va:Option Addr} {c at' err:Nat} {w w':World}
theorem zk.size (h:zk aB nx i l va c at' err w):i+1≤w.heap.size:=by obtain⟨u,a,_⟩:=h.ex;exact a.size
theorem zk.of (h:K1 i l va c at' err w):zk [] 0 i l va c at' err w:=⟨_,h,⟨rfl,Or.inl ⟨rfl,rfl⟩⟩⟩
theorem zk.later (h:zk aB nx i l va c at' err w) (a:Below w.heap.size w w'):zk aB nx i l va c at' err w':=by obtain⟨u,b,d⟩:=h.ex;exact⟨u,b.later (a.mono b.size),aU d a⟩
theorem zk.bytes (h:zk aB nx i l va c at' err w) (n) (f:0<n) (hn:n≤4294967296) (g:err=0→at'+n≤l.length):
 Calls prog 61 #[.pointer (some ⟨i,0,none⟩),.int .i64 (n:Int)] w fun e w'=>(∃a b,e= .returned (.slice a n b)∧n≤b∧(a=none→b=0)∧Row w' a .u8 (Rh l at' err n))∧zk aB nx i l va c (if err=0 then at'+n else at') err w'∧aL i w w':=by
 obtain⟨u,o,m⟩:=h.ex;exact(zQ i l va c at' err n w o f hn g).mono fun _ _ ⟨k,j,d⟩=>⟨k,⟨u,j,de m d (mE i)⟩,d⟩
theorem zk.fail (h:zk aB nx i l va c at' err w) (a:Nat):
 Calls prog 63 #[.pointer (some ⟨i,0,none⟩),.int .i64 (a:Int)] w fun e w'=>e= .returned (.tuple #[])∧zk aB nx i l va c at' (if err=0 then a else err) w'∧aL i w w':=by
 obtain⟨u,j,g⟩:=h.ex;exact(C7 i l va c at' err a w j).mono fun _ _ ⟨f,d,b⟩=>⟨f,⟨u,d,de g b (mE i)⟩,b⟩
theorem zk.dS (h:zk aB nx i l va c at' err w):w.cell? ⟨i,4,none⟩=some (.int .i64 (err:Int)):=by obtain⟨u,a,_⟩:=h.ex;exact dV a.cells 4
theorem zk.cell (h:zk aB nx i l va c at' err w):∃u,w.heap[i]?=some (.cells (BT u nx va l.length c at' err) 135 (0,0)):=by obtain⟨u,a,_⟩:=h.ex;exact⟨u,a.cells⟩
end
def F8 {u nx} (i l va c at' err w) (h:xh u nx i l va c at' err w) (he:err≠0):
 Calls prog 64 #[.pointer (some ⟨i,0,none⟩)] w fun e w'=>e= .returned (.slice none 0 0)∧w=w':=by
 have a:=aa h;clear h;have b:((err:Int) !=0)=true:=by simp[he]
 go_enter func64,ntmps64
 go_wp2_with (
  ((with_reducible refine ag 41 ?_);refine dq (v:=(.int .i64 (err:Int))) (dV a.out.cells 4) fU ?_ rfl rfl rfl rfl))
 exact cA rfl _ rfl rfl ⟨rfl,rfl⟩
def mt {P h o} (w t e x y z) (s:o.op= .slice t x (some y) (some z) none) (q:P.underlying t=some (.slice e)) (k) (r:(P.info? e).map (·.size)=some k) (b g j a d f) (p:h x= .slice (some ⟨b,g,none⟩) j a) (n:h y= .int .i64 (d:Int)) (m:h z= .int .i64 (f:Int)) (D:d≤f) (C:f≤a):
 (execOp h o).run P w= .ok (.value (.slice (some ⟨b,if a=d then g else g+d*k,none⟩) (f-d) (a-d))) w:=by
 have B:(0:Int)≤(d:Int):=by omega
 have A:(d:Int)≤(f:Int):=by omega
 have v:(0:Int)≤(f:Int):=by omega
 have u:(f:Int)≤(a:Int):=by omega
 unfold execOp;simp only[s,p,n,m,Option.map_some,Option.map_none,Instr.sliceAt,Instr.slice,Instr.sliceBounds,Instr.sliceBound,asIntOf,dN,Sem.run_pure,Result.andThen_ok,no q,nZ r,aj (And.intro B A),aj (And.intro v u),Int.toNat_natCast,vO];by_cases c:a=d
 ·simp only[aj c]
 ·simp only[an c,Option.map_some]
def TP {w l b o c} (h:Row w (some ⟨b,o,none⟩) .u8 l) (a d) (q:a≤d) (p:d≤l.length) (n:l.length≤c):Row w (some ⟨b,if c=a then o else o+a*1,none⟩) .u8 ((l.drop a).take (d-a)):=by
 by_cases e:c=a
 ·have k:d-a=0:=by omega
  rw[k,List.take_zero];exact⟨fun j g=>absurd g (by simp),fun m f=>absurd f (by simp)⟩
 ·rw[an e,As]
  exact jk h a (d-a) (by omega)
def yt {aB nx} (i l va c at' w) (H:zk aB nx i l va c at' 0 w) (K8:nx+1<aB.length) (EZ:aB.length≤1000) (a b) (ha:aB.getD nx 0=a) (Z:aB.getD (nx+1) 0=b) (HZ:a≤b) (nV:b≤l.length) (ni:0<l.length) (kO:at'≤1000000):
 Calls prog 64 #[.pointer (some ⟨i,0,none⟩)] w fun e w'=>(∃f o c',e= .returned (.slice (some ⟨f,o,none⟩) (b-a) c')∧b-a≤c'∧f<i∧Row w' (some ⟨f,o,none⟩) .u8 ((l.drop a).take (b-a)))∧zk aB (nx+1) i l va c (at'+4) 0 w'∧aL i w w':=by
 have hz:=H.size;obtain⟨u,h,A⟩:=H.ex;obtain⟨f,k,gb,_⟩:=h.row.cell 0 ni;subst gb;have O:f<i:=h.low _ _ rfl
 obtain⟨g,d,q,rfl,Nq,Nr,G,Eg⟩:∃g d q,u= .slice (some ⟨g,0,none⟩) aB.length d∧i+1≤g∧w.heap[g]?=some (.cells q 3 (0,0))∧(∀j,j<aB.length→w.cell? ⟨g,j,none⟩=some (.int .i64 ((aB.getD j 0:Nat):Int)))∧True:=by
  rcases A.2 with⟨_,L⟩|⟨g,d,q,L,h3,h4,_⟩
  ·omega
  ·refine⟨g,d,q,L,h3,h4,fun j F=>?_,trivial⟩
   subst L;rw[A.cellAt j (by omega)];simp[List.getD,F]
 have Y:=G nx (by omega);have X:=G (nx+1) (by omega);rw[ha]at Y;rw[Z]at X;have W:=h.cap;have E:=aa h.row;have y:=aa A;have s:=aa h;clear G Eg ha Z H h A;have rc:IntKind.i64.wrap ((at':Int)+4)=((at'+4:Nat):Int):=by rw[bP];omega
 have Ee:IntKind.i64.wrap ((nx:Int)+1)=((nx+1:Nat):Int):=by rw[bP];omega
 have Vd:IntKind.i64.wrap (((nx+1:Nat):Int)-1)=(nx:Int):=by rw[bP];omega
 have hw4:IntKind.i64.wrap (nx:Int)=(nx:Int):=by rw[bP];omega
 go_enter func64,ntmps64
 go_wp2_with (first
  |refine ag 41 ?_;refine dq (v:=(.int .i64 0)) (dV s.out.cells 4) fU ?_ rfl rfl rfl rfl
  |refine ag 3 ?_;refine iX 3 i 1 rfl ?_;refine dq (v:=(.int .i64 (at':Int))) (dV s.out.cells 1) pi ?_ rfl rfl rfl rfl
  |refine al 3 ?_;refine aF 3 i 1 rfl ?_;refine aH rfl fun K r=>bt 3 _ _ rfl i 1 rfl (.int .i64 ((at'+4:Nat):Int)) rfl rfl LE _ _ s.out.cells (by simp[BT]) (fun W1 m7 V=>r _ _ ?_);clear r K
   have J:=aa m7;clear m7
  |refine ag 3 ?_;refine iX 3 i 3 rfl ?_;refine dq (v:=(.int .i64 (nx:Int))) (dV J.out 3) pi ?_ rfl rfl rfl rfl
  |refine al 3 ?_;refine aF 3 i 3 rfl ?_;refine aH rfl fun K r=>bt 3 _ _ rfl i 3 rfl (.int .i64 ((nx+1:Nat):Int)) rfl rfl LE _ _ J.out (by simp[BT]) (fun n fW U=>r _ _ ?_);clear r K
   have ww:=aa fW
   clear fW)
 have I:n.heap[i]?=some (.cells (BT (.slice (some ⟨g,0,none⟩) aB.length d) (nx+1) (some ⟨f,k,none⟩) l.length c (at'+4) 0) 135 (0,0)):=ww.out;have C:aL i w n:=V.trans U;have z:=aD Nr;have d1:n.cell? ⟨g,nx,none⟩=some (.int .i64 (a:Int)):=(C.cell (p:=⟨g,nx,none⟩) z (show g≠i by omega)).trans Y;have d2:n.cell? ⟨g,nx+1,none⟩=some (.int .i64 (b:Int)):=(C.cell (p:=⟨g,nx+1,none⟩) z (show g≠i by omega)).trans X;clear J ww V U W1;rename_i K r;refine dQ (S:=fun w'=>w'.heap[i]?=some (.cells (BT (.slice (some ⟨g,0,none⟩) aB.length d) (nx+1) (some ⟨f,k,none⟩) l.length c (at'+4) 0) 135 (0,0))∧w'.cell? ⟨g,nx,none⟩=some (.int .i64 (a:Int))∧w'.cell? ⟨g,nx+1,none⟩=some (.int .i64 (b:Int))) (by kernel_rfl) ?_;have hS:({n with drawn:=n.drawn+1}:World).heap[i]?=some (.cells (BT (.slice (some ⟨g,0,none⟩) aB.length d) (nx+1) (some ⟨f,k,none⟩) l.length c (at'+4) 0) 135 (0,0))∧({n with drawn:=n.drawn+1}:World).cell? ⟨g,nx,none⟩=some (.int .i64 (a:Int))∧({n with drawn:=n.drawn+1}:World).cell? ⟨g,nx+1,none⟩=some (.int .i64 (b:Int)):=⟨I,d1,d2⟩;refine tw 0 4 8 15 19 1 (.pointer (some ⟨i,0,none⟩)) (.pointer (some ⟨i,0,none⟩)) (.pointer (some ⟨i,0,none⟩)) (.pointer (some ⟨i,0,none⟩)) (.pointer (some ⟨i,0,none⟩)) (.pointer (some ⟨i,0,none⟩)) rfl (by kernel_rfl) (fun _=>by kernel_rfl) bH ‹_› ?_;go_frame;refine tw 5 9 16 20 2 6 (.pointer (some ⟨i,0,none⟩)) (.pointer (some ⟨i,0,none⟩)) (.pointer (some ⟨i,0,none⟩)) (.pointer (some ⟨i,0,none⟩)) (.pointer (some ⟨i,0,none⟩)) (.pointer (some ⟨i,2,none⟩)) rfl (by kernel_rfl) (fun _=>by kernel_rfl) bH ‹_› ?_;go_frame;refine gY 10 17 21 (.pointer (some ⟨i,3,none⟩)) (.pointer (some ⟨i,2,none⟩)) (.pointer (some ⟨i,3,none⟩)) rfl (by kernel_rfl) (fun _=>by kernel_rfl) bH ‹_› ?_;go_frame;refine aJ (i:=3) (v:=(.slice (some ⟨f,k,none⟩) l.length c)) rfl (by kernel_rfl) bH ‹_› (fun w' m=>au _ 39 _ (by rfl) ⟨i,0,none⟩ (by rfl) _ (dV m.1 0) _ bF rfl) ?_;go_frame;refine aJ (i:=7) (v:=(.slice (some ⟨g,0,none⟩) aB.length d)) rfl (by kernel_rfl) bH ‹_› (fun w' m=>au _ 63 _ (by rfl) ⟨i,2,none⟩ (by rfl) _ (dV m.1 2) _ dZ rfl) ?_;go_frame;refine aJ (i:=11) (v:=(.int .i64 ((nx+1:Nat):Int))) rfl (by kernel_rfl) bH ‹_› (fun w' m=>au _ 3 _ (by rfl) ⟨i,3,none⟩ (by rfl) _ (dV m.1 3) _ pi rfl) ?_;go_frame;refine aJ (i:=18) (v:=(.slice (some ⟨g,0,none⟩) aB.length d)) rfl (by kernel_rfl) bH ‹_› (fun w' m=>au _ 63 _ (by rfl) ⟨i,2,none⟩ (by rfl) _ (dV m.1 2) _ dZ rfl) ?_;go_frame;refine aJ (i:=22) (v:=(.int .i64 ((nx+1:Nat):Int))) rfl (by kernel_rfl) bH ‹_› (fun w' m=>au _ 3 _ (by rfl) ⟨i,3,none⟩ (by rfl) _ (dV m.1 3) _ pi rfl) ?_;go_frame;refine aJ (i:=12) (v:=(.int .i64 (nx:Int))) rfl (by kernel_rfl) bH ‹_› (fun w' m=>by go_simp) ?_;go_frame;refine aJ (i:=13) (v:=(.pointer (some ⟨g,nx,none⟩))) rfl (by kernel_rfl) bH ‹_› (fun w' m=>ai _ 63 3 _ _ (by rfl) dZ 1 d6 g 0 aB.length d (by rfl) .i64 nx (by rfl) (by omega) nx (by omega)) ?_;go_frame;refine aJ (i:=23) (v:=(.pointer (some ⟨g,nx+1,none⟩))) rfl (by kernel_rfl) bH ‹_› (fun w' m=>ai _ 63 3 _ _ (by rfl) dZ 1 d6 g 0 aB.length d (by rfl) .i64 (nx+1) (by rfl) (by omega) (nx+1) (by omega)) ?_;go_frame;refine aJ (i:=14) (v:=(.int .i64 (a:Int))) rfl (by kernel_rfl) bH ‹_› (fun w' m=>au _ 3 _ (by rfl) ⟨g,nx,none⟩ (by rfl) _ m.2.1 _ pi rfl) ?_;go_frame;refine aJ (i:=24) (v:=(.int .i64 (b:Int))) rfl (by kernel_rfl) bH ‹_› (fun w' m=>au _ 3 _ (by rfl) ⟨g,nx+1,none⟩ (by rfl) _ m.2.2 _ pi rfl) ?_;go_frame;refine aJ (i:=25) (v:=(.slice (some ⟨f,if c=a then k else k+a*1,none⟩) (b-a) (c-a))) rfl (by kernel_rfl) bH ‹_› (fun w' m=>mt (P:=prog) w' 39 5 (.tmp 25) (.tmp 36) (.tmp 46) (by rfl) bF 1 cR f k l.length c a b (by rfl) (by rfl) (by rfl) HZ (by omega)) ?_;go_frame;refine d5 26 (.slice (some ⟨f,if c=a then k else k+a*1,none⟩) (b-a) (c-a)) rfl (by kernel_rfl) (fun _=>by kernel_rfl) bH ‹_› ?_;go_frame;refine dM (by kernel_rfl) ?_ _;refine r _ _ ?_;clear r K;have B:aL i w {n with drawn:=n.drawn+1}:=C.trans (aL.begin i n)
 have hI:xh (.slice (some ⟨g,0,none⟩) aB.length d) (nx+1) i l (some ⟨f,k,none⟩) c (at'+4) 0 {n with drawn:=n.drawn+1}:=⟨I,⟨fun j F=>by
  obtain⟨b2,T,e,hc⟩:=E.out.cell j F;cases e
  exact⟨f,k,rfl,(B.cell (p:=⟨f,k+j,none⟩) (show f<w.heap.size by omega) (show f≠i by omega)).trans hc⟩,E.out.ok⟩,s.out.low,W,s.out.nil,s.out.Es⟩
 have hO:zk aB (nx+1) i l (some ⟨f,k,none⟩) c (at'+4) 0 {n with drawn:=n.drawn+1}:=⟨_,hI,de y.out B (mE i)⟩;refine bO (fun D=>zk aB (nx+1) i l (some ⟨f,k,none⟩) c (at'+4) 0 D∧Row D (some ⟨f,if c=a then k else k+a*1,none⟩) .u8 ((l.drop a).take (b-a))∧aL i w D) ⟨hO,TP hI.row a b HZ nV W,B⟩ ?_;rintro D ⟨R,Q,q3⟩;clear hI hO B C hS I d1 d2 E s y;generalize (if c=a then k else k+a*1)=T at*;have N:=aa R;have M:=aa Q;have hba:b≤c-a+a:=by omega
 generalize c-a=c2 at*;clear R Q;go_wp2;exact cA rfl _ rfl rfl ⟨⟨f,T,c2,rfl,by omega,O,M.out⟩,N.out,q3⟩
def g5 (c b:Nat) (a:List Nat) (q:Nat):Prop:=(q=0∧a.getD 0 0≠c)∨a.getD q 0<(if q=0 then c else a.getD (q-1) 0)∨b<a.getD q 0
instance (hd len:Nat) (ns:List Nat) (q:Nat):Decidable (g5 hd len ns q):=by unfold g5;infer_instance
def bz (c a:Nat) (b:List Nat) (k:Nat):Prop:=∀q,q<k→¬g5 c a b q
instance (hd len:Nat) (ns:List Nat) (k:Nat):Decidable (bz hd len ns k):=by unfold bz;infer_instance
def xh.Y7 {u m s a i l f c k g r q w d} (h:xh u s i l f c k g w) (A:aL i w d) (y:d.heap[i]?=some (.cells (BT m a f l.length c r q) 135 (0,0))):xh m a i l f c r q d:=
 ⟨y,⟨fun j v=>by
   obtain⟨b,o,e,n⟩:=h.row.cell j v;have z:=h.low _ _ e
   exact⟨b,o,e,(A.cell (p:=⟨b,o+j,none⟩) (iE n) (Nat.ne_of_lt z)).trans n⟩,h.row.ok⟩,h.low,h.cap,h.nil,h.Es⟩
def qL {a j f n:Nat} {e:TypeId} {v:Value} {i:List Value} {w:World} (h:w.ownsRow a e f v n i) (l:j≤a):w.ownsRow j e f v n i:=by
 refine⟨h.1,?_⟩;rcases h.2 with b|⟨g,d,c,b,m,k⟩
 ·exact Or.inl b
 ·exact Or.inr ⟨g,d,c,b,by omega,k⟩
def L0 {a:Type} (l:List a) (d k) (h:k<l.length):l.take (k+1)=l.take k++[l.getD k d]:=by rw[s6,List.getD,fS h];rfl
def tO {b L a j} (h:bz b L a j) (c:¬g5 b L a j):bz b L a (j+1):=fun q d=>by
 by_cases e:q=j
 ·rw[e];exact c
 ·exact h q (by omega)
def FK {P b R a w} (h:b.results=#[]) (c:a.defers=[]) (d:R (.returned (.tuple #[])) w):bodyPost P b R .ret a w:=by refine Fj ?_ c d;simp[results,h]
def Kx {u g} (i l f c b a x n k m w) (h:xh u g i l f c b a w) (he:a≠0):
 Calls prog 60 #[.pointer (some ⟨i,0,none⟩),.int .i64 x,.slice n k m] w fun e d=>e= .returned (.tuple #[])∧w=d:=by
 have j:=aa h;clear h;have o:((a:Int) !=0)=true:=by simp[he]
 go_enter func60,ntmps60
 go_wp2_with (
  ((with_reducible refine ag 41 ?_);refine dq (v:=(.int .i64 (a:Int))) (dV j.out.cells 4) fU ?_ rfl rfl rfl rfl))
 exact FK rfl rfl ⟨rfl,rfl⟩
def DP (i) (l:List Int) (va:Option Addr) (c r X k cs) (C:List Nat) (w) (J:K1 i l va c 0 0 w) (ni:0<l.length) (pA:C.length=k) (hk:k≤100) (KO:r≤l.length) (Ex:∀j,j<k→w.cell? ⟨X,j,none⟩=some (.int .i64 ((C.getD j 0:Nat):Int))) (qv:X<w.heap.size) (Nq:X≠i) (Ey:∀j,j<k→C.getD j 0+4≤l.length) (G:Prop) (sP:G↔bz r l.length (C.map (aK l)) k):
 Calls prog 60 #[.pointer (some ⟨i,0,none⟩),.int .i64 (r:Int),.slice (some ⟨X,0,none⟩) k cs] w fun e P=>e= .returned (.tuple #[])∧(G→zk (C.map (aK l)++[l.length]) 0 i l va c 0 0 P)∧(¬G→∃aB,zk aB 0 i l va c 0 5 P)∧aL i w P:=by
 obtain⟨s,A,gb,_⟩:=J.row.cell 0 ni;subst gb;have cW:=J.Es;have R:=J.size;obtain⟨a,Z⟩:∃a,a=C.map (aK l):=⟨_,rfl⟩;rw[←Z]at sP ⊢;have K_:a.length=k:=by rw[Z,jK,pA]
 have XD:∀j,j<k→((a.getD j 0:Nat):Int)=rdI (fun q=>l.getD (C.getD j 0+q) 0) 4:=fun j hj=>by
  rw[Z];have e:(C.map (aK l)).getD j 0=aK l (C.getD j 0):=by simp[List.getD,pA,hj]
  rw[e];exact x4 J.row.ok _
 have acC:∀j,j<k→a.getD j 0<4294967296:=fun j hj=>by
  rw[Z];have e:(C.map (aK l)).getD j 0=aK l (C.getD j 0):=by simp[List.getD,pA,hj]
  rw[e];exact WI J.row.ok _
 have a_:∀q,q<l.length→w.cell? ⟨s,A+q,none⟩=some (.int .u8 (l.getD q 0)):=fun q hq=>by obtain⟨b',o',e,hc⟩:=J.row.cell q hq;cases e;exact hc
 have VN:s<i:=J.low _ _ rfl;have fe:∀j,mD (l.getD j 0):=iu J.row.ok;have hI:=aa J;have Q7:=aa J;have H3:=aa Ex;have YM:=aa Ey;have pB:=aa a_;have agU:=aa XD;have ad2:=aa acC;have hBy:=aa fe;clear J Ex Ey a_ XD acC Z fe pA;generalize hL:l.length=L at*;have Ei:=aa hL;clear hL;have hG:=aa sP;clear sP
 go_enter func60,ntmps60
 go_wp2_with (
  ((with_reducible refine ag 41 ?_);refine iX 41 i 4 rfl ?_;(refine dq (v:=(.int .i64 0)) (dV hI.out.cells 4) fU ?_ rfl rfl rfl rfl)))
 go_loopw [6,19] (fun F i' wr=>∃(j:Nat) (u:Value),j≤k∧i'= .int .i64 (j:Int)∧F= .int .i64 ((if j=0 then r else a.getD (j-1) 0:Nat):Int)∧bz r L a j∧xh u 0 i l (some ⟨s,A,none⟩) c 0 0 wr∧wr.ownsRow w.heap.size 3 1 u j ((a.take j).map fun n:Nat=>Value.int .i64 (n:Int))∧aL i w wr) (fun _ i' _=>k-(intOf i').toNat)
 case atStart=>exact⟨0,_,by omega,rfl,rfl,fun q hq=>absurd hq (by omega),hI.out,⟨rfl,Or.inl ⟨rfl,rfl⟩⟩,aL.refl _ _⟩
 case round=>
  obtain⟨j,u,hj,rfl,rfl,iS,hI1,fR,zh⟩:=hrel;obtain⟨f,RR⟩:∃W,W=wr:=⟨_,rfl⟩;subst RR;replace hI:=aa hI1;have hO:=aa fR;have g:=aa zh;clear hI1 fR zh;generalize Vh:(if j=0 then r else a.getD (j-1) 0)=F at*;have acK:=aa Vh;clear Vh;by_cases O:j<k
  ·have lj:(j:Int)<(k:Int):=by omega
   have YF:=aa ((g.out.cell (p:=⟨X,j,none⟩) qv Nq).trans (H3.out j O));have hp4:=YM.out j O;have hv4:=aa (agU.out j O);have hv5:=ad2.out j O;generalize hp:C.getD j 0=p at*;clear hp
   go_wp2_with (first
    |refine aC 63 ?_;(refine ab (by rfl) _ (ai _ 63 3 _ _ rfl dZ 1 d6 X 0 k cs rfl .i64 j rfl O j (by omega)) ?_)
    |refine ag 3 ?_;(refine dq (v:=(.int .i64 (p:Int))) YF.out pi ?_ rfl rfl rfl rfl))
   go_loopw [9,24] (fun n q wr=>∃m:Nat,m≤4∧q= .int .i64 (m:Int)∧n= .int .i64 (rdI (fun q=>l.getD (p+q) 0) m)∧f=wr) (fun _ q _=>4-(intOf q).toNat)
   case atStart=>exact⟨0,by omega,rfl,rfl,rfl⟩
   case round=>
    obtain⟨m,hm,rfl,rfl,rfl⟩:=hrel;by_cases XE:m<4
    ·have lm:(m:Int)<4:=by omega
     have hx:=aa ((g.out.cell (p:=⟨s,A+(p+m),none⟩) (show s<w.heap.size by omega) (show s≠i by omega)).trans (pB.out (p+m) (by omega)));have hy:=hBy.out (p+m);have hv:bits .or .i64 (rdI (fun q=>l.getD (p+q) 0) m) (IntKind.i64.wrap (l.getD (p+m) 0*2^(8*m)))=rdI (fun q=>l.getD (p+q) 0) (m+1):=yj (by omega) (CG (fun q=>hBy.out (p+q)) m) hy;have jW:IntKind.i64.wrap (l.getD (p+m) 0)=l.getD (p+m) 0:=by unfold mD at hy;rw[bP];omega
     have rc:IntKind.i64.wrap (8*(m:Int))=((8*m:Nat):Int):=by rw[bP];omega
     have Ee:IntKind.i64.wrap ((p:Int)+(m:Int))=((p+m:Nat):Int):=by rw[bP];omega
     have lsh:((8*m:Nat):Int)<64:=by omega
     have lpm:p+m<L:=by omega
     clear hy;generalize hsh:8*m=sh at*;generalize l.getD (p+m) 0=y at*;generalize rdI (fun q=>l.getD (p+q) 0) m=x at*;generalize hz:rdI (fun q=>l.getD (p+q) 0) (m+1)=z at*
     go_wp2_with (first
      |refine ag 39 ?_;refine iX 39 i 0 rfl ?_;(refine dq (v:=(.slice (some ⟨s,A,none⟩) l.length c)) (dV hI.out.cells 0) bF ?_ rfl rfl rfl rfl)
      |refine aC 39 ?_;(refine ab (by rfl) _ (ai _ 39 5 _ _ rfl bF 1 cR s A l.length c rfl .i64 (p+m) rfl (by rw[Ei.out];exact lpm) (A+(p+m)) (by omega)) ?_)
      |refine ag 5 ?_;(refine dq (v:=(.int .u8 y)) hx.out sE ?_ rfl rfl rfl rfl))
     have hv2:bits .or .i64 x (wrap64 (y*2^sh))=z:=by unfold wrap64;rw[←bP];exact hv
     exact⟨⟨m+1,by omega,by go_num,by rw[hv2,hz],trivial⟩,by simp[intOf];omega⟩
    ·have e:m=4:=by omega
     subst e;rw[←hv4.out];generalize M:a.getD j 0=d at*;by_cases D:j=0
     all_goals first
      |have t1:((j:Int)==0)=true:=by simp[D]
       have R2:F=r:=by have:=acK.out;rw[aj D]at this;exact this.symm
       by_cases E:d=r
       all_goals first
        |have t2:((d:Int) !=(r:Int))=false:=by simp[E]
         have t3:decide ((d:Int)<(F:Int))=false:=by simp;omega
         have t4:decide ((L:Int)<(d:Int))=false:=by simp;omega
         have n1:F≤d:=by omega
         have n2:d≤L:=by omega
         have B:=aa (show bz r L a (j+1)from tO iS (by unfold g5;rw[M,aj D,show a.getD 0 0=d from by rw[←M,D]];omega));have hj0:=aa D
        |have t2:((d:Int) !=(r:Int))=true:=by simp;omega
         have B:=aa (show ¬bz r L a k from fun h=>h j O (Or.inl ⟨D,by rw[D]at M;rw[M];exact E⟩));have n0:¬d=r:=E
       all_goals clear E R2 D
      |have t1:((j:Int)==0)=false:=by simp[D]
       have R2:F=a.getD (j-1) 0:=by have:=acK.out;rw[an D]at this;exact this.symm
       by_cases E:d<F
       all_goals first
        |have t3:decide ((d:Int)<(F:Int))=true:=by simp;omega
         have B:=aa (show ¬bz r L a k from fun h=>h j O (Or.inr (Or.inl (by rw[M,an D,←R2];exact E))));have n1:d<F:=E
        |have t3:decide ((d:Int)<(F:Int))=false:=by simp;omega
         by_cases q2:L<d
         all_goals first
          |have t4:decide ((L:Int)<(d:Int))=true:=by simp;omega
           have B:=aa (show ¬bz r L a k from fun h=>h j O (Or.inr (Or.inr (by rw[M];exact q2))));have n2:L<d:=q2
          |have t4:decide ((L:Int)<(d:Int))=false:=by simp;omega
           have n2:d≤L:=by omega
           have B:=aa (show bz r L a (j+1)from tO iS (by unfold g5;rw[M,an D,←R2];omega))
         all_goals have n1:F≤d:=by omega
         all_goals clear q2
       all_goals clear E R2
     all_goals first
      |have N:f.cell? ⟨i,0,none⟩=some (.slice (some ⟨s,A,none⟩) l.length c):=dV hI.out.cells 0
       rw[Ei.out]at N;have hw8:=aa hO.out
       go_wp2_with (first
        |refine ag 63 ?_;refine iX 63 i 2 rfl ?_;(refine dq (v:=u) (dV hI.out.cells 2) dZ ?_ rfl rfl rfl rfl)
        |refine aV 63 ?_;(refine aH rfl fun K I=>bV _ (dH _ _ (by rfl) (d:Int) (by rfl)) (I _ _ ?_));clear I K
        |refine dy 63 ?_;(refine aH rfl fun K I=>eN (w0:=f) (n0:=w.heap.size) (.tmp 71) (.tmp 73) 63 3 rfl dZ (.int .i64 0) 1 8 ml rfl (by decide) w.heap.size j u _ rfl (aU hO.out dt) ⟨f.heap.size,0,none⟩ 1 1 rfl [.int .i64 (d:Int)] rfl (aE (ak _ _ _ _ rfl)) rfl (by simp[Value.oneCell']) (by omega) (by omega) (by rw[bn];have:=g.out.size;omega) bG ((aP _ _).alloc g.out.size _) (fun v1 W1 V o z1 o1 E=>I _ _ ?_));clear I K
         obtain⟨T,Y,e1,_⟩:=aW V;subst e1;have my:=aa V;have sQ:=aa o;have KS:=aa (show aL i w W1 from⟨o.os.trans g.out.os,o.tape.trans g.out.tape,o.output.trans g.out.output,bg g.out.size o.size,fun b hb VN=>(o.block b hb).trans (g.out.block b hb VN)⟩);have m7:=aa ((o.block i (by omega)).trans hI.out.cells);clear V o z1 o1 E
        |refine al 63 ?_;refine aF 63 i 2 rfl ?_;(refine aH rfl fun K I=>bt 63 _ _ rfl i 2 rfl (.slice T (j+1) Y) rfl rfl NU _ _ m7.out (by simp[BT]) (fun W2 Q H=>I _ _ ?_));clear I K)
       have nL:W2.ownsRow w.heap.size 3 1 (.slice T (j+1) Y) (j+1) ((a.take (j+1)).map fun n:Nat=>Value.int .i64 (n:Int)):=by have U:=de my.out H (by omega);rw[L0 a 0 j (by omega),M,kN];exact U
       refine⟨⟨j+1,.slice T (j+1) Y,by omega,by go_num,by rw[an (by omega),rV,M],B.out,Q7.out.Y7 (KS.out.trans H) Q,nL,KS.out.trans H⟩,by simp[intOf];omega⟩
      |have N:f.cell? ⟨i,0,none⟩=some (.slice (some ⟨s,A,none⟩) l.length c):=dV hI.out.cells 0
       rw[Ei.out]at N
       go_wp2_with (
        ((with_reducible refine al 41 ?_);refine aF 41 i 4 rfl ?_;(refine aH rfl fun K I=>bt 41 _ _ rfl i 4 rfl (.int .i64 5) rfl rfl oR _ _ hI.out.cells (by simp[BT]) (fun W2 Q H=>I _ _ ?_));clear I K))
       refine FK rfl rfl ⟨rfl,fun h=>absurd (hG.out.1 h) B.out,fun _=>⟨a.take j,u,hI.out.Y7 H Q,?_⟩,g.out.trans H⟩;have U:=de (qL hO.out R) H (mE i)
       rwa [show (a.take j).length=j by rw[cf];omega]
  ·have e:j=k:=by omega
   subst e;obtain⟨vu,cu,eu,_⟩:=aW hO.out;subst eu;have N:f.cell? ⟨i,0,none⟩=some (.slice (some ⟨s,A,none⟩) l.length c):=dV hI.out.cells 0;rw[Ei.out]at N;have hlu:f.cell? ⟨i,2,none⟩=some (.slice vu j cu):=dV hI.out.cells 2;go_wp2;refine dQ (S:=fun P=>P.cell? ⟨i,0,none⟩=some (.slice (some ⟨s,A,none⟩) L c)) (by kernel_rfl) ?_;have hS:({f with drawn:=f.drawn+1}:World).cell? ⟨i,0,none⟩=some (.slice (some ⟨s,A,none⟩) L c):=N;have K4:i+1≤f.heap.size:=bg R g.out.size;refine tw 0 1 5 2 6 3 (.pointer (some ⟨i,0,none⟩)) (.pointer (some ⟨i,0,none⟩)) (.pointer (some ⟨i,0,none⟩)) (.pointer (some ⟨i,0,none⟩)) (.pointer (some ⟨i,0,none⟩)) (.pointer (some ⟨i,2,none⟩)) rfl (by kernel_rfl) (fun _=>by kernel_rfl) bH ‹_› ?_;go_frame;refine d5 7 (.pointer (some ⟨i,0,none⟩)) rfl (by kernel_rfl) (fun _=>by kernel_rfl) bH ‹_› ?_;go_frame;refine aJ (i:=8) (v:=(.slice (some ⟨s,A,none⟩) L c)) rfl (by kernel_rfl) bH ‹_› (fun P cX=>au _ 39 _ (by rfl) ⟨i,0,none⟩ (by rfl) _ cX _ bF rfl) ?_;go_frame;refine aJ (i:=9) (v:=(.int .i64 (L:Int))) rfl (by kernel_rfl) bH ‹_› (fun P cX=>by go_simp) ?_;go_frame;refine vQ (i:=4) (k:=10) (.slice vu j cu) (.slice (some ⟨f.heap.size,0,none⟩) 1 1) (Wn:=({f with drawn:=f.drawn+1}:World).alloc (.cells #[.int .i64 (L:Int)] 3)) rfl rfl (by kernel_rfl) (by kernel_rfl) (by kernel_rfl) rfl rfl rfl rfl (au _ 63 _ (by rfl) ⟨i,2,none⟩ (by rfl) _ hlu _ dZ rfl) (au _ 63 _ (by rfl) ⟨i,2,none⟩ (by rfl) _ ((((aP (i+1) f).drew.alloc K4 _).cell (p:=⟨i,2,none⟩) (mE i)).trans hlu) _ dZ rfl) (dH _ _ (by rfl) (L:Int) (by rfl)) (dH _ _ (by rfl) (L:Int) (by rfl)) hS ((((aP (i+1) f).drew.alloc K4 _).cell (p:=⟨i,0,none⟩) (mE i)).trans N) rfl rfl ?_;go_frame;refine cQ (i:=11) rfl (by kernel_rfl) rfl (eN (w0:=f) (n0:=w.heap.size) (.tmp 83) (.tmp 89) 63 3 rfl dZ (.int .i64 0) 1 8 ml rfl (by decide) w.heap.size j (.slice vu j cu) _ rfl (aU hO.out ((aP _ _).drew.alloc bG _)) ⟨f.heap.size,0,none⟩ 1 1 rfl [.int .i64 (L:Int)] rfl (aE (ak _ _ _ _ rfl)) rfl (by simp[Value.oneCell']) (by omega) (by omega) (by rw[bn];have:=g.out.size;show w.heap.size≤f.heap.size+1;omega) bG ((aP _ f).drew.alloc g.out.size _) (fun v1 W1 V o z1 o1 E=>⟨(o.cell (p:=⟨i,0,none⟩) (by show i<w.heap.size;omega)).trans N,?_⟩));obtain⟨T,Y,e1,_⟩:=aW V;subst e1;have KS:=aa (show aL i w W1 from⟨o.os.trans g.out.os,o.tape.trans g.out.tape,o.output.trans g.out.output,bg g.out.size o.size,fun b hb VN=>(o.block b hb).trans (g.out.block b hb VN)⟩);have m7:=aa ((o.block i (by omega)).trans hI.out.cells);have hS:W1.cell? ⟨i,0,none⟩=some (.slice (some ⟨s,A,none⟩) L c):=(o.cell (p:=⟨i,0,none⟩) (by show i<w.heap.size;omega)).trans N;go_frame;refine kg 12 13 (.pointer (some ⟨i,0,none⟩)) (.pointer (some ⟨i,2,none⟩)) rfl (by kernel_rfl) (fun _=>by kernel_rfl) bH ‹_› ?_;go_frame;refine cQ (i:=14) rfl (by kernel_rfl) rfl (bt 63 _ _ rfl i 2 rfl (.slice T (j+1) Y) rfl rfl NU _ _ m7.out (by simp[BT]) (fun W2 Q H=>⟨?_,?_⟩))
   ·rw[Ei.out]at Q
    exact dV Q 0
   refine dM (by kernel_rfl) ?_ _
   have nL:W2.ownsRow (i+1) 3 1 (.slice T (j+1) Y) (a++[L]).length ((a++[L]).map fun n:Nat=>Value.int .i64 (n:Int)):=by have U:=qL (de V H (by omega)) R;rw[bM,K_,kN];rw[←K_,gC]at U;rw[K_]at U;exact U
   exact g8 rfl rfl ⟨rfl,fun _=>⟨_,Q7.out.Y7 (KS.out.trans H) Q,nL⟩,fun h=>absurd (hG.out.2 iS) h,KS.out.trans H⟩
def Kv (i) (l:List Int) (f:Option Addr) (c d b k h) (a:List Nat) (w) (B:K1 i l f c 0 0 w) (n:0<l.length) (o:a.length=k) (p:k≤100) (r:d≤l.length) (m:∀j,j<k→w.cell? ⟨b,j,none⟩=some (.int .i64 ((a.getD j 0:Nat):Int))) (s:b<w.heap.size) (u:b≠i) (q:∀j,j<k→a.getD j 0+4≤l.length) (v:bz d l.length (a.map (aK l)) k):
 Calls prog 60 #[.pointer (some ⟨i,0,none⟩),.int .i64 (d:Int),.slice (some ⟨b,0,none⟩) k h] w fun e g=>e= .returned (.tuple #[])∧zk (a.map (aK l)++[l.length]) 0 i l f c 0 0 g∧aL i w g:=
 (DP i l f c d b k h a w B n o p r m s u q _ xI).mono fun _ _ ⟨A,z,_,y⟩=>⟨A,z v,y⟩
def Kw (i) (l:List Int) (f:Option Addr) (c d b k h) (a:List Nat) (w) (C:K1 i l f c 0 0 w) (o:0<l.length) (p:a.length=k) (q:k≤100) (s:d≤l.length) (n:∀j,j<k→w.cell? ⟨b,j,none⟩=some (.int .i64 ((a.getD j 0:Nat):Int))) (u:b<w.heap.size) (v:b≠i) (r:∀j,j<k→a.getD j 0+4≤l.length) (y:¬bz d l.length (a.map (aK l)) k):
 Calls prog 60 #[.pointer (some ⟨i,0,none⟩),.int .i64 (d:Int),.slice (some ⟨b,0,none⟩) k h] w fun e g=>e= .returned (.tuple #[])∧(∃m,zk m 0 i l f c 0 5 g)∧aL i w g:=
 (DP i l f c d b k h a w C o p q s n u v r _ xI).mono fun _ _ ⟨B,_,A,z⟩=>⟨B,A y,z⟩
def adi (d:Nat):Prop:=∀(l:List Int) (a:Option Addr) (n c:Nat) (w:World),Row w a .u8 l→4≤l.length→l.length=n→Calls prog d #[.slice a n c] w fun e b=>e= .returned (.int .i64 (aK l 0:Nat))∧Below w.heap.size w b
def tP:adi 139∧adi 131:=by
 refine⟨?_,?_⟩<;>
 (intro l U n c w k Y hn
  obtain⟨b,o,rfl,_⟩:=k.cell 0 (by omega)
  have m:∀q,q<4→w.cell? ⟨b,o+q,none⟩=some (.int .u8 (l.getD q 0)):=fun q X=>by obtain⟨Z,V,e,L⟩:=k.cell q (by omega);cases e;exact L
  have p:∀j,mD (l.getD j 0):=iu k.ok;have P:=aa (m 0 (by omega));have O:=aa (m 1 (by omega));have N:=aa (m 2 (by omega));have M:=aa (m 3 (by omega))
  have E:((aK l 0:Nat):Int)=l.getD 0 0+l.getD 1 0*256+l.getD 2 0*65536+l.getD 3 0*16777216:=by rw[x4 k.ok];simp only[rdI,bY];omega
  have I:=p 0;have D:=p 1;have C:=p 2;have B:=p 3;clear m p k;generalize l.getD 0 0=d at*;generalize l.getD 1 0=f at*;generalize l.getD 2 0=g at*;generalize l.getD 3 0=i at*;have A:=I;have G:=D;have F:=C;unfold mD at A G F;have v:bits .or .i64 d (IntKind.i64.wrap (f*256))=d+f*256:=yj (s:=8) (by decide) ⟨A.1,by show d<256;omega⟩ D;have u:bits .or .i64 (d+f*256) (IntKind.i64.wrap (g*65536))=d+f*256+g*65536:=yj (s:=16) (by decide) ⟨by omega,by show d+f*256<65536;omega⟩ C;have r:bits .or .i64 (d+f*256+g*65536) (IntKind.i64.wrap (i*16777216))=d+f*256+g*65536+i*16777216:=yj (s:=24) (by decide) ⟨by omega,by show d+f*256+g*65536<16777216;omega⟩ B;rw[←E]at r;have T:IntKind.i64.wrap d=d:=by rw[bP];omega
  have S:IntKind.i64.wrap f=f:=by rw[bP];omega
  have R:IntKind.i64.wrap g=g:=by rw[bP];omega
  have Q:IntKind.i64.wrap i=i:=by unfold mD at B;rw[bP];omega
  have H:∀y,IntKind.i64.wrap y=wrap64 y:=fun y=>IntWalk.i64_left y;rw[H]at v u r;have J:=aa (show bits .or .i64 (bits .or .i64 (bits .or .i64 d (wrap64 (f*256))) (wrap64 (g*65536))) (wrap64 (i*16777216))=((aK l 0:Nat):Int)from by rw[v,u,r]);clear E I D C B A G F v u r H;generalize aK l 0=z at*
  first|go_enter func139,ntmps139|go_enter func131,ntmps131
  go_wp2;refine r8 (by kernel_rfl) (by kernel_rfl) ?_
  repeat (first
   |go_big_quiet_skip
   |(go_big_quiet_want;first|((first
   |((with_reducible refine eB 39 ?_);(first
      |refine bi _ (fun a _=>ai a 39 5 _ _ rfl bF 1 cR b o n c rfl .i64 0 rfl (by omega) (o+0) (by omega)) ?_
      |refine bi _ (fun a _=>ai a 39 5 _ _ rfl bF 1 cR b o n c rfl .i64 1 rfl (by omega) (o+1) (by omega)) ?_
      |refine bi _ (fun a _=>ai a 39 5 _ _ rfl bF 1 cR b o n c rfl .i64 2 rfl (by omega) (o+2) (by omega)) ?_
      |refine bi _ (fun a _=>ai a 39 5 _ _ rfl bF 1 cR b o n c rfl .i64 3 rfl (by omega) (o+3) (by omega)) ?_))
   |((with_reducible refine dw 5 ?_);(first
      |refine bi _ (fun a h=>au a 5 _ rfl ⟨b,o+0,none⟩ rfl (.int .u8 d) (by obtain⟨n,rfl⟩:=h;exact P.out) _ sE rfl) ?_
      |refine bi _ (fun a h=>au a 5 _ rfl ⟨b,o+1,none⟩ rfl (.int .u8 f) (by obtain⟨n,rfl⟩:=h;exact O.out) _ sE rfl) ?_
      |refine bi _ (fun a h=>au a 5 _ rfl ⟨b,o+2,none⟩ rfl (.int .u8 g) (by obtain⟨n,rfl⟩:=h;exact N.out) _ sE rfl) ?_
      |refine bi _ (fun a h=>au a 5 _ rfl ⟨b,o+3,none⟩ rfl (.int .u8 i) (by obtain⟨n,rfl⟩:=h;exact M.out) _ sE rfl) ?_)));(go_frame);go_big_quiet_on)|(go_big_quiet_op;go_big_quiet_on)))
  refine r9 ?_;intro _ h;obtain⟨W,K⟩:=h;subst K;go_wp2
  exact cA rfl _ rfl rfl ⟨fB (fun y=>Ending.returned (.int .i64 y)) J.out,⟨rfl,rfl,rfl,cD _,fun _ _=>rfl⟩⟩)
def km (l a n c w) (d:Row w a .u8 l) (f:4≤l.length) (hn:l.length=n):
 Calls prog 139 #[.slice a n c] w fun e b=>e= .returned (.int .i64 (aK l 0:Nat))∧Below w.heap.size w b:=tP.1 l a n c w d f hn
def bC {P f o} (w t e x y) (q:o.op= .indexAddr t x y) (n:P.underlying t=some (.slice e)) (g:Nat) (p:(P.info? e).map (·.size)=some g) (b a c d:Nat) (l:f x= .slice (some ⟨b,a,none⟩) c d) (h) (m:Int) (j:f y= .int h m) (i:Nat) (r:m=(i:Int)) (u:i<c) (k:Nat) (s:a+i*g=k):
 (execOp f o).run P w= .ok (.value (.pointer (some ⟨b,k,none⟩))) w:=by
 subst r;exact ai w t e x y q n g p b a c d l h i j u k s
def DC {b L a k q} (c:q<k) (d:g5 b L a q):decide (bz b L a k)=false:=by simp only[Cs];exact fun h=>h q c d
def FI (g:Nat) (o:List Nat) (k c m L:Nat) (w) (T:∀i,i<k→w.cell? ⟨g,i,none⟩=some (.int .i64 ((o.getD i 0:Nat):Int))) (Np:k≤1000):
 Calls prog 140 #[.slice (some ⟨g,0,none⟩) k c,.int .i64 (m:Int),.int .i64 (L:Int)] w fun e a=>e= .returned (.bool (decide (bz m L o k)))∧Below w.heap.size w a:=by
 have U:=aa T;clear T;have B:=aa (fun q (R:q<k) (Y:g5 m L o q)=>DC R Y);obtain⟨G,P⟩:∃G,G=decide (bz m L o k):=⟨_,rfl⟩;have Z:=aa P;rw[←P]at B ⊢;clear P
 go_enter func140,ntmps140
 go_wp2
 go_loopw [7] (fun i wr=>∃j:Nat,j≤k∧i= .int .i64 (j:Int)∧bz m L o j∧Below w.heap.size w wr) (fun i _=>k-(intOf i).toNat)
 case atStart=>exact⟨0,by omega,rfl,fun q R=>by omega,aP _ _⟩
 case round=>
  obtain⟨j,hj,rfl,S,E⟩:=hrel;have O:=aa S;clear S;by_cases l:j<k
  ·have lj:(j:Int)<(k:Int):=by omega
   have M:=U.out j l;have r:=aa ((E.cell (p:=⟨g,j,none⟩) (iE M)).trans M);have V:∀n,Below w.heap.size w {wr with drawn:=n}:=fun n=>E.trans ⟨rfl,rfl,rfl,cD _,fun _ _=>rfl⟩;have u:=aa V;clear M V E;obtain⟨x,K⟩:∃x,x=o.getD j 0:=⟨_,rfl⟩;rw[←K]at r;have v:=aa K;clear K;by_cases e0:j=0
   ·subst e0
    by_cases z:x=m
    ·have H:((x:Int) !=(m:Int))=false:=by simp[z]
     by_cases Q:L<x
     ·have F:decide ((L:Int)<(x:Int))=true:=by simp;omega
      have s:=aa (B.out 0 l (Or.inr (Or.inr (by rw[←v.out];exact Q))));go_wp2;refine r8 (by kernel_rfl) (by kernel_rfl) ?_
      repeat (first
       |go_big_quiet_skip
       |(go_big_quiet_want;first|((first
       |(with_reducible refine eB 63 ?_);refine bi _ (fun a _=>bC a 63 3 _ _ rfl dZ 1 d6 g 0 k c rfl .i64 _ rfl 0 rfl l 0 (by omega)) ?_
       |((with_reducible refine dw 3 ?_);refine bi _ (fun a d=>au a 3 _ rfl ⟨g,0,none⟩ rfl (.int .i64 (x:Int)) (by obtain⟨n,rfl⟩:=d;exact r.out) _ pi rfl) ?_));(go_frame);go_big_quiet_on)|(go_big_quiet_op;go_big_quiet_on)))
      refine r9 ?_;intro _ d;obtain⟨A,f⟩:=d;subst f;go_wp2;exact cA rfl _ rfl rfl ⟨fB (fun b=>Ending.returned (.bool b)) s.out.symm,u.out _⟩
     ·have F:decide ((L:Int)<(x:Int))=false:=by simp;omega
      have N:=aa (show ¬g5 m L o 0 by
       unfold g5;rw[←v.out];simp
       omega)
      have B3:=aa z;clear z;go_wp2;refine r8 (by kernel_rfl) (by kernel_rfl) ?_
      repeat (first
       |go_big_quiet_skip
       |(go_big_quiet_want;first|((first
       |(with_reducible refine eB 63 ?_);refine bi _ (fun a _=>bC a 63 3 _ _ rfl dZ 1 d6 g 0 k c rfl .i64 _ rfl 0 rfl l 0 (by omega)) ?_
       |((with_reducible refine dw 3 ?_);refine bi _ (fun a d=>au a 3 _ rfl ⟨g,0,none⟩ rfl (.int .i64 (x:Int)) (by obtain⟨n,rfl⟩:=d;exact r.out) _ pi rfl) ?_));(go_frame);go_big_quiet_on)|(go_big_quiet_op;go_big_quiet_on)))
      refine r9 ?_;intro _ d;obtain⟨A,f⟩:=d;subst f;go_wp2;exact⟨⟨1,by omega,by go_num,tO O.out N.out,u.out _⟩,by simp[intOf];omega⟩
    ·have H:((x:Int) !=(m:Int))=true:=by simp;omega
     have s:=aa (B.out 0 l (Or.inl ⟨rfl,by rw[←v.out];exact z⟩));go_wp2;refine r8 (by kernel_rfl) (by kernel_rfl) ?_
     repeat (first
      |go_big_quiet_skip
      |(go_big_quiet_want;first|((first
      |(with_reducible refine eB 63 ?_);refine bi _ (fun a _=>bC a 63 3 _ _ rfl dZ 1 d6 g 0 k c rfl .i64 _ rfl 0 rfl l 0 (by omega)) ?_
      |((with_reducible refine dw 3 ?_);refine bi _ (fun a d=>au a 3 _ rfl ⟨g,0,none⟩ rfl (.int .i64 (x:Int)) (by obtain⟨n,rfl⟩:=d;exact r.out) _ pi rfl) ?_));(go_frame);go_big_quiet_on)|(go_big_quiet_op;go_big_quiet_on)))
     refine r9 ?_;intro _ d;obtain⟨A,f⟩:=d;subst f;go_wp2;exact cA rfl _ rfl rfl ⟨fB (fun b=>Ending.returned (.bool b)) s.out.symm,u.out _⟩
   ·obtain⟨q,rfl⟩:∃q,j=q+1:=⟨j-1,by omega⟩
    have J:=U.out q (by omega)
    have W:Below w.heap.size w wr:=by have h:=u.out wr.drawn;exact h
    have D:=aa ((W.cell (p:=⟨g,q,none⟩) (iE J)).trans J);clear J W;obtain⟨y,I⟩:∃y,y=o.getD q 0:=⟨_,rfl⟩;rw[←I]at D;have C:=aa I;clear I;have t0:(((q:Int)+1)==0)=false:=by simp;try omega
    have wq:wrap64 (q:Int)=(q:Int):=IntWalk.wrap64_in _ (by omega);have t00:decide ((0:Int)<(q:Int)+1)=true:=by simp;try omega
    by_cases z:x<y
    ·have H:decide ((x:Int)<(y:Int))=true:=by simp;omega
     have s:=aa (B.out (q+1) l (Or.inr (Or.inl (by rw[←v.out,an (by omega),rV,←C.out];exact z))));go_wp2;refine r8 (by kernel_rfl) (by kernel_rfl) ?_
     repeat (first
      |go_big_quiet_skip
      |(go_big_quiet_want;first|((first
      |((with_reducible refine eB 63 ?_);(first
         |refine bi _ (fun a _=>bC a 63 3 _ _ rfl dZ 1 d6 g 0 k c rfl .i64 _ rfl (q+1) (by omega) l (q+1) (by omega)) ?_
         |refine bi _ (fun a _=>bC a 63 3 _ _ rfl dZ 1 d6 g 0 k c rfl .i64 _ rfl q (by omega) (by omega) q (by omega)) ?_))
      |((with_reducible refine dw 3 ?_);(first
         |refine bi _ (fun a d=>au a 3 _ rfl ⟨g,q+1,none⟩ rfl (.int .i64 (x:Int)) (by obtain⟨n,rfl⟩:=d;exact r.out) _ pi rfl) ?_
         |refine bi _ (fun a d=>au a 3 _ rfl ⟨g,q,none⟩ rfl (.int .i64 (y:Int)) (by obtain⟨n,rfl⟩:=d;exact D.out) _ pi rfl) ?_)));(go_frame);go_big_quiet_on)|(go_big_quiet_op;go_big_quiet_on)))
     refine r9 ?_;intro _ d;obtain⟨A,f⟩:=d;subst f;go_wp2;exact cA rfl _ rfl rfl ⟨fB (fun b=>Ending.returned (.bool b)) s.out.symm,u.out _⟩
    ·have H:decide ((x:Int)<(y:Int))=false:=by simp;omega
     by_cases Q:L<x
     ·have F:decide ((L:Int)<(x:Int))=true:=by simp;omega
      have s:=aa (B.out (q+1) l (Or.inr (Or.inr (by rw[←v.out];exact Q))));go_wp2;refine r8 (by kernel_rfl) (by kernel_rfl) ?_
      repeat (first
       |go_big_quiet_skip
       |(go_big_quiet_want;first|((first
       |((with_reducible refine eB 63 ?_);(first
          |refine bi _ (fun a _=>bC a 63 3 _ _ rfl dZ 1 d6 g 0 k c rfl .i64 _ rfl (q+1) (by omega) l (q+1) (by omega)) ?_
          |refine bi _ (fun a _=>bC a 63 3 _ _ rfl dZ 1 d6 g 0 k c rfl .i64 _ rfl q (by omega) (by omega) q (by omega)) ?_))
       |((with_reducible refine dw 3 ?_);(first
          |refine bi _ (fun a d=>au a 3 _ rfl ⟨g,q+1,none⟩ rfl (.int .i64 (x:Int)) (by obtain⟨n,rfl⟩:=d;exact r.out) _ pi rfl) ?_
          |refine bi _ (fun a d=>au a 3 _ rfl ⟨g,q,none⟩ rfl (.int .i64 (y:Int)) (by obtain⟨n,rfl⟩:=d;exact D.out) _ pi rfl) ?_)));(go_frame);go_big_quiet_on)|(go_big_quiet_op;go_big_quiet_on)))
      refine r9 ?_;intro _ d;obtain⟨A,f⟩:=d;subst f;go_wp2;exact cA rfl _ rfl rfl ⟨fB (fun b=>Ending.returned (.bool b)) s.out.symm,u.out _⟩
     ·have F:decide ((L:Int)<(x:Int))=false:=by simp;omega
      have N:=aa (show ¬g5 m L o (q+1) by
       unfold g5;rw[←v.out,an (by omega),rV,←C.out]
       omega)
      go_wp2;refine r8 (by kernel_rfl) (by kernel_rfl) ?_
      repeat (first
       |go_big_quiet_skip
       |(go_big_quiet_want;first|((first
       |((with_reducible refine eB 63 ?_);(first
          |refine bi _ (fun a _=>bC a 63 3 _ _ rfl dZ 1 d6 g 0 k c rfl .i64 _ rfl (q+1) (by omega) l (q+1) (by omega)) ?_
          |refine bi _ (fun a _=>bC a 63 3 _ _ rfl dZ 1 d6 g 0 k c rfl .i64 _ rfl q (by omega) (by omega) q (by omega)) ?_))
       |((with_reducible refine dw 3 ?_);(first
          |refine bi _ (fun a d=>au a 3 _ rfl ⟨g,q+1,none⟩ rfl (.int .i64 (x:Int)) (by obtain⟨n,rfl⟩:=d;exact r.out) _ pi rfl) ?_
          |refine bi _ (fun a d=>au a 3 _ rfl ⟨g,q,none⟩ rfl (.int .i64 (y:Int)) (by obtain⟨n,rfl⟩:=d;exact D.out) _ pi rfl) ?_)));(go_frame);go_big_quiet_on)|(go_big_quiet_op;go_big_quiet_on)))
      refine r9 ?_;intro _ d;obtain⟨A,f⟩:=d;subst f;go_wp2;exact⟨⟨q+1+1,by omega,by go_num,tO O.out N.out,u.out _⟩,by simp[intOf];omega⟩
  ·have e:j=k:=by omega
   subst e;have X:=aa (Z.out.trans (xz O.out));go_wp2;exact cA rfl _ rfl rfl ⟨fB (fun b=>Ending.returned (.bool b)) X.out.symm,E⟩
def adf (i) (c:0≤i) (b:i<9223372036854775808):bits BinOp.and IntKind.i64 i 7=i%8:=by
 obtain⟨n,rfl⟩:∃n:Nat,i=(n:Int):=⟨i.toNat,by omega⟩
 have e:(BitVec.ofInt 64 (n:Int)&&&BitVec.ofInt 64 7).toNat=n%8:=by
  rw[BitVec.toNat_and,show BitVec.ofInt 64 (n:Int)=BitVec.ofNat 64 n from rfl,show BitVec.ofInt 64 7=7#64 from rfl,SD,SD];have h:=XT (n%2^64) 3;have a:n%2^64%2^3=n%8:=by omega
  rw[a]at h;exact h
 show IntKind.i64.wrap ((BitVec.ofInt 64 (n:Int)&&&BitVec.ofInt 64 7).toNat:Int)=_;rw[e];rw[IntWalk.i64_left,IntWalk.wrap64_in _ ⟨by omega,by omega⟩];omega
def ShP (k p:Int):Prop:=∀w:World,(execOp (fun o=>match o with| .const v=>v|_=> .int .i64 k) {dst:=some 11,op:= .binOp .shl 5 (.const (.int .u8 1)) (.tmp 10) 3,type:=5,pos:= "bits.go:13",after:=#[{on:=6,ground:= .data}],guard:=none}).run prog w= .ok (.value (.int .u8 p)) w
def Im (k p:Int) (A:0≤k∧k<8) (f:ShP k p) (g n q:Nat) (i:Int) (m:i=8*(q:Int)+k) (C:Array Value) (x:Int) (w) (l:w.heap[g]?=some (.cells C 5 (0,0))) (hs:C.size=n) (j:q<n) (hn:8*n<1152921504606846976) (h:C[q]?=some (.int .u8 x)) (y:bits BinOp.or IntKind.u8 x p=x+p):
 Calls prog 153 #[.slice (some ⟨g,0,none⟩) n n,.int .i64 i] w fun e a=>e= .returned (.tuple #[])∧a.heap[g]?=some (.cells (C.setIfInBounds q (.int .u8 (x+p))) 5 (0,0))∧Below g w a:=by
 have c:=aa l;have d:=aa h;clear l h;have o:=aD c.out;have z:bits BinOp.and IntKind.i64 i 7=k:=by rw[adf _ (by omega) (by omega)];omega
 have u:i/8=(q:Int):=by omega
 clear m
 go_enter func153,ntmps153
 go_wp2;refine dQ (S:=fun _=>True) (by kernel_rfl) ?_;have B:True:=trivial;refine d5 0 (.slice (some ⟨g,0,none⟩) n n) rfl (by kernel_rfl) (fun _=>by kernel_rfl) bH ‹_› ?_;go_frame;refine aJ (i:=1) (v:=(.int .i64 i)) rfl (by kernel_rfl) bH ‹_› (fun a b=>by go_simp) ?_;go_frame;refine aJ (i:=2) (v:=(.int .i64 (q:Int))) rfl (by kernel_rfl) bH ‹_› (fun a b=>by go_simp) ?_;go_frame;refine aJ (i:=3) (v:=(.pointer (some ⟨g,q,none⟩))) rfl (by kernel_rfl) bH ‹_› (fun a _=>ai a 39 5 _ _ (by rfl) bF 1 cR g 0 n n (by rfl) .i64 q (by rfl) j _ (by omega)) ?_;go_frame;refine aJ (i:=5) (v:=(.int .i64 i)) rfl (by kernel_rfl) bH ‹_› (fun a b=>by go_simp) ?_;go_frame;refine aJ (i:=6) (v:=(.int .i64 k)) rfl (by kernel_rfl) bH ‹_› (fun a b=>by go_simp) ?_;go_frame;refine aJ (i:=7) (v:=(.int .u8 p)) rfl (by kernel_rfl) bH ‹_› (fun a _=>f a) ?_;go_frame;refine cQ (i:=4) rfl (by kernel_rfl) rfl (bV _ (au _ 5 _ (by rfl) ⟨g,q,none⟩ (by rfl) (.int .u8 x) ((br {w with drawn:=w.drawn+1} g q _ _ _ c.out).trans d.out) _ sE rfl) ⟨trivial,?_⟩);go_frame;refine aJ (i:=8) (v:=(.int .u8 (x+p))) rfl (by kernel_rfl) bH ‹_› (fun a b=>by go_simp) ?_;go_frame;refine aJ (i:=9) (v:=(.pointer (some ⟨g,q,none⟩))) rfl (by kernel_rfl) bH ‹_› (fun a _=>ai a 39 5 _ _ (by rfl) bF 1 cR g 0 n n (by rfl) .i64 q (by rfl) j _ (by omega)) ?_;go_frame;refine cQ (i:=10) rfl (by kernel_rfl) rfl (bt 5 _ _ rfl g q rfl (.int .u8 (x+p)) rfl rfl cR _ 5 c.out (by omega) (fun D r s=>⟨trivial,?_⟩));go_frame;refine dM (by kernel_rfl) ?_ _;exact g8 rfl rfl ⟨rfl,r,s.below (⟨rfl,rfl,rfl,cD _,fun _ _=>rfl⟩:Below g w {w with drawn:=w.drawn+1}) bG (pD o)⟩
def Xp (p:Nat) (h:∀n:Fin p,bits BinOp.or IntKind.u8 ((n:Nat):Int) p=((n:Nat):Int)+p) (x:Int) (c:0≤x) (b:x<p):bits BinOp.or IntKind.u8 x p=x+p:=by have a:=h ⟨x.toNat,by omega⟩;rw[show ((x.toNat:Nat):Int)=x by omega]at a;exact a
def S7 (g n q:Nat) (i:Int) (h:i=8*(q:Int)+0) (C:Array Value) (x:Int) (w) (j:w.heap[g]?=some (.cells C 5 (0,0))) (hs:C.size=n) (f:q<n) (hn:8*n<1152921504606846976) (b:C[q]?=some (.int .u8 x)) (d:0≤x) (c:x<1):
 Calls prog 153 #[.slice (some ⟨g,0,none⟩) n n,.int .i64 i] w fun e a=>e= .returned (.tuple #[])∧a.heap[g]?=some (.cells (C.setIfInBounds q (.int .u8 (x+1))) 5 (0,0))∧Below g w a:=Im 0 1 (by decide) (fun w=>by kernel_rfl) g n q i h C x w j hs f hn b (Xp 1 (by decide+kernel) x d c)
def S6 (g n q:Nat) (i:Int) (h:i=8*(q:Int)+1) (C:Array Value) (x:Int) (w) (j:w.heap[g]?=some (.cells C 5 (0,0))) (hs:C.size=n) (f:q<n) (hn:8*n<1152921504606846976) (b:C[q]?=some (.int .u8 x)) (d:0≤x) (c:x<2):
 Calls prog 153 #[.slice (some ⟨g,0,none⟩) n n,.int .i64 i] w fun e a=>e= .returned (.tuple #[])∧a.heap[g]?=some (.cells (C.setIfInBounds q (.int .u8 (x+2))) 5 (0,0))∧Below g w a:=Im 1 2 (by decide) (fun w=>by kernel_rfl) g n q i h C x w j hs f hn b (Xp 2 (by decide+kernel) x d c)
def S5 (g n q:Nat) (i:Int) (h:i=8*(q:Int)+2) (C:Array Value) (x:Int) (w) (j:w.heap[g]?=some (.cells C 5 (0,0))) (hs:C.size=n) (f:q<n) (hn:8*n<1152921504606846976) (b:C[q]?=some (.int .u8 x)) (d:0≤x) (c:x<4):
 Calls prog 153 #[.slice (some ⟨g,0,none⟩) n n,.int .i64 i] w fun e a=>e= .returned (.tuple #[])∧a.heap[g]?=some (.cells (C.setIfInBounds q (.int .u8 (x+4))) 5 (0,0))∧Below g w a:=Im 2 4 (by decide) (fun w=>by kernel_rfl) g n q i h C x w j hs f hn b (Xp 4 (by decide+kernel) x d c)
def S4 (g n q:Nat) (i:Int) (h:i=8*(q:Int)+3) (C:Array Value) (x:Int) (w) (j:w.heap[g]?=some (.cells C 5 (0,0))) (hs:C.size=n) (f:q<n) (hn:8*n<1152921504606846976) (b:C[q]?=some (.int .u8 x)) (d:0≤x) (c:x<8):
 Calls prog 153 #[.slice (some ⟨g,0,none⟩) n n,.int .i64 i] w fun e a=>e= .returned (.tuple #[])∧a.heap[g]?=some (.cells (C.setIfInBounds q (.int .u8 (x+8))) 5 (0,0))∧Below g w a:=Im 3 8 (by decide) (fun w=>by kernel_rfl) g n q i h C x w j hs f hn b (Xp 8 (by decide+kernel) x d c)
def S3 (g n q:Nat) (i:Int) (h:i=8*(q:Int)+4) (C:Array Value) (x:Int) (w) (j:w.heap[g]?=some (.cells C 5 (0,0))) (hs:C.size=n) (f:q<n) (hn:8*n<1152921504606846976) (b:C[q]?=some (.int .u8 x)) (d:0≤x) (c:x<16):
 Calls prog 153 #[.slice (some ⟨g,0,none⟩) n n,.int .i64 i] w fun e a=>e= .returned (.tuple #[])∧a.heap[g]?=some (.cells (C.setIfInBounds q (.int .u8 (x+16))) 5 (0,0))∧Below g w a:=Im 4 16 (by decide) (fun w=>by kernel_rfl) g n q i h C x w j hs f hn b (Xp 16 (by decide+kernel) x d c)
def S2 (g n q:Nat) (i:Int) (h:i=8*(q:Int)+5) (C:Array Value) (x:Int) (w) (j:w.heap[g]?=some (.cells C 5 (0,0))) (hs:C.size=n) (f:q<n) (hn:8*n<1152921504606846976) (b:C[q]?=some (.int .u8 x)) (d:0≤x) (c:x<32):
 Calls prog 153 #[.slice (some ⟨g,0,none⟩) n n,.int .i64 i] w fun e a=>e= .returned (.tuple #[])∧a.heap[g]?=some (.cells (C.setIfInBounds q (.int .u8 (x+32))) 5 (0,0))∧Below g w a:=Im 5 32 (by decide) (fun w=>by kernel_rfl) g n q i h C x w j hs f hn b (Xp 32 (by decide+kernel) x d c)
def S1 (g n q:Nat) (i:Int) (h:i=8*(q:Int)+6) (C:Array Value) (x:Int) (w) (j:w.heap[g]?=some (.cells C 5 (0,0))) (hs:C.size=n) (f:q<n) (hn:8*n<1152921504606846976) (b:C[q]?=some (.int .u8 x)) (d:0≤x) (c:x<64):
 Calls prog 153 #[.slice (some ⟨g,0,none⟩) n n,.int .i64 i] w fun e a=>e= .returned (.tuple #[])∧a.heap[g]?=some (.cells (C.setIfInBounds q (.int .u8 (x+64))) 5 (0,0))∧Below g w a:=Im 6 64 (by decide) (fun w=>by kernel_rfl) g n q i h C x w j hs f hn b (Xp 64 (by decide+kernel) x d c)
def S0 (g n q:Nat) (i:Int) (h:i=8*(q:Int)+7) (C:Array Value) (x:Int) (w) (j:w.heap[g]?=some (.cells C 5 (0,0))) (hs:C.size=n) (f:q<n) (hn:8*n<1152921504606846976) (b:C[q]?=some (.int .u8 x)) (d:0≤x) (c:x<128):
 Calls prog 153 #[.slice (some ⟨g,0,none⟩) n n,.int .i64 i] w fun e a=>e= .returned (.tuple #[])∧a.heap[g]?=some (.cells (C.setIfInBounds q (.int .u8 (x+128))) 5 (0,0))∧Below g w a:=Im 7 128 (by decide) (fun w=>by kernel_rfl) g n q i h C x w j hs f hn b (Xp 128 (by decide+kernel) x d c)
def eight {k} (h:k<8):k=0∨k=1∨k=2∨k=3∨k=4∨k=5∨k=6∨k=7:=by omega
def bitC (l:List Int):Nat→Nat→Int
 |0,_=>0
 |k+1,j=>bitC l k j+(if j=k/8∧l.getD k 0≠0 then 2^(k%8)else 0)
def BM {a b:Nat} (h:a≤b):(2:Int)^a≤2^b:=by exact_mod_cast nN (by decide) h
def uF (l:List Int):∀k j,0≤bitC l k j∧bitC l k j<2^(min 8 (k-8*j))
 |0,j=>by simp[bitC]
 |k+1,j=>by
  obtain⟨d,a⟩:=uF l k j;simp only[bitC];split
  next h=>
   obtain⟨h,_⟩:=h;have c:min 8 (k-8*j)=k%8:=by omega
   have b:min 8 (k+1-8*j)=k%8+1:=by omega
   rw[c]at a;rw[b,Int.pow_succ];generalize (2:Int)^(k%8)=p at*;omega
  next h=>have:=BM (show min 8 (k-8*j)≤min 8 (k+1-8*j) by omega);omega
def z_ (l k j):0≤bitC l k j∧bitC l k j≤255:=by
 obtain⟨b,a⟩:=uF l k j;have:=BM (show min 8 (k-8*j)≤8 by omega);have e:(2:Int)^8=256:=by decide
 omega
def DZ {l m:List Int}:∀k,(∀i,i<k→l.getD i 0=m.getD i 0)→bitC l k=bitC m k
 |0,_=>rfl
 |k+1,h=>by
  funext j
  simp only[bitC];rw[DZ k fun i a=>h i (by omega),h k (by omega)]
def j8 (l:List Int) (n k:Nat):Array Value:=(ae n (fun _=> .u8) (bitC l k)).toArray
def uR (l n k):(j8 l n k).size=n:=by simp[j8,ae]
def Dh (l n k j) (h:j<n):(j8 l n k)[j]?=some (.int .u8 (bitC l k j)):=by unfold j8;rw[fu,aN _ _ _ _ h];rfl
def J7 {l:List Int} {n k:Nat} (c:k<8*n) (b:l.getD k 0≠0):(j8 l n k).setIfInBounds (k/8) (.int .u8 (bitC l k (k/8)+2^(k%8)))=j8 l n (k+1):=by
 refine iW (by rw[NT,uR]) fun j a=>?_;rw[th];by_cases e:k/8=j
 ·rw[aj e,aj (by rw[uR];omega)]
  simp only[bitC,CK.mk];rw[aj ⟨e.symm,b⟩,e]
 ·rw[an e,Dh _ _ _ _ a]
  simp only[bitC,CK.mk];rw[an (fun h=>e h.1.symm),Fi]
def GD {l n k} (a:l.getD k 0=0):j8 l n (k+1)=j8 l n k:=by unfold j8;rw[bU (g:=bitC l k) fun j _=>by simp only[bitC];rw[an (fun h=>h.2 a),Fi]]
def Aa (l n):madeCells #[.int .u8 0] n=j8 l n 0:=by refine iW (by simp[madeCells]) fun j a=>?_;simp[madeCells,a,Nat.mod_one,bitC,CK.mk]
def Nc {l m n k} (h:∀i,i<k→l.getD i 0=m.getD i 0):j8 l n k=j8 m n k:=by unfold j8;rw[DZ k h]
def DY (g n k) (l:List Int) (w) (d:w.heap[g]?=some (.cells (j8 l n k) 5 (0,0))) (j:k<8*n) (hn:8*n<1152921504606846976) (m:l.getD k 0≠0):
 Calls prog 153 #[.slice (some ⟨g,0,none⟩) n n,.int .i64 (k:Int)] w fun e f=>e= .returned (.tuple #[])∧f.heap[g]?=some (.cells (j8 l n (k+1)) 5 (0,0))∧Below g w f:=by
 rw[←J7 j m];obtain⟨c,a⟩:=uF l k (k/8);rw[show min 8 (k-8*(k/8))=k%8 by omega]at a;have b:=Dh l n k (k/8) (by omega);have hs:=uR l n k;obtain⟨q,i⟩:∃q,q=k/8:=⟨_,rfl⟩;obtain⟨r,h⟩:∃r,r=k%8:=⟨_,rfl⟩;rw[←i]at c a b ⊢;rw[←h]at a ⊢;have o:r<8:=by omega
 rcases eight o with rfl|rfl|rfl|rfl|rfl|rfl|rfl|rfl
 ·exact S7 g n q _ (by omega) _ _ w d hs (by omega) hn b c a
 ·exact S6 g n q _ (by omega) _ _ w d hs (by omega) hn b c a
 ·exact S5 g n q _ (by omega) _ _ w d hs (by omega) hn b c a
 ·exact S4 g n q _ (by omega) _ _ w d hs (by omega) hn b c a
 ·exact S3 g n q _ (by omega) _ _ w d hs (by omega) hn b c a
 ·exact S2 g n q _ (by omega) _ _ w d hs (by omega) hn b c a
 ·exact S1 g n q _ (by omega) _ _ w d hs (by omega) hn b c a
 ·exact S0 g n q _ (by omega) _ _ w d hs (by omega) hn b c a
def JC (g n m l q c w) (z:w.heap[g]?=some (.cells (j8 l n 0) 5 (0,0))) (y:Row w q .bool l) (v:∀b o,q=some ⟨b,o,none⟩→0<m→b<g) (O:l.length=m) (N:m≤8*n) (hn:8*n<1152921504606846976):
 Calls prog 152 #[.slice (some ⟨g,0,none⟩) n n,.slice q m c] w fun e s=>e= .returned (.slice (some ⟨g,0,none⟩) n n)∧s.heap[g]?=some (.cells (j8 l n m) 5 (0,0))∧Below g w s:=by
 have hl:=aa y;have K:=aa v;have A:=aa z;clear y v z;have P:=aD A.out
 go_enter func152,ntmps152
 go_wp2
 go_loopw [9] (fun i wr=>∃k:Nat,k≤m∧i= .int .i64 (k:Int)∧wr.heap[g]?=some (.cells (j8 l n k) 5 (0,0))∧Below g w wr) (fun i _=>m-(intOf i).toNat)
 case atStart=>exact⟨0,by omega,rfl,A.out,aP _ _⟩
 case round=>
  obtain⟨k,L,rfl,E,H⟩:=hrel;have j:=aa E;have f:=aa H;clear E H;by_cases r:k<m
  ·obtain⟨b,o,M,B⟩:=hl.out.cell k (by omega)
   subst M;have h:=aa ((f.out.cell (p:=⟨b,o+k,none⟩) (K.out b o rfl (by omega))).trans B);clear B;have I:decide ((k:Int)<(m:Int))=true:=by simp;omega
   by_cases a:l.getD k 0=0
   ·have u:=aa (GD (n:=n) a)
    have d:CK.mk .bool (l.getD k 0)= .bool false:=by rw[a];rfl
    rw[d]at h;clear d a
    go_wp2_with (first
     |refine aC 88 ?_;refine ab (by rfl) _ (ai _ 88 4 _ _ rfl kW 1 gj b o m c rfl .i64 k rfl r (o+k) (by omega)) ?_
     |refine ag 4 ?_;refine dq h.out GE ?_ rfl rfl rfl rfl)
    first
     |exact⟨⟨k+1,by omega,by go_num,by rw[u.out];exact j.out,f.out⟩,by simp[intOf];omega⟩
     |refine⟨?_,by simp[intOf];omega⟩
      (repeat apply Exists.intro)
      exact⟨⟨k+1,by omega,by go_num,by rw[u.out];exact j.out,f.out⟩,rfl⟩
   ·have d:CK.mk .bool (l.getD k 0)= .bool true:=by simp only[CK.mk];rw[xz a]
    have J:=aa (DY g n k l wr j.out (by omega) hn a);rw[d]at h;clear d a
    go_wp2_with (first
     |refine aC 88 ?_;refine ab (by rfl) _ (ai _ 88 4 _ _ rfl kW 1 gj b o m c rfl .i64 k rfl r (o+k) (by omega)) ?_
     |refine ag 4 ?_;refine dq h.out GE ?_ rfl rfl rfl rfl
     |with_reducible refine J.out.mono ?_
      rintro e W ⟨rfl,D,G⟩;have C:=aa D;have F:=aa (f.out.trans G)
      clear D G)
    first
     |exact⟨⟨k+1,by omega,by go_num,C.out,F.out⟩,by simp[intOf];omega⟩
     |refine⟨?_,by simp[intOf];omega⟩
      (repeat apply Exists.intro)
      exact⟨⟨k+1,by omega,by go_num,C.out,F.out⟩,rfl⟩
  ·have e:k=m:=by omega
   subst e;have I:decide ((k:Int)<(k:Int))=false:=by simp
   clear r L;go_wp2;exact cA rfl _ rfl rfl ⟨rfl,j.out,f.out⟩
def Oo {w a k l m} (h:Row w a k l) (j:l.length=m):∀b o,a=some ⟨b,o,none⟩→0<m→b<w.heap.size:=fun b o e n=>by
 obtain⟨p,i,c,d⟩:=h.cell 0 (by omega);rw[e]at c;injection c with g
 injection g with f _ _
 subst f;exact iE d
def Ka (l m a c w) (b:Row w a .bool l) (h:l.length=m) (v:m<4294967296):
 Calls prog 97 #[.slice a m c] w fun e f=>e= .returned (.slice (some ⟨w.heap.size,0,none⟩) ((m+7)/8) ((m+7)/8))∧f.heap[w.heap.size]?=some (.cells (j8 l ((m+7)/8) m) 5 (0,0))∧Below w.heap.size w f:=by
 obtain⟨n,hn⟩:∃n,n=(m+7)/8:=⟨_,rfl⟩;rw[←hn];have d:Below w.heap.size w (w.alloc (.cells (j8 l n 0) 5)):=dt;have q:=aa (JC w.heap.size n m l a c (w.alloc (.cells (j8 l n 0) 5)) (ak _ _ _ _ rfl) (b.later d) (Oo b h) h (by omega) (by omega));have r:=aa d;have g:((m:Int)+7)/8=(n:Int):=by omega
 have o:n≤4294967296:=by omega
 have p:=aa (Aa l n);clear b d hn
 go_enter func97,ntmps97
 go_wp2_with (first
  |refine nc 39 ?_;refine aH rfl fun K i=>bV _ (ng _ (.tmp 6) (.tmp 6) rfl n (fB (Value.int IntKind.i64) g) (fB (Value.int IntKind.i64) g) o) (i _ _ ?_);clear i K;rw[p.out]
  |with_reducible refine q.out.mono ?_
   rintro e W ⟨rfl,j,k⟩;have s:=aa j;have u:=aa (r.out.trans k)
   clear j k)
 exact cA rfl _ rfl rfl ⟨rfl,s.out,u.out⟩
def zU (l:List Int) (x i) (h:i<l.length):l.getD i 0=(l++[x]).getD i 0:=by simp only[List.getD];rw[eY h]
def zV (l:List Int) (x m) (h:l.length=m):(l++[x]).getD m 0=x:=by subst h;simp[List.getD]
def Qb (l m b c w) (f:Row w b .bool l) (d:l.length=m) (E:m<4294967296):
 Calls prog 93 #[.slice b m c] w fun e a=>e= .returned (.slice (some ⟨w.heap.size,0,none⟩) (m/8+1) (m/8+1))∧a.heap[w.heap.size]?=some (.cells (j8 (l++[1]) (m/8+1) (m+1)) 5 (0,0))∧Below w.heap.size w a:=by
 obtain⟨n,hn⟩:∃n,n=m/8+1:=⟨_,rfl⟩;rw[←hn];have g:Below w.heap.size w (w.alloc (.cells (j8 l n 0) 5)):=dt;have v:=aa (JC w.heap.size n m l b c (w.alloc (.cells (j8 l n 0) 5)) (ak _ _ _ _ rfl) (f.later g) (Oo f d) d (by omega) (by omega))
 have h:∀W:World,W.heap[w.heap.size]?=some (.cells (j8 l n m) 5 (0,0))→Calls prog 153 #[.slice (some ⟨w.heap.size,0,none⟩) n n,.int .i64 (m:Int)] W fun e a=>e= .returned (.tuple #[])∧a.heap[w.heap.size]?=some (.cells (j8 (l++[1]) n (m+1)) 5 (0,0))∧Below w.heap.size W a:=fun W hW=>DY w.heap.size n m (l++[1]) W (by rw[←Nc (l:=l) fun i F=>zU l 1 i (by omega)];exact hW) (by omega) (by omega) (by rw[zV l 1 m d];decide)
 have r:=aa h;have y:=aa g;have D:(m:Int)/8+1=(n:Int):=by omega
 have s:n≤4294967296:=by omega
 have u:=aa (Aa l n);clear f g hn h
 go_enter func93,ntmps93
 go_wp2_with (first
  |refine nc 39 ?_;refine aH rfl fun K j=>bV _ (ng _ _ _ rfl n rfl rfl s) (j _ _ ?_);clear j K;rw[u.out]
  |with_reducible refine(r.out _ A.out).mono ?_
   rintro e G ⟨rfl,k,p⟩;have z:=aa k;have B:=aa (C.out.trans p);clear k p
  |with_reducible refine v.out.mono ?_
   rintro e W ⟨rfl,o,q⟩;have A:=aa o;have C:=aa (y.out.trans q)
   clear o q)
 exact cA rfl _ rfl rfl ⟨rfl,z.out,B.out⟩
def yG (l m C c w) (H:Row w C .bool l) (hm:l.length=m) (H5:m<4294967296):
 Calls prog 116 #[.slice C m c] w fun e B=>e= .returned (.slice (some ⟨w.heap.size,0,none⟩) ((m+7)/8) ((m+7)/8))∧B.heap[w.heap.size]?=some (.cells (j8 l ((m+7)/8) m) 5 (0,0))∧Below w.heap.size w B:=by
 obtain⟨n,hn⟩:∃n,n=(m+7)/8:=⟨_,rfl⟩;rw[←hn];have hl:=aa H;clear H;have y:((m:Int)+7)/8=(n:Int):=by omega
 have Y:n≤4294967296:=by omega
 have alC:m≤8*n:=by omega
 have Z:=aa (Aa l n);clear hn
 go_enter func116,ntmps116
 go_wp2_with (first
  |refine nc 39 ?_;refine aH rfl fun K J=>bV _ (ng _ (.tmp 8) (.tmp 8) rfl n (fB (Value.int IntKind.i64) y) (fB (Value.int IntKind.i64) y) Y) (J _ _ ?_);clear J K;rw[Z.out])
 refine bO (fun W=>W.heap[w.heap.size]?=some (.cells (j8 l n 0) 5 (0,0))∧Below w.heap.size w W) ⟨ak _ _ _ _ rfl,dt⟩ ?_;rintro W0 ⟨O,R⟩;clear y
 go_loopw [4] (fun i wr=>∃k:Nat,k≤m∧i= .int .i64 (k:Int)∧wr.heap[w.heap.size]?=some (.cells (j8 l n k) 5 (0,0))∧Below w.heap.size w wr) (fun i _=>m-(intOf i).toNat)
 case atStart=>exact⟨0,by omega,rfl,O,R⟩
 case round=>
  obtain⟨k,hk,rfl,N,Q⟩:=hrel;clear O R;have j:=aa N;have f:=aa Q;clear N Q;by_cases z:k<m
  ·obtain⟨b,o,e0,I⟩:=(hl.out.later f.out).cell k (by omega)
   subst e0;have u:=aa I;clear I;have U:decide ((k:Int)<(m:Int))=true:=by simp;omega
   by_cases d:l.getD k 0=0
   ·have E:=aa (GD (n:=n) d)
    have h:CK.mk .bool (l.getD k 0)= .bool false:=by rw[d];rfl
    rw[h]at u;clear h d
    go_wp2_with (first
     |refine aC 88 ?_;refine ab (by rfl) _ (ai _ 88 4 _ _ rfl kW 1 gj b o m c rfl .i64 k rfl z (o+k) (by omega)) ?_
     |refine ag 4 ?_;refine dq u.out GE ?_ rfl rfl rfl rfl)
    first
     |exact⟨⟨k+1,by omega,by go_num,by rw[E.out];exact j.out,f.out⟩,by simp[intOf];omega⟩
     |refine⟨?_,by simp[intOf];omega⟩
      (repeat apply Exists.intro)
      exact⟨⟨k+1,by omega,by go_num,by rw[E.out];exact j.out,f.out⟩,rfl⟩
   ·have h:CK.mk .bool (l.getD k 0)= .bool true:=by simp only[CK.mk];rw[xz d]
    rw[h]at u;have g:=aa (J7 (n:=n) (by omega:k<8*n) d);obtain⟨V,s⟩:=uF l k (k/8);rw[show min 8 (k-8*(k/8))=k%8 by omega]at s;obtain⟨x,D⟩:∃x,x=bitC l k (k/8):=⟨_,rfl⟩;have a:=aa (Dh l n k (k/8) (by omega));rw[←D]at V s a g;obtain⟨q,G⟩:∃q,q=k/8:=⟨_,rfl⟩;obtain⟨r,F⟩:∃r,r=k%8:=⟨_,rfl⟩;rw[←G]at a g;rw[←F]at s g;have hkq:(k:Int)/8=(q:Int):=by omega
    have A:(k:Int)%8=(r:Int):=by omega
    have X:q<n:=by omega
    have T:r<8:=by omega
    clear h d D G F;rcases eight T with rfl|rfl|rfl|rfl|rfl|rfl|rfl|rfl
    all_goals clear T
    all_goals simp only[Int.pow_zero,Int.reducePow,Int.cast_ofNat_Int]at s A
    all_goals go_wp2_with (first
     |refine aC 88 ?_;refine ab (by rfl) _ (ai _ 88 4 _ _ rfl kW 1 gj b o m c rfl .i64 k rfl z (o+k) (by omega)) ?_
     |refine ag 4 ?_;refine dq u.out GE ?_ rfl rfl rfl rfl
     |refine aC 39 ?_;refine ab (by rfl) _ (ai _ 39 5 _ _ rfl bF 1 cR w.heap.size 0 n n rfl .i64 q rfl X q (by omega)) ?_
     |refine ag 5 ?_;refine dq (p:=⟨w.heap.size,q,none⟩) (v:=(.int .u8 x)) ((br wr _ q _ _ _ j.out).trans a.out) sE ?_ rfl rfl rfl rfl
     |refine al 5 ?_;refine fQ 5 _ _ rfl rfl w.heap.size q rfl .u8 _ rfl (by kernel_rfl) _ 5 j.out (by rw[uR];omega) (fun W3 M S=>?_)
      have re:=aa M;have P:=aa (S.below f.out bG f.out.size)
      clear M S)
    all_goals have L:=re.out
    all_goals first
     |exact⟨⟨k+1,by omega,by go_num,by rw[←g.out];exact L,P.out⟩,by simp[intOf];omega⟩
     |refine⟨?_,by simp[intOf];omega⟩
      (repeat apply Exists.intro)
      exact⟨⟨k+1,by omega,by go_num,by rw[←g.out];exact L,P.out⟩,rfl⟩
  ·have e:k=m:=by omega
   subst e;have U:decide ((k:Int)<(k:Int))=false:=by simp
   clear z hk;go_wp2;exact cA rfl _ rfl rfl ⟨rfl,j.out,f.out⟩
def wB (a:Nat) (v:Value) (l:List Int) (w:World):Prop:=w.ownsRow a 4 1 v l.length (l.map CK.bool.mk)
def wB.later {a v l w b} (h:wB a v l w) (c:Below w.heap.size w b):wB a v l b:=aU h c
def wB.new {a w k} (b:a≤k) (h:w.heap[k]?=some (.cells #[] 4 (0,0))):wB a (.slice (some ⟨k,0,none⟩) 0 0) [] w:=⟨rfl,Or.inr ⟨k,0,_,rfl,b,h,cD _,by decide,by simp,by simp⟩⟩
def wB.row {a n c d l w} (h:wB a (.slice d n c) l w) (k:∀x∈l,CK.ok .bool x):n=l.length∧(d=none→c=0)∧Row w d .bool l∧∀b o,d=some ⟨b,o,none⟩→o=0∧a≤b∧b<w.heap.size:=by
 rcases h.2 with⟨f,C⟩|⟨g,y,v,f,u,p,B,A,z,s⟩
 ·injection f with j r q
  subst j;refine⟨by omega,fun _=>q,⟨fun i m=>by omega,k⟩,fun b o e=>by cases e⟩
 ·injection f with j r q
  subst j;refine⟨r,fun e=>(by cases e),⟨fun i m=>⟨g,0,rfl,?_⟩,k⟩,fun b o e=>by cases e;exact⟨rfl,u,aD p⟩⟩;rw[br w g _ _ _ _ p,bY];have e:(l.map CK.bool.mk)[i]?=some (CK.bool.mk (l.getD i 0)):=by simp[List.getD,m]
  rw[←s,nO (by omega)]at e;simpa using e
def MG:∃i,prog.info? 4=some i∧i.zero=some (.bool false)∧i.size=1∧i.bytes=1:=by
 have h:(prog.info? 4).map (fun i=>(i.zero,i.size,i.bytes))=some (some (.bool false),1,1):=by kernel_rfl
 exact info_parts h
def Hg {o:Oper} {a:Act} {w w0:World} {K:Act→World→Prop} {Q:Exit→Act→World→Prop} (s x:Operand)
 (B:o.op= .call {callee:= .builtin .append,args:=#[s,x],argTypes:=#[88,88]}) (d:Nat) (l m:List Int) (v:Value) (hs:a.eval s=v) (q:wB d v l w) (f:Option Addr) (k c:Nat) (z:a.eval x= .slice f k c) (A:k=m.length)
 (C:Row w f .bool m) (H:l.length+m.length≤70368744177664) (r:d≤w.heap.size) (L:f=none→c=0) (F:Below d w0 w)
 (h:∀g W,wB d g (l++m) W→Below d w0 W→d≤W.heap.size→K (a.put o.dst g) W):o.wp prog a w K Q:=by
 subst A;obtain⟨i,E,J,M,S⟩:=MG;cases f with
 |none=>
  have O:m=[]:=by
   cases m with
   |nil=>rfl
   |cons y V=>obtain⟨b,I,e,_⟩:=C.cell 0 (by simp);cases e
  subst O;rw[L rfl]at z;have N:=St (P:=prog) (w:=w) d 88 o.type 4 i 1 kW E v l.length _ q;unfold Oper.wp;simp[execOp,B,resolve,invoke,builtin,hs,z,N,Result.andThen];exact h v w (by simpa using q) F r
 |some U=>
  refine wp_append_own (P:=prog) w s x 88 B d 4 i (.bool false) 1 1 kW E J M S rfl (by decide) v l.length _ hs q U m.length c (m.map CK.bool.mk) z (by simp) (fun j u p=>?_) (fun u p=>?_) (by unfold maxLen;omega) (by omega) r (fun g W T G _=>?_)
  ·have D:j<m.length:=by have:=(io.1 p).1;simpa using this
   obtain⟨b,I,e,R⟩:=C.cell j D;cases e;rw[Fl,R];rw[←p];simp[List.getD,D]
  ·obtain⟨n,_,rfl⟩:=ft.1 p
   rfl
  ·exact h g W (by unfold wB;rw[kN,bM];exact T) (F.grown G r (fun k A=>LL q k A)) (bg r G.size)
def TN (W g) (h:W.heap[g]?=some (.cells #[.bool true] 4 (0,0))):Row W (some ⟨g,0,none⟩) .bool [1]:=by
 refine⟨fun i a=>⟨g,0,rfl,?_⟩,fun x b=>?_⟩
 ·have:i=0:=by simp at a;exact a
  subst this;rw[br W g _ _ _ _ h];rfl
 ·rw[jJ.1 b]
  exact Or.inr rfl
def Mm (l m f c w) (i:Row w f .bool l) (J:f=none→c=0) (L:l.length=m) (X:m<100000):
 Calls prog 112 #[.slice f m c] w fun e q=>(∃g,e= .returned (.slice (some ⟨g,0,none⟩) (m/8+1) (m/8+1))∧w.heap.size≤g∧q.heap[g]?=some (.cells (j8 (l++[1]) (m/8+1) (m+1)) 5 (0,0)))∧Below w.heap.size w q:=by
 have hl:=aa i
 have v:∀x∈l++[1],CK.ok .bool x:=fun x I=>by
  rcases iD.1 I with h|h
  ·exact i.ok x h
  ·rw[jJ.1 h];exact Or.inr rfl
 have y:Below w.heap.size w (w.alloc (.cells #[] 4)):=dt;have n:=aa v;have a:=aa y;clear i v y
 go_enter func112,ntmps112
 go_wp2_with (first
  |refine be .append ?_;refine aH rfl fun K b=>Hg (w0:=w) (.tmp 5) (.tmp 6) rfl w.heap.size l [1] H rfl (O.out.later dt) (some ⟨U.heap.size,0,none⟩) 1 1 rfl rfl (TN _ _ (ak _ _ _ _ rfl)) (by simp;omega) (by rw[bn];have:=u.out;omega) (fun h=>by cases h) (S.out.alloc u.out _) (fun V T k D s=>b _ _ ?_);clear b K
   obtain⟨G,Q,P,_⟩:=aW k;subst P;obtain⟨Z,Y,z,o⟩:=wB.row k n.out;have j:=yG (l++[1]) (m+1) G Q T z (by simp;omega) (by omega);rw[show (m+1+7)/8=m/8+1 by omega]at j;have p:=aa j;clear j;have R:=aa D;have r:=aa s;clear k D s z o
  |refine be .append ?_;refine aH rfl fun K b=>Hg (w0:=w) (.tmp 3) (.tmp 4) rfl w.heap.size [] l (.slice (some ⟨w.heap.size,0,none⟩) 0 0) rfl (wB.new bG (ak _ _ _ _ rfl)) f m c rfl L.symm (hl.out.later a.out) (by simp;omega) a.out.size J a.out (fun H U C E d=>b _ _ ?_);clear b K
   have O:=aa C;have S:=aa E;have u:=aa d;clear C E d
  |with_reducible refine p.out.mono ?_
   rintro e W ⟨rfl,A,B⟩;have M:=aa A;have N:=aa (R.out.trans (B.mono r.out))
   clear A B)
 exact cA rfl _ rfl rfl ⟨⟨_,rfl,r.out,M.out⟩,N.out⟩
def mz (y:Int) (j:Nat):Int:=y/2^j%2
def adg (z) (c:0≤z) (b:z≤255):bits BinOp.and IntKind.u8 z 1=z%2:=by
 have h:∀n:Fin 256,bits BinOp.and IntKind.u8 ((n:Nat):Int) 1=((n:Nat):Int)%2:=by decide+kernel
 have a:=h ⟨z.toNat,by omega⟩;rw[show ((z.toNat:Nat):Int)=z by omega]at a;exact a
def sy (l:List Int) (i:Nat):Int:=mz (l.getD (i/8) 0) (i%8)
def Dg (y j):mz y j=0∨mz y j=1:=by have a:0≤mz y j∧mz y j<2:=⟨NM _ (by decide),NN _ (by decide)⟩;omega
def Bl (l:List Int) (n k:Nat):Array Value:=(ae n (fun _=> .bool) fun j=>if j<k then sy l j else 0).toArray
def zH (l n k):(Bl l n k).size=n:=by simp[Bl,ae]
def Pz (l n):madeCells #[Value.bool false] n=Bl l n 0:=by refine iW (by simp[madeCells]) fun j a=>?_;simp[madeCells,a,Nat.mod_one,CK.mk]
def TD (l n k) (d:k<n):(Bl l n k).setIfInBounds k (.bool (decide (sy l k=1)))=Bl l n (k+1):=by
 refine iW (by rw[NT,zH]) fun j a=>?_;rw[th];by_cases e:k=j
 ·subst e
  rw[aj rfl,aj (by rw[zH];exact a),aj (by omega)];rcases Dg (l.getD (k/8) 0) (k%8)with b|b<;>unfold sy<;>rw[b]<;>rfl
 ·rw[an e]
  unfold Bl;rw[fu,aN _ _ _ _ a];by_cases c:j<k
  ·rw[aj c,aj (by omega)]
  ·rw[an c,an (by omega)]
def MF:(prog.info? 4).map (fun i=>(i.zero,i.size,i.bytes))=some (some (.bool false),1,1):=by kernel_rfl
def EI {a o} (w x y) (e:o.op= .makeSlice 88 x y) (n) (d:a x= .int .i64 (n:Int)) (c:a y= .int .i64 (n:Int)) (hn:n≤4294967296):
 (execOp a o).run prog w= .ok (.value (.slice (some ⟨w.heap.size,0,none⟩) n n)) (w.alloc (.cells (madeCells #[.bool false] n) 4)):=by
 obtain⟨i,f,b,hs,g⟩:=info_parts MF;have h:=Cv (P:=prog) w 88 4 i _ kW f b .i64 .i64 n n (by omega) (vN _) (by rw[g];omega) (by omega);simp only[Int.toNat_natCast,hs,As]at h;unfold execOp;simp only[e,d,c,dN,h,Result.andThen_ok,Sem.run_pure];rfl
def JT {y:Int} (a:0≤y) (c:y≤255) (r:Nat):0≤y/2^r∧y/2^r≤255:=by have b:(0:Int)≤2^r:=Int.pow_nonneg (by decide);refine⟨Int.ediv_nonneg a b,Int.le_trans (Int.ediv_le_self _ a) c⟩
def Px (l m n s c w) (N:Row w s .u8 l) (M:∀b o,s=some ⟨b,o,none⟩→b<w.heap.size) (hm:l.length=m) (hn:n≤8*m) (Q2:n≤100000):
 Calls prog 178 #[.slice s m c,.int .i64 (n:Int)] w fun e E=>e= .returned (.slice (some ⟨w.heap.size,0,none⟩) n n)∧E.heap[w.heap.size]?=some (.cells (Bl l n n) 4 (0,0))∧Below w.heap.size w E:=by
 have hl:=aa N;have df:=aa M;clear N M;have YI:=aa (Pz l n);have Z:n≤4294967296:=by omega
 go_enter func178,ntmps178
 go_wp2_with (first
  |refine nc 88 ?_;refine aH rfl fun K d=>bV _ (EI _ _ _ rfl n rfl rfl Z) (d _ _ ?_);clear d K;rw[YI.out])
 refine bO (fun W=>W.heap[w.heap.size]?=some (.cells (Bl l n 0) 4 (0,0))∧Below w.heap.size w W) ⟨ak _ _ _ _ rfl,dt⟩ ?_;rintro W0 ⟨P,T⟩
 go_loopw [11] (fun i wr=>∃k:Nat,k≤n∧i= .int .i64 (k:Int)∧wr.heap[w.heap.size]?=some (.cells (Bl l n k) 4 (0,0))∧Below w.heap.size w wr) (fun i _=>n-(intOf i).toNat)
 case atStart=>exact⟨0,by omega,rfl,P,T⟩
 case round=>
  obtain⟨k,hk,rfl,f,S⟩:=hrel;clear P T;have Q:=aa f;have j:=aa S;clear f S;by_cases h:k<n
  ·have X:decide ((k:Int)<(n:Int))=true:=by simp;omega
   obtain⟨q,L⟩:∃q,q=k/8:=⟨_,rfl⟩;obtain⟨r,J⟩:∃r,r=k%8:=⟨_,rfl⟩;have B:q<m:=by omega
   obtain⟨b,o,e0,O⟩:=hl.out.cell q (by omega);subst e0;have v:=(j.out.cell (p:=⟨b,o+q,none⟩) (df.out b o rfl)).trans O
   have I:CK.ok .u8 (l.getD q 0):=hl.out.ok _ (by
    rw[show l.getD q 0=l[q]'(by omega) by simp[List.getD,show q<l.length by omega]]
    exact oI _)
   have F:sy l k=mz (l.getD q 0) r:=by unfold sy;rw[L,J]
   have g:=aa (TD l n k h);rw[F]at g;obtain⟨y,G⟩:∃y,y=l.getD q 0:=⟨_,rfl⟩;rw[←G]at v I g;have YO:=aa (show wr.cell? ⟨b,o+q,none⟩=some (.int .u8 y)from v);obtain⟨H,Y⟩:=I;obtain⟨z,u⟩:∃z,z=mz y r:=⟨_,rfl⟩;have D:bits BinOp.and IntKind.i64 (k:Int) 7=(r:Int):=by rw[adf _ (by omega) (by omega)];omega
   have hbq:(k:Int)/8=(q:Int):=by omega
   have a:bits BinOp.and IntKind.u8 (y/2^r) 1=z:=by obtain⟨g0,g1⟩:=JT (y:=y) H (by omega) r;rw[adg _ g0 g1,u];rfl
   have C:(bits BinOp.and IntKind.u8 (y/2^r) 1==1)=decide (z=1):=by rw[a];rfl
   clear a;rw[←u]at g;have V:r<8:=by omega
   clear O v F L J G u H Y;rcases eight V with rfl|rfl|rfl|rfl|rfl|rfl|rfl|rfl
   all_goals clear V
   all_goals simp only[Int.pow_zero,Int.ediv_one,Int.reducePow,Int.cast_ofNat_Int]at C D
   all_goals go_wp2_with (first
    |refine aC 39 ?_;refine ab (by rfl) _ (ai _ 39 5 _ _ rfl bF 1 cR b o m c rfl .i64 q rfl B (o+q) (by omega)) ?_
    |refine ag 5 ?_;refine dq YO.out sE ?_ rfl rfl rfl rfl
    |refine aC 88 ?_;refine ab (by rfl) _ (ai _ 88 4 _ _ rfl kW 1 gj w.heap.size 0 n n rfl .i64 k rfl h k (by omega)) ?_
    |refine al 4 ?_;refine aH rfl fun K d=>bt 4 _ _ rfl w.heap.size k rfl (.bool (decide (z=1))) rfl rfl gj _ 4 Q.out (by rw[zH];exact h) (fun W1 f U=>d _ _ ?_);clear d K
     have fW:=aa f;have R:=aa (U.below j.out bG j.out.size)
     clear f U)
   all_goals have A:=fW.out
   all_goals rw[g.out]at A
   all_goals first
    |exact⟨⟨k+1,by omega,by go_num,A,R.out⟩,by simp[intOf];omega⟩
    |refine⟨?_,by simp[intOf];omega⟩
     (repeat apply Exists.intro)
     exact⟨⟨k+1,by omega,by go_num,A,R.out⟩,rfl⟩
  ·have e:k=n:=by omega
   subst e;have X:decide ((k:Int)<(k:Int))=false:=by simp
   clear h hk;go_wp2;exact cA rfl _ rfl rfl ⟨rfl,Q.out,j.out⟩
def Po (l:List Int) (s:Value) (W:World):Prop:=∃a c,s= .slice a l.length c∧(a=none→c=0)∧Row W a .bool l
def iT (l:List Int) (s:Value) (a:Nat) (W:World):Prop:=∃d c,s= .slice d l.length c∧(d=none→c=0)∧Row W d .bool l∧∀b o,d=some ⟨b,o,none⟩→a≤b∧b<W.heap.size
def iT.at {l s a W} (h:iT l s a W):Po l s W:=by obtain⟨b,c,f,e,d,_⟩:=h;exact⟨b,c,f,e,d⟩
def iT.later {l s a W W'} (h:iT l s a W) (d:Below W.heap.size W W'):iT l s a W':=by obtain⟨g,c,k,j,i,f⟩:=h;exact⟨g,c,k,j,i.later d,fun b o e=>⟨(f b o e).1,du (f b o e).2 d.size⟩⟩
def iT.nil (a W):iT [] (.slice none 0 0) a W:=⟨none,0,rfl,fun _=>rfl,⟨fun i d=>absurd d (by simp),fun x c=>by cases c⟩,fun b o e=>by cases e⟩
def ga (l:List Int):Int:=l.getD (l.length-1) 0
def jZ (l:List Int):Nat:=8*(l.length-1)+Lib.bitLen (ga l).toNat-1
def iO (l:List Int):Nat:=if l.length=0 then 4 else if ga l=0 then 5 else if 64<jZ l then 6 else 0
def ju (l:List Int) (n:Nat):List Int:=(List.range n).map (sy l)
def fi (l:List Int):List Int:=if iO l=0 then ju l (jZ l)else[]
def dn (l n):(ju l n).length=n:=by simp[ju]
def qZ (l n j) (h:j<n):(ju l n).getD j 0=sy l j:=by simp[ju,List.getD,h]
def yA (l n):∀x∈ju l n,CK.ok .bool x:=fun x a=>by obtain⟨j,_,rfl⟩:=ft.1 a;exact Dg _ _
def TF {W g n l} (h:W.heap[g]?=some (.cells (Bl l n n) 4 (0,0))):Row W (some ⟨g,0,none⟩) .bool (ju l n):=by refine⟨fun i a=>⟨g,0,rfl,?_⟩,yA l n⟩;rw[dn]at a;rw[br W g (0+i) _ _ _ h,bY,qZ l n i a];unfold Bl;rw[fu,aN _ _ _ _ a,aj a]
def TG {W g a n l} (h:W.heap[g]?=some (.cells (Bl l n n) 4 (0,0))) (c:a≤g):iT (ju l n) (.slice (some ⟨g,0,none⟩) n n) a W:=⟨some ⟨g,0,none⟩,n,by rw[dn],fun e=>(by cases e),TF h,fun b o e=>by cases e;exact⟨c,aD h⟩⟩
def ny (y) (c:0≤y) (b:y≤255):Lib.bitLen y.toNat≤8∧(y≠0→1≤Lib.bitLen y.toNat∧mz y (Lib.bitLen y.toNat-1)=1)∧∀j,j<8→Lib.bitLen y.toNat≤j→mz y j=0:=by
 have h:∀n:Fin 256,Lib.bitLen (n:Nat)≤8∧(((n:Nat):Int)≠0→1≤Lib.bitLen (n:Nat)∧mz ((n:Nat):Int) (Lib.bitLen (n:Nat)-1)=1)∧∀j,j<8→Lib.bitLen (n:Nat)≤j→mz ((n:Nat):Int) j=0:=by unfold mz;decide+kernel
 have a:=h ⟨y.toNat,by omega⟩;rw[show (((⟨y.toNat,by omega⟩:Fin 256):Nat):Int)=y from by show ((y.toNat:Nat):Int)=y;omega]at a;exact a
def v8 (l m B c w) (j:Row w B .u8 l) (q:∀b o,B=some ⟨b,o,none⟩→b<w.heap.size) (J:l.length=m) (H5:m<4294967296):
 Calls prog 134 #[.slice B m c,.int .i64 64] w fun e r=>(∃s,e= .returned (.tuple #[s,.int .i64 (iO l:Int)])∧iT (fi l) s w.heap.size r)∧Below w.heap.size w r:=by
 have a:iO l≠0→∀M:Ending,M= .returned (.tuple #[.slice none 0 0,.int .i64 (iO l:Int)])→∀r,∃s,M= .returned (.tuple #[s,.int .i64 (iO l:Int)])∧iT (fi l) s w.heap.size r:=fun hn M he r=>⟨_,he,by unfold fi;rw[an hn];exact iT.nil _ _⟩;by_cases Y:m=0
 ·have he:iO l=4:=by unfold iO;rw[aj (by omega)]
  have h:=aa (a (by omega));rw[he]at h ⊢;clear a j q;subst Y
  go_enter func134,ntmps134
  go_wp2;exact bR rfl _ _ rfl rfl rfl ⟨h.out _ rfl _,aP _ _⟩
 ·obtain⟨p,v⟩:∃p,p=m-1:=⟨_,rfl⟩
  obtain⟨b,o,D,A⟩:=j.cell p (by omega);have hb:=q b o D
  have R:CK.ok .u8 (l.getD p 0):=j.ok _ (by
   rw[show l.getD p 0=l[p]'(by omega) by simp[List.getD,show p<l.length by omega]]
   exact oI _)
  have i:ga l=l.getD p 0:=by unfold ga;rw[J,v]
  obtain⟨y,C⟩:∃y,y=l.getD p 0:=⟨_,rfl⟩;rw[←C]at A R i;obtain⟨u,I⟩:=R;have f:y≤255:=by omega
  have L:=aa (show w.cell? ⟨b,o+p,none⟩=some (.int .u8 y)from A);have k:p<m:=by omega
  have xl:(m:Int)-1=(p:Int):=by omega
  have bm:decide ((m:Int)=0)=false:=by simp;omega
  have bm2:((m:Int)==0)=false:=by simp;omega
  by_cases g:y=0
  ·have he:iO l=5:=by unfold iO;rw[an (by omega),aj (by rw[i,g])]
   have h:=aa (a (by omega));rw[he]at h ⊢;clear a j q v i C A u I f;subst g;subst D
   go_enter func134,ntmps134
   go_wp2_with (first
    |refine aC 39 ?_;refine ab (by rfl) _ (bC _ 39 5 _ _ rfl bF 1 cR b o m c rfl .i64 (p:Int) rfl p rfl k (o+p) (by omega)) ?_
    |refine ag 5 ?_;refine dq L.out sE ?_ rfl rfl rfl rfl)
   exact bR rfl _ _ rfl rfl rfl ⟨h.out _ rfl _,aP _ _⟩
  ·obtain⟨G,F,Q⟩:=ny y u f
   obtain⟨E,P⟩:=F g;have K:=aa (Tryz.bits_LeadingZeros8 y w u f);have d:jZ l=8*p+Lib.bitLen y.toNat-1:=by unfold jZ;rw[i,J,v]
   obtain⟨z,H⟩:∃z,z=Lib.bitLen y.toNat:=⟨_,rfl⟩;rw[←H]at K d G E;obtain⟨n,hn⟩:∃n,n=jZ l:=⟨_,rfl⟩;rw[←hn]at d;have b1:decide (y=0)=false:=IH g;have b2:(y==0)=false:=by simpa using g
   have hz8:(z:Int)≤8:=by omega
   have xk:(1:Int)≤z:=by omega
   have hmI:(m:Int)<4294967296:=by omega
   have K9:8*(m:Int)-1-(8-(z:Int))=(n:Int):=by omega
   have O:n≤8*m:=by omega
   by_cases c64:64<n
   ·have he:iO l=6:=by unfold iO;rw[an (by omega),an (by rw[i];exact g),aj (by omega)]
    have h:=aa (a (by omega));have Z:decide ((64:Int)<(n:Int))=true:=by simp;omega
    rw[he]at h ⊢;clear a j q v i C A u I f G F Q E P H hn d g;subst D
    go_enter func134,ntmps134
    go_wp2_with (first
     |refine aC 39 ?_;refine ab (by rfl) _ (bC _ 39 5 _ _ rfl bF 1 cR b o m c rfl .i64 (p:Int) rfl p rfl k (o+p) (by omega)) ?_
     |refine ag 5 ?_;refine dq L.out sE ?_ rfl rfl rfl rfl
     |with_reducible refine K.out.mono ?_
      rintro e W ⟨rfl,rfl⟩)
    exact bR rfl _ _ rfl rfl rfl ⟨h.out _ rfl _,aP _ _⟩
   ·have he:iO l=0:=by unfold iO;rw[an (by omega),an (by rw[i];exact g),an (by omega)]
    have U:fi l=ju l n:=by unfold fi;rw[aj he,hn]
    have N:=aa (Px l m n B c w j q J O (by omega));have Z:decide ((64:Int)<(n:Int))=false:=by simp;omega
    rw[he,U];clear a j q v i C A u I f G F Q E P H hn d g;subst D
    go_enter func134,ntmps134
    go_wp2_with (first
     |refine aC 39 ?_;refine ab (by rfl) _ (bC _ 39 5 _ _ rfl bF 1 cR b o m c rfl .i64 (p:Int) rfl p rfl k (o+p) (by omega)) ?_
     |refine ag 5 ?_;refine dq L.out sE ?_ rfl rfl rfl rfl
     |with_reducible refine K.out.mono ?_
      rintro e W ⟨rfl,rfl⟩
     |with_reducible refine N.out.mono ?_
      rintro e W ⟨rfl,S,T⟩;have V:=aa S;have X:=aa T
      clear S T)
    exact bR rfl _ _ rfl rfl rfl ⟨⟨_,rfl,TG V.out bG⟩,X.out⟩
end Go.Proofs.YtjeoeibdgciafaaGreatDoor
