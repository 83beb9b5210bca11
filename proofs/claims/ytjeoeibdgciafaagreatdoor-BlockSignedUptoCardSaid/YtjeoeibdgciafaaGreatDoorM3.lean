/- Steps of the proof. -/
import Derived.Test.YtjeoeibdgciafaaGreatDoorM2
set_option linter.all false
set_option maxRecDepth 100000
set_option maxHeartbeats 16000000
namespace Go.Proofs.YtjeoeibdgciafaaGreatDoor
open Go.RowKit BigFrame
open Go.Proofs.Tryz
def Qf (a k i) (h:i<k):leaf (a.take k) i=leaf a i:=by simp only[leaf,List.getD,Aw,aj h]
def Qg (a k i):leaf (a.drop k) i=leaf a (i+k):=by simp only[leaf,List.getD,qD,Cu]
def C3 (a i) (h:a.length≤i):leaf a i=bh:=by simp[leaf,List.getD,h]
def tT:leaf []=fun _=>bh:=by funext i;simp[leaf,List.getD]
def Do (d:Nat) (b:List (Nat→Int)) (a:Nat) (h:a=2^d∨(a=b.length∧b.length≤2^d)):
 fullT (d+1) (leaf b)=gX (fullT d (leaf (b.take a))) (fullT d (leaf (b.drop a))):=by
 have f:fullT d (leaf (b.take a))=fullT d (leaf b):=pV d fun i c=>by
  rcases h with h|h
  ·exact Qf b a i (by omega)
  ·rw[h.1,gC]
 have e:fullT d (leaf (b.drop a))=fullT d (fun i=>leaf b (i+2^d)):=pV d fun i c=>by
  rw[Qg];rcases h with h|h
  ·rw[h]
  ·rw[C3 b (i+a) (by omega),C3 b (i+2^d) (by omega)]
 rw[f,e];rfl
def PN:∀(d:Nat) (f:List (Nat→Int)) (n:Nat) (Q:Option Addr) (c a j m:Nat) (w:World),d≤40→f.length=n→n≤2^d→j_ w Q f→(∀b o,Q=some ⟨b,o,none⟩→b<w.heap.size)→n≤c→cU a j m (fun k=>fullT k fun _=>bh) w→d<m→cY w→
 Calls prog 169 #[.slice Q n c,.int .i64 (d:Int),.slice (some ⟨a,0,none⟩) m j] w fun e g=>e= .returned (.agg (ax (fullT d (leaf f))))∧Below w.heap.size w g:=by
 intro d
 induction d with
 |zero=>
  intro f n Q c a j m w gS hn O l s hc C hm B;have F:=B.size;have P:=aa (C.range 0 hm);have E:=C.lt;clear B C;by_cases h0:n=0
  ·subst h0
   have e0:f=[]:=Ay hn;subst e0;clear hn l s
   go_enter func169,ntmps169
   go_wp2_with (first
    |refine ao 25 ?_;refine fX 6 cg ?_
    |refine aC 106 ?_;refine ab (by rfl) _ (ai _ 106 25 _ _ rfl fC 32 (ah am) a 0 m j rfl .i64 0 rfl (by omega) 0 (by omega)) ?_
    |refine ag 25 ?_;refine ab (by rfl) _ (ar _ 25 _ (by rfl) a 0 (by rfl) _ _ (gF P.out (dt.block a E)) cH rfl (by rw[ah am,ac])) ?_
    |refine al 25 ?_;refine aq (w0:=w) (n0:=w.heap.size) 25 _ _ rfl rfl w.heap.size rfl _ rfl (aA _ _ _) (by rw[ah am];simp[ae]) _ 25 (ak _ _ _ _ rfl) (by rw[bL];simp[ae]) (by omega) dt (fun W9 U Y _=>?_))
   exact fF rfl w.heap.size 0 (ae 32 (fun _=> .u8) bh) _ rfl U cH rfl (by rw[ah am,ac]) rfl ⟨by rw[tT];rfl,Y⟩
  ·have nU:((n:Int)==0)=false:=by simp[h0]
   obtain⟨b,o,rfl,wg⟩:=l.cell 0 (by omega);have agP:=aa wg;have nV:=s b o rfl;clear l s wg hn
   go_enter func169,ntmps169
   go_wp2_with (first
    |refine ao 25 ?_;refine fX 6 cg ?_
    |refine aC 106 ?_;refine ab (by rfl) _ (ai _ 106 25 _ _ rfl fC 32 (ah am) b o n c rfl .i64 0 rfl (by omega) o (by omega)) ?_
    |refine ag 25 ?_;refine ab (by rfl) _ (ar _ 25 _ (by rfl) b o (by rfl) _ _ (gF agP.out (dt.block b nV)) cH rfl (by rw[ah am,ac])) ?_
    |refine al 25 ?_;refine aq (w0:=w) (n0:=w.heap.size) 25 _ _ rfl rfl w.heap.size rfl _ rfl (aA _ _ _) (by rw[ah am];simp[ae]) _ 25 (ak _ _ _ _ rfl) (by rw[bL];simp[ae]) (by omega) dt (fun W9 U Y _=>?_))
   exact fF rfl w.heap.size 0 (ae 32 (fun _=> .u8) (leaf f 0)) _ rfl U cH rfl (by rw[ah am,ac]) rfl ⟨rfl,Y⟩
 |succ d R=>
  intro f n Q c a j m w gS xb O ka cT hc P hm fP;have F:=fP.size;have Vy:=aa (P.range (d+1) hm);have E:=P.lt;have C:=aa P;have B:=aa fP;have hn:=aa xb;have l:=aa ka;have s:=aa cT;have V6:2^d≤1099511627776:=nN (n:=2) (by decide) (show d≤40 by omega);have agZ:=aa O;clear P fP xb ka cT O;by_cases h0:n=0
  ·subst h0
   have e0:f=[]:=Ay hn.out;subst e0;clear hn l s R;rw[tT];generalize d+1=D at*
   go_enter func169,ntmps169
   go_wp2_with (first
    |refine ao 25 ?_;refine fX 6 cg ?_
    |refine aC 106 ?_;refine ab (by rfl) _ (ai _ 106 25 _ _ rfl fC 32 (ah am) a 0 m j rfl .i64 D rfl (by omega) (32*D) (by omega)) ?_
    |refine ag 25 ?_;refine ab (by rfl) _ (ar _ 25 _ (by rfl) a (32*D) (by rfl) _ _ (gF Vy.out (dt.block a E)) cH rfl (by rw[ah am,ac])) ?_
    |refine al 25 ?_;refine aq (w0:=w) (n0:=w.heap.size) 25 _ _ rfl rfl w.heap.size rfl _ rfl (aA _ _ _) (by rw[ah am];simp[ae]) _ 25 (ak _ _ _ _ rfl) (by rw[bL];simp[ae]) (by omega) dt (fun W9 U Y _=>?_))
   exact fF rfl w.heap.size 0 (ae 32 (fun _=> .u8) (fullT D fun _=>bh)) _ rfl U cH rfl (by rw[ah am,ac]) rfl ⟨rfl,Y⟩
  ·have nU:((n:Int)==0)=false:=by simp[h0]
   obtain⟨b,o,rfl,_⟩:=l.out.cell 0 (by have:=hn.out;omega);have hnd:(((d+1:Nat):Int)==0)=false:=by simp;omega
   have rc:IntKind.i64.wrap (((d+1:Nat):Int)-1)=(d:Int):=by rw[bP];omega
   have Ee:IntKind.u64.wrap (d:Int)=(d:Int):=by rw[lP];omega
   have lsh:(d:Int)<64:=by omega
   obtain⟨p,hp⟩:∃p:Nat,2^d=p:=⟨_,rfl⟩;have Xz:(2:Int)^d=(p:Int):=by rw[←hp];exact(Int.natCast_pow 2 d).symm▸rfl
   have Vd:IntKind.i64.wrap ((2:Int)^d)=(p:Int):=by rw[Xz,bP];omega
   have H:=aa hp;clear hp Xz;have hnp:=agZ.out;rw[Nat.pow_succ,H.out]at hnp;generalize hD:((d+1:Nat):Int)=D at hnd rc ⊢;have hD':=aa hD;clear hD;have hA:∀(W:World),W=w.alloc (.cells zr 25)→True:=fun _ _=>trivial;clear hA
   go_enter func169,ntmps169
   by_cases a8:n<p
   ·have hgt:decide ((n:Int)<(p:Int))=true:=by simp;omega
    go_wp2_with (
     ((with_reducible refine ao 25 ?_);refine fX 6 cg ?_))
    have K5:=aa (Do d f n (Or.inr ⟨hn.out.symm,by have:=H.out;have:=hn.out;omega⟩));rename_i K X;have Zm:=aa (R (f.take n) n (some ⟨b,o,none⟩) c a j m);have Zl:=aa (R (f.drop n) (n-n) (some ⟨b,if c=n then o else o+n*32,none⟩) (c-n) a j m);refine bO (fun W=>W.heap[w.heap.size]?=some (.cells zr 25 (0,0))∧Below w.heap.size w W∧w.heap.size+1≤W.heap.size) ⟨ak _ _ _ _ rfl,dt,by rw[bn];omega⟩ ?_;rintro u ⟨gu,fe,fc⟩;refine dQ (S:=fun _=>True) (by kernel_rfl) ?_;have hS:True:=trivial;have A:Below w.heap.size w {u with drawn:=u.drawn+1}:=fe.drew;refine d5 0 (.slice (some ⟨b,o,none⟩) n c) rfl (by kernel_rfl) (fun _=>by kernel_rfl) bH ‹_› ?_;go_frame;refine aJ (i:=1) (v:=(.int .i64 (n:Int))) rfl (by kernel_rfl) bH ‹_› (fun g y=>by go_simp) ?_;go_frame;refine aJ (i:=3) (v:=(.int .i64 D)) rfl (by kernel_rfl) bH ‹_› (fun g y=>by go_simp) ?_;go_frame;refine kg 5 7 (.slice (some ⟨a,0,none⟩) m j) (.slice (some ⟨b,o,none⟩) n c) rfl (by kernel_rfl) (fun _=>by kernel_rfl) bH ‹_› ?_;go_frame;refine aJ (i:=8) (v:=(.int .i64 (n:Int))) rfl (by kernel_rfl) bH ‹_› (fun g y=>by go_simp) ?_;go_frame;refine aJ (i:=10) (v:=(.int .i64 D)) rfl (by kernel_rfl) bH ‹_› (fun g y=>by go_simp) ?_;go_frame;refine d5 12 (.slice (some ⟨a,0,none⟩) m j) rfl (by kernel_rfl) (fun _=>by kernel_rfl) bH ‹_› ?_;go_frame;refine aJ (i:=4) (v:=(.int .i64 (d:Int))) rfl (by kernel_rfl) bH ‹_› (fun g y=>by go_simp) ?_;go_frame;refine aJ (i:=11) (v:=(.int .i64 (d:Int))) rfl (by kernel_rfl) bH ‹_› (fun g y=>by go_simp) ?_;go_frame;refine aJ (i:=2) (v:=(.slice (some ⟨b,o,none⟩) n c)) rfl (by kernel_rfl) bH ‹_› (fun g _=>dl g 106 25 _ _ (by rfl) fC 32 (ah am) b o n c n (by rfl) (by rfl) (by omega)) ?_;go_frame;refine aJ (i:=9) (v:=(.slice (some ⟨b,if c=n then o else o+n*32,none⟩) (n-n) (c-n))) rfl (by kernel_rfl) bH ‹_› (fun g _=>vZ g 106 25 _ _ (by rfl) fC 32 (ah am) b o n c n (by rfl) (by rfl) (by omega)) ?_;go_frame;refine cQ (i:=6) rfl (by kernel_rfl) rfl (jh 169 #[.slice (some ⟨b,o,none⟩) n c,.int .i64 (d:Int),.slice (some ⟨a,0,none⟩) m j] (by go_simp) _ _ (Zm.out {u with drawn:=u.drawn+1} (by omega) (by rw[cf,hn.out];omega) (by have:=H.out;omega) (j_.take (l.out.later A s.out) n) (fun b' o' e=>by cases e;exact du (s.out b o rfl) A.size) (by omega) (C.out.block (A.block a E)) (by omega) (B.out.below F A)) ?_);intro N L;refine⟨trivial,?_⟩;go_frame;have z:Below w.heap.size w N:=A.trans (L.mono (show w.heap.size≤u.heap.size by omega));refine cQ (i:=13) rfl (by kernel_rfl) rfl (jh 169 #[.slice (some ⟨b,if c=n then o else o+n*32,none⟩) (n-n) (c-n),.int .i64 (d:Int),.slice (some ⟨a,0,none⟩) m j] (by go_simp) _ _ (Zl.out N (by omega) (by rw[bJ,hn.out]) (by have:=H.out;omega) (j_.drop (l.out.later z s.out) n _ (fun h=>an (by have:=hn.out;omega))) (fun b' o' e=>by cases e;exact du (s.out b o rfl) z.size) (by omega) (C.out.block (z.block a E)) (by omega) (B.out.below F z)) ?_);intro M J;refine⟨trivial,?_⟩;go_frame;have pz:w.heap.size+1≤N.heap.size:=bg fc L.size;have Z:Below w.heap.size w M:=z.trans (J.mono (by omega));have vl:w.heap.size+1≤M.heap.size:=bg pz J.size;refine cQ (i:=14) rfl (by kernel_rfl) rfl (jh 123 #[.agg (ax (fullT d (leaf (f.take n)))),.agg (ax (fullT d (leaf (f.drop n))))] (by go_simp) _ _ (yd _ _ (dj d (eO fun r G=>l.out.is r (oH G))) (dj d (eO fun r G=>l.out.is r (kM G))) M (B.out.below F Z)) ?_);intro W3 I;refine⟨trivial,?_⟩;go_frame;have i6:Below w.heap.size w W3:=Z.trans (I.mono (by omega));have re:W3.heap[w.heap.size]?=some (.cells zr 25 (0,0)):=(I.block _ (by omega)).trans ((J.block _ (by omega)).trans ((L.block _ (show w.heap.size<u.heap.size by omega)).trans gu));refine cQ (i:=15) rfl (by kernel_rfl) rfl (wp_store_row 25 _ _ rfl w.heap.size rfl _ rfl (aA _ _ _) (by rw[ah am];simp[ae]) zr 25 re (by rw[bL];simp[ae]) (fun W4 V T=>⟨trivial,?_⟩));refine dM (by kernel_rfl) ?_ _;have vD:=aa (T.below i6 bG (by have:=I.size;omega));have XI:=aa V;clear V T;simp only[Exit.then];refine X _ _ ?_;clear X K;generalize (if c=n then o else o+n*32)=q at*;go_wp2;refine fF rfl w.heap.size 0 (ae 32 (fun _=> .u8) (gX (fullT d (leaf (f.take n))) (fullT d (leaf (f.drop n))))) _ rfl (aE XI.out) cH rfl (by rw[ah am,ac]) rfl ⟨?_,vD.out⟩;rw[K5.out]
   ·have hgt:decide ((n:Int)<(p:Int))=false:=by simp;omega
    go_wp2_with (
     ((with_reducible refine ao 25 ?_);refine fX 6 cg ?_))
    have K5:=aa (Do d f p (Or.inl H.out.symm));rename_i K X;have Zm:=aa (R (f.take p) p (some ⟨b,o,none⟩) c a j m);have Zl:=aa (R (f.drop p) (n-p) (some ⟨b,if c=p then o else o+p*32,none⟩) (c-p) a j m);refine bO (fun W=>W.heap[w.heap.size]?=some (.cells zr 25 (0,0))∧Below w.heap.size w W∧w.heap.size+1≤W.heap.size) ⟨ak _ _ _ _ rfl,dt,by rw[bn];omega⟩ ?_;rintro u ⟨gu,fe,fc⟩;refine dQ (S:=fun _=>True) (by kernel_rfl) ?_;have hS:True:=trivial;have A:Below w.heap.size w {u with drawn:=u.drawn+1}:=fe.drew;refine d5 0 (.slice (some ⟨b,o,none⟩) n c) rfl (by kernel_rfl) (fun _=>by kernel_rfl) bH ‹_› ?_;go_frame;refine aJ (i:=1) (v:=(.int .i64 (p:Int))) rfl (by kernel_rfl) bH ‹_› (fun g y=>by go_simp) ?_;go_frame;refine aJ (i:=3) (v:=(.int .i64 D)) rfl (by kernel_rfl) bH ‹_› (fun g y=>by go_simp) ?_;go_frame;refine kg 5 7 (.slice (some ⟨a,0,none⟩) m j) (.slice (some ⟨b,o,none⟩) n c) rfl (by kernel_rfl) (fun _=>by kernel_rfl) bH ‹_› ?_;go_frame;refine aJ (i:=8) (v:=(.int .i64 (p:Int))) rfl (by kernel_rfl) bH ‹_› (fun g y=>by go_simp) ?_;go_frame;refine aJ (i:=10) (v:=(.int .i64 D)) rfl (by kernel_rfl) bH ‹_› (fun g y=>by go_simp) ?_;go_frame;refine d5 12 (.slice (some ⟨a,0,none⟩) m j) rfl (by kernel_rfl) (fun _=>by kernel_rfl) bH ‹_› ?_;go_frame;refine aJ (i:=4) (v:=(.int .i64 (d:Int))) rfl (by kernel_rfl) bH ‹_› (fun g y=>by go_simp) ?_;go_frame;refine aJ (i:=11) (v:=(.int .i64 (d:Int))) rfl (by kernel_rfl) bH ‹_› (fun g y=>by go_simp) ?_;go_frame;refine aJ (i:=2) (v:=(.slice (some ⟨b,o,none⟩) p c)) rfl (by kernel_rfl) bH ‹_› (fun g _=>dl g 106 25 _ _ (by rfl) fC 32 (ah am) b o n c p (by rfl) (by rfl) (by omega)) ?_;go_frame;refine aJ (i:=9) (v:=(.slice (some ⟨b,if c=p then o else o+p*32,none⟩) (n-p) (c-p))) rfl (by kernel_rfl) bH ‹_› (fun g _=>vZ g 106 25 _ _ (by rfl) fC 32 (ah am) b o n c p (by rfl) (by rfl) (by omega)) ?_;go_frame;refine cQ (i:=6) rfl (by kernel_rfl) rfl (jh 169 #[.slice (some ⟨b,o,none⟩) p c,.int .i64 (d:Int),.slice (some ⟨a,0,none⟩) m j] (by go_simp) _ _ (Zm.out {u with drawn:=u.drawn+1} (by omega) (by rw[cf,hn.out];omega) (by have:=H.out;omega) (j_.take (l.out.later A s.out) p) (fun b' o' e=>by cases e;exact du (s.out b o rfl) A.size) (by omega) (C.out.block (A.block a E)) (by omega) (B.out.below F A)) ?_);intro N L;refine⟨trivial,?_⟩;go_frame;have z:Below w.heap.size w N:=A.trans (L.mono (show w.heap.size≤u.heap.size by omega));refine cQ (i:=13) rfl (by kernel_rfl) rfl (jh 169 #[.slice (some ⟨b,if c=p then o else o+p*32,none⟩) (n-p) (c-p),.int .i64 (d:Int),.slice (some ⟨a,0,none⟩) m j] (by go_simp) _ _ (Zl.out N (by omega) (by rw[bJ,hn.out]) (by have:=H.out;omega) (j_.drop (l.out.later z s.out) p _ (fun h=>an (by have:=hn.out;omega))) (fun b' o' e=>by cases e;exact du (s.out b o rfl) z.size) (by omega) (C.out.block (z.block a E)) (by omega) (B.out.below F z)) ?_);intro M J;refine⟨trivial,?_⟩;go_frame;have pz:w.heap.size+1≤N.heap.size:=bg fc L.size;have Z:Below w.heap.size w M:=z.trans (J.mono (by omega));have vl:w.heap.size+1≤M.heap.size:=bg pz J.size;refine cQ (i:=14) rfl (by kernel_rfl) rfl (jh 123 #[.agg (ax (fullT d (leaf (f.take p)))),.agg (ax (fullT d (leaf (f.drop p))))] (by go_simp) _ _ (yd _ _ (dj d (eO fun r G=>l.out.is r (oH G))) (dj d (eO fun r G=>l.out.is r (kM G))) M (B.out.below F Z)) ?_);intro W3 I;refine⟨trivial,?_⟩;go_frame;have i6:Below w.heap.size w W3:=Z.trans (I.mono (by omega));have re:W3.heap[w.heap.size]?=some (.cells zr 25 (0,0)):=(I.block _ (by omega)).trans ((J.block _ (by omega)).trans ((L.block _ (show w.heap.size<u.heap.size by omega)).trans gu));refine cQ (i:=15) rfl (by kernel_rfl) rfl (wp_store_row 25 _ _ rfl w.heap.size rfl _ rfl (aA _ _ _) (by rw[ah am];simp[ae]) zr 25 re (by rw[bL];simp[ae]) (fun W4 V T=>⟨trivial,?_⟩));refine dM (by kernel_rfl) ?_ _;have vD:=aa (T.below i6 bG (by have:=I.size;omega));have XI:=aa V;clear V T;simp only[Exit.then];refine X _ _ ?_;clear X K;generalize (if c=p then o else o+p*32)=q at*;go_wp2;refine fF rfl w.heap.size 0 (ae 32 (fun _=> .u8) (gX (fullT d (leaf (f.take p))) (fullT d (leaf (f.drop p))))) _ rfl (aE XI.out) cH rfl (by rw[ah am,ac]) rfl ⟨?_,vD.out⟩;rw[K5.out]
def P4 (f n m d j c w) (hn:f.length=n) (P:n≤m) (q:lN m d) (k:d≤40) (F:j_ w j f) (G:∀b o,j=some ⟨b,o,none⟩→b<w.heap.size) (R:n≤c) (r:cY w):
 Calls prog 119 #[.slice j n c,.int .i64 (m:Int)] w fun e M=>e= .returned (.tuple #[.agg (ax (fullT d (leaf f))),.int .i64 0])∧Below w.heap.size w M:=by
 have E:=r.size;have J:=aa r;have N:=aa F;have H:=aa G;have I:=aa q;have V6:m≤1099511627776:=bg q.1 (nN (n:=2) (by decide) k);have O:=aa hn;clear r F G q hn;have t1:decide ((m:Int)<0)=false:=by simp
 have t2:decide ((1099511627776:Int)<(m:Int))=false:=by simp;omega
 have t3:decide ((m:Int)<(n:Int))=false:=by simp;omega
 go_enter func119,ntmps119
 go_wp2_with (first
  |refine ao 25 ?_;refine fX 4 cg ?_
   have u:=aa ((aP w.heap.size w).alloc bG (.cells zr 25));have L:=aa (ak w zr 25 w.heap.size rfl);have C:=aa (Pr d _ (J.out.below E u.out) k)
  |with_reducible refine(QJ m d _ I.out k).mono ?_
   rintro e W ⟨rfl,rfl⟩
  |with_reducible refine C.out.mono ?_
   rintro e W ⟨⟨v,B,rfl,h⟩,a⟩;obtain⟨A,y,l,Z,p⟩:=gz h (by rw[jy];omega);rw[jy]at l p;obtain⟨rfl,rfl⟩:v=some ⟨A,0,none⟩∧B=y:=by injection l with Y e2 X;exact⟨Y,X⟩
   have z:=aa a;have g:=aa (u.out.trans (a.mono (by rw[bn];omega)));have K:=aa ((a.block w.heap.size (by rw[bn];omega)).trans L.out);have D:=aa (PN d f n j c A B (d+1) W k O.out (bg P I.out.1) (N.out.later g.out H.out) (fun b o e=>du (H.out b o e) g.out.size) R (p.congr fun i Q=>(AO (d+1) i Q).symm) (by omega) (J.out.below E g.out));clear h a l p C z u L
  |with_reducible refine D.out.mono ?_
   rintro e W2 ⟨rfl,s⟩;have V:=aa (g.out.trans (s.mono g.out.size));have T:=aa ((s.block w.heap.size (aD K.out)).trans K.out);clear s D
  |refine al 25 ?_;refine aq (w0:=w) (n0:=w.heap.size) 25 _ _ rfl rfl w.heap.size rfl _ rfl (aA _ _ _) (by rw[ah am];simp[ae]) _ 25 T.out (by rw[bL];simp[ae]) (by omega) V.out (fun W9 S U _=>?_))
 exact aI rfl w.heap.size 0 (ae 32 (fun _=> .u8) (fullT d (leaf f))) _ rfl S cH rfl (by rw[ah am,ac]) rfl ⟨rfl,U⟩
def mj (a n m d g c w) (hn:a.length=n) (v:n≤m) (p:lN m d) (y:d≤40) (l:j_ w g a) (i:∀b o,g=some ⟨b,o,none⟩→b<w.heap.size) (z:n≤c) (j:cY w):
 Calls prog 49 #[.slice g n c,.int .i64 (m:Int)] w fun e r=>e= .returned (.agg (ax (fullT d (leaf a))))∧Below w.heap.size w r:=by
 have u:=j.size;have f:=aa ((aP w.heap.size w).alloc bG (.cells zr 25));have k:=aa (ak w zr 25 w.heap.size rfl);have s:=aa (P4 a n m d g c (w.alloc (.cells zr 25)) hn v p y (l.later f.out i) (fun b o e=>du (i b o e) f.out.size) z (j.below u f.out));clear j l i p hn
 go_enter func49,ntmps49
 go_wp2_with (first
  |refine ao 25 ?_;refine fX 4 cg ?_
  |with_reducible refine s.out.mono ?_
   rintro e W ⟨rfl,h⟩;have q:=aa (f.out.trans (h.mono f.out.size));have B:=aa ((h.block w.heap.size (aD k.out)).trans k.out);have F:=du (aD k.out) h.size;clear h
  |refine ao 25 ?_;refine aw rfl rfl 25 5 _ rfl rfl rfl (ax (fullT d (leaf a))) rfl rfl (zeroOf prog 25) (aG am).1 (aG am).2 (aA _ _ _) ?_
  |refine ag 25 ?_;refine ab (by rfl) _ (ay _ 25 _ (by rfl) W.heap.size (by rfl) _ _ (0,0) _ (ak W (ax (fullT d (leaf a))) 25 W.heap.size rfl) cH rfl (by rw[ah am];simp[ae])) ?_
  |refine al 25 ?_;refine aq (w0:=w) (n0:=w.heap.size) 25 _ _ rfl rfl w.heap.size rfl _ rfl (aA _ _ _) (by rw[ah am];simp[ae]) _ 25 (aR _ _ _ _ B.out) (by rw[bL];simp[ae]) (by omega) (q.out.alloc q.out.size _) (fun G A C _=>?_))
 exact fF rfl w.heap.size 0 (ae 32 (fun _=> .u8) (fullT d (leaf a))) _ rfl A cH rfl (by rw[ah am,ac]) rfl ⟨rfl,C⟩
def ic (l:List Int) (q:Nat):List (Nat→Int):=(List.range q).map (fg l)
def mu (l q):(ic l q).length=q:=by simp[ic]
def yQ (l q):ic l (q+1)=ic l q++[fg l q]:=by simp[ic,s7]
def qH (n q k:Nat) (l:List Int) (a:World):Prop:=∃O:Array Value,a.heap[n]?=some (.cells O 25 (0,0))∧O.size=32∧∀j,j<32→O[j]?=some (.int .u8 (if j<k then l.getD (32*q+j) 0 else 0))
def qH.start (n q l w) (h:w.heap[n]?=some (.cells zr 25 (0,0))):qH n q 0 l w:=by refine⟨_,h,rfl,fun j a=>?_⟩;rw[an (by omega)];show (List.replicate 32 (Value.int .u8 0)).toArray[j]?=_;rw[fu,IL,aj a]
def qH.step {n q k} {l:List Int} {O:Array Value} (h:∀j,j<32→O[j]?=some (.int .u8 (if j<k then l.getD (32*q+j) 0 else 0))) (hs:O.size=32) (a:k<32) {W} (d:W.heap[n]?=some (.cells (O.setIfInBounds k (.int .u8 (l.getD (32*q+k) 0))) 25 (0,0))):qH n q (k+1) l W:=by
 refine⟨_,d,by simp[hs],fun j b=>?_⟩;by_cases e:k=j
 ·subst e
  rw[aj (by omega)];simp[hs,a]
 ·rw[Cy e,h j b]
  by_cases c:j<k
  ·rw[aj c,aj (by omega)]
  ·rw[an c,an (by omega)]
def qH.done {n q k l W} (h:qH n q k l W) (i:k=32∨l.length≤32*q+k):W.heap[n]?=some (.cells (ax (fg l q)) 25 (0,0)):=by
 obtain⟨O,f,d,b⟩:=h
 have e:O=ax (fg l q):=by
  refine iW (kd:=fun _=> .u8) d fun j a=>?_;rw[b j a];unfold fg;rw[aj a];by_cases c:j<k
  ·rw[aj c];rfl
  ·rw[an c,List.getD,eT (by omega)];rfl
 rw[←e];exact f
def qU (l R c w) (hl:Row w R .u8 l) (df:∀b o,R=some ⟨b,o,none⟩→b<w.heap.size) (hlen:l.length≤70368744177):
 Calls prog 50 #[.slice R l.length c] w fun e w'=>(∃g m,e= .returned (.slice g (chunks l).length m)∧jU w.heap.size (.slice g (chunks l).length m) (chunks l) w')∧Below w.heap.size w w':=by
 have HW:=aa hl;have I9:=aa df;clear hl df;generalize hL:l.length=L at*;have D:=aa hL;clear hL;obtain⟨N,hN⟩:∃N,(L+31)/32=N:=⟨_,rfl⟩;have C:=aa hN;clear hN;have xe:=aa (fun W (h:Below w.heap.size w W)=>HW.out.later h)
 go_enter func50,ntmps50
 go_wp2;generalize xb:w.heap.size=a at*;have u:=aa xb;clear xb
 go_loopw [3,4] (fun v i wr=>∃q:Nat,q≤N∧i= .int .i64 ((32*q:Nat):Int)∧(∃g m,v= .slice g q m)∧jU a v (ic l q) wr∧Below a w wr) (fun _ i _=>32*N-(intOf i).toNat)
 case atStart=>exact⟨0,by omega,rfl,⟨none,0,rfl⟩,⟨rfl,Or.inl ⟨rfl,rfl⟩⟩,aP _ _⟩
 case round=>
  obtain⟨q,V,rfl,⟨g,m,rfl⟩,B,j⟩:=hrel;have p:=aa B;clear B;by_cases a8:q<N
  ·have hqL:32*q<L:=by have:=C.out;omega
   have t1:decide (((32*q:Nat):Int)<(L:Int))=true:=by simp;omega
   have alw:IntKind.i64.wrap (((32*q:Nat):Int)+32)=((32*(q+1):Nat):Int):=by rw[bP];omega
   obtain⟨bb,P,rfl,_⟩:=HW.out.cell 0 (by rw[D.out];omega);have GG:=I9.out bb P rfl;generalize G:32*q=Q at*;have M:=aa G;clear G
   go_wp2_with (
    ((with_reducible refine ao 25 ?_);refine fX 5 cg ?_))
   have hsw:=j.size;refine bO (fun W=>qH wr.heap.size q 0 l W∧jU a (.slice g q m) (ic l q) W∧Below a w W∧Below wr.heap.size wr W) ⟨qH.start _ _ _ _ (ak _ _ _ _ rfl),aU p.out dt,j.alloc (by have:=u.out;omega) _,dt⟩ ?_;have YD:a≤wr.heap.size:=by have:=u.out;omega
   have qb:=p.out.lt;generalize wr.heap.size=J at*;clear j p;rintro W1 ⟨sG,fR,dX,O4⟩;have H:=aa sG;have I:=aa fR;clear sG fR;rename_i K f
   go_loopw [6] (fun i r=>∃k:Nat,k≤32∧Q+k≤L∧i= .int .i64 (k:Int)∧qH J q k l r∧jU a (.slice g q m) (ic l q) r∧Below a w r) (fun i _=>32-(intOf i).toNat)
   case atStart=>exact⟨0,by omega,by omega,rfl,H.out,I.out,dX⟩
   case round=>
    obtain⟨k,hk,hkL,rfl,A,B,j⟩:=hrel;have p:=aa B;clear B H I dX O4;have rc:IntKind.i64.wrap ((Q:Int)+(k:Int))=((Q+k:Nat):Int):=by rw[bP];omega
    by_cases d:k<32
    ·have t2:decide ((k:Int)<32)=true:=by simp;omega
     have lj:(k:Int)<32:=by omega
     by_cases h2:Q+k<L
     ·have t3:decide (((Q+k:Nat):Int)<(L:Int))=true:=by simp;omega
      obtain⟨O,hC,Ld,E0⟩:=A;have KV:=aa hC;have Zr:=aa E0;have Nu:=aa j;clear hC E0 j
      have a_:wr.cell? ⟨bb,P+(Q+k),none⟩=some (.int .u8 (l.getD (Q+k) 0)):=by obtain⟨b',o',e,h⟩:=(xe.out wr Nu.out).cell (Q+k) (by rw[D.out];exact h2);cases e;exact h
      have zC:=aa a_;clear a_;have hyv:=aa (show l.getD (32*q+k) 0=l.getD (Q+k) 0 by rw[M.out]);generalize hy:l.getD (Q+k) 0=y at*;clear hy;generalize F:Q+k=qk at*;have agQ:=aa F;clear F
      go_wp2_with (first
       |refine aC 39 ?_;refine ab (by rfl) _ (ai _ 39 5 _ _ rfl bF 1 cR bb P L c rfl .i64 qk rfl h2 (P+qk) (by omega)) ?_
       |refine ag 5 ?_;refine dq (v:=(.int .u8 y)) zC.out sE ?_ rfl rfl rfl rfl
       |refine al 5 ?_;refine fQ 5 _ _ rfl rfl J k rfl .u8 y rfl (by kernel_rfl) O 25 KV.out (by omega) (fun W5 BZ EY=>?_))
      refine⟨⟨k+1,by omega,by have:=agQ.out;omega,by go_num,qH.step Zr.out Ld d (by rw[hyv.out];exact BZ),Dy p.out EY (fun e=>by have:=(qb _ e).2;omega),EY.below Nu.out YD (by have:=aD KV.out;omega)⟩,by simp[intOf];omega⟩
     ·have t3:decide (((Q+k:Nat):Int)<(L:Int))=false:=by simp;omega
      have Z:=aa (A.done (Or.inr (by rw[D.out,M.out];omega)));clear A;have X:=aa (yQ l q);have s:=aa (mu l q);have hq3:=M.out;clear d
      go_wp2_with (first
       |refine ag 25 ?_;refine ab (by rfl) _ (ay _ 25 _ (by rfl) J (by rfl) _ _ (0,0) _ Z.out cH rfl (by rw[ah am];simp[ae])) ?_
       |refine aV 106 ?_;refine aH rfl fun K f=>bV _ (eF _ _ rfl (fg l q) (by rfl)) (f _ _ ?_);clear f K
        have n:jU a (.slice g q m) (ic l q) (wr.alloc (.cells (ax (fg l q)) 25)):=aU p.out dt;unfold jU at n;rw[s.out]at n;have Y:=aa n;have z:a≤wr.heap.size:=by have:=j.size;have:=u.out;omega
        clear n
       |refine be .append ?_;refine aH rfl fun K f=>eN (.tmp 33) (.tmp 35) 106 25 rfl fC (.agg (rep 32)) 32 32 kC rfl (by decide) a q _ (d8 (ic l q)) rfl Y.out ⟨wr.heap.size,0,none⟩ 1 1 rfl (ae 32 (fun _=> .u8) (fg l q)) (by rw[ac]) (aE (ak _ _ _ _ rfl)) rfl cl (by omega) (by omega) (bg z (by simp)) bG (j.alloc z _) (fun v1 W2 d E z1 T S=>f _ _ ?_);clear f K
        rw[show d8 (ic l q)++ae 32 (fun _=> .u8) (fg l q)=d8 (ic l (q+1)) by rw[X.out,iC,lE]]at d;obtain⟨eE,c1,e1,U⟩:=aW d;clear U;subst e1;have my:=aa d;have sQ:=aa E
        clear T S d E)
      refine⟨⟨q+1,by omega,by go_num,⟨_,_,rfl⟩,?_,sQ.out⟩,by simp[intOf];omega⟩;unfold jU;rw[mu];exact my.out
    ·have t2:decide ((k:Int)<32)=false:=by simp;omega
     have Z:=aa (A.done (Or.inl (by omega)));clear A;have X:=aa (yQ l q);have s:=aa (mu l q);have hq3:=M.out;clear d
     go_wp2_with (first
      |refine ag 25 ?_;refine ab (by rfl) _ (ay _ 25 _ (by rfl) J (by rfl) _ _ (0,0) _ Z.out cH rfl (by rw[ah am];simp[ae])) ?_
      |refine aV 106 ?_;refine aH rfl fun K f=>bV _ (eF _ _ rfl (fg l q) (by rfl)) (f _ _ ?_);clear f K
       have n:jU a (.slice g q m) (ic l q) (wr.alloc (.cells (ax (fg l q)) 25)):=aU p.out dt;unfold jU at n;rw[s.out]at n;have Y:=aa n;have z:a≤wr.heap.size:=by have:=j.size;have:=u.out;omega
       clear n
      |refine be .append ?_;refine aH rfl fun K f=>eN (.tmp 33) (.tmp 35) 106 25 rfl fC (.agg (rep 32)) 32 32 kC rfl (by decide) a q _ (d8 (ic l q)) rfl Y.out ⟨wr.heap.size,0,none⟩ 1 1 rfl (ae 32 (fun _=> .u8) (fg l q)) (by rw[ac]) (aE (ak _ _ _ _ rfl)) rfl cl (by omega) (by omega) (bg z (by simp)) bG (j.alloc z _) (fun v1 W2 d E z1 T S=>f _ _ ?_);clear f K
       rw[show d8 (ic l q)++ae 32 (fun _=> .u8) (fg l q)=d8 (ic l (q+1)) by rw[X.out,iC,lE]]at d;obtain⟨eE,c1,e1,U⟩:=aW d;clear U;subst e1;have my:=aa d;have sQ:=aa E
       clear T S d E)
     refine⟨⟨q+1,by omega,by go_num,⟨_,_,rfl⟩,?_,sQ.out⟩,by simp[intOf];omega⟩;unfold jU;rw[mu];exact my.out
  ·have e:q=N:=by omega
   subst e;have t1:decide (((32*q:Nat):Int)<(L:Int))=false:=by simp;have:=C.out;omega
   have hge:¬(32*q<L):=by have:=C.out;omega
   generalize 32*q=Q at*;have V:(chunks l).length=q:=by rw[di,D.out,C.out]
   have pB:ic l q=chunks l:=by unfold ic chunks;rw[D.out,C.out]
   go_wp2;rw[u.out];refine cA rfl (.slice g q m) rfl rfl ⟨⟨g,m,by rw[V],?_⟩,j⟩;rw[V,←pB];exact p.out
def QL (l d c w) (hl:Row w d .u8 l) (v:∀b o,d=some ⟨b,o,none⟩→b<w.heap.size) (S:1≤l.length) (R:l.length≤32) (k:cY w):
 Calls prog 120 #[.slice d l.length c] w fun e D=>e= .returned (.agg (ax (fg l 0)))∧Below w.heap.size w D:=by
 have F:=k.size;have h:=aa ((aP w.heap.size w).alloc bG (.cells zr 25));have C:=aa (ak w zr 25 w.heap.size rfl);have i:=aa (qU l d c (w.alloc (.cells zr 25)) (hl.later h.out) (fun b o e=>du (v b o e) h.out.size) (by omega));have I:=aa k;have G:=aa (im hl.ok);have j:(chunks l).length=1:=by rw[di];omega
 have y:leaf (chunks l) 0=fg l 0:=pY l 0 (by omega);rw[←y];clear k hl v y;generalize chunks l=q at*;have f:=aa j;rw[j]at i;clear j
 go_enter func120,ntmps120
 go_wp2_with (first
  |refine ao 25 ?_;refine fX 2 cg ?_
  |with_reducible refine i.out.mono ?_
   rintro e W ⟨⟨E,r,rfl,A⟩,p⟩;obtain⟨g,s,e,Q,a⟩:=gz A (by have:=f.out;omega);have n:=aa (h.out.trans (p.mono h.out.size));have B:=aa ((p.block w.heap.size (aD C.out)).trans C.out);have z:=a.choose_spec.2.2.1;rw[f.out]at e a z;obtain⟨rfl,rfl⟩:E=some ⟨g,0,none⟩∧r=s:=by injection e with N T M;exact⟨N,M⟩
   have u:=aa (show Calls prog 49 #[.slice (some ⟨g,0,none⟩) 1 r,.int .i64 1] W _ from mj q 1 1 0 (some ⟨g,0,none⟩) r W f.out (by omega) ⟨by decide,Or.inl rfl⟩ (by omega) (a.row q (by have:=f.out;omega) (fun _ _=>rfl) G.out) (fun b o e=>by cases e;exact a.lt) z (I.out.below F n.out));clear A e a p i
  |with_reducible refine u.out.mono ?_
   rintro e V ⟨rfl,m⟩;have L:=aa (n.out.trans (m.mono n.out.size));have J:=aa ((m.block w.heap.size (aD B.out)).trans B.out);clear m u
  |refine al 25 ?_;refine aq (w0:=w) (n0:=w.heap.size) 25 _ _ rfl rfl w.heap.size rfl _ rfl (aA _ _ _) (by rw[ah am];simp[ae]) _ 25 J.out (by rw[bL];simp[ae]) (by omega) L.out (fun U H K _=>?_))
 exact fF rfl w.heap.size 0 (ae 32 (fun _=> .u8) (leaf q 0)) _ rfl H cH rfl (by rw[ah am,ac]) rfl ⟨rfl,K⟩
def fb (f:Nat→Int) (a:Nat):Nat→Int:=fun j=>f (a+j)
def ff (f:Nat→Int) (a b:Nat):List Int:=(List.range b).map fun j=>f (a+j)
def az (f b a):(ff f b a).length=a:=by simp[ff]
def n9 (f a b j) (h:j<b):(ff f a b).getD j 0=f (a+j):=by simp[ff,List.getD,h]
def eM {f a b} (h:∀j,j<b→mD (f (a+j))):∀m∈ff f a b,CK.ok .u8 m:=fun m c=>by obtain⟨j,d,rfl⟩:=ft.1 c;exact h j (by simpa using d)
def gr {f:Nat→Int} {N a b:Nat} {kd:Nat→CK} (e:∀j,j<N→(kd j).ok (f j)) (c:∀j,j<b→kd (a+j)= .u8) (g:a+b≤N):∀j,j<b→mD (f (a+j)):=fun j d=>by have:=e (a+j) (by omega);rw[c j d]at this;exact this
structure Box (n N:Nat) (kd:Nat→CK) (f:Nat→Int) (t:TypeId) (w W:World):Prop where
 hX:W.heap[n]?=some (.cells (ae N kd f).toArray t (0,0))
 hB:Below n w W
section
variable {n N:Nat} {kd:Nat→CK} {f:Nat→Int} {t:TypeId} {w W W':World}
theorem Box.cell (h:Box n N kd f t w W) {j} (a:j<N):W.cell? ⟨n,j,none⟩=some ((kd j).mk (f j)):=by rw[br W n j _ _ _ h.hX,fu,aN _ _ _ _ a]
theorem Box.flag (h:Box n N kd f t w W) {j} (b:j<N) (a:kd j= .bool):W.cell? ⟨n,j,none⟩=some (.bool (!decide (f j=0))):=by rw[h.cell b,a];simp[CK.mk]
theorem Box.row (h:Box n N kd f t w W) (a b) (d:∀j,j<b→kd (a+j)= .u8) (g:a+b≤N) (e:∀j,j<N→(kd j).ok (f j)):Row W (some ⟨n,a,none⟩) .u8 (ff f a b):=by refine⟨fun i c=>⟨n,a,rfl,?_⟩,eM (gr e d g)⟩;rw[az]at c;rw[h.cell (by omega),d i c,n9 _ _ _ _ c]
theorem Box.sub (h:Box n N kd f t w W) (a b d) (g:∀j,j<b→kd (a+j)=d j) (i:a+b≤N):W.rangeAt n a (ae b d (fb f a)):=fun j v c=>by
 have e:j<b:=by have:=(io.1 c).1;rwa [ac]at this
 rw[aN _ _ _ _ e]at c;rw[h.cell (by omega),g j e];exact c
theorem Box.later (h:Box n N kd f t w W) (a:Below (n+1) W W'):Box n N kd f t w W':=⟨(a.block n (by omega)).trans h.hX,h.hB.trans (a.mono (by omega))⟩
end
def d7 {f:Nat→Int} {N a b:Nat} {kd ii:Nat→CK} (e:∀j,j<N→(kd j).ok (f j)) (c:∀j,j<b→kd (a+j)=ii j) (g:a+b≤N):∀j,j<b→(ii j).ok (fb f a j):=fun j d=>by have:=e (a+j) (by omega);rw[c j d]at this;exact this
def lh {a e v l w} (h:bc a v l w) (j:e≤a):bc e v l w:=by
 refine⟨h.1,?_⟩;rcases h.2 with b|⟨g,d,c,b,k,i⟩
 ·exact Or.inl b
 ·exact Or.inr ⟨g,d,c,b,by omega,i⟩
structure cG (va:Option Addr) (c:Nat) (m:List Int) (W:World):Prop where
 row:Row W va .u8 m
 nil:va=none→c=0
 cap:m.length≤c
 low:∀b o,va=some ⟨b,o,none⟩→b<W.heap.size
def cG.later {a c m W W'} (h:cG a c m W) (d:Below W.heap.size W W'):cG a c m W':=⟨h.row.later d,h.nil,h.cap,fun b o e=>du (h.low b o e) d.size⟩
def cG.b_ {d n c i m W} (h:bc d (.slice i n c) m W) (k:∀x∈m,CK.ok .u8 x) (hn:i=none→c=0):cG i c m W:=by
 obtain⟨z,B,e,j,p⟩:=h.row k;injection e with u A s
 subst u;subst s;refine⟨j,hn,p,fun b o e=>?_⟩;rcases h.2 with⟨a,r⟩|⟨g,y,v,a,r,q,_⟩
 ·injection a with a
  rw[a]at e;cases e
 ·injection a with a
  rw[a]at e;cases e;exact aD q
structure fA (n N:Nat) (kd:Nat→CK) (f:Nat→Int) (t:TypeId) (l:List Int) (w W:World):Prop extends Box n N kd f t w W where
 hO:u_ (n+1) l W
section
variable {n N:Nat} {kd:Nat→CK} {f:Nat→Int} {t:TypeId} {l:List Int} {w W W':World}
theorem fA.step {a} (h:fA n N kd f t l w W) (c:u_ (n+1) a W') (b:Below (n+1) W W'):fA n N kd f t a w W':=⟨h.toBox.later b,c⟩
theorem u_.later {b} (h:u_ b l W) (a:Below W.heap.size W W'):u_ b l W':=by obtain⟨v,c,d⟩:=h;exact⟨v,(a.block b (aD c)).trans c,bc.later d a⟩
theorem fA.later (h:fA n N kd f t l w W) (a:Below W.heap.size W W'):fA n N kd f t l w W':=⟨h.toBox.later (a.mono (by have:=aD h.hX;omega)),h.hO.later a⟩
theorem fA.u64 (h:fA n N kd f t l w W) (m) (a:l.length≤70368744170000):
 Calls prog 83 #[.pointer (some ⟨n+1,0,none⟩),.int .u64 m] W fun e b=>e= .returned (.tuple #[])∧fA n N kd f t (l++fH m) w b:=
 (Wy (n+1) l m W h.hO a).mono fun _ _ ⟨g,d,c⟩=>⟨g,h.step d c⟩
theorem fA.app (h:fA n N kd f t l w W) (m k a c) (hs:cG a c m W) (g:m.length=k) (b:l.length+k≤70368744170000):
 Calls prog 25 #[.pointer (some ⟨n+1,0,none⟩),.slice a k c] W fun e d=>e= .returned (.tuple #[])∧fA n N kd f t (l++m) w d:=by
 subst g;exact(P8 (n+1) l m a c W h.hO hs.row hs.nil (by omega)).mono fun _ _ ⟨o,j,i⟩=>⟨o,h.step j i⟩
theorem fA.bytes (h:fA n N kd f t l w W) (c a) (k:∀j,j<a→kd (c+j)= .u8) (m:c+a≤N) (i:∀j,j<N→(kd j).ok (f j)) (d:l.length+a≤70368744170000):
 Calls prog 25 #[.pointer (some ⟨n+1,0,none⟩),.slice (some ⟨n,c,none⟩) a a] W fun e g=>e= .returned (.tuple #[])∧fA n N kd f t (l++ff f c a) w g:=
 h.app _ a _ _ ⟨h.toBox.row c a k m i,(fun e=>by cases e),by rw[az];exact cD _,fun b o e=>by cases e;exact aD h.hX⟩ (az _ _ _) d
theorem fA.done (h:fA n N kd f t l w W) (S) (g:l.length=S) (d:S≤70368744170000):
 Calls prog 31 #[.pointer (some ⟨n+1,0,none⟩)] W fun e b=>(∃a c,e= .returned (.tuple #[.slice a S c,.int .i64 0])∧(a=none→c=0)∧bc n (.slice a S c) l b)∧Below n w b:=by
 subst g;exact(T2 (n+1) l W h.hO (by omega)).mono fun _ _ ⟨⟨a,c,m,k,j⟩,i⟩=>⟨⟨a,c,m,k,lh j (by omega)⟩,h.hB.trans (i.mono (by omega))⟩
theorem fA.begin (a:(w.alloc (.cells (ae N kd f).toArray t)).heap[n]?=some (.cells (ae N kd f).toArray t (0,0))) (hn:w.heap.size=n):fA n N kd f t [] w ((w.alloc (.cells (ae N kd f).toArray t)).alloc (.cells (zq (.slice none 0 0)) 65)):=by subst hn;exact⟨⟨aR _ _ _ _ a,dt.alloc (by simp) _⟩,⟨_,ak _ _ _ _ (by simp),bc.nil _ _⟩⟩
end
def C6:(prog.info? 65).map (fun i=>(i.zero,i.size))=some (some (.agg (zq (.slice none 0 0))),5):=by kernel_rfl
structure db (n N:Nat) (kd:Nat→CK) (f:Nat→Int) (t:TypeId) (rs:List (Nat→Int)) (w W:World):Prop extends Box n N kd f t w W where
 hR:W.heap[n+1]?=some (.cells zr 25 (0,0))
 hH:xQ (n+1+1) rs W
 hT:cY W
 h3:3≤n
section
variable {n N:Nat} {kd:Nat→CK} {f:Nat→Int} {t:TypeId} {rs:List (Nat→Int)} {w W W':World}
theorem db.step {b} (h:db n N kd f t rs w W) (c:xQ (n+1+1) b W') (a:Below (n+1+1) W W'):db n N kd f t b w W':=⟨h.toBox.later (a.mono (by omega)),(a.block (n+1) (by omega)).trans h.hR,c,h.hT.below (by have:=h.h3;omega) a,h.h3⟩
theorem me.later {d b} (h:me d b rs W) (a:Below W.heap.size W W'):me d b rs W':=by obtain⟨g,v,c,e⟩:=h;exact⟨g,v,(a.block b (aD c)).trans c,aU e a⟩
theorem db.later (h:db n N kd f t rs w W) (a:Below W.heap.size W W'):db n N kd f t rs w W':=h.step (h.hH.later a) (a.mono h.hH.size|>.mono (by omega))
theorem db.u64 (h:db n N kd f t rs w W) (m) (a:rs.length≤1000):
 Calls prog 84 #[.pointer (some ⟨n+1+1,0,none⟩),.int .u64 m] W fun e b=>e= .returned (.tuple #[])∧db n N kd f t (rs++[je m]) w b:=
 (JI (n+1+1) rs m W h.hH (by omega)).mono fun _ _ ⟨g,d,c⟩=>⟨g,h.step d c⟩
theorem db.put (h:db n N kd f t rs w W) (r) (c:fY r) (a:rs.length≤1000):
 Calls prog 85 #[.pointer (some ⟨n+1+1,0,none⟩),.agg (ax r),.int .i64 0] W fun e b=>e= .returned (.tuple #[])∧db n N kd f t (rs++[r]) w b:=
 (C8 (n+1+1) rs r W h.hH c (by omega)).mono fun _ _ ⟨i,g,d⟩=>⟨i,h.step g d⟩
def uU (d:Nat) (l:List Int):Nat→Int:=fullT d (leaf (chunks l))
theorem db.bytes (h:db n N kd f t rs w W) (b a d) (p:∀j,j<a→kd (b+j)= .u8) (s:b+a≤N) (o:∀j,j<N→(kd j).ok (f j)) (c:1≤a) (g:a≤100000) (r:lN ((a+31)/32) d) (q:d≤40) (i:rs.length≤1000):
 Calls prog 90 #[.pointer (some ⟨n+1+1,0,none⟩),.slice (some ⟨n,b,none⟩) a a] W fun e k=>e= .returned (.tuple #[])∧db n N kd f t (rs++[uU d (ff f b a)]) w k:=by
 have m:=h.toBox.row b a p s o;have hl:=az f b a;unfold uU;generalize ff f b a=l at*;subst hl;exact(wN (n+1+1) d rs l _ l.length W h.hH h.hT (by have:=h.h3;omega) m bG c (by omega) r q (by omega)).mono fun _ _ ⟨c,g,u⟩=>⟨c,h.step g u⟩
theorem db.done (h:db n N kd f t rs w W) (d) (g:lN rs.length d) (hn:1≤rs.length) (c:d≤40):
 Calls prog 39 #[.pointer (some ⟨n+1+1,0,none⟩)] W fun e a=>e= .returned (.tuple #[.agg (ax (fullT d (leaf rs))),.int .i64 0])∧Below n w a∧a.heap[n+1]?=some (.cells zr 25 (0,0)):=
 (zT (n+1+1) d rs W h.hH h.hT (by have:=h.h3;omega) g hn c).mono fun _ _ ⟨i,b⟩=>⟨i,h.hB.trans (b.mono (by omega)),(b.block (n+1) (by omega)).trans h.hR⟩
theorem db.begin (d:(w.alloc (.cells (ae N kd f).toArray t)).heap[n]?=some (.cells (ae N kd f).toArray t (0,0))) (hn:w.heap.size=n) (a:cY w):
 db n N kd f t [] w (((w.alloc (.cells (ae N kd f).toArray t)).alloc (.cells zr 25)).alloc (.cells (nT (.slice none 0 0)) 108)):=by
 subst hn;have b:Below w.heap.size w (((w.alloc (.cells (ae N kd f).toArray t)).alloc (.cells zr 25)).alloc (.cells (nT (.slice none 0 0)) 108)):=(dt.alloc (by simp) _).alloc (by simp;omega) _;exact⟨⟨aR _ _ _ _ (aR _ _ _ _ d),b⟩,aR _ _ _ _ (ak _ _ _ _ (by simp)),⟨(fun r c=>by simp at c),_,ak _ _ _ _ (by simp),rfl,Or.inl ⟨rfl,rfl⟩⟩,a.below a.size b,a.size⟩
end
def jw:(prog.info? 108).map (fun i=>(i.zero,i.size))=some (some (.agg (nT (.slice none 0 0))),2):=by kernel_rfl
def dB {a b:List Int} (ha:∀m∈a,CK.ok .u8 m) (d:∀m∈b,CK.ok .u8 m):∀m∈a++b,CK.ok .u8 m:=fun m c=>(iD.1 c).elim (ha m) (d m)
def rv {f:Nat→Int} {N off:Nat} {a:Nat→CK} (c:∀j,j<N→(a j).ok (f j)) (b:∀j,j<32→a (off+j)= .u8) (d:off+32≤N):fY (fb f off):=gr c b d
def jg {d l} (h:∀m∈l,CK.ok .u8 m):fY (uU d l):=dj d (eO (im h))
def lw:∀r∈([]:List (Nat→Int)),fY r:=fun r a=>by simp at a
def dk {a l} (ha:fY a) (hl:∀r∈l,fY r):∀r∈a::l,fY r:=fun r b=>by
 rcases mF.1 b with h|h
 ·rw[h];exact ha
 ·exact hl r h
def jB (n:Int):List Int:=(List.range 4).map (lL n)
def cC (n):(jB n).length=4:=rfl
def rt (n):∀m∈jB n,CK.ok .u8 m:=fun m a=>by obtain⟨j,_,rfl⟩:=ft.1 a;exact Th n j
structure Ow where
 e:TypeId
 sz:Nat
 v:Value
 n:Nat
 cs:List Value
structure pm (base:Nat) (xs:List Ow) (w:World):Prop where
 own:∀(i:Nat) (x:Ow),xs[i]?=some x→w.ownsRow base x.e x.sz x.v x.n x.cs
 RJ:∀(i j:Nat) (x y:Ow),i≠j→xs[i]?=some x→xs[j]?=some y→∀k,x.v.ownBlock=some k→y.v.ownBlock≠some k
def pm.later {a b w c} (h:pm a b w) (e:Below w.heap.size w c):pm a b c:=⟨fun i x d=>aU (h.own i x d) e,h.RJ⟩
def pm.apart {a b c w d} (h:pm a c w) (e:aL b w d) (g:b<a):pm a c d:=⟨fun i x f=>de (h.own i x f) e g,h.RJ⟩
def pm.uW {a lS e w} (h:pm a e w) (l:lS≤a):pm lS e w:=by
 refine⟨fun i x j=>?_,h.RJ⟩;have f:=h.own i x j;refine⟨f.1,?_⟩;rcases f.2 with b|⟨g,d,c,b,m,k⟩
 ·exact Or.inl b
 ·exact Or.inr ⟨g,d,c,b,by omega,k⟩
def G1 {c:Type} (b:List c) (i j a y) (h:(b.set i a)[j]?=some y):(j=i∧y=a)∨(j≠i∧b[j]?=some y):=by
 rw[Fe]at h;by_cases e:i=j
 ·subst e
  rw[aj rfl]at h;split at h
  ·exact Or.inl ⟨rfl,(s5 h).symm⟩
  ·cases h
 ·rw[an e]at h
  exact Or.inr ⟨fun d=>e d.symm,h⟩
def pm.set {a o w W} (h:pm a o w) (i) (x b:Ow) (H:o[i]?=some x) (P:W.ownsRow a b.e b.sz b.v b.n b.cs) (L:∀k,k<w.heap.size→some k≠x.v.ownBlock→W.heap[k]?=w.heap[k]?) (l:b.v.ownBlock=x.v.ownBlock∨b.v.ownBlock=some w.heap.size):pm a (o.set i b) W:=by
 have m:∀(j:Nat) (y:Ow),j≠i→o[j]?=some y→∀k,y.v.ownBlock=some k→b.v.ownBlock≠some k:=fun j y r c k f e=>by
  rcases l with l|l
  ·exact h.RJ j i y x r c H k f (l▸e)
  ·rw[l]at e
   cases e;have:=((h.own j y c).lt _ f).2;omega
 refine⟨fun j y c=>?_,fun E D B A G O d k f=>?_⟩
 ·rcases G1 _ _ _ _ _ c with⟨_,rfl⟩|⟨r,c⟩
  ·exact P
  ·have F:=h.own j y c
   refine⟨F.1,?_⟩;rcases F.2 with d|⟨g,z,u,d,N,I,M⟩
   ·exact Or.inl d
   ·refine Or.inr ⟨g,z,u,d,N,(L g (Cz.1 I).1 (fun e=>?_)).trans I,M⟩
    exact h.RJ j i y x r c H g (by rw[d];rfl) e.symm
 ·rcases G1 _ _ _ _ _ O with⟨s,K⟩|⟨s,C⟩
  ·rcases G1 _ _ _ _ _ d with⟨p,_⟩|⟨p,q⟩
   ·exact absurd (s.trans p.symm) G
   ·intro e
    subst K;exact m D A p q k e f
  ·rcases G1 _ _ _ _ _ d with⟨_,J⟩|⟨p,q⟩
   ·subst J
    exact m E B s C k f
   ·exact h.RJ E D B A G C q k f
def qA (w:World) (c:Option Addr) (a:List Value):Prop:=∀j u,a[j]?=some u→∃b o,c=some ⟨b,o,none⟩∧w.cell? ⟨b,o+j,none⟩=some u
def qA.G8 {w d k m} (h:Row w d k m):qA w d (m.map k.mk):=fun j u a=>by
 rw[Ax]at a;cases c:m[j]? with
 |none=>simp[c]at a
 |some x=>have f:j<m.length:=(io.1 c).1;obtain⟨b,o,e,g⟩:=h.cell j f;refine⟨b,o,e,?_⟩;rw[g];simp[c,List.getD]at a ⊢;exact a
def qA.block {w b t c cs} (h:w.heap[b]?=some (.cells cs t c)):qA w (some ⟨b,0,none⟩) cs.toList:=fun j u a=>by refine⟨b,0,rfl,?_⟩;rw[br w b (0+j) _ _ _ h,bY];simpa using a
def qA.range {w b o a} (h:w.rangeAt b o a):qA w (some ⟨b,o,none⟩) a:=fun j u c=>⟨b,o,rfl,h j u c⟩
def oU {base sz n c e va cs w} (h:w.ownsRow base e sz (.slice va n c) n cs):qA w va cs:=fun j u a=>by
 rcases h.2 with⟨_,b⟩|⟨g,i,f,b,_⟩
 ·have d:=h.1
  rw[b,E8]at d;rw[Ay d]at a;cases a
 ·cases b
  refine⟨g,0,rfl,?_⟩;rw[bY,h.cellAt j (by rw[←h.1];exact(io.1 a).1)];exact a
def BN {a f n c:Nat} {e:TypeId} {d:Option Addr} {k:List Value} {w:World} (h:w.ownsRow a e f (.slice d n c) n k):d=none→c=0∧n=0:=fun j=>by
 rcases h.2 with⟨b,i⟩|⟨g,m,l,b,_⟩
 ·cases b;exact⟨rfl,i⟩
 ·cases b;cases j
def xR {P:Program} {o:Oper} {a:Act} {w w0:World} {K:Act→World→Prop} {Q:Exit→Act→World→Prop} {n0:Nat} (s x:Operand) (t e:TypeId)
 (N:o.op= .call {callee:= .builtin .append,args:=#[s,x],argTypes:=#[t,t]}) (C:P.underlying t=some (.slice e)) (z:Value) (d bytes:Nat)
 (hi:(P.info? e).map (fun i=>(i.zero,i.size,i.bytes))=some (some z,d,bytes)) (X:z.cells.size=d) (fL:0<d)
 (f:Nat) (q:List Ow) (i n:Nat) (v:Value) (F:List Value) (E:q[i]?=some ⟨e,d,v,n,F⟩) (hs:a.eval s=v) (H:pm f q w) (B:Option Addr) (m c:Nat) (M:a.eval x= .slice B m c) (Z:B=none→c=0∧m=0) (g:List Value) (hl:g.length=m*d)
 (Fq:qA w B g) (y:∀u∈g,u.oneCell'=true) (V:n+m≤70368744177664) (CN:(n+m)*bytes≤140737488355328) (D:f≤w.heap.size) (O:n0≤f) (S:Below n0 w0 w)
 (h:∀l p W,(l=none→p=0)→pm f (q.set i ⟨e,d,.slice l (n+m) p,n+m,F++g⟩) W→Below n0 w0 W→f≤W.heap.size→(∀k,k<w.heap.size→some k≠v.ownBlock→W.heap[k]?=w.heap[k]?)→w.heap.size≤W.heap.size→K (a.put o.dst (.slice l (n+m) p)) W):o.wp P a w K Q:=by
 obtain⟨L,R,Y,pz,aS⟩:=info_parts hi;have r:=H.own i _ E;simp only at r;cases B with
 |none=>
  obtain⟨rfl,rfl⟩:=Z rfl;have ws:g=[]:=Ay (by simpa using hl);subst ws;obtain⟨l,p,J,G⟩:=aW r;have Ew:=St (P:=P) (w:=w) f t o.type e L d C R v n _ r;unfold Oper.wp execOp;simp only[N,resolve,invoke,builtin,dN,Sem.run_pure,Result.andThen_ok,NG,qC,Av,hs,M,Ew]
  have xp:q.set i ⟨e,d,v,n,F⟩=q:=by
   apply mG;intro j;rw[Fe];by_cases U:i=j
   ·subst U
    rw[aj rfl,aj (io.1 E).1,E]
   ·rw[an U]
  subst J;exact h l p w G (by simp only[Nat.add_zero,fZ];rw[xp];exact H) S D (fun _ _ _=>rfl) bG
 |some ad=>
  obtain⟨v',W,hr,T,A,_,g4⟩:=run_append_own_at (P:=P) w f t o.type e L z d bytes C R Y pz aS X fL v n F r ad m c g hl (fun j u C=>by
   obtain⟨b,o,e,hc⟩:=Fq j u C;cases e;rw[Fl]
   exact hc) y (by unfold maxLen;omega) CN D
  obtain⟨l,p,J,G⟩:=aW T;subst J;unfold Oper.wp execOp;simp only[N,resolve,invoke,builtin,dN,Sem.run_pure,Result.andThen_ok,NG,qC,Av,hs,M,hr];exact h l p W G (H.set i _ _ E T (fun k y I=>A.block k y I) g4) (S.grown A (bg O D) (fun k hk=>bg O (LL r k hk))) (bg D A.size) (fun k y I=>A.block k y I) A.size
def jb {P p g o a w w0 Q n0} (M:o.guard=none) (s x t e) (I:o.op= .call {callee:= .builtin .append,args:=#[s,x],argTypes:=#[t,t]}) (F:P.underlying t=some (.slice e)) (z b bytes) (L:(P.info? e).map (fun i=>(i.zero,i.size,i.bytes))=some (some z,b,bytes)) (C:z.cells.size=b) (G:0<b) (d r i n v B) (S:r[i]?=some ⟨e,b,v,n,B⟩) (hs:a.eval s=v) (H:pm d r w) (y m c) (D:a.eval x= .slice y m c) (E:y=none→c=0∧m=0) (f) (hl:f.length=m*b) (J:qA w y f) (A:∀u∈f,u.oneCell'=true) (q:n+m≤70368744177664) (N:(n+m)*bytes≤140737488355328) (O:d≤w.heap.size) (K:n0≤d) (R:Below n0 w0 w) (h:∀j l W,(j=none→l=0)→pm d (r.set i ⟨e,b,.slice j (n+m) l,n+m,B++f⟩) W→Below n0 w0 W→d≤W.heap.size→(∀k,k<w.heap.size→some k≠v.ownBlock→W.heap[k]?=w.heap[k]?)→w.heap.size≤W.heap.size→wpList P p Q g (a.put o.dst (.slice j (n+m) l)) W):wpList P p Q (o::g) a w:=aH M fun _ T=>xR s x t e I F z b bytes L C G d r i n v B S hs H y m c D E f hl J A q N O K R fun j l W A Z Y X V U=>T _ _ (h j l W A Z Y X V U)
def Ps {P:Program} {o:Oper} {a:Act} {w:World} {K:Act→World→Prop} {Q:Exit→Act→World→Prop} (q:TypeId) (x y:Operand) (I:o.op= .store q x y) (d:Nat) (p:List Ow) (i n g c k:Nat) (e:TypeId) (b:Nat) (l:List Value) (C:p[i]?=some ⟨e,b,.slice (some ⟨g,0,none⟩) n c,n,l⟩) (H:pm d p w)
 (G:a.eval x= .pointer (some ⟨g,k,none⟩)) (u:Value) (F:a.eval y=u) (s:simpleV u=true) (E:(P.info? q).map (·.size)=some 1) (T:k<l.length)
 (h:∀W,pm d (p.set i ⟨e,b,.slice (some ⟨g,0,none⟩) n c,n,l.set k u⟩) W→aL g w W→K (a.put o.dst undef) W):o.wp P a w K Q:=by
 have m:=H.own i _ C;simp only at m;have S:=m.stored k u;rcases m.2 with⟨r,_⟩|⟨U,V,f,r,M,J,v,A,L,B⟩
 ·cases r
 ·cases r
  have z:k<f.size:=by
   have:l.length≤f.size:=by rw[←B,cf,Array.length_toList];exact NF _ _
   omega
  refine bt q x y I g k G u F s E f e J z fun W N D=>h W ?_ D
  have hW:W.ownsRow d e b (.slice (some ⟨g,0,none⟩) n c) n (l.set k u):=by refine⟨by simpa using m.1,Or.inr ⟨g,c,_,rfl,M,N,v,A,by simpa using L,?_⟩⟩;rw[Array.toList_setIfInBounds,←B,List.take_set]
  exact H.set i _ ⟨e,b,.slice (some ⟨g,0,none⟩) n c,n,l.set k u⟩ C hW (fun j R O=>D.block j R (fun e=>O (by rw[e];rfl))) (Or.inl rfl)
def Uv:(prog.info? 5).map (fun i=>(i.zero,i.size))=some (some (.int .u8 0),1):=by kernel_rfl
def D3 {f o} (w e) (i:o.op= .buildSlice 39 4 e) (a b c d) (h:(e.toList.map fun p=>(p.1,f p.2))=[(0,.int .u8 a),(1,.int .u8 b),(2,.int .u8 c),(3,.int .u8 d)]):
 (execOp f o).run prog w= .ok (.value (.slice (some ⟨w.heap.size,0,none⟩) 4 4)) (w.alloc (.cells #[.int .u8 a,.int .u8 b,.int .u8 c,.int .u8 d] 5)):=
 bj w 39 5 4 e i bF (.int .u8 0) 1 Uv (by decide) (by decide) [.int .u8 a,.int .u8 b,.int .u8 c,.int .u8 d] rfl h (fun u g=>by
  simp only[mF,vJ,vH]at g
  rcases g with rfl|rfl|rfl|rfl<;>rfl)
def Qh (n):(#[.int .u8 (lL n 0),.int .u8 (lL n 1),.int .u8 (lL n 2),.int .u8 (lL n 3)]:Array Value)=((jB n).map (Value.int .u8)).toArray:=rfl
def FJ (n w):
 Calls prog 111 #[.int .i64 n] w fun e g=>e= .returned (.slice (some ⟨w.heap.size,0,none⟩) 4 4)∧g=w.alloc (.cells ((jB n).map (Value.int .u8)).toArray 5):=by
 have k:IntKind.u8.wrap n=lL n 0:=by rw[AB];unfold lL;omega
 have j:IntKind.u8.wrap (n/256)=lL n 1:=by rw[AB];rfl
 have i:IntKind.u8.wrap (n/65536)=lL n 2:=by rw[AB];rfl
 have h:IntKind.u8.wrap (n/16777216)=lL n 3:=by rw[AB];rfl
 rw[←Qh];generalize lL n 0=a at*;generalize lL n 1=b at*;generalize lL n 2=c at*;generalize lL n 3=d at*
 go_enter func111,ntmps111
 go_wp2_with (
  ((with_reducible refine aV 39 ?_);refine aH rfl fun K f=>bV _ (D3 _ _ (by rfl) a b c d (by rfl)) (f _ _ ?_);clear f K))
 exact cA rfl _ rfl rfl ⟨rfl,rfl⟩
def layK (H:Nat) (b:List Nat) (a:List (List Int)):Nat→List Int×List Int
 |0=>([],[])
 |k+1=>if b.getD k 0=0 then((layK H b a k).1++jB ((H+(layK H b a k).2.length:Nat):Int),(layK H b a k).2++a.getD k [])else((layK H b a k).1++a.getD k [],(layK H b a k).2)
def Ip (H:Nat) (a:List Nat) (b:List (List Int)) (k:Nat):Nat:=(layK H a b k).1.length+(layK H a b k).2.length
def Qi (H a b k):Ip H a b k≤Ip H a b (k+1):=by
 unfold Ip;simp only[layK];split
 ·simp only[bM];omega
 ·simp only[bM];omega
def Qj (H a b k n) (h:k≤n):Ip H a b k≤Ip H a b n:=by
 induction n with
 |zero=>obtain rfl:k=0:=by omega
        exact cD _
 |succ n c=>
  by_cases e:k=n+1
  ·subst e;exact cD _
  ·exact bg (c (by omega)) (Qi H a b n)
def eS (a:List Nat) (b:List (List Int)):List Int:=(layK (headN a) a b a.length).1++(layK (headN a) a b a.length).2
def xj (v:Value) (l:List Int):Ow:=⟨5,1,v,l.length,l.map (Value.int .u8)⟩
def yr:(prog.info? 5).map (fun i=>(i.zero,i.size,i.bytes))=some (some (.int .u8 0),1,1):=by kernel_rfl
def BI {l:List Int}:∀u∈l.map (Value.int .u8),u.oneCell'=true:=fun u a=>by obtain⟨n,_,rfl⟩:=ft.1 a;rfl
def pm.SS {b c v r a o p q W} (h:pm b ([xj v o,xj r q].set 0 ⟨5,1,.slice a (o.length+p.length) c,o.length+p.length,o.map (Value.int .u8)++p.map (Value.int .u8)⟩) W):pm b [xj (.slice a (o++p).length c) (o++p),xj r q] W:=by
 have e:([xj v o,xj r q].set 0 ⟨5,1,.slice a (o.length+p.length) c,o.length+p.length,o.map (Value.int .u8)++p.map (Value.int .u8)⟩)=[xj (.slice a (o++p).length c) (o++p),xj r q]:=by simp[xj]
 rw[e]at h;exact h
def pm.aei {b c v r a o p q W} (h:pm b ([xj v o,xj r q].set 1 ⟨5,1,.slice a (q.length+p.length) c,q.length+p.length,q.map (Value.int .u8)++p.map (Value.int .u8)⟩) W):pm b [xj v o,xj (.slice a (q++p).length c) (q++p)] W:=by
 have e:([xj v o,xj r q].set 1 ⟨5,1,.slice a (q.length+p.length) c,q.length+p.length,q.map (Value.int .u8)++p.map (Value.int .u8)⟩)=[xj v o,xj (.slice a (q++p).length c) (q++p)]:=by simp[xj]
 rw[e]at h;exact h
def pm.agx (b w):pm b [xj (.slice none 0 0) [],xj (.slice none 0 0) []] w:=by
 have c:∀(i:Nat) (x:Ow),[xj (.slice none 0 0) [],xj (.slice none 0 0) []][i]?=some x→x=xj (.slice none 0 0) []:=fun i x a=>by
  match i,a with
  |0,a=>exact(s5 a).symm
  |1,a=>exact(s5 a).symm
 refine⟨fun i x a=>?_,fun i j x y _ a _ k d=>?_⟩
 ·rw[c i x a];exact⟨rfl,Or.inl ⟨rfl,rfl⟩⟩
 ·rw[c i x a]at d;cases d
def TO {w k m} (h:Row w none k m):m.length=0:=by
 cases m with
 |nil=>rfl
 |cons y a=>obtain⟨b,o,e,_⟩:=h.cell 0 (by simp);cases e
def Jz (u m b a n cp M w) (hP:nd u b w) (hZ:et m a w) (hp:b.length=n) (hn:a.length=n) (C:1≤n) (xg:n≤64) (hz:∀z∈a,z≤65536) (pr:∀i,i<n→a.getD i 0≠0→(b.getD i []).length=a.getD i 0) (K:Ip (headN a) a b n≤1099511627776):
 Calls prog 48 #[.slice (some ⟨u,0,none⟩) n cp,.slice (some ⟨m,0,none⟩) n M] w fun e j=>(∃A c,e= .returned (.tuple #[.slice A (eS a b).length c,.int .i64 0])∧(A=none→c=0)∧bc w.heap.size (.slice A (eS a b).length c) (eS a b) j)∧Below w.heap.size w j:=by
 have hS:=aa (pS m a n M w hZ hn C xg hz);have hH:=aa (yu m a n M w hZ hn xg hz);have ahf:=tV hz;rw[hn]at ahf;have mL:=aa (fun i (hi:i<n)=>hZ.cell i (by omega));have VM:=aa (fun i (hi:i<n)=>hP.cell i (by omega));have qv:m<w.heap.size:=aD hZ;have O:u<w.heap.size:=by obtain⟨_,h,_⟩:=hP;exact aD h
 have SQ:=aa pr;have hU:eS a b=(layK (headN a) a b n).1++(layK (headN a) a b n).2:=by unfold eS;rw[hn]
 have pj:=aa (fun k=>show layK (headN a) a b (k+1)=if a.getD k 0=0 then((layK (headN a) a b k).1++jB ((headN a+(layK (headN a) a b k).2.length:Nat):Int),(layK (headN a) a b k).2++b.getD k [])else((layK (headN a) a b k).1++b.getD k [],(layK (headN a) a b k).2)from rfl);have E:=aa (fun k (hk:k≤n)=>show (layK (headN a) a b k).1.length+(layK (headN a) a b k).2.length≤1099511627776 from bg (Qj _ _ _ k n hk) K);have RH:=aa (show layK (headN a) a b 0=([],[])from rfl);generalize eS a b=U at*;generalize layK (headN a) a b=J at*;generalize headN a=H at*;have P:=aa hU;clear hP hZ hp hn hz pr K hU
 go_enter func48,ntmps48
 go_wp2_with (first
  |with_reducible refine hS.out.mono ?_
   rintro e W ⟨rfl,rfl⟩;clear hS
  |with_reducible refine hH.out.mono ?_
   rintro e W ⟨rfl,rfl⟩
   clear hH)
 go_loopw [6,7,9] (fun v r i wr=>∃k:Nat,k≤n∧i= .int .i64 (k:Int)∧(∃A c,v= .slice A (J k).1.length c)∧(∃Q d,r= .slice Q (J k).2.length d)∧pm w.heap.size [xj v (J k).1,xj r (J k).2] wr∧Below w.heap.size w wr) (fun _ _ i _=>n-(intOf i).toNat)
 case atStart=>refine⟨0,by omega,rfl,⟨none,0,by rw[RH.out];rfl⟩,⟨none,0,by rw[RH.out];rfl⟩,?_,aP _ _⟩;rw[RH.out];exact pm.agx _ _
 case round=>
  obtain⟨k,hk,rfl,⟨A,c,rfl⟩,⟨Q,d,rfl⟩,hO,f⟩:=hrel;have hlk:=E.out k hk;clear RH;by_cases B:k<n
  ·obtain⟨y,I,m6,Be,vk,aS⟩:=VM.out k B
   have zf:=mL.out k B;have acJ:=E.out (k+1) B;have F:=pj.out k;have Ri:=SQ.out k B;have G:w.heap.size≤wr.heap.size:=f.size;have s:=aa ((f.cell (p:=⟨u,k,none⟩) O).trans m6);have l:=aa ((f.cell (p:=⟨m,k,none⟩) qv).trans zf);have q:=aa (Be.later f);have wg:=aa Be;have acr:=aa (show y=none→I=0∧(b.getD k []).length=0 from fun e=>⟨vk e,by subst e;exact TO Be⟩);have g:=aa hO;clear m6 zf Be vk hO VM mL pj E SQ P;generalize a.getD k 0=z at*;generalize b.getD k []=p at*;generalize YW:J (k+1)=J1 at*;have V_:=aa YW;clear YW;generalize J k=Jk at*;obtain⟨o,r⟩:=Jk;simp only at*;by_cases T:z=0
   ·subst T
    rw[aj rfl]at F;subst F;simp only[bM,cC]at acJ;have L:=aa V_.out;clear V_ Ri;have t1:(((0:Nat):Int) !=0)=false:=rfl;have rc:IntKind.i64.wrap ((H:Int)+(r.length:Int))=((H+r.length:Nat):Int):=by rw[bP];omega
    go_wp2;refine r8 (by kernel_rfl) (by kernel_rfl) ?_
    repeat (first
     |go_big_quiet_skip
     |(go_big_quiet_want;first|((first
     |(with_reducible refine eB 63 ?_);refine bi _ (fun j _=>ai j 63 3 _ _ rfl dZ 1 d6 m 0 n M rfl .i64 k rfl B k (by omega)) ?_
     |((with_reducible refine dw 3 ?_);refine bi _ (fun j D=>au j 3 _ rfl ⟨m,k,none⟩ rfl (.int .i64 ((0:Nat):Int)) (by obtain⟨n,rfl⟩:=D;exact l.out) _ pi rfl) ?_));(go_frame);go_big_quiet_on)|(go_big_quiet_op;go_big_quiet_on)))
    refine r9 ?_;intro _ D;obtain⟨nq,ov⟩:=D;subst ov;refine SR (fun W=>W.cell? ⟨m,k,none⟩=some (.int .i64 ((0:Nat):Int))∧W.cell? ⟨u,k,none⟩=some (.slice y p.length I)∧Row W y .u8 p∧pm w.heap.size [xj (.slice A o.length c) o,xj (.slice Q r.length d) r] W∧Below w.heap.size w W) ⟨l.out,s.out,⟨q.out.cell,q.out.ok⟩,⟨g.out.own,g.out.RJ⟩,⟨f.os,f.tape,f.output,f.size,f.block⟩⟩ ?_;clear s l q g f G;rintro W ⟨l,s,q,g,f⟩;have G:=f.size;have s:=aa s;have l:=aa l;have q:=aa q;have g:=aa g
    go_wp2_with (first
     |refine aC 63 ?_;refine ab (by rfl) _ (ai _ 63 3 _ _ rfl dZ 1 d6 m 0 n M rfl .i64 k rfl B k (by omega)) ?_
     |refine aC 114 ?_;refine ab (by rfl) _ (ai _ 114 39 _ _ rfl cV 1 dv u 0 n cp rfl .i64 k rfl B k (by omega)) ?_
     |refine ag 3 ?_;refine dq (v:=(.int .i64 ((0:Nat):Int))) l.out pi ?_ rfl rfl rfl rfl
     |refine ag 39 ?_;refine dq (v:=(.slice y p.length I)) ad6.out bF ?_ rfl rfl rfl rfl
     |with_reducible refine(FJ _ _).mono ?_
      rintro e W4 ⟨rfl,rfl⟩
     |refine be .append ?_;refine jb (w0:=w) (n0:=w.heap.size) rfl (.tmp 56) (.tmp 61) 39 5 rfl bF (.int .u8 0) 1 1 yr rfl (by decide) w.heap.size _ 0 o.length (.slice A o.length c) _ rfl rfl (g.out.later dt) (some ⟨W.heap.size,0,none⟩) 4 4 rfl (fun h=>by cases h) ((jB ((H+r.length:Nat):Int)).map (Value.int .u8)) rfl (qA.block (ak _ _ _ _ rfl)) BI (by omega) (by omega) (by rw[bn];omega) bG (f.alloc G _) ?_
      intro R Z W1 V C N z1 S s1;have X:=aa (pm.SS (p:=jB ((H+r.length:Nat):Int)) C);have ad6:=aa ((N.cell (p:=⟨u,k,none⟩) O).trans ((f.cell (p:=⟨u,k,none⟩) O).symm.trans s.out));have adZ:=aa (show qA W1 y (p.map (Value.int .u8))from qA.G8 (k:= .u8) (wg.out.later N));clear C V S
     |refine be .append ?_;refine jb (w0:=w) (n0:=w.heap.size) rfl (.tmp 63) (.tmp 67) 39 5 rfl bF (.int .u8 0) 1 1 yr rfl (by decide) w.heap.size _ 1 r.length (.slice Q r.length d) _ rfl rfl X.out y p.length I rfl acr.out (p.map (Value.int .u8)) (by simp) adZ.out BI (by omega) (by omega) z1 bG N ?_
      intro sD c2 W2 Q2 h2 b2 z2 k2 s2;have h2':=aa (pm.aei h2)
      clear h2 Q2 k2)
    have Y:o.length+4=(o++jB ((H+r.length:Nat):Int)).length:=by simp[cC]
    have e2:r.length+p.length=(r++p).length:=by simp
    exact⟨⟨k+1,by omega,by go_num,⟨R,Z,by rw[L.out,Y]⟩,⟨sD,c2,by rw[L.out,e2]⟩,by rw[L.out,Y,e2];exact h2'.out,b2⟩,by simp[intOf];omega⟩
   ·rw[an T]at F
    subst F;simp only[bM]at acJ;have L:=aa V_.out;have Zc:=Ri T;have t1:((z:Int) !=0)=true:=by simp[T]
    have t2:((p.length:Int) !=(z:Int))=false:=by simp[Zc]
    have alv:=aa Zc;clear V_ Ri Zc T;go_wp2;refine r8 (by kernel_rfl) (by kernel_rfl) ?_
    repeat (first
     |go_big_quiet_skip
     |(go_big_quiet_want;first|((first
     |(with_reducible refine eB 63 ?_);refine bi _ (fun j _=>ai j 63 3 _ _ rfl dZ 1 d6 m 0 n M rfl .i64 k rfl B k (by omega)) ?_
     |(with_reducible refine eB 114 ?_);refine bi _ (fun j _=>ai j 114 39 _ _ rfl cV 1 dv u 0 n cp rfl .i64 k rfl B k (by omega)) ?_
     |(with_reducible refine dw 3 ?_);refine bi _ (fun j D=>au j 3 _ rfl ⟨m,k,none⟩ rfl (.int .i64 (z:Int)) (by obtain⟨n,rfl⟩:=D;exact l.out) _ pi rfl) ?_
     |((with_reducible refine dw 39 ?_);refine bi _ (fun j D=>au j 39 _ rfl ⟨u,k,none⟩ rfl (.slice y p.length I) (by obtain⟨n,rfl⟩:=D;exact s.out) _ bF rfl) ?_));(go_frame);go_big_quiet_on)|(go_big_quiet_op;go_big_quiet_on)))
    refine r9 ?_;intro _ D;obtain⟨nq,ov⟩:=D;subst ov;refine SR (fun W=>W.cell? ⟨m,k,none⟩=some (.int .i64 (z:Int))∧W.cell? ⟨u,k,none⟩=some (.slice y p.length I)∧Row W y .u8 p∧pm w.heap.size [xj (.slice A o.length c) o,xj (.slice Q r.length d) r] W∧Below w.heap.size w W) ⟨l.out,s.out,⟨q.out.cell,q.out.ok⟩,⟨g.out.own,g.out.RJ⟩,⟨f.os,f.tape,f.output,f.size,f.block⟩⟩ ?_;clear s l q g f G;rintro W ⟨l,s,q,g,f⟩;have G:=f.size;have s:=aa s;have l:=aa l;have q:=aa q;have g:=aa g
    go_wp2_with (first
     |refine aC 63 ?_;refine ab (by rfl) _ (ai _ 63 3 _ _ rfl dZ 1 d6 m 0 n M rfl .i64 k rfl B k (by omega)) ?_
     |refine aC 114 ?_;refine ab (by rfl) _ (ai _ 114 39 _ _ rfl cV 1 dv u 0 n cp rfl .i64 k rfl B k (by omega)) ?_
     |refine ag 3 ?_;refine dq (v:=(.int .i64 (z:Int))) l.out pi ?_ rfl rfl rfl rfl
     |refine ag 39 ?_;refine dq (v:=(.slice y p.length I)) s.out bF ?_ rfl rfl rfl rfl
     |refine be .append ?_;refine jb (w0:=w) (n0:=w.heap.size) rfl (.tmp 50) (.tmp 54) 39 5 rfl bF (.int .u8 0) 1 1 yr rfl (by decide) w.heap.size _ 0 o.length (.slice A o.length c) _ rfl rfl g.out y p.length I rfl acr.out (p.map (Value.int .u8)) (by simp) (qA.G8 (k:= .u8) q.out) BI (by omega) (by omega) G bG f ?_
      intro R Z W1 V C N z1 S s1;have X:=aa (pm.SS C)
      clear C V S)
    have Y:o.length+p.length=(o++p).length:=by simp
    exact⟨⟨k+1,by omega,by go_num,⟨R,Z,by rw[L.out,Y]⟩,⟨_,_,by rw[L.out]⟩,by rw[L.out,Y];exact X.out,N⟩,by simp[intOf];omega⟩
  ·have e:k=n:=by omega
   subst e;have g:=aa hO;have G:=f.size;have hU2:=aa (show U=(J k).1++(J k).2 from P.out);clear hO pj E VM mL SQ P;generalize J k=Jk at*;obtain⟨o,r⟩:=Jk;simp only at*
   go_wp2_with (
    ((with_reducible refine be .append ?_);refine jb (w0:=w) (n0:=w.heap.size) rfl (.tmp 69) (.tmp 70) 39 5 rfl bF (.int .u8 0) 1 1 yr rfl (by decide) w.heap.size _ 0 o.length (.slice A o.length c) _ rfl rfl g.out Q r.length d rfl (BN (g.out.own 1 _ rfl)) (r.map (Value.int .u8)) (by simp) (oU (g.out.own 1 _ rfl)) BI (by omega) (by omega) G bG f ?_
     intro R Z W1 V C N z1 S s1;have X:=aa ((pm.SS C).own 0 _ rfl)
     clear C S))
   refine bR rfl _ _ rfl rfl rfl ⟨⟨R,Z,?_,V,?_⟩,N⟩
   ·rw[hU2.out,bM];rfl
   ·rw[hU2.out];exact X.out
def DN (H:Nat) (b:List Nat) (a:List (List Int)):∀k,(∀i,i<k→b.getD i 0≠0)→k≤a.length→layK H b a k=((a.take k).flatten,[])
 |0,_,_=>rfl
 |k+1,h,c=>by simp only[layK,DN H b a k (fun i d=>h i (by omega)) (by omega),an (h k (by omega))];rw[Qp a k (by omega)]
def WN (l k a b n s r w) (v:nd l a w) (hZ:et k b w) (g:a.length=n) (hn:b.length=n) (A:1≤n) (y:n≤64) (u:∀z∈b,z≤65536) (q:∀i,i<n→b.getD i 0≠0∧(a.getD i []).length=b.getD i 0) (d:a.flatten.length≤1099511627776) (B:∀p∈a,∀m∈p,CK.ok .u8 m):
 Calls prog 48 #[.slice (some ⟨l,0,none⟩) n s,.slice (some ⟨k,0,none⟩) n r] w fun e o=>(∃f c,e= .returned (.tuple #[.slice f a.flatten.length c,.int .i64 0])∧(f=none→c=0)∧bc w.heap.size (.slice f a.flatten.length c) a.flatten o)∧Below w.heap.size w o:=by
 have e:=DN (headN b) b a n (fun i j=>(q i j).1) (by omega);rw[←g,gC,g]at e;have h:=Jz l k a b n s r w v hZ g hn A y u (fun i j _=>(q i j).2) (by unfold Ip;rw[e];simpa using d);unfold eS at h;rw[hn,e]at h;simpa using h
def fo {P c Q b a w d e pos i g} (t) {x} (h:wpList P c Q (⟨d,.box t x,e,pos,i,g⟩::b) a w):wpList P c Q (⟨d,.box t x,e,pos,i,g⟩::b) a w:=h
def aF {P e Q c a w d i pos j g} (t b k) {x y} (l:a.eval x= .pointer (some ⟨b,k,none⟩)) (h:wpList P e Q (⟨d,.store t x y,i,pos,j,g⟩::c) a w):wpList P e Q (⟨d,.store t x y,i,pos,j,g⟩::c) a w:=h
def bW {P c b o a w Q} (g:o.guard=none) (t x) (e:o.op= .box t x) (C) (d:a.eval x= .agg C) (h:wpList P c Q b (a.put o.dst (.pointer (some ⟨w.heap.size,0,none⟩))) (w.alloc (.cells C t))):wpList P c Q (o::b) a w:=by refine aH g fun K i=>?_;unfold Oper.wp execOp;simp only[e,d];simp[Instr.box,newVar,newRow,Value.cells];exact i _ _ h
abbrev Pt:=Option Addr×Nat×Nat×List Int
structure gw (n N:Nat) (kd:Nat→CK) (f:Nat→Int) (t:TypeId) (ps:List Pt) (w W:World):Prop extends Box n N kd f t w W where
 hP:∀p∈ps,cG p.1 p.2.1 p.2.2.2 W∧p.2.2.2.length=p.2.2.1
def il (ps:List Pt):List Value:=ps.map fun p=> .slice p.1 p.2.2.1 p.2.1
def iI (ps:List Pt):List (List Int):=ps.map fun p=>p.2.2.2
section
variable {n N:Nat} {kd:Nat→CK} {f:Nat→Int} {t:TypeId} {ps:List Pt} {w W W':World}
theorem gw.later (h:gw n N kd f t ps w W) (b:Below W.heap.size W W'):gw n N kd f t ps w W':=⟨h.toBox.later (b.mono (by have:=aD h.hX;omega)),fun p a=>⟨(h.hP p a).1.later b,(h.hP p a).2⟩⟩
theorem gw.add (h:gw n N kd f t ps w W) {b c k m} (hs:cG b c m W) (d:m.length=k):gw n N kd f t (ps++[(b,c,k,m)]) w W:=
 ⟨h.toBox,fun p a=>by
   rcases iD.1 a with a|a
   ·exact h.hP p a
   ·rw[jJ.1 a];exact⟨hs,d⟩⟩
theorem gw.num (h:gw n N kd f t ps w W) (m):
 Calls prog 108 #[.int .u64 m] W fun e b=>∃a c,e= .returned (.slice a 8 c)∧gw n N kd f t (ps++[(a,c,8,fH m)]) w b:=
 (DE m W).mono fun _ _ ⟨⟨a,c,j,i,g⟩,d⟩=>⟨a,c,j,(h.later d).add (cG.b_ g (na m) i) (aX m)⟩
theorem gw.own (h:gw n N kd f t ps w W) {v m k} (b:bc W.heap.size v ([]++m) W') (j:Below W.heap.size W W') (i:∀x∈m,CK.ok .u8 x) (d:m.length=k):∃a c,v= .slice a k c∧gw n N kd f t (ps++[(a,c,k,m)]) w W':=by rw[List.nil_append]at b;obtain⟨a,c,e,g⟩:=aW b;rw[d]at e;subst e;exact⟨a,c,rfl,(h.later j).add (cG.b_ b i g) d⟩
theorem gw.begin (b:(w.alloc (.cells (ae N kd f).toArray t)).heap[n]?=some (.cells (ae N kd f).toArray t (0,0))) (hn:w.heap.size=n):gw n N kd f t [] w (w.alloc (.cells (ae N kd f).toArray t)):=by subst hn;exact⟨⟨b,dt⟩,fun p a=>by simp at a⟩
theorem oj:∀(ps:List Pt),((il ps).map fun v=>v.cells.toList).flatten=il ps
 |[]=>rfl
 |p::ps=>by have a:=oj ps;show [Value.slice p.1 p.2.2.1 p.2.1]++((il ps).map fun v=>v.cells.toList).flatten=_;rw[a];rfl
theorem gw.parts (h:gw n N kd f t ps w W):gw n N kd f t ps w (W.alloc (.cells ((il ps).map fun v=>v.cells.toList).flatten.toArray 39))∧nd W.heap.size (iI ps) (W.alloc (.cells ((il ps).map fun v=>v.cells.toList).flatten.toArray 39)):=by
 have g:Below W.heap.size W (W.alloc (.cells ((il ps).map fun v=>v.cells.toList).flatten.toArray 39)):=dt;have b:=h.later g;refine⟨b,il ps,by rw[ak _ _ _ _ rfl,oj],by simp[il,iI],fun i d=>?_⟩;have a:i<ps.length:=by simpa[iI]using d
 obtain⟨hs,c⟩:=b.hP (ps[i]) (oI a);have e:(iI ps).getD i []=(ps[i]).2.2.2:=by simp[iI,List.getD,a]
 rw[e];exact⟨(ps[i]).1,(ps[i]).2.1,by simp[il,a,c],hs.row,hs.nil,hs.low⟩
theorem nd.later {g qs} (h:nd g qs W) (a:Below W.heap.size W W'):nd g qs W':=by obtain⟨j,d,u,s⟩:=h;refine⟨j,(a.block g (aD d)).trans d,u,fun i l=>?_⟩;obtain⟨k,c,r,q,p,m⟩:=s i l;exact⟨k,c,r,q.later a,p,fun b o e=>du (m b o e) a.size⟩
def HT (a:List Nat):List Value:=a.map fun z:Nat=> .int .i64 (z:Int)
theorem nr:∀(a:List Nat),((HT a).map fun v=>v.cells.toList).flatten=HT a
 |[]=>rfl
 |z::a=>by have b:=nr a;show [Value.int .i64 (z:Int)]++((HT a).map fun v=>v.cells.toList).flatten=_;rw[b];rfl
theorem CE (a:List Nat) (W:World):et W.heap.size a (W.alloc (.cells ((HT a).map fun v=>v.cells.toList).flatten.toArray 3)):=by unfold et;rw[ak _ _ _ _ rfl,nr];rfl
theorem gw.lay (h:gw n N kd f t ps w W) {l j k S L} (E:nd l (iI ps) W) (a) (hZ:et j a W) (A:ps.length=k) (g:1≤k) (F:k≤64) (d:(iI ps).map List.length=a) (o:∀z∈a,z≠0∧z≤65536) (hL:(iI ps).flatten=L) (D:L.length=S) (C:S≤1099511627776):
 Calls prog 48 #[.slice (some ⟨l,0,none⟩) k k,.slice (some ⟨j,0,none⟩) k k] W fun e m=>(∃b c,e= .returned (.tuple #[.slice b S c,.int .i64 0])∧(b=none→c=0)∧bc n (.slice b S c) L m)∧Below n w m:=by
 subst D;subst hL;have r:(iI ps).length=k:=by simp[iI,A]
 refine(WN l j (iI ps) a k k k W E hZ r (by rw[←d,jK];exact r) g F (fun z u=>(o z u).2) (fun i J=>?_) C (fun p y=>?_)).mono fun _ _ ⟨⟨b,c,g,I,H⟩,G⟩=>⟨⟨b,c,g,I,lh H ?_⟩,h.hB.trans (G.mono ?_)⟩
 ·have s:i<(iI ps).length:=by omega
  have e:a.getD i 0=((iI ps).getD i []).length:=by rw[←d];simp[List.getD,s]
  refine⟨(o _ ?_).1,e.symm⟩;have B:i<a.length:=by rw[←d,jK];exact s
  simp[List.getD,B]
 ·obtain⟨q,v,rfl⟩:=ft.1 y
  exact(h.hP q v).1.row.ok
 ·have:=aD h.hX;omega
 ·have:=aD h.hX;omega
theorem gw.Zb (h:gw n N kd f t ps w W) {k S L V Z} (a) (hV:V=(il ps).toArray) (hZ:Z=(HT a).toArray) (m:ps.length=k) (s:1≤k) (r:k≤64) (o:(iI ps).map List.length=a) (l:∀z∈a,z≠0∧z≤65536) (hL:(iI ps).flatten=L) (q:L.length=S) (p:S≤1099511627776):
 Calls prog 48 #[.slice (some ⟨W.heap.size,0,none⟩) k k,.slice (some ⟨W.heap.size+1,0,none⟩) k k] ((W.alloc (.cells V 39)).alloc (.cells Z 3)) fun e g=>(∃b c,e= .returned (.tuple #[.slice b S c,.int .i64 0])∧(b=none→c=0)∧bc n (.slice b S c) L g)∧Below n w g:=by
 subst hV;subst hZ;have d:=h.parts;rw[oj]at d;have i:=CE a (W.alloc (.cells (il ps).toArray 39));rw[nr,bn]at i;have j:Below (W.alloc (.cells (il ps).toArray 39)).heap.size (W.alloc (.cells (il ps).toArray 39)) ((W.alloc (.cells (il ps).toArray 39)).alloc (.cells (HT a).toArray 3)):=dt;exact(d.1.later j).lay (d.2.later j) a i m s r o l hL q p
end
def wG (t:TypeId) (g K:Nat) (F:Nat→Nat→Int) (W:World):Prop:=∃C:Array Value,W.heap[g]?=some (.cells C t (0,0))∧C.size=K*32∧∀i,i<K→∀j,j<32→C[32*i+j]?=some (.int .u8 (F i j))
def wG.block {t g K F W W'} (h:wG t g K F W) (he:W'.heap[g]?=W.heap[g]?):wG t g K F W':=by obtain⟨C,b,a⟩:=h;exact⟨C,he.trans b,a⟩
def wG.row {t g K rs W} (h:wG t g K (leaf rs) W) (l:rs.length≤K) (c:∀r∈rs,fY r):j_ W (some ⟨g,0,none⟩) rs:=by
 obtain⟨C,e,m,d⟩:=h;refine⟨fun i k=>⟨g,0,rfl,fun j v a=>?_⟩,c⟩;have b:j<32:=by have:=(io.1 a).1;rwa [ac]at this
 rw[aN _ _ _ _ b]at a;rw[br W g _ _ _ _ e,bY,d i (by omega) j b];exact a
def tU (rs r i):leaf (rs++[r]) i=if i=rs.length then r else leaf rs i:=by
 unfold leaf;simp only[List.getD];by_cases c:i<rs.length
 ·rw[eY c,an (by omega)]
 ·rw[fT (by omega)]
  by_cases e:i=rs.length
  ·subst e;simp
  ·rw[an e,eT (l:=rs) (by omega),eT (by simp;omega)]
structure dP (n N:Nat) (kd:Nat→CK) (f:Nat→Int) (t tc:TypeId) (K:Nat) (rs:List (Nat→Int)) (w W:World):Prop extends Box n N kd f t w W where
 hR:W.heap[n+1]?=some (.cells zr 25 (0,0))
 hC:wG tc (n+1+1) K (leaf rs) W
 is:∀r∈rs,fY r
 hT:cY W
 h3:3≤n
section
variable {n N:Nat} {kd:Nat→CK} {f:Nat→Int} {t tc:TypeId} {K:Nat} {rs:List (Nat→Int)} {w W W':World}
theorem dP.size (h:dP n N kd f t tc K rs w W):n+3≤W.heap.size:=by obtain⟨C,a,_⟩:=h.hC;have:=aD a;omega
theorem dP.later (h:dP n N kd f t tc K rs w W) (a:Below W.heap.size W W'):dP n N kd f t tc K rs w W':=by have hs:=h.size;exact⟨h.toBox.later (a.mono (by omega)),(a.block _ (by omega)).trans h.hR,h.hC.block (a.block _ (by omega)),h.is,h.hT.below (by have:=h.h3;omega) a,h.h3⟩
theorem dP.begin {C} (g:(w.alloc (.cells (ae N kd f).toArray t)).heap[n]?=some (.cells (ae N kd f).toArray t (0,0))) (hn:w.heap.size=n) (a:cY w) (e:C.size=K*32) (c:∀i,i<K*32→C[i]?=some (.int .u8 0)):
 dP n N kd f t tc K [] w (((w.alloc (.cells (ae N kd f).toArray t)).alloc (.cells zr 25)).alloc (.cells C tc)):=by
 subst hn;have b:Below w.heap.size w (((w.alloc (.cells (ae N kd f).toArray t)).alloc (.cells zr 25)).alloc (.cells C tc)):=(dt.alloc (by simp) _).alloc (by simp;omega) _;exact⟨⟨aR _ _ _ _ (aR _ _ _ _ g),b⟩,aR _ _ _ _ (ak _ _ _ _ (by simp)),⟨C,ak _ _ _ _ (by simp),e,fun i k j h=>by rw[c (32*i+j) (by omega),tT];rfl⟩,(fun r d=>by simp at d),a.below a.size b,a.size⟩
theorem dP.num (h:dP n N kd f t tc K rs w W) (m):
 Calls prog 108 #[.int .u64 m] W fun e b=>∃a c,e= .returned (.slice a 8 c)∧cG a c (fH m) b∧dP n N kd f t tc K rs w b:=
 (DE m W).mono fun _ _ ⟨⟨a,c,j,i,g⟩,d⟩=>⟨a,c,j,cG.b_ g (na m) i,h.later d⟩
theorem dP.chunk (h:dP n N kd f t tc K rs w W) (l a c k) (hl:cG a c l W) (d:l.length=k) (m:1≤k) (j:k≤32):
 Calls prog 120 #[.slice a k c] W fun e b=>e= .returned (.agg (ax (fg l 0)))∧dP n N kd f t tc K rs w b:=by
 subst d;exact(QL l a c W hl.row hl.low m j h.hT).mono fun _ _ ⟨i,g⟩=>⟨i,h.later g⟩
theorem Box.sl (h:Box n N kd f t w W) (a c) (g:∀j,j<c→kd (a+j)= .u8) (i:a+c≤N) (d:∀j,j<N→(kd j).ok (f j)):cG (some ⟨n,a,none⟩) c (ff f a c) W:=⟨h.row a c g i d,(fun e=>by cases e),by rw[az];exact cD _,fun b o e=>by cases e;exact aD h.hX⟩
theorem dP.pack (h:dP n N kd f t tc K rs w W) (l j c k q) (hl:cG j c l W) (v:l.length=k) (u:(k+31)/32=q) (F:1≤k) (E:k≤100000):
 Calls prog 50 #[.slice j k c] W fun e i=>∃a m,e= .returned (.slice a q m)∧j_ i a (chunks l)∧(∀b o,a=some ⟨b,o,none⟩→b<i.heap.size)∧q≤m∧dP n N kd f t tc K rs w i:=by
 subst v;refine(qU l j c W hl.row hl.low (by omega)).mono fun _ _ ⟨⟨a,m,r,z⟩,y⟩=>?_;have s:(chunks l).length=q:=by rw[di,u]
 obtain⟨g,C,e,D,d⟩:=gz z (by omega);injection e with B G A
 subst B;subst A;have p:=d.choose_spec.2.2.1;rw[s]at d p r;exact⟨_,_,r,d.row (chunks l) (by omega) (fun _ _=>rfl) (im hl.row.ok),(fun b o e=>by cases e;exact d.lt),p,h.later y⟩
theorem dP.Pc (h:dP n N kd f t tc K rs w W) (l a c q d m) (hl:j_ W a (chunks l)) (k:∀b o,a=some ⟨b,o,none⟩→b<W.heap.size) (s:q≤c) (i:(l.length+31)/32=q) (j:m=(q:Int)) (r:lN q d) (p:d≤40):
 Calls prog 49 #[.slice a q c,.int .i64 m] W fun e g=>e= .returned (.agg (ax (uU d l)))∧dP n N kd f t tc K rs w g:=by
 subst j;exact(mj (chunks l) q q d a c W (by rw[di,i]) bG r p hl k s h.hT).mono fun _ _ ⟨v,u⟩=>⟨v,h.later u⟩
theorem dP.last (h:dP n N kd f t tc K rs w W) (d m) (g:m=(K:Int)) (k:rs.length=K) (j:lN K d) (i:d≤40):
 Calls prog 49 #[.slice (some ⟨n+1+1,0,none⟩) K K,.int .i64 m] W fun e a=>e= .returned (.agg (ax (fullT d (leaf rs))))∧Below n w a∧a.heap[n+1]?=some (.cells zr 25 (0,0)):=by
 subst g;have hs:=h.size;exact(mj rs K K d _ K W k bG j i (h.hC.row (by omega) h.is) (fun b o e=>by cases e;omega) bG h.hT).mono fun _ _ ⟨l,c⟩=>⟨l,h.hB.trans (c.mono (by omega)),(c.block _ (by omega)).trans h.hR⟩
theorem mp {g b o a Q} (I:o.guard=none) (x y) (E:o.op= .store 25 x y) (i r) (A:a.eval x= .pointer (some ⟨n+1+1,32*i,none⟩)) (z:a.eval y= .agg (ax r)) (h:dP n N kd f t tc K rs w W) (H:rs.length=i) (L:i<K) (D:fY r) (F:∀W',dP n N kd f t tc K (rs++[r]) w W'→wpList prog g Q b (a.put o.dst undef) W'):wpList prog g Q (o::b) a W:=by
 obtain⟨C,m,P,u⟩:=h.hC;have hs:=h.size
 have p:W.there (n+1+1) (32*i) (ax r).size:=fun j c=>by
  have c:j<32:=by simpa[ae]using c
  refine⟨?_,j' m _⟩;rw[br W (n+1+1) _ C _ _ m,u i L j c];rfl
 refine aH I fun R J=>s_ 25 x y E (n+1+1) (32*i) (ax r) A z p (by rw[ah am];simp[ae]) (aA _ _ _) (J _ _ (F _ ?_));have l:aL (n+1+1) W (W.setCells (n+1+1) (32*i) (ax r).toList):=(aL.refl _ _).setCells _ _ _ (Or.inl rfl);obtain⟨v,s,O⟩:=gq (n+1+1) (ax r).toList (32*i) W C _ m;have B:=AA W (n+1+1) (32*i) (ax r).toList (by simpa using p);have M:Below n w (W.setCells (n+1+1) (32*i) (ax r).toList):=l.below h.hB (by omega) (by omega);refine⟨⟨(l.block n (by omega) (by omega)).trans h.hX,M⟩,(l.block _ (by omega) (by omega)).trans h.hR,⟨v,s,O.trans P,fun k G j c=>?_⟩,fun q d=>?_,?_,h.h3⟩
 ·rw[←br _ (n+1+1) (32*k+j) v _ _ s,tU,H]
  by_cases e:k=i
  ·subst e
   rw[aj rfl];exact B j _ (aN 32 (fun _=> .u8) r j c)
  ·rw[an e,Cw (n+1+1) _ _ W ⟨n+1+1,32*k+j,none⟩ (fun _ _=>by simp[ae];omega),br W (n+1+1) _ C _ _ m]
   exact u k G j c
 ·rcases iD.1 d with d|d
  ·exact h.is q d
  ·rw[jJ.1 d];exact D
 ·exact h.hT.below (by have:=h.h3;omega) (l.below (aP (n+1+1) W) bG (by omega))
end
def iM (n i) (h:i<n):(rep n)[i]?=some (.int .u8 0):=by rw[fu,IL,aj h]
def Xd (l) (b:1≤l.length) (a:l.length≤32):uU 0 l=fg l 0:=pY l 0 (by omega)
def dP.aal {n N kd f t tc K rs w W} (h:dP n N kd f t tc K rs w W) (l a c k) (hl:cG a c l W) (d:l.length=k) (i:1≤k) (g:k≤32):
 Calls prog 120 #[.slice a k c] W fun e b=>e= .returned (.agg (ax (uU 0 l)))∧dP n N kd f t tc K rs w b:=by
 rw[Xd l (by omega) (by omega)];exact h.chunk l a c k hl d i g
def it {P:Program} {o a} {K:Act→World→Prop} {Q w} (f:FuncId) (b:Array Value) (he:(execOp a.eval o).run P w= .ok (.enter f b) w) (R:Value→World→Prop) (g:Calls P f b w fun e d=>∃v,e= .returned v∧R v d) (h:∀v d,R v d→K (a.put o.dst v) d):o.wp P a w K Q:=by unfold Oper.wp;rw[he];simp only[Oper.upon];exact g.mono fun e d ⟨v,j,i⟩=>by subst j;exact h v d i
def bU {N kd f g} (h:∀k,k<N→f k=g k):ae N kd f=ae N kd g:=by unfold ae;refine Fd fun j a=>?_;rw[h j (by simpa using a)]
def pe {N kd g C} (hs:C.size=N) (h:∀j,j<N→C[j]?=some ((kd j).mk (g j))):C=(ae N kd g).toArray:=iW hs h
structure RdS (n N:Nat) (kd:Nat→CK) (t:TypeId) (l:List Int) (va:Option Addr) (c p err m:Nat) (r:Nat→Int) (w W:World):Prop where
 hR:W.heap[n]?=some (.cells (ae N kd fun _=>0).toArray t (0,0))
 hX:∃g,W.heap[n+1]?=some (.cells (ae N kd g).toArray t (0,0))∧(err=0→∀k,k<m→g k=r k)
 hI:∃at',K1 (n+1+1) l va c at' err W∧(err=0→at'=p)
 hB:Below n w W
 gb:∀b o,va=some ⟨b,o,none⟩→b<n
section
variable {n N:Nat} {kd:Nat→CK} {t:TypeId} {l:List Int} {va:Option Addr} {c p err m:Nat} {r:Nat→Int} {w W W':World}
theorem RdS.size (h:RdS n N kd t l va c p err m r w W):n+3≤W.heap.size:=by obtain⟨a,hI,_⟩:=h.hI;have:=hI.size;omega
theorem RdS.step {f b} (h:RdS n N kd t l va c p err m r w W) (d:Below (n+1+1) W W') (hI:∃a,K1 (n+1+1) l va c a b W'∧(b=0→a=f)) (he:b=0→err=0):RdS n N kd t l va c f b m r w W':=by obtain⟨g,j,i⟩:=h.hX;exact⟨(d.block n (by omega)).trans h.hR,⟨g,(d.block (n+1) (by omega)).trans j,fun e=>i (he e)⟩,hI,h.hB.trans (d.mono (by omega)),h.gb⟩
theorem RdS.later (h:RdS n N kd t l va c p err m r w W) (b:Below W.heap.size W W'):RdS n N kd t l va c p err m r w W':=by obtain⟨a,hI,d⟩:=h.hI;have hs:=h.size;exact h.step (b.mono (by omega)) ⟨a,hI.later (b.mono (by omega)),d⟩ id
theorem RdS.any {a} (h:RdS n N kd t l va c p err m r w W) (he:err≠0):RdS n N kd t l va c p err a r w W:=by obtain⟨g,b,_⟩:=h.hX;exact⟨h.hR,⟨g,b,fun e=>absurd e he⟩,h.hI,h.hB,h.gb⟩
theorem RdS.drew (h:RdS n N kd t l va c p err m r w W) (k):RdS n N kd t l va c p err m r w {W with drawn:=k}:=h.later ⟨rfl,rfl,rfl,cD _,fun _ _=>rfl⟩
theorem RdS.u64 (h:RdS n N kd t l va c p err m r w W) (f:err=0→p+8≤l.length):
 Calls prog 88 #[.pointer (some ⟨n+1+1,0,none⟩)] W fun e d=>∃v,e= .returned (.int .u64 v)∧(err=0→v=inN l p 0)∧RdS n N kd t l va c (p+8) err m r w d:=by
 obtain⟨b,hI,a⟩:=h.hI;refine(Z7 (n+1+1) l va c b err W hI (fun e=>by rw[a e];exact f e)).mono fun _ _ ⟨j,i,g⟩=>⟨_,j,fun e=>by rw[a e,e],h.step g ⟨_,i,fun e=>by rw[aj e,a e]⟩ id⟩
theorem RdS.kh (h:RdS n N kd t l va c p err m r w W) (k:Nat) (x:Int) (s:x=(k:Int)) (u:0<k) (D:k≤100000) (i:err=0→p+k≤l.length):
 Calls prog 61 #[.pointer (some ⟨n+1+1,0,none⟩),.int .i64 x] W fun e g=>∃b o f q,e= .returned (.slice (some ⟨b,o,none⟩) k f)∧k≤f∧b<g.heap.size∧Row g (some ⟨b,o,none⟩) .u8 q∧q.length=k∧(err=0→q=(l.drop p).take k)∧RdS n N kd t l va c (p+k) err m r w g:=by
 subst s;obtain⟨a,hI,d⟩:=h.hI;have hl:=wM (l:=l) (at':=a) (err:=err) (n:=k) (fun e=>by rw[d e];exact i e);refine(Uz (n+1+1) l va c a err k W hI u (by omega) (fun e=>by rw[d e];exact i e)).mono fun _ W' ⟨⟨C,f,B,A,E,j⟩,z,y⟩=>?_;obtain⟨b,o,e,v⟩:=j.cell 0 (by omega);subst e;exact⟨b,o,f,_,B,A,iE v,j,hl,fun e=>by unfold Rh;rw[aj e,d e],h.step y ⟨_,z,fun e=>by rw[aj e,d e]⟩ id⟩
theorem RdS.Yg (h:RdS n N kd t l va c p 0 m r w W):
 Calls prog 63 #[.pointer (some ⟨n+1+1,0,none⟩),.int .i64 0] W fun e b=>e= .returned (.tuple #[])∧RdS n N kd t l va c p 0 m r w b:=by
 obtain⟨a,hI,d⟩:=h.hI;exact(OJ (n+1+1) l va c a 0 0 W hI).mono fun _ _ ⟨i,g,f⟩=>⟨i,h.step f ⟨_,g,d⟩ id⟩
theorem RdS.dS (h:RdS n N kd t l va c p err m r w W):W.cell? ⟨n+1+1,4,none⟩=some (.int .i64 (err:Int)):=by obtain⟨a,hI,_⟩:=h.hI;exact dV hI.cells 4
theorem RdS.res (h:RdS n N kd t l va c p 0 N r w W):W.heap[n+1]?=some (.cells (ae N kd r).toArray t (0,0)):=by obtain⟨g,b,a⟩:=h.hX;rw[←bU (kd:=kd) (a rfl)];exact b
theorem RdS.box {f} (h:RdS n N kd t l va c p err m r w W) (a:aL (n+1) W W') (g) (v:W'.heap[n+1]?=some (.cells (ae N kd g).toArray t (0,0))) (u:err=0→∀k,k<f→g k=r k):RdS n N kd t l va c p err f r w W':=by
 obtain⟨d,hI,q⟩:=h.hI;have hs:=h.size;refine⟨(a.block n (by omega) (by omega)).trans h.hR,⟨g,v,u⟩,⟨d,⟨(a.block _ (by omega) (by omega)).trans hI.cells,⟨fun j s=>?_,hI.row.ok⟩,hI.low,hI.cap,hI.nil,hI.Es⟩,q⟩,a.below h.hB (by omega) (by omega),h.gb⟩;obtain⟨b,o,e,i⟩:=hI.row.cell j s;refine⟨b,o,e,?_⟩;by_cases y:b=n+1
 ·exfalso
  have:=h.gb _ _ e;omega
 ·exact(iP (w:=W) (a.block b (iE i) y)).trans i
theorem LW {i d o a Q} (I:o.guard=none) (q x y) (F:o.op= .store q x y) (b) (C:a.eval x= .pointer (some ⟨n+1,b,none⟩)) (u) (B:a.eval y=u) (v) (D:u=(kd b).mk v) (A:(prog.info? q).map (·.size)=some 1) (h:RdS n N kd t l va c p err m r w W) (G:m=b) (z:b<N) (E:err=0→v=r b) (s:∀W',RdS n N kd t l va c p err (b+1) r w W'→wpList prog i Q d (a.put o.dst undef) W'):wpList prog i Q (o::d) a W:=by
 obtain⟨g,P,O⟩:=h.hX;subst D;subst G;refine aH I fun K J=>bt q x y F (n+1) m C _ B (by cases kd m<;>rfl) A _ t P (by simp[ae];exact z) (fun W' L M=>J _ _ (s W' ?_));refine h.box M (fun k=>if k=m then v else g k) ?_ (fun e k s=>?_)
 ·rw[L]
  congr 2
  refine pe (by simp[ae]) fun j H=>?_;rw[th];by_cases e:m=j
  ·subst e
   simp[ae,z]
  ·rw[an e,an (fun f=>e f.symm),fu,aN _ _ _ _ H]
 ·by_cases f:k=m
  ·rw[aj f,f];exact E e
  ·rw[an f];exact O e k (by omega)
theorem yb {N a k kd g h ii} (f:∀j,j<k→kd (a+j)=ii j) (o:a+k≤N):(splice (ae N kd g) a (ae k ii h)).toArray=(ae N kd fun i=>if a≤i∧i<a+k then h (i-a)else g i).toArray:=by
 have hl:a+(ae k ii h).length≤(ae N kd g).length:=by rw[ac,ac];exact o
 refine pe (by rw[cI,li hl,ac]) fun j b=>?_;rw[fu,lC hl,ac];by_cases e:j<a
 ·rw[aj e,an (by omega),aN _ _ _ _ b]
 ·rw[an e]
  by_cases d:j<a+k
  ·rw[aj d,aj (by omega),aN _ _ _ _ (by omega),←f (j-a) (by omega),show a+(j-a)=j by omega]
  ·rw[an d,an (by omega),aN _ _ _ _ b]
theorem wH {o:Oper} {a:Act} {K:Act→World→Prop} {Q:Exit→Act→World→Prop} (d s:Operand) (H:o.op= .call {callee:= .builtin .copy,args:=#[d,s],argTypes:=#[39,39]}) (f k b z E C:Nat) (L:a.eval d= .slice (some ⟨n+1,f,none⟩) k C) (hs:a.eval s= .slice (some ⟨b,z,none⟩) k E)
 (h:RdS n N kd t l va c p err m r w W) (q:List Int) (G:Row W (some ⟨b,z,none⟩) .u8 q) (X:q.length=k) (Y:m=f) (I:∀j,j<k→kd (f+j)= .u8) (A:f+k≤N) (F:err=0→∀j,j<k→q.getD j 0=r (f+j))
 (R:∀W',RdS n N kd t l va c p err (f+k) r w W'→K (a.put o.dst (goInt k)) W'):o.wp prog a W K Q:=by
 obtain⟨g,S,P⟩:=h.hX;have u:(ae k (fun _=> .u8) fun j=>q.getD j 0).length=k:=ac _ _ _;refine ja d s 39 39 H 5 bF cR (n+1) f b z k C k E L hs _ t S (ae k (fun _=> .u8) fun j=>q.getD j 0) (by rw[u];exact(NE k).symm) (fun j v y=>?_) (by rw[u];simp[ae];exact A) cl (fun W' B O=>?_)
 ·have J:j<k:=by have:=(io.1 y).1;rwa [u]at this
  obtain⟨b',U,e,M⟩:=G.cell j (by omega);cases e;rw[aN _ _ _ _ J]at y;rw[M];exact y
 ·rw[u]
  have T:(splice (ae N kd g).toArray.toList f (ae k (fun _=> .u8) fun j=>q.getD j 0)).toArray=_:=yb (ii:=fun _=> .u8) I A;rw[T]at B;refine R W' (h.box O _ B fun e i Z=>?_);by_cases D:f≤i∧i<f+k
  ·rw[aj D,F e (i-f) (by omega),show f+(i-f)=i by omega]
  ·rw[an D];exact P e i (by omega)
theorem jz (b):∀(a:List Value) (o:Nat) (w:World) (C:Array Value) (t:TypeId),w.heap[b]?=some (.cells C t (0,0))→o+a.length≤C.size→(w.setCells b o a).heap[b]?=some (.cells (splice C.toList o a).toArray t (0,0)):=fun a o w C t h hl=>by
 obtain⟨k,e,v⟩:=gq b a o w C t h
 have q:w.there b o a.length:=fun j u=>by refine⟨?_,j' h _⟩;rw[br w b _ C _ _ h,oL (by omega)];rfl
 have hs:=AA w b o a q;have s:o+a.length≤C.toList.length:=by simpa using hl
 rw[e]
 congr 2
 apply Array.ext';apply mG;intro i;show k.toList[i]?=(splice C.toList o a)[i]?;rw[lC s,Array.getElem?_toList,←br _ b i k _ _ e];by_cases g:i<o
 ·rw[aj g,Cw b a o w ⟨b,i,none⟩ (fun _ _=>by simp only;omega),br w b i C _ _ h]
  simp
 ·rw[an g]
  by_cases f:i<o+a.length
  ·rw[aj f]
   have d:a[i-o]?=some (a[i-o]'(by omega)):=fS (by omega);have:=hs (i-o) _ d;rw[show o+(i-o)=i by omega]at this;rw[this,d]
  ·rw[an f,Cw b a o w ⟨b,i,none⟩ (fun _ _=>by simp only;omega),br w b i C _ _ h]
   simp
theorem vY {s d o a Q} (L:o.guard=none) (u x y) (I:o.op= .store u x y) (b k) (F:a.eval x= .pointer (some ⟨n+1,b,none⟩)) (q f) (E:a.eval y= .agg (ae k q f).toArray) (D:(prog.info? u).map (·.size)=some k) (h:RdS n N kd t l va c p err m r w W) (S:m=b) (J:∀j,j<k→kd (b+j)=q j) (A:b+k≤N) (H:err=0→∀j,j<k→f j=r (b+j)) (K:∀W',RdS n N kd t l va c p err (b+k) r w W'→wpList prog s Q d (a.put o.dst undef) W'):wpList prog s Q (o::d) a W:=by
 obtain⟨g,v,P⟩:=h.hX;have U:(ae k q f).length=k:=ac _ _ _
 have G:W.there (n+1) b (ae k q f).toArray.size:=fun j z=>by
  have z:j<k:=by simpa[ae]using z
  refine⟨?_,j' v _⟩;rw[br W (n+1) _ _ _ _ v,fu,aN _ _ _ _ (by omega)];rfl
 refine aH L fun V M=>s_ u x y I (n+1) b _ F E G (by rw[D];simp[ae]) (aA _ _ _) (M _ _ (K _ ?_));have O:aL (n+1) W (W.setCells (n+1) b (ae k q f).toArray.toList):=(aL.refl _ _).setCells _ _ _ (Or.inl rfl);have B:=jz (n+1) (ae k q f).toArray.toList b W _ t v (by simp[ae];exact A);have R:(splice (ae N kd g).toArray.toList b (ae k q f).toArray.toList).toArray=_:=yb J A;rw[R]at B;refine h.box O _ B fun e i T=>?_;by_cases C:b≤i∧i<b+k
 ·rw[aj C,H e (i-b) (by omega),show b+(i-b)=i by omega]
 ·rw[an C];exact P e i (by omega)
theorem RdS.begin {Z} (hZ:Z=(ae N kd fun _=>0).toArray) (a:Below (((w.alloc (.cells Z t)).alloc (.cells Z t))).heap.size ((w.alloc (.cells Z t)).alloc (.cells Z t)) W) (hn:w.heap.size=n) (d:∀b o,va=some ⟨b,o,none⟩→b<n) (hI:K1 (n+1+1) l va c 0 err W):RdS n N kd t l va c 0 err 0 r w W:=by subst hZ;subst hn;have e:Below w.heap.size w ((w.alloc (.cells (ae N kd fun _=>0).toArray t)).alloc (.cells (ae N kd fun _=>0).toArray t)):=dt.alloc (by simp) _;refine⟨(a.block _ (by simp;omega)).trans (aR _ _ _ _ (ak _ _ _ _ rfl)),⟨_,(a.block _ (by simp)).trans (ak _ _ _ _ (by simp)),fun _ k f=>by omega⟩,⟨0,hI,fun _=>rfl⟩,e.trans (a.mono (by simp;omega)),d⟩
theorem RdS.Tq (h:RdS n N kd t l va c p err m r w W) (k:Nat) (x:Int) (f:x=(k:Int)) (i:0<k) (g:k≤100000) (j:err=0→p+k≤l.length):
 Calls prog 61 #[.pointer (some ⟨n+1+1,0,none⟩),.int .i64 x] W fun e d=>∃v,e= .returned v∧∃b o a q,v= .slice (some ⟨b,o,none⟩) k a∧k≤a∧b<d.heap.size∧Row d (some ⟨b,o,none⟩) .u8 q∧q.length=k∧(err=0→q=(l.drop p).take k)∧RdS n N kd t l va c (p+k) err m r w d:=
 (h.kh k x f i g j).mono fun _ _ ⟨b,o,a,q,u,s⟩=>⟨_,u,b,o,a,q,rfl,s⟩
theorem RdS.open {Z:Array Value} (hZ:Z=(ae N kd fun _=>0).toArray) (k a:Nat) (x:Int) (h:x=(a:Int)) (i:l.length=k) (he:(if k=a then 0 else 4)=err) (j:a≤1000000) (hl:Row w va .u8 l) (s:l.length≤c) (hn:va=none→c=0) (d:∀b o,va=some ⟨b,o,none⟩→b<w.heap.size) (q:l.length≤70368744177664):
 Calls prog 59 #[.slice va k c,.int .i64 x,.int .i64 0] ((w.alloc (.cells Z t)).alloc (.cells Z t)) fun e g=>e= .returned (.pointer (some ⟨w.heap.size+1+1,0,none⟩))∧RdS w.heap.size N kd t l va c 0 err 0 r w g:=by
 subst h;subst i;subst he;have f:Below w.heap.size w ((w.alloc (.cells Z t)).alloc (.cells Z t)):=dt.alloc (by simp) _;refine(T3 l va c a _ (hl.later f) s hn (fun b o e=>du (d b o e) f.size) j q).mono fun _ _ ⟨y,v,u⟩=>⟨by rw[y];simp,RdS.begin hZ u rfl d (by simpa using v)⟩
theorem bA (l:List Int) (p k j) (h:j<k):((l.drop p).take k).getD j 0=l.getD (p+j) 0:=by simp only[List.getD,Aw,aj h,qD]
end
def rq:(prog.info? 26).map (·.size)=some 1:=by kernel_rfl
def gj:(prog.info? 4).map (·.size)=some 1:=by kernel_rfl
structure RqB (n N:Nat) (kd:Nat→CK) (t:TypeId) (m:Nat) (r:Nat→Int) (w W:World):Prop where
 hR:W.heap[n]?=some (.cells (ae N kd fun _=>0).toArray t (0,0))
 hX:∃g,W.heap[n+1]?=some (.cells (ae N kd g).toArray t (0,0))∧∀k,k<m→g k=r k
 hB:Below n w W
structure RqS (n N:Nat) (kd:Nat→CK) (t:TypeId) (m:Nat) (r:Nat→Int) (gp cp:Nat) (ps:List (List Int)) (w W:World):Prop extends RqB n N kd t m r w W where
 hP:g6 (n+1+1) (.slice (some ⟨gp,0,none⟩) ps.length cp) ps W
section
variable {n N:Nat} {kd:Nat→CK} {t:TypeId} {m:Nat} {r:Nat→Int} {gp cp:Nat} {ps:List (List Int)} {w W W':World}
theorem RqB.size (h:RqB n N kd t m r w W):n+2≤W.heap.size:=by obtain⟨g,a,_⟩:=h.hX;have:=aD a;omega
theorem RqB.later (h:RqB n N kd t m r w W) (a:Below W.heap.size W W'):RqB n N kd t m r w W':=by have hs:=h.size;obtain⟨g,c,b⟩:=h.hX;exact⟨(a.block n (by omega)).trans h.hR,⟨g,(a.block (n+1) (by omega)).trans c,b⟩,h.hB.trans (a.mono (by omega))⟩
theorem g6.move {b k v} (h:g6 b v ps W) (a:aL k W W') (H:k<b):g6 b v ps W':=by obtain⟨g,c,e,A,p,F⟩:=h;refine⟨g,c,e,A,du p a.size,fun i z=>?_⟩;obtain⟨u,G,E,q,D,C,d⟩:=F i z;refine⟨u,G,(iP (w:=W) (a.block g p (by omega))).trans E,⟨fun j y=>?_,q.ok⟩,D,C,fun b o e=>⟨(d b o e).1,du (d b o e).2 a.size⟩⟩;obtain⟨f,l,s,B⟩:=q.cell j y;have:=d f l s;exact⟨f,l,s,(iP (w:=W) (a.block f this.2 (by omega))).trans B⟩
theorem g6.later {b v} (h:g6 b v ps W) (a:Below W.heap.size W W'):g6 b v ps W':=by obtain⟨g,c,e,l,d,z⟩:=h;refine⟨g,c,e,l,du d a.size,fun i k=>?_⟩;obtain⟨j,A,y,u,s,q,f⟩:=z i k;exact⟨j,A,(a.cell (p:=⟨g,i,none⟩) d).trans y,u.later a,s,q,fun b o e=>⟨(f b o e).1,du (f b o e).2 a.size⟩⟩
theorem RqS.later (h:RqS n N kd t m r gp cp ps w W) (a:Below W.heap.size W W'):RqS n N kd t m r gp cp ps w W':=⟨h.toRqB.later a,h.hP.later a⟩
theorem RqS.part (h:RqS n N kd t m r gp cp ps w W) (i k q) (u:i<ps.length) (p:ps.getD i []=q) (s:q.length=k):∃a d,W.cell? ⟨gp,i,none⟩=some (.slice a k d)∧cG a d q W:=by
 obtain⟨g,c,e,C,B,z⟩:=h.hP;injection e with A E D
 cases A;obtain⟨a,d,f,l,y,j,v⟩:=z i u;rw[p]at f l j;rw[s]at f;exact⟨a,d,f,l,y,j,fun b o e=>(v b o e).2⟩
theorem RqS.box {b} (h:RqS n N kd t m r gp cp ps w W) (a:aL (n+1) W W') (g) (d:W'.heap[n+1]?=some (.cells (ae N kd g).toArray t (0,0))) (c:∀k,k<b→g k=r k):RqS n N kd t b r gp cp ps w W':=by have hs:=h.size;exact⟨⟨(a.block n (by omega) (by omega)).trans h.hR,⟨g,d,c⟩,a.below h.hB (by omega) (by omega)⟩,h.hP.move a (by omega)⟩
theorem RqB.res (h:RqB n N kd t N r w W):W.heap[n+1]?=some (.cells (ae N kd r).toArray t (0,0)):=by obtain⟨g,b,a⟩:=h.hX;rw[←bU (kd:=kd) a];exact b
theorem wI {f c o a Q} (F:o.guard=none) (i x y) (C:o.op= .store i x y) (b) (z:a.eval x= .pointer (some ⟨n+1,b,none⟩)) (u) (s:a.eval y=u) (v) (A:u=(kd b).mk v) (q:(prog.info? i).map (·.size)=some 1) (h:RqS n N kd t m r gp cp ps w W) (D:m=b) (p:b<N) (B:v=r b) (l:∀W',RqS n N kd t (b+1) r gp cp ps w W'→wpList prog f Q c (a.put o.dst undef) W'):wpList prog f Q (o::c) a W:=by
 obtain⟨g,L,J⟩:=h.hX;subst A;subst D;refine aH F fun K G=>bt i x y C (n+1) m z _ s (by cases kd m<;>rfl) q _ t L (by simp[ae];exact p) (fun W' H I=>G _ _ (l W' ?_));refine h.box I (fun k=>if k=m then v else g k) ?_ (fun k l=>?_)
 ·rw[H]
  congr 2
  refine pe (by simp[ae]) fun j E=>?_;rw[th];by_cases e:m=j
  ·subst e
   simp[ae,p]
  ·rw[an e,an (fun d=>e d.symm),fu,aN _ _ _ _ E]
 ·by_cases d:k=m
  ·rw[aj d,d];exact B
  ·rw[an d];exact J k (by omega)
theorem vV {e c o a Q} (H:o.guard=none) (l x y) (E:o.op= .store l x y) (b k) (B:a.eval x= .pointer (some ⟨n+1,b,none⟩)) (d f) (A:a.eval y= .agg (ae k d f).toArray) (z:(prog.info? l).map (·.size)=some k) (h:RqS n N kd t m r gp cp ps w W) (M:m=b) (F:∀j,j<k→kd (b+j)=d j) (s:b+k≤N) (D:∀j,j<k→f j=r (b+j)) (G:∀W',RqS n N kd t (b+k) r gp cp ps w W'→wpList prog e Q c (a.put o.dst undef) W'):wpList prog e Q (o::c) a W:=by
 obtain⟨g,p,K⟩:=h.hX
 have C:W.there (n+1) b (ae k d f).toArray.size:=fun j q=>by
  have q:j<k:=by simpa[ae]using q
  refine⟨?_,j' p _⟩;rw[br W (n+1) _ _ _ _ p,fu,aN _ _ _ _ (by omega)];rfl
 refine aH H fun P I=>s_ l x y E (n+1) b _ B A C (by rw[z];simp[ae]) (aA _ _ _) (I _ _ (G _ ?_));have J:aL (n+1) W (W.setCells (n+1) b (ae k d f).toArray.toList):=(aL.refl _ _).setCells _ _ _ (Or.inl rfl);have u:=jz (n+1) (ae k d f).toArray.toList b W _ t p (by simp[ae];exact s);have L:(splice (ae N kd g).toArray.toList b (ae k d f).toArray.toList).toArray=_:=yb F s;rw[L]at u;refine h.box J _ u fun i O=>?_;by_cases v:b≤i∧i<b+k
 ·rw[aj v,D (i-b) (by omega),show b+(i-b)=i by omega]
 ·rw[an v];exact K i (by omega)
theorem RqB.begin {Z} (hZ:Z=(ae N kd fun _=>0).toArray) (hn:w.heap.size=n):RqB n N kd t 0 r w ((w.alloc (.cells Z t)).alloc (.cells Z t)):=by subst hZ;subst hn;exact⟨aR _ _ _ _ (ak _ _ _ _ rfl),⟨_,ak _ _ _ _ (by simp),fun k a=>by omega⟩,dt.alloc (by simp) _⟩
theorem RqB.cut (h:RqB n N kd t 0 r w W) {V} (a) (hV:V=(HT a).toArray) {l f c k K} (hl:cG f c l W) (F:l.length=k) (s:a.length=K) (S:1≤K) (M:K≤64) (p:∀z∈a,z≠0∧z≤65536) (H:headN a=k):
 Calls prog 73 #[.slice f k c,.slice (some ⟨W.heap.size,0,none⟩) K K] (W.alloc (.cells V 3)) fun e u=>∃gp cp,e= .returned (.tuple #[.slice (some ⟨gp,0,none⟩) K cp,.int .i64 0])∧RqS n N kd t 0 r gp cp (cutL a l) w u:=by
 subst hV;subst F;have d:=CE a W;rw[nr]at d;have q:Below W.heap.size W (W.alloc (.cells (HT a).toArray 3)):=dt;have j:=hl.later q;have hs:=h.size;refine(Xc l f c W.heap.size a K K _ j.row j.low j.cap d s S M (fun z d=>(p z d).2) (fun z d=>(p z d).1) H.symm).mono fun _ U ⟨⟨v,R,g,cp,Q,P,O,L⟩,J⟩=>?_;have I:(cutL a l).length=K:=by rw[jc,s]
 rw[bn]at P;refine⟨g,cp,by rw[R,Q,I],(h.later q).later J,g,cp,rfl,by omega,O,fun i G=>?_⟩;obtain⟨y,T,E,D,C,B,A⟩:=L i G;exact⟨y,T,E,D,C,B,fun b o e=>by have:=A b o e;rw[bn]at this;omega⟩
def p9 (q:List Int):Int:=rdI (fun j=>q.getD j 0) 8
theorem Wp (q a c w) (hs:cG a c q w) (d:q.length=8):
 Calls prog 89 #[.slice a 8 c] w fun e b=>e= .returned (.tuple #[.int .u64 (p9 q),.int .i64 0])∧w=b:=by
 have h:=Fz q a c w hs.row;rw[d]at h;simpa[p9]using h
theorem xX (a l i p k) (b:∀z∈a,z≠0) (e:i<a.length) (c:headN (a.take i)=p) (d:a.getD i 0=k):(cutL a l).getD i []=(l.drop p).take k:=by rw[Dc a l i b e,c,d]
theorem oT (l:List Int) (p k S) (hl:l.length=S) (h:p+k≤S):((l.drop p).take k).length=k:=by rw[cf,bJ];omega
theorem iX {P e Q c a w d f pos i g} (t b k) {x} (j:a.eval x= .pointer (some ⟨b,k,none⟩)) (h:wpList P e Q (⟨d,.load t x,f,pos,i,g⟩::c) a w):wpList P e Q (⟨d,.load t x,f,pos,i,g⟩::c) a w:=h
end
end Go.Proofs.YtjeoeibdgciafaaGreatDoor
