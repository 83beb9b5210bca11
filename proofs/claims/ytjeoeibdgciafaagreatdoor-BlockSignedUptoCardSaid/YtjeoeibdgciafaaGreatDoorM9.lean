/- Steps of the proof. -/
import Derived.Test.YtjeoeibdgciafaaGreatDoorM8
set_option linter.all false
set_option maxRecDepth 100000
set_option maxHeartbeats 16000000
namespace Go.Proofs.YtjeoeibdgciafaaGreatDoor
open Go.RowKit BigFrame
open Go.Proofs.Tryz
def iT.apart {l s a b W k} (h:iT l s a W) (g:aL b W k) (v:b<a):iT l s a k:=by obtain⟨m,c,u,r,j,f⟩:=h;refine⟨m,c,u,r,⟨fun i n=>?_,j.ok⟩,fun d o e=>⟨(f d o e).1,du (f d o e).2 g.size⟩⟩;obtain⟨d,o,e,q⟩:=j.cell i n;exact⟨d,o,e,(g.cell (p:=⟨d,o+i,none⟩) (f d o e).2 (show d≠b by have:=(f d o e).1;omega)).trans q⟩
def iT.uW {l s a b W} (h:iT l s a W) (i:b≤a):iT l s b W:=by obtain⟨g,c,m,k,j,d⟩:=h;exact⟨g,c,m,k,j,fun f o e=>⟨bg i (d f o e).1,(d f o e).2⟩⟩
def HK (l m a c w) (j:Row w a .u8 l) (i:∀b o,a=some ⟨b,o,none⟩→b<w.heap.size) (g:l.length=m) (f:m<4294967296) (k:iO l=0):
 Calls prog 134 #[.slice a m c,.int .i64 64] w fun e d=>(∃s,e= .returned (.tuple #[s,.int .i64 0])∧iT (fi l) s w.heap.size d)∧Below w.heap.size w d:=by
 have h:=v8 l m a c w j i g f;rw[k]at h;exact h
def pN:(prog.info? 90).map (fun i=>(i.zero,i.size))=some (some (.agg (bI (.slice none 0 0) (fun _=>0) (fun _=>0)).toArray),197):=by kernel_rfl
def GZ:(prog.info? 88).map (·.size)=some 1:=by kernel_rfl
def Mq (l L k N c w) (D:cG N c l w) (I:l.length=L) (Bp:L=228+k) (cW:L<4294967296) (F:aK l 0=228) (kV:iO (l.drop 228)=0):
 Calls prog 69 #[.slice N L c] w fun e M=>(∃s,e= .returned (.tuple #[.agg (bI s (dp ((l.drop 4).take 128)) (fun j=>l.getD (132+j) 0)).toArray,.int .i64 0])∧iT (fi (l.drop 228)) s w.heap.size M)∧Below w.heap.size w M:=by
 have hs:=aa D;have hL:=aa I;have H:=aa Bp;have hE:=aa kV;clear kV;have kw:=aa (show ([0].map (aK l)++[l.length]).getD 0 0=228 from F);have eH:=aa (show ([0].map (aK l)++[l.length]).getD (0+1) 0=L from I);have vm:=aa (show 0+1<([0].map (aK l)++[l.length]).length from mE 1);have J:=aa (show ([0].map (aK l)++[l.length]).length≤1000 from(by decide:2≤1000));have YV:228≤L:=by omega
 have hL2:L<4294967296:=by omega
 have jE:=aa F;have Ft:=aa D.low;clear D I F Bp
 go_enter func69,ntmps69
 go_wp2_with (first
  |refine ao 90 ?_;refine fX 2 pN ?_
  |refine ao 90 ?_;refine fX 4 pN ?_
  |with_reducible refine(dr.open L 228 (228:Int) rfl hL.out 1 (1:Int) rfl (by decide) (err:=0) (aj (by omega)) (by decide) hs.out.row hs.out.cap hs.out.nil Ft.out (by rw[hL.out];omega)).mono ?_
   rintro e W ⟨rfl,a,y⟩;have d:=aa a;have hW:=aa y;clear a y
  |refine aV 63 ?_;refine aH rfl fun K m=>bV _ (dH _ _ (by rfl) (0:Int) (by rfl)) (m _ _ ?_);clear m K
   have a:=d.out.after ((aP _ W).alloc bG (.cells #[.int .i64 (0:Int)] 3));have y:=hW.out.later (((aP _ W).alloc hW.out.size (.cells #[.int .i64 (0:Int)] 3)));have hz:=d.out.size
  |with_reducible refine(dr.Fo a y 228 W.heap.size 1 1 (228:Int) rfl [0] (by rw[hL.out];omega) rfl (by decide) (by rw[hL.out];omega) (G5 W) (by rw[bn];omega) (by omega) (G6 (by rw[hL.out];omega)) (ux jE.out (by rw[hL.out];omega))).mono ?_
   clear a y hz;rintro e W2 ⟨rfl,r⟩;replace d:=aa r;clear hW;clear r
  |with_reducible refine(dr.later d.out vm.out J.out 228 L kw.out eH.out (by omega) (by rw[hL.out];exact cD _) (by rw[hL.out];omega) (by decide) k (by have:=H.out;omega)).mono ?_
   rintro e W ⟨vb,cb,rfl,n,G,a⟩;replace d:=aa a;rw[show (l.drop 228).take k=l.drop 228 from kL (by rw[bJ,hL.out];have:=H.out;omega)]at n G;have R:=aa (HK _ k vb cb W n.row n.low G (by have:=H.out;omega) hE.out);clear a n G
  |refine ag 41 ?_;refine dq (v:=(.int .i64 0)) d.out.dS fU ?_ rfl rfl rfl rfl
  |with_reducible refine R.out.mono ?_
   rintro e W2 ⟨⟨s,rfl,YU⟩,dX⟩;have a:=d.out.after dX;have g:=aa (YU.uW (show w.heap.size+3≤W.heap.size from d.out.size));replace d:=aa a;clear dX YU R;clear a
  |refine al 88 ?_;refine aF 88 (w.heap.size+1) 0 rfl ?_
   obtain⟨p,u,es,_⟩:=g.out;subst es;refine aH rfl fun K m=>bt 88 _ _ rfl (w.heap.size+1) 0 rfl _ rfl rfl GZ _ _ d.out.hX (by simp[bI]) (fun W3 fW C=>m _ _ ?_);clear m K;have a:=d.out.rj C (show W3.heap[w.heap.size+1]?=some (.cells (bI (.slice p (fi (l.drop 228)).length u) (fun _=>0) (fun _=>0)).toArray 90 (0,0))from fW);have h:=aa (g.out.apart C (by omega));replace d:=aa a;clear C fW;clear a
  |refine ag 41 ?_;refine dq (v:=(.int .i64 0)) d.out.dS fU ?_ rfl rfl rfl rfl
  |with_reducible refine(dr.kh d.out 128 (128:Int) rfl (by decide) (by decide) (fun _=>by rw[hL.out];omega)).mono ?_
   rintro e W5 ⟨vv,rfl,b,o',c',q,rfl,Z,nV,P,U,X,a,Er⟩;rw[aj rfl]at a;have g:=h.out.apart Er (by omega);have Q:=aa P;have E:=aa U;have Y:=aa (X rfl);replace d:=aa a;clear P U X Er h;have h:=aa g;clear a g
  |with_reducible refine(AZ q (some ⟨b,o',none⟩) c' _ Q.out (by rw[E.out];exact Z) (fun e=>by cases e) (fun b o e=>by cases e;exact nV) E.out).mono ?_
   rintro e A ⟨rfl,n⟩;have a:=d.out.after n;have g:=h.out.later n;replace d:=aa a;clear n Z nV Q h;have h:=aa g;clear a g
  |refine ao 82 ?_;refine aw rfl rfl 82 _ _ rfl rfl rfl (ae 100 ba (dp q)).toArray rfl rfl (zeroOf prog 82) (aG gl).1 (aG gl).2 (aA _ _ _) ?_
  |refine ag 82 ?_;refine ab (by rfl) _ (ay _ 82 _ (by rfl) A.heap.size (by rfl) _ _ (0,0) _ (ak A (ae 100 ba (dp q)).toArray 82 A.heap.size rfl) Bi rfl (by rw[ah gl];simp[ae])) ?_
  |refine al 82 ?_;refine aF 82 (w.heap.size+1) 1 rfl ?_;refine iv rfl 82 _ _ rfl 1 rfl (ae 100 ba (dp q)) rfl (by rw[ah gl,ac]) cl (d.out.after dt) [.slice p (fi (l.drop 228)).length u] (ae 100 ba fun _=>0) (ae 96 (fun _=> .u8) fun _=>0) rfl rfl (by rw[ac,ac]) (fun W7 a wl=>?_)
   have g:=(h.out.later ((aP _ A).alloc bG (.cells (ae 100 ba (dp q)).toArray 82))).apart wl (by omega);replace d:=aa a;clear h wl;have h:=aa g;clear a g
  |with_reducible refine(dr.fail d.out 0 0 (0:Int) rfl rfl).mono ?_
   rintro e W8 ⟨rfl,a,KW⟩;have g:=h.out.apart KW (by omega);replace d:=aa a;clear h KW;have h:=aa g
   clear a g)
 rename_i K m;refine dQ (S:=fun _=>True) (by kernel_rfl) ?_;have GH:True:=trivial;refine gY 0 1 2 (.pointer (some ⟨w.heap.size+1,101,none⟩)) (.slice (some ⟨w.heap.size+1,101,none⟩) 96 96) (.pointer (some ⟨w.heap.size+1+1,0,none⟩)) rfl (by kernel_rfl) (fun _=>by kernel_rfl) bH ‹_› ?_;go_frame;refine cQ (i:=3) rfl (by kernel_rfl) rfl (it 61 #[.pointer (some ⟨w.heap.size+1+1,0,none⟩),.int .i64 96] (by go_simp) _ ((d.out.drew _).kh 96 (96:Int) rfl (by decide) (by decide) (fun _=>by rw[hL.out];omega)) ?_);rintro v W9 ⟨b2,o2,c2,B,rfl,Ez,EB,O,T,V,a,xm⟩;have g:=h.out.apart ((aL.begin _ _).trans xm) (by omega);refine⟨trivial,?_⟩;go_frame;refine cQ (i:=4) rfl (by kernel_rfl) rfl (og _ _ rfl 101 96 b2 o2 c2 96 rfl rfl a (.slice p (fi (l.drop 228)).length u::ae 100 ba (dp q)) [] (fun _=>0) (by simp) (by simp[ac]) B O T (fun Ra r GO=>⟨trivial,?_⟩));have Ry:=g.apart GO (by omega);refine dM (by kernel_rfl) ?_ _;refine m _ _ ?_;have e1:=Y.out;have e2:=V rfl
 have z:(.slice p (fi (l.drop 228)).length u::ae 100 ba (dp q)++(ae 96 (fun _=> .u8) (fun i=>B.getD i 0)++[]):List Value)=bI (.slice p (fi (l.drop 228)).length u) (dp ((l.drop 4).take 128)) (fun i=>l.getD (132+i) 0):=by rw[←qR (f:=fun i=>B.getD i 0) (fun i hi=>by rw[e2];exact bA _ _ _ _ hi),e1];simp[bI]
 rw[z,aj rfl]at r;replace d:=aa r;clear m K GH O Ez EB V T a h g xm GO e1 e2 z Y E;have h:=aa Ry;clear r Ry;generalize goInt 96=gi;go_frame
 go_wp2_with (first
  |refine ag 41 ?_;refine dq (v:=(.int .i64 0)) d.out.dS fU ?_ rfl rfl rfl rfl
  |refine ag 90 ?_;refine ab (by rfl) _ (ay _ 90 _ (by rfl) (w.heap.size+1) (by rfl) _ _ (0,0) _ d.out.hX Ig rfl (by rw[ki,cI,bp])) ?_
  |refine al 90 ?_;refine aF 90 w.heap.size 0 rfl ?_;refine aH rfl fun K m=>wp_store_row 90 _ _ rfl w.heap.size rfl _ rfl (kj _ _ _ _ _) (by rw[ki,cI,bp]) _ 90 d.out.hR (by rw[cI,bp,cI,bp]) (fun nB iJ eK=>m _ _ ?_);clear m K)
 have Vm:=(h.out.apart eK (by omega)).uW (show w.heap.size≤w.heap.size+3 by omega);exact aI rfl w.heap.size 0 (bI (.slice p (fi (l.drop 228)).length u) (dp ((l.drop 4).take 128)) (fun i=>l.getD (132+i) 0)) _ rfl (aE iJ) Ig rfl (by rw[ki,bp]) rfl ⟨⟨_,rfl,Vm⟩,eK.below d.out.hB bG (by have:=d.out.size;omega)⟩
def EO (l m a c w) (u:Row w a .u8 l) (r:∀b o,a=some ⟨b,o,none⟩→b<w.heap.size) (q:l.length=m) (p:m<4294967296) {f} (j:iO l=f) (n:¬(f=0)):
 Calls prog 134 #[.slice a m c,.int .i64 64] w fun e i=>(∃d g,e= .returned (.tuple #[.slice d 0 g,.int .i64 (f:Int)]))∧Below w.heap.size w i:=by
 have h:=v8 l m a c w u r q p;rw[j]at h;refine h.mono fun e i ⟨⟨s,z,k⟩,y⟩=>⟨?_,y⟩;have v:fi l=[]:=by unfold fi;rw[an (by rw[j];exact n)]
 rw[v]at k;obtain⟨d,g,A,_⟩:=k;exact⟨d,g,by rw[z,A];rfl⟩
def uj {a o} (w) (b:o.op= .build 90 #[]):(execOp a o).run prog w= .ok (.value (.agg (bI (.slice none 0 0) (fun _=>0) (fun _=>0)).toArray)) w:=by
 have h:(Instr.build 90 #[]).run prog w= .ok (.agg (bI (.slice none 0 0) (fun _=>0) (fun _=>0)).toArray) w:=by kernel_rfl
 exact run_build 90 #[] b _ h
abbrev Pq (l:List Int) (a:Nat) (E:Prop):Prop:=(l.length<228∧a=4)∨(228≤l.length∧aK l 0≠228∧a=5)∨(228≤l.length∧aK l 0=228∧E)
def dr.sx {n Z s f g t d e l b c a i w W} (h:dr n Z (bI s f g).toArray t d e l b c a i w W):∃s,dr n Z (bI s f g).toArray t d e l b c a i w W:=⟨s,h⟩
def Du (l q c w) (P:cG q c l w) (X:∀b o,q=some ⟨b,o,none⟩→b<w.heap.size) (Z:l.length≤70368744177664) (f) (r:f≠0):
 (Pq l f (xN (l.length-228)=(f:Int))→Calls prog 133 #[.slice q l.length c] w fun e j=>e= .returned (.tuple #[.agg (bI (.slice none 0 0) (fun _=>0) (fun _=>0)).toArray,.int .i64 (f:Int)])∧Below w.heap.size w j)∧
 (l.length<4294967296→Pq l f (iO (l.drop 228)=f)→Calls prog 69 #[.slice q l.length c] w fun e j=>e= .returned (.tuple #[.agg (bI (.slice none 0 0) (fun _=>0) (fun _=>0)).toArray,.int .i64 (f:Int)])∧Below w.heap.size w j):=by
 have nU:((f:Int)==0)=false:=by simp;omega
 have Zj:((f:Int) !=0)=true:=by simp;omega
 have hs:=aa P;have V:=aa X;obtain⟨L,C⟩:∃L,l.length=L:=⟨_,rfl⟩;have hL:=aa C;have alF:L≤70368744177664:=by omega
 clear P X;unfold Pq;rw[C];refine⟨fun h=>?_,fun hf h=>?_⟩<;>rcases h with⟨hb,H⟩|⟨hb,A,H⟩|⟨hb,A,u⟩<;>
 (first
   |obtain⟨k,E⟩:∃k,L=228+k:=⟨L-228,by omega⟩
    have kw:=aa (show ([0].map (aK l)++[l.length]).getD 0 0=228 from A);have eH:=aa (show ([0].map (aK l)++[l.length]).getD (0+1) 0=L from C);have vm:=aa (show 0+1<([0].map (aK l)++[l.length]).length from mE 1);have J:=aa (show ([0].map (aK l)++[l.length]).length≤1000 from(by decide:2≤1000));have Y:=aa E
    first
    |rw[show L-228=k by omega]at u
     have F:=aa (fun q c w=>UQ q c k (f:Int) w (by omega) u (by omega));clear u E
    |(have F:=aa (fun q c w h1 h2 h3=>EO (l.drop 228) k q c w h1 h2 h3 (by omega) u r)
      clear u E)
   |skip
  try (have U:=aa A
       clear A)
  clear C
  first
  |go_enter func133,ntmps133
  |go_enter func69,ntmps69
  go_wp2_with (first
   |refine ao 84 ?_;refine fX 2 pM ?_
   |refine ao 84 ?_;refine fX 4 pM ?_
   |refine ao 90 ?_;refine fX 2 pN ?_
   |refine ao 90 ?_;refine fX 4 pN ?_
   |with_reducible refine(dr.open L 228 (228:Int) rfl hL.out 1 (1:Int) rfl (by decide) (err:=4) (an (by omega)) (by decide) hs.out.row hs.out.cap hs.out.nil V.out Z).mono ?_
    rintro e W ⟨rfl,d,n⟩;rw[←H]at d;have a:=aa d;clear d n
   |with_reducible refine(dr.open L 228 (228:Int) rfl hL.out 1 (1:Int) rfl (by decide) (err:=0) (aj (by omega)) (by decide) hs.out.row hs.out.cap hs.out.nil V.out Z).mono ?_
    rintro e W ⟨rfl,d,n⟩;have a:=aa d;have hW:=aa n;clear d n
   |refine aV 63 ?_;refine aH rfl fun K g=>bV _ (dH _ _ (by rfl) (0:Int) (by rfl)) (g _ _ ?_);clear g K
    have d:=a.out.after ((aP _ W).alloc bG (.cells #[.int .i64 (0:Int)] 3));have N:=a.out.size
    first
     |have n:=hW.out.later (((aP _ W).alloc hW.out.size (.cells #[.int .i64 (0:Int)] 3)))
     |(clear a
       have a:=aa d
       clear d)
   |with_reducible refine(dr.NY a.out r (228:Int) _ 1 1).mono ?_
    rintro e D ⟨rfl,d⟩;replace a:=aa d;clear d
   |with_reducible refine(dr.NX d n 228 W.heap.size 1 1 (228:Int) rfl [0] (by rw[hL.out];omega) rfl (by decide) (by rw[hL.out];omega) (G5 W) (by rw[bn];omega) (by omega) (G6 (by rw[hL.out];omega)) (A1 U.out)).mono ?_
    clear d n N;rintro e D ⟨rfl,aB,m⟩;clear a hW;rw[←H]at m;have a:=aa m;clear m
   |with_reducible refine(dr.Fo d n 228 W.heap.size 1 1 (228:Int) rfl [0] (by rw[hL.out];omega) rfl (by decide) (by rw[hL.out];omega) (G5 W) (by rw[bn];omega) (by omega) (G6 (by rw[hL.out];omega)) (ux U.out (by rw[hL.out];omega))).mono ?_
    clear d n N;rintro e D ⟨rfl,m⟩;replace a:=aa m;clear hW;clear m
   |with_reducible refine(dr.Z4 a.out r).mono ?_
    rintro e I ⟨rfl,d⟩;replace a:=aa d;clear d
   |((with_reducible refine(dr.later a.out vm.out J.out 228 L kw.out eH.out (by omega) (by rw[hL.out];exact cD _) (by rw[hL.out];omega) (by decide) k (by have:=Y.out;omega)).mono ?_)
     rintro e W ⟨M,cb,rfl,s,B,d⟩;replace a:=aa d;clear d
     first
      |rw[show (l.drop 228).take k=l.drop 228 from kL (by rw[bJ,hL.out];have:=Y.out;omega)]at s B
       have R:=aa (F.out M cb W s.row s.low B);clear s B
      |clear s B)
   |refine ag 41 ?_;refine dq (v:=(.int .i64 (f:Int))) a.out.dS fU ?_ rfl rfl rfl rfl
   |refine ag 41 ?_;refine dq (v:=(.int .i64 0)) a.out.dS fU ?_ rfl rfl rfl rfl
   |with_reducible refine(F.out M cb _).mono ?_
    rintro e D ⟨rfl,rfl⟩
   |with_reducible refine R.out.mono ?_
    rintro e D ⟨⟨vn,cn,rfl⟩,dX⟩;replace a:=aa (a.out.after dX);clear dX R
   |refine al 88 ?_;refine aF 88 (w.heap.size+1) 0 rfl ?_
    refine aH rfl fun K g=>bt 88 _ _ rfl (w.heap.size+1) 0 rfl _ rfl rfl GZ _ _ a.out.hX (by simp[bI]) (fun I fW O=>g _ _ ?_);clear g K;replace a:=aa (a.out.rj O (show I.heap[w.heap.size+1]?=some (.cells (bI (.slice vn 0 cn) (fun _=>0) (fun _=>0)).toArray 90 (0,0))from fW));clear O fW
   |with_reducible refine(dr.fail a.out f f (f:Int) rfl (aj rfl)).mono ?_
    rintro e I ⟨rfl,d,xf⟩;clear xf;replace a:=aa d
    clear d)
  try refine wp_loop_once ?_
  obtain⟨sx,z⟩:=dr.sx a.out;replace a:=aa z;clear z
  go_wp2_with (
   ((with_reducible refine ag 41 ?_);refine dq (v:=(.int .i64 (f:Int))) a.out.dS fU ?_ rfl rfl rfl rfl))
  rename_i K g;refine dQ (S:=fun _=>True) (by kernel_rfl) ?_;have GH:True:=trivial;refine gY 0 1 2 (.pointer (some ⟨w.heap.size+1,101,none⟩)) (.slice (some ⟨w.heap.size+1,101,none⟩) 96 96) (.pointer (some ⟨w.heap.size+1+1,0,none⟩)) rfl (by kernel_rfl) (fun _=>by kernel_rfl) bH ‹_› ?_;go_frame;refine cQ (i:=3) rfl (by kernel_rfl) rfl (it 61 #[.pointer (some ⟨w.heap.size+1+1,0,none⟩),.int .i64 96] (by go_simp) _ ((a.out.drew _).kh 96 (96:Int) rfl (by decide) (by decide) (fun h=>absurd h r)) ?_);rintro v W9 ⟨b2,o2,c2,q2,rfl,Ez,EB,Q,T,zd,d,xm⟩;refine⟨trivial,?_⟩;go_frame;refine cQ (i:=4) rfl (by kernel_rfl) rfl (og _ _ rfl 101 96 b2 o2 c2 96 rfl rfl d (sx::ae 100 ba (fun _=>0)) [] (fun _=>0) (by simp[bI]) (by simp[ac]) q2 Q T (fun y m GO=>⟨trivial,?_⟩));refine dM (by kernel_rfl) ?_ _;refine g _ _ ?_;rw[an r]at m;replace a:=aa m;clear g K GH Q Ez EB zd T d xm GO;clear m;generalize goInt 96=gi;go_frame
  go_wp2_with (
   ((with_reducible refine ag 41 ?_);refine dq (v:=(.int .i64 (f:Int))) a.out.dS fU ?_ rfl rfl rfl rfl))
  rename_i K g;have V1:=a.out.size;refine dQ (S:=fun j=>j.cell? ⟨w.heap.size+1+1,4,none⟩=some (.int .i64 (f:Int))) (by kernel_rfl) ?_;have H_:({y with drawn:=y.drawn+1}:World).cell? ⟨w.heap.size+1+1,4,none⟩=some (.int .i64 (f:Int)):=a.out.dS;refine aJ (i:=0) (v:=(.agg (bI (.slice none 0 0) (fun _=>0) (fun _=>0)).toArray)) rfl (by kernel_rfl) bH ‹_› (fun j _=>by first|exact uh j rfl|exact uj j rfl) ?_;go_frame;refine gY 1 2 3 (.pointer (some ⟨w.heap.size+1+1,0,none⟩)) (.pointer (some ⟨w.heap.size+1+1,0,none⟩)) (.pointer (some ⟨w.heap.size+1+1,4,none⟩)) rfl (by kernel_rfl) (fun _=>by kernel_rfl) bH ‹_› ?_;go_frame;refine aJ (i:=4) (v:=(.int .i64 (f:Int))) rfl (by kernel_rfl) bH ‹_› (fun j cX=>au _ 41 _ (by rfl) ⟨w.heap.size+1+1,4,none⟩ (by rfl) _ cX _ fU rfl) ?_;go_frame;refine cQ (i:=5) rfl (by kernel_rfl) rfl (wp_store_row _ _ _ rfl w.heap.size rfl _ rfl (kj _ _ _ _ _) (by first|rw[cS,cI,bp]|rw[ki,cI,bp]) _ _ (a.out.drew _).hR (by simp[bI,ac]) (fun nB iJ G=>⟨(G.cell (p:=⟨w.heap.size+1+1,4,none⟩) (by show w.heap.size+1+1<y.heap.size;omega) (show w.heap.size+1+1≠w.heap.size by omega)).trans a.out.dS,?_⟩));replace H_:nB.cell? ⟨w.heap.size+1+1,4,none⟩=some (.int .i64 (f:Int)):=(G.cell (p:=⟨w.heap.size+1+1,4,none⟩) (by show w.heap.size+1+1<y.heap.size;omega) (show w.heap.size+1+1≠w.heap.size by omega)).trans a.out.dS;go_frame;refine aJ (i:=6) (v:=(.int .i64 (f:Int))) rfl (by kernel_rfl) bH ‹_› (fun j cX=>by go_simp) ?_;go_frame;refine dM (by kernel_rfl) ?_ _;simp only[Exit.then];refine g _ _ ?_;have dY:Below w.heap.size w nB:=G.below (a.out.drew _).hB bG (by show w.heap.size≤y.heap.size;omega);clear H_ g K;go_wp2
  first
   |exact aI rfl w.heap.size 0 (bI (.slice none 0 0) (fun _=>0) (fun _=>0)) _ rfl (aE iJ) nC rfl (by rw[cS,bp]) rfl ⟨rfl,dY⟩
   |exact aI rfl w.heap.size 0 (bI (.slice none 0 0) (fun _=>0) (fun _=>0)) _ rfl (aE iJ) Ig rfl (by rw[ki,bp]) rfl ⟨rfl,dY⟩)
def mr {P g o} (w t e x y z) (u:o.op= .slice t x (some y) (some z) none) (p:P.underlying t=some (.slice e)) (h:Nat) (r:(P.info? e).map (·.size)=some h) (b c f a d n:Nat) (l:g x= .slice (some ⟨b,c,none⟩) f a) (i:Int) (k:g y= .int .i64 i) (A:i=(d:Int)) (m:Int) (j:g z= .int .i64 m) (v:m=((d+n:Nat):Int)) (C:0<n) (B:d+n≤a) (q:Nat) (s:c+d*h=q):
 (execOp g o).run P w= .ok (.value (.slice (some ⟨b,q,none⟩) n (a-d))) w:=by
 subst A;subst v;exact qh w t e x y z u p h r b c f a d n l k j C B q s
def uw {f g:Nat→Int}:∀k,(∀j,j<k→f j=g j)→rdI f k=rdI g k
 |0,_=>rfl
 |k+1,h=>by show rdI f k+f k*2^(8*k)=rdI g k+g k*2^(8*k);rw[uw k fun j a=>h j (by omega),h k (by omega)]
def qM (l s):aK ((l.drop s).take 4) 0=aK l s:=by
 unfold aK
 congr 1
 exact uw 4 fun j a=>by rw[bY];exact bA _ _ _ _ a
def cutA (a:List Nat):Nat→List Nat
 |0=>[]
 |j+1=>if a.getD j 0=0 then cutA a j++[headN (a.take j)]else cutA a j
def Hr (a:List Nat):∀j,(cutA a j).length≤j
 |0=>cD _
 |j+1=>by
  have h:=Hr a j;simp only[cutA];split
  ·simp only[bM,List.length_singleton];omega
  ·omega
def z7 (a j n) (h:j≤n):(cutA a j).length≤(cutA a n).length:=by
 induction n with
 |zero=>obtain rfl:j=0:=by omega
        exact cD _
 |succ n b=>
  by_cases e:j=n+1
  ·subst e;exact cD _
  ·refine bg (b (by omega)) ?_
   simp only[cutA];split
   ·simp only[bM];omega
   ·exact cD _
def gU (a:List Nat) (l:List Int):List Nat:=(cutA a a.length).map (aK l)++[l.length]
def ik (a:List Nat) (l:List Int) (q:Nat):List Int:=
 if a.getD q 0=0 then(l.drop ((gU a l).getD (cutA a q).length 0)).take ((gU a l).getD ((cutA a q).length+1) 0-(gU a l).getD (cutA a q).length 0)
 else(l.drop (headN (a.take q))).take (a.getD q 0)
def fV (a:List Nat) (l:List Int):List (List Int):=(List.range a.length).map (ik a l)
def dO (a l):(fV a l).length=a.length:=by simp[fV]
def fN (a l i) (h:i<a.length):(fV a l).getD i []=ik a l i:=by simp[fV,List.getD,h]
def Ju {g L m a} (h:bz g L a m) (c:a.length=m) (v) (f:v<m):(a++[L]).getD v 0≤(a++[L]).getD (v+1) 0∧(a++[L]).getD (v+1) 0≤L:=by
 have j:(a++[L]).getD v 0=a.getD v 0:=by simp only[List.getD,eY (show v<a.length by omega)]
 have i:=h v f;unfold g5 at i;rw[j];by_cases e:v+1=m
 ·have b:(a++[L]).getD (v+1) 0=L:=by
   simp only[List.getD,fT (show a.length≤v+1 by omega),c,e,Ar];simp[c]
  rw[b];omega
 ·have b:(a++[L]).getD (v+1) 0=a.getD (v+1) 0:=by simp only[List.getD,eY (show v+1<a.length by omega)]
  have d:=h (v+1) (by omega);unfold g5 at d;rw[an (by omega),rV]at d;rw[b];omega
def ma (c k:Nat) (v:Value) (a:Nat→List Int) (W:World):Prop:=∃e:List Value,W.ownsRow c 39 1 v k e∧e.length=k∧∀i,i<k→∃d f,e[i]?=some (.slice d (a i).length f)∧Row W d .u8 (a i)∧(d=none→f=0)∧(a i).length≤f∧∀b o,d=some ⟨b,o,none⟩→b<W.heap.size∧v.ownBlock≠some b∧c≤b
def ma.nil (b a W):ma b 0 (.slice none 0 0) a W:=⟨[],⟨rfl,Or.inl ⟨rfl,rfl⟩⟩,rfl,fun i c=>absurd c (by omega)⟩
def ma.later {c k v a W W'} (h:ma c k v a W) (d:Below W.heap.size W W'):ma c k v a W':=by obtain⟨g,u,s,r⟩:=h;refine⟨g,aU u d,s,fun i l=>?_⟩;obtain⟨j,w,q,p,n,m,f⟩:=r i l;exact⟨j,w,q,p.later d,n,m,fun b o e=>⟨du (f b o e).1 d.size,(f b o e).2⟩⟩
def ma.form {b k v a W} (h:ma b k v a W):∃d c,v= .slice d k c:=by obtain⟨g,f,_⟩:=h;obtain⟨d,c,e,_⟩:=aW f;exact⟨d,c,e⟩
def ma.step {base k:Nat} {v v':Value} {part:Nat→List Int} {W g} {r:List Value} (C:r.length=k) (K:∀i,i<k→∃a n,r[i]?=some (.slice a (part i).length n)∧Row W a .u8 (part i)∧(a=none→n=0)∧(part i).length≤n∧∀b o,a=some ⟨b,o,none⟩→b<W.heap.size∧v.ownBlock≠some b∧base≤b) {vp:Option Addr} {c:Nat} (p:Row W vp .u8 (part k)) (hn:vp=none→c=0) (s:(part k).length≤c) (l:∀b o,vp=some ⟨b,o,none⟩→b<W.heap.size∧v.ownBlock≠some b∧base≤b) (q:g.ownsRow base 39 1 v' (k+1) (r++[.slice vp (part k).length c])) (D:∀j,j<W.heap.size→some j≠v.ownBlock→g.heap[j]?=W.heap[j]?) (h:v'.ownBlock=v.ownBlock∨v'.ownBlock=some W.heap.size) (hs:W.heap.size≤g.heap.size):ma base (k+1) v' part g:=by
 have E:∀d,d<W.heap.size→v.ownBlock≠some d→g.heap[d]?=W.heap[d]?:=fun d q u=>D d q (fun e=>u e.symm)
 have B:∀d,d<W.heap.size→v.ownBlock≠some d→v'.ownBlock≠some d:=fun d q u e=>by
  rcases h with h|h
  ·exact u (h▸e)
  ·rw[h]at e;cases e;omega
 have A:∀a m,Row W a .u8 m→(∀b o,a=some ⟨b,o,none⟩→b<W.heap.size∧v.ownBlock≠some b∧base≤b)→Row g a .u8 m:=fun a m p f=>⟨fun j F=>by
  obtain⟨y,z,e,s⟩:=p.cell j F;have:=f y z e
  exact⟨y,z,e,(iP (w:=W) (E y this.1 this.2.1)).trans s⟩,p.ok⟩
 refine⟨_,q,by simp[C],fun i L=>?_⟩;by_cases e:i=k
 ·subst e
  exact⟨vp,c,by rw[fT (by omega),C];simp,A _ _ p l,hn,s,fun b o e=>⟨du (l b o e).1 hs,B b (l b o e).1 (l b o e).2.1,(l b o e).2.2⟩⟩
 ·obtain⟨a,n,J,I,H,G,f⟩:=K i (by omega)
  exact⟨a,n,by rw[eY (by omega)];exact J,A _ _ I f,H,G,fun b o e=>⟨du (f b o e).1 hs,B b (f b o e).1 (f b o e).2.1,(f b o e).2.2⟩⟩
def ma.parts {b o k v a W} (h:ma b k v a W) (H:o≤b) (G:1≤k) (c) (r:c.length=k) (he:∀i,i<k→c.getD i []=a i):g6 o v c W:=by
 obtain⟨F,A,I,z⟩:=h;rcases A.2 with⟨n,C⟩|⟨g,d,E,n,C,m,L,K,J,B⟩
 ·omega
 ·subst r
  refine⟨g,d,n,by omega,aD m,fun i j=>?_⟩;obtain⟨q,D,y,w,u,s,l⟩:=z i j;refine⟨q,D,?_⟩;rw[he i j];refine⟨?_,w,u,s,fun p f e=>⟨by have:=(l p f e).2.2;omega,(l p f e).1⟩⟩;rw[br W g i _ _ _ m,←y,←B,nO (by omega)];simp
def xY {a n c f l w} (h:bc a (.slice f n c) l w):∀b o,f=some ⟨b,o,none⟩→a≤b∧b<w.heap.size:=fun b o e=>by
 subst e;rcases h.2 with⟨d,_⟩|⟨g,p,m,d,k,j,_⟩
 ·cases d
 ·injection d with i r q
  cases i;exact⟨k,aD j⟩
def OQ (a l n m q) (hn:a.length=n) (e:(cutA a n).length=m) (f:bz (headN a) l.length ((cutA a n).map (aK l)) m) (d:q<n) (c:a.getD q 0=0):
 (cutA a q).length<m∧(gU a l).getD (cutA a q).length 0≤(gU a l).getD ((cutA a q).length+1) 0∧(gU a l).getD ((cutA a q).length+1) 0≤l.length:=by
 have i:(cutA a (q+1)).length=(cutA a q).length+1:=by simp only[cutA,aj c,bM,List.length_singleton]
 have h:=z7 a (q+1) n d;have b:(cutA a q).length<m:=by omega
 have g:=Ju f (by rw[jK];exact e) (cutA a q).length b;unfold gU;rw[hn];exact⟨b,g⟩
def Gv (l va c y d n cs w) (fz:cG va c l w) (hZ:et y d w) (hn:d.length=n) (u:1≤n) (xg:n≤64) (hz:∀z∈d,z≤65536) (hl:headN d≤l.length) (ni:0<headN d) (cW:l.length≤70368744177664) (m) (HV:(cutA d n).length=m) (hmp:0<m) (G:Prop) (sP:G↔bz (headN d) l.length ((cutA d n).map (aK l)) m):
 Calls prog 73 #[.slice va l.length c,.slice (some ⟨y,0,none⟩) n cs] w fun e D=>((G→∃v,e= .returned (.tuple #[v,.int .i64 0])∧g6 w.heap.size v (fV d l) D)∧(¬G→e= .returned (.tuple #[.slice none 0 0,.int .i64 5])))∧Below w.heap.size w D:=by
 have Cl:=aa (fun(hg:G) q (hq:q<n) (hz:d.getD q 0=0)=>OQ d l n m q hn HV (sP.1 hg) hq hz);have hS:=aa (pS y d n cs w hZ hn u xg hz);have hH:=aa (yu y d n cs w hZ hn xg hz);have mL:=aa (fun i (N:i<n)=>hZ.cell i (by omega));have qv:y<w.heap.size:=aD hZ;have hle:=tV hz;rw[hn]at hle;have HU:=aa (mW d);have O0:=aa (fun k (hk:k<n)=>lF d k (by omega));have T:=aa (fun j=>show cutA d (j+1)=if d.getD j 0=0 then cutA d j++[headN (d.take j)]else cutA d j from rfl);have U:=aa (Hr d);have hAm:=aa (z7 d);have sX:headN (d.take n)=headN d:=by rw[←hn,gC]
 have Jb:=aa sX;have hOe:(cutA d n).map (aK l)++[l.length]=gU d l:=by unfold gU;rw[hn]
 have kU:=aa hOe;have Bd:=aa fz;have Rj:=aa (fun i (N:i<n)=>show d.getD i 0≤65536 from hz _ (by simp[List.getD,show i<d.length by omega]));have Tl:∀q,ik d l q=if d.getD q 0=0 then(l.drop ((gU d l).getD (cutA d q).length 0)).take ((gU d l).getD ((cutA d q).length+1) 0-(gU d l).getD (cutA d q).length 0)else(l.drop (headN (d.take q))).take (d.getD q 0):=fun q=>rfl
 have mH:=aa Tl;have wt:=aa (fun i (N:i<n)=>fN d l i (by omega));have pB:=aa (show (fV d l).length=n by rw[dO,hn]);obtain⟨X,L,rfl,_⟩:=fz.row.cell 0 (by omega);have GG:=fz.low X L rfl;have l_:=fz.cap;clear hZ hn hz fz sX hOe Tl;have t1:decide ((l.length:Int)<(headN d:Int))=false:=by simp;omega
 have t1n:decide (l.length<headN d)=false:=by simp;omega
 have hG:=aa sP;have Pg:=aa HV;clear sP HV
 go_enter func73,ntmps73
 go_wp2_with (first
  |with_reducible refine hS.out.mono ?_
   rintro e W ⟨rfl,rfl⟩;clear hS
  |with_reducible refine hH.out.mono ?_
   rintro e W ⟨rfl,rfl⟩
   clear hH)
 go_loopw [7,8,9] (fun x k i wr=>∃j:Nat,j≤n∧i= .int .i64 (j:Int)∧k= .int .i64 ((headN (d.take j):Nat):Int)∧(∃va c,x= .slice va (cutA d j).length c)∧wr.ownsRow w.heap.size 3 1 x (cutA d j).length (((cutA d j).map (aK l)).map fun m:Nat=>Value.int .i64 (m:Int))∧Below w.heap.size w wr) (fun _ _ i _=>n-(intOf i).toNat)
 case atStart=>exact⟨0,by omega,rfl,rfl,⟨none,0,rfl⟩,⟨rfl,Or.inl ⟨rfl,rfl⟩⟩,aP _ _⟩
 case round=>
  obtain⟨j,hj,rfl,rfl,⟨vx,cx,rfl⟩,hX,hB⟩:=hrel;have hm:=HU.out j;have O3:=aa hX;clear hX;by_cases J:j<n
  ·have m6:=aa ((hB.cell (p:=⟨y,j,none⟩) qv).trans (mL.out j J))
   have I:=O0.out j J;have VE:=HU.out (j+1);have Q:=T.out j;have hAj:=U.out j;have xk:=Rj.out j J;clear mL HU O0 T U hAm mH wt pB kU Rj;generalize d.getD j 0=z at*;generalize headN (d.take j)=s at*;generalize vl:headN (d.take (j+1))=s2 at*;have Ln:=aa vl;generalize cutA d j=A at*;generalize Ie:cutA d (j+1)=A2 at*;have EC:=aa Ie;clear vl Ie;by_cases h0:z=0
   ·subst h0
    rw[aj rfl]at I Q;subst Q;have QZ:=aa I;have dC:=aa (jk (Bd.out.row.later hB) s 4 (by omega));have BC:((l.drop s).take 4).length=4:=by rw[cf,bJ];omega
    have Ir:=aa BC;have hs4:s+4≤headN d:=by omega
    have kw:=qM l s;have RY:=aa kw;clear I BC kw;have kt:=hB.size
    go_wp2_with (first
     |refine aC 63 ?_;refine ab (by rfl) _ (ai _ 63 3 _ _ rfl dZ 1 d6 y 0 n cs rfl .i64 j rfl J j (by omega)) ?_
     |((with_reducible refine ag 3 ?_);refine dq (p:=⟨y,j,none⟩) (v:=(.int .i64 ((0:Nat):Int))) (by first|exact m6.out|exact zf.out) pi ?_ rfl rfl rfl rfl)
     |refine fj 39 ?_;refine ab (by rfl) _ (mr (P:=prog) _ 39 5 _ _ _ rfl bF 1 cR X L l.length c s 4 rfl _ rfl rfl _ rfl (by omega) (by omega) (by omega) (L+s) (by omega)) ?_
     |with_reducible refine(km _ _ 4 _ _ dC.out (by rw[Ir.out];exact cD _) Ir.out).mono ?_
      rintro e W ⟨rfl,aS⟩;rw[RY.out];have dY:=aa (hB.trans (aS.mono kt));have Ns:=aa (aU O3.out aS);clear aS
     |refine aV 63 ?_;refine aH rfl fun K o=>bV _ (bj _ 63 3 1 _ rfl dZ (.int .i64 0) 1 lV (by decide) (by decide) [.int .i64 ((aK l s:Nat):Int)] rfl rfl (by simp[Value.cells])) (o _ _ ?_);clear o K
     |refine dy 63 ?_;refine aH rfl fun K o=>eN (w0:=w) (n0:=w.heap.size) (.tmp 33) (.tmp 40) 63 3 rfl dZ (.int .i64 0) 1 8 ml rfl (by decide) w.heap.size A.length (.slice vx A.length cx) _ rfl (aU Ns.out dt) ⟨W.heap.size,0,none⟩ 1 1 rfl [.int .i64 ((aK l s:Nat):Int)] rfl (aE (ak _ _ _ _ rfl)) rfl (by simp[Value.oneCell']) (by omega) (by omega) (by rw[bn];have:=dY.out.size;omega) bG (dY.out.alloc dY.out.size _) (fun v1 f u b1 z1 o1 q1=>o _ _ ?_);clear o K
      obtain⟨eE,c1,E,ig⟩:=aW u;clear ig o1 q1;subst E;have my:=aa u;have zf:=aa ((b1.cell (p:=⟨y,j,none⟩) qv).trans ((hB.cell (p:=⟨y,j,none⟩) qv).symm.trans m6.out))
      clear u)
    have YS:f.ownsRow w.heap.size 3 1 (.slice eE (A++[s]).length c1) (A++[s]).length (((A++[s]).map (aK l)).map fun m:Nat=>Value.int .i64 (m:Int)):=by have h5:=my.out;rw[show A.length+1=(A++[s]).length by simp]at h5;rw[kN,kN];exact h5
    exact⟨⟨j+1,by omega,by go_num,by rw[Ln.out,QZ.out];go_num,⟨eE,c1,by rw[EC.out];simp⟩,by rw[EC.out,show A.length+1=(A++[s]).length by simp];exact YS,b1⟩,by simp[intOf];omega⟩
   ·rw[an h0]at I Q
    subst Q;have t0:((z:Int)==0)=false:=by simp[h0]
    have QZ:=aa I;clear I
    go_wp2_with (first
     |refine aC 63 ?_;refine ab (by rfl) _ (ai _ 63 3 _ _ rfl dZ 1 d6 y 0 n cs rfl .i64 j rfl J j (by omega)) ?_
     |refine ag 3 ?_;refine dq (v:=(.int .i64 (z:Int))) m6.out pi ?_ rfl rfl rfl rfl)
    exact⟨⟨j+1,by omega,by go_num,by rw[Ln.out,QZ.out];go_num,⟨vx,cx,by rw[EC.out]⟩,by rw[EC.out];exact O3.out,hB⟩,by simp[intOf];omega⟩
  ·have e:j=n:=by omega
   subst e;clear J;have jV:=O3.out;have Vj:(gU d l).length=m+1:=by rw[←kU.out];simp[Pg.out]
   rw[Pg.out]at jV ⊢;have H5:m≤64:=by have:=U.out j;rw[Pg.out]at this;omega
   obtain⟨g,rfl,Nr⟩:∃g,vx=some ⟨g,0,none⟩∧∀i,i<m→wr.cell? ⟨g,i,none⟩=some (.int .i64 ((((cutA d j).map (aK l)).getD i 0:Nat):Int)):=by
    rcases jV.2 with⟨E,e2⟩|⟨g,cap,cur,E,_⟩
    ·omega
    ·cases E
     refine⟨g,rfl,fun i N=>?_⟩;rw[jV.cellAt i (by omega)];have Em:i<(cutA d j).length:=by rw[Pg.out];exact N
     simp[List.getD,Em]
   have hR:=aa (FI g ((cutA d j).map (aK l)) m cx (headN d) l.length wr Nr (by omega));have t6:((m:Int)==0)=false:=by simp;omega
   have kt:=hB.size;by_cases iS:G
   case neg=>
    rw[show decide (bz (headN d) l.length ((cutA d j).map (aK l)) m)=false from IH fun h=>iS (hG.out.2 h)]at hR;clear jV Nr O3 mH wt pB kU mL HU O0 T U hAm Jb Rj hG Pg Cl
    go_wp2_with (
     ((with_reducible refine hR.out.mono ?_)
      rintro e W ⟨rfl,aS⟩
      clear hR))
    exact bR rfl _ _ rfl rfl rfl ⟨⟨fun h=>absurd h iS,fun _=>rfl⟩,hB.trans (aS.mono kt)⟩
   rw[show decide (bz (headN d) l.length ((cutA d j).map (aK l)) m)=true from xz (hG.out.1 iS)]at hR;replace Cl:=aa (Cl.out iS);clear Nr O3 hm;have vC:=aa jV;clear jV
   go_wp2_with (first
    |with_reducible refine hR.out.mono ?_
     rintro e W ⟨rfl,aS⟩;have dY:=aa (hB.trans (aS.mono kt));have Ns:=aa (aU vC.out aS);clear hR vC aS
    |refine aV 63 ?_;refine aH rfl fun K o=>bV _ (bj _ 63 3 1 _ rfl dZ (.int .i64 0) 1 lV (by decide) (by decide) [.int .i64 (l.length:Int)] rfl rfl (by simp[Value.cells])) (o _ _ ?_);clear o K
    |refine dy 63 ?_;refine aH rfl fun K o=>eN (w0:=w) (n0:=w.heap.size) (.tmp 65) (.tmp 68) 63 3 rfl dZ (.int .i64 0) 1 8 ml rfl (by decide) w.heap.size m (.slice (some ⟨g,0,none⟩) m cx) _ rfl (aU Ns.out dt) ⟨W.heap.size,0,none⟩ 1 1 rfl [.int .i64 (l.length:Int)] rfl (aE (ak _ _ _ _ rfl)) rfl (by simp[Value.oneCell']) (by omega) (by omega) (by rw[bn];have:=dY.out.size;omega) bG (dY.out.alloc dY.out.size _) (fun v1 f u b1 z1 o1 q1=>o _ _ ?_);clear o K
     obtain⟨eE,c1,E,ig⟩:=aW u;clear ig o1 q1;subst E;have my:=aa u
     clear u)
   obtain⟨B,rfl,Eg,qc⟩:∃B,eE=some ⟨B,0,none⟩∧B<f.heap.size∧∀i,i<m+1→f.cell? ⟨B,i,none⟩=some (.int .i64 (((gU d l).getD i 0:Nat):Int)):=by
    rcases my.out.2 with⟨E,e2⟩|⟨B,cap,cur,E,e2,e3,e4⟩
    ·omega
    ·cases E
     refine⟨B,rfl,aD e3,fun i N=>?_⟩;rw[my.out.cellAt i (by omega),←kU.out];have e5:(((cutA d j).map (aK l)).map fun m:Nat=>Value.int .i64 (m:Int))++[.int .i64 (l.length:Int)]=(((cutA d j).map (aK l))++[l.length]).map fun m:Nat=>Value.int .i64 (m:Int):=by simp
     rw[e5,Ax];have Em:i<(((cutA d j).map (aK l))++[l.length]).length:=by simp[Pg.out];exact N
     simp only[List.getD,fS Em,Option.map_some,Option.getD_some]
   have kO:=aa qc;clear qc my Ns dY z1 kU U hG;have hj0:headN (d.take 0)=0:=rfl;have OZ:(cutA d 0).length=0:=rfl;have K4:w.heap.size≤f.heap.size:=b1.size;generalize hOO:gU d l=O at*;clear hOO
   go_loopw [8,10,11,12] (fun k v x i wr=>∃q:Nat,q≤j∧i= .int .i64 (q:Int)∧k= .int .i64 ((headN (d.take q):Nat):Int)∧x= .int .i64 (((cutA d q).length:Nat):Int)∧(∃vo co,v= .slice vo q co)∧ma f.heap.size q v (ik d l) wr∧Below f.heap.size f wr) (fun _ _ _ i _=>j-(intOf i).toNat)
   case atStart=>exact⟨0,by omega,rfl,rfl,rfl,⟨none,0,rfl⟩,ma.nil _ _ _,aP _ _⟩
   case round=>
    obtain⟨C,hwv⟩:∃W,W=wr:=⟨_,rfl⟩;subst hwv;obtain⟨q,hq,rfl,rfl,rfl,⟨vo,co,rfl⟩,fR,V⟩:=hrel;clear hj0 OZ;by_cases J:q<j
    ·have m6:=aa ((V.cell (p:=⟨y,q,none⟩) (by show y<f.heap.size;omega)).trans ((b1.cell (p:=⟨y,q,none⟩) qv).trans (mL.out q J)))
     have hzq:=Rj.out q J;have I:=O0.out q J;have xl:=HU.out q;have VE:=HU.out (q+1);have Q:=T.out q;have Y:=mH.out q;have hOq:=Cl.out q J;have vS:=aa (Bd.out.row.later (b1.trans (V.mono K4)));clear mL Rj O0 HU T mH Cl;generalize d.getD q 0=z at*;generalize headN (d.take q)=s at*;generalize vl:headN (d.take (q+1))=s2 at*;have Ln:=aa vl;clear vl;generalize cutA d q=A at*;generalize Ie:cutA d (q+1)=A2 at*;have EC:=aa Ie;clear Ie;obtain⟨vs,GF,VS,VR⟩:=fR;have Ev:=aa GF;have gg2:=aa VS;have gg3:=aa VR;have VB:=GF.lt;have xt:f.heap.size≤C.heap.size:=V.size;clear GF VS VR;by_cases h0:z=0
     ·subst h0
      rw[aj rfl]at I Q Y;obtain⟨hvm,HZ,hbL⟩:=hOq rfl;have XH:=kO.out A.length (by omega);have Eh:=kO.out (A.length+1) (by omega);generalize O.getD A.length 0=a at*;generalize O.getD (A.length+1) 0=b at*;have sW:=aa (fun W (h:Below f.heap.size f W)=>(h.cell (p:=⟨B,A.length,none⟩) Eg).trans XH);have sV:=aa (fun W (h:Below f.heap.size f W)=>(h.cell (p:=⟨B,A.length+1,none⟩) Eg).trans Eh);have QZ:=aa I;have xf:=aa Q;have hs4:s+4≤headN d:=by omega
      have wh:(ik d l q).length=b-a:=by rw[Y,cf,bJ];omega
      have dC:Row C (some ⟨X,if c=a then L else L+a*1,none⟩) .u8 (ik d l q):=by
       by_cases e:c=a
       ·refine⟨fun i N=>by omega,fun x hx=>?_⟩
        rw[Y]at hx;exact vS.out.ok x (kM (oH hx))
       ·rw[an e,As,Y]
        exact jk vS.out a (b-a) (by omega)
      have nS:=aa dC;have Z:=aa wh;clear dC wh Y I Q XH Eh hOq kO;generalize ik d l=r at*;obtain⟨po,Rl⟩:∃po,po=if c=a then L else L+a*1:=⟨_,rfl⟩
      rw[←Rl]at nS;have RW:=aa Rl;clear Rl
      go_wp2_with (first
       |refine aC 63 ?_;refine ab (by rfl) _ (ai _ 63 3 _ _ rfl dZ 1 d6 y 0 j cs rfl .i64 q rfl J q (by omega)) ?_
       |refine ag 3 ?_;refine dq (v:=(.int .i64 ((0:Nat):Int))) m6.out pi ?_ rfl rfl rfl rfl)
      rename_i K o;refine dQ (S:=fun D=>D.cell? ⟨B,A.length,none⟩=some (.int .i64 (a:Int))∧D.cell? ⟨B,A.length+1,none⟩=some (.int .i64 (b:Int))) (by kernel_rfl) ?_;have Lf:Below f.heap.size f ({C with drawn:=C.drawn+1}:World):=V.drew;have hS:({C with drawn:=C.drawn+1}:World).cell? ⟨B,A.length,none⟩=some (.int .i64 (a:Int))∧({C with drawn:=C.drawn+1}:World).cell? ⟨B,A.length+1,none⟩=some (.int .i64 (b:Int)):=⟨sW.out _ Lf,sV.out _ Lf⟩;refine gY 0 2 3 (.slice vo q co) (.slice (some ⟨X,L,none⟩) l.length c) (.slice (some ⟨B,0,none⟩) (m+1) c1) rfl (by kernel_rfl) (fun _=>by kernel_rfl) bH ‹_› ?_;go_frame;refine aJ (i:=4) (v:=(.int .i64 (A.length:Int))) rfl (by kernel_rfl) bH ‹_› (fun D cX=>by go_simp) ?_;go_frame;refine d5 7 (.slice (some ⟨B,0,none⟩) (m+1) c1) rfl (by kernel_rfl) (fun _=>by kernel_rfl) bH ‹_› ?_;go_frame;refine aJ (i:=8) (v:=(.int .i64 (A.length:Int))) rfl (by kernel_rfl) bH ‹_› (fun D cX=>by go_simp) ?_;go_frame;have wA:IntKind.i64.wrap ((A.length:Int)+1)=(A.length:Int)+1:=by rw[bP];omega
      refine aJ (i:=9) (v:=(.int .i64 ((A.length:Int)+1))) rfl (by kernel_rfl) bH ‹_› (fun D cX=>by go_simp) ?_;go_frame;refine aJ (i:=5) (v:=(.pointer (some ⟨B,A.length,none⟩))) rfl (by kernel_rfl) bH ‹_› (fun D _=>ai D 63 3 _ _ (by rfl) dZ 1 d6 B 0 (m+1) c1 (by rfl) .i64 A.length (by rfl) (by omega) A.length (by omega)) ?_;go_frame;refine aJ (i:=10) (v:=(.pointer (some ⟨B,A.length+1,none⟩))) rfl (by kernel_rfl) bH ‹_› (fun D _=>bC D 63 3 _ _ (by rfl) dZ 1 d6 B 0 (m+1) c1 (by rfl) .i64 ((A.length:Int)+1) (by rfl) (A.length+1) (by omega) (by omega) (A.length+1) (by omega)) ?_;go_frame;refine aJ (i:=6) (v:=(.int .i64 (a:Int))) rfl (by kernel_rfl) bH ‹_› (fun D cX=>au _ 3 _ (by rfl) ⟨B,A.length,none⟩ (by rfl) _ cX.1 _ pi rfl) ?_;go_frame;refine aJ (i:=11) (v:=(.int .i64 (b:Int))) rfl (by kernel_rfl) bH ‹_› (fun D cX=>au _ 3 _ (by rfl) ⟨B,A.length+1,none⟩ (by rfl) _ cX.2 _ pi rfl) ?_;go_frame;refine aJ (i:=12) (v:=(.slice (some ⟨X,po,none⟩) (b-a) (c-a))) rfl (by kernel_rfl) bH ‹_› (fun D _=>RW.out▸mt (P:=prog) D 39 5 (.tmp 83) (.tmp 87) (.tmp 92) (by rfl) bF 1 cR X L l.length c a b (by rfl) (by rfl) (by rfl) HZ (by omega)) ?_;go_frame;refine cQ (i:=1) rfl (by kernel_rfl) rfl (d' rfl ⟨⟨sW.out _ (Lf.alloc xt _),sV.out _ (Lf.alloc xt _)⟩,?_⟩);go_frame;have Cj:Below C.heap.size C (({C with drawn:=C.drawn+1}:World).alloc (.cells #[] 5)):=(aP _ C).drew.alloc bG _;refine cQ (i:=13) rfl (by kernel_rfl) rfl (tv (w0:=C) (.tmp 82) (.tmp 93) rfl C.heap.size [] (r q) _ rfl (bc.new bG [] (by decide) (ak _ _ _ _ rfl)) (some ⟨X,po,none⟩) (c-a) (by rw[Z.out];rfl) (nS.out.later Cj) (by rw[Z.out,List.length_nil];omega) (by simp) (fun h=>by cases h) Cj (fun v1 W1 u R z1=>⟨⟨sW.out _ (V.trans (R.mono xt)),sV.out _ (V.trans (R.mono xt))⟩,?_⟩));rw[List.nil_append]at u;obtain⟨F,pc,E,sS,Nl⟩:=u.row nS.out.ok
      have Ek:F=none→pc=0:=by
       obtain⟨eR,c',e',vt⟩:=aW u;rw[E]at e';injection e' with e5 e6 e7
       subst e5;subst e7;exact vt
      subst E;have H2:=xY u;rw[Z.out];go_frame;have u7:Below f.heap.size f (W1.alloc (.cells #[.slice F (b-a) pc] 39)):=(V.trans (R.mono xt)).alloc (by have:=R.size;omega) _;refine cQ (i:=14) rfl (by kernel_rfl) rfl (bV _ (bj _ 114 39 1 _ rfl cV (.slice none 0 0) 1 nu (by decide) (by decide) [.slice F (b-a) pc] rfl rfl (by simp[Value.cells])) ⟨⟨sW.out _ u7,sV.out _ u7⟩,?_⟩);go_frame;refine cQ (i:=15) rfl (by kernel_rfl) rfl (eN (w0:=W1.alloc (.cells #[.slice F (b-a) pc] 39)) (n0:=f.heap.size) (.tmp 81) (.tmp 95) 114 39 rfl cV (.slice none 0 0) 1 24 rz rfl (by decide) f.heap.size q (.slice vo q co) vs rfl (aU (aU Ev.out R) dt) ⟨W1.heap.size,0,none⟩ 1 1 rfl [.slice F (b-a) pc] rfl (aE (ak _ _ _ _ rfl)) rfl (by simp[Value.oneCell']) (by omega) (by omega) (by have:=R.size;simp;omega) bG (aP _ _) (fun v2 W3 h2 b3 z3 o3 q3=>⟨⟨sW.out _ (u7.trans b3),sV.out _ (u7.trans b3)⟩,?_⟩));obtain⟨sD,c2,e2,GN⟩:=aW h2;clear GN;subst e2
      have pj:=aa (ma.step (v':= .slice sD (q+1) c2) (base:=f.heap.size) (W:=W1.alloc (.cells #[.slice F (b-a) pc] 39)) (part:=r) gg2.out (fun i N=>by
       obtain⟨eR,ci,k4,k5,k6,k7,k8⟩:=gg3.out i N
       exact⟨eR,ci,k4,(k5.later R).later dt,k6,k7,fun M H e=>⟨by rw[bn];have:=R.size;have:=(k8 M H e).1;omega,(k8 M H e).2⟩⟩) (sS.later dt) Ek Nl (fun M H e=>⟨by rw[bn];have:=(H2 M H e).2;omega,fun e'=>by have:=(VB _ e').2;have:=(H2 M H e).1;omega,by have:=(H2 M H e).1;omega⟩) (by rw[Z.out];exact h2) o3 q3 b3.size)
      have KY:=aa (u7.trans b3);clear h2 b3 o3 q3 u sS Ek Nl H2 nS gg3 gg2 Ev u7 Cj;go_frame;have hS:W3.cell? ⟨B,A.length,none⟩=some (.int .i64 (a:Int))∧W3.cell? ⟨B,A.length+1,none⟩=some (.int .i64 (b:Int)):=⟨sW.out _ KY.out,sV.out _ KY.out⟩;refine d5 16 (.slice sD (q+1) c2) rfl (by kernel_rfl) (fun _=>by kernel_rfl) bH ‹_› ?_;go_frame;refine dM (by kernel_rfl) ?_ _;simp only[Exit.then];refine o _ _ ?_;clear hS Lf o K;go_wp2;exact⟨⟨q+1,by omega,by go_num,by rw[Ln.out,QZ.out];go_num,by rw[EC.out,xf.out];simp,⟨_,_,rfl⟩,pj.out,KY.out⟩,by simp[intOf];omega⟩
     ·rw[an h0]at I Q Y
      have QZ:=aa I;have xf:=aa Q;have fL:s+z≤l.length:=by omega
      have t0:((z:Int)==0)=false:=by simp[h0]
      have wh:(ik d l q).length=z:=by rw[Y,cf,bJ];omega
      have dC:Row C (some ⟨X,L+s,none⟩) .u8 (ik d l q):=by rw[Y];exact jk vS.out s z fL
      have nS:=aa dC;have Z:=aa wh;clear dC wh Y I Q hOq kO vS;generalize ik d l=r at*
      go_wp2_with (first
       |refine aC 63 ?_;refine ab (by rfl) _ (ai _ 63 3 _ _ rfl dZ 1 d6 y 0 j cs rfl .i64 q rfl J q (by omega)) ?_
       |((with_reducible refine ag 3 ?_);refine dq (p:=⟨y,q,none⟩) (v:=(.int .i64 (z:Int))) (by first|exact m6.out|exact(((aP C.heap.size C).alloc bG _).cell (p:=⟨y,q,none⟩) (iE m6.out)).trans m6.out|exact hcz.out) pi ?_ rfl rfl rfl rfl)
       |refine aV 39 ?_;refine aH rfl fun K o=>d' rfl (o _ _ ?_);clear o K
       |refine fj 39 ?_;refine ab (by rfl) _ (mr (P:=prog) _ 39 5 (.tmp 103) (.tmp 104) (.tmp 110) rfl bF 1 cR X L l.length c s z rfl _ rfl rfl _ rfl (by omega) (by omega) (by omega) (L+s) (by omega)) ?_
       |refine dy 39 ?_;refine cB (w0:=C) rfl (.tmp 102) (.tmp 111) rfl C.heap.size [] (r q) _ rfl (bc.new bG [] (by decide) (ak _ _ _ _ rfl)) (some ⟨X,L+s,none⟩) (c-s) (by rw[Z.out];rfl) (nS.out.later dt) (by rw[Z.out,List.length_nil];omega) (by simp) (fun h=>by cases h) dt (fun v1 W1 u R z1=>?_)
        rw[List.nil_append]at u;obtain⟨F,pc,E,sS,Nl⟩:=u.row nS.out.ok
        have Ek:F=none→pc=0:=by
         obtain⟨eR,c',e',vt⟩:=aW u;rw[E]at e';injection e' with e5 e6 e7
         subst e5;subst e7;exact vt
        subst E;have H2:=aa (xY u);rw[Z.out];have Pm:=aa R;have IZ:=aa sS;have agS:=aa Ek;clear u sS Ek R
       |refine aV 114 ?_;refine aH rfl fun K o=>bV _ (bj _ 114 39 1 _ rfl cV (.slice none 0 0) 1 nu (by decide) (by decide) [.slice F z pc] rfl rfl (by simp[Value.cells])) (o _ _ ?_);clear o K
       |refine dy 114 ?_;refine aH rfl fun K o=>eN (w0:=W1.alloc (.cells #[.slice F z pc] 39)) (n0:=f.heap.size) (.tmp 101) (.tmp 113) 114 39 rfl cV (.slice none 0 0) 1 24 rz rfl (by decide) f.heap.size q (.slice vo q co) vs rfl (aU (aU Ev.out Pm.out) dt) ⟨W1.heap.size,0,none⟩ 1 1 rfl [.slice F z pc] rfl (aE (ak _ _ _ _ rfl)) rfl (by simp[Value.oneCell']) (by omega) (by omega) (by have:=Pm.out.size;simp;omega) bG (aP _ _) (fun v2 W3 h2 b3 z3 o3 q3=>o _ _ ?_);clear o K
        obtain⟨sD,c2,e2,GN⟩:=aW h2;clear GN;subst e2
        have pj:=aa (ma.step (v':= .slice sD (q+1) c2) (base:=f.heap.size) (W:=W1.alloc (.cells #[.slice F z pc] 39)) (part:=r) gg2.out (fun i N=>by
         obtain⟨eR,ci,k4,k5,k6,k7,k8⟩:=gg3.out i N
         exact⟨eR,ci,k4,(k5.later Pm.out).later dt,k6,k7,fun M H e=>⟨by rw[bn];have:=Pm.out.size;have:=(k8 M H e).1;omega,(k8 M H e).2⟩⟩) (IZ.out.later dt) agS.out Nl (fun M H e=>⟨by rw[bn];have:=(H2.out M H e).2;omega,fun e'=>by have:=(VB _ e').2;have:=(H2.out M H e).1;omega,by have:=(H2.out M H e).1;omega⟩) (by rw[Z.out];exact h2) o3 q3 b3.size)
        have u7:Below f.heap.size f (W1.alloc (.cells #[.slice F z pc] 39)):=(V.trans (Pm.out.mono xt)).alloc (by have:=Pm.out.size;omega) _;have KY:=aa (u7.trans b3);have hcz:=aa ((KY.out.cell (p:=⟨y,q,none⟩) (by show y<f.heap.size;omega)).trans ((V.cell (p:=⟨y,q,none⟩) (by show y<f.heap.size;omega)).symm.trans m6.out))
        clear h2 b3 o3 q3 u7)
      exact⟨⟨q+1,by omega,by go_num,by rw[Ln.out,QZ.out];go_num,by rw[EC.out,xf.out],⟨_,_,rfl⟩,pj.out,KY.out⟩,by simp[intOf];omega⟩
    ·have e:q=j:=by omega
     subst e;have kU:=aa fR;clear fR;go_wp2;exact bR rfl _ _ rfl rfl rfl ⟨⟨fun _=>⟨_,rfl,kU.out.parts K4 u (fV d l) pB.out wt.out⟩,fun h=>absurd iS h⟩,b1.trans (V.mono K4)⟩
def uO (l b c d a n g w) (j:cG b c l w) (hZ:et d a w) (hn:a.length=n) (v:1≤n) (r:n≤64) (i:∀z∈a,z≤65536) (hl:headN a≤l.length) (k:0<headN a) (p:l.length≤70368744177664) (m) (o:(cutA a n).length=m) (f:0<m) (q:¬bz (headN a) l.length ((cutA a n).map (aK l)) m):
 Calls prog 73 #[.slice b l.length c,.slice (some ⟨d,0,none⟩) n g] w fun e h=>e= .returned (.tuple #[.slice none 0 0,.int .i64 5])∧Below w.heap.size w h:=
 (Gv l b c d a n g w j hZ hn v r i hl k p m o f _ xI).mono fun _ _ ⟨⟨_,u⟩,s⟩=>⟨u q,s⟩
def uD (l b c d a n h w) (j:cG b c l w) (hZ:et d a w) (hn:a.length=n) (y:1≤n) (r:n≤64) (i:∀z∈a,z≤65536) (hl:headN a≤l.length) (k:0<headN a) (q:l.length≤70368744177664) (m) (o:(cutA a n).length=m) (f:0<m) (p:bz (headN a) l.length ((cutA a n).map (aK l)) m):
 Calls prog 73 #[.slice b l.length c,.slice (some ⟨d,0,none⟩) n h] w fun e g=>(∃v,e= .returned (.tuple #[v,.int .i64 0])∧g6 w.heap.size v (fV a l) g)∧Below w.heap.size w g:=
 (Gv l b c d a n h w j hZ hn y r i hl k q m o f _ xI).mono fun _ _ ⟨⟨u,_⟩,s⟩=>⟨u p,s⟩
def jt (L s m:Nat):Int:=if L%s≠0 then 4 else if m<L/s then 6 else 0
def FN (i c L s m d w) (hL:L≤70368744177664) (o:1≤s) (he:jt L s m=d) (b:d≠0):
 Calls prog 75 #[.slice i L c,.int .i64 (s:Int),.int .i64 (m:Int)] w fun e h=>e= .returned (.tuple #[.slice none 0 0,.int .i64 d])∧w=h:=by
 have k:(L:Int).tmod (s:Int)=((L%s:Nat):Int):=(xG L s).symm;have n:(L:Int).tdiv (s:Int)=((L/s:Nat):Int):=(xH L s).symm;have l:L/s≤L:=Nat.div_le_self L s;have y:decide ((s:Int)<1)=false:=by simp;omega
 have v:decide ((m:Int)<0)=false:=by simp
 have u:((s:Int)==0)=false:=by simp;omega
 have r:((s:Int)== -1)=false:=by simp;try omega
 have q:¬((s:Int)=0):=by omega
 have p:¬((s:Int)= -1):=by omega
 subst he;unfold jt at b ⊢
 go_enter func75,ntmps75
 by_cases a:L%s≠0
 ·simp only[aj a]
  generalize L%s=x at*;have j:((x:Int) !=0)=true:=by simp;omega
  clear b a;go_wp2;exact bR rfl _ _ rfl rfl rfl ⟨rfl,rfl⟩
 ·by_cases f:m<L/s
  ·have g:L%s=0:=by omega
   simp only[an a,aj f];rw[g]at k;generalize L/s=x at*;have j:decide ((m:Int)<(x:Int))=true:=by simp;omega
   clear b a g;go_wp2;exact bR rfl _ _ rfl rfl rfl ⟨rfl,rfl⟩
  ·exact absurd (by simp only[an a,an f]) b
def FO (l:List Int) (k s m S:Nat) (hk:k≤m) (pz:1≤s) (g:s*k=S) (F:l.length=S) (cW:S≤70368744170000) (alx:s≤65536) (Np:k≤2932031007400) (Q:Option Addr) (c:Nat) (w) (C:cG Q c l w):
 Calls prog 75 #[.slice Q S c,.int .i64 (s:Int),.int .i64 (m:Int)] w fun e N=>(∃v,e= .returned (.tuple #[v,.int .i64 0])∧iL w.heap.size k v (fun i=>(l.drop (s*i)).take s) N)∧Below w.heap.size w N:=by
 have J:decide ((s:Int)<1)=false:=by simp;omega
 have z:decide ((m:Int)<0)=false:=by simp
 have b5:¬((s:Int)=0):=by omega
 have b6:¬((s:Int)= -1):=by omega
 have b7:((s:Int)==0)=false:=by simp;omega
 have b8:((s:Int)== -1)=false:=by simp;try omega
 have r1:(S:Int).tmod (s:Int)=0:=by rw[←g];rw[show ((s*k:Nat):Int)=(s:Int)*(k:Int) by simp];exact Int.mul_tmod_right _ _
 have q1:(S:Int).tdiv (s:Int)=(k:Int):=by rw[←g];rw[show ((s*k:Nat):Int)=(s:Int)*(k:Int) by simp];exact IM _ b5
 have b3:decide ((m:Int)<(k:Int))=false:=by simp;omega
 have b3n:decide (m<k)=false:=by simp;omega
 have hl:=aa F;have hs:=aa C;have l_:S≤c:=by rw[←F];exact C.cap
 have d:=aa (fun j=>Nat.mul_succ s j);have XJ:=aa g;have p:=aa (fun j (h:j<k)=>show s*j+s≤S by rw[←g,←Nat.mul_succ];exact Sh s h)
 have L:=aa (fun j (h:s*j<S)=>show j<k from by
  rw[←g]at h
  exact Nat.lt_of_mul_lt_mul_left h)
 obtain⟨a,E⟩:∃a:Nat→List Int,a=fun i=>(l.drop (s*i)).take s:=⟨_,rfl⟩;rw[←E];have G9:=aa E;clear F C g E
 go_enter func75,ntmps75
 go_wp2
 go_loopw [8,9] (fun v i wr=>∃j:Nat,j≤k∧i= .int .i64 ((s*j:Nat):Int)∧(∃O co,v= .slice O j co)∧iL w.heap.size j v a wr∧Below w.heap.size w wr) (fun _ i _=>S-(intOf i).toNat)
 case atStart=>exact⟨0,by omega,rfl,⟨none,0,rfl⟩,iL.nil _ _ _,aP _ _⟩
 case round=>
  obtain⟨q,hq,rfl,⟨O,co,rfl⟩,G,r⟩:=hrel;by_cases a8:q<k
  ·have xl:=p.out q a8
   have hsq:=d.out q;have D:a q=(l.drop (s*q)).take s:=by rw[G9.out]
   obtain⟨I,y,rfl,_⟩:=hs.out.row.cell 0 (by rw[hl.out];omega);have V:=aa (show Row wr (some ⟨I,y+s*q,none⟩) .u8 (a q)from by rw[D];exact jk (hs.out.row.later r) (s*q) s (by rw[hl.out];exact xl));have X:(a q).length=s:=by rw[D,cf,bJ,hl.out];omega
   have f:=aa X;have vl:=aa (show ((s*q:Nat):Int)+(s:Int)=((s*(q+1):Nat):Int) by rw[d.out q];omega);have H3:=aa (show s*(q+1)≤S by rw[d.out q];omega);clear X D p d L;generalize hn:s*q=n at*;generalize Y:s*(q+1)=n2 at*;clear hn;have Pf:=aa Y;clear Y;obtain⟨vs,B,g2,Z⟩:=G;have Ev:=aa B;have VS:=aa g2;have VR:=aa Z;have VB:=B.lt;have kt:w.heap.size≤wr.heap.size:=r.size;have qb:((n:Int)<(S:Int)):=by omega
   clear B g2 Z
   go_wp2_with (first
    |refine aV 39 ?_;refine aH rfl fun K b=>d' rfl (b _ _ ?_);clear b K
    |refine fj 39 ?_;refine ab (by rfl) _ (mr (P:=prog) _ 39 5 (.tmp 36) (.tmp 37) (.tmp 40) rfl bF 1 cR I y S c n s rfl _ rfl rfl _ rfl (by omega) (by omega) (by omega) (y+n) (by omega)) ?_
    |refine dy 39 ?_;refine cB (w0:=wr) rfl (.tmp 35) (.tmp 41) rfl wr.heap.size [] (a q) _ rfl (bc.new bG [] (by decide) (ak _ _ _ _ rfl)) (some ⟨I,y+n,none⟩) (c-n) (by rw[f.out];rfl) (V.out.later dt) (by rw[f.out,List.length_nil];omega) (by simp) (fun h=>by cases h) dt (fun v1 W1 u J z1=>?_)
     rw[List.nil_append]at u;obtain⟨A,pc,e1,pge,Nl,T⟩:=Hn u V.out.ok (by rw[f.out];omega);rw[f.out]at e1;subst e1;have o:=aa J;have IZ:=aa T;have hpW:=rO u (by rw[f.out];omega);clear u J T
    |refine aV 114 ?_;refine aH rfl fun K b=>bV _ (bj _ 114 39 1 _ rfl cV (.slice none 0 0) 1 nu (by decide) (by decide) [.slice (some ⟨A,0,none⟩) s pc] rfl rfl (by simp[Value.cells])) (b _ _ ?_);clear b K
    |refine dy 114 ?_;refine aH rfl fun K b=>eN (.tmp 34) (.tmp 43) 114 39 rfl cV (.slice none 0 0) 1 24 rz rfl (by decide) w.heap.size q _ vs rfl (aU (aU Ev.out o.out) dt) ⟨W1.heap.size,0,none⟩ 1 1 rfl [.slice (some ⟨A,0,none⟩) s pc] rfl (aE (ak _ _ _ _ rfl)) rfl (by simp[Value.oneCell']) (by omega) (by omega) (by have:=o.out.size;simp;omega) bG (aP _ _) (fun v2 W2 H z z2 U R=>b _ _ ?_);clear b K
     obtain⟨sD,c2,e2,GN⟩:=aW H;clear GN;subst e2
     have d:=aa (iL.step (v':= .slice sD (q+1) c2) (base:=w.heap.size) (W:=W1.alloc (.cells #[.slice (some ⟨A,0,none⟩) s pc] 39)) VS.out (fun i hi=>by
      obtain⟨b',o',ci,k4,k5,k6,k7,k8,k9⟩:=VR.out i hi
      exact⟨b',o',ci,k4,(k5.later o.out).later dt,k6,by rw[bn];have:=o.out.size;omega,k8,k9⟩) (by omega) (IZ.out.later dt) Nl (by rw[bn];omega) (fun e=>by have:=(VB _ e).2;omega) (by rw[f.out];exact H) U R z.size)
     have M:=aa (((r.trans (o.out.mono kt)).alloc (by have:=o.out.size;omega) _).trans z)
     clear H z U R)
   exact⟨⟨q+1,by omega,by rw[Pf.out,←vl.out],⟨_,_,rfl⟩,d.out,M.out⟩,by simp[intOf];omega⟩
  ·have e:q=k:=by omega
   subst e;rw[XJ.out];have kU:=aa G;clear G;have u6:¬((S:Int)<(S:Int)):=by omega
   go_wp2;exact bR rfl _ _ rfl rfl rfl ⟨⟨_,rfl,kU.out⟩,r⟩
structure RqX (n:Nat) (Z C:List Value) (t:TypeId) (w W:World):Prop where
 hR:W.heap[n]?=some (.cells Z.toArray t (0,0))
 hX:W.heap[n+1]?=some (.cells C.toArray t (0,0))
 hB:Below n w W
section
variable {n:Nat} {Z C:List Value} {t:TypeId} {w W W':World}
theorem RqX.size (h:RqX n Z C t w W):n+2≤W.heap.size:=by have:=aD h.hX;omega
theorem RqX.later (h:RqX n Z C t w W) (a:Below W.heap.size W W'):RqX n Z C t w W':=by have hs:=h.size;exact⟨(a.block n (by omega)).trans h.hR,(a.block (n+1) (by omega)).trans h.hX,h.hB.trans (a.mono (by omega))⟩
theorem RqX.begin {a b} (hZ:a=Z.toArray) (c:b=C.toArray) (hn:w.heap.size=n):RqX n Z C t w ((w.alloc (.cells a t)).alloc (.cells b t)):=by subst hZ;subst c;subst hn;exact⟨aR _ _ _ _ (ak _ _ _ _ rfl),ak _ _ _ _ (by simp),dt.alloc (by simp) _⟩
theorem RqX.set {b} (h:RqX n Z C t w W) (a:aL (n+1) W W') (c:W'.heap[n+1]?=some (.cells b.toArray t (0,0))):RqX n Z b t w W':=by have hs:=h.size;exact⟨(a.block n (by omega) (by omega)).trans h.hR,c,a.below h.hB (by omega) (by omega)⟩
end
def tI (W:World):et W.heap.size [0,128,96] (W.alloc (.cells #[.int .i64 0,.int .i64 128,.int .i64 96] 3)):=by have h:=CE [0,128,96] W;rw[nr]at h;exact h
structure KZ (n:Nat) (Z C:List Value) (t:TypeId) (gp cp:Nat) (ps:List (List Int)) (w W:World):Prop extends RqX n Z C t w W where
 hP:g6 (n+1+1) (.slice (some ⟨gp,0,none⟩) ps.length cp) ps W
section
variable {n:Nat} {Z C:List Value} {t:TypeId} {gp cp:Nat} {ps:List (List Int)} {w W W':World}
theorem KZ.later (h:KZ n Z C t gp cp ps w W) (a:Below W.heap.size W W'):KZ n Z C t gp cp ps w W':=⟨h.toRqX.later a,h.hP.later a⟩
theorem KZ.set {b} (h:KZ n Z C t gp cp ps w W) (a:aL (n+1) W W') (c:W'.heap[n+1]?=some (.cells b.toArray t (0,0))):KZ n Z b t gp cp ps w W':=⟨h.toRqX.set a c,h.hP.move a (by omega)⟩
theorem KZ.part (h:KZ n Z C t gp cp ps w W) (i k q) (s:i<ps.length) (p:ps.getD i []=q) (r:q.length=k):∃a d,W.cell? ⟨gp,i,none⟩=some (.slice a k d)∧cG a d q W∧∀b o,a=some ⟨b,o,none⟩→n+1+1≤b:=by
 obtain⟨g,c,e,A,z,v⟩:=h.hP;injection e with y D B
 cases y;obtain⟨a,d,f,m,u,l,j⟩:=v i s;rw[p]at f m l;rw[r]at f;exact⟨a,d,f,⟨m,u,l,fun b o e=>(j b o e).2⟩,fun b o e=>(j b o e).1⟩
theorem KZ.of (h:RqX n Z C t w W) {v k} (f:ps.length=k) (m:Below W.heap.size W W') (p:g6 W.heap.size v ps W'):∃gp cp,v= .slice (some ⟨gp,0,none⟩) k cp∧KZ n Z C t gp cp ps w W':=by subst f;have hs:=h.size;obtain⟨g,c,e,A,l,y⟩:=p;refine⟨g,c,e,h.later m,g,c,rfl,by omega,l,fun i j=>?_⟩;obtain⟨d,z,u,s,r,q,a⟩:=y i j;exact⟨d,z,u,s,r,q,fun b o e=>⟨by have:=(a b o e).1;omega,(a b o e).2⟩⟩
end
def oc {n Z C t gp cp ps w W g f o a Q} (B:o.guard=none) (l x y) (z:o.op= .store l x y) (c) (r:a.eval x= .pointer (some ⟨n+1,c,none⟩)) (d) (q:a.eval y= .agg d.toArray) (p:(prog.info? l).map (·.size)=some d.length) (F:∀v∈d,v.oneCell'=true) (h:KZ n Z C t gp cp ps w W) (e i b) (k:C=e++(i++b)) (u:e.length=c) (hl:d.length=i.length) (A:∀W',KZ n Z (e++(d++b)) t gp cp ps w W'→aL (n+1) W W'→wpList prog g Q f (a.put o.dst undef) W'):wpList prog g Q (o::f) a W:=by
 subst k
 have s:W.there (n+1) c d.toArray.size:=fun j m=>by
  have m:j<d.length:=by simpa using m
  refine⟨?_,j' h.hX _⟩;rw[br W (n+1) _ _ _ _ h.hX,fu,fT (by omega),eY (by omega),fS (by omega)];rfl
 refine aH B fun G D=>s_ l x y z (n+1) c _ r q s (by rw[p];simp) (by simpa using F) (D _ _ (A _ ?_ ?_))
 ·have E:aL (n+1) W (W.setCells (n+1) c d.toArray.toList):=(aL.refl _ _).setCells _ _ _ (Or.inl rfl)
  have k:=jz (n+1) d.toArray.toList c W _ t h.hX (by simp;omega);rw[show (e++(i++b)).toArray.toList=e++(i++b)from rfl,show d.toArray.toList=d from rfl,oZ u hl]at k;exact h.set E k
 ·exact(aL.refl _ _).setCells _ _ _ (Or.inl rfl)
def Da {l L k} (hL:l.length=L) (a:aK l 0=228) (b:L=228+k):fV [0,128,96] l=[(l.drop 228).take k,(l.drop 4).take 128,(l.drop 132).take 96]:=by
 have e:L-228=k:=by omega
 simp[fV,ik,gU,cutA,headN,s7,a,hL,e]
def MU {N m f g y} (b:m<N) (c:∀i,i<N→g i=if i=m then y else f i):(ae N (fun _=> .u8) f).set m (.int .u8 y)=ae N (fun _=> .u8) g:=by
 apply mG;intro i;rw[Fe];by_cases a:i<N
 ·rw[aN _ _ _ _ a,aN _ _ _ _ a,c i a,ac]
  by_cases e:m=i
  ·subst e
   rw[aj rfl,aj b,aj rfl];rfl
  ·rw[an e,an (fun h=>e h.symm)]
 ·have e:m≠i:=by omega
  rw[an e,eT (by rw[ac];omega),eT (by rw[ac];omega)]
def JH {s a f g m y} (b:m<96) (c:∀i,i<96→g i=if i=m then y else f i):(bI s a f).toArray.setIfInBounds (101+m) (.int .u8 y)=(bI s a g).toArray:=by
 rw[IK]
 congr 1
 show ((s::ae 100 ba a)++ae 96 (fun _=> .u8) f).set (101+m) _=(s::ae 100 ba a)++ae 96 (fun _=> .u8) g;rw[Au _ _ (by simp[ac])]
 congr 1
 rw[show 101+m-(s::ae 100 ba a).length=m by simp[ac]];exact MU b c
def nR (l:List Int) (j i:Nat):Int:=if i<j then l.getD (132+i) 0 else 0
def Ki (l L d H c w) (fc:cG H c l w) (uT:l.length=L) (ad9:L=228+8*d) (ag2:d≤64) (kc:aK l 0=228):
 Calls prog 142 #[.slice H L c] w fun e N=>(∃z B,e= .returned (.tuple #[.agg (bI (.slice z d B) (dp ((l.drop 4).take 128)) (fun j=>l.getD (132+j) 0)).toArray,.int .i64 0])∧N.ownsRow w.heap.size 26 1 (.slice z d B) d ((lQ (l.drop 228) d).map (Value.int .u64)))∧Below w.heap.size w N:=by
 have cW:L≤70368744177664:=by omega
 obtain⟨k,T⟩:∃k,k=8*d:=⟨_,rfl⟩;have Bp:L=228+k:=by omega
 clear ad9;have acL:=aa T;have Lp:=DD (l.drop 228) d;obtain⟨X,CC⟩:∃X,X=lQ (l.drop 228) d:=⟨_,rfl⟩;rw[←CC]at Lp ⊢;have K_:X.length=d:=by rw[CC,iw]
 have No:=aa Lp;have Q8:=aa (fun H c w (h:cG H c ((l.drop 228).take k) w)=>show Calls prog 75 #[.slice H k c,.int .i64 8,.int .i64 64] w (fun e N=>(∃v,e= .returned (.tuple #[v,.int .i64 0])∧iL w.heap.size d v (fun i=>(((l.drop 228).take k).drop (8*i)).take 8) N)∧Below w.heap.size w N)from FO ((l.drop 228).take k) d 8 64 k ag2 (by decide) T.symm (by rw[cf,bJ,uT,Bp];omega) (by omega) (by decide) (by omega) H c w h);clear T CC Lp;have V:=aa Bp;have jE:=aa kc;clear kc Bp;have hs:=aa fc;have hL:=aa uT;clear fc uT
 go_enter func142,ntmps142
 have wt:=aa (fun(W:World) (gs:Nat) (hl:cG H c l W) (hZ:et gs [0,128,96] W)=>uD l H c gs [0,128,96] 3 3 W hl hZ rfl (by decide) (by decide) (by decide) (by rw[hL.out,V.out];exact Ct _ _) (by decide) (by rw[hL.out];exact cW) 1 rfl (by decide) (ux jE.out (by rw[hL.out,V.out];exact Ct _ _)));rw[hL.out,Da hL.out jE.out V.out]at wt;have fq:=aa (show ((l.drop 228).take k).length=k by rw[cf,bJ,hL.out,V.out];omega);have K':=aa (show ((l.drop 4).take 128).length=128 by rw[cf,bJ,hL.out,V.out];omega);have Bf:=aa (show ((l.drop 132).take 96).length=96 by rw[cf,bJ,hL.out,V.out];omega)
 go_wp2_with (first
  |refine ao 84 ?_;refine fX 2 pM ?_
  |refine ao 84 ?_;refine fX 4 pM ?_
   refine bZ (fun W=>RqX w.heap.size (bI (.slice none 0 0) (fun _=>0) (fun _=>0)) (bI (.slice none 0 0) (fun _=>0) (fun _=>0)) 84 w W) (RqX.begin rfl rfl rfl) ?_;intro W s;have a:=aa s;clear s
  |with_reducible refine(wt.out _ W.heap.size ?hI ?hZ).mono ?D
   case hI=>exact(hs.out.later a.out.hB).later ((aP _ W).alloc bG _)
   case hZ=>exact tI W
   rintro e W2 ⟨⟨v,rfl,sG⟩,kK⟩;obtain⟨gp,cp,rfl,s⟩:=KZ.of (a.out.later ((aP _ W).alloc bG (.cells #[.int .i64 0,.int .i64 128,.int .i64 96] 3))) (k:=3) rfl kK sG;replace a:=aa s;clear sG kK;obtain⟨U,M,F,E,_⟩:=s.part 0 k ((l.drop 228).take k) (by simp) rfl fq.out;have Y:=aa F;have P:=aa E;clear s F E
  |refine aC 114 ?_;refine ab (by rfl) _ (ai _ 114 39 _ _ rfl cV 1 dv gp 0 3 cp rfl .i64 0 rfl (by decide) 0 (by decide)) ?_
  |refine ag 39 ?_;refine dq (v:=(.slice U k M)) Y.out bF ?_ rfl rfl rfl rfl
  |with_reducible refine(Q8.out U M _ P.out).mono ?_
   rintro e S ⟨⟨vE,rfl,fR⟩,sN⟩;obtain⟨ve,ce,rfl⟩:=fR.form;have s:=a.out.later sN;have hzE:w.heap.size+2≤W2.heap.size:=a.out.size;have hO:=aa fR;replace a:=aa s;clear sN fR Q8 Y P
   clear s)
 have I6:∀j,j<d→((((l.drop 228).take k).drop (8*j)).take 8).length=8:=fun j I=>by have h1:=fq.out;have h2:=acL.out;rw[cf,bJ,h1];omega
 have YF:∀j,j<d→(((l.drop 228).take k).drop (8*j)).take 8=((l.drop 228).drop (8*j)).take 8:=fun j I=>by have h2:=acL.out;rw[Fg,Fb,show min 8 (k-8*j)=8 by omega]
 have kO:=aa (fun j I=>iL.at' hO.out j I);have CL:=aa I6;have Lo:=aa YF;have hz3:=a.out.size;have jG:=aa a.out;clear I6 YF hO
 go_loopw [9] (fun i wr=>∃(j:Nat) (v:Value),j≤d∧i= .int .i64 (j:Int)∧wr.heap[w.heap.size+1]?=some (.cells (bI v (fun _=>0) (fun _=>0)).toArray 84 (0,0))∧wr.ownsRow S.heap.size 26 1 v j ((X.take j).map (Value.int .u64))∧aL (w.heap.size+1) S wr) (fun i _=>d-(intOf i).toNat)
 case atStart=>exact⟨0,_,by omega,rfl,a.out.hX,⟨rfl,Or.inl ⟨rfl,rfl⟩⟩,aL.refl _ _⟩
 case round=>
  obtain⟨j,v,I,rfl,O4,O6,zh⟩:=hrel;obtain⟨G,RR⟩:∃W,W=wr:=⟨_,rfl⟩;subst RR;clear a;obtain⟨z,B,rfl,Xu⟩:=aW O6;have J:=aa O4;have hN:=aa O6;have r:=aa zh;clear O4 O6 zh;by_cases A:j<d
  ·have lj:(j:Int)<(d:Int):=by omega
   obtain⟨g,b,o,ci,⟨cap,VC⟩,m6,Be,KP,Eg,aS,kK⟩:=kO.out j A;injection VC with Zf agK Ze
   subst Zf;subst Ze;have xL:=CL.out j A;rw[xL]at m6;have hc:=aa ((r.out.cell (p:=⟨g,j,none⟩) Eg (show g≠w.heap.size+1 by omega)).trans m6)
   have K7:Row G (some ⟨b,o,none⟩) .u8 (((l.drop 228).drop (8*j)).take 8):=by
    rw[←Lo.out j A]
    exact⟨fun q P=>by
     obtain⟨b',o',e,mw⟩:=Be.cell q P;cases e
     exact⟨b,o,rfl,(r.out.cell (p:=⟨b,o+q,none⟩) kK (show b≠w.heap.size+1 by omega)).trans mw⟩,Be.ok⟩
   rw[Lo.out j A]at xL;have Zi:=aa (No.out j A);generalize ((l.drop 228).drop (8*j)).take 8=q at*
   have h8:=aa (show Calls prog 89 #[.slice (some ⟨b,o,none⟩) 8 ci] G fun e N=>e= .returned (.tuple #[.int .u64 (p9 q),.int .i64 0])∧G=N from by
    have h:=Fz q (some ⟨b,o,none⟩) ci G K7;rw[xL,aj rfl,aj rfl]at h
    exact h)
   clear Be K7 m6 xL;generalize p9 q=y at*;have Vz:G.cell? ⟨w.heap.size+1,0,none⟩=some (.slice z j B):=by rw[br G _ 0 _ _ _ J.out];rfl
   have Zd:=aa Vz;clear Vz
   go_wp2_with (first
    |refine aC 114 ?_;refine ab (by rfl) _ (ai _ 114 39 _ _ rfl cV 1 dv g 0 d ce rfl .i64 j rfl A j (by omega)) ?_
    |refine ag 39 ?_;refine dq (v:=(.slice (some ⟨b,o,none⟩) 8 ci)) hc.out bF ?_ rfl rfl rfl rfl
    |with_reducible refine h8.out.mono ?_
     rintro e W1 ⟨rfl,rfl⟩;clear h8
    |refine ag 78 ?_;refine dq (v:=(.slice z j B)) Zd.out qw ?_ rfl rfl rfl rfl
    |refine aV 78 ?_;refine aH rfl fun K u=>bV _ (ul _ _ (by rfl) y (by rfl)) (u _ _ ?_);clear u K
    |refine dy 78 ?_;refine aH rfl fun K u=>eN (w0:=G) (n0:=S.heap.size) (.tmp 48) (.tmp 50) 78 26 rfl qw (.int .u64 0) 1 8 F5 rfl (by decide) S.heap.size j (.slice z j B) _ rfl (aU hN.out dt) ⟨G.heap.size,0,none⟩ 1 1 rfl [.int .u64 y] rfl (aE (ak _ _ _ _ rfl)) rfl (by simp[Value.oneCell']) (by omega) (by omega) (by rw[bn];have:=r.out.size;omega) bG ((aP _ _).alloc r.out.size _) (fun v1 W1 h1 R z1 o1 q1=>u _ _ ?_);clear u K
     obtain⟨eE,c1,e1,_⟩:=aW h1;subst e1;have my:=aa h1;have KS:=aa (show aL (w.heap.size+1) S W1 from⟨R.os.trans r.out.os,R.tape.trans r.out.tape,R.output.trans r.out.output,bg r.out.size R.size,fun b hb VN=>(R.block b hb).trans (r.out.block b hb VN)⟩);have m7:=aa ((R.block (w.heap.size+1) (by omega)).trans J.out);clear h1 R z1 o1 q1
    |refine al 78 ?_;refine aF 78 (w.heap.size+1) 0 rfl ?_;refine aH rfl fun K u=>bt 78 _ _ rfl (w.heap.size+1) 0 rfl (.slice eE (j+1) c1) rfl rfl XW _ _ m7.out (by simp[bI]) (fun W2 fW jq=>u _ _ ?_);clear u K)
   have ut:W2.ownsRow S.heap.size 26 1 (.slice eE (j+1) c1) (j+1) ((X.take (j+1)).map (Value.int .u64)):=by have h5:=de my.out jq (by omega);rw[Zi.out,kN];exact h5
   exact⟨⟨j+1,.slice eE (j+1) c1,by omega,by go_num,fW,ut,KS.out.trans jq⟩,by simp[intOf];omega⟩
  ·have e:j=d:=by omega
   subst e;clear No kO CL Lo A I;have a:=aa (jG.out.set r.out J.out);have Vk:=qL hN.out (show w.heap.size+2≤S.heap.size from hz3);rw[←K_,gC,K_]at Vk;have D:=aa Vk;clear jG Vk hN J r Xu;obtain⟨U,M,F,E,_⟩:=a.out.part 1 128 ((l.drop 4).take 128) (by simp) rfl K'.out;have Y:=aa F;have P:=aa E;clear F E
   go_wp2_with (first
    |refine aC 114 ?_;refine ab (by rfl) _ (ai _ 114 39 _ _ rfl cV 1 dv gp 0 3 cp rfl .i64 1 rfl (by decide) 1 (by decide)) ?_
    |refine ag 39 ?_;refine dq (v:=(.slice U 128 M)) Y.out bF ?_ rfl rfl rfl rfl
    |with_reducible refine(yH _ U M _ P.out K'.out).mono ?_
     rintro e W6 ⟨rfl,aS⟩;have s:=a.out.later aS;have ou:=aU D.out aS;replace a:=aa s;clear aS D P Y;have D:=aa ou;clear s ou
    |refine al 82 ?_;refine aF 82 (w.heap.size+1) 1 rfl ?_;refine oc rfl 82 _ _ rfl 1 rfl (ae 100 ba (dp ((l.drop 4).take 128))) rfl (by rw[ah gl,ac]) cl a.out [.slice z j B] (ae 100 ba fun _=>0) (ae 96 (fun _=> .u8) fun _=>0) rfl rfl (by rw[ac,ac]) (fun W7 s wl=>?_)
     have ou:=de D.out wl (by omega);replace a:=aa s;clear D wl;have D:=aa ou
     clear s ou)
   obtain⟨WS,hWS⟩:∃WS,WS=W7:=⟨_,rfl⟩;subst hWS;have hS7:=aa a.out;have hz7:=a.out.size;obtain⟨U,M,F,E,kY⟩:=a.out.part 2 96 ((l.drop 132).take 96) (by simp) rfl Bf.out;obtain⟨Q,O,rfl,_⟩:=E.row.cell 0 (by rw[Bf.out];decide);have hqb:=kY Q O rfl;have YE:=E.low Q O rfl
   have CM:=aa (fun(W:World) (h:aL (w.heap.size+1) WS W)=>(h.cell (p:=⟨gp,2,none⟩) (iE F) (show gp≠w.heap.size+1 by
    obtain⟨g,c',e,hg,_⟩:=a.out.hP;injection e with e1
    cases e1
    omega)).trans F)
   have CJ:=aa (fun(W:World) (h:aL (w.heap.size+1) WS W) (j:Nat) (I:j<96)=>show W.cell? ⟨Q,O+j,none⟩=some (.int .u8 (l.getD (132+j) 0))from by
    obtain⟨b',o',e,hc⟩:=E.row.cell j (by rw[Bf.out];exact I);cases e;rw[bA _ _ _ _ I]at hc
    exact(h.cell (p:=⟨Q,O+j,none⟩) YE (show Q≠w.heap.size+1 by omega)).trans hc)
   clear F E kY
   go_loopw [11] (fun i wr=>∃m:Nat,m≤96∧i= .int .i64 (m:Int)∧wr.heap[w.heap.size+1]?=some (.cells (bI (.slice z j B) (dp ((l.drop 4).take 128)) (nR l m)).toArray 84 (0,0))∧aL (w.heap.size+1) WS wr) (fun i _=>96-(intOf i).toNat)
   case atStart=>exact⟨0,by omega,rfl,by rw[←qR (f:=fun _=>0) (g:=nR l 0) (fun i hi=>by simp[nR])];exact a.out.hX,aL.refl _ _⟩
   case round=>
    obtain⟨m,hm,rfl,O4,zh⟩:=hrel;clear a;have J:=aa O4;have r:=aa zh;clear O4 zh;by_cases A:m<96
    ·have lm:(m:Int)<96:=by omega
     have m6:=aa (CM.out _ r.out);have zf:=aa (CJ.out _ r.out m A);generalize hy:l.getD (132+m) 0=y at*;have hy':=aa hy;clear hy
     go_wp2_with (first
      |refine aC 114 ?_;refine ab (by rfl) _ (ai _ 114 39 _ _ rfl cV 1 dv gp 0 3 cp rfl .i64 2 rfl (by decide) 2 (by decide)) ?_
      |refine ag 39 ?_;refine dq (v:=(.slice (some ⟨Q,O,none⟩) 96 M)) m6.out bF ?_ rfl rfl rfl rfl
      |refine aC 39 ?_;refine ab (by rfl) _ (ai _ 39 5 _ _ rfl bF 1 cR Q O 96 M rfl .i64 m rfl A (O+m) (by omega)) ?_
      |refine ag 5 ?_;refine dq (v:=(.int .u8 y)) zf.out sE ?_ rfl rfl rfl rfl
      |refine al 5 ?_;refine aH rfl fun K u=>bt 5 _ _ rfl (w.heap.size+1) (101+m) rfl (.int .u8 y) rfl rfl cR _ _ J.out (by simp[bI,ac];omega) (fun W8 hC8 hx8=>u _ _ ?_);clear u K)
     have Id:W8.heap[w.heap.size+1]?=some (.cells (bI (.slice z j B) (dp ((l.drop 4).take 128)) (nR l (m+1))).toArray 84 (0,0)):=by
      rw[hC8,JH (g:=nR l (m+1)) A (fun i hi=>?_)];rw[←hy'.out];unfold nR;by_cases e:i=m
      ·subst e;simp
      ·rw[an e]
       by_cases e2:i<m
       ·rw[aj e2,aj (by omega)]
       ·rw[an e2,an (by omega)]
     exact⟨⟨m+1,by omega,by go_num,Id,r.out.trans hx8⟩,by simp[intOf];omega⟩
    ·have e:m=96:=by omega
     subst e;clear A hm
     have YS:wr.heap[w.heap.size+1]?=some (.cells (bI (.slice z j B) (dp ((l.drop 4).take 128)) (fun i=>l.getD (132+i) 0)).toArray 84 (0,0)):=by rw[←qR (f:=nR l 96) (fun i hi=>by simp[nR,hi])];exact J.out
     have Ry:=de D.out r.out (by omega);have eJ:=hS7.out.toRqX.set r.out YS;clear J r YS D hS7 CM CJ;have a:=aa eJ;have D:=aa Ry;clear eJ Ry
     go_wp2_with (first
      |refine ag 84 ?_;refine ab (by rfl) _ (ay _ 84 _ (by rfl) (w.heap.size+1) (by rfl) _ _ (0,0) _ a.out.hX nC rfl (by rw[cS,cI,bp])) ?_
      |refine al 84 ?_;refine aF 84 w.heap.size 0 rfl ?_;refine aH rfl fun K u=>wp_store_row 84 _ _ rfl w.heap.size rfl _ rfl (kj _ _ _ _ _) (by rw[cS,cI,bp]) _ 84 a.out.hR (by rw[cI,bp,cI,bp]) (fun nB iJ eK=>u _ _ ?_);clear u K)
     have Vm:=qL (de D.out eK (by omega)) (show w.heap.size≤w.heap.size+2 by omega);exact aI rfl w.heap.size 0 (bI (.slice z j B) (dp ((l.drop 4).take 128)) (fun i=>l.getD (132+i) 0)) _ rfl (aE iJ) nC rfl (by rw[cS,bp]) rfl ⟨⟨z,B,rfl,Vm⟩,eK.below a.out.hB bG (by have:=a.out.size;omega)⟩
def EL (l m a c w) (j:Row w a .u8 l) (i:∀b o,a=some ⟨b,o,none⟩→b<w.heap.size) (g:l.length=m) (f:m<4294967296) (k:iO l=0):
 Calls prog 143 #[.slice a m c,.int .i64 64] w fun e d=>(∃s,e= .returned (.tuple #[s,.int .i64 0])∧iT (fi l) s w.heap.size d)∧Below w.heap.size w d:=by
 have h:=rreadListB_any l m a c w j i g f;rw[k]at h;exact h
def D4 (l m a c w) (u:Row w a .u8 l) (r:∀b o,a=some ⟨b,o,none⟩→b<w.heap.size) (q:l.length=m) (p:m<4294967296) {f} (j:iO l=f) (n:¬(f=0)):
 Calls prog 143 #[.slice a m c,.int .i64 64] w fun e i=>(∃d g,e= .returned (.tuple #[.slice d 0 g,.int .i64 (f:Int)]))∧Below w.heap.size w i:=by
 have h:=rreadListB_any l m a c w u r q p;rw[j]at h;refine h.mono fun e i ⟨⟨s,z,k⟩,y⟩=>⟨?_,y⟩;have v:fi l=[]:=by unfold fi;rw[an (by rw[j];exact n)]
 rw[v]at k;obtain⟨d,g,A,_⟩:=k;exact⟨d,g,by rw[z,A];rfl⟩
def Kj (l L k B c w) (fc:cG B c l w) (uT:l.length=L) (Bp:L=228+k) (ai4:L<4294967296) (kc:aK l 0=228) (hE:iO (l.drop 228)=0):
 Calls prog 79 #[.slice B L c] w fun e w'=>(∃s,e= .returned (.tuple #[.agg (bI s (dp ((l.drop 4).take 128)) (fun j=>l.getD (132+j) 0)).toArray,.int .i64 0])∧iT (fi (l.drop 228)) s w.heap.size w')∧Below w.heap.size w w':=by
 have cW:L≤70368744177664:=by omega
 have Q8:=aa (fun B c w h1 h2 h3=>EL (l.drop 228) k B c w h1 h2 h3 (by omega) hE);clear hE;have u:=aa Bp;have jE:=aa kc;clear kc Bp;have hs:=aa fc;have hL:=aa uT;clear fc uT
 go_enter func79,ntmps79
 have wt:=aa (fun(W:World) (gs:Nat) (hl:cG B c l W) (hZ:et gs [0,128,96] W)=>uD l B c gs [0,128,96] 3 3 W hl hZ rfl (by decide) (by decide) (by decide) (by rw[hL.out,u.out];exact Ct _ _) (by decide) (by rw[hL.out];exact cW) 1 rfl (by decide) (ux jE.out (by rw[hL.out,u.out];exact Ct _ _)));rw[hL.out,Da hL.out jE.out u.out]at wt;have fq:=aa (show ((l.drop 228).take k).length=k by rw[cf,bJ,hL.out,u.out];omega);have K':=aa (show ((l.drop 4).take 128).length=128 by rw[cf,bJ,hL.out,u.out];omega);have S:=aa (show ((l.drop 132).take 96).length=96 by rw[cf,bJ,hL.out,u.out];omega)
 go_wp2_with (first
  |refine ao 90 ?_;refine fX 2 pN ?_
  |refine ao 90 ?_;refine fX 4 pN ?_
   refine bZ (fun W=>RqX w.heap.size (bI (.slice none 0 0) (fun _=>0) (fun _=>0)) (bI (.slice none 0 0) (fun _=>0) (fun _=>0)) 90 w W) (RqX.begin rfl rfl rfl) ?_;intro W b;have a:=aa b;clear b
  |with_reducible refine(wt.out _ W.heap.size ?hI ?hZ).mono ?d
   case hI=>exact(hs.out.later a.out.hB).later ((aP _ W).alloc bG _)
   case hZ=>exact tI W
   rintro e W2 ⟨⟨v,rfl,sG⟩,kK⟩;obtain⟨F,Y,rfl,b⟩:=KZ.of (a.out.later ((aP _ W).alloc bG (.cells #[.int .i64 0,.int .i64 128,.int .i64 96] 3))) (k:=3) rfl kK sG;replace a:=aa b;clear sG kK;obtain⟨Q,G,C,n,_⟩:=b.part 0 k ((l.drop 228).take k) (by simp) rfl fq.out;have sM:=aa C;have X:(l.drop 228).take k=l.drop 228:=kL (by rw[bJ,hL.out];have:=u.out;omega);rw[X]at n;have K6:=aa (Q8.out Q G W2 n.row n.low (by rw[←X];exact fq.out));clear C n X;clear b
  |refine aC 114 ?_;refine ab (by rfl) _ (ai _ 114 39 _ _ rfl cV 1 dv F 0 3 Y rfl .i64 0 rfl (by decide) 0 (by decide)) ?_
  |refine ag 39 ?_;refine dq (v:=(.slice Q k G)) sM.out bF ?_ rfl rfl rfl rfl
  |with_reducible refine K6.out.mono ?_
   rintro e W3 ⟨⟨s,rfl,YU⟩,sN⟩;have b:=a.out.later sN;have o:=aa (YU.uW (show w.heap.size+2≤W2.heap.size from a.out.size));replace a:=aa b;clear sN YU K6;clear b
  |refine al 88 ?_;refine aF 88 (w.heap.size+1) 0 rfl ?_
   obtain⟨A,E,es,_⟩:=o.out;subst es;refine aH rfl fun K q=>bt 88 _ _ rfl (w.heap.size+1) 0 rfl _ rfl rfl GZ _ _ a.out.hX (by simp[bI]) (fun W4 fW R=>q _ _ ?_);clear q K;have b:=a.out.set R (show W4.heap[w.heap.size+1]?=some (.cells (bI (.slice A (fi (l.drop 228)).length E) (fun _=>0) (fun _=>0)).toArray 90 (0,0))from fW);have d:=aa (o.out.apart R (by omega));obtain⟨I,O,R5,Be,_⟩:=b.part 1 128 ((l.drop 4).take 128) (by simp) rfl K'.out;have M:=aa R5;have J:=aa Be;clear R5 Be;replace a:=aa b;clear R fW;clear b
  |refine aC 114 ?_;refine ab (by rfl) _ (ai _ 114 39 _ _ rfl cV 1 dv F 0 3 Y rfl .i64 1 rfl (by decide) 1 (by decide)) ?_
  |refine ag 39 ?_;refine dq (v:=(.slice I 128 O)) M.out bF ?_ rfl rfl rfl rfl
  |with_reducible refine(yH _ I O _ J.out K'.out).mono ?_
   rintro e W6 ⟨rfl,U⟩;have b:=a.out.later U;have o:=d.out.later U;replace a:=aa b;clear U d J M;have d:=aa o;clear b o
  |refine al 82 ?_;refine aF 82 (w.heap.size+1) 1 rfl ?_;refine oc rfl 82 _ _ rfl 1 rfl (ae 100 ba (dp ((l.drop 4).take 128))) rfl (by rw[ah gl,ac]) cl a.out [.slice A (fi (l.drop 228)).length E] (ae 100 ba fun _=>0) (ae 96 (fun _=> .u8) fun _=>0) rfl rfl (by rw[ac,ac]) (fun W7 b wl=>?_)
   have o:=d.out.apart wl (by omega);replace a:=aa b;clear d wl;have d:=aa o
   clear b o)
 obtain⟨H,hWS⟩:∃H,H=W7:=⟨_,rfl⟩;subst hWS;have N:=aa a.out;have hz7:=a.out.size;obtain⟨Q,G,C,n,kY⟩:=a.out.part 2 96 ((l.drop 132).take 96) (by simp) rfl S.out;obtain⟨z,r,rfl,_⟩:=n.row.cell 0 (by rw[S.out];decide);have hqb:=kY z r rfl;have YE:=n.low z r rfl
 have CM:=aa (fun(W:World) (h:aL (w.heap.size+1) H W)=>(h.cell (p:=⟨F,2,none⟩) (iE C) (show F≠w.heap.size+1 by
  obtain⟨g,c',e,hg,_⟩:=a.out.hP;injection e with e1
  cases e1
  omega)).trans C)
 have CJ:=aa (fun(W:World) (h:aL (w.heap.size+1) H W) (j:Nat) (hj:j<96)=>show W.cell? ⟨z,r+j,none⟩=some (.int .u8 (l.getD (132+j) 0))from by
  obtain⟨b',o',e,hc⟩:=n.row.cell j (by rw[S.out];exact hj);cases e;rw[bA _ _ _ _ hj]at hc
  exact(h.cell (p:=⟨z,r+j,none⟩) YE (show z≠w.heap.size+1 by omega)).trans hc)
 clear C n kY
 go_loopw [7] (fun i wr=>∃m:Nat,m≤96∧i= .int .i64 (m:Int)∧wr.heap[w.heap.size+1]?=some (.cells (bI (.slice A (fi (l.drop 228)).length E) (dp ((l.drop 4).take 128)) (nR l m)).toArray 90 (0,0))∧aL (w.heap.size+1) H wr) (fun i _=>96-(intOf i).toNat)
 case atStart=>exact⟨0,by omega,rfl,by rw[←qR (f:=fun _=>0) (g:=nR l 0) (fun i T=>by simp[nR])];exact a.out.hX,aL.refl _ _⟩
 case round=>
  obtain⟨m,hm,rfl,O4,zh⟩:=hrel;clear a;have V:=aa O4;have D:=aa zh;clear O4 zh;by_cases P:m<96
  ·have lm:(m:Int)<96:=by omega
   have m6:=aa (CM.out _ D.out);have zf:=aa (CJ.out _ D.out m P);generalize hy:l.getD (132+m) 0=y at*;have Z:=aa hy;clear hy
   go_wp2_with (first
    |refine aC 114 ?_;refine ab (by rfl) _ (ai _ 114 39 _ _ rfl cV 1 dv F 0 3 Y rfl .i64 2 rfl (by decide) 2 (by decide)) ?_
    |refine ag 39 ?_;refine dq (v:=(.slice (some ⟨z,r,none⟩) 96 G)) m6.out bF ?_ rfl rfl rfl rfl
    |refine aC 39 ?_;refine ab (by rfl) _ (ai _ 39 5 _ _ rfl bF 1 cR z r 96 G rfl .i64 m rfl P (r+m) (by omega)) ?_
    |refine ag 5 ?_;refine dq (v:=(.int .u8 y)) zf.out sE ?_ rfl rfl rfl rfl
    |refine al 5 ?_;refine aH rfl fun K q=>bt 5 _ _ rfl (w.heap.size+1) (101+m) rfl (.int .u8 y) rfl rfl cR _ _ V.out (by simp[bI,ac];omega) (fun W8 hC8 hx8=>q _ _ ?_);clear q K)
   have Id:W8.heap[w.heap.size+1]?=some (.cells (bI (.slice A (fi (l.drop 228)).length E) (dp ((l.drop 4).take 128)) (nR l (m+1))).toArray 90 (0,0)):=by
    rw[hC8,JH (g:=nR l (m+1)) P (fun i T=>?_)];rw[←Z.out];unfold nR;by_cases e:i=m
    ·subst e;simp
    ·rw[an e]
     by_cases e2:i<m
     ·rw[aj e2,aj (by omega)]
     ·rw[an e2,an (by omega)]
   exact⟨⟨m+1,by omega,by go_num,Id,D.out.trans hx8⟩,by simp[intOf];omega⟩
  ·have e:m=96:=by omega
   subst e;clear P hm
   have YS:wr.heap[w.heap.size+1]?=some (.cells (bI (.slice A (fi (l.drop 228)).length E) (dp ((l.drop 4).take 128)) (fun i=>l.getD (132+i) 0)).toArray 90 (0,0)):=by rw[←qR (f:=nR l 96) (fun i T=>by simp[nR,T])];exact V.out
   have Ry:=d.out.apart D.out (by omega);have eJ:=N.out.toRqX.set D.out YS;clear V D YS d N CM CJ;have a:=aa eJ;have d:=aa Ry;clear eJ Ry
   go_wp2_with (first
    |refine ag 90 ?_;refine ab (by rfl) _ (ay _ 90 _ (by rfl) (w.heap.size+1) (by rfl) _ _ (0,0) _ a.out.hX Ig rfl (by rw[ki,cI,bp])) ?_
    |refine al 90 ?_;refine aF 90 w.heap.size 0 rfl ?_;refine aH rfl fun K q=>wp_store_row 90 _ _ rfl w.heap.size rfl _ rfl (kj _ _ _ _ _) (by rw[ki,cI,bp]) _ 90 a.out.hR (by rw[cI,bp,cI,bp]) (fun nB iJ eK=>q _ _ ?_);clear q K)
   have Vm:=(d.out.apart eK (by omega)).uW (show w.heap.size≤w.heap.size+2 by omega);exact aI rfl w.heap.size 0 (bI (.slice A (fi (l.drop 228)).length E) (dp ((l.drop 4).take 128)) (fun i=>l.getD (132+i) 0)) _ rfl (aE iJ) Ig rfl (by rw[ki,bp]) rfl ⟨⟨_,rfl,Vm⟩,eK.below a.out.hB bG (by have:=a.out.size;omega)⟩
def AU (l b c w) (O:cG b c l w) (B:l.length≤70368744177664) (d) (X:d≠0):
 (Pq l d (xN (l.length-228)=(d:Int))→Calls prog 142 #[.slice b l.length c] w fun e j=>e= .returned (.tuple #[.agg (bI (.slice none 0 0) (fun _=>0) (fun _=>0)).toArray,.int .i64 (d:Int)])∧Below w.heap.size w j)∧
 (l.length<4294967296→Pq l d (iO (l.drop 228)=d)→Calls prog 79 #[.slice b l.length c] w fun e j=>e= .returned (.tuple #[.agg (bI (.slice none 0 0) (fun _=>0) (fun _=>0)).toArray,.int .i64 (d:Int)])∧Below w.heap.size w j):=by
 have nU:((d:Int)==0)=false:=by simp;omega
 have Zj:((d:Int) !=0)=true:=by simp;omega
 have hs:=aa O;obtain⟨L,D⟩:∃L,l.length=L:=⟨_,rfl⟩;have hL:=aa D;clear O;unfold Pq;rw[D]at B ⊢;refine⟨fun h=>?_,fun hf h=>?_⟩<;>rcases h with⟨y,H⟩|⟨y,s,H⟩|⟨y,s,o⟩<;>
 (first
   |obtain⟨k,A⟩:∃k,L=228+k:=⟨L-228,by omega⟩
    have n:=aa A;have P:=aa (show aK l 0=228 from s);have q:=aa (fun(W:World) (i:Nat) (hl:cG b c l W) (hZ:et i [0,128,96] W)=>uD l b c i [0,128,96] 3 3 W hl hZ rfl (by decide) (by decide) (by decide) (by rw[hL.out,n.out];exact Ct _ _) (by decide) (by rw[hL.out];exact B) 1 rfl (by decide) (ux P.out (by rw[hL.out,n.out];exact Ct _ _)));rw[hL.out,Da hL.out P.out n.out]at q;have Q:=aa (show ((l.drop 228).take k).length=k by rw[cf,bJ,hL.out,n.out];omega)
    first
    |rw[show L-228=k by omega]at o
     have E:=aa (fun b c w=>show Calls prog 75 #[.slice b k c,.int .i64 8,.int .i64 64] w (fun e j=>e= .returned (.tuple #[.slice none 0 0,.int .i64 (d:Int)])∧w=j)from FN b c k 8 64 (d:Int) w (by omega) (by decide) o (by omega));clear o A
    |(have E:=aa (fun b c w h1 h2 Z=>D4 (l.drop 228) k b c w h1 h2 Z (by omega) o X)
      clear o A)
   |have r:=aa (fun(W:World) (i:Nat) (hl:cG b c l W) (hZ:et i [0,128,96] W)=>uO l b c i [0,128,96] 3 3 W hl hZ rfl (by decide) (by decide) (by decide) (by rw[hL.out];exact y) (by decide) (by rw[hL.out];exact B) 1 rfl (by decide) (A1 s))
    rw[hL.out]at r;subst H
   |have p:=aa (fun(W:World) (i:Nat) (hZ:et i [0,128,96] W)=>uP l b c i [0,128,96] 3 3 W hZ rfl (by decide) (by decide) (by decide) (by rw[hL.out];exact y))
    rw[hL.out]at p;subst H
  clear D
  try clear s
  first
  |go_enter func142,ntmps142
  |go_enter func79,ntmps79
  go_wp2_with (first
   |refine ao 84 ?_;refine fX 2 pM ?_
   |refine ao 90 ?_;refine fX 2 pN ?_
   |refine ao 84 ?_;refine fX 4 pM ?_
    refine bZ (fun W=>RqX w.heap.size (bI (.slice none 0 0) (fun _=>0) (fun _=>0)) (bI (.slice none 0 0) (fun _=>0) (fun _=>0)) 84 w W) (RqX.begin rfl rfl rfl) ?_;intro W f;have a:=aa f;clear f
   |refine ao 90 ?_;refine fX 4 pN ?_
    refine bZ (fun W=>RqX w.heap.size (bI (.slice none 0 0) (fun _=>0) (fun _=>0)) (bI (.slice none 0 0) (fun _=>0) (fun _=>0)) 90 w W) (RqX.begin rfl rfl rfl) ?_;intro W f;have a:=aa f;clear f
   |with_reducible refine(p.out _ W.heap.size (tI W)).mono ?_
    rintro e M ⟨rfl,rfl⟩;replace a:=aa (a.out.later ((aP _ W).alloc bG (.cells #[.int .i64 0,.int .i64 128,.int .i64 96] 3)))
   |with_reducible refine(r.out _ W.heap.size ((hs.out.later a.out.hB).later ((aP _ W).alloc bG _)) (tI W)).mono ?_
    rintro e M ⟨rfl,u⟩;replace a:=aa ((a.out.later ((aP _ W).alloc bG (.cells #[.int .i64 0,.int .i64 128,.int .i64 96] 3))).later u)
   |((with_reducible refine(q.out _ W.heap.size ((hs.out.later a.out.hB).later ((aP _ W).alloc bG _)) (tI W)).mono ?_)
     rintro e M ⟨⟨v,rfl,S⟩,u⟩;obtain⟨gp,cp,rfl,f⟩:=KZ.of (a.out.later ((aP _ W).alloc bG (.cells #[.int .i64 0,.int .i64 128,.int .i64 96] 3))) (k:=3) rfl u S;replace a:=aa f;clear S u;obtain⟨z,J,C,m,_⟩:=f.part 0 k ((l.drop 228).take k) (by simp) rfl Q.out;have Y:=aa C
     first
      |have I:(l.drop 228).take k=l.drop 228:=kL (by rw[bJ,hL.out];have:=n.out;omega)
       rw[I]at m;have V:=aa (E.out z J M m.row m.low (by rw[←I];exact Q.out));clear f C m I
      |clear f C m)
   |refine ag 84 ?_;refine ab (by rfl) _ (ay _ 84 _ (by rfl) (w.heap.size+1) (by rfl) _ _ (0,0) _ a.out.hX nC rfl (by rw[cS,cI,bp])) ?_
   |refine ag 90 ?_;refine ab (by rfl) _ (ay _ 90 _ (by rfl) (w.heap.size+1) (by rfl) _ _ (0,0) _ a.out.hX Ig rfl (by rw[ki,cI,bp])) ?_
   |refine aC 114 ?_;refine ab (by rfl) _ (ai _ 114 39 _ _ rfl cV 1 dv gp 0 3 cp rfl .i64 0 rfl (by decide) 0 (by decide)) ?_
   |refine ag 39 ?_;refine dq (v:=(.slice z k J)) Y.out bF ?_ rfl rfl rfl rfl
   |with_reducible refine(E.out z J _).mono ?_
    rintro e W3 ⟨rfl,rfl⟩
   |with_reducible refine V.out.mono ?_
    rintro e W3 ⟨⟨U,cn,rfl⟩,R⟩;replace a:=aa (a.out.later R);clear R
   |refine al 88 ?_;refine aF 88 (w.heap.size+1) 0 rfl ?_
    refine aH rfl fun K g=>bt 88 _ _ rfl (w.heap.size+1) 0 rfl _ rfl rfl GZ _ _ a.out.hX (by simp[bI]) (fun W4 T N=>g _ _ ?_);clear g K;replace a:=aa (a.out.set N (show W4.heap[w.heap.size+1]?=some (.cells (bI (.slice U 0 cn) (fun _=>0) (fun _=>0)).toArray 90 (0,0))from T));clear N T
   |refine cZ 84 ?_;refine ab (by rfl) _ (uh _ rfl) ?_
   |refine cZ 90 ?_;refine ab (by rfl) _ (uj _ rfl) ?_
   |refine al 84 ?_;refine aF 84 w.heap.size 0 rfl ?_;refine aH rfl fun K g=>wp_store_row 84 _ _ rfl w.heap.size rfl _ rfl (kj _ _ _ _ _) (by rw[cS,cI,bp]) _ 84 a.out.hR rfl (fun nB F G=>g _ _ ?_);clear g K
   |refine al 90 ?_;refine aF 90 w.heap.size 0 rfl ?_;refine aH rfl fun K g=>wp_store_row 90 _ _ rfl w.heap.size rfl _ rfl (kj _ _ _ _ _) (by rw[ki,cI,bp]) _ 90 a.out.hR rfl (fun nB F G=>g _ _ ?_);clear g K)
  first
   |exact aI rfl w.heap.size 0 (bI (.slice none 0 0) (fun _=>0) (fun _=>0)) _ rfl (aE F) nC rfl (by rw[cS,bp]) rfl ⟨rfl,G.below a.out.hB bG (by have:=a.out.size;omega)⟩
   |exact aI rfl w.heap.size 0 (bI (.slice none 0 0) (fun _=>0) (fun _=>0)) _ rfl (aE F) Ig rfl (by rw[ki,bp]) rfl ⟨rfl,G.below a.out.hB bG (by have:=a.out.size;omega)⟩)
def Od (l:List Int) (a:Nat) (b:List Int) (d c:Nat→Int):Prop:=
 (a≠0∧b=[]∧d=(fun _=>0)∧c=(fun _=>0)∧(l.length<228∧a=4∨228≤l.length∧aK l 0≠228∧a=5∨228≤l.length∧aK l 0=228∧xN (l.length-228)=(a:Int)))∨
 (a=0∧∃k,l.length=228+8*k∧k≤64∧aK l 0=228∧b=lQ (l.drop 228) k∧d=dp ((l.drop 4).take 128)∧c=fun j=>l.getD (132+j) 0)
def QH (L):∃e:Nat,xN L=(e:Int):=by
 unfold xN;split
 ·exact⟨4,rfl⟩
 ·split
  ·exact⟨6,rfl⟩
  ·exact⟨0,rfl⟩
def MH (l):∃g c f d,Od l g c f d:=by
 by_cases h:l.length<228
 ·exact⟨4,[],_,_,Or.inl ⟨by decide,rfl,rfl,rfl,Or.inl ⟨h,rfl⟩⟩⟩
 ·by_cases a:aK l 0=228
  ·obtain⟨e,he⟩:=QH (l.length-228)
   by_cases b:e=0
   ·subst b
    unfold xN at he;split at he
    ·cases he
    ·split at he
     ·cases he
     ·refine⟨0,_,_,_,Or.inr ⟨rfl,(l.length-228)/8,by omega,by omega,a,rfl,rfl,rfl⟩⟩
   ·exact⟨e,[],_,_,Or.inl ⟨b,rfl,rfl,rfl,Or.inr (Or.inr ⟨by omega,a,he⟩)⟩⟩
  ·exact⟨5,[],_,_,Or.inl ⟨by decide,rfl,rfl,rfl,Or.inr (Or.inl ⟨by omega,a,rfl⟩)⟩⟩
def qg (a:List Int) (d c:Nat→Int) (Y:Array Value) (W:World):Prop:=∃b e,Y=(bI (.slice b a.length e) d c).toArray∧Row W b .u64 a
def qg.later {a c b} (Y W W') (h:qg a c b Y W) (f:Below W.heap.size W W'):qg a c b Y W':=by obtain⟨d,i,e,g⟩:=h;exact⟨d,i,e,g.later f⟩
def qg.size {a c b Y W} (h:qg a c b Y W):Y.size=197:=by obtain⟨d,e,rfl,_⟩:=h;rw[cI,bp]
def qg.one {a c b Y W} (h:qg a c b Y W):Y.all (·.oneCell')=true:=by obtain⟨d,e,rfl,_⟩:=h;exact kj _ _ _ _ _
def qg.congr {a f c d b Y W} (h:qg a f c Y W) (k:∀j,j<100→f j=d j) (hs:∀j,j<96→c j=b j):qg a d b Y W:=by obtain⟨g,m,e,l⟩:=h;refine⟨g,m,?_,l⟩;rw[e];unfold bI;rw[bU (N:=100) (kd:=ba) k,bU (N:=96) (kd:=fun _=> .u8) hs]
def AW {a n c d l w} (h:w.ownsRow a 26 1 (.slice d n c) n (l.map (Value.int .u64))) (j:∀m∈l,CK.ok .u64 m):Row w d .u64 l∧∀b o,d=some ⟨b,o,none⟩→b<w.heap.size:=by
 refine⟨⟨fun i k=>?_,j⟩,fun b o e=>?_⟩
 ·obtain⟨b,o,e,p⟩:=oU h i (.int .u64 (l.getD i 0)) (by simp[List.getD,k])
  exact⟨b,o,e,p⟩
 ·subst e
  rcases h.2 with⟨f,_⟩|⟨g,s,r,f,_,q,_⟩
  ·cases f
  ·cases f
   exact aD q
def CY {q k} (hl:8*k≤q.length) (a:∀x∈q,CK.ok .u8 x):∀m∈lQ q k,CK.ok .u64 m:=fun m b=>by
 obtain⟨i,c,rfl⟩:=ft.1 b;have d:i<k:=by simpa using c
 exact Ta _ (by rw[cf,bJ];omega) (jO a _ _)
def On {w k}:Row w none k []:=⟨fun i b=>absurd b (by simp),fun m a=>by simp at a⟩
def mX {l} (a:∀x∈l,CK.ok .u8 x) (hl:4≤l.length) (n) (e:aK l 0=n):l.take 4=jB (n:Int):=by
 have d:=x4 a 0;rw[e]at d;simp only[rdI,bY]at d;have b:=fun i=>iu a i;have q:=b 0;have p:=b 1;have o:=b 2;have m:=b 3;unfold mD at q p o m;have k:l.getD 0 0=lL n 0:=by unfold lL;omega
 have j:l.getD 1 0=lL n 1:=by unfold lL;omega
 have h:l.getD 2 0=lL n 2:=by unfold lL;omega
 have g:l.getD 3 0=lL n 3:=by unfold lL;omega
 apply mG;intro i;by_cases c:i<4
 ·have f:(l.take 4)[i]?=some (l.getD i 0):=by
   rw[nO c,fS (by omega)];simp[List.getD,show i<l.length by omega]
  rw[f]
  match i,c with
  |0,_=>exact fB some k
  |1,_=>exact fB some j
  |2,_=>exact fB some h
  |3,_=>exact fB some g
 ·rw[eT (by rw[cf];omega),eT (by rw[cC];omega)]
def T7:∀(k:Nat) (q:List Int),q.length=8*k→(∀x∈q,CK.ok .u8 x)→d_ (lQ q k)=q:=by
 intro k q hl c
 have a:∀j,j≤k→d_ ((lQ q k).take j)=q.take (8*j):=by
  intro j
  induction j with
  |zero=>intro _;simp[d_]
  |succ j b=>
   intro d;rw[o9 _ j (by rw[iw];omega),b (by omega)];have e:(lQ q k).getD j 0=p9 ((q.drop (8*j)).take 8):=by simp[lQ,List.getD,show j<k by omega]
   rw[e,Jv _ (by rw[cf,bJ];omega) (jO c _ _),show 8*(j+1)=8*j+8 by omega,IJ]
 have h:=a k (cD k)
 rwa [kL (by rw[iw];exact cD _),kL (by omega)]at h
def Mw (q k):lQ q (k+1)=p9 (q.take 8)::lQ (q.drop 8) k:=by
 unfold lQ;rw[Sl,qC,Fc]
 congr 1
 apply Fd;intro i _;show p9 ((q.drop (8*(i+1))).take 8)=p9 (((q.drop 8).drop (8*i)).take 8);rw[lO,show 8+8*i=8*(i+1) by omega]
def FT:∀(a:List Int),(∀m∈a,CK.ok .u64 m)→lQ (d_ a) a.length=a
 |[],_=>rfl
 |m::a,h=>by
  have f:d_ (m::a)=fH m++d_ a:=by simp[d_]
  have b:CK.ok .u64 m:=h m (by simp);rw[List.length_cons,Mw,f];have e:(fH m++d_ a).take 8=fH m:=by rw[Sk (aX m)]
  have d:(fH m++d_ a).drop 8=d_ a:=by rw[Az (aX m)]
  rw[e,d,Jq m b.1 b.2,FT a fun x c=>h x (by simp[c])]
def T5 (a c b):aK (eU a c b) 0=228:=by
 unfold aK
 have e:rdI (fun j=>(eU a c b).getD (0+j) 0) 4=rdI (fun j=>(jB 228).getD j 0) 4:=uw 4 fun j d=>by rw[bY];simp only[eU,dA,List.getD];rw[eY (by rw[cC];exact d)]
 rw[e];decide
def QA {l b e d} (a:∀x∈l,CK.ok .u8 x) (h:Od l 0 b e d):eU b e d=l∧b.length≤64∧(∀m∈b,CK.ok .u64 m)∧(∀j,j<100→(ba j).ok (e j))∧∀j,j<96→CK.ok .u8 (d j):=by
 rcases h with⟨n,_⟩|⟨_,k,hl,i,g,rfl,rfl,rfl⟩
 ·exact absurd rfl n
 ·have f:((l.drop 4).take 128).length=128:=by rw[cf,bJ];omega
  refine⟨?_,by rw[iw];exact i,CY (by rw[bJ];omega) (fun x c=>a x (kM c)),FP f (jO a _ _),fun j _=>iu a _⟩;unfold eU;rw[T7 k (l.drop 228) (by rw[bJ];omega) (fun x c=>a x (kM c)),DV _ f (jO a _ _),tG _ l 0 132 96 (fun j _=>by rw[bY]) (by omega)];rw[show jB 228=l.take 4 from(mX a (by omega) 228 g).symm];rw[dA,oW l 132 96 228 (by decide),dA,oW l 4 128 132 (by decide),jI]
def Qn {a c b} (i:a.length≤64) (h:∀m∈a,CK.ok .u64 m) (k:∀j,j<100→(ba j).ok (c j)) (hs:∀j,j<96→CK.ok .u8 (b j)):
 ∃g f,Od (eU a c b) 0 a g f∧(∀j,j<100→g j=c j)∧∀j,j<96→f j=b j:=by
 have d:=ll a c b
 have n:(eU a c b).drop 228=d_ a:=by unfold eU;rw[Az (by simp[cC,bS,az])]
 have l:((eU a c b).drop 4).take 128=eQ c:=by rw[show eU a c b=jB 228++(eQ c++(ff b 0 96++d_ a)) by simp[eU]];exact gJ _ _ _ 4 128 rfl (bS _)
 have o:((eU a c b).drop 132).take 96=ff b 0 96:=by rw[show eU a c b=(jB 228++eQ c)++(ff b 0 96++d_ a) by simp[eU]];exact gJ _ _ _ 132 96 (by simp[cC,bS]) (az _ _ _)
 refine⟨_,_,Or.inr ⟨rfl,a.length,d,i,T5 _ _ _,by rw[n,FT a h],rfl,rfl⟩,fun j e=>?_,fun j e=>?_⟩
 ·rw[l]
  exact Dv c k j e
 ·show (eU a c b).getD (132+j) 0=b j
  rw[←bA _ 132 96 j e,o,n9 _ _ _ _ e,bY]
end Go.Proofs.YtjeoeibdgciafaaGreatDoor
namespace Go.Proofs.YtjeoeibdgciafaaGreatDoor
open Go.ChangeShapes Go.WideShapes Go.ChangeAt Go.RowKit BigFrame
open Go.Proofs.Tryz
def Z5:Vb prog 10 26 1 (fun _=> .u64)=true:=by kernel_rfl
def ZA:prog.cellsOf 26=1:=by kernel_rfl
def vR (j:Nat):Option CK:=if j=0 then none else if j<101 then some (ba (j-1))else some .u8
def F9 {a b d c} (hl:a.length=197) (g:a[0]?=some b) (f:∀j,j<100→a[1+j]?=some ((ba j).mk (d j))) (e:∀j,j<96→a[101+j]?=some (.int .u8 (c j))):a=bI b d c:=by
 apply mG;intro i;by_cases h:i=0
 ·subst h;rw[g];rfl
 ·by_cases l:i<101
  ·obtain⟨j,rfl⟩:∃j,i=1+j:=⟨i-1,by omega⟩
   rw[f j (by omega)];unfold bI;rw[Cu,List.getElem?_cons_succ,eY (by rw[ac];omega),aN _ _ _ _ (by omega)]
  ·by_cases k:i<197
   ·obtain⟨j,rfl⟩:∃j,i=101+j:=⟨i-101,by omega⟩
    rw[e j (by omega)];unfold bI;rw[show 101+j=(100+j)+1 by omega,List.getElem?_cons_succ,fT (by rw[ac];omega),ac,jH,aN _ _ _ _ (by omega)];rfl
   ·rw[eT (by omega),eT (by rw[bp];omega)]
end Go.Proofs.YtjeoeibdgciafaaGreatDoor
