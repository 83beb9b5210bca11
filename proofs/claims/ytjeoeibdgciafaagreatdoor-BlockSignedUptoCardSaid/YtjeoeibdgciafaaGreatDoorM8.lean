/- Steps of the proof. -/
import Derived.LoopIn
import Derived.LoopNIn
import Derived.Maps.AppendAt
import Derived.OwnWalkIn
import Derived.RangeFuncBound
import Derived.RangeFuncBox
import Derived.RangeFuncCalls
import Derived.RangeFuncNested
import Derived.Shelf.Abstract
import Derived.Shelf.RegionOpen
import Derived.TacticsInMore
import Derived.Test.YtjeoeibdgciafaaGreatDoorM7
set_option linter.all false
set_option maxRecDepth 100000
set_option maxHeartbeats 16000000
namespace Go.Proofs.YtjeoeibdgciafaaGreatDoor
open Go.RowKit BigFrame
open Go.Proofs.Tryz
def Na (l k):ju l k++[sy l k]=ju l (k+1):=by simp[ju,s7]
def Wr (W g z) (a:z=0∨z=1) (h:W.heap[g]?=some (.cells #[.bool (decide (z=1))] 4 (0,0))):Row W (some ⟨g,0,none⟩) .bool [z]:=by
 refine⟨fun i b=>⟨g,0,rfl,?_⟩,fun x c=>?_⟩
 ·have:i=0:=by simp at b;exact b
  subst this;rw[br W g _ _ _ _ h];rcases a with rfl|rfl<;>rfl
 ·rw[jJ.1 c]
  exact a
def P3 (l m d c w) (R:Row w d .u8 l) (Q:∀b o,d=some ⟨b,o,none⟩→b<w.heap.size) (hm:l.length=m) (H5:m<4294967296):
 Calls prog 181 #[.slice d m c] w fun e G=>(∃I n,e= .returned (.slice I (8*m) n)∧wB w.heap.size (.slice I (8*m) n) (ju l (8*m)) G)∧Below w.heap.size w G:=by
 have hl:=aa R;have df:=aa Q;clear R Q;have hmI:(m:Int)<4294967296:=by omega
 go_enter func181,ntmps181
 go_wp2
 go_loopw [3,4] (fun v i wr=>∃k:Nat,k≤8*m∧i= .int .i64 (k:Int)∧(∃d n,v= .slice d k n)∧wB w.heap.size v (ju l k) wr∧Below w.heap.size w wr) (fun _ i _=>8*m-(intOf i).toNat)
 case atStart=>exact⟨0,by omega,rfl,⟨_,_,rfl⟩,⟨rfl,Or.inl ⟨rfl,rfl⟩⟩,aP _ _⟩
 case round=>
  obtain⟨k,hk,rfl,⟨H,cx,rfl⟩,U,Y⟩:=hrel;have V:=aa U;have g:=aa Y;clear U Y;by_cases a8:k<8*m
  ·have lk:decide ((k:Int)<8*(m:Int))=true:=by simp;omega
   obtain⟨q,P⟩:∃q,q=k/8:=⟨_,rfl⟩;obtain⟨r,O⟩:∃r,r=k%8:=⟨_,rfl⟩;have D:q<m:=by omega
   obtain⟨b,o,e0,S⟩:=hl.out.cell q (by omega);subst e0;have A:=(g.out.cell (p:=⟨b,o+q,none⟩) (df.out b o rfl)).trans S
   have N:CK.ok .u8 (l.getD q 0):=hl.out.ok _ (by
    rw[show l.getD q 0=l[q]'(by omega) by simp[List.getD,show q<l.length by omega]]
    exact oI _)
   have J:sy l k=mz (l.getD q 0) r:=by unfold sy;rw[P,O]
   have f:=Na l k;rw[J]at f;obtain⟨y,L⟩:∃y,y=l.getD q 0:=⟨_,rfl⟩;rw[←L]at A N f;have YO:=aa (show wr.cell? ⟨b,o+q,none⟩=some (.int .u8 y)from A);obtain⟨M,Ec⟩:=N;have u:=Dg y r;obtain⟨z,s⟩:∃z,z=mz y r:=⟨_,rfl⟩;have F:(k:Int)%8=(r:Int):=by omega
   have hbq:(k:Int)/8=(q:Int):=by omega
   have a:bits BinOp.and IntKind.u8 (y/2^r) 1=z:=by obtain⟨g0,g1⟩:=JT (y:=y) M (by omega) r;rw[adg _ g0 g1,s];rfl
   have E:(bits BinOp.and IntKind.u8 (y/2^r) 1==1)=decide (z=1):=by rw[a];rfl
   rw[←s]at f u;have C:=aa f;have B:=aa u;have Z:r<8:=by omega
   clear a S A J P O L s M Ec f u;rcases eight Z with rfl|rfl|rfl|rfl|rfl|rfl|rfl|rfl
   all_goals clear Z
   all_goals simp only[Int.pow_zero,Int.ediv_one,Int.reducePow,Int.cast_ofNat_Int]at E F
   all_goals go_wp2_with (first
    |refine aC 39 ?_;refine ab (by rfl) _ (ai _ 39 5 _ _ rfl bF 1 cR b o m c rfl .i64 q rfl D (o+q) (by omega)) ?_
    |refine ag 5 ?_;refine dq YO.out sE ?_ rfl rfl rfl rfl
    |refine be .append ?_;refine aH rfl fun K W=>Hg (w0:=w) (.tmp 12) (.tmp 24) rfl w.heap.size (ju l k) [z] (.slice H k cx) rfl (V.out.later dt) (some ⟨wr.heap.size,0,none⟩) 1 1 rfl rfl (Wr _ _ z B.out (ak _ _ _ _ rfl)) (by rw[dn];simp;omega) (by rw[bn];have:=g.out.size;omega) (fun h=>by cases h) (g.out.alloc g.out.size _) (fun v2 W2 j b2 s2=>W _ _ ?_);clear W K
     rw[C.out]at j;obtain⟨vb,cb,ev,_⟩:=aW j;rw[dn]at ev;subst ev;have T:=aa j;have X:=aa b2
     clear j b2 s2)
   all_goals first
    |exact⟨⟨k+1,by omega,by go_num,⟨_,_,rfl⟩,T.out,X.out⟩,by simp[intOf];omega⟩
    |refine⟨?_,by simp[intOf];omega⟩
     (repeat apply Exists.intro)
     exact⟨⟨k+1,by omega,by go_num,⟨_,_,rfl⟩,T.out,X.out⟩,rfl⟩
  ·have e:k=8*m:=by omega
   subst e;have lk:decide (((8*m:Nat):Int)<8*(m:Int))=false:=by simp
   clear a8 hk;go_wp2;exact cA rfl _ rfl rfl ⟨⟨H,cx,rfl,V.out⟩,g.out⟩
def yq {l} (a:∀x∈l,CK.ok .u8 x) (d:l.length≠0):0≤ga l∧ga l≤255:=by
 have h:CK.ok .u8 (ga l):=a _ (by
  unfold ga;rw[show l.getD (l.length-1) 0=l[l.length-1]'(by omega) by simp[List.getD,show l.length-1<l.length by omega]]
  exact oI _)
 obtain⟨b,c⟩:=h;exact⟨b,by omega⟩
def OA {l} (d:∀x∈l,CK.ok .u8 x) (f:l.length≠0) (e:ga l≠0):jZ l<8*l.length∧8*(l.length-1)≤jZ l:=by obtain⟨a,b⟩:=yq d f;obtain⟨g,c,_⟩:=ny (ga l) a b;have:=(c e).1;unfold jZ;omega
def OV {l} (f:∀x∈l,CK.ok .u8 x) (h:l.length≠0) (g:ga l≠0):sy l (jZ l)=1:=by
 obtain⟨a,b⟩:=yq f h;obtain⟨j,d,_⟩:=ny (ga l) a b;obtain⟨i,c⟩:=d g;have e:jZ l/8=l.length-1∧jZ l%8=Lib.bitLen (ga l).toNat-1:=by unfold jZ;omega
 unfold sy;rw[e.1,e.2];exact c
def U_ {l} (f:∀x∈l,CK.ok .u8 x) (j:l.length≠0) (h:ga l≠0) {i} (g:jZ l<i) (n:i<8*l.length):sy l i=0:=by
 obtain⟨a,b⟩:=yq f j;obtain⟨m,d,c⟩:=ny (ga l) a b;obtain⟨k,_⟩:=d h;have e:i/8=l.length-1∧Lib.bitLen (ga l).toNat≤i%8:=by unfold jZ at g;omega
 unfold sy;rw[e.1];exact c (i%8) (by omega) e.2
def EW {W l N n a} (h:Row W a .bool (ju l N)) (hn:n≤N):Row W a .bool (ju l n):=by refine⟨fun i c=>?_,yA l n⟩;rw[dn]at c;obtain⟨b,o,e,d⟩:=h.cell i (by rw[dn];omega);rw[qZ l N i (by omega)]at d;exact⟨b,o,e,by rw[qZ l n i c];exact d⟩
def rreadListB_any (l m I c w) (u:Row w I .u8 l) (B:∀b o,I=some ⟨b,o,none⟩→b<w.heap.size) (K:l.length=m) (H5:m<4294967296):
 Calls prog 143 #[.slice I m c,.int .i64 64] w fun e z=>(∃s,e= .returned (.tuple #[s,.int .i64 (iO l:Int)])∧iT (fi l) s w.heap.size z)∧Below w.heap.size w z:=by
 have a:iO l≠0→∀C:Ending,C= .returned (.tuple #[.slice none 0 0,.int .i64 (iO l:Int)])→∀z,∃s,C= .returned (.tuple #[s,.int .i64 (iO l:Int)])∧iT (fi l) s w.heap.size z:=fun hn C he z=>⟨_,he,by unfold fi;rw[an hn];exact iT.nil _ _⟩;by_cases Y:m=0
 ·have he:iO l=4:=by unfold iO;rw[aj (by omega)]
  have k:=aa (a (by omega));rw[he]at k ⊢;clear a u B;subst Y
  go_enter func143,ntmps143
  go_wp2;exact bR rfl _ _ rfl rfl rfl ⟨k.out _ rfl _,aP _ _⟩
 ·have sX:=aa (P3 l m I c w u B K H5)
  obtain⟨p,P⟩:∃p,p=m-1:=⟨_,rfl⟩;obtain⟨b,o,Z,S⟩:=u.cell p (by omega);have hb:=B b o Z;have Q:ga l=l.getD p 0:=by unfold ga;rw[K,P]
  have A:=u.ok;have L:=aa (show w.cell? ⟨b,o+p,none⟩=some (.int .u8 (ga l)) by rw[Q];exact S);have D:p<m:=by omega
  have xl:(m:Int)-1=(p:Int):=by omega
  have bm:decide ((m:Int)=0)=false:=by simp;omega
  have bm2:((m:Int)==0)=false:=by simp;omega
  have hmI:(m:Int)<4294967296:=by omega
  by_cases q:ga l=0
  ·have he:iO l=5:=by unfold iO;rw[an (by omega),aj q]
   have k:=aa (a (by omega));rw[he]at k ⊢;rw[q]at L;clear a u B Q S P A sX;subst Z
   go_enter func143,ntmps143
   go_wp2_with (first
    |refine aC 39 ?_;refine ab (by rfl) _ (bC _ 39 5 _ _ rfl bF 1 cR b o m c rfl .i64 (p:Int) rfl p rfl D (o+p) (by omega)) ?_
    |refine ag 5 ?_;refine dq L.out sE ?_ rfl rfl rfl rfl)
   exact bR rfl _ _ rfl rfl rfl ⟨k.out _ rfl _,aP _ _⟩
  ·obtain⟨t1,t2⟩:=OA A (by omega) q
   have O:=OV A (by omega) q;have t4:=aa (fun(i:Nat) (X:jZ l<i) (h2:i<8*m)=>U_ A (by omega) q X (by rw[K];exact h2));obtain⟨y,J⟩:∃y,y=ga l:=⟨_,rfl⟩;rw[←J]at L;have b1:decide (y=0)=false:=IH (by rw[J];exact q);have b2:(y==0)=false:=by simpa[J]using q
   have he:iO l=if 64<jZ l then 6 else 0:=by unfold iO;rw[an (by omega),an q]
   obtain⟨n,hn⟩:∃n,n=jZ l:=⟨_,rfl⟩;have G:iO l=0→fi l=ju l n:=fun h=>by unfold fi;rw[aj h,hn]
   rw[←hn]at t1 t2 O t4 he;rw[K]at t1;have t3':=aa O;have t1':n+1≤8*m:=by omega
   have N:=aa G;have k:=aa a;clear u B Q S P A J hn G a O q;subst Z
   go_enter func143,ntmps143
   go_wp2_with (first
    |refine aC 39 ?_;refine ab (by rfl) _ (bC _ 39 5 _ _ rfl bF 1 cR b o m c rfl .i64 (p:Int) rfl p rfl D (o+p) (by omega)) ?_
    |refine ag 5 ?_;refine dq L.out sE ?_ rfl rfl rfl rfl
    |with_reducible refine sX.out.mono ?_
     rintro e W ⟨⟨vx,d,rfl,V⟩,dX⟩;obtain⟨e1,e2,U,E⟩:=wB.row V (yA _ _)
     have l_:8*m≤d:=by
      rcases V.2 with⟨_,Y⟩|⟨g,cap,cur,X,h2,h3,h4,_⟩
      ·rw[dn]at Y;omega
      ·injection X with _ _ e3;rw[dn]at h4;omega
     obtain⟨g,o2,eg,_⟩:=U.cell 0 (by rw[dn];omega);subst eg;obtain⟨rfl,KP,Eg⟩:=E g o2 rfl;have hR:=aa U;have hB:=aa dX
     clear V U dX E e1 e2)
   go_loopw [6] (fun v wr=>∃j:Nat,n+1≤j∧j≤8*m∧v= .slice (some ⟨g,0,none⟩) j d∧wr=W) (fun v _=>match v with| .slice _ j _=>j|_=>0)
   case atStart=>exact⟨8*m,t1',cD _,rfl,rfl⟩
   case round=>
    obtain⟨j,hj1,hj2,rfl,rfl⟩:=hrel;obtain⟨i,hi⟩:∃i,i=j-1:=⟨_,rfl⟩;have f:i<j:=by omega
    have hji:(j:Int)-1=(i:Int):=by omega
    have hjI:(j:Int)≤34359738368:=by omega
    obtain⟨_,_,eg2,r⟩:=hR.out.cell i (by rw[dn];omega);injection eg2 with eg3
    injection eg3 with eg4 eg5 _
    subst eg4;subst eg5;rw[qZ l _ i (by omega)]at r;by_cases cj:j=n+1
    ·have ein:i=n:=by omega
     subst ein;rw[t3'.out]at r;have M:=aa (show wr.cell? ⟨g,0+i,none⟩=some (.bool true)from r);clear r hi;by_cases H:64<i
     ·rw[aj H]at he
      have b3:decide ((64:Int)<(i:Int))=true:=by simp;omega
      have agD:=aa (k.out (by omega));have R:=aa he;clear k N he
      go_wp2_with (first
       |refine aC 88 ?_;refine ab (by rfl) _ (bC _ 88 4 _ _ rfl kW 1 gj g 0 j d rfl .i64 (i:Int) rfl i rfl f (0+i) (by omega)) ?_
       |refine ag 4 ?_;refine dq M.out GE ?_ rfl rfl rfl rfl)
      exact bR rfl _ _ rfl rfl rfl ⟨agD.out _ (by rw[R.out];rfl) _,hB.out⟩
     ·rw[an H]at he
      have b3:decide ((64:Int)<(i:Int))=false:=by simp;omega
      have nV:=aa (N.out he);have R:=aa he;have T:i≤d:=by omega
      have BX:=aa (EW hR.out (show i≤8*m by omega));clear k N he
      go_wp2_with (first
       |refine aC 88 ?_;refine ab (by rfl) _ (bC _ 88 4 _ _ rfl kW 1 gj g 0 j d rfl .i64 (i:Int) rfl i rfl f (0+i) (by omega)) ?_
       |refine ag 4 ?_;refine dq M.out GE ?_ rfl rfl rfl rfl
       |refine fj 88 ?_;refine ab (by rfl) _ (dl _ 88 4 _ _ rfl kW 1 gj g 0 j d i rfl rfl T) ?_)
      exact bR rfl _ _ rfl rfl rfl ⟨⟨.slice (some ⟨g,0,none⟩) i d,by rw[R.out];rfl,by rw[nV.out];exact⟨some ⟨g,0,none⟩,d,by rw[dn],fun e=>(by cases e),BX.out,fun b' o' C=>by cases C;exact⟨KP,Eg⟩⟩⟩,hB.out⟩
    ·rw[t4.out i (by omega) (by omega)]at r
     have M:=aa (show wr.cell? ⟨g,0+i,none⟩=some (.bool false)from r);have Vf:n+1≤i:=by omega
     have F:i≤8*m:=by omega
     have T:i≤d:=by omega
     clear r hi k N he
     go_wp2_with (first
      |refine aC 88 ?_;refine ab (by rfl) _ (bC _ 88 4 _ _ rfl kW 1 gj g 0 j d rfl .i64 (i:Int) rfl i rfl f (0+i) (by omega)) ?_
      |refine ag 4 ?_;refine dq M.out GE ?_ rfl rfl rfl rfl
      |refine fj 88 ?_;refine ab (by rfl) _ (dl _ 88 4 _ _ rfl kW 1 gj g 0 j d i rfl rfl T) ?_)
     first
      |exact⟨⟨i,Vf,F,rfl,rfl⟩,f⟩
      |exact⟨⟨i,Vf,F,rfl,trivial⟩,f⟩
def Q' (l:List Int) (n k:Nat):List Int:=(List.range n).map (bitC l k)
def pf (l n k):(Q' l n k).length=n:=by simp[Q']
def Tr (l n k):∀x∈Q' l n k,CK.ok .u8 x:=fun x c=>by obtain⟨j,_,rfl⟩:=ft.1 c;obtain⟨a,b⟩:=z_ l k j;exact⟨a,by omega⟩
def Xh (l n k):j8 l n k=((Q' l n k).map (Value.int .u8)).toArray:=by simp[j8,ae,Q',CK.mk,Function.comp_def]
def J8 {W l n k g a} (b:a≤g) (hn:n≤4294967296) (h:W.heap[g]?=some (.cells (j8 l n k) 5 (0,0))):bc a (.slice (some ⟨g,0,none⟩) n n) (Q' l n k) W:=by rw[Xh]at h;have:=bc.new b (Q' l n k) (by rw[pf];unfold maxLen;omega) h;rw[pf]at this;exact this
def xn (l:List Int):List Int:=Q' l ((l.length+7)/8) l.length
def iq (l:List Int):List Int:=Q' (l++[1]) (l.length/8+1) (l.length+1)
def AP (l):(xn l).length=(l.length+7)/8:=pf _ _ _
def kJ (l):(iq l).length=l.length/8+1:=pf _ _ _
def BH (l):∀x∈xn l,CK.ok .u8 x:=Tr _ _ _
def Jy (l):∀x∈iq l,CK.ok .u8 x:=Tr _ _ _
def Ji {W l g base m} (a:l.length=m) (b:base≤g) (hn:m<4294967296) (h:W.heap[g]?=some (.cells (j8 l ((m+7)/8) m) 5 (0,0))):bc base (.slice (some ⟨g,0,none⟩) ((m+7)/8) ((m+7)/8)) (xn l) W:=by unfold xn;rw[a];exact J8 b (by omega) h
def FX {W l g base m} (a:l.length=m) (b:base≤g) (hn:m<4294967296) (h:W.heap[g]?=some (.cells (j8 (l++[1]) (m/8+1) (m+1)) 5 (0,0))):bc base (.slice (some ⟨g,0,none⟩) (m/8+1) (m/8+1)) (iq l) W:=by unfold iq;rw[a];exact J8 b (by omega) h
def tu (l:List Int):Nat→Int:=fullT 0 (leaf (chunks (xn l)))
def J4 (l):fY (tu l):=dj 0 (eO (im (BH l)))
def AJ (l:List Int):Nat→Int:=gX (tu l) (je (l.length:Int))
def Df (l):fY (AJ l):=jj _ _
def LZ (m b c w) (j:64<m):
 Calls prog 160 #[.slice b m c,.int .i64 64] w fun e a=>e= .returned (.tuple #[.agg (ax bh),.int .i64 6])∧Below w.heap.size w a:=by
 have h:decide ((64:Int)<(m:Int))=true:=by simp;omega
 go_enter func160,ntmps160
 go_wp2_with (first
  |refine ao 25 ?_;refine fX 4 cg ?_
  |refine cZ 25 ?_;refine ab (by rfl) _ (ct _ rfl) ?_
  |refine al 25 ?_;refine aq (w0:=w) (n0:=w.heap.size) 25 _ _ rfl rfl w.heap.size rfl _ rfl (aA _ _ _) (by rw[ah am];simp[ae]) _ 25 (ak _ _ _ _ rfl) (by rw[bL];simp[ae]) bG ((aP _ w).alloc bG _) (fun k d f _=>?_))
 exact aI rfl w.heap.size 0 (ae 32 (fun _=> .u8) bh) _ rfl d cH rfl (by rw[ah am,ac]) rfl ⟨rfl,f⟩
def Pv (l m v c w) (S:Row w v .bool l) (C:cY w) (n:l.length=m) (hk:m≤64):
 Calls prog 160 #[.slice v m c,.int .i64 64] w fun e u=>e= .returned (.tuple #[.agg (ax (AJ l)),.int .i64 0])∧Below w.heap.size w u:=by
 have t1:decide ((64:Int)<(m:Int))=false:=by simp;omega
 have B:=(aP w.heap.size w).alloc bG (.cells zr 25);have gu:=aa (ak w zr 25 w.heap.size rfl);have jo:w.heap.size+1=(w.alloc (.cells zr 25)).heap.size:=by rw[bn]
 have D:=aa (fun W (h:Below w.heap.size w W)=>C.below C.size h);have g:=aa (Ka l m v c (w.alloc (.cells zr 25)) (S.later B) n (by omega));have V:=aa B;clear S C B;obtain⟨a,z⟩:∃a,a=w.heap.size:=⟨_,rfl⟩;rw[←z]at gu jo D V ⊢
 go_enter func160,ntmps160
 go_wp2_with (first
  |refine ao 25 ?_;refine fX 4 cg ?_
   rw[←z];clear z;generalize w.alloc (.cells zr 25)=W0 at*
  |with_reducible refine g.out.mono ?_
   rintro e W1 ⟨rfl,Z,b⟩;have Y:=Ji n bG (by omega) Z;obtain⟨eE,c1,I,X,i⟩:=Y.row (BH l);have o:(xn l).length=(m+7)/8:=by rw[AP,n]
   rw[o]at I;have y:=CW (xn l) eE c1 W1 X i (by omega);obtain⟨q,O⟩:∃q,q=(((m+7)/8+31)/32):=⟨_,rfl⟩;have A:(chunks (xn l)).length=q:=by rw[di,o,O]
   have jX:q≤1:=by omega
   rw[A,o,←I]at y;have P:=aa y;have T:=aa A;have ei:=aa (V.out.trans (b.mono (show a≤W0.heap.size by omega)));have F:=aa ((b.block a (by omega)).trans gu.out);have M:=aa (show a≤W1.heap.size by have:=b.size;omega);clear y b Z Y X i I g o A O
  |with_reducible refine P.out.mono ?_
   rintro e s ⟨⟨L,c',rfl,j⟩,b⟩;obtain⟨N,R,U⟩:=j.VY T.out (im (BH l));have H:=aa (ei.out.trans (b.mono M.out));have p:=aa ((b.block a (aD F.out)).trans F.out);have Q:=aa (show Calls prog 100 #[.slice L q c',.int .i64 1] s fun e u=>e= .returned (.tuple #[.agg (ax (tu l)),.int .i64 0])∧Below s.heap.size s u from zP (chunks (xn l)) q 1 0 L c' s T.out jX ⟨by decide,Or.inl rfl⟩ (by decide) N R U (D.out _ H.out));clear j b N R U P ei F M
  |with_reducible refine Q.out.mono ?_
   rintro e r ⟨rfl,G⟩;have vD:=aa (H.out.trans (G.mono (pD (aD p.out))));have E:=aa ((G.block a (aD p.out)).trans p.out);clear G Q H p
  |refine ao 25 ?_;refine aw rfl rfl 25 6 _ rfl rfl rfl (ax (tu l)) rfl rfl (zeroOf prog 25) (aG am).1 (aG am).2 (aA _ _ _) ?_
   have wg:=aa (ak r (ax (tu l)) 25 r.heap.size rfl);have k:=aa (vD.out.alloc (pD (aD E.out)) (.cells (ax (tu l)) 25));have d:=aa ((((aP r.heap.size r).alloc bG (.cells (ax (tu l)) 25)).block a (aD E.out)).trans E.out)
  |refine ag 25 ?_;refine ab (by rfl) _ (ay _ 25 _ (by rfl) _ rfl _ _ (0,0) _ wg.out cH rfl (by rw[ah am];simp[ae])) ?_
  |with_reducible refine(CZ (tu l) (m:Int) _ (J4 l) (D.out _ k.out)).mono ?_
   rintro e W4 ⟨rfl,f⟩;have K:=aa (k.out.trans (f.mono (pD (aD d.out))));have J:=aa ((f.block a (aD d.out)).trans d.out);clear f
  |refine al 25 ?_;refine aq (w0:=w) (n0:=a) 25 _ _ rfl rfl a rfl _ rfl (aA _ _ _) (by rw[ah am];simp[ae]) _ 25 J.out (by rw[bL];simp[ae]) bG K.out (fun W9 gM dY _=>?_))
 exact aI rfl a 0 (ae 32 (fun _=> .u8) (AJ l)) _ rfl (by unfold AJ;rw[n];exact gM) cH rfl (by rw[ah am,ac]) rfl ⟨rfl,dY⟩
def dU (a:List Int) (c b:Nat→Int):List Int:=jB 228++eQ c++ff b 0 96++iq a
def jA (a c b):(dU a c b).length=228+(a.length/8+1):=by simp only[dU,bM,cC,bS,az,kJ]
def QD {a c b} (e:∀j,j<100→(ba j).ok (c j)) (hs:∀j,j<96→CK.ok .u8 (b j)):∀m∈dU a c b,CK.ok .u8 m:=dB (dB (dB (rt _) (m5 e)) (eM fun j d=>by rw[bY];exact hs j d)) (Jy a)
def Xb (c b a):oN (([]++[0,0,0,0])++eQ b++ff a 0 96) ([]++iq c) ([]++[0]) ([]++[0])=dU c b a:=by
 have hl:(([]++[0,0,0,0])++eQ b++ff a 0 96:List Int).length=228:=by simp[bS,az]
 show gZ _ [0] [0] 1++_=_;simp only[gZ,putK,hl];rfl
def ki:(prog.info? 90).map (·.size)=some 197:=by kernel_rfl
def JN (r f m k n i l) (J:∀j,j<100→(ba j).ok (i j)) (D:∀j,j<96→CK.ok .u8 (l j)) (w) (B:Row w k .bool f) (s:f.length=m) (cW:m≤1000000000) (X:r=0∧decide ((64:Int)<(m:Int))=false∨r=6∧decide ((64:Int)<(m:Int))=true):
 Calls prog 33 #[.agg (bI (.slice k m n) i l).toArray] w fun e A=>((r=0→∃o c,e= .returned (.tuple #[.slice o (228+(m/8+1)) c,.int .i64 0])∧(o=none→c=0)∧bc w.heap.size (.slice o (228+(m/8+1)) c) (dU f i l) A)∧(r≠0→e= .returned (.tuple #[.slice none 0 0,.int .i64 r])))∧Below w.heap.size w A:=by
 rcases X with⟨rfl,Q⟩|⟨rfl,Q⟩<;>
 (have K:=aa J
  have hs:=aa D;have R:=aa B;clear J D B;have u:=aa (show (iq f).length=m/8+1 by rw[kJ,s]);have U:=aa (show (dU f i l).length=228+(m/8+1) by rw[jA,s]);obtain⟨z,p⟩:∃z,z=m/8+1:=⟨_,rfl⟩;rw[←p]at u U;have I:=aa (fun W (hW:Row W k .bool f)=>Qb f m k n W hW s (by omega));rw[←p]at I;have E:=aa (fun(W:World) (g d:Nat) (T:d≤g)=>FX (W:=W) (g:=g) (base:=d) s T (by omega));rw[←p]at E
  try rw[←p]
  have hzb:z≤1000000000:=by omega
  clear p
  go_enter func33,ntmps33
  go_wp2_with (first
   |refine fo 90 ?_;refine bW rfl 90 _ rfl _ rfl ?_
   |refine ao 65 ?_;refine fX 4 oe ?_
    refine bZ (fun W=>dD w.heap.size (bI (.slice k m n) i l) 90 W.heap.size [] [] [] [] 0 w W) (dD.begin rfl rfl) ?_;intro W L;have b:=aa L;clear L
   |refine ag 88 ?_;refine dq (v:=(.slice k m n)) (b.out.cell 0) kW ?_ rfl rfl rfl rfl
   |with_reducible refine(dD.fail b.out 6).mono ?_
    rintro O W ⟨rfl,a⟩;rw[aj rfl]at a;replace b:=aa a;clear a
   |with_reducible refine(I.out _ (R.out.later b.out.hB)).mono ?_
    rintro O Z ⟨rfl,N,q⟩;have a:=b.out.later q;have G:=aa (E.out _ _ _ b.out.hW N);replace b:=aa a;clear a N q
   |with_reducible refine(dD.put b.out (iq f) z _ z 0 G.out u.out (by decide) (by simp;omega) (by decide) (by decide)).mono ?_
    rintro O W ⟨rfl,a⟩
    first|rw[aj rfl]at a|rw[an (by decide)]at a
    replace b:=aa a;clear G;clear a
   |refine ag 82 ?_;refine ab (by rfl) _ (ar _ 82 _ (by rfl) w.heap.size 1 rfl (ae 100 ba i) _ (dK b.out.hX (pre:=[.slice k m n]) rfl 1 rfl) Bi rfl (by rw[ah gl,ac])) ?_
   |with_reducible refine(JL i K.out _).mono ?_
    rintro e Z ⟨⟨P,Y,rfl,H,F⟩,q⟩;have a:=b.out.later q;have hl:=aa (cG.b_ F (m5 K.out) H);replace b:=aa a;clear a H F q
   |with_reducible refine(dD.app b.out _ 128 P Y hl.out (bS _) (by simp)).mono ?_
    rintro e W ⟨rfl,a⟩;clear hl;replace b:=aa a;clear a
   |with_reducible refine(dD.app b.out _ 96 _ 96 (b.out.sl (pre:= .slice k m n::ae 100 ba i) (post:=[]) (by simp[bI]) (by simp[ac]) hs.out) (az _ _ _) (by simp[bS])).mono ?_
    rintro e W ⟨rfl,a⟩;replace b:=aa a;clear a
   |with_reducible refine(dD.xO b.out (by decide)).mono ?_
    rintro e W ⟨rfl,y⟩
   |with_reducible refine(dD.Yk b.out (228+z) (by have:=u.out;simp[bS,az];omega) (by simp) (by simp) (by omega) (Xb f i l)).mono ?_
    rintro e W ⟨⟨o,c,rfl,C,M⟩,y⟩;have V:=aa M;have S:=aa C
    clear M C)
  first
   |exact bR rfl _ _ rfl rfl rfl ⟨⟨fun _=>⟨o,c,rfl,S.out,V.out⟩,fun h=>absurd rfl h⟩,y⟩
   |exact bR rfl _ _ rfl rfl rfl ⟨⟨fun h=>absurd h (by decide),fun _=>rfl⟩,y⟩)
def WZ (a m f k d b) (p:∀j,j<100→(ba j).ok (d j)) (n:∀j,j<96→CK.ok .u8 (b j)) (w) (l:Row w f .bool a) (o:a.length=m) (q:m≤64):
 Calls prog 33 #[.agg (bI (.slice f m k) d b).toArray] w fun e i=>(∃g c,e= .returned (.tuple #[.slice g (228+(m/8+1)) c,.int .i64 0])∧(g=none→c=0)∧bc w.heap.size (.slice g (228+(m/8+1)) c) (dU a d b) i)∧Below w.heap.size w i:=(JN 0 a m f k d b p n w l o (by omega) (.inl ⟨rfl,by simp;omega⟩)).mono fun _ _ h=>⟨h.1.1 rfl,h.2⟩
def UO (a m b f d c) (o:∀j,j<100→(ba j).ok (d j)) (k:∀j,j<96→CK.ok .u8 (c j)) (w) (i:Row w b .bool a) (l:a.length=m) (p:64<m) (n:m≤1000000000):
 Calls prog 33 #[.agg (bI (.slice b m f) d c).toArray] w fun e g=>e= .returned (.tuple #[.slice none 0 0,.int .i64 6])∧Below w.heap.size w g:=(JN 6 a m b f d c o k w i l n (.inr ⟨rfl,by simp;omega⟩)).mono fun _ _ h=>⟨h.1.2 (by decide),h.2⟩
def P1 (f m a d c b) (i:∀j,j<100→(ba j).ok (c j)) (h:∀j,j<96→CK.ok .u8 (b j)) (w) (g:Row w a .bool f) (q:f.length=m) (r:64<m) (s:m≤1000000000):
 Calls prog 44 #[.agg (bI (.slice a m d) c b).toArray] w fun e n=>e= .returned (.tuple #[.slice none 0 0,.int .i64 6])∧Below w.heap.size w n:=by
 have u:=aa i;have hs:=aa h;have p:=aa g;clear i h g;have o:decide ((64:Int)<(m:Int))=true:=by simp;omega
 go_enter func44,ntmps44
 go_wp2_with (first
  |refine fo 90 ?_;refine bW rfl 90 _ rfl _ rfl ?_
   refine bZ (fun W=>c8 w.heap.size (bI (.slice a m d) c b) 90 [] w W) (c8.begin (ak _ _ _ _ rfl) rfl) ?_;intro W k;have l:=aa k;clear k
  |refine ag 88 ?_;refine dq (v:=(.slice a m d)) (l.out.toBoxL.cell 0) kW ?_ rfl rfl rfl rfl
 )
 exact bR rfl _ _ rfl rfl rfl ⟨rfl,l.out.hB⟩
def ZW (a c b):eS [0,128,96] [iq a,eQ c,ff b 0 96]=dU a c b:=by simp[eS,layK,headN,dU]
def aag (b a e i) (d:i<3) (c:[0,128,96].getD i 0≠0):([iq b,eQ a,ff e 0 96].getD i []).length=[0,128,96].getD i 0:=by
 match i,d with
 |0,_=>exact absurd rfl c
 |1,_=>exact bS a
 |2,_=>exact az _ _ _
def TY (a m i o d l) (M:∀j,j<100→(ba j).ok (d j)) (E:∀j,j<96→CK.ok .u8 (l j)) (w) (C:Row w i .bool a) (A:i=none→o=0) (s:a.length=m) (hk:m≤64):
 Calls prog 44 #[.agg (bI (.slice i m o) d l).toArray] w fun e B=>(∃p c,e= .returned (.tuple #[.slice p (228+(m/8+1)) c,.int .i64 0])∧(p=none→c=0)∧bc w.heap.size (.slice p (228+(m/8+1)) c) (dU a d l) B)∧Below w.heap.size w B:=by
 have I:=aa (show (iq a).length=m/8+1 by rw[kJ,s]);have O:=aa (show (dU a d l).length=228+(m/8+1) by rw[jA,s]);obtain⟨z,r⟩:∃z,z=m/8+1:=⟨_,rfl⟩;rw[←r]at I O;have J:=aa (fun W (hW:Row W i .bool a)=>Mm a m i o W hW A s (by omega));rw[←r]at J;have F:=aa (fun(W:World) (g f:Nat) (u:f≤g)=>FX (W:=W) (g:=g) (base:=f) s u (by omega));rw[←r]at F ⊢;have hzb:z≤1000000000:=by omega
 clear r;have N:=aa M;have hs:=aa E;have Y:=aa C;clear M E C;have t1:decide ((64:Int)<(m:Int))=false:=by simp;omega
 go_enter func44,ntmps44
 go_wp2_with (first
  |refine fo 90 ?_;refine bW rfl 90 _ rfl _ rfl ?_
   refine bZ (fun W=>c8 w.heap.size (bI (.slice i m o) d l) 90 [] w W) (c8.begin (ak _ _ _ _ rfl) rfl) ?_;intro W P;have b:=aa P;clear P
  |refine ag 88 ?_;refine dq (v:=(.slice i m o)) (b.out.toBoxL.cell 0) kW ?_ rfl rfl rfl rfl
  |with_reducible refine(J.out _ (Y.out.later b.out.hB)).mono ?_
   rintro e1 y ⟨⟨g,rfl,u,T⟩,q⟩;have n:=(b.out.later q).add (cG.b_ (F.out _ _ _ u T) (Jy a) (fun e=>by cases e)) I.out;clear T q;replace b:=aa n;clear n
  |refine ag 82 ?_;refine ab (by rfl) _ (ar _ 82 _ (by rfl) w.heap.size 1 rfl (ae 100 ba d) _ (dg b.out.hX (pre:=[.slice i m o]) rfl 1 rfl) Bi rfl (by rw[ah gl,ac])) ?_
  |with_reducible refine(FL d N.out _).mono ?_
   rintro e y ⟨⟨eE,c1,rfl,H,G⟩,q⟩;have n:=(b.out.later q).add (cG.b_ G (m5 N.out) H) (bS _);clear H G q;replace b:=aa n;clear n
  |refine aV 39 ?_;refine aH rfl fun K R=>d' rfl (R _ _ ?_);clear R K
  |refine dy 39 ?_;refine cB (w0:=y) rfl _ _ rfl y.heap.size [] (ff l 0 96) _ rfl (bc.new bG [] (by decide) (ak _ _ _ _ rfl)) (some ⟨w.heap.size,101,none⟩) 96 rfl ((b.out.toBoxL.sl (pre:= .slice i m o::ae 100 ba d) (post:=[]) (by simp[bI]) (by simp[ac]) hs.out).row.later dt) (by simp[az]) (by simp) (fun h=>by cases h) dt (fun v1 W3 U V X=>?_)
   obtain⟨Yv,c3,e3,n⟩:=b.out.own U V (eM fun j hj=>by rw[bY];exact hs.out j hj) (az _ _ _);subst e3;replace b:=aa n;clear U V X;clear n
  |with_reducible refine(c8.RQ b.out (k:=3) (S:=228+z) (L:=dU a d l) [0,128,96] ?hV ?hZ rfl rfl (by decide) (by decide) (by decide) ?hF ?hL O.out (by omega)).mono ?hM
   case hV=>rfl
   case hZ=>rfl
   case hF=>exact aag a d l
   case hL=>exact ZW a d l
   rintro e W ⟨⟨p,c,rfl,D,Q⟩,gA⟩;have qd:=aa Q;have Z:=aa D
   clear Q D)
 exact bR rfl _ _ rfl rfl rfl ⟨⟨p,c,rfl,Z.out,qd.out⟩,gA⟩
def xU (a:List Int) (c b:Nat→Int):Nat→Int:=fullT 2 (leaf [AJ a,gt c,uU 2 (ff b 0 96)])
def Mi {c b a} (e:∀j,j<100→(ba j).ok (b j)) (hs:∀j,j<96→CK.ok .u8 (a j)):fY (xU c b a):=dj 2 (eO (dk (Df _) (dk (lY e) (dk (jg (eM fun j d=>by rw[bY];exact hs j d)) lw))))
def FG (o k s m c f d i) (z:∀j,j<100→(ba j).ok (d j)) (y:∀j,j<96→CK.ok .u8 (i j)) (w) (B:cY w) (u:Row w c .bool s) (D:fY o) (K:k=0∨k=6) (l:∀W,Row W c .bool s→cY W→Calls prog 160 #[.slice c m f,.int .i64 64] W fun e p=>e= .returned (.tuple #[.agg (ax o),.int .i64 k])∧Below W.heap.size W p):
 Calls prog 103 #[.agg (bI (.slice c m f) d i).toArray] w fun e p=>e= .returned (.tuple #[.agg (ax (if k=0 then fullT 2 (leaf [o,gt d,uU 2 (ff i 0 96)])else bh)),.int .i64 k])∧Below w.heap.size w p:=by
 rcases K with rfl|rfl<;>
 (have A:=aa z
  have hs:=aa y;have F:=aa u;have I:=aa B;have r:=aa l;clear z y u B l;have J:=aa (lY A.out);have q:=aa D;clear D
  go_enter func103,ntmps103
  go_wp2_with (first
   |refine ao 25 ?_;refine fX 2 cg ?_
   |refine ao 108 ?_;refine fX 4 jw ?_
    refine bZ (fun W=>bD w.heap.size (bI (.slice c m f) d i) 90 0 [] w W) (bD.begin (ak _ _ _ _ rfl) rfl I.out) ?_;intro W C;have a:=aa C;clear C
   |refine ag 88 ?_;refine dq (v:=(.slice c m f)) (a.out.toBoxL.cell 0) kW ?_ rfl rfl rfl rfl
   |with_reducible refine(r.out _ (F.out.later a.out.hB) a.out.hT).mono ?_
    rintro e W ⟨rfl,g⟩;have b:=a.out.later g;clear g;replace a:=aa b;clear b
   |with_reducible refine(bD.put a.out o _ q.out (by decide)).mono ?_
    rintro e W ⟨rfl,b⟩;rw[aj rfl]at b;replace a:=aa b;clear b
   |refine ag 82 ?_;refine ab (by rfl) _ (ar _ 82 _ (by rfl) w.heap.size 1 rfl (ae 100 ba d) _ (dg a.out.hX (pre:=[.slice c m f]) rfl 1 rfl) Bi rfl (by rw[ah gl,ac])) ?_
   |with_reducible refine(FE d A.out _ a.out.hT).mono ?_
    rintro e W ⟨rfl,g⟩;have b:=a.out.later g;clear g;replace a:=aa b;clear b
   |with_reducible refine(bD.put a.out (gt d) 0 J.out (by simp)).mono ?_
    rintro e W ⟨rfl,b⟩
    first|rw[aj rfl]at b|rw[an (by decide)]at b
    replace a:=aa b;clear b
   |with_reducible refine(bD.bytes a.out (ff i 0 96) _ 96 96 2 (a.out.sl (pre:= .slice c m f::ae 100 ba d) (post:=[]) (by simp[bI]) (by simp[ac]) hs.out) (az _ _ _) (by decide) (by decide) (by unfold lN;decide) (by decide) (by simp)).mono ?_
    rintro e W ⟨rfl,b⟩;replace a:=aa b;clear b
   |with_reducible refine(bD.xO a.out (by decide)).mono ?_
    rintro e W ⟨rfl,n,h⟩;have E:=aa h;have G:=n.size;clear h a
   |with_reducible refine(bD.done a.out 2 (by simp[lN]) (by simp) (by decide)).mono ?_
    rintro e W ⟨rfl,n,h⟩;have E:=aa h;have G:=n.size;clear h a
   |refine al 25 ?_;refine aq (w0:=w) (n0:=w.heap.size) 25 _ _ rfl rfl (w.heap.size+1) rfl _ rfl (aA _ _ _) (by rw[ah am];simp[ae]) _ 25 E.out (by rw[bL];simp[ae]) (by omega) n (fun O H L _=>?_))
  exact aI rfl (w.heap.size+1) 0 (ae 32 (fun _=> .u8) _) _ rfl H cH rfl (by rw[ah am,ac]) rfl ⟨rfl,L⟩)
def TS (a m b f d c) (n:∀j,j<100→(ba j).ok (d j)) (i:∀j,j<96→CK.ok .u8 (c j)) (w) (o:cY w) (h:Row w b .bool a) (k:a.length=m) (l:m≤64):
 Calls prog 103 #[.agg (bI (.slice b m f) d c).toArray] w fun e g=>e= .returned (.tuple #[.agg (ax (xU a d c)),.int .i64 0])∧Below w.heap.size w g:=FG _ _ a m b f d c n i w o h (Df a) (.inl rfl) fun W q p=>Pv a m b f W q p k l
def PV (b m a f d c) (l:∀j,j<100→(ba j).ok (d j)) (i:∀j,j<96→CK.ok .u8 (c j)) (w) (n:cY w) (h:Row w a .bool b) (o:b.length=m) (k:64<m):
 Calls prog 103 #[.agg (bI (.slice a m f) d c).toArray] w fun e g=>e= .returned (.tuple #[.agg (ax (bh)),.int .i64 6])∧Below w.heap.size w g:=FG _ _ b m a f d c l i w n h g7 (.inr rfl) fun W _ _=>LZ m a f W k
def Md (g m a f d c) (k:∀j,j<100→(ba j).ok (d j)) (i:∀j,j<96→CK.ok .u8 (c j)) (w) (l:cY w) (h:Row w a .bool g) (B:g.length=m) (C:64<m):
 Calls prog 55 #[.agg (bI (.slice a m f) d c).toArray] w fun e p=>e= .returned (.tuple #[.agg (ax bh),.int .i64 6])∧Below w.heap.size w p:=by
 have D:=aa k;have hs:=aa i;have A:=aa h;have r:=aa l;clear k i h l;have y:decide ((64:Int)<(m:Int))=true:=by simp;omega
 go_enter func55,ntmps55
 go_wp2_with (first
  |refine ao 25 ?_;refine fX 2 cg ?_
  |refine ao 182 ?_;refine aH rfl fun K o=>bT 182 rfl 5 rfl (rep 96) 96 (by kernel_rfl) (o _ _ ?_);clear o K
   refine bZ (fun W=>cm w.heap.size (bI (.slice a m f) d c) 90 182 3 [] w W) (cm.begin (ak _ _ _ _ rfl) rfl r.out (by simp) (iM _)) ?_;intro W n;have b:=aa n;clear n
  |refine ag 88 ?_;refine dq (v:=(.slice a m f)) (b.out.toBoxL.cell 0) kW ?_ rfl rfl rfl rfl
  |refine cZ 25 ?_;refine ab (by rfl) _ (ct _ rfl) ?_
  |refine al 25 ?_;refine aF 25 (w.heap.size+1) 0 rfl ?_;refine aq (w0:=w) (n0:=w.heap.size) 25 _ _ rfl rfl (w.heap.size+1) rfl _ rfl (aA _ _ _) (by rw[ah am];simp[ae]) _ 25 b.out.hR (by rw[bL];simp[ae]) (by omega) b.out.hB (fun E q s _=>?_))
 exact aI rfl (w.heap.size+1) 0 (ae 32 (fun _=> .u8) bh) _ rfl q cH rfl (by rw[ah am,ac]) rfl ⟨rfl,s⟩
section
variable {n:Nat} {C:List Value} {t tc:TypeId} {K:Nat} {rs:List (Nat→Int)} {w W W':World}
theorem Tz {o:Oper} {a:Act} {p:Act→World→Prop} {Q:Exit→Act→World→Prop} (x y:Operand) (B:o.op= .store 25 x y) (i:Nat) (r:Nat→Int) (v:a.eval x= .pointer (some ⟨n+1+1,32*i,none⟩)) (u:a.eval y= .agg (ax r)) (h:cm n C t tc K rs w W) (F:rs.length=i) (G:i<K) (A:fY r)
 (D:∀W',cm n C t tc K (rs++[r]) w W'→p (a.put o.dst undef) W'):o.wp prog a W p Q:=by
 obtain⟨C,g,J,m⟩:=h.hC;have hs:=h.size
 have k:W.there (n+1+1) (32*i) (ax r).size:=fun j b=>by
  have b:j<32:=by simpa[ae]using b
  refine⟨?_,j' g _⟩;rw[br W (n+1+1) _ C _ _ g,m i G j b];rfl
 refine s_ 25 x y B (n+1+1) (32*i) (ax r) v u k (by rw[ah am];simp[ae]) (aA _ _ _) (D _ ?_);have f:aL (n+1+1) W (W.setCells (n+1+1) (32*i) (ax r).toList):=(aL.refl _ _).setCells _ _ _ (Or.inl rfl);obtain⟨s,l,I⟩:=gq (n+1+1) (ax r).toList (32*i) W C _ g;have z:=AA W (n+1+1) (32*i) (ax r).toList (by simpa using k);have H:Below n w (W.setCells (n+1+1) (32*i) (ax r).toList):=f.below h.hB (by omega) (by omega);refine⟨⟨(f.block n (by omega) (by omega)).trans h.hX,H⟩,(f.block _ (by omega) (by omega)).trans h.hR,⟨s,l,I.trans J,fun d E j b=>?_⟩,fun q c=>?_,?_,h.h3⟩
 ·rw[←br _ (n+1+1) (32*d+j) s _ _ l,tU,F]
  by_cases e:d=i
  ·subst e
   rw[aj rfl];exact z j _ (aN 32 (fun _=> .u8) r j b)
  ·rw[an e,Cw (n+1+1) _ _ W ⟨n+1+1,32*d+j,none⟩ (fun _ _=>by simp[ae];omega),br W (n+1+1) _ C _ _ g]
   exact m d E j b
 ·rcases iD.1 c with c|c
  ·exact h.is q c
  ·rw[jJ.1 c];exact A
 ·exact h.hT.below (by have:=h.h3;omega) (f.below (aP (n+1+1) W) bG (by omega))
end
def PP (d m f h r p) (lM:∀j,j<100→(ba j).ok (r j)) (T:∀j,j<96→CK.ok .u8 (p j)) (w) (fP:cY w) (Q:Row w f .bool d) (B:d.length=m) (hk:m≤64):
 Calls prog 55 #[.agg (bI (.slice f m h) r p).toArray] w fun e k=>e= .returned (.tuple #[.agg (ax (xU d r p)),.int .i64 0])∧Below w.heap.size w k:=by
 have hd:=aa lM;have hs:=aa T;have hw:=aa Q;have hT:=aa fP;clear lM T Q fP;have t1:decide ((64:Int)<(m:Int))=false:=by simp;omega
 go_enter func55,ntmps55
 go_wp2_with (first
  |refine ao 25 ?_;refine fX 2 cg ?_
  |refine ao 182 ?_;refine aH rfl fun K F=>bT 182 rfl 5 rfl (rep 96) 96 (by kernel_rfl) (F _ _ ?_);clear F K
   refine bZ (fun W=>cm w.heap.size (bI (.slice f m h) r p) 90 182 3 [] w W) (cm.begin (ak _ _ _ _ rfl) rfl hT.out (by simp) (iM _)) ?_;intro W cc;have c:=aa cc;clear cc
  |refine ag 88 ?_;refine dq (v:=(.slice f m h)) (c.out.toBoxL.cell 0) kW ?_ rfl rfl rfl rfl
  |refine cZ 25 ?_;refine ab (by rfl) _ (ct _ rfl) ?_
 )
 have I:(xn d).length=(m+7)/8:=by rw[AP,B]
 have A:=aa (fun W (hW:Row W f .bool d)=>yG d m f h W hW B (by omega));obtain⟨z,hz⟩:∃z,z=(m+7)/8:=⟨_,rfl⟩;obtain⟨q,V⟩:∃q,q=(z+31)/32:=⟨_,rfl⟩;have Z:=aa (fun(W:World) (g l:Nat) (hg:l≤g)=>Ji (W:=W) (g:=g) (base:=l) B hg (by omega));rw[←hz]at I A Z;have jX:q≤1:=by omega
 have hzb:z≤1000:=by omega
 have pB:(chunks (xn d)).length=q:=by rw[di,I,V]
 have Q5:=aa (lY hd.out);have N:=aa (Df d);have O:=aa (J4 d);have Ep:=aa (show fY (uU 2 (ff p 0 96))from jg (eM fun j hj=>by rw[bY];exact hs.out j hj));rename_i K F;refine dQ (S:=fun W'=>W'.cell? ⟨w.heap.size,0,none⟩=some (.slice f m h)) (by kernel_rfl) ?_;have a:=c.out.later (W':={W with drawn:=W.drawn+1}) (aP _ _).drew;replace c:=aa a;have wj:=a.toBoxL.cell 0;clear a;have mw:({W with drawn:=W.drawn+1}:World).cell? ⟨w.heap.size,0,none⟩=some (.slice f m h):=wj;refine kg 0 5 (.pointer (some ⟨w.heap.size,0,none⟩)) (.pointer (some ⟨w.heap.size,0,none⟩)) rfl (by kernel_rfl) (fun _=>by kernel_rfl) bH ‹_› ?_;go_frame;refine aJ (i:=1) (v:=(.slice f m h)) rfl (by kernel_rfl) bH ‹_› (fun k y=>au _ 88 _ (by rfl) ⟨w.heap.size,0,none⟩ (by rfl) _ y _ kW rfl) ?_;go_frame;refine aJ (i:=6) (v:=(.slice f m h)) rfl (by kernel_rfl) bH ‹_› (fun k y=>au _ 88 _ (by rfl) ⟨w.heap.size,0,none⟩ (by rfl) _ y _ kW rfl) ?_;go_frame;refine aJ (i:=7) (v:=(.int .i64 (m:Int))) rfl (by kernel_rfl) bH ‹_› (fun k y=>by go_simp) ?_;go_frame;have wu:IntKind.u64.wrap (m:Int)=(m:Int):=by rw[lP];omega
 refine aJ (i:=8) (v:=(.int .u64 (m:Int))) rfl (by kernel_rfl) bH ‹_› (fun k y=>by go_simp) ?_;go_frame;refine cQ (i:=2) rfl (by kernel_rfl) rfl (jh 116 #[.slice f m h] (by go_simp) _ _ (A.out _ (hw.out.later c.out.hB)) ?_);rintro H ⟨m7,dX⟩;have R:=cG.b_ (Z.out _ _ _ bG m7) (BH d) (fun e=>by cases e);have a:=c.out.later dX;clear c m7 dX mw wj;refine⟨a.toBoxL.cell 0,?_⟩;go_frame;refine cQ (i:=3) rfl (by kernel_rfl) rfl (it 50 #[.slice _ z z] (by go_simp) (fun v k=>∃s G,v= .slice s q G∧j_ k s (chunks (xn d))∧(∀b o,s=some ⟨b,o,none⟩→b<k.heap.size)∧q≤G∧cm w.heap.size (bI (.slice f m h) r p) 90 182 3 [] w k) ((cm.X2 a (xn d) _ _ z q R I V.symm (by omega)).mono fun e k ⟨s,G,h1,h2⟩=>⟨_,h1,s,G,rfl,h2⟩) ?_);rintro v W2 ⟨P,c2,rfl,U,pH,zf,L⟩;clear a R;refine⟨L.toBoxL.cell 0,?_⟩;go_frame;refine cQ (i:=4) rfl (by kernel_rfl) rfl (jh 49 #[.slice P q c2,.int .i64 1] (by go_simp) (.agg (ax (tu d))) _ (cm.X6 L (chunks (xn d)) P c2 q 0 1 (1:Int) rfl U pH zf pB jX ⟨by decide,Or.inl rfl⟩ (by decide)) ?_);intro M E;clear L U pH zf;refine⟨E.toBoxL.cell 0,?_⟩;go_frame;refine cQ (i:=9) rfl (by kernel_rfl) rfl (jh 53 #[.agg (ax (tu d)),.int .u64 (m:Int)] (by go_simp) (.agg (ax (AJ d))) (fun k=>Below M.heap.size M k) (by unfold AJ;rw[B];exact zK (tu d) (m:Int) M O.out E.hT) ?_);intro W4 i6;have D:=E.later i6;clear E i6;refine⟨D.toBoxL.cell 0,?_⟩;go_frame;have alG:W4.cell? ⟨w.heap.size,0,none⟩=some (.slice f m h):=D.toBoxL.cell 0;refine d5 10 (.pointer (some ⟨w.heap.size+1+1,0,none⟩)) rfl (by kernel_rfl) (fun _=>by kernel_rfl) bH ‹_› ?_;go_frame;refine cQ (i:=11) rfl (by kernel_rfl) rfl (Tz (.tmp 21) (.tmp 20) rfl 0 (AJ d) rfl rfl D rfl (by decide) N.out (fun W5 J=>⟨J.toBoxL.cell 0,?_⟩));clear D;go_frame;refine dM (by kernel_rfl) ?_ _;refine F _ _ ?_;have c:=aa J;clear J;obtain⟨W,u⟩:∃W,W=W5:=⟨_,rfl⟩;subst u
 go_wp2_with (first
  |refine ag 82 ?_;refine ab (by rfl) _ (ar _ 82 _ (by rfl) w.heap.size 1 rfl (ae 100 ba r) _ (dg c.out.hX (pre:=[.slice f m h]) rfl 1 rfl) Bi rfl (by rw[ah gl,ac])) ?_
  |with_reducible refine(Dr r hd.out _ c.out.hT).mono ?_
   rintro e W ⟨rfl,aS⟩;have a:=c.out.later aS;clear aS;replace c:=aa a;clear a
  |refine al 25 ?_;refine aF 25 (w.heap.size+1+1) (32*1) rfl ?_;refine fG rfl _ _ rfl 1 (gt r) rfl rfl c.out rfl (by decide) Q5.out (fun H a=>?_)
   obtain⟨W,u⟩:∃W,W=H:=⟨_,rfl⟩;subst u;replace c:=aa a;clear a
  |with_reducible refine(cm.pack c.out (ff p 0 96) _ 96 96 3 (c.out.toBoxL.sl (pre:= .slice f m h::ae 100 ba r) (post:=[]) (by simp[bI]) (by simp[ac]) hs.out) (az _ _ _) (by decide) (by decide) (by decide)).mono ?_
   rintro e W ⟨eE,c1,rfl,X,AF,m6,a⟩;have Y:=aa X;have Ro:=aa AF;clear X AF;replace c:=aa a;clear a
  |with_reducible refine(cm.Pc c.out (ff p 0 96) eE c1 3 2 (3:Int) Y.out Ro.out m6 (by rw[az]) rfl (by unfold lN;decide) (by decide)).mono ?_
   rintro e W ⟨rfl,a⟩;clear Y Ro m6;replace c:=aa a;clear a
  |refine al 25 ?_;refine aF 25 (w.heap.size+1+1) (32*2) rfl ?_;refine fG rfl _ _ rfl 2 (uU 2 (ff p 0 96)) rfl rfl c.out rfl (by decide) Ep.out (fun H a=>?_)
   obtain⟨W,u⟩:∃W,W=H:=⟨_,rfl⟩;subst u;replace c:=aa a;clear a
  |with_reducible refine(cm.last c.out 2 (3:Int) rfl rfl (by unfold lN;decide) (by decide)).mono ?_
   rintro e W ⟨rfl,gA,mN⟩;have oB:=aa mN;clear mN c
  |refine al 25 ?_;refine aq (w0:=w) (n0:=w.heap.size) 25 _ _ rfl rfl (w.heap.size+1) rfl _ rfl (aA _ _ _) (by rw[ah am];simp[ae]) _ 25 oB.out (by rw[bL];simp[ae]) (by omega) gA (fun W9 gM dY _=>?_))
 exact aI rfl (w.heap.size+1) 0 (ae 32 (fun _=> .u8) (xU d r p)) _ rfl gM cH rfl (by rw[ah am,ac]) rfl ⟨rfl,dY⟩
structure dr (n:Nat) (Z C:Array Value) (t:TypeId) (aB:List Nat) (nx:Nat) (l:List Int) (va:Option Addr) (c at' err:Nat) (w W:World):Prop where
 hR:W.heap[n]?=some (.cells Z t (0,0))
 hX:W.heap[n+1]?=some (.cells C t (0,0))
 hI:zk aB nx (n+1+1) l va c at' err W
 hB:Below n w W
 gb:∀b o,va=some ⟨b,o,none⟩→b<n
section
variable {n:Nat} {Z C:Array Value} {t:TypeId} {aB:List Nat} {nx:Nat} {l:List Int} {va:Option Addr} {c at' err:Nat} {w W W':World}
theorem dr.size (h:dr n Z C t aB nx l va c at' err w W):n+3≤W.heap.size:=h.hI.size
theorem dr.after (h:dr n Z C t aB nx l va c at' err w W) (a:Below W.heap.size W W'):dr n Z C t aB nx l va c at' err w W':=by have hs:=h.size;exact⟨(a.block n (by omega)).trans h.hR,(a.block (n+1) (by omega)).trans h.hX,h.hI.later a,h.hB.trans (a.mono (by omega)),h.gb⟩
theorem dr.drew (h:dr n Z C t aB nx l va c at' err w W) (k):dr n Z C t aB nx l va c at' err w {W with drawn:=k}:=h.after ⟨rfl,rfl,rfl,cD _,fun _ _=>rfl⟩
theorem dr.step {d a f e} (h:dr n Z C t aB nx l va c at' err w W) (hI:zk d a (n+1+1) l va c f e W') (b:aL (n+1+1) W W'):dr n Z C t d a l va c f e w W':=by have hs:=h.size;exact⟨(b.block n (by omega) (by omega)).trans h.hR,(b.block (n+1) (by omega) (by omega)).trans h.hX,hI,b.below h.hB (by omega) (by omega),h.gb⟩
theorem dr.rj {g} (h:dr n Z C t aB nx l va c at' err w W) (d:aL (n+1) W W') (k:W'.heap[n+1]?=some (.cells g t (0,0))):dr n Z g t aB nx l va c at' err w W':=by have hs:=h.size;obtain⟨u,a,m⟩:=h.hI.ex;refine⟨(d.block n (by omega) (by omega)).trans h.hR,k,⟨u,⟨(d.block (n+1+1) (by omega) (by omega)).trans a.cells,⟨fun j i=>?_,a.row.ok⟩,a.low,a.cap,a.nil,a.Es⟩,de m d (by omega)⟩,d.below h.hB (by omega) (by omega),h.gb⟩;obtain⟨b,o,e,f⟩:=a.row.cell j i;have q:=h.gb _ _ e;exact⟨b,o,e,(d.cell (p:=⟨b,o+j,none⟩) (iE f) (show b≠n+1 by omega)).trans f⟩
theorem dr.dS (h:dr n Z C t aB nx l va c at' err w W):W.cell? ⟨n+1+1,4,none⟩=some (.int .i64 (err:Int)):=h.hI.dS
theorem dr.row (h:dr n Z C t aB nx l va c at' err w W):Row W va .u8 l:=by obtain⟨u,a,_⟩:=h.hI.ex;exact a.row
theorem dr.open (k a:Nat) (x:Int) (p:x=(a:Int)) (r:l.length=k) (m:Nat) (y:Int) (j:y=(m:Int)) (q:0<m) (he:(if a≤k then 0 else 4)=err) (s:a≤1000000) (hl:Row w va .u8 l) (v:l.length≤c) (hn:va=none→c=0) (h:∀b o,va=some ⟨b,o,none⟩→b<w.heap.size) (u:l.length≤70368744177664):
 Calls prog 59 #[.slice va k c,.int .i64 x,.int .i64 y] ((w.alloc (.cells Z t)).alloc (.cells Z t)) fun e g=>e= .returned (.pointer (some ⟨w.heap.size+1+1,0,none⟩))∧dr w.heap.size Z Z t [] 0 l va c 0 err w g∧K1 (w.heap.size+1+1) l va c 0 err g:=by
 subst p;subst j;subst r;subst he;have d:Below w.heap.size w ((w.alloc (.cells Z t)).alloc (.cells Z t)):=dt.alloc (by simp) _;refine(P9 l va c a m _ (hl.later d) v hn (fun b o e=>du (h b o e) d.size) s q u).mono fun _ _ ⟨z,i,f⟩=>⟨by rw[z];simp,⟨?_,?_,zk.of (by simpa using i),d.trans (f.mono (by simp;omega)),h⟩,by simpa using i⟩
 ·exact(f.block _ (by simp;omega)).trans (aR _ _ _ _ (ak _ _ _ _ rfl))
 ·exact(f.block _ (by simp)).trans (ak _ _ _ _ (by simp))
theorem dr.NY (h:dr n Z C t aB nx l va c at' err w W) (he:err≠0) (x b k a):
 Calls prog 60 #[.pointer (some ⟨n+1+1,0,none⟩),.int .i64 x,.slice b k a] W fun e d=>e= .returned (.tuple #[])∧dr n Z C t aB nx l va c at' err w d:=by
 obtain⟨u,i,_⟩:=h.hI.ex;exact(Kx (n+1+1) l va c at' err x b k a W i he).mono fun _ _ ⟨g,f⟩=>⟨g,by subst f;exact h⟩
theorem dr.Fo (h:dr n Z C t [] 0 l va c 0 0 w W) (B:K1 (n+1+1) l va c 0 0 W) (d b k f:Nat) (x:Int) (i:x=(d:Int)) (a:List Nat) (o:0<l.length) (p:a.length=k) (q:k≤100) (s:d≤l.length) (m:∀j,j<k→W.cell? ⟨b,j,none⟩=some (.int .i64 ((a.getD j 0:Nat):Int))) (u:b<W.heap.size) (D:n+1+1<b) (r:∀j,j<k→a.getD j 0+4≤l.length) (v:bz d l.length (a.map (aK l)) k):
 Calls prog 60 #[.pointer (some ⟨n+1+1,0,none⟩),.int .i64 x,.slice (some ⟨b,0,none⟩) k f] W fun e g=>e= .returned (.tuple #[])∧dr n Z C t (a.map (aK l)++[l.length]) 0 l va c 0 0 w g:=by
 subst i;exact(Kv (n+1+1) l va c d b k f a W B o p q s m u (by omega) r v).mono fun _ _ ⟨A,z,y⟩=>⟨A,h.step z y⟩
theorem dr.NX (h:dr n Z C t [] 0 l va c 0 0 w W) (B:K1 (n+1+1) l va c 0 0 W) (d b k f:Nat) (x:Int) (i:x=(d:Int)) (a:List Nat) (o:0<l.length) (p:a.length=k) (q:k≤100) (s:d≤l.length) (m:∀j,j<k→W.cell? ⟨b,j,none⟩=some (.int .i64 ((a.getD j 0:Nat):Int))) (u:b<W.heap.size) (D:n+1+1<b) (r:∀j,j<k→a.getD j 0+4≤l.length) (v:¬bz d l.length (a.map (aK l)) k):
 Calls prog 60 #[.pointer (some ⟨n+1+1,0,none⟩),.int .i64 x,.slice (some ⟨b,0,none⟩) k f] W fun e g=>e= .returned (.tuple #[])∧∃aB,dr n Z C t aB 0 l va c 0 5 w g:=by
 subst i;exact(Kw (n+1+1) l va c d b k f a W B o p q s m u (by omega) r v).mono fun _ _ ⟨A,⟨aB,z⟩,y⟩=>⟨A,aB,h.step z y⟩
theorem dr.later (h:dr n Z C t aB nx l va c at' 0 w W) (m:nx+1<aB.length) (p:aB.length≤1000) (a b) (ha:aB.getD nx 0=a) (s:aB.getD (nx+1) 0=b) (v:a≤b) (r:b≤l.length) (j:0<l.length) (u:at'≤1000000) (k) (q:b-a=k):
 Calls prog 64 #[.pointer (some ⟨n+1+1,0,none⟩)] W fun e d=>∃f i,e= .returned (.slice f k i)∧cG f i ((l.drop a).take k) d∧((l.drop a).take k).length=k∧dr n Z C t aB (nx+1) l va c (at'+4) 0 w d:=by
 subst q;have hl:((l.drop a).take (b-a)).length=b-a:=by rw[cf,bJ];omega
 exact(yt (n+1+1) l va c at' W h.hI m p a b ha s v r j u).mono fun _ W' ⟨⟨G,o,D,B,A,F,z⟩,g,y⟩=>⟨_,D,B,⟨z,(fun e=>by cases e),by rw[hl];exact A,fun H E e=>by cases e;have:=g.size;omega⟩,hl,h.step g y⟩
theorem dr.Z4 (h:dr n Z C t aB nx l va c at' err w W) (he:err≠0):
 Calls prog 64 #[.pointer (some ⟨n+1+1,0,none⟩)] W fun e a=>e= .returned (.slice none 0 0)∧dr n Z C t aB nx l va c at' err w a:=by
 obtain⟨u,f,_⟩:=h.hI.ex;exact(F8 (n+1+1) l va c at' err W f he).mono fun _ _ ⟨d,b⟩=>⟨d,by subst b;exact h⟩
theorem dr.fail (h:dr n Z C t aB nx l va c at' err w W) (a f:Nat) (x:Int) (g:x=(a:Int)) (he:(if err=0 then a else err)=f):
 Calls prog 63 #[.pointer (some ⟨n+1+1,0,none⟩),.int .i64 x] W fun e b=>e= .returned (.tuple #[])∧dr n Z C t aB nx l va c at' f w b∧aL (n+1+1) W b:=by
 subst g;subst he;exact(h.hI.fail a).mono fun _ _ ⟨j,i,d⟩=>⟨j,h.step i d,d⟩
theorem dr.kh (h:dr n Z C t aB nx l va c at' err w W) (k:Nat) (x:Int) (j:x=(k:Int)) (m:0<k) (z:k≤100000) (f:err=0→at'+k≤l.length):
 Calls prog 61 #[.pointer (some ⟨n+1+1,0,none⟩),.int .i64 x] W fun e a=>∃v,e= .returned v∧∃b o d q,v= .slice (some ⟨b,o,none⟩) k d∧k≤d∧b<a.heap.size∧Row a (some ⟨b,o,none⟩) .u8 q∧q.length=k∧(err=0→q=(l.drop at').take k)∧dr n Z C t aB nx l va c (if err=0 then at'+k else at') err w a∧aL (n+1+1) W a:=by
 subst j;have hl:=wM (l:=l) (at':=at') (err:=err) (n:=k) f;refine(h.hI.bytes k m (by omega) f).mono fun _ W' ⟨⟨y,d,u,s,A,i⟩,r,g⟩=>?_;obtain⟨b,o,e,p⟩:=i.cell 0 (by omega);subst e;exact⟨_,u,b,o,d,_,rfl,s,iE p,i,hl,fun e=>by unfold Rh;rw[aj e],h.step r g,g⟩
theorem oZ {b f a d:List Value} {e} (i:b.length=e) (hl:d.length=f.length):splice (b++(f++a)) e d=b++(d++a):=by
 subst i;apply mG;intro j;rw[lC (by simp;omega)];by_cases g:j<b.length
 ·rw[aj g,eY g,eY g]
 ·have m:(b++(f++a))[j]?=(f++a)[j-b.length]?:=fT (by omega)
  have k:(b++(d++a))[j]?=(d++a)[j-b.length]?:=fT (by omega);rw[an g,m,k];by_cases h:j<b.length+d.length
  ·rw[aj h,eY (by omega)]
  ·rw[an h,fT (by omega),fT (by omega),hl]
theorem og {o:Oper} {a:Act} {K:Act→World→Prop} {Q:Exit→Act→World→Prop} (d s:Operand) (G:o.op= .call {callee:= .builtin .copy,args:=#[d,s],argTypes:=#[39,39]}) (m k b u D B:Nat) (I:a.eval d= .slice (some ⟨n+1,m,none⟩) k B) (hs:a.eval s= .slice (some ⟨b,u,none⟩) k D)
 (h:dr n Z C t aB nx l va c at' err w W) (i f:List Value) (g:Nat→Int) (z:C=(i++(ae k (fun _=> .u8) g++f)).toArray) (F:i.length=m) (q:List Int) (E:Row W (some ⟨b,u,none⟩) .u8 q) (N:q.length=k)
 (L:∀W',dr n Z (i++(ae k (fun _=> .u8) (fun j=>q.getD j 0)++f)).toArray t aB nx l va c at' err w W'→aL (n+1) W W'→K (a.put o.dst (goInt k)) W'):o.wp prog a W K Q:=by
 have p:(ae k (fun _=> .u8) fun j=>q.getD j 0).length=k:=ac _ _ _;refine ja d s 39 39 G 5 bF cR (n+1) m b u k B k D I hs _ t h.hX (ae k (fun _=> .u8) fun j=>q.getD j 0) (by rw[p];exact(NE k).symm) (fun j v r=>?_) (by subst z;simp[ae];omega) cl (fun W' y A=>?_)
 ·have H:j<k:=by have:=(io.1 r).1;rwa [p]at this
  obtain⟨O,M,e,J⟩:=E.cell j (by omega);cases e;rw[aN _ _ _ _ H]at r;rw[J];exact r
 ·rw[p]
  subst z;rw[show (i++(ae k (fun _=> .u8) g++f)).toArray.toList=i++(ae k (fun _=> .u8) g++f)from rfl,oZ F (by rw[p,ac])]at y;exact L W' (h.rj A y) A
theorem iv {i:Array Oper} {g:List Oper} {o a Q} (E:o.guard=none) (p x y) (B:o.op= .store p x y) (d) (u:a.eval x= .pointer (some ⟨n+1,d,none⟩)) (e:List Value) (s:a.eval y= .agg e.toArray) (r:(prog.info? p).map (·.size)=some e.length) (H:∀v∈e,v.oneCell'=true) (h:dr n Z C t aB nx l va c at' err w W) (f k b:List Value) (m:C=(f++(k++b)).toArray) (A:f.length=d) (hl:e.length=k.length) (D:∀W',dr n Z (f++(e++b)).toArray t aB nx l va c at' err w W'→aL (n+1) W W'→wpList prog i Q g (a.put o.dst undef) W'):wpList prog i Q (o::g) a W:=by
 subst m
 have z:W.there (n+1) d e.toArray.size:=fun j q=>by
  have q:j<e.length:=by simpa using q
  refine⟨?_,j' h.hX _⟩;rw[br W (n+1) _ _ _ _ h.hX,fu,fT (by omega),eY (by omega),fS (by omega)];rfl
 refine aH E fun I F=>s_ p x y B (n+1) d _ u s z (by rw[r];simp) (by simpa using H) (F _ _ (D _ ?_ ?_))
 ·have G:aL (n+1) W (W.setCells (n+1) d e.toArray.toList):=(aL.refl _ _).setCells _ _ _ (Or.inl rfl)
  have m:=jz (n+1) e.toArray.toList d W _ t h.hX (by simp;omega);rw[show (f++(k++b)).toArray.toList=f++(k++b)from rfl,show e.toArray.toList=e from rfl,oZ A hl]at m;exact h.rj G m
 ·exact(aL.refl _ _).setCells _ _ _ (Or.inl rfl)
end
end Go.Proofs.YtjeoeibdgciafaaGreatDoor
namespace Go.Proofs.YtjeoeibdgciafaaGreatDoor
open Go.RowKit Go.Shelf BigFrame
open Go.Proofs.Tryz
section
variable {P:Program} {ops:Array Oper} {Q:Exit→Act→World→Prop} {md:Region.Mode}
theorem T4 {o:Oper} {a:Act} {w:World} {K:Act→World→Prop} (l n:Nat) (i:∀c,o.op≠ .defer c) (h:o.wp P a w K Q):o.wpIn (Fence.wide.inRound l) n P a w K Q:=by
 refine⟨fun _ _=>trivial,?_⟩;unfold Oper.wp at h;have e:(Fence.wide.inRound l).round=some l:=rfl;rw[e,Oper.semAt_some l _ o i];generalize (execOp a.eval o).run P w=r at*;cases r with
 |ok x g=>
  cases x with
  |enter f args=>exact⟨fun h=>(by cases h),CallsIn.inRound l (IQ.2 h)⟩
  |row row args=>exact⟨fun h=>(by cases h),fun c j _=>let ⟨v,b,r,s⟩:=h c j;⟨v,b,r,stepsIn_wide.2 s⟩⟩
  |value v=>exact h
  |skip=>exact h
  |defer d=>exact h
  |_=>exact h.elim
 |halt x g=>cases x<;>exact h
theorem uS (l n:Nat) (g:∀(i:Nat) (o:Oper),ops[i]?=some o→∀c,o.op≠ .defer c) (f:¬LetsOut Q):∀(d:Nat) (b:Array Bool) (a:Act) (w:World),wpAny P md ops Q d b a w→wpAnyIn (Fence.wide.inRound l) n P md ops Q d b a w
 |0,b,a,w,h=>h
 |d+1,b,a,w,h=>by
  refine⟨h.1,fun i p=>?_⟩;have e:=h.2 i p;unfold wpOp at e;unfold wpOpIn;cases k:ops[i]? with
  |none=>rw[k]at e;exact uS l n g f d _ _ _ e
  |some o=>
   rw[k]at e;simp only at e ⊢;split at e
   ·rename_i j
    rw[aj j];exact Oper.wpIn_mono (fun r q m=>uS l n g f d _ _ _ m) (T4 l n (g i o k) (e.resolve_right fun m=>f m.2))
   ·rename_i j
    rw[an j];exact⟨fun _ _=>trivial,uS l n g f d _ _ _ e⟩
def Ov (l:List Oper):Bool:=l.all fun o=>match o.op with| .defer _=>false|_=>true
theorem Mx {l} (h:Ov l=true):∀(i:Nat) (o:Oper),l.toArray[i]?=some o→∀c,o.op≠ .defer c:=fun i o b c e=>by have a:=nn.1 h o (rY (by simpa using b));rw[e]at a;cases a
theorem yT {S l} (r n) {id a w} (c:P.follows .mixedOrders=true) (d:Ov l=true) (b:¬LetsOut Q) (h:wpAnyH P .any l.toArray Q S l.toArray.size (Array.replicate l.toArray.size false) a {w with drawn:=w.drawn+1}):(Code.region id l.toArray true).wpIn (Fence.wide.inRound r) n P Q a w:=wpIn_region_any c (uS r n (Mx d) b _ _ _ _ (wpAny_of_held _ _ _ _ h))
end
attribute [local go_sem] Oper.semAt_some
structure qI (n₀ B1 B2:Nat) (W W':World):Prop where
 below:Below n₀ W W'
 b1:W.heap[B1]?=W'.heap[B1]?
 b2:W.heap[B2]?=W'.heap[B2]?
def qI.refl (a c b W):qI a c b W W:=⟨aP _ _,rfl,rfl⟩
def qI.trans {a c b A B C} (h:qI a c b A B) (k:qI a c b B C):qI a c b A C:=⟨h.below.trans k.below,h.b1.trans k.b1,h.b2.trans k.b2⟩
def qF (k j:Nat):List (Fin k):=(List.finRange k).take j
def Dn {k j} (h:j<k):qF k (j+1)=qF k j++[⟨j,h⟩]:=by unfold qF;rw[s6,fS (by simpa using h)];simp
def yD {k j} (h:j≤k):(qF k j).length=j:=by simp[qF];omega
def Pw {k j i} (a:j≤k) (h:i<j):(qF k j)[i]?=some ⟨i,by omega⟩:=by unfold qF;rw[nO h,fS (by simp;omega)];simp
def zE (s b a x:Nat):Value:= .slice (some ⟨b,a+s*x,none⟩) s s
def TM {s:Nat} {a o} (w x y) (d:o.op= .call {callee:= .builtin .min,args:=#[x,y],argTypes:=#[3,3]}) (m:Nat) (c:a x= .int .i64 (s:Int)) (b:a y= .int .i64 (m:Int)) (f:s≤m):(execOp a o).run prog w= .ok (.value (.int .i64 (s:Int))) w:=by
 have e:¬((m:Int)<(s:Int)):=by omega
 unfold execOp;simp[d,go_sem,c,b,Builtin.min_,Builtin.min2,e]
def QN (s S n l g o m b c k a) (E:Option Addr) (Y:0<k→E=some ⟨b,c,none⟩) (O7:1≤s) (Q:S=s*k) (cc:S≤70368744177664) (fc:s≤70368744177664) (l_:S≤a) (J V:List (Fin k)→World→Prop) (Bj) (hJ:AbidesFrom Bj J) (hY:∀d x W,J d W→d.length<k→YieldAt Fence.wide (n-1) prog l #[zE s b c x.1] W fun e z=>
 (e= .returned (.bool true)∧J (d++[x]) z∧qI m g o W z)∨(e= .returned (.bool false)∧V (d++[x]) z)) (W) (G:W.cell? ⟨g,0,none⟩=some (.slice E S a)) (T:W.cell? ⟨o,0,none⟩=some (.int .i64 (s:Int))) (h0:J [] W):
 CallsIn Fence.wide n prog 175 #[.func (.yield l) #[] #[],.pointer (some ⟨g,0,none⟩),.pointer (some ⟨o,0,none⟩)] W fun e z=>(∃v,e= .returned v)∧
  ((∃L,L=qF k k∧J L z)∨(∃d,(∃j,j≤k∧d=qF k j)∧V d z)):=by
 refine callsIn_of_wp func175 rfl trivial ?_ rfl;simp only[ntmps175,cI,List.length_cons,List.length_nil,Nat.reduceAdd,Nat.reduceSub,oK,Array.replicate_zero,oG,oJ,List.nil_append,List.cons_append]
 gi_wp2
 gi_loopw [4] (fun i wr=>∃j p:Nat,j≤k∧Hid (p=s*j)∧i= .int .i64 (p:Int)∧J (qF k j) wr∧qI m g o W wr)
  (fun i _=>S-(intOf i).toNat)
 case atStart=>exact⟨0,0,qB _,rfl,rfl,h0,qI.refl _ _ _ _⟩
 case round=>
  obtain⟨j,p,hj,B,rfl,u,C⟩:=hrel;have P:wr.cell? ⟨g,0,none⟩=some (.slice E S a):=(iP (w:=W) C.b1.symm).trans G;have O:wr.cell? ⟨o,0,none⟩=some (.int .i64 (s:Int)):=(iP (w:=W) C.b2.symm).trans T;by_cases A:j<k
  ·obtain rfl:=Y (by omega)
   have H3:p+s≤S:=by have:=Sh s (show j+1≤k from A);rw[Nat.mul_succ,←B.out,←Q]at this;exact this
   have l1:(p:Int)<(S:Int):=by omega
   gi_wp2
   refine wpIn_wide.2 ?_;refine dQ (S:=fun f=>f.cell? ⟨g,0,none⟩=some (.slice (some ⟨b,c,none⟩) S a)∧f.cell? ⟨o,0,none⟩=some (.int .i64 (s:Int))) (by kernel_rfl) ?_;have hS:({wr with drawn:=wr.drawn+1}:World).cell? ⟨g,0,none⟩=some (.slice (some ⟨b,c,none⟩) S a)∧({wr with drawn:=wr.drawn+1}:World).cell? ⟨o,0,none⟩=some (.int .i64 (s:Int)):=⟨P,O⟩;refine aJ (i:=0) (v:=(.int .i64 (s:Int))) rfl (by kernel_rfl) bH ‹_› (fun f q=>au _ 3 _ (by rfl) ⟨o,0,none⟩ (by rfl) _ q.2 _ pi rfl) ?_;go_frame;refine aJ (i:=1) (v:=(.slice (some ⟨b,c,none⟩) S a)) rfl (by kernel_rfl) bH ‹_› (fun f q=>au _ 39 _ (by rfl) ⟨g,0,none⟩ (by rfl) _ q.1 _ bF rfl) ?_;go_frame;refine aJ (i:=2) (v:=(.int .i64 (p:Int))) rfl (by kernel_rfl) bH ‹_› (fun f q=>by go_simp) ?_;go_frame;refine aJ (i:=3) (v:=(.slice (some ⟨b,c+p,none⟩) (S-p) (a-p))) rfl (by kernel_rfl) bH ‹_› (fun f q=>pg f 39 5 _ _ (by rfl) bF 1 cR b c S a p (by rfl) (by rfl) (by omega) (by omega) (c+p) (by omega)) ?_;go_frame;refine aJ (i:=4) (v:=(.int .i64 ((S-p:Nat):Int))) rfl (by kernel_rfl) bH ‹_› (fun f q=>by go_simp) ?_;go_frame;refine aJ (i:=5) (v:=(.int .i64 (s:Int))) rfl (by kernel_rfl) bH ‹_› (fun f q=>TM f _ _ (by rfl) (S-p) (by rfl) (by rfl) (by omega)) ?_;go_frame;refine aJ (i:=6) (v:=(.int .i64 (s:Int))) rfl (by kernel_rfl) bH ‹_› (fun f q=>by go_simp) ?_;go_frame;refine dM (by kernel_rfl) ?_ _;simp only[Exit.then];rename_i K R;refine R _ _ ?_;clear R K;obtain⟨y,D⟩:∃y,y=({wr with drawn:=wr.drawn+1}:World):=⟨_,rfl⟩;have YW:J (qF k j) y:=hJ _ wr _ none u (by subst D;exact⟨rfl,rfl,rfl,cD _,fun _ _ _=>rfl⟩) (fun r e=>by cases e);have N:qI m g o W y:=C.trans (by subst D;exact⟨(aP _ _).drew,rfl,rfl⟩);have hc3:y.cell? ⟨g,0,none⟩=some (.slice (some ⟨b,c,none⟩) S a):=(iP (w:=W) N.b1.symm).trans G;rw[←D];clear hS P O D C u;obtain⟨fn,X,assign,body,M,hR⟩:=hY _ ⟨j,A⟩ y YW (by rw[yD hj];exact A);unfold zE at M;rw[←B.out]at M;have e8:IntKind.i64.wrap ((p:Int)+(s:Int))=((p+s:Nat):Int):=by rw[bP];omega
   have l2:((p+s:Nat):Int)≤(a:Int):=by omega
   have l3:(0:Int)≤(p:Int):=by omega
   have l4:(p:Int)≤((p+s:Nat):Int):=by omega
   gi_wp2
   refine⟨fun h=>(by cases h),hR.mono ?_⟩;rintro e U (⟨rfl,I,Z⟩|⟨rfl,H⟩)
   ·have F:=N.trans Z
    have hc5:U.cell? ⟨g,0,none⟩=some (.slice (some ⟨b,c,none⟩) S a):=(iP (w:=W) F.b1.symm).trans G;have hc6:U.cell? ⟨o,0,none⟩=some (.int .i64 (s:Int)):=(iP (w:=W) F.b2.symm).trans T
    gi_wp2
    go_roundw
    case rel=>exact⟨j+1,p+s,by omega,by show _=_;rw[Nat.mul_succ,←B.out],by simp,by rw[Dn A];exact I,F⟩
    case measure=>simp[intOf];omega
   ·gi_wp2
    refine Fj (results_none rfl _ _ _) rfl ?_;exact⟨⟨_,rfl⟩,.inr ⟨_,⟨j+1,by omega,(Dn A).symm⟩,H⟩⟩
  ·obtain rfl:j=k:=by omega
   obtain rfl:p=S:=by rw[B.out,Q]
   gi_wp2
   go_end0
   exact⟨⟨_,rfl⟩,.inl ⟨_,rfl,u⟩⟩
def KK (s S n f e a b c k d g) (q:0<k→g=some ⟨b,c,none⟩) (C:1≤s) (y:S=s*k) (z:S≤70368744177664) (r:s≤70368744177664) (u:S≤d) (w) (D:w.cell? ⟨f,0,none⟩=some (.slice g S d)) (B:w.cell? ⟨e,0,none⟩=some (.int .i64 (s:Int))) (o:f<w.heap.size) (m:e<w.heap.size):
 SeqStopsK Fence.wide n prog 175 #[.pointer (some ⟨f,0,none⟩),.pointer (some ⟨e,0,none⟩)] (fun x:Fin k=> #[zE s b c x.1]) (qI a f e) (fun i=>i=qF k k) (fun h=>∃j,j≤k∧h=qF k j) k w:=fun l J F W hW A _ v E=>
 QN s S n l f e a b c k d g q C y z r u J F _ A v W ((hW.cell (p:=⟨f,0,none⟩) o).trans D) ((hW.cell (p:=⟨e,0,none⟩) m).trans B) E
def L_ (s:Nat) (hs:1≤s) (c:Option Addr) (a b:Nat) (w):
 Calls prog 128 #[.slice c a b,.int .i64 (s:Int)] w fun e d=>e= .returned (.func (.func (175)) #[] #[.pointer (some ⟨w.heap.size,0,none⟩),.pointer (some ⟨w.heap.size+1,0,none⟩)])∧d=(w.alloc (.cells #[.slice c a b] 39)).alloc (.cells #[.int .i64 (s:Int)] 3):=by
 have f:decide ((s:Int)<1)=false:=by simp;omega
 go_enter func128,ntmps128
 go_wp2;exact cA rfl _ rfl rfl ⟨rfl,rfl⟩
def AR (a n c w):(binOp BinOp.eql 39 (.slice (some a) n c) (.slice none 0 0)).run prog w= .ok (.bool false) w:=by kernel_rfl
def Dq (l k) (u:0<k) (y:l.length=k) (b o c w) (n:Row w (some ⟨b,o,none⟩) .u8 l) (N:k≤70368744170000):
 Calls prog 129 #[.slice (some ⟨b,o,none⟩) k c] w fun e i=>∃v,e= .returned v∧∃g f,v= .slice (some ⟨g,0,none⟩) k f∧k≤f∧w.heap.size≤g∧g<i.heap.size∧Row i (some ⟨g,0,none⟩) .u8 l∧Below w.heap.size w i:=by
 subst y;have p:=aa n;clear n
 go_enter func129,ntmps129
 have F:=fun w=>AR ⟨b,o,none⟩ l.length c w
 go_wp2_with (first
  |refine aV 39 ?_;refine aH rfl fun K q=>d' rfl (q _ _ ?_);clear q K
  |refine dy 39 ?_;refine cB (w0:=w) rfl _ _ rfl w.heap.size [] l _ rfl (bc.new bG [] (by decide) (ak _ _ _ _ rfl)) (some ⟨b,o,none⟩) c rfl (p.out.later dt) (by simp;omega) (by simp) (fun h=>by cases h) dt (fun L T a r s=>?_)
   rw[List.nil_append]at a;have z:=aa a;have E:=aa r
   clear a r s)
 have a:=z.out;obtain⟨J,f,e,m,A⟩:=a.row p.out.ok;subst e;obtain⟨g,M,e,O⟩:=m.cell 0 u;subst e;rcases a.2 with⟨j,_⟩|⟨P,H,G,j,C,B,_⟩
 ·cases j
 ·injection j with d S R
  injection d with d
  injection d with d D Q
  subst d;subst D;exact cA rfl _ rfl rfl ⟨_,rfl,g,f,rfl,A,C,aD B,m,E.out⟩
attribute [local go_sem] Oper.semAt_some
def iL.congr {a k v p q W} (h:iL a k v p W) (he:∀i,i<k→p i=q i):iL a k v q W:=by obtain⟨c,f,e,d⟩:=h;refine⟨c,f,e,fun i b=>?_⟩;rw[←he i b];exact d i b
def iL.kept {a k v p A B c} (h:iL a k v p A) (R:∀i,i<k→0<(p i).length) (d:A.grownBy B c) (m:∀r,c=some r→∃o:Obj,A.heap[r]?=some o∧o.isCells=false):iL a k v p B:=by
 obtain⟨y,s,L,K⟩:=h
 have C:∀b w t u,A.heap[b]?=some (.cells w t u)→some b≠c:=fun b w t u F e=>by obtain⟨o,n,f⟩:=m b e.symm;rw[F]at n;cases n;cases f
 refine⟨y,?_,L,fun i E=>?_⟩
 ·refine s.kept d ?_
  rcases s.2 with⟨rfl,_⟩|⟨g,Q,P,rfl,_,l,_⟩
  ·exact .inl rfl
  ·exact .inr fun M=>C g _ _ _ l (by simpa[Value.ownBlock]using M)
 ·obtain⟨b,o,N,J,q,I,H,G⟩:=K i E
  refine⟨b,o,N,J,⟨fun j D=>?_,q.ok⟩,I,du H d.size,G⟩;obtain⟨O,z,e,f⟩:=q.cell j D;exact⟨O,z,e,cell_kept f d m⟩
def iL.apart {a k b v p A B} (h:iL a k v p A) (c:aL b A B) (r:b<a):iL a k v p B:=by obtain⟨l,E,D,C⟩:=h;refine⟨l,de E c r,D,fun i n=>?_⟩;obtain⟨d,o,F,z,g,y,f,u,s⟩:=C i n;refine⟨d,o,F,z,⟨fun j m=>?_,g.ok⟩,y,du f c.size,u,s⟩;obtain⟨H,G,e,q⟩:=g.cell j m;cases e;exact⟨d,o,rfl,(iP (w:=A) (c.block d f (by omega))).trans q⟩
def ad4 {a d c:Nat} {w:World} (h:a≤w.heap.size) (j:d<w.heap.size) (i:c<w.heap.size) (W:World) (l:Nat) (o b:Obj) (hl:w.heap.size≤l) (f:W.heap[l]?=some o) (g:o.isCells=false) (e:o.isWalk=false):qI a d c W (W.putObj l b):=⟨belowK_b (w:=w) h W l o b hl f g e,(World.putObj_heap_other (by omega)).symm,(World.putObj_heap_other (by omega)).symm⟩
def m_ {k:Nat} (s:Nat) (l:List Int) (a:List (Fin k)) (i:Nat):List Int:=match a[i]? with
 |some x=>(l.drop (s*x.1)).take s
 |none=>[]
def Kq {k} (s l a) (x:Fin k) (i) (h:i<a.length):m_ s l a i=m_ s l (a++[x]) i:=by unfold m_;rw[eY h]
def Kr {k} (s l a) (x:Fin k):m_ s l (a++[x]) a.length=(l.drop (s*x.1)).take s:=by unfold m_;simp
def CV {s k x:Nat} (h:x<k):s*x+s≤s*k:=by
 have:=Sh s (show x+1≤k from h)
 rwa [Nat.mul_succ]at this
def ua {s k} {l:List Int} (hl:l.length=s*k) (a:List (Fin k)) (i) (h:i<a.length):(m_ s l a i).length=s:=by unfold m_;rw[fS h];have:=CV (s:=s) (a[i]).2;simp only[cf,bJ];omega
def ZB:(prog.info? 114).map (·.size)=some 1:=by kernel_rfl
def qi {d o} (w a) (g:o.op= .buildSlice 114 1 a) (b n c) (f:(a.toList.map fun p=>(p.1,d p.2))=[(0,.slice b n c)]):
 (execOp d o).run prog w= .ok (.value (.slice (some ⟨w.heap.size,0,none⟩) 1 1)) (w.alloc (.cells #[.slice b n c] 39)):=
 bj w 114 39 1 a g cV (.slice none 0 0) 1 nu (by decide) (by decide) [.slice b n c] rfl f (fun u e=>by rw[jJ.1 e];rfl)
def To (s m S:Nat) (O7:1≤s∧s≤100000) (hm:m≤100000) (l:List Int) (k:Nat) (hk:k≤m) (R:S=s*k) (cc:S≤70368744170000) (Zk:l.length=S) (f:Option Addr) (c:Nat) (w) (fc:cG f c l w):
 Calls prog 65 #[.slice f S c,.int .i64 (s:Int),.int .i64 (m:Int)] w fun e w'=>(∃v,e= .returned (.tuple #[v,.int .i64 0])∧iL (w.heap.size+1+1+1) k v (fun i=>(l.drop (s*i)).take s) w')∧Below w.heap.size w w':=by
 have fq:l.length=s*k:=Zk.trans R
 obtain⟨b,d,gb⟩:∃b d,0<k→f=some ⟨b,d,none⟩:=by
  by_cases h:0<k
  ·obtain⟨b,o,e,_⟩:=fc.row.cell 0 (by rw[fq];exact Nat.mul_pos O7.1 h)
   exact⟨b,o,fun _=>e⟩
  ·exact⟨0,0,fun h2=>absurd h2 h⟩
 have hs:=aa fc;have hl:=aa fq;have l_:S≤c:=by rw[←Zk];exact fc.cap
 have zt:=aa gb;have t1:(S:Int).tmod (s:Int)=0:=by rw[R,Int.natCast_mul];exact Int.mul_tmod_right _ _
 have t2:(S:Int).tdiv (s:Int)=(k:Int):=by rw[R,Int.natCast_mul];exact IM _ (by omega)
 have t3:decide ((m:Int)<(k:Int))=false:=by simp;omega
 have t4:decide ((s:Int)<1)=false:=by simp;omega
 have t5:decide ((m:Int)<0)=false:=by simp
 have t6:((s:Int)==0)=false:=by simp;omega
 have t7:¬((s:Int)=0):=by omega
 have t8:¬(s=0):=by omega
 have XJ:=aa R;have O:=aa O7;clear fc fq gb Zk R O7;refine(IQ (n:=3)).1 ?_;refine Sv func65 rfl trivial ?_ rfl;simp only[ntmps65,cI,List.length_cons,List.length_nil,Nat.reduceAdd,Nat.reduceSub,oK,Array.replicate_zero,oG,oJ,List.nil_append,List.cons_append]
 gi_wp2_with (refine⟨trivial,?_⟩;gi_at_call 128;refine(IQ.2 (L_ s O.out.1 _ _ _ _)).mono ?_;rintro e w' ⟨rfl,rfl⟩)
 have b1:=Boxed.new (w.alloc (.cells #[.slice none 0 0] 114)) 39 (.slice f S c);have b2:=Boxed.new ((w.alloc (.cells #[.slice none 0 0] 114)).alloc (.cells #[.slice f S c] 39)) 3 (.int .i64 (s:Int));have b0:=Boxed.new w 114 (.slice none 0 0);simp only[bn]at b1 b2;have sQ:=b1.alloc (.cells #[.int .i64 (s:Int)] 3);have b0':=(b0.alloc (.cells #[.slice f S c] 39)).alloc (.cells #[.int .i64 (s:Int)] 3);have fe:Below w.heap.size w (((w.alloc (.cells #[.slice none 0 0] 114)).alloc (.cells #[.slice f S c] 39)).alloc (.cells #[.int .i64 (s:Int)] 3)):=((((aP _ w).alloc bG _).alloc (by simp) _).alloc (by simp;omega) _);have Al:(((w.alloc (.cells #[.slice none 0 0] 114)).alloc (.cells #[.slice f S c] 39)).alloc (.cells #[.int .i64 (s:Int)] 3)).heap.size=w.heap.size+1+1+1:=by simp
 clear b0 b1;generalize ((w.alloc (.cells #[.slice none 0 0] 114)).alloc (.cells #[.slice f S c] 39)).alloc (.cells #[.int .i64 (s:Int)] 3)=w2 at*
 refine wpIn_rangeFunc_ownG (F:=Fence.wide) rfl (by decide) (gf:=175) (lb:=#[.pointer (some ⟨w.heap.size+1,0,none⟩),.pointer (some ⟨w.heap.size+1+1,0,none⟩)]) rfl trivial (enters_of func175 (by kernel_rfl) rfl)
  (KK s S 2 (w.heap.size+1) (w.heap.size+1+1) w.heap.size b d k c f zt.out O.out.1 XJ.out (by omega) (by have:=O.out.2;omega) l_ w2 sQ.cell b2.cell sQ.lt b2.lt) qI.trans (ad4 (by omega) (by omega) (by omega)) (aP _ _) (fun _=>rfl)
  (fun a W=>(∃v,Boxed W w.heap.size 114 v∧iL (w.heap.size+1+1+1) a.length v (m_ s l a) W)∧Below w.heap.size w W∧w.heap.size+1+1+1≤W.heap.size)
  (fun _ _ _=>False)
  ?own
  (fun _ _ _ _ _ hs _ _=>hs)
  ⟨⟨_,b0',iL.nil _ _ _⟩,fe,by omega⟩
  (fun x=>{tmps:=#[.slice f S c,.int .i64 (s:Int),.int .i64 (m:Int),undef,undef,undef,.slice none 0 0,.int .i64 0,.pointer (some ⟨w.heap.size,0,none⟩),zE s b d x.1,.bool false,.int .i64 (s:Int),.bool false,.bool false,.int .i64 (m:Int),.bool false,.bool false,.bool false,.slice f S c,.int .i64 (S:Int),.int .i64 (s:Int),.int .i64 0,.bool false,.bool false,.slice f S c,.int .i64 (S:Int),.int .i64 (s:Int),.int .i64 (k:Int),.int .i64 (m:Int),.bool false,.slice f S c,.int .i64 (s:Int),.func (.func (175)) #[] #[.pointer (some ⟨w.heap.size+1,0,none⟩),.pointer (some ⟨w.heap.size+1+1,0,none⟩)],zE s b d x.1,undef,undef,undef,undef,undef,undef],defers:=[]}) ?assign ?body ?done ?stop
 case own=>rintro a A B row ⟨⟨v,C,I⟩,J,N⟩ hg hr;refine⟨⟨v,C.kept hg (fun e=>?_),I.kept (fun i H=>by rw[ua hl.out a i H];exact O.out.1) hg (fun r e=>(hr r e).2)⟩,J.grown hg (by omega) (fun r e=>by have:=(hr r e).1;omega),bg N hg.size⟩;obtain⟨_,o,ho,hc⟩:=hr _ e.symm;have h2:=(show A.heap[w.heap.size]?=_ from C).symm.trans ho;cases h2;cases hc
 case assign=>
  intro l x W K T
  gi_wp2
  exact T
 case body=>
  rintro r a x W ⟨⟨v,C,I⟩,J,N⟩ a8;obtain⟨vo,co,rfl⟩:=I.form;have hx:=x.2;have Xz:=CV (s:=s) hx;have dC:Row w (some ⟨b,d+s*x.1,none⟩) .u8 ((l.drop (s*x.1)).take s):=jk (by rw[←zt.out (by omega)];exact hs.out.row) (s*x.1) s (by rw[hl.out];exact Xz);have wh:((l.drop (s*x.1)).take s).length=s:=by rw[cf,bJ,hl.out];omega
  have Z:=fun i=>Kq s l a x i;have Bn:=Kr s l a x;have alz:=fun i h=>ua hl.out a i h;have V:=O.out;clear zt hl hs Xz;generalize (l.drop (s*x.1)).take s=q at*;obtain⟨p,hp⟩:∃p,p=s*x.1:=⟨_,rfl⟩
  gi_wp2
  unfold zE;rw[←hp]at dC ⊢;clear hp;refine yT (S:=fun _=>True) r _ (by kernel_rfl) (by kernel_rfl) (fun⟨_,_,h⟩=>h) ?_;have hS:True:=trivial;refine d5 1 (.slice (some ⟨b,d+p,none⟩) s s) rfl (by kernel_rfl) (fun _=>by kernel_rfl) bH ‹_› ?_;go_frame;refine ab' (i:=0) (k:=2) rfl rfl (by kernel_rfl) rfl rfl ?ta ?tb
  case' ta=>refine bV _ (au _ 114 _ (by rfl) ⟨w.heap.size,0,none⟩ (by rfl) _ C.cell _ cV rfl) ⟨trivial,?_⟩;go_frame;refine cQ (i:=2) rfl (by kernel_rfl) rfl (it 129 #[.slice (some ⟨b,d+p,none⟩) s s] (by go_simp) _ (Dq q s V.1 wh b (d+p) s {W with drawn:=W.drawn+1} (dC.later J.drew) (by omega)) ?_);rintro v2 u ⟨g,z,rfl,mw,M,hgl,qt,hb⟩;refine⟨trivial,?_⟩;go_frame;have P:Below W.heap.size W u:=(aP _ _).drew.trans hb;have z3:=P.size;refine cQ (i:=3) rfl (by kernel_rfl) rfl (bV _ (qi u _ (by rfl) (some ⟨g,0,none⟩) s z (by rfl)) ⟨trivial,?_⟩);go_frame
  case' tb=>refine it 129 #[.slice (some ⟨b,d+p,none⟩) s s] (by go_simp) _ (Dq q s V.1 wh b (d+p) s {W with drawn:=W.drawn+1} (dC.later J.drew) (by omega)) ?_;rintro v2 u ⟨g,z,rfl,mw,M,hgl,qt,hb⟩;refine⟨trivial,?_⟩;go_frame;have P:Below W.heap.size W u:=(aP _ _).drew.trans hb;have z3:=P.size;refine vQ (i:=0) (k:=3) (.slice vo a.length co) (.slice (some ⟨u.heap.size,0,none⟩) 1 1) (Wn:=u.alloc (.cells #[.slice (some ⟨g,0,none⟩) s z] 39)) rfl rfl (by kernel_rfl) (by kernel_rfl) (by kernel_rfl) rfl rfl rfl rfl (au _ 114 _ (by rfl) ⟨w.heap.size,0,none⟩ (by rfl) _ ((P.cell (p:=⟨w.heap.size,0,none⟩) (show w.heap.size<W.heap.size by omega)).trans C.cell) _ cV rfl) (au _ 114 _ (by rfl) ⟨w.heap.size,0,none⟩ (by rfl) _ (((P.alloc z3 _).cell (p:=⟨w.heap.size,0,none⟩) (show w.heap.size<W.heap.size by omega)).trans C.cell) _ cV rfl) (qi u _ (by rfl) (some ⟨g,0,none⟩) s z (by rfl)) (qi u _ (by rfl) (some ⟨g,0,none⟩) s z (by rfl)) trivial trivial rfl rfl ?_;go_frame
  all_goals
   obtain⟨vs,GF,g2,g3⟩:=I;have Q:Below W.heap.size W (u.alloc (.cells #[.slice (some ⟨g,0,none⟩) s z] 39)):=P.alloc z3 _;have qb:=World.ownsRow.lt GF;refine cQ (i:=4) rfl (by kernel_rfl) rfl (eN (w0:=u.alloc (.cells #[.slice (some ⟨g,0,none⟩) s z] 39)) (n0:=w.heap.size+1+1+1) (.tmp 34) (.tmp 37) 114 39 rfl cV (.slice none 0 0) 1 24 rz rfl (by decide) (w.heap.size+1+1+1) a.length (.slice vo a.length co) vs rfl (aU GF Q) ⟨u.heap.size,0,none⟩ 1 1 rfl [.slice (some ⟨g,0,none⟩) s z] rfl (aE (ak _ _ _ _ rfl)) rfl (by simp[Value.oneCell']) (by omega) (by omega) (by rw[bn];omega) bG (aP _ _) (fun v5 W5 h5 b5 z5 o5 q5=>⟨trivial,?_⟩));obtain⟨Yu,c5,e5,_⟩:=aW h5;subst e5;have U:=b5.size;rw[bn]at U;have G:=(Q.mono N).trans b5;go_frame;refine cQ (i:=5) rfl (by kernel_rfl) rfl (bt 114 _ _ rfl w.heap.size 0 rfl _ rfl rfl ZB #[.slice vo a.length co] 114 ((G.block _ (by omega)).trans C) (by simp) (fun W6 hC6 y=>⟨trivial,?_⟩));refine dM (by kernel_rfl) ?_ _
   have pj:iL (w.heap.size+1+1+1) (a.length+1) (.slice Yu (a.length+1) c5) (m_ s l (a++[x])) W5:=iL.step (W:=u.alloc (.cells #[.slice (some ⟨g,0,none⟩) s z] 39)) g2 (fun i H=>by
    obtain⟨b',o',ci,h4,h6,h7,h8,h9,O8⟩:=g3 i H;rw[←Z i H]
    exact⟨b',o',ci,h4,h6.later Q,h7,du h8 Q.size,h9,O8⟩) (b:=g) (c:=z) (bg N M) (by rw[Bn];exact qt.later dt) (by rw[Bn,wh];exact mw) (by rw[bn];omega) (fun e=>by have:=(qb _ e).2;have h11:W.heap.size≤g:=M;omega) (by rw[Bn,wh];exact h5) o5 q5 (by rw[bn];exact U)
   have E:Below w.heap.size W W6:=y.below (G.mono (by omega)) bG (by omega);refine⟨⟨E.size,fun j o hj L hc=>?_⟩,⟨E,((y.block (w.heap.size+1) (by omega) (by omega)).trans (G.block _ (by omega))).symm,((y.block (w.heap.size+1+1) (by omega) (by omega)).trans (G.block _ (by omega))).symm⟩,⟨⟨.slice Yu (a.length+1) c5,?_,?_⟩,J.trans E,bg N E.size⟩⟩
   ·have hjl:=(Cz.1 L).1
    refine((y.block j (by omega) (by omega)).trans ((o5 j (by rw[bn];omega) ?_).trans (Q.block j hjl))).trans L;rcases GF.2 with⟨e,_⟩|⟨g',Wc,alK,e,_,Y,_⟩
    ·rw[e];intro h;cases h
    ·rw[e]
     intro h;obtain rfl:j=g':=by simpa[Value.ownBlock]using h
     rw[L]at Y;cases Y;cases hc
   ·exact hC6
   ·rw[bM]
    exact pj.apart y (by omega)
 case done=>
  rintro D ys W hD rfl ⟨⟨v,C,I⟩,J,N⟩ T;have hc:=C.cell
  gi_wp2
  refine⟨by simp,.inl ⟨_,_,rfl,run_takeDeferred T,?_⟩⟩;have X:=yD (cD k);rw[X]at I;refine⟨.tuple #[v,.int .i64 0],?_,⟨v,rfl,?_⟩,?_⟩
  ·simp[results,Tryz.f65,go_sem]
  ·refine iL.congr (iL.kept I (fun i H=>by rw[ua hl.out _ i (by rw[X];exact H)];exact O.out.1) (grownBy_putObj' W D (.deferred none)) (fun r e=>by cases e;exact⟨_,T,rfl⟩)) (fun i H=>?_)
   unfold m_;rw[Pw (cD k) H]
  ·exact J.trans (belowK_b (w:=w) bG W D _ _ (by omega) T rfl rfl)
 case stop=>rintro D c a W _ _ h _;exact h.elim
def US (l k) (g:k≤64) (f:l.length=8*k) (a c w) (d:cG a c l w):
 Calls prog 65 #[.slice a (8*k) c,.int .i64 8,.int .i64 64] w fun e b=>(∃v,e= .returned (.tuple #[v,.int .i64 0])∧iL (w.heap.size+1+1+1) k v (fun i=>(l.drop (8*i)).take 8) b)∧Below w.heap.size w b:=
 To 8 64 (8*k) (by decide) (by decide) l k g rfl (by omega) f a c w d
end Go.Proofs.YtjeoeibdgciafaaGreatDoor
namespace Go.Proofs.YtjeoeibdgciafaaGreatDoor
open Go.RowKit BigFrame
open Go.Proofs.Tryz
def lQ (q:List Int) (k:Nat):List Int:=(List.range k).map fun i=>p9 ((q.drop (8*i)).take 8)
def iw (q k):(lQ q k).length=k:=by simp[lQ]
def DD (q k j) (h:j<k):(lQ q k).take (j+1)=(lQ q k).take j++[p9 ((q.drop (8*j)).take 8)]:=by
 rw[lU (lQ q k) 0 j (by rw[iw];exact h)]
 congr 2
 simp[lQ,List.getD,h]
def iL.at' {a k v p W} (h:iL a k v p W) (j) (i:j<k):∃g b o d,(∃c,v= .slice (some ⟨g,0,none⟩) k c)∧W.cell? ⟨g,j,none⟩=some (.slice (some ⟨b,o,none⟩) (p j).length d)∧Row W (some ⟨b,o,none⟩) .u8 (p j)∧a≤g∧g<W.heap.size∧a≤b∧b<W.heap.size:=by
 obtain⟨y,f,B,r⟩:=h;obtain⟨b,o,d,q,n,A,m,z,l⟩:=r j i;rcases f.2 with⟨_,e⟩|⟨g,c,w,e,u,s,_⟩
 ·omega
 ·subst e
  refine⟨g,b,o,d,⟨c,rfl⟩,?_,n,u,aD s,l,m⟩;rw[f.cellAt j (by omega)];exact q
def pM:(prog.info? 84).map (fun i=>(i.zero,i.size))=some (some (.agg (bI (.slice none 0 0) (fun _=>0) (fun _=>0)).toArray),197):=by kernel_rfl
def F5:(prog.info? 26).map (fun i=>(i.zero,i.size,i.bytes))=some (some (.int .u64 0),1,8):=by kernel_rfl
def Qm:(prog.info? 26).map (fun i=>(i.zero,i.size))=some (some (.int .u64 0),1):=by kernel_rfl
def XW:(prog.info? 78).map (·.size)=some 1:=by kernel_rfl
def ul {b o} (w a) (e:o.op= .buildSlice 78 1 a) (n) (d:(a.toList.map fun p=>(p.1,b p.2))=[(0,.int .u64 n)]):
 (execOp b o).run prog w= .ok (.value (.slice (some ⟨w.heap.size,0,none⟩) 1 1)) (w.alloc (.cells #[.int .u64 n] 26)):=
 bj w 78 26 1 a e qw (.int .u64 0) 1 Qm (by decide) (by decide) [.int .u64 n] rfl d (fun u c=>by rw[jJ.1 c];rfl)
def ux {l a} (h:aK l 0=a) (hl:a≤l.length):bz a l.length ([0].map (aK l)) 1:=fun q b=>by
 obtain rfl:q=0:=by omega
 unfold g5;simp[h];omega
def A1 {l a} (h:aK l 0≠a):¬bz a l.length ([0].map (aK l)) 1:=fun b=>b 0 (by decide) (Or.inl ⟨rfl,by simpa using h⟩)
def G5 (W:World):∀j,j<1→(W.alloc (.cells #[.int .i64 (0:Int)] 3)).cell? ⟨W.heap.size,j,none⟩=some (.int .i64 (([0].getD j 0:Nat):Int)):=fun j a=>by
 obtain rfl:j=0:=by omega
 exact br _ _ 0 _ _ _ (ak _ _ _ _ rfl)
def G6 {m} (h:4≤m):∀j,j<1→[0].getD j 0+4≤m:=fun j a=>by
 obtain rfl:j=0:=by omega
 exact h
def kj (b n c e d):(bI (.slice b n c) e d).toArray.all (·.oneCell')=true:=by
 rw[vM,nn];intro v a;rcases mF.1 a with rfl|a
 ·rfl
 ·rcases iD.1 a with a|a
  ·exact cl v a
  ·exact cl v a
def qR {s a f g} (h:∀j,j<96→f j=g j):bI s a f=bI s a g:=by unfold bI;rw[bU (N:=96) (kd:=fun _=> .u8) h]
def Mp (l L k va c w) (fc:cG va c l w) (uT:l.length=L) (Bp:L=228+8*k) (hk:k≤64) (kc:aK l 0=228):
 Calls prog 133 #[.slice va L c] w fun e R=>(∃s u,e= .returned (.tuple #[.agg (bI (.slice s k u) (dp ((l.drop 4).take 128)) (fun j=>l.getD (132+j) 0)).toArray,.int .i64 0])∧R.ownsRow w.heap.size 26 1 (.slice s k u) k ((lQ (l.drop 228) k).map (Value.int .u64)))∧Below w.heap.size w R:=by
 have hs:=aa fc;have hL:=aa uT;have Rz:=aa Bp;have kw:=aa (show ([0].map (aK l)++[l.length]).getD 0 0=228 from kc);have eH:=aa (show ([0].map (aK l)++[l.length]).getD (0+1) 0=L from uT);have vm:=aa (show 0+1<([0].map (aK l)++[l.length]).length from mE 1);have O:=aa (show ([0].map (aK l)++[l.length]).length≤1000 from(by decide:2≤1000));have YV:228≤L:=by omega
 have hL2:L≤740:=by omega
 have jE:=aa kc;have Ft:=aa fc.low;clear fc uT kc Bp;have Lp:=DD (l.drop 228) k;obtain⟨H,CC⟩:∃H,H=lQ (l.drop 228) k:=⟨_,rfl⟩;rw[←CC]at Lp ⊢;have K_:H.length=k:=by rw[CC,iw]
 have No:=aa Lp;clear CC Lp
 go_enter func133,ntmps133
 go_wp2_with (first
  |refine ao 84 ?_;refine fX 2 pM ?_
  |refine ao 84 ?_;refine fX 4 pM ?_
  |with_reducible refine(dr.open L 228 (228:Int) rfl hL.out 1 (1:Int) rfl (by decide) (err:=0) (aj (by omega)) (by decide) hs.out.row hs.out.cap hs.out.nil Ft.out (by rw[hL.out];omega)).mono ?_
   rintro e W ⟨rfl,d,M⟩;have a:=aa d;have hW:=aa M;clear d M
  |refine aV 63 ?_;refine aH rfl fun K m=>bV _ (dH _ _ (by rfl) (0:Int) (by rfl)) (m _ _ ?_);clear m K
   have d:=a.out.after ((aP _ W).alloc bG (.cells #[.int .i64 (0:Int)] 3));have M:=hW.out.later (((aP _ W).alloc hW.out.size (.cells #[.int .i64 (0:Int)] 3)));have hz:=a.out.size
  |with_reducible refine(dr.Fo d M 228 W.heap.size 1 1 (228:Int) rfl [0] (by rw[hL.out];omega) rfl (by decide) (by rw[hL.out];omega) (G5 W) (by rw[bn];omega) (by omega) (G6 (by rw[hL.out];omega)) (ux jE.out (by rw[hL.out];omega))).mono ?_
   clear d M hz;rintro e W2 ⟨rfl,F⟩;replace a:=aa F;clear hW;clear F
  |with_reducible refine(dr.later a.out vm.out O.out 228 L kw.out eH.out (by omega) (by rw[hL.out];exact cD _) (by rw[hL.out];omega) (by decide) (8*k) (by have:=Rz.out;omega)).mono ?_
   rintro e W ⟨vb,cb,rfl,C,Ci,d⟩;replace a:=aa d;have J:=aa C;have E:=aa Ci;clear d C Ci
  |refine ag 41 ?_;refine dq (v:=(.int .i64 0)) a.out.dS fU ?_ rfl rfl rfl rfl
  |with_reducible refine(US _ k hk E.out vb cb _ J.out).mono ?_
   rintro e W2 ⟨⟨vE,rfl,Y⟩,dX⟩;obtain⟨ve,ce,rfl⟩:=Y.form;have d:=a.out.after dX;have ahi:w.heap.size+1+1+1≤W.heap.size:=a.out.size;obtain⟨bE,P⟩:∃bE,bE=W.heap.size+1+1+1:=⟨_,rfl⟩;rw[←P]at Y;have hEz:w.heap.size+1+1+1<bE:=by omega
   have hO:=aa Y;replace a:=aa d;clear Y dX P ahi;clear d
  |with_reducible refine(dr.fail a.out 0 0 (0:Int) rfl rfl).mono ?_
   rintro e G ⟨rfl,d,xf⟩;have nL:=aa (hO.out.apart xf (by omega));replace a:=aa d;clear hO
   clear d xf)
 have I6:∀j,j<k→((((l.drop 228).take (8*k)).drop (8*j)).take 8).length=8:=fun j I=>by have N:=E.out;rw[cf,bJ,N];omega
 have YF:∀j,j<k→(((l.drop 228).take (8*k)).drop (8*j)).take 8=((l.drop 228).drop (8*j)).take 8:=fun j I=>by rw[Fg,Fb,show min 8 (8*k-8*j)=8 by omega]
 have kO:=aa (fun j I=>iL.at' nL.out j I);have CL:=aa I6;have Lo:=aa YF;have hz3:=a.out.size;have jG:=aa a.out;clear I6 YF nL J E jE kw eH vm O
 go_loopw [37] (fun i wr=>∃(j:Nat) (v:Value),j≤k∧i= .int .i64 (j:Int)∧wr.heap[w.heap.size+1]?=some (.cells (bI v (fun _=>0) (fun _=>0)).toArray 84 (0,0))∧wr.ownsRow G.heap.size 26 1 v j ((H.take j).map (Value.int .u64))∧aL (w.heap.size+1) G wr) (fun i _=>k-(intOf i).toNat)
 case atStart=>exact⟨0,_,by omega,rfl,a.out.hX,⟨rfl,Or.inl ⟨rfl,rfl⟩⟩,aL.refl _ _⟩
 case round=>
  obtain⟨j,v,I,rfl,O4,O6,zh⟩:=hrel;obtain⟨A,RR⟩:∃W,W=wr:=⟨_,rfl⟩;subst RR;clear a;obtain⟨s,u,rfl,Xu⟩:=aW O6;have X:=aa O4;have hN:=aa O6;have z:=aa zh;clear O4 O6 zh;by_cases B:j<k
  ·have lj:(j:Int)<(k:Int):=by omega
   obtain⟨g,b,o,ci,⟨cap,VC⟩,m6,Be,KP,Eg,C,kK⟩:=kO.out j B;injection VC with Zf agK Ze
   subst Zf;subst Ze;have U:=CL.out j B;rw[U]at m6;have hc:=aa ((z.out.cell (p:=⟨g,j,none⟩) Eg (show g≠w.heap.size+1 by omega)).trans m6)
   have K7:Row A (some ⟨b,o,none⟩) .u8 (((l.drop 228).drop (8*j)).take 8):=by
    rw[←Lo.out j B]
    exact⟨fun q T=>by
     obtain⟨b',o',e,V⟩:=Be.cell q T;cases e
     exact⟨b,o,rfl,(z.out.cell (p:=⟨b,o+q,none⟩) kK (show b≠w.heap.size+1 by omega)).trans V⟩,Be.ok⟩
   rw[Lo.out j B]at U;have Zi:=aa (No.out j B);generalize ((l.drop 228).drop (8*j)).take 8=q at*
   have h8:=aa (show Calls prog 149 #[.slice (some ⟨b,o,none⟩) 8 ci] A fun e R=>e= .returned (.tuple #[.int .u64 (p9 q),.int .i64 0])∧A=R from by
    have h:=Jp q (some ⟨b,o,none⟩) ci A K7;rw[U,aj rfl,aj rfl]at h
    exact h)
   clear Be K7 m6 U;generalize p9 q=y at*;have Vz:A.cell? ⟨w.heap.size+1,0,none⟩=some (.slice s j u):=by rw[br A _ 0 _ _ _ X.out];rfl
   have Zd:=aa Vz;clear Vz
   go_wp2_with (first
    |refine aC 114 ?_;refine ab (by rfl) _ (ai _ 114 39 _ _ rfl cV 1 dv g 0 k ce rfl .i64 j rfl B j (by omega)) ?_
    |refine ag 39 ?_;refine dq (v:=(.slice (some ⟨b,o,none⟩) 8 ci)) hc.out bF ?_ rfl rfl rfl rfl
    |with_reducible refine h8.out.mono ?_
     rintro e W1 ⟨rfl,rfl⟩;clear h8
    |refine ag 78 ?_;refine dq (v:=(.slice s j u)) Zd.out qw ?_ rfl rfl rfl rfl
    |refine aV 78 ?_;refine aH rfl fun K m=>bV _ (ul _ _ (by rfl) y (by rfl)) (m _ _ ?_);clear m K
    |refine dy 78 ?_;refine aH rfl fun K m=>eN (w0:=A) (n0:=G.heap.size) (.tmp 47) (.tmp 49) 78 26 rfl qw (.int .u64 0) 1 8 F5 rfl (by decide) G.heap.size j (.slice s j u) _ rfl (aU hN.out dt) ⟨A.heap.size,0,none⟩ 1 1 rfl [.int .u64 y] rfl (aE (ak _ _ _ _ rfl)) rfl (by simp[Value.oneCell']) (by omega) (by omega) (by rw[bn];have:=z.out.size;omega) bG ((aP _ _).alloc z.out.size _) (fun v1 W1 N D z1 o1 q1=>m _ _ ?_);clear m K
     obtain⟨eE,c1,Z,_⟩:=aW N;subst Z;have my:=aa N;have KS:=aa (show aL (w.heap.size+1) G W1 from⟨D.os.trans z.out.os,D.tape.trans z.out.tape,D.output.trans z.out.output,bg z.out.size D.size,fun b J VN=>(D.block b J).trans (z.out.block b J VN)⟩);have m7:=aa ((D.block (w.heap.size+1) (by omega)).trans X.out);clear N D z1 o1 q1
    |refine al 78 ?_;refine aF 78 (w.heap.size+1) 0 rfl ?_;refine aH rfl fun K m=>bt 78 _ _ rfl (w.heap.size+1) 0 rfl (.slice eE (j+1) c1) rfl rfl XW _ _ m7.out (by simp[bI]) (fun W2 fW jq=>m _ _ ?_);clear m K)
   have ut:W2.ownsRow G.heap.size 26 1 (.slice eE (j+1) c1) (j+1) ((H.take (j+1)).map (Value.int .u64)):=by have h5:=de my.out jq (by omega);rw[Zi.out,kN];exact h5
   exact⟨⟨j+1,.slice eE (j+1) c1,by omega,by go_num,fW,ut,KS.out.trans jq⟩,by simp[intOf];omega⟩
  ·have e:j=k:=by omega
   subst e;clear No kO CL Lo B I;have a:=aa (jG.out.rj z.out X.out);have Vk:=qL hN.out hz3;rw[←K_,gC,K_]at Vk;have n:=aa Vk;clear jG Vk hN X z Xu
   go_wp2_with (first
    |refine ag 41 ?_;refine dq (v:=(.int .i64 0)) a.out.dS fU ?_ rfl rfl rfl rfl
    |with_reducible refine(dr.kh a.out 128 (128:Int) rfl (by decide) (by decide) (fun _=>by rw[hL.out];omega)).mono ?_
     rintro e W5 ⟨vv,rfl,b,o',c',q,rfl,V,E,sU,kY,jX,d,Er⟩;rw[aj rfl]at d;have r:=de n.out Er (by omega);have qt:=aa sU;have qu:=aa kY;have T:=aa (jX rfl);replace a:=aa d;clear sU kY jX Er n;have n:=aa r;clear d r
    |with_reducible refine(AZ q (some ⟨b,o',none⟩) c' _ qt.out (by rw[qu.out];exact V) (fun e=>by cases e) (fun b o e=>by cases e;exact E) qu.out).mono ?_
     rintro e W6 ⟨rfl,C⟩;have d:=a.out.after C;have r:=aU n.out C;replace a:=aa d;clear C V E qt n;have n:=aa r;clear d r
    |refine ao 82 ?_;refine aw rfl rfl 82 _ _ rfl rfl rfl (ae 100 ba (dp q)).toArray rfl rfl (zeroOf prog 82) (aG gl).1 (aG gl).2 (aA _ _ _) ?_
    |refine ag 82 ?_;refine ab (by rfl) _ (ay _ 82 _ (by rfl) W6.heap.size (by rfl) _ _ (0,0) _ (ak W6 (ae 100 ba (dp q)).toArray 82 W6.heap.size rfl) Bi rfl (by rw[ah gl];simp[ae])) ?_
    |refine al 82 ?_;refine aF 82 (w.heap.size+1) 1 rfl ?_;refine iv rfl 82 _ _ rfl 1 rfl (ae 100 ba (dp q)) rfl (by rw[ah gl,ac]) cl (a.out.after dt) [.slice s j u] (ae 100 ba fun _=>0) (ae 96 (fun _=> .u8) fun _=>0) rfl rfl (by rw[ac,ac]) (fun W7 d wl=>?_)
     have r:=de (aU n.out ((aP _ W6).alloc bG (.cells (ae 100 ba (dp q)).toArray 82))) wl (by omega);replace a:=aa d;clear n wl;have n:=aa r;clear d r
    |with_reducible refine(dr.fail a.out 0 0 (0:Int) rfl rfl).mono ?_
     rintro e W8 ⟨rfl,d,KW⟩;have r:=de n.out KW (by omega);replace a:=aa d;clear n KW;have n:=aa r
     clear d r)
   rename_i K m;refine dQ (S:=fun _=>True) (by kernel_rfl) ?_;have GH:True:=trivial;refine gY 0 1 2 (.pointer (some ⟨w.heap.size+1,101,none⟩)) (.slice (some ⟨w.heap.size+1,101,none⟩) 96 96) (.pointer (some ⟨w.heap.size+1+1,0,none⟩)) rfl (by kernel_rfl) (fun _=>by kernel_rfl) bH ‹_› ?_;go_frame;refine cQ (i:=3) rfl (by kernel_rfl) rfl (it 61 #[.pointer (some ⟨w.heap.size+1+1,0,none⟩),.int .i64 96] (by go_simp) _ ((a.out.drew _).kh 96 (96:Int) rfl (by decide) (by decide) (fun _=>by rw[hL.out];omega)) ?_);rintro v W9 ⟨b2,o2,c2,q2,rfl,Ez,EB,sv,sw,zd,d,xm⟩;have r:=de n.out ((aL.begin _ _).trans xm) (by omega);refine⟨trivial,?_⟩;go_frame;refine cQ (i:=4) rfl (by kernel_rfl) rfl (og _ _ rfl 101 96 b2 o2 c2 96 rfl rfl d (.slice s j u::ae 100 ba (dp q)) [] (fun _=>0) (by simp) (by simp[ac]) q2 sv sw (fun Ra F GO=>⟨trivial,?_⟩));have Ry:=de r GO (by omega);refine dM (by kernel_rfl) ?_ _;refine m _ _ ?_;have Z:=T.out;have e2:=zd rfl
   have Q:(.slice s j u::ae 100 ba (dp q)++(ae 96 (fun _=> .u8) (fun i=>q2.getD i 0)++[]):List Value)=bI (.slice s j u) (dp ((l.drop 4).take 128)) (fun i=>l.getD (132+i) 0):=by rw[←qR (f:=fun i=>q2.getD i 0) (fun i hi=>by rw[e2];exact bA _ _ _ _ hi),Z];simp[bI]
   rw[Q,aj rfl]at F;replace a:=aa F;clear m K GH sv Ez EB zd sw d n r xm GO Z e2 Q T qu;have n:=aa Ry;clear F Ry;generalize goInt 96=gi;go_frame
   go_wp2_with (first
    |refine ag 41 ?_;refine dq (v:=(.int .i64 0)) a.out.dS fU ?_ rfl rfl rfl rfl
    |refine ag 84 ?_;refine ab (by rfl) _ (ay _ 84 _ (by rfl) (w.heap.size+1) (by rfl) _ _ (0,0) _ a.out.hX nC rfl (by rw[cS,cI,bp])) ?_
    |refine al 84 ?_;refine aF 84 w.heap.size 0 rfl ?_;refine aH rfl fun K m=>wp_store_row 84 _ _ rfl w.heap.size rfl _ rfl (kj _ _ _ _ _) (by rw[cS,cI,bp]) _ 84 a.out.hR (by rw[cI,bp,cI,bp]) (fun nB iJ eK=>m _ _ ?_);clear m K)
   have Vm:=qL (de n.out eK (by omega)) (show w.heap.size≤w.heap.size+3 by omega);exact aI rfl w.heap.size 0 (bI (.slice s j u) (dp ((l.drop 4).take 128)) (fun i=>l.getD (132+i) 0)) _ rfl (aE iJ) nC rfl (by rw[cS,bp]) rfl ⟨⟨s,u,rfl,Vm⟩,eK.below a.out.hB bG (by have:=a.out.size;omega)⟩
def xN (L:Nat):Int:=if L%8≠0 then 4 else if 64<L/8 then 6 else 0
def UQ (k c L f w) (hL:L≤70368744177664) (he:xN L=f) (d:f≠0):
 Calls prog 65 #[.slice k L c,.int .i64 8,.int .i64 64] w fun e j=>e= .returned (.tuple #[.slice none 0 0,.int .i64 f])∧w=j:=by
 have h:(L:Int).tmod 8=((L%8:Nat):Int):=(xG L 8).symm;have o:(L:Int).tdiv 8=((L/8:Nat):Int):=(xH L 8).symm;subst he;refine(IQ (n:=3)).1 ?_;refine Sv func65 rfl trivial ?_ rfl;simp only[ntmps65,cI,List.length_cons,List.length_nil,Nat.reduceAdd,Nat.reduceSub,oK,Array.replicate_zero,oG,oJ,List.nil_append,List.cons_append];unfold xN at d ⊢;by_cases a:L%8≠0
 ·simp only[aj a]
  obtain⟨m,b⟩:∃m,m=L%8:=⟨_,rfl⟩;rw[←b]at h a;have l:((m:Int) !=0)=true:=by simp;omega
  clear d b a
  gi_wp2
  exact⟨.tuple #[.slice none 0 0,.int .i64 4],by simp[results,Tryz.f65,go_sem],rfl,rfl⟩
 ·by_cases g:64<L/8
  ·have i:L%8=0:=by omega
   simp only[an a,aj g];rw[i]at h;obtain⟨m,b⟩:∃m,m=L/8:=⟨_,rfl⟩;rw[←b]at o g;have l:decide ((64:Int)<(m:Int))=true:=by simp;omega
   have p:m≤70368744177664:=by omega
   clear d b a i
   gi_wp2
   exact⟨.tuple #[.slice none 0 0,.int .i64 6],by simp[results,Tryz.f65,go_sem],rfl,rfl⟩
  ·exact absurd (by simp only[an a,an g]) d
def uh {a o} (w) (b:o.op= .build 84 #[]):(execOp a o).run prog w= .ok (.value (.agg (bI (.slice none 0 0) (fun _=>0) (fun _=>0)).toArray)) w:=by
 have h:(Instr.build 84 #[]).run prog w= .ok (.agg (bI (.slice none 0 0) (fun _=>0) (fun _=>0)).toArray) w:=by kernel_rfl
 exact run_build 84 #[] b _ h
end Go.Proofs.YtjeoeibdgciafaaGreatDoor
