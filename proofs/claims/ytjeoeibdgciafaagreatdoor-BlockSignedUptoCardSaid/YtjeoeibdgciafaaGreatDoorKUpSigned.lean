/- The law pharoslaw09.BlockSigned, where what comes in is of bulk at most 1048576: it answers true, and what was handed in stays. The card says it of the program's text. -/
import Derived.Test.YtjeoeibdgciafaaGreatDoorM30
set_option linter.all false
set_option maxRecDepth 100000
set_option maxHeartbeats 16000000
namespace Go.Proofs.YtjeoeibdgciafaaGreatDoor
open Go.RowKit BigFrame
open Go.Proofs.Tryz
def Uo (T:rowB prog 57 464=true) (X:Array Value) (Iu:X.size=464) (u:World→Prop) (XO:∀l o,u l→Below l.heap.size l o→u o) (n:List Int) (AH:∀m∈n,CK.ok .u8 m) (p:Int) (z:Nat→Int) (AI:∀W,u W→Calls prog 19 #[.agg X] W fun e d=>(∃f c,e= .returned (.tuple #[.slice f n.length c,.int .i64 p])∧(f=none→c=0)∧bc W.heap.size (.slice f n.length c) n d)∧Below W.heap.size W d) (tC:∀W,u W→Calls prog 21 #[.agg X] W fun e d=>(∃f c,e= .returned (.tuple #[.slice f n.length c,.int .i64 p])∧(f=none→c=0)∧bc W.heap.size (.slice f n.length c) n d)∧Below W.heap.size W d) (tB:∀W,u W→cY W→Calls prog 20 #[.agg X] W fun e d=>e= .returned (.tuple #[.agg (ax z),.int .i64 p])∧Below W.heap.size W d) (pO:∀W,u W→cY W→Calls prog 22 #[.agg X] W fun e d=>e= .returned (.tuple #[.agg (ax z),.int .i64 p])∧Below W.heap.size W d) (P:Array Value→World→Prop) (IB:∀Y l o,P Y l→Below l.heap.size l o→P Y o) (V:p=0→∀f c W,cG f c n W→Calls prog 23 #[.slice f n.length c] W fun e d=>(∃Y:Array Value,e= .returned (.tuple #[.agg Y,.int .i64 0])∧Y.size=464∧Y.all (·.oneCell')=true∧P Y d)∧Below W.heap.size W d) (Z:p=0→∀Y W,P Y W→Calls prog 21 #[.agg Y] W fun e d=>(∃f c,e= .returned (.tuple #[.slice f n.length c,.int .i64 0])∧(f=none→c=0)∧bc W.heap.size (.slice f n.length c) n d)∧Below W.heap.size W d) (i:List Int) (Q:Option Addr) (cb:Nat) (w) (hT:cY w) (vC:u w) (fM:cG Q cb i w) (cW:i.length≤70368744170000) (C:Int) (U:List Int) (AG:∀m∈U,CK.ok .u8 m) (y:C=0→U=i) (G:Array Value→World→Prop) (IA:∀Y l o,G Y l→Below l.heap.size l o→G Y o) (Iw:∀g c W,cG (some ⟨g,0,none⟩) c i W→Calls prog 23 #[.slice (some ⟨g,0,none⟩) i.length c] W fun e d=>(∃Y:Array Value,e= .returned (.tuple #[.agg Y,.int .i64 C])∧Y.size=464∧Y.all (·.oneCell')=true∧G Y d)∧Below W.heap.size W d) (Iy:∀f c W,cG f c i W→Calls prog 24 #[.slice f i.length c] W fun e d=>(∃Y:Array Value,e= .returned (.tuple #[.agg Y,.int .i64 C])∧Y.size=464∧Y.all (·.oneCell')=true∧G Y d)∧Below W.heap.size W d) (tD:∀Y W,G Y W→Calls prog 21 #[.agg Y] W fun e d=>(∃f c,e= .returned (.tuple #[.slice f U.length c,.int .i64 0])∧(f=none→c=0)∧bc W.heap.size (.slice f U.length c) U d)∧Below W.heap.size W d):
 Calls prog 5 #[.agg X,.slice Q i.length cb] w fun e d=>e= .returned (.bool true)∧Below w.heap.size w d:=by
 have a:=aa ((rp.start hT).ld fM rfl|>.wz vC XO);have A:=aa T;have hXs:=aa Iu;have Cm:=aa AH;have Sa:=aa AI;have Jd:=aa tC;have Jc:=aa tB;have CO:=aa pO;have xv:=aa AG;have XK:=aa Iw;have hRB:=aa Iy;have M:=aa tD;have hHA:=aa IB;have RD:=aa IA;have B:=aa (ah T);clear T Iu AH AI tC tB pO AG Iw Iy tD vC fM hT XO IB IA;have rc:IntKind.i64.wrap ((i.length:Int)+1)=((i.length+1:Nat):Int):=by rw[bP];omega
 go_enter func5,ntmps5
 rcases tg (p=0)with H|H<;>rcases tg (C=0)with I|I<;>
 (first
   |subst H
    have R_:=aa (V rfl);have Je:=aa (Z rfl);clear V Z
   |have jV:(p==0)=false:=by simp[H]
    have ku:(p !=0)=true:=by simp[H]
    clear V Z
  first
   |subst I
    have e:=(y rfl).symm;subst e;clear y
   |have En:(C==0)=false:=by simp[I]
    have VJ:(C !=0)=true:=by simp[I]
    clear y
  go_wp2_with (first
   |(with_reducible refine fo 57 ?_);refine bW rfl 57 _ rfl _ rfl ?_
    have b:=a.out.s4 X 57;refine bZ _ b ?_;clear a b;intro W b;have a:=aa b;clear b
   |first
    |with_reducible refine(wT _).mono ?_
    |with_reducible refine(Jc.out _ (a.out.get 0 rfl) a.out.hT).mono ?_
    |with_reducible refine(CO.out _ (a.out.get 0 rfl) a.out.hT).mono ?_
    rintro e W ⟨rfl,j⟩;have b:=a.out.later j;clear j;replace a:=aa b;clear b
   |((with_reducible refine ag 57 ?_);first
     |refine ab (by rfl) _ (ay _ 57 _ (by rfl) _ rfl _ _ (0,0) _ (a.out.bx 0 rfl) uX rfl (by rw[B.out,hXs.out])) ?_
     |refine ab (by rfl) _ (ay _ 57 _ (by rfl) _ rfl _ _ (0,0) _ (a.out.bx 3 rfl) uX rfl (by rw[B.out,S.out])) ?_
     |refine ab (by rfl) _ (ay _ 57 _ (by rfl) _ rfl _ _ (0,0) _ (a.out.bx 4 rfl) uX rfl (by rw[B.out,L.out])) ?_
     |refine ab (by rfl) _ (ay _ 57 _ (by rfl) _ rfl _ _ (0,0) _ (a.out.bx 5 rfl) uX rfl (by rw[B.out,J.out])) ?_
     |refine ab (by rfl) _ (ay _ 57 _ (by rfl) _ rfl _ _ (0,0) _ (a.out.bx 3 rfl) uX rfl (by rw[B.out,L.out])) ?_
     |refine ab (by rfl) _ (ay _ 57 _ (by rfl) _ rfl _ _ (0,0) _ (a.out.bx 4 rfl) uX rfl (by rw[B.out,J.out])) ?_)
   |(with_reducible refine ag 25 ?_);refine ab (by rfl) _ (ay _ 25 _ (by rfl) _ rfl _ _ (0,0) _ (a.out.bx 1 rfl) cH rfl (by rw[ah am];simp[ae])) ?_
   |(with_reducible refine ag 25 ?_);refine ab (by rfl) _ (ay _ 25 _ (by rfl) _ rfl _ _ (0,0) _ (a.out.bx 2 rfl) cH rfl (by rw[ah am];simp[ae])) ?_
   |first
    |with_reducible refine(Sa.out _ (a.out.get 0 rfl)).mono ?_
    |with_reducible refine(Jd.out _ (a.out.get 0 rfl)).mono ?_
    |with_reducible refine(Je.out O _ (a.out.get 1 rfl)).mono ?_
    rintro e W ⟨⟨eE,c1,rfl,E,D⟩,j⟩;have b:=(a.out.later j).ld (cG.b_ D Cm.out E) rfl;clear E D j;replace a:=aa b;clear b
   |first
    |with_reducible refine(M.out F _ (a.out.get 2 rfl)).mono ?_
    |with_reducible refine(M.out YC _ (a.out.get 3 rfl)).mono ?_
    |with_reducible refine(M.out F _ (a.out.get 1 rfl)).mono ?_
    |with_reducible refine(M.out YC _ (a.out.get 2 rfl)).mono ?_
    rintro e W ⟨⟨eE,c1,rfl,E,D⟩,j⟩;have b:=(a.out.later j).ld (cG.b_ D xv.out E) rfl;clear E D j;replace a:=aa b;clear b
   |(with_reducible refine ao 25 ?_);refine aw rfl rfl 25 _ _ rfl rfl rfl (ax z) rfl rfl (zeroOf prog 25) (aG am).1 (aG am).2 (aA _ _ _) ?_
    have b:=a.out.s4 (ax z) 25;refine bZ _ b ?_;clear a b;intro W b;have a:=aa b;clear b
   |(with_reducible refine ao 57 ?_);refine aw rfl rfl 57 _ _ rfl rfl rfl O rfl rfl (zeroOf prog 57) (by rw[S.out];exact(aG A.out).1) (by rw[S.out];exact(aG A.out).2) R7.out ?_
    have b:=a.out.s4 O 57;refine bZ _ b ?_;clear a b;intro W b;have a:=aa b;clear b
   |(with_reducible refine ao 57 ?_);refine aw rfl rfl 57 _ _ rfl rfl rfl F rfl rfl (zeroOf prog 57) (by rw[L.out];exact(aG A.out).1) (by rw[L.out];exact(aG A.out).2) It.out ?_
    have b:=a.out.s4 F 57;refine bZ _ b ?_;clear a b;intro W b;have a:=aa b;clear b
   |(with_reducible refine ao 57 ?_);refine aw rfl rfl 57 _ _ rfl rfl rfl YC rfl rfl (zeroOf prog 57) (by rw[J.out];exact(aG A.out).1) (by rw[J.out];exact(aG A.out).2) R6.out ?_
    have b:=a.out.s4 YC 57;refine bZ _ b ?_;clear a b;intro W b;have a:=aa b;clear b
   |with_reducible refine(R_.out _ _ _ (a.out.sl 1 rfl)).mono ?_
    rintro e W ⟨⟨O,rfl,q,r,s⟩,j⟩;have S:=aa q;have R7:=aa r;have b:=(a.out.later j).wz s (hHA.out O);clear j q r s;replace a:=aa b;clear b
   |first
    |with_reducible refine(XK.out _ _ _ (a.out.sl 4 rfl)).mono ?_
    |with_reducible refine(XK.out _ _ _ (a.out.sl 3 rfl)).mono ?_
    rintro e W ⟨⟨F,rfl,q,r,s⟩,j⟩;have L:=aa q;have It:=aa r;have b:=(a.out.later j).wz s (RD.out F);clear j q r s;replace a:=aa b;clear b
   |with_reducible refine(hRB.out _ _ _ (a.out.sl 0 rfl)).mono ?_
    rintro e W ⟨⟨YC,rfl,q,r,s⟩,j⟩;have J:=aa q;have R6:=aa r;have b:=(a.out.later j).wz s (RD.out YC);clear j q r s;replace a:=aa b;clear b
   |((with_reducible refine fm 39 9 ?_);first
     |refine ab (by rfl) _ (dW _ rfl a.out.toLaw 1 rfl rfl) ?_
     |refine ab (by rfl) _ (dW _ rfl a.out.toLaw 2 rfl rfl) ?_
     |refine ab (by rfl) _ (dW _ rfl a.out.toLaw 3 rfl rfl) ?_
     |refine ab (by rfl) _ (dW _ rfl a.out.toLaw 6 rfl rfl) ?_
     |refine ab (by rfl) _ (dW _ rfl a.out.toLaw 7 rfl rfl) ?_
     |refine ab (by rfl) _ (dW _ rfl a.out.toLaw 4 rfl rfl) ?_
     |refine ab (by rfl) _ (dW _ rfl a.out.toLaw 0 rfl rfl) ?_
     |refine ab (by rfl) _ (dW _ rfl a.out.toLaw 5 rfl rfl) ?_)
   |(with_reducible refine LU .neq 25 ?_);refine ab (by rfl) _ (rK _ _ _ rfl z z false rfl rfl (rN _)) ?_
   |(with_reducible refine aV 39 ?_);refine aH rfl fun K hK=>d' rfl (hK _ _ ?_);clear hK K
   |(with_reducible refine dy 39 ?_);refine cB (w0:=W) rfl _ _ rfl W.heap.size [] i _ rfl (bc.new bG [] (by decide) (ak _ _ _ _ rfl)) Q cb rfl ((a.out.sl 0 rfl).row.later dt) (by simp;omega) (by simp) (a.out.sl 0 rfl).nil dt (fun v1 l N b1 z1=>?_)
    rw[List.nil_append]at N;obtain⟨eE,c1,e1,_⟩:=aW N;subst e1;have fR:=aa N;have j:=aa b1;clear N b1
   |(with_reducible refine dy 39 ?_);refine cB (w0:=W) rfl _ _ rfl W.heap.size i [7] _ rfl (fR.out.later dt) (some ⟨l.heap.size,0,none⟩) 1 rfl (row_one _ _ 7 _ (ak _ _ _ _ rfl) rfl ⟨by decide,by decide⟩) (by simp;omega) (by rw[bn];omega) (fun h=>by cases h) (j.out.alloc z1 _) (fun v2 o h2 b2 z2=>?_)
    obtain⟨g,c2,e2,Nr,R⟩:=cG.Y9 h2 (a.out.sl 0 rfl).row.ok ⟨by decide,by decide⟩;subst e2;have b:=((a.out.later b2).ld R.pre rfl).ld (k:=i.length+1) R (by simp);clear h2 b2 z2 R fR j z1;obtain⟨W,mM⟩:∃W,W=o:=⟨_,rfl⟩;subst mM;replace a:=aa b;clear b
   |(with_reducible refine fj 39 ?_);refine ab (by rfl) _ (dl _ 39 5 _ _ rfl bF 1 cR g 0 (i.length+1) c2 i.length rfl rfl (by omega)) ?_
   |(with_reducible refine fj 39 ?_);refine ab (by rfl) _ (dl _ 39 5 _ _ rfl bF 1 cR g 0 i.length c2 (i.length+1) rfl rfl (by omega)) ?_
   |(with_reducible refine aC 39 ?_);refine ab (by rfl) _ (ai _ 39 5 _ _ rfl bF 1 cR g 0 (i.length+1) c2 rfl .i64 i.length rfl (by omega) i.length (by omega)) ?_
   |(with_reducible refine ag 5 ?_);refine dq (v:=(.int .u8 7)) (a.out.sl 5 rfl).last sE ?_ rfl rfl rfl rfl
   |(with_reducible refine ag 5 ?_);refine dq (v:=(.int .u8 7)) (a.out.sl 4 rfl).last sE ?_ rfl rfl rfl rfl)
  exact cA rfl _ rfl rfl ⟨rfl,a.out.hB⟩)
def Eu (n:Nat) (u:Nat→Value):Act:={tmps:=#[u 0,u 1,.pointer (some ⟨n,0,none⟩),u 3,.pointer (some ⟨n+1,0,none⟩),.pointer (some ⟨n+1+1,0,none⟩),u 6,u 7,u 8,u 9,u 10,u 11,u 12,u 13,u 14,u 15,u 16,u 17,u 18,u 19,u 20,u 21,u 22,u 23,u 24,u 25,u 26,u 27,u 28,u 29,u 30,u 31,u 32,u 33,u 34,u 35,u 36,u 37,u 38,u 39,u 40,u 41,u 42,u 43,u 44],defers:=[]}
def aae {a:Code} {n:Nat} {Q A W} (h:∀u,a.wp prog Q (Eu n u) W) (b:A=Eu n (fun k=>A.tmps.getD k undef)):a.wp prog Q A W:=by rw[b];exact h _
def LQ {n:Nat} {Q:Exit→Act→World→Prop} {P:World→Prop} {A:Act} {W:World} (g:∀b a,P a→Q .normal (Eu n b) a) (h:P W) (c:A=Eu n (fun k=>A.tmps.getD k undef)):Q .normal A W:=by
 have d:=g (fun k=>A.tmps.getD k undef) W h
 rwa [←c]at d
def eS9 (F) (hF:F=Tryz.f23) (R n C z A l y c j a w b u) (he:a≠0) (g:dr n gk.toArray C 57 z A l y c j a w b) (o:∀s,Below n w s→R (.returned (.tuple #[.agg gk.toArray,.int .i64 (a:Int)])) s):(tq 9 F).wp prog (bodyPost prog Tryz.f23 R) (Eu n u) b:=by
 have d:=aa g;have E:=aa o;have G:((a:Int)==0)=false:=by simp;omega
 have H:((a:Int) !=0)=true:=by simp;omega
 have I:=g.size;clear g o;subst hF;simp only[tq,tlAt,headAt,Tryz.f23,reduceIte,Nat.reduceEqDiff,Nat.reduceBEq,dR];unfold Eu
 go_wp2_with (first
  |refine ag 41 ?_;refine dq (v:=(.int .i64 (a:Int))) d.out.dS fU ?_ rfl rfl rfl rfl)
 rename_i K q;refine dQ (S:=fun e=>e.cell? ⟨n+1+1,4,none⟩=some (.int .i64 (a:Int))) (by kernel_rfl) ?_;have f:({b with drawn:=b.drawn+1}:World).cell? ⟨n+1+1,4,none⟩=some (.int .i64 (a:Int)):=d.out.dS;refine aJ (i:=0) (v:=(.agg gk.toArray)) rfl (by kernel_rfl) bH ‹_› (fun e _=>ug e rfl) ?_;go_frame;refine gY 1 2 3 (.pointer (some ⟨n+1+1,0,none⟩)) (.pointer (some ⟨n+1+1,0,none⟩)) (.pointer (some ⟨n+1+1,4,none⟩)) rfl (by kernel_rfl) (fun _=>by kernel_rfl) bH ‹_› ?_;go_frame;refine aJ (i:=4) (v:=(.int .i64 (a:Int))) rfl (by kernel_rfl) bH ‹_› (fun e m=>au _ 41 _ (by rfl) ⟨n+1+1,4,none⟩ (by rfl) _ m _ fU rfl) ?_;go_frame;refine cQ (i:=5) rfl (by kernel_rfl) rfl (wp_store_row 57 _ _ rfl n rfl _ rfl (jP (r_.one (lW 0 b))) (by rw[ah pF];rfl) _ 57 (d.out.drew _).hR rfl (fun r B h=>⟨(h.cell (p:=⟨n+1+1,4,none⟩) (by show n+1+1<b.heap.size;omega) (show n+1+1≠n by omega)).trans d.out.dS,?_⟩));have k:r.cell? ⟨n+1+1,4,none⟩=some (.int .i64 (a:Int)):=(h.cell (p:=⟨n+1+1,4,none⟩) (by show n+1+1<b.heap.size;omega) (show n+1+1≠n by omega)).trans d.out.dS;clear f;have f:=k;clear k;go_frame;refine aJ (i:=6) (v:=(.int .i64 (a:Int))) rfl (by kernel_rfl) bH ‹_› (fun e m=>by go_simp) ?_;go_frame;refine dM (by kernel_rfl) ?_ _;simp only[Exit.then];refine q _ _ ?_;have D:Below n w r:=h.below (d.out.drew _).hB bG (by show n≤b.heap.size;omega);clear f q K;go_wp2;exact aI rfl n 0 gk _ rfl (aE B) uX rfl (by rw[ah pF];rfl) rfl (E.out _ D)
def gS9 (F) (hF:F=Tryz.f23) (R n) (a:List Value) (r:List Nat) (s) (l:List Int) (q:Option Addr) (c g w e u) (h:a.length=464) (o:∀v∈a,v.oneCell'=true) (i:dr n gk.toArray a.toArray 57 r s l q c g 0 w e) (j:∀f,Below n w f→Kp (n+3) e f→R (.returned (.tuple #[.agg a.toArray,.int .i64 0])) f):(tq 9 F).wp prog (bodyPost prog Tryz.f23 R) (Eu n u) e:=by
 have b:=aa i;have B:=aa j;have d:=aa h;have A:=aa (jP o);clear i j o h;subst hF;simp only[tq,tlAt,headAt,Tryz.f23,reduceIte,Nat.reduceEqDiff,Nat.reduceBEq,dR];unfold Eu
 go_wp2_with (first
  |refine ag 41 ?_;refine dq (v:=(.int .i64 0)) b.out.dS fU ?_ rfl rfl rfl rfl
  |refine ag 57 ?_;refine ab (by rfl) _ (ay _ 57 _ (by rfl) (n+1) (by rfl) _ _ (0,0) _ b.out.hX uX rfl (by rw[ah pF,cI,d.out])) ?_
  |refine al 57 ?_;refine aF 57 n 0 rfl ?_;refine aH rfl fun K k=>wp_store_row 57 _ _ rfl n rfl _ rfl A.out (by rw[ah pF,cI,d.out]) _ 57 b.out.hR (by show _=a.length;rw[d.out];rfl) (fun p y m=>k _ _ ?_);clear k K)
 have z:Below n w p:=m.below b.out.hB bG (by have:=b.out.size;omega);exact aI rfl n 0 a _ rfl (aE y) uX rfl (by rw[ah pF,d.out]) rfl (B.out p z ((Kp.refl _ _).apart m (by omega)))
def aeb (F) (h:F=Tryz.f23):(Tryz.f23).body=some (.seq (pc 0 Tryz.f23) (.seq (pc 1 Tryz.f23) (.seq (pc 2 Tryz.f23) (.seq (pc 3 Tryz.f23) (tq 4 F))))):=by
 subst h
 kernel_rfl
def cS4 (F) (h:F=Tryz.f23):tq 4 F= .seq (pq 4 F) (tq 8 F):=by
 subst h
 kernel_rfl
def cS8 (F) (h:F=Tryz.f23):tq 8 F= .seq (pq 8 F) (tq 9 F):=by
 subst h
 kernel_rfl
def dS8 (F) (hF:F=Tryz.f23) (Q n Z o t s y l q c b m w W u g) (M:o.length=368) (A:m=0→b+96≤l.length) (z:dr n Z (o++ae 96 (fun _=> .u8) g).toArray t s y l q c b m w W) (C:∀r j f p,dr n Z (o++ae 96 (fun _=> .u8) f).toArray t s y l q c p m w j→(m=0→∀k,k<96→f k=l.getD (b+k) 0)→Kp (n+3) W j→Q .normal (Eu n r) j) (J:∀c a d v w,Q (.panic c) (Act.put a (some d) v) w→Q (.panic c) a w):(pq 8 F).wp prog Q (Eu n u) W:=by have O:=aa z;have X:=aa (fun r j (h:∃f p,dr n Z (o++ae 96 (fun _=> .u8) f).toArray t s y l q c p m w j∧(m=0→∀k,k<96→f k=l.getD (b+k) 0)∧Kp (n+3) W j)=>by obtain⟨f,p,V,U,T⟩:=h;exact C r j f p V U T);have hl:=aa A;have hz:=z.size;clear z C A;subst hF;simp only[pq,pc,pcAt,headAt,Tryz.f23,reduceIte,Nat.reduceEqDiff,Nat.reduceBEq,dR];unfold Eu;refine dQ (S:=fun _=>True) (by kernel_rfl) ?_;have GH:True:=trivial;refine gY 0 1 2 (.pointer (some ⟨n+1,368,none⟩)) (.slice (some ⟨n+1,368,none⟩) 96 96) (.pointer (some ⟨n+1+1,0,none⟩)) rfl (by kernel_rfl) (fun _=>by kernel_rfl) J ‹_› ?_;refine cQ (i:=3) rfl (by kernel_rfl) rfl (it 61 #[.pointer (some ⟨n+1+1,0,none⟩),.int .i64 96] (by go_simp) _ ((O.out.drew _).kh 96 (96:Int) rfl (by decide) (by decide) (fun e=>hl.out e)) ?_);rintro v W9 ⟨b2,E,Y,D,rfl,Ez,EB,G,H,I,N,P⟩;refine⟨trivial,?_⟩;go_frame;refine cQ (i:=4) rfl (by kernel_rfl) rfl (og _ _ rfl 368 96 b2 E Y 96 rfl rfl N o [] g (by rw[fZ]) M D G H (fun Ra B R=>⟨trivial,?_⟩));refine dM (by kernel_rfl) ?_ _;rw[fZ]at B;have K:Kp (n+3) W {W with drawn:=W.drawn+1}:=⟨cD _,fun _ _ _=>rfl⟩;exact LQ X.out ⟨_,_,B,fun e k L=>by rw[I e,bA _ _ _ _ L],(K.apart P (by omega)).apart R (by omega)⟩ (by kernel_rfl)
def sE4 (F) (hF:F=Tryz.f23) (Q n Z C t i j l g c d a w W u) (he:a≠0) (e:dr n Z C t i j l g c d a w W) (f:∀b,Q .normal (Eu n b) W):(pq 4 F).wp prog Q (Eu n u) W:=by
 have k:=aa e;have m:=aa (fun b o (h:o=W)=>h▸f b);have p:((a:Int)==0)=false:=by simp;omega
 clear e f;subst hF;simp only[pq,pc,pcAt,headAt,Tryz.f23,reduceIte,Nat.reduceEqDiff,Nat.reduceBEq,dR];unfold Eu
 go_wp2_with (first
  |refine ag 41 ?_;refine dq (v:=(.int .i64 (a:Int))) k.out.dS fU ?_ rfl rfl rfl rfl)
 exact LQ m.out rfl (by kernel_rfl)
def sG4 (r F) (hF:F=Tryz.f23) (Q n Z t l p c w W u P) (s:P=l.drop 100) (H:100≤l.length) (hl:l.length<4294967296) (B:dr n Z gk.toArray t [100,l.length] 0 l p c 0 0 w W) (C:∀q f k,dr n Z (f++ae 96 (fun _=> .u8) (fun _=>0)).toArray t [100,l.length] 1 l p c (0+4) (mb r P) w k∧vU (xi r P) (n+3) f k→Q .normal (Eu n q) k):(pq 4 F).wp prog Q (Eu n u) W:=by
 have d:=aa B;have I:=aa (fun q k (h:∃f,dr n Z (f++ae 96 (fun _=> .u8) (fun _=>0)).toArray t [100,l.length] 1 l p c (0+4) (mb r P) w k∧vU (xi r P) (n+3) f k)=>C q h.choose k h.choose_spec);have G:=aa (s.trans (kL (l:=l.drop 100) (i:=l.length-100) (by rw[bJ];omega)).symm);have z:=aa (show P.length<4294967296 by rw[s,bJ];omega);clear s;clear B C;subst hF;simp only[pq,pc,pcAt,headAt,Tryz.f23,reduceIte,Nat.reduceEqDiff,Nat.reduceBEq,dR];unfold Eu
 go_wp2_with (first
  |refine ag 41 ?_;refine dq (v:=(.int .i64 0)) d.out.dS fU ?_ rfl rfl rfl rfl
  |with_reducible refine dr.wE (a:=100) (b:=l.length) d.out (by simp) (by simp) rfl rfl H bG (by omega) (by decide) G.out ?_
   intro W J L y;clear d;have d:=aa y.out.2.1;have hs:=aa y.out.1;clear y
  |with_reducible refine xx.mJ (rD r) hs.out z.out rfl ?_
   intro o f j A;have K:=d.out.size;have g:=d.out.after A;replace d:=aa g;clear hs;have m:=aa (Kp.refl (n+3) o);clear g A
  |refine ao 50 ?_;refine aw rfl rfl 50 _ _ rfl rfl rfl f.toArray rfl rfl (zeroOf prog 50) (by rw[cI,gD.len j.out];exact(aG i7).1) ((aG i7).2.trans (gD.len j.out).symm) (jP (gD.one j.out)) ?_
  |refine ag 50 ?_;refine ab (by rfl) _ (ay _ 50 _ (by rfl) o.heap.size (by rfl) _ _ (0,0) _ (ak o f.toArray 50 o.heap.size rfl) pn rfl (by rw[ah i7,cI,gD.len j.out];rfl)) ?_
  |refine al 50 ?_;refine aF 50 (n+1) 0 rfl ?_;refine iv rfl 50 _ _ rfl 0 rfl f rfl (by rw[ah i7,gD.len j.out];rfl) (gD.one j.out) (d.out.after dt) [] dJ (ae 96 (fun _=> .u8) (fun _=>0)) rfl rfl (by rw[gD.len j.out];rfl) (fun N g E=>?_)
   rw[List.nil_append]at g;replace m:=aa ((m.out.below ((aP _ o).alloc bG (.cells f.toArray 50)) m.out.1).apart E (by omega));replace d:=aa g;clear E;clear g
  |with_reducible refine(dr.fail d.out _ (mb r P) _ rfl (aj rfl)).mono ?_
   rintro e M ⟨rfl,g,D⟩;replace m:=aa (m.out.apart D (by omega));replace d:=aa g;clear D
   clear g)
 exact LQ I.out ⟨f,d.out,gD.low (gD.kp j.out m.out (by omega)) (by omega)⟩ (by kernel_rfl)
def AX (r):xx AK 23 (EX r) (rl r):=fun l d c w hs Q=>by
 have hl:=Q.out;have cW:l.length≤70368744177664:=by omega
 clear Q;obtain⟨F,H⟩:∃F,F=Tryz.f23:=⟨_,rfl⟩;refine tf func23 (aeb F H) ?_;have hF:=aa H;clear H;simp only[ntmps23,cI,List.length_cons,List.length_nil,Nat.reduceAdd,Nat.reduceSub,oK,Array.replicate_zero,oG,oJ,List.nil_append,List.cons_append];simp only[pc,pcAt,headAt,Tryz.f23,reduceIte,Nat.reduceEqDiff,Nat.reduceBEq,dR]
 go_wp2_with (first
  |refine ao 57 ?_;refine fX 2 uz ?_
  |refine ao 57 ?_;refine fX 4 uz ?_
  |with_reducible refine(dr.open l.length 100 (100:Int) rfl rfl 1 (1:Int) rfl (by decide) (err:=if 100≤l.length then 0 else 4) rfl (by decide) hs.out.row hs.out.cap hs.out.nil hs.out.low cW).mono ?_
   rintro e W ⟨rfl,q,p⟩;obtain⟨b,D⟩:∃b,b=if 100≤l.length then 0 else 4:=⟨_,rfl⟩
   rw[←D]at q p;have Lb:=aa D;have i:=aa q;have hW:=aa p;clear q p D
  |refine aV 63 ?_;refine aH rfl fun K T=>bV _ (dH _ _ (by rfl) (0:Int) (by rfl)) (T _ _ ?_);clear T K
   have q:=aa (i.out.after ((aP _ W).alloc bG (.cells #[.int .i64 (0:Int)] 3)));have p:=aa (hW.out.later (((aP _ W).alloc hW.out.size (.cells #[.int .i64 (0:Int)] 3))));have Z:w.heap.size+1+1<W.heap.size:=i.out.size;have hg:=aa (ak W #[.int .i64 (0:Int)] 3 W.heap.size rfl)
  |(with_reducible refine dr.X4 (hd:=100) (o:=0) (x:=100) (y:=0) q.out p.out Lb.out (by decide) rfl rfl hg.out Z ?_);intro W2 z A E L h2)
 refine aae (n:=w.heap.size) (fun u=>?_) (by kernel_rfl);rw[cS4 F hF.out];refine ij ?_
 have Y:A=0→100≤l.length∧aK l 0=100:=fun e=>by
  have:=L.out;rw[e]at this;by_cases ha:100≤l.length
  ·rw[aj ha]at this
   by_cases g:aK l 0=100
   ·exact⟨ha,g⟩
   ·rw[an g]at this;exact absurd this (by decide)
  ·rw[an ha]at this;exact absurd this (by decide)
 have R:∀b,b≠0→b=rl r l→∀C z B f W u,dr w.heap.size gk.toArray C 57 z B l d c f b w W→(tq 9 F).wp prog (bodyPost prog Tryz.f23 fun x P=>(∃X,x= .returned (.tuple #[.agg X.toArray,.int .i64 (rl r l:Int)])∧AK (EX r l) w.heap.size X P)∧Below w.heap.size w P) (Eu w.heap.size u) W:=fun b a he C z B f W u i=>by refine eS9 F hF.out _ _ C z B l d c f b w W u a i fun v J=>⟨⟨gk,by rw[he],?_⟩,J⟩;have e:EX r l=Lk:=an (by rw[←he];exact a);rw[e];exact lW _ _
 by_cases a:A=0
 ·subst a
  obtain⟨U,hO⟩:=Y rfl;have ho:=h2.out rfl;subst ho
  have I:rl r l=mb r (l.drop 100):=by unfold rl;rw[aj U,aj hO]
  refine sG4 r F hF.out _ _ _ _ l d c w _ u _ rfl U hl E.out ?_;intro u M W ⟨i,S⟩;show (tq 8 F).wp prog _ (Eu w.heap.size u) W;rw[cS8 F hF.out];refine ij ?_;refine dS8 F hF.out _ _ _ M _ _ _ l d c _ _ w W u _ (gD.len S) (fun _=>by omega) i ?_ bH;intro u v V Aq h N m;show (tq 9 F).wp prog _ (Eu w.heap.size u) v;by_cases s:mb r (l.drop 100)=0
  ·rw[s]at h
   have e:EX r l=⟨fun j=>l.getD (4+j) 0,xi r (l.drop 100)⟩:=aj (by rw[I];exact s);have O:ae 96 (fun _=> .u8) V=ae 96 (fun _=> .u8) (fun j=>l.getD (4+j) 0):=bU fun k m=>N s k m;rw[O]at h;have G:AK (EX r l) (w.heap.size+3) (M++ae 96 (fun _=> .u8) (fun j=>l.getD (4+j) 0)) v:=by rw[e];exact⟨M,rfl,gD.kp S m bG⟩
   exact gS9 F hF.out _ _ _ _ _ l d c _ w v u (r_.len G) (r_.one G) h fun W9 J m=>⟨⟨_,by rw[I,s];rfl,r_.low (r_.kp G m bG) (by omega)⟩,J⟩
  ·exact R _ s I.symm _ _ _ _ _ _ h
 ·refine sE4 F hF.out _ _ _ _ _ _ _ l d c 0 A w _ u a E.out ?_
  intro u;show (tq 8 F).wp prog _ (Eu w.heap.size u) _;rw[cS8 F hF.out];refine ij ?_;refine dS8 F hF.out _ _ _ dJ _ _ _ l d c _ _ w _ u (fun _=>0) rfl (fun e=>absurd e a) E.out ?_ bH;intro u v V Aq h _ _;refine R A a ?_ _ _ _ _ _ _ h;unfold rl;rw[L.out];by_cases ha:100≤l.length
  ·rw[aj ha,aj ha]
   by_cases g:aK l 0=100
   ·have:=L.out
    rw[aj ha,aj g]at this;exact absurd this a
   ·rw[an g,an g]
  ·rw[an ha,an ha]
def Vq (n:Nat) (a:Value) (u:Nat→Value):Act:={tmps:=#[u 0,u 1,.pointer (some ⟨n,0,none⟩),u 3,.pointer (some ⟨n+1,0,none⟩),a,u 6,u 7,u 8,u 9,u 10,u 11,u 12,u 13,u 14,u 15,u 16,u 17,u 18,u 19,u 20,u 21,u 22,u 23,u 24,u 25,u 26,u 27,u 28,u 29,u 30,u 31,u 32,u 33,u 34,u 35,u 36,u 37,u 38,u 39,u 40,u 41,u 42,u 43],defers:=[]}
def Z_ {a:Code} {n:Nat} {vP:Value} {Q A W} (h:∀u,a.wp prog Q (Vq n vP u) W) (b:A=Vq n vP (fun k=>A.tmps.getD k undef)):a.wp prog Q A W:=by rw[b];exact h _
def Z9 {n:Nat} {a:Value} {Q:Exit→Act→World→Prop} {A:Act} {W:World} (h:∀b,Q .normal (Vq n a b) W) (c:A=Vq n a (fun k=>A.tmps.getD k undef)):Q .normal A W:=by
 have d:=h (fun k=>A.tmps.getD k undef)
 rwa [←c]at d
def lM8 (F) (hF:F=Tryz.f24) (Q n d c g t b k h a B w W u) (I:a.length=2) (H:a.getD 1 []=B) (E:B.length=96) (P:n+2≤b) (s:d.length=368) (D:d9 b (.slice k 2 h) a W) (A:B5 n gk (d++(ae 96 (fun _=> .u8) g++c)) t w W) (C:∀l o,B5 n gk (d++(ae 96 (fun _=> .u8) (fun j=>B.getD j 0)++c)) t w o→Kp (n+2) W o→Q .normal (Vq n (.slice k 2 h) l) o):(pq 8 F).wp prog Q (Vq n (.slice k 2 h) u) W:=by
 have Y:=aa A;have Z:=aa D;have gQ:=aa C;have hB:=aa H;have G:=aa E;have Y1:=aa I;have y:=aa s;clear A C D H E I s;subst hF;simp only[pq,pc,pcAt,headAt,Tryz.f24,reduceIte,Nat.reduceEqDiff,Nat.reduceBEq,dR];unfold Vq;go_wp2
 go_loopw [7] (fun i wr=>∃q:Nat,q≤96∧i= .int .i64 (q:Int)∧B5 n gk (d++(ae 96 (fun _=> .u8) (sI g 0 q fun j=>B.getD j 0)++c)) t w wr∧Kp (n+2) W wr) (fun i _=>96-(intOf i).toNat)
 case atStart=>exact⟨0,by omega,rfl,by rw[xZ];exact Y.out,Kp.refl _ _⟩
 case round=>
  obtain⟨q,O,rfl,f,e⟩:=hrel;have z:=aa f;have T:=aa e;rcases E_ O with m|e0
  ·obtain⟨g0,vb,cb,rfl,V,r⟩:=oO (Z.out.kp e P) (by rw[Y1.out];decide) hB.out
   obtain⟨bq,M,L,rfl,U,N⟩:=Hb r.out (j:=q) (by rw[G.out];exact m);have R:q<B.length:=by rw[G.out];exact m
   clear f e r;have lt:decide ((q:Int)<(96:Int))=true:=by simp;omega
   go_wp2_with (first
    |refine aC 114 ?_;refine ab (by rfl) _ (ai _ 114 39 _ _ rfl cV 1 dv g0 0 2 h rfl .i64 1 rfl (by decide) 1 (by omega)) ?_
    |refine ag 39 ?_;refine dq (v:=(.slice (some ⟨bq,M,none⟩) B.length cb)) V.out bF ?_ rfl rfl rfl rfl
    |refine aC 39 ?_;refine OX rfl rfl R ?_
    |refine ag 5 ?_;refine OW rfl U.out ?_
    |refine al 5 ?_;refine Il (v:= .int .u8 L) z.out.hX (p:=368+q) (by simp only[bM,ac,y.out];omega) GY rfl rfl rfl ?_;intro W8 h1 K;have X:=aa (z.out.rj K h1);have S:=aa (T.out.apart K (by omega)))
   have J:=X.out;rw[Hm y.out m (by rw[N.out])]at J;exact⟨⟨q+1,by omega,by go_num,J,S.out⟩,by simp[intOf];omega⟩
  ·subst e0
   go_wp2;rw[Ho]at f;exact Z9 (fun l=>gQ.out l _ f e) (by kernel_rfl)
def aaj (F) (h:F=Tryz.f24):(Tryz.f24).body=some (.seq (pc 0 Tryz.f24) (.seq (pc 1 Tryz.f24) (.seq (pc 2 Tryz.f24) (.seq (pc 3 Tryz.f24) (.seq (pc 5 Tryz.f24) (.seq (pc 6 Tryz.f24) (tq 8 F))))))):=by
 subst h
 kernel_rfl
def cM8 (F) (h:F=Tryz.f24):tq 8 F= .seq (pq 8 F) (tq 12 F):=by
 subst h
 kernel_rfl
def agn (F) (hF:F=Tryz.f24) (R n m a w d u) (f:a.length=464) (k:∀v∈a,v.oneCell'=true) (g:B5 n gk a 57 w d) (h:∀e,Below n w e→Kp (n+2) d e→R (.returned (.tuple #[.agg a.toArray,.int .i64 0])) e):(tq 12 F).wp prog (bodyPost prog Tryz.f24 R) (Vq n m u) d:=by
 have c:=aa g;have r:=aa h;have b:=aa f;have q:=aa (jP k);clear g h k f;subst hF;simp only[tq,tlAt,headAt,Tryz.f24,reduceIte,Nat.reduceEqDiff,Nat.reduceBEq,dR];unfold Vq
 go_wp2_with (first
  |refine ag 57 ?_;refine ab (by rfl) _ (ay _ 57 _ (by rfl) (n+1) (by rfl) _ _ (0,0) _ c.out.hX uX rfl (by rw[ah pF,cI,b.out])) ?_
  |refine al 57 ?_;refine aH rfl fun K i=>wp_store_row 57 _ _ rfl n rfl _ rfl q.out (by rw[ah pF,cI,b.out]) _ 57 c.out.hR (by show _=a.length;rw[b.out];rfl) (fun l o j=>i _ _ ?_);clear i K)
 have p:Below n w l:=j.below c.out.hB bG (by have:=c.out.hz;omega);exact aI rfl n 0 a _ rfl (aE o) uX rfl (by rw[ah pF,b.out]) rfl (r.out l p ((Kp.refl _ _).apart j (by omega)))
def Oj (l):(fV ri l).getD 0 []=(l.drop (aK l 0)).take (l.length-aK l 0)∧(fV ri l).getD 1 []=(l.drop 4).take 96:=by
 refine⟨?_,?_⟩
 ·rw[fN _ _ _ (by decide)];rfl
 ·rw[fN _ _ _ (by decide)];rfl
def HB (r):xx AK 24 (EX r) (rl r):=fun l va c w A fq=>by
 have hl:=fq.out;obtain⟨g,L⟩:∃g,g=(w.alloc (.cells gk.toArray 57)).alloc (.cells gk.toArray 57):=⟨_,rfl⟩;have Q:=B5.start L;have Al:g.heap.size=w.heap.size+2:=by rw[L];simp
 have O:Below g.heap.size g (g.alloc (.cells (ri.map fun z:Nat=>Value.int .i64 (z:Int)).toArray 3)):=dt;have hS:=aa (Q.later O);have hs:=aa ((A.out.later Q.hB).later O);have hZ:=aa (show et (w.heap.size+1+1) ri (g.alloc (.cells (ri.map fun z:Nat=>Value.int .i64 (z:Int)).toArray 3))from ak _ _ _ _ (by rw[Al]));have J:w.heap.size+2≤(g.alloc (.cells (ri.map fun z:Nat=>Value.int .i64 (z:Int)).toArray 3)).heap.size:=by rw[bn];omega
 obtain⟨s,a⟩:∃s,s=if 100≤l.length then(if aK l 0=100 then 0 else 5)else 4:=⟨_,rfl⟩
 have Lb:=aa a;clear A Q O Al fq;subst L;obtain⟨F,S⟩:∃F,F=Tryz.f24:=⟨_,rfl⟩;refine tf func24 (aaj F S) ?_;have hF:=aa S;clear S;simp only[ntmps24,cI,List.length_cons,List.length_nil,Nat.reduceAdd,Nat.reduceSub,oK,Array.replicate_zero,oG,oJ,List.nil_append,List.cons_append];simp only[pc,pcAt,headAt,Tryz.f24,reduceIte,Nat.reduceEqDiff,Nat.reduceBEq,dR];by_cases y:s=0
 ·have q:100≤l.length∧aK l 0=100:=by
   rw[y]at a;by_cases ha:100≤l.length
   ·rw[aj ha]at a
    by_cases d:aK l 0=100
    ·exact⟨ha,d⟩
    ·rw[an d]at a;exact absurd a (by decide)
   ·rw[an ha]at a;exact absurd a (by decide)
  have f:rl r l=mb r (l.drop 100):=by unfold rl;rw[aj q.1,aj q.2]
  have C:=(Oj l).1;rw[q.2,kL (i:=l.length-100) (by rw[bJ];exact cD _)]at C;clear a;obtain⟨B,E⟩:∃B,B=l.drop 100:=⟨_,rfl⟩;rw[←E]at f C;have xe:=aa (show B.length<4294967296 by rw[E,bJ];omega);have wj:=aa C;have mL:=aa (show EX r l=if mb r B=0 then⟨fun j=>l.getD (4+j) 0,xi r B⟩else Lk by rw[←f,E];rfl);have K':=aa (show 4+96≤l.length from q.1);obtain⟨G,m⟩:∃G,mb r B=G:=⟨_,rfl⟩;rw[m]at f;have M:=aa m;rw[f];clear E C m f q;rcases E' G with h0|h0
  case' inl=>subst h0
  case' inr=>have t8:((G:Int) !=0)=true:=by simp;omega
  all_goals
   go_wp2_with (first
    |refine ao 57 ?_;refine fX 2 uz ?_
    |refine ao 57 ?_;refine fX 4 uz ?_
    |refine aV 63 ?_;refine aH rfl fun K b=>bV _ (sk _ _ (by rfl) (by rfl)) (b _ _ ?_);clear b K
    |refine Ha (zs:=ri) (hd:=100) (o:=0) hs.out hl hZ.out rfl (by decide) (by decide) rfl (by decide) rfl Lb.out (fun W' h=>absurd y h) (fun W3 vz X _ hP d=>?_)
     have k:=aa (hS.out.later d);obtain⟨g0,v0,c0,rfl,fM,A⟩:=oO hP.out (by rw[dO];decide) wj.out
    |refine aC 114 ?_;refine ab (by rfl) _ (ai _ 114 39 _ _ rfl cV 1 dv g0 0 2 X rfl .i64 0 rfl (by decide) 0 (by omega)) ?_
    |refine ag 39 ?_;refine dq (v:=(.slice v0 B.length c0)) fM.out bF ?_ rfl rfl rfl rfl
    |with_reducible refine xx.mJ (AT r) A.out xe.out M.out ?_
     intro Y H p N;have BW:=aa (k.out.later N);have hP4:=aa (hP.out.kp ((Kp.refl (w.heap.size+2) W3).below N bG) J);have YK:=aa (Kp.refl (w.heap.size+2) Y);have hN4:=k.out.hz;clear N
    |refine al 50 ?_;refine yB rfl 50 _ _ rfl 0 rfl H rfl (by rw[ah i7,gD.len p.out];rfl) (gD.one p.out) BW.out [] dJ (ae 96 (fun _=> .u8) (fun _=>0)) rfl rfl (by rw[gD.len p.out];rfl) (fun W5 P V=>?_)
     rw[List.nil_append]at P;have D:=P;have hP5:=aa (hP4.out.kp ((Kp.refl (w.heap.size+2) Y).apart V (by omega)) J);have hk5:=aa (YK.out.apart V (by omega));clear P V
    |refine cZ 57 ?_;refine ab (by rfl) _ (ug _ rfl) ?_
    |refine al 57 ?_;refine aH rfl fun K b=>wp_store_row 57 _ _ rfl w.heap.size rfl _ rfl (jP (r_.one (lW 0 w))) (by rw[ah pF];rfl) _ 57 D.out.hR rfl (fun W9 T U=>b _ _ ?_);clear b K)
  ·have e:EX r l=Lk:=by rw[mL.out,M.out];exact an (by omega)
   rw[e];exact aI rfl w.heap.size 0 gk _ rfl (aE T) uX rfl (by rw[ah pF];rfl) rfl ⟨⟨_,rfl,lW _ _⟩,U.below D.out.hB bG (by have:=D.out.hz;omega)⟩
  ·refine Z_ (n:=w.heap.size) (vP:= .slice (some ⟨g0,0,none⟩) 2 X) (fun u=>?_) (by kernel_rfl)
   rw[cM8 F hF.out];refine ij ?_;have h5:=D.out;rw[←fZ (ae 96 (fun _=> .u8) fun _=>0)]at h5;refine lM8 F hF.out _ _ H [] _ _ _ _ _ _ _ w W5 u (by rw[dO];rfl) (Oj l).2 (by rw[cf,bJ];have:=K'.out;omega) J (gD.len p.out) hP5.out h5 ?_;intro u I W hk6;show (tq 12 F).wp prog _ (Vq w.heap.size _ u) I;rw[fZ]at W;have Z:Kp (w.heap.size+2) Y I:=hk5.out.trans hk6;have e:EX r l=⟨fun j=>l.getD (4+j) 0,xi r B⟩:=by rw[mL.out,M.out];rfl
   rw[show ae 96 (fun _=> .u8) (fun j=>((l.drop 4).take 96).getD j 0)=ae 96 (fun _=> .u8) (fun j=>l.getD (4+j) 0)from bU fun j hj=>bA _ _ _ _ hj]at W;have R:AK (EX r l) (w.heap.size+2) (H++ae 96 (fun _=> .u8) (fun j=>l.getD (4+j) 0)) I:=by rw[e];exact⟨H,rfl,gD.low (gD.kp p.out Z (by omega)) (by omega)⟩
   exact agn F hF.out _ _ _ _ w I u (r_.len R) (r_.one R) W fun W7 hB hk=>⟨⟨_,rfl,r_.low (r_.kp R hk bG) (by omega)⟩,hB⟩
 ·have t9:((s:Int) !=0)=true:=by simp;omega
  have f:rl r l=s:=by
   unfold rl;by_cases ha:100≤l.length
   ·rw[aj ha]at a ⊢
    by_cases d:aK l 0=100
    ·rw[aj d]at a;exact absurd a y
    ·rw[an d]at a ⊢;exact a.symm
   ·rw[an ha]at a ⊢;exact a.symm
  have e:EX r l=Lk:=an (by rw[f];exact y);rw[f,e];clear a f e
  go_wp2_with (first
   |refine ao 57 ?_;refine fX 2 uz ?_
   |refine ao 57 ?_;refine fX 4 uz ?_
   |refine aV 63 ?_;refine aH rfl fun K b=>bV _ (sk _ _ (by rfl) (by rfl)) (b _ _ ?_);clear b K
   |refine Ha (zs:=ri) (hd:=100) (o:=0) hs.out hl hZ.out rfl (by decide) (by decide) rfl (by decide) rfl Lb.out (fun W3 _ d=>?_) (fun W' vz X h=>absurd h y);have k:=aa (hS.out.later d)
   |refine ag 57 ?_;refine ab (by rfl) _ (ay _ 57 _ (by rfl) (w.heap.size+1) (by rfl) _ _ (0,0) _ k.out.hX uX rfl (by rw[ah pF];rfl)) ?_
   |refine al 57 ?_;refine aH rfl fun K b=>wp_store_row 57 _ _ rfl w.heap.size rfl _ rfl (jP (r_.one (lW 0 w))) (by rw[ah pF];rfl) _ 57 k.out.hR rfl (fun W9 T U=>b _ _ ?_);clear b K)
  exact aI rfl w.heap.size 0 gk _ rfl (aE T) uX rfl (by rw[ah pF];rfl) rfl ⟨⟨_,rfl,lW _ _⟩,U.below k.out.hB bG (by have:=k.out.hz;omega)⟩
end Go.Proofs.YtjeoeibdgciafaaGreatDoor
namespace Go.Proofs.YtjeoeibdgciafaaGreatDoor
open Go.ChangeShapes Go.WideShapes Go.ChangeAt Go.RowKit BigFrame
open Go.Proofs.Tryz
def WA {H:Type} {e:TypeId×Value→H} {W d a b N c X} {x:DataW H×List MemPlace} (h:DataW.trod e prog W d a b c 57 X.toList=some x) (g:Rows.uptoBulk x.1≤N) (f:N≤1048576):Hand nD X W:=ZQ h g f
def MB (X) {w} (A:Hand nD X w) (a j m) (f:cY w) (d:cG j m a w) (D:a.length≤1048576):
 Calls prog 5 #[.agg X,.slice j a.length m] w fun e q=>e= .returned (.bool true)∧Below w.heap.size w q:=by
 obtain⟨u,k,rfl,b,o⟩:=A;obtain⟨r,_⟩:=yg;have hL:=ZY r;obtain⟨p,C,B⟩:=hL.any (l:=a) d.row.ok;have n:a.length<4294967296:=by omega
 exact Uo pF k.toArray (hL.len o) (pL nD u k.toArray) (fun _ _ h d=>hL.ru h d) (nD.L u) (hL.ok b) (nD.E u) (nD.G u)
  (fun W h=>nH MV b rfl rfl h) (fun W h=>nH tZ b rfl rfl h) (fun W h f=>uC Kk b h f) (fun W h f=>uC Hz b h f)
  (pL nD (EX r (nD.L u))) (fun _ _ _ h d=>hL.ru h d)
  (fun i s c W hs=>by
    have h:=xM hL.own (AX r) (hL.Es i) hs;rw[hL.wr b i]at h
    exact h)
  (fun i Y W h=>by
    obtain⟨z,y,v⟩:=hL.any (l:=nD.L u) (hL.ok b)
    exact nH tZ z y (v (hL.wr b i)) h)
  a j m w f ⟨k,rfl,o⟩ d (by omega) (rl r a:Int) (nD.L (EX r a)) (hL.ok p) (fun h=>B (by omega))
  (pL nD (EX r a)) (fun _ _ _ h d=>hL.ru h d)
  (fun g c W hs=>xM hL.own (AX r) n hs) (fun s c W hs=>xM hL.own (HB r) n hs) (fun Y W h=>nH tZ p C rfl h)
def LY (w:World):Value.okWideB prog w 57 (.agg (zeroOf prog 57))=true:=uc uX rfl (by kernel_rfl) (by kernel_rfl)
def L4 (b:Os) {H:Type} (a:TypeId×Value→H):(DataW.whole a prog ((iV b).forCall (fun _ _=>0) ⟨#[],#[.agg (zeroOf prog 57),.slice none 0 0],[]⟩).memory Tryz.f5.params.toList Rows.blockSignedSpec.vars false #[Value.agg (zeroOf prog 57),.slice none 0 0].toList 12).isSome=true:=by kernel_rfl
def Qs (b:Os) {H:Type} (a:TypeId×Value→H):Rows.uptoSmall H (((DataW.whole a prog ((iV b).forCall (fun _ _=>0) ⟨#[],#[.agg (zeroOf prog 57),.slice none 0 0],[]⟩).memory Tryz.f5.params.toList Rows.blockSignedSpec.vars false #[Value.agg (zeroOf prog 57),.slice none 0 0].toList 12).getD ([],[],[])).1++((DataW.whole a prog ((iV b).forCall (fun _ _=>0) ⟨#[],#[.agg (zeroOf prog 57),.slice none 0 0],[]⟩).memory Tryz.f5.params.toList Rows.blockSignedSpec.vars false #[Value.agg (zeroOf prog 57),.slice none 0 0].toList 12).getD ([],[],[])).2.1)=true:=by kernel_rfl
def HN (f:Os) (b:f.Started) (H:Type) (a:TypeId×Value→H) (F:Stop.Interp):
 ReturnsInHanded {} Tryz.checked f 5 .any ((Rows.OpenSpec.upto Rows.blockSignedSpec).preRow a prog Tryz.f5 Rows.blockSignedUptoRow.domain false Rows.blockSignedUptoRow.laid) (((Rows.OpenSpec.upto Rows.blockSignedSpec).at F).post a prog Tryz.f5 false true false false):=by
 obtain⟨x,c⟩:=Ny.1 (L4 f a);have J:=Qs f a;rw[c]at J
 refine Su (C:=Tryz.checked) (s:=Rows.OpenSpec.upto Rows.blockSignedSpec) Tryz.own b (by kernel_rfl) func5
  (witness_row_at (enc:=a) (C:=Tryz.checked) false (iV f) #[.agg (zeroOf prog 57),.slice none 0 0] rfl (by kernel_rfl) (by kernel_rfl) (Hh _ _ Tryz.f5 _ _ (LY _) (Hi _) (by kernel_rfl) func5 (by kernel_rfl) Tryz.params5)
    (Sw 12 c rfl (fun k X=>by cases X;exact J) (by kernel_rfl) (Hl f _))) ?_
 intro W h d ds gs i B hW _ Z _ hL _ _;have o:∀(j:Nat) t v,Tryz.f5.params[j]?=some t→d[j]?=some v→Value.okWide prog W .any h t v:=B;have r:=hW;obtain⟨p,q,K,hV,rfl,hfz,hnd⟩:=hW;have L:DataW.TrodAll a prog W 0 (fun _=>true) true Tryz.f5.params.toList d.toList ds p:=K;rw[Tryz.params5]at L o;obtain⟨P,O,M,d1,A,z,rfl,rfl,rfl,h0,h1⟩:=trodAll_two L;obtain⟨rfl,rfl⟩:=trodVars_none hV;obtain⟨u,rfl,_⟩:=okWide_struct uX (o 0 57 P rfl rfl);have D:=o 1 39 O rfl rfl;obtain⟨S,y⟩:=h0;obtain⟨R,w⟩:=h1;obtain⟨m,Q,l,rfl⟩:=okWide_slice bF D;obtain⟨vb,cb,n,V,g,YQ⟩:=wS (v:= .slice m Q l) w D;cases V;have U:DataW.Trod a prog W 0 (fun _=>true) true 57 (.agg u) M A:=⟨S,y⟩;have T:DataW.Trod a prog W 0 (fun _=>true) true 39 (.slice m n.length l) d1 z:=⟨R,w⟩;have E:=rU (Z _ rfl)
 have Y:n.length≤1048576:=by simp only[fZ,Rows.uptoBulkAll]at E YQ;omega
 have hO:=WA (N:=1048576) y (by simp only[fZ,Rows.uptoBulkAll]at E;show Rows.uptoBulk M≤_;omega) bG;clear K B;simp only[fZ]at r;have I:=r.lt;refine(MB u hO n m l (Hk hL) g Y).mono fun e W' ⟨he,g⟩=>?_;subst he;refine⟨_,rfl,qm (pa:=A++z) (pv:=[]) r (fun _ _ _=>trodAll_mk1 (shut_bool GE _)) (fun sp G=>?_) (fun _ _=>rfl) (by simp) g (ok_one (by kernel_rfl) rfl (okWide_bool_mk GE _))⟩
 exact trodAll_mk2 (Fk Tryz.laidOut (by kernel_rfl) (rU (by kernel_rfl)) U (fun x c=>g.same (I x (by simp[c]))) (fun x c=>G x (by simp[c])))
  (Fk Tryz.laidOut (by kernel_rfl) (rU (by kernel_rfl)) T (fun x c=>g.same (I x (by simp[c]))) (fun x c=>G x (by simp[c])))
def L':Rows.BlockSignedUptoSaid:=
 Sz 5 Tryz.f5 rfl rfl rfl rfl rfl rfl rfl ⟨rfl,rfl,rfl,rfl,rfl⟩ rfl rfl rfl rfl rfl (by kernel_rfl) func5 (by kernel_rfl)
  (rU (by kernel_rfl)) (by unfold Func.isWrapper;first|(rw[aj (by decide+kernel)];kernel_rfl)|(rw[an (by decide+kernel)];exact⟨rfl,rfl⟩))
  (fun c a H b _ F=>by rw[Sy];exact HN c a H b F)
def Ko (f:FuncId) (a:Func) (d:Tryz.pinned.checked.prog.funcNamed "pharos/pharoslaw09.BlockSigned" =some f) (b:Tryz.pinned.checked.prog.funcs[f]?=some a):
 false=Tryz.pinned.checked.prog.looks []∧∀(j:Nat) t,a.params[j]?=some t→Tryz.pinned.checked.prog.wantsStandIn t=false:=by
 obtain rfl:f=5:=s5 ((show prog.funcNamed "pharos/pharoslaw09.BlockSigned" =some 5 by kernel_rfl).symm.trans d)|>.symm;obtain rfl:a=Tryz.f5:=(s5 (func5.symm.trans b)).symm;refine⟨by kernel_rfl,fun j t c=>?_⟩;rw[Tryz.params5]at c;have e:t=57∨t=39:=by simpa using SF c
 rcases e with rfl|rfl
 ·exact(show prog.wantsStandIn 57=false by kernel_rfl)
 ·exact(show prog.wantsStandIn 39=false by kernel_rfl)
def cardSigned:Rows.BlockSignedUptoCardSaid:=SB .later [] _ _ _ _ L' (fun _ h=>by cases h) (by kernel_rfl) (fun _ h=>by cases h) blockSignedUpto_row_tie rfl ⟨rfl,rfl⟩ (by kernel_rfl) rfl Ko (by kernel_rfl)
#print axioms cardSigned
end Go.Proofs.YtjeoeibdgciafaaGreatDoor
