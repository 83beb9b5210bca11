/- Steps of the proof. -/
import Derived.Test.YtjeoeibdgciafaaGreatDoorM17
set_option linter.all false
set_option maxRecDepth 100000
set_option maxHeartbeats 16000000
namespace Go.Proofs.YtjeoeibdgciafaaGreatDoor
open Go.RowKit BigFrame
open Go.Proofs.Tryz
def Up (tn:rowB prog 50 368=true) (X:Array Value) (Iu:X.size=368) (C:World→Prop) (XO:∀o u,C o→Below o.heap.size o u→C u) (p:List Int) (AH:∀m∈p,CK.ok .u8 m) (y:Int) (E:Nat→Int) (AI:∀W,C W→Calls prog 13 #[.agg X] W fun e f=>(∃i c,e= .returned (.tuple #[.slice i p.length c,.int .i64 y])∧(i=none→c=0)∧bc W.heap.size (.slice i p.length c) p f)∧Below W.heap.size W f) (tC:∀W,C W→Calls prog 15 #[.agg X] W fun e f=>(∃i c,e= .returned (.tuple #[.slice i p.length c,.int .i64 y])∧(i=none→c=0)∧bc W.heap.size (.slice i p.length c) p f)∧Below W.heap.size W f) (tB:∀W,C W→cY W→Calls prog 14 #[.agg X] W fun e f=>e= .returned (.tuple #[.agg (ax E),.int .i64 y])∧Below W.heap.size W f) (pO:∀W,C W→cY W→Calls prog 16 #[.agg X] W fun e f=>e= .returned (.tuple #[.agg (ax E),.int .i64 y])∧Below W.heap.size W f) (S:Array Value→World→Prop) (IB:∀Y o u,S Y o→Below o.heap.size o u→S Y u) (to:y=0→∀i c W,cG i c p W→Calls prog 17 #[.slice i p.length c] W fun e f=>(∃Y:Array Value,e= .returned (.tuple #[.agg Y,.int .i64 0])∧Y.size=368∧Y.all (·.oneCell')=true∧S Y f)∧Below W.heap.size W f) (oP:y=0→∀Y W,S Y W→Calls prog 15 #[.agg Y] W fun e f=>(∃i c,e= .returned (.tuple #[.slice i p.length c,.int .i64 0])∧(i=none→c=0)∧bc W.heap.size (.slice i p.length c) p f)∧Below W.heap.size W f) (j:List Int) (T:Option Addr) (cb:Nat) (w) (hT:cY w) (vC:C w) (fM:cG T cb j w) (cW:j.length≤70368744170000) (H:Int) (U:List Int) (AG:∀m∈U,CK.ok .u8 m) (D:H=0→U=j) (J:Array Value→World→Prop) (IA:∀Y o u,J Y o→Below o.heap.size o u→J Y u) (Iw:∀g c W,cG (some ⟨g,0,none⟩) c j W→Calls prog 17 #[.slice (some ⟨g,0,none⟩) j.length c] W fun e f=>(∃Y:Array Value,e= .returned (.tuple #[.agg Y,.int .i64 H])∧Y.size=368∧Y.all (·.oneCell')=true∧J Y f)∧Below W.heap.size W f) (Iy:∀i c W,cG i c j W→Calls prog 18 #[.slice i j.length c] W fun e f=>(∃Y:Array Value,e= .returned (.tuple #[.agg Y,.int .i64 H])∧Y.size=368∧Y.all (·.oneCell')=true∧J Y f)∧Below W.heap.size W f) (tD:∀Y W,J Y W→Calls prog 15 #[.agg Y] W fun e f=>(∃i c,e= .returned (.tuple #[.slice i U.length c,.int .i64 0])∧(i=none→c=0)∧bc W.heap.size (.slice i U.length c) U f)∧Below W.heap.size W f):
 Calls prog 4 #[.agg X,.slice T j.length cb] w fun e f=>e= .returned (.bool true)∧Below w.heap.size w f:=by
 have a:=aa ((rp.start hT).ld fM rfl|>.wz vC XO);have F:=aa tn;have hXs:=aa Iu;have Cm:=aa AH;have Sa:=aa AI;have Jd:=aa tC;have Jc:=aa tB;have CO:=aa pO;have O:=aa AG;have XK:=aa Iw;have hRB:=aa Iy;have P:=aa tD;have hHA:=aa IB;have RD:=aa IA;have G:=aa (ah tn);clear tn Iu AH AI tC tB pO AG Iw Iy tD vC fM hT XO IB IA;have rc:IntKind.i64.wrap ((j.length:Int)+1)=((j.length+1:Nat):Int):=by rw[bP];omega
 go_enter func4,ntmps4
 rcases tg (y=0)with L|L<;>rcases tg (H=0)with M|M<;>
 (first
   |subst L
    have R_:=aa (to rfl);have Je:=aa (oP rfl);clear to oP
   |have jV:(y==0)=false:=by simp[L]
    have ku:(y !=0)=true:=by simp[L]
    clear to oP
  first
   |subst M
    have e:=(D rfl).symm;subst e;clear D
   |have En:(H==0)=false:=by simp[M]
    have VJ:(H !=0)=true:=by simp[M]
    clear D
  go_wp2_with (first
   |(with_reducible refine fo 50 ?_);refine bW rfl 50 _ rfl _ rfl ?_
    have b:=a.out.s4 X 50;refine bZ _ b ?_;clear a b;intro W b;have a:=aa b;clear b
   |with_reducible refine(wT _).mono ?_
    rintro e W ⟨rfl,d⟩;have b:=a.out.later d;clear d;replace a:=aa b;clear b
   |(with_reducible refine ag 50 ?_);refine ab (by rfl) _ (ay _ 50 _ (by rfl) _ rfl _ _ (0,0) _ (a.out.bx 0 rfl) pn rfl (by rw[G.out,hXs.out])) ?_
   |(with_reducible refine ag 50 ?_);refine ab (by rfl) _ (ay _ 50 _ (by rfl) _ rfl _ _ (0,0) _ (a.out.bx 3 rfl) pn rfl (by rw[G.out,Z.out])) ?_
   |(with_reducible refine ag 50 ?_);refine ab (by rfl) _ (ay _ 50 _ (by rfl) _ rfl _ _ (0,0) _ (a.out.bx 4 rfl) pn rfl (by rw[G.out,I.out])) ?_
   |(with_reducible refine ag 50 ?_);refine ab (by rfl) _ (ay _ 50 _ (by rfl) _ rfl _ _ (0,0) _ (a.out.bx 5 rfl) pn rfl (by rw[G.out,N.out])) ?_
   |(with_reducible refine ag 25 ?_);refine ab (by rfl) _ (ay _ 25 _ (by rfl) _ rfl _ _ (0,0) _ (a.out.bx 1 rfl) cH rfl (by rw[ah am];simp[ae])) ?_
   |(with_reducible refine ag 25 ?_);refine ab (by rfl) _ (ay _ 25 _ (by rfl) _ rfl _ _ (0,0) _ (a.out.bx 2 rfl) cH rfl (by rw[ah am];simp[ae])) ?_
   |with_reducible refine(Sa.out _ (a.out.get 0 rfl)).mono ?_
    rintro e W ⟨⟨z,A,rfl,n,l⟩,d⟩;have b:=(a.out.later d).ld (cG.b_ l Cm.out n) rfl;clear n l d;replace a:=aa b;clear b
   |with_reducible refine(Jd.out _ (a.out.get 0 rfl)).mono ?_
    rintro e W ⟨⟨z,A,rfl,n,l⟩,d⟩;have b:=(a.out.later d).ld (cG.b_ l Cm.out n) rfl;clear n l d;replace a:=aa b;clear b
   |with_reducible refine(Je.out R _ (a.out.get 1 rfl)).mono ?_
    rintro e W ⟨⟨z,A,rfl,n,l⟩,d⟩;have b:=(a.out.later d).ld (cG.b_ l Cm.out n) rfl;clear n l d;replace a:=aa b;clear b
   |with_reducible refine(P.out B _ (a.out.get 2 rfl)).mono ?_
    rintro e W ⟨⟨z,A,rfl,n,l⟩,d⟩;have b:=(a.out.later d).ld (cG.b_ l O.out n) rfl;clear n l d;replace a:=aa b;clear b
   |with_reducible refine(P.out YC _ (a.out.get 3 rfl)).mono ?_
    rintro e W ⟨⟨z,A,rfl,n,l⟩,d⟩;have b:=(a.out.later d).ld (cG.b_ l O.out n) rfl;clear n l d;replace a:=aa b;clear b
   |with_reducible refine(Jc.out _ (a.out.get 0 rfl) a.out.hT).mono ?_
    rintro e W ⟨rfl,d⟩;have b:=a.out.later d;clear d;replace a:=aa b;clear b
   |with_reducible refine(CO.out _ (a.out.get 0 rfl) a.out.hT).mono ?_
    rintro e W ⟨rfl,d⟩;have b:=a.out.later d;clear d;replace a:=aa b;clear b
   |(with_reducible refine ao 25 ?_);refine aw rfl rfl 25 _ _ rfl rfl rfl (ax E) rfl rfl (zeroOf prog 25) (aG am).1 (aG am).2 (aA _ _ _) ?_
    have b:=a.out.s4 (ax E) 25;refine bZ _ b ?_;clear a b;intro W b;have a:=aa b;clear b
   |(with_reducible refine ao 50 ?_);refine aw rfl rfl 50 _ _ rfl rfl rfl R rfl rfl (zeroOf prog 50) (by rw[Z.out];exact(aG F.out).1) (by rw[Z.out];exact(aG F.out).2) R7.out ?_
    have b:=a.out.s4 R 50;refine bZ _ b ?_;clear a b;intro W b;have a:=aa b;clear b
   |(with_reducible refine ao 50 ?_);refine aw rfl rfl 50 _ _ rfl rfl rfl B rfl rfl (zeroOf prog 50) (by rw[I.out];exact(aG F.out).1) (by rw[I.out];exact(aG F.out).2) It.out ?_
    have b:=a.out.s4 B 50;refine bZ _ b ?_;clear a b;intro W b;have a:=aa b;clear b
   |(with_reducible refine ao 50 ?_);refine aw rfl rfl 50 _ _ rfl rfl rfl YC rfl rfl (zeroOf prog 50) (by rw[N.out];exact(aG F.out).1) (by rw[N.out];exact(aG F.out).2) R6.out ?_
    have b:=a.out.s4 YC 50;refine bZ _ b ?_;clear a b;intro W b;have a:=aa b;clear b
   |with_reducible refine(R_.out _ _ _ (a.out.sl 1 rfl)).mono ?_
    rintro e W ⟨⟨R,rfl,q,r,s⟩,d⟩;have Z:=aa q;have R7:=aa r;have b:=(a.out.later d).wz s (hHA.out R);clear d q r s;replace a:=aa b;clear b
   |with_reducible refine(XK.out _ _ _ (a.out.sl 4 rfl)).mono ?_
    rintro e W ⟨⟨B,rfl,q,r,s⟩,d⟩;have I:=aa q;have It:=aa r;have b:=(a.out.later d).wz s (RD.out B);clear d q r s;replace a:=aa b;clear b
   |with_reducible refine(hRB.out _ _ _ (a.out.sl 0 rfl)).mono ?_
    rintro e W ⟨⟨YC,rfl,q,r,s⟩,d⟩;have N:=aa q;have R6:=aa r;have b:=(a.out.later d).wz s (RD.out YC);clear d q r s;replace a:=aa b;clear b
   |(with_reducible refine fm 39 9 ?_);refine ab (by rfl) _ (dW _ rfl a.out.toLaw 1 rfl rfl) ?_
   |(with_reducible refine fm 39 9 ?_);refine ab (by rfl) _ (dW _ rfl a.out.toLaw 2 rfl rfl) ?_
   |(with_reducible refine fm 39 9 ?_);refine ab (by rfl) _ (dW _ rfl a.out.toLaw 3 rfl rfl) ?_
   |(with_reducible refine fm 39 9 ?_);refine ab (by rfl) _ (dW _ rfl a.out.toLaw 6 rfl rfl) ?_
   |(with_reducible refine fm 39 9 ?_);refine ab (by rfl) _ (dW _ rfl a.out.toLaw 7 rfl rfl) ?_
   |(with_reducible refine fm 39 9 ?_);refine ab (by rfl) _ (dW _ rfl a.out.toLaw 4 rfl rfl) ?_
   |(with_reducible refine fm 39 9 ?_);refine ab (by rfl) _ (dW _ rfl a.out.toLaw 0 rfl rfl) ?_
   |(with_reducible refine LU .neq 25 ?_);refine ab (by rfl) _ (rK _ _ _ rfl E E false rfl rfl (rN _)) ?_
   |(with_reducible refine aV 39 ?_);refine aH rfl fun K hK=>d' rfl (hK _ _ ?_);clear hK K
   |(with_reducible refine dy 39 ?_);refine cB (w0:=W) rfl _ _ rfl W.heap.size [] j _ rfl (bc.new bG [] (by decide) (ak _ _ _ _ rfl)) T cb rfl ((a.out.sl 0 rfl).row.later dt) (by simp;omega) (by simp) (a.out.sl 0 rfl).nil dt (fun v1 o Q b1 z1=>?_)
    rw[List.nil_append]at Q;obtain⟨z,A,e1,_⟩:=aW Q;subst e1;have fR:=aa Q;have d:=aa b1;clear Q b1
   |(with_reducible refine dy 39 ?_);refine cB (w0:=W) rfl _ _ rfl W.heap.size j [7] _ rfl (fR.out.later dt) (some ⟨o.heap.size,0,none⟩) 1 rfl (row_one _ _ 7 _ (ak _ _ _ _ rfl) rfl ⟨by decide,by decide⟩) (by simp;omega) (by rw[bn];omega) (fun h=>by cases h) (d.out.alloc z1 _) (fun v2 u h2 b2 z2=>?_)
    obtain⟨g,c2,e2,Nr,V⟩:=cG.Y9 h2 (a.out.sl 0 rfl).row.ok ⟨by decide,by decide⟩;subst e2;have b:=((a.out.later b2).ld V.pre rfl).ld (k:=j.length+1) V (by simp);clear h2 b2 z2 V fR d z1;obtain⟨W,mM⟩:∃W,W=u:=⟨_,rfl⟩;subst mM;replace a:=aa b;clear b
   |(with_reducible refine fj 39 ?_);refine ab (by rfl) _ (dl _ 39 5 _ _ rfl bF 1 cR g 0 (j.length+1) c2 j.length rfl rfl (by omega)) ?_
   |(with_reducible refine fj 39 ?_);refine ab (by rfl) _ (dl _ 39 5 _ _ rfl bF 1 cR g 0 j.length c2 (j.length+1) rfl rfl (by omega)) ?_
   |(with_reducible refine aC 39 ?_);refine ab (by rfl) _ (ai _ 39 5 _ _ rfl bF 1 cR g 0 (j.length+1) c2 rfl .i64 j.length rfl (by omega) j.length (by omega)) ?_
   |(with_reducible refine ag 5 ?_);refine dq (v:=(.int .u8 7)) (a.out.sl 5 rfl).last sE ?_ rfl rfl rfl rfl
   |(with_reducible refine ag 50 ?_);refine ab (by rfl) _ (ay _ 50 _ (by rfl) _ rfl _ _ (0,0) _ (a.out.bx 3 rfl) pn rfl (by rw[G.out,I.out])) ?_
   |(with_reducible refine ag 50 ?_);refine ab (by rfl) _ (ay _ 50 _ (by rfl) _ rfl _ _ (0,0) _ (a.out.bx 4 rfl) pn rfl (by rw[G.out,N.out])) ?_
   |with_reducible refine(P.out B _ (a.out.get 1 rfl)).mono ?_
    rintro e W ⟨⟨z,A,rfl,n,l⟩,d⟩;have b:=(a.out.later d).ld (cG.b_ l O.out n) rfl;clear n l d;replace a:=aa b;clear b
   |with_reducible refine(P.out YC _ (a.out.get 2 rfl)).mono ?_
    rintro e W ⟨⟨z,A,rfl,n,l⟩,d⟩;have b:=(a.out.later d).ld (cG.b_ l O.out n) rfl;clear n l d;replace a:=aa b;clear b
   |with_reducible refine(XK.out _ _ _ (a.out.sl 3 rfl)).mono ?_
    rintro e W ⟨⟨B,rfl,q,r,s⟩,d⟩;have I:=aa q;have It:=aa r;have b:=(a.out.later d).wz s (RD.out B);clear d q r s;replace a:=aa b;clear b
   |(with_reducible refine fm 39 9 ?_);refine ab (by rfl) _ (dW _ rfl a.out.toLaw 5 rfl rfl) ?_
   |(with_reducible refine ag 5 ?_);refine dq (v:=(.int .u8 7)) (a.out.sl 4 rfl).last sE ?_ rfl rfl rfl rfl)
  exact cA rfl _ rfl rfl ⟨rfl,a.out.hB⟩)
end Go.Proofs.YtjeoeibdgciafaaGreatDoor
namespace Go.Proofs.YtjeoeibdgciafaaGreatDoor
open Go.ChangeShapes Go.WideShapes Go.ChangeAt Go.RowKit BigFrame
open Go.Proofs.Tryz
def WB {H:Type} {e:TypeId×Value→H} {W d a b N c X} {x:DataW H×List MemPlace} (h:DataW.trod e prog W d a b c 50 X.toList=some x) (g:Rows.uptoBulk x.1≤N) (f:N≤1048576):Hand iz X W:=ZS h g f
def MC (X) {w} (A:Hand iz X w) (a j m) (f:cY w) (d:cG j m a w) (D:a.length≤1048576):
 Calls prog 4 #[.agg X,.slice j a.length m] w fun e q=>e= .returned (.bool true)∧Below w.heap.size w q:=by
 obtain⟨u,k,rfl,b,o⟩:=A;obtain⟨r,_⟩:=yg;have hL:=Z1 r;obtain⟨p,C,B⟩:=hL.any (l:=a) d.row.ok;have n:a.length<4294967296:=by omega
 exact Up i7 k.toArray (hL.len o) (pL iz u k.toArray) (fun _ _ h d=>hL.ru h d) (iz.L u) (hL.ok b) (iz.E u) (iz.G u)
  (fun W h=>nH zX b rfl rfl h) (fun W h=>nH o8 b rfl rfl h) (fun W h f=>uC Ds b h f) (fun W h f=>uC AS b h f)
  (pL iz (xi r (iz.L u))) (fun _ _ _ h d=>hL.ru h d)
  (fun i s c W hs=>by
    have h:=xM hL.own (rD r) (hL.Es i) hs;rw[hL.wr b i]at h
    exact h)
  (fun i Y W h=>by
    obtain⟨z,y,v⟩:=hL.any (l:=iz.L u) (hL.ok b)
    exact nH o8 z y (v (hL.wr b i)) h)
  a j m w f ⟨k,rfl,o⟩ d (by omega) (mb r a:Int) (iz.L (xi r a)) (hL.ok p) (fun h=>B (by omega))
  (pL iz (xi r a)) (fun _ _ _ h d=>hL.ru h d)
  (fun g c W hs=>xM hL.own (rD r) n hs) (fun s c W hs=>xM hL.own (AT r) n hs) (fun Y W h=>nH o8 p C rfl h)
end Go.Proofs.YtjeoeibdgciafaaGreatDoor
