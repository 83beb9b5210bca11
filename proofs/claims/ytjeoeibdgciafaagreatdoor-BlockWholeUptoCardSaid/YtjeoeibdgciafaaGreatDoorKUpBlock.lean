/- The law pharoslaw09.BlockWhole, where what comes in is of bulk at most 1048576: it answers true, and what was handed in stays. The card says it of the program's text. -/
import Derived.Test.YtjeoeibdgciafaaGreatDoorM19
set_option linter.all false
set_option maxRecDepth 100000
set_option maxHeartbeats 16000000
namespace Go.Proofs.YtjeoeibdgciafaaGreatDoor
open Go.ChangeShapes Go.WideShapes Go.ChangeAt Go.RowKit BigFrame
open Go.Proofs.Tryz
def Pu (w:World):Value.okWideB prog w 50 (.agg (zeroOf prog 50))=true:=uc pn rfl (by kernel_rfl) (by kernel_rfl)
def PH (b:Os) {H:Type} (a:TypeId×Value→H):(DataW.whole a prog ((iV b).forCall (fun _ _=>0) ⟨#[],#[.agg (zeroOf prog 50),.slice none 0 0],[]⟩).memory Tryz.f4.params.toList Rows.blockWholeSpec.vars false #[Value.agg (zeroOf prog 50),.slice none 0 0].toList 12).isSome=true:=by kernel_rfl
def UG (b:Os) {H:Type} (a:TypeId×Value→H):Rows.uptoSmall H (((DataW.whole a prog ((iV b).forCall (fun _ _=>0) ⟨#[],#[.agg (zeroOf prog 50),.slice none 0 0],[]⟩).memory Tryz.f4.params.toList Rows.blockWholeSpec.vars false #[Value.agg (zeroOf prog 50),.slice none 0 0].toList 12).getD ([],[],[])).1++((DataW.whole a prog ((iV b).forCall (fun _ _=>0) ⟨#[],#[.agg (zeroOf prog 50),.slice none 0 0],[]⟩).memory Tryz.f4.params.toList Rows.blockWholeSpec.vars false #[Value.agg (zeroOf prog 50),.slice none 0 0].toList 12).getD ([],[],[])).2.1)=true:=by kernel_rfl
def Ku (f:Os) (b:f.Started) (H:Type) (a:TypeId×Value→H) (F:Stop.Interp):
 ReturnsInHanded {} Tryz.checked f 4 .any ((Rows.OpenSpec.upto Rows.blockWholeSpec).preRow a prog Tryz.f4 Rows.blockWholeUptoRow.domain false Rows.blockWholeUptoRow.laid) (((Rows.OpenSpec.upto Rows.blockWholeSpec).at F).post a prog Tryz.f4 false true false false):=by
 obtain⟨x,c⟩:=Ny.1 (PH f a);have J:=UG f a;rw[c]at J
 refine Su (C:=Tryz.checked) (s:=Rows.OpenSpec.upto Rows.blockWholeSpec) Tryz.own b (by kernel_rfl) func4
  (witness_row_at (enc:=a) (C:=Tryz.checked) false (iV f) #[.agg (zeroOf prog 50),.slice none 0 0] rfl (by kernel_rfl) (by kernel_rfl) (Hh _ _ Tryz.f4 _ _ (Pu _) (Hi _) (by kernel_rfl) func4 (by kernel_rfl) Tryz.params4)
    (Sw 12 c rfl (fun k X=>by cases X;exact J) (by kernel_rfl) (Hl f _))) ?_
 intro W h d ds gs i B hW _ Z _ hL _ _;have o:∀(j:Nat) t v,Tryz.f4.params[j]?=some t→d[j]?=some v→Value.okWide prog W .any h t v:=B;have r:=hW;obtain⟨p,q,K,hV,rfl,hfz,hnd⟩:=hW;have L:DataW.TrodAll a prog W 0 (fun _=>true) true Tryz.f4.params.toList d.toList ds p:=K;rw[Tryz.params4]at L o;obtain⟨P,O,M,d1,A,z,rfl,rfl,rfl,h0,h1⟩:=trodAll_two L;obtain⟨rfl,rfl⟩:=trodVars_none hV;obtain⟨u,rfl,_⟩:=okWide_struct pn (o 0 50 P rfl rfl);have D:=o 1 39 O rfl rfl;obtain⟨S,y⟩:=h0;obtain⟨R,w⟩:=h1;obtain⟨m,Q,l,rfl⟩:=okWide_slice bF D;obtain⟨vb,cb,n,V,g,YQ⟩:=wS (v:= .slice m Q l) w D;cases V;have U:DataW.Trod a prog W 0 (fun _=>true) true 50 (.agg u) M A:=⟨S,y⟩;have T:DataW.Trod a prog W 0 (fun _=>true) true 39 (.slice m n.length l) d1 z:=⟨R,w⟩;have E:=rU (Z _ rfl)
 have Y:n.length≤1048576:=by simp only[fZ,Rows.uptoBulkAll]at E YQ;omega
 have hO:=WB (N:=1048576) y (by simp only[fZ,Rows.uptoBulkAll]at E;show Rows.uptoBulk M≤_;omega) bG;clear K B;simp only[fZ]at r;have I:=r.lt;refine(MC u hO n m l (Hk hL) g Y).mono fun e W' ⟨he,g⟩=>?_;subst he;refine⟨_,rfl,qm (pa:=A++z) (pv:=[]) r (fun _ _ _=>trodAll_mk1 (shut_bool GE _)) (fun sp G=>?_) (fun _ _=>rfl) (by simp) g (ok_one (by kernel_rfl) rfl (okWide_bool_mk GE _))⟩
 exact trodAll_mk2 (Fk Tryz.laidOut (by kernel_rfl) (rU (by kernel_rfl)) U (fun x c=>g.same (I x (by simp[c]))) (fun x c=>G x (by simp[c])))
  (Fk Tryz.laidOut (by kernel_rfl) (rU (by kernel_rfl)) T (fun x c=>g.same (I x (by simp[c]))) (fun x c=>G x (by simp[c])))
def PM:Rows.BlockWholeUptoSaid:=
 Sz 4 Tryz.f4 rfl rfl rfl rfl rfl rfl rfl ⟨rfl,rfl,rfl,rfl,rfl⟩ rfl rfl rfl rfl rfl (by kernel_rfl) func4 (by kernel_rfl)
  (rU (by kernel_rfl)) (by unfold Func.isWrapper;first|(rw[aj (by decide+kernel)];kernel_rfl)|(rw[an (by decide+kernel)];exact⟨rfl,rfl⟩))
  (fun c a H b _ F=>by rw[Sy];exact Ku c a H b F)
def Ms (f:FuncId) (a:Func) (d:Tryz.pinned.checked.prog.funcNamed "pharos/pharoslaw09.BlockWhole" =some f) (b:Tryz.pinned.checked.prog.funcs[f]?=some a):
 false=Tryz.pinned.checked.prog.looks []∧∀(j:Nat) t,a.params[j]?=some t→Tryz.pinned.checked.prog.wantsStandIn t=false:=by
 obtain rfl:f=4:=s5 ((show prog.funcNamed "pharos/pharoslaw09.BlockWhole" =some 4 by kernel_rfl).symm.trans d)|>.symm;obtain rfl:a=Tryz.f4:=(s5 (func4.symm.trans b)).symm;refine⟨by kernel_rfl,fun j t c=>?_⟩;rw[Tryz.params4]at c;have e:t=50∨t=39:=by simpa using SF c
 rcases e with rfl|rfl
 ·exact(show prog.wantsStandIn 50=false by kernel_rfl)
 ·exact(show prog.wantsStandIn 39=false by kernel_rfl)
def cardBlock:Rows.BlockWholeUptoCardSaid:=SB .later [] _ _ _ _ PM (fun _ h=>by cases h) (by kernel_rfl) (fun _ h=>by cases h) blockWholeUpto_row_tie rfl ⟨rfl,rfl⟩ (by kernel_rfl) rfl Ms (by kernel_rfl)
#print axioms cardBlock
end Go.Proofs.YtjeoeibdgciafaaGreatDoor
