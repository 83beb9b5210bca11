/- Steps of the proof. -/
import Derived.Test.YtjeoeibdgciafaaGreatDoorM11
set_option linter.all false
set_option maxRecDepth 100000
set_option maxHeartbeats 16000000
namespace Go.Proofs.YtjeoeibdgciafaaGreatDoor
open Go.RowKit BigFrame
open Go.Proofs.Tryz
def Rk (q:Nat):List Nat:=(List.range q).map (4* ·)
def Q9 (ps:List (List Int)) (q:Nat):List Nat:=(List.range q).map fun i=>(ps.take i).flatten.length
def UC (q):Rk q++[4*q]=Rk (q+1):=by simp[Rk,s7]
def UI (ps q):Q9 ps q++[(ps.take q).flatten.length]=Q9 ps (q+1):=by simp[Q9,s7]
def mV (q):(Rk q).length=q:=by simp[Rk]
def DT (ps q):(Q9 ps q).length=q:=by simp[Q9]
def ach (A B n):putK (A++([0,0,0,0]++B)) A.length n 4=A++(jB n++B):=by
 induction A with
 |nil=>rfl
 |cons a A c=>
  have e:∀k,putK (a::(A++([0,0,0,0]++B))) (A.length+1) n k=a::putK (A++([0,0,0,0]++B)) A.length n k:=by
   intro k
   induction k with
   |zero=>rfl
   |succ k b=>simp only[putK];rw[b,show A.length+1+k=(A.length+k)+1 by omega,List.set_cons_succ]
  rw[List.cons_append,List.length_cons,e 4,c];rfl
def mR (ps:List (List Int)) (H n:Nat):∀k,k≤n→(layK H (List.replicate n 0) ps k).2=((List.range k).map fun i=>ps.getD i []).flatten∧(layK H (List.replicate n 0) ps k).1.length=4*k
 |0,_=>⟨rfl,rfl⟩
 |k+1,h=>by
  obtain⟨c,b⟩:=mR ps H n k (by omega);have a:(List.replicate n 0).getD k 0=0:=by simp[List.getD,show k<n by omega]
  simp only[layK,aj a];rw[bM,c,b,cC,s7,kN,Sq];exact⟨by simp,by omega⟩
def tJ (ps:List (List Int)) (k) (h:k≤ps.length):((List.range k).map fun i=>ps.getD i [])=ps.take k:=yK (d:=[]) (ps.take k) _ (by simp;omega) fun i a=>by simp[List.getD,Aw,a]
def A0 (ps:List (List Int)):∀k,k≤ps.length→gZ (List.replicate (4*ps.length) 0) (Rk ps.length) (Q9 ps ps.length) k=(layK (4*ps.length) (List.replicate ps.length 0) ps k).1++List.replicate (4*(ps.length-k)) 0
 |0,_=>by simp[gZ,layK]
 |k+1,h=>by
  have a:=A0 ps k (by omega);obtain⟨d,c⟩:=mR ps (4*ps.length) ps.length k (by omega);have b:(List.replicate ps.length 0).getD k 0=0:=by simp[List.getD,show k<ps.length by omega]
  simp only[gZ,layK,aj b];rw[a];have g:(Rk ps.length).getD k 0=4*k:=by simp[Rk,List.getD,show k<ps.length by omega]
  have f:(Q9 ps ps.length).getD k 0=(ps.take k).flatten.length:=by simp[Q9,List.getD,show k<ps.length by omega]
  have e:List.replicate (4*(ps.length-k)) (0:Int)=[0,0,0,0]++List.replicate (4*(ps.length-(k+1))) 0:=by rw[show 4*(ps.length-k)=4+4*(ps.length-(k+1)) by omega,←XU];rfl
  rw[g,f,e,←c,ach,d,tJ _ _ (by omega),dA];simp
def QI (ps):oN (List.replicate (4*ps.length) 0) ps.flatten (Rk ps.length) (Q9 ps ps.length)=lZ ps:=by unfold oN lZ eS;rw[mV,A0 ps ps.length bG,Ar,mS,vK,(mR ps _ _ ps.length bG).1,tJ _ _ bG,gC];simp
section
variable (zs:List Nat) (ps:List (List Int))
def rawA:Nat→List Int
 |0=>[]
 |k+1=>rawA k++(if zs.getD k 0=0 then[0,0,0,0]else ps.getD k [])
def BF:Nat→List Nat
 |0=>[]
 |k+1=>if zs.getD k 0=0 then BF k++[(layK 0 zs ps k).2.length]else BF k
end
section
variable {zs:List Nat} {ps:List (List Int)}
theorem yo (H:Nat):∀k,(layK H zs ps k).2=(layK 0 zs ps k).2
 |0=>rfl
 |k+1=>by
  simp only[layK];split
  ·simp only[yo H k]
  ·exact yo H k
theorem mZ:∀k,(BF zs ps k).length=(cutA zs k).length
 |0=>rfl
 |k+1=>by
  simp only[BF,cutA];split
  ·simp[mZ k]
  ·exact mZ k
theorem OM (k:Nat):∀n,k≤n→∃t,BF zs ps n=BF zs ps k++t
 |0,c=>by
  obtain rfl:k=0:=by omega
  exact⟨[],by simp⟩
 |n+1,c=>by
  rcases oD n k with b|b
  ·obtain rfl:k=n+1:=by omega
   exact⟨[],by simp⟩
  ·obtain⟨t,a⟩:=OM k n b
   simp only[BF];split
   ·exact⟨t++_,by rw[a,dA]⟩
   ·exact⟨t,a⟩
theorem nv (h:Fits zs ps):∀k,k≤zs.length→(rawA zs ps k).length=headN (zs.take k)
 |0,_=>by simp[rawA,headN]
 |k+1,b=>by
  rw[lF zs k (by omega),rawA,bM,nv h k (by omega)];by_cases a:zs.getD k 0=0
  ·rw[aj a,aj a];rfl
  ·rw[an a,an a,h.2 k (by omega) a]
theorem CU (k:Nat):∀n,k≤n→∃t,rawA zs ps n=rawA zs ps k++t
 |0,c=>by
  obtain rfl:k=0:=by omega
  exact⟨[],by simp⟩
 |n+1,c=>by
  rcases oD n k with a|a
  ·obtain rfl:k=n+1:=by omega
   exact⟨[],by simp⟩
  ·obtain⟨t,b⟩:=CU k n a
   exact⟨t++_,by rw[rawA,b,dA]⟩
theorem Gb {t u x}:(t++[x]++u).getD t.length 0=x:=by simp[List.getD]
theorem FQ (h:Fits zs ps):∀k,k≤zs.length→∃T,rawA zs ps zs.length=rawA zs ps k++T∧gZ (rawA zs ps zs.length) (cutA zs zs.length) (BF zs ps zs.length) (cutA zs k).length=(layK (headN zs) zs ps k).1++T
 |0,_=>⟨rawA zs ps zs.length,by simp[rawA],by simp[cutA,gZ,layK]⟩
 |k+1,d=>by
  obtain⟨T,m,f⟩:=FQ h k (by omega);obtain⟨g,e⟩:=CU (zs:=zs) (ps:=ps) (k+1) zs.length d;refine⟨g,e,?_⟩
  have b:T=(if zs.getD k 0=0 then[0,0,0,0]else ps.getD k [])++g:=by rw[m,rawA,dA]at e;exact List.append_cancel_left e
  have l:(rawA zs ps zs.length).length=headN zs:=by rw[nv h _ bG,gC]
  have hF:=om (H:=headN zs) h k (by omega);by_cases a:zs.getD k 0=0
  ·rw[aj a]at b
   have c:cutA zs (k+1)=cutA zs k++[headN (zs.take k)]:=by simp only[cutA,aj a]
   have p:BF zs ps (k+1)=BF zs ps k++[(layK 0 zs ps k).2.length]:=by simp only[BF,aj a]
   obtain⟨t,j⟩:=yw (zs:=zs) (k+1) zs.length d;obtain⟨u,i⟩:=OM (zs:=zs) (ps:=ps) (k+1) zs.length d;have o:(cutA zs zs.length).getD (cutA zs k).length 0=headN (zs.take k):=by rw[j,c];exact Gb
   have n:(BF zs ps zs.length).getD (cutA zs k).length 0=(layK 0 zs ps k).2.length:=by rw[i,p,←mZ (ps:=ps) k];exact Gb
   rw[c,bM,List.length_singleton,gZ,f,o,n,l,←hF,b,ach];simp only[layK,aj a];rw[dA,yo (headN zs) k]
  ·rw[an a]at b
   have c:cutA zs (k+1)=cutA zs k:=by simp only[cutA,an a]
   rw[c,f,b];simp only[layK,an a];rw[dA]
theorem UU (h:Fits zs ps):oN (rawA zs ps zs.length) (layK 0 zs ps zs.length).2 (cutA zs zs.length) (BF zs ps zs.length)=eS zs ps:=by
 obtain⟨T,c,b⟩:=FQ h zs.length bG
 have a:T=[]:=by have:=fB List.length c;rw[bM]at this;exact s9.1 (by omega)
 unfold oN eS;rw[b,a,fZ,yo (headN zs)]
end
section
variable {n N:Nat} {kd:Nat→CK} {t:TypeId} {m:Nat} {r:Nat→Int} {gp cp:Nat} {ps:List (List Int)} {w W W':World}
theorem Zx {o:Oper} {a:Act} {K:Act→World→Prop} {Q:Exit→Act→World→Prop} (d:TypeId) (x y:Operand) (B:o.op= .store d x y) (b:Nat) (s:a.eval x= .pointer (some ⟨n+1,b,none⟩)) (u:Value) (q:a.eval y=u) (v:Int) (z:u=(kd b).mk v) (p:(prog.info? d).map (·.size)=some 1)
 (h:RqS n N kd t m r gp cp ps w W) (C:m=b) (i:b<N) (A:v=r b) (f:∀W',RqS n N kd t (b+1) r gp cp ps w W'→aL (n+1) W W'→K (a.put o.dst undef) W'):o.wp prog a W K Q:=by
 obtain⟨g,G,F⟩:=h.hX;subst z;subst C;refine bt d x y B (n+1) m s _ q (by cases kd m<;>rfl) p _ t G (by simp[ae];exact i) (fun W' E l=>f W' ?_ l);refine h.box l (fun k=>if k=m then v else g k) ?_ (fun k f=>?_)
 ·rw[E]
  congr 2
  refine pe (by simp[ae]) fun j D=>?_;rw[th];by_cases e:m=j
  ·subst e
   simp[ae,i]
  ·rw[an e,an (fun c=>e c.symm),fu,aN _ _ _ _ D]
 ·by_cases c:k=m
  ·rw[aj c,c];exact A
  ·rw[an c];exact F k (by omega)
end
def bitN (l:List Int):Nat→Int
 |0=>0
 |k+1=>bitN l k+(if l.getD k 0=0 then 0 else 2^k)
def zD {k} (h:k<8):k=0∨k=1∨k=2∨k=3∨k=4∨k=5∨k=6∨k=7:=by omega
def BR (l:List Int):∀k,0≤bitN l k∧bitN l k<2^k
 |0=>by simp[bitN]
 |k+1=>by
  have h:=BR l k;have e:(2:Int)^(k+1)=2^k+2^k:=by rw[Int.pow_succ];omega
  simp only[bitN];split<;>omega
def SZ:(prog.info? 5).map (fun i=>(i.zero,i.size,i.bytes))=some (some (.int .u8 0),1,1):=by kernel_rfl
def AQ (l q c w) (B:Row w q .bool l) (A:∀b o,q=some ⟨b,o,none⟩→b<w.heap.size) (Y:l.length=8):
 Calls prog 116 #[.slice q 8 c] w fun e y=>e= .returned (.slice (some ⟨w.heap.size,0,none⟩) 1 1)∧y.heap[w.heap.size]?=some (.cells #[.int .u8 (bitN l 8)] 5 (0,0))∧Below w.heap.size w y:=by
 have hl:=aa B;have X:=aa A;clear B A;obtain⟨K,S,N,M,L⟩:=info_parts SZ
 have V:∀u:World,(Instr.makeSlice 39 (.int .i64 1) (.int .i64 1)).run prog u= .ok (.slice (some ⟨u.heap.size,0,none⟩) 1 1) (u.alloc (.cells #[.int .u8 0] 5)):=fun u=>by
  have h:=Cv (P:=prog) u 39 5 K (.int .u8 0) bF S N .i64 .i64 1 1 (by omega) (vN _) (by rw[L];omega) (by omega);have e:madeCells #[Value.int .u8 0] 1=#[.int .u8 0]:=by kernel_rfl
  simpa[M,Value.cells,e]using h
 go_enter func116,ntmps116
 go_wp2;refine bO (fun W=>W.heap[w.heap.size]?=some (.cells #[.int .u8 (bitN l 0)] 5 (0,0))∧Below w.heap.size w W) ⟨ak _ _ _ _ rfl,dt⟩ ?_;rintro W0 ⟨F,I⟩
 go_loopw [4] (fun i wr=>∃k:Nat,k≤8∧i= .int .i64 (k:Int)∧wr.heap[w.heap.size]?=some (.cells #[.int .u8 (bitN l k)] 5 (0,0))∧Below w.heap.size w wr) (fun i _=>8-(intOf i).toNat)
 case atStart=>exact⟨0,by omega,rfl,F,I⟩
 case round=>
  obtain⟨k,R,rfl,E,H⟩:=hrel;clear F I;have a:=aa E;have d:=aa H;clear E H;by_cases r:k<8
  ·obtain⟨b,o,U,C⟩:=(hl.out.later d.out).cell k (by omega)
   subst U;have n:=aa C;clear C;have z:=BR l k;obtain⟨x,j⟩:∃x,x=bitN l k:=⟨_,rfl⟩;rw[←j]at a z;obtain⟨Q,O⟩:=z;by_cases f:l.getD k 0=0
   ·have g:=aa (show bitN l (k+1)=x by simp only[bitN];rw[aj f,Fi,←j])
    have m:CK.mk .bool (l.getD k 0)= .bool false:=by rw[f];rfl
    rw[m]at n;clear m f j Q O;rcases zD r with rfl|rfl|rfl|rfl|rfl|rfl|rfl|rfl
    all_goals go_wp2_with (first
     |refine aC 88 ?_;refine ab (by rfl) _ (ai _ 88 4 _ _ rfl kW 1 gj b o 8 c rfl .i64 _ rfl (by decide) _ rfl) ?_
     |refine ag 4 ?_;refine dq n.out GE ?_ rfl rfl rfl rfl)
    all_goals first
     |exact⟨⟨_,by decide,rfl,by rw[g.out];exact a.out,d.out⟩,by decide⟩
     |exact⟨⟨_,_,_,_,_,_,_,_,_,_,_,_,_,_,_,_,_,_,_,_,_,⟨_,by decide,rfl,by rw[g.out];exact a.out,d.out⟩,rfl⟩,by decide⟩
     |refine⟨?_,by decide⟩
      (repeat apply Exists.intro)
      exact⟨⟨_,by decide,rfl,by rw[g.out];exact a.out,d.out⟩,rfl⟩
   ·have g:=aa (show bitN l (k+1)=x+2^k by simp only[bitN];rw[an f,←j])
    have m:CK.mk .bool (l.getD k 0)= .bool true:=by simp only[CK.mk];rw[xz f]
    rw[m]at n;clear m f j;rcases zD r with rfl|rfl|rfl|rfl|rfl|rfl|rfl|rfl
    all_goals go_wp2_with (first
     |refine aC 88 ?_;refine ab (by rfl) _ (ai _ 88 4 _ _ rfl kW 1 gj b o 8 c rfl .i64 _ rfl (by decide) _ rfl) ?_
     |refine ag 4 ?_;refine dq n.out GE ?_ rfl rfl rfl rfl
     |refine ag 5 ?_;refine dq (p:=⟨w.heap.size,0,none⟩) (v:=(.int .u8 x)) ((br wr _ 0 _ _ _ a.out).trans rfl) sE ?_ rfl rfl rfl rfl
     |refine al 5 ?_;refine fQ 5 _ _ rfl rfl w.heap.size 0 rfl .u8 _ rfl (by kernel_rfl) _ 5 a.out (by simp) (fun Z D J=>?_)
      have T:=aa D;have G:=aa (J.below d.out bG d.out.size)
      clear D J)
    all_goals have s:=T.out
    all_goals simp only[IK,List.set_cons_zero]at s
    all_goals first
     |exact⟨⟨_,by decide,rfl,by rw[g.out];exact s,G.out⟩,by decide⟩
     |refine⟨?_,by decide⟩
      (repeat apply Exists.intro)
      exact⟨⟨_,by decide,rfl,by rw[g.out];exact s,G.out⟩,rfl⟩
  ·have e:k=8:=by omega
   subst e;clear r R;go_wp2;exact cA rfl _ rfl rfl ⟨rfl,a.out,d.out⟩
def adE (g x w) (d:w.heap[g]?=some (.cells #[.int .u8 x] 5 (0,0))) (c:0≤x) (b:x<1):
 Calls prog 153 #[.slice (some ⟨g,0,none⟩) 1 1,.int .i64 0] w fun e a=>e= .returned (.tuple #[])∧a.heap[g]?=some (.cells #[.int .u8 (x+1)] 5 (0,0))∧Below g w a:=S7 g 1 0 0 rfl #[.int .u8 x] x w d rfl (by decide) (by decide) rfl c b
def adD (g x w) (d:w.heap[g]?=some (.cells #[.int .u8 x] 5 (0,0))) (c:0≤x) (b:x<2):
 Calls prog 153 #[.slice (some ⟨g,0,none⟩) 1 1,.int .i64 1] w fun e a=>e= .returned (.tuple #[])∧a.heap[g]?=some (.cells #[.int .u8 (x+2)] 5 (0,0))∧Below g w a:=S6 g 1 0 1 rfl #[.int .u8 x] x w d rfl (by decide) (by decide) rfl c b
def adC (g x w) (d:w.heap[g]?=some (.cells #[.int .u8 x] 5 (0,0))) (c:0≤x) (b:x<4):
 Calls prog 153 #[.slice (some ⟨g,0,none⟩) 1 1,.int .i64 2] w fun e a=>e= .returned (.tuple #[])∧a.heap[g]?=some (.cells #[.int .u8 (x+4)] 5 (0,0))∧Below g w a:=S5 g 1 0 2 rfl #[.int .u8 x] x w d rfl (by decide) (by decide) rfl c b
def adB (g x w) (d:w.heap[g]?=some (.cells #[.int .u8 x] 5 (0,0))) (c:0≤x) (b:x<8):
 Calls prog 153 #[.slice (some ⟨g,0,none⟩) 1 1,.int .i64 3] w fun e a=>e= .returned (.tuple #[])∧a.heap[g]?=some (.cells #[.int .u8 (x+8)] 5 (0,0))∧Below g w a:=S4 g 1 0 3 rfl #[.int .u8 x] x w d rfl (by decide) (by decide) rfl c b
def adA (g x w) (d:w.heap[g]?=some (.cells #[.int .u8 x] 5 (0,0))) (c:0≤x) (b:x<16):
 Calls prog 153 #[.slice (some ⟨g,0,none⟩) 1 1,.int .i64 4] w fun e a=>e= .returned (.tuple #[])∧a.heap[g]?=some (.cells #[.int .u8 (x+16)] 5 (0,0))∧Below g w a:=S3 g 1 0 4 rfl #[.int .u8 x] x w d rfl (by decide) (by decide) rfl c b
def adz (g x w) (d:w.heap[g]?=some (.cells #[.int .u8 x] 5 (0,0))) (c:0≤x) (b:x<32):
 Calls prog 153 #[.slice (some ⟨g,0,none⟩) 1 1,.int .i64 5] w fun e a=>e= .returned (.tuple #[])∧a.heap[g]?=some (.cells #[.int .u8 (x+32)] 5 (0,0))∧Below g w a:=S2 g 1 0 5 rfl #[.int .u8 x] x w d rfl (by decide) (by decide) rfl c b
def ady (g x w) (d:w.heap[g]?=some (.cells #[.int .u8 x] 5 (0,0))) (c:0≤x) (b:x<64):
 Calls prog 153 #[.slice (some ⟨g,0,none⟩) 1 1,.int .i64 6] w fun e a=>e= .returned (.tuple #[])∧a.heap[g]?=some (.cells #[.int .u8 (x+64)] 5 (0,0))∧Below g w a:=S1 g 1 0 6 rfl #[.int .u8 x] x w d rfl (by decide) (by decide) rfl c b
def adx (g x w) (d:w.heap[g]?=some (.cells #[.int .u8 x] 5 (0,0))) (c:0≤x) (b:x<128):
 Calls prog 153 #[.slice (some ⟨g,0,none⟩) 1 1,.int .i64 7] w fun e a=>e= .returned (.tuple #[])∧a.heap[g]?=some (.cells #[.int .u8 (x+128)] 5 (0,0))∧Below g w a:=S0 g 1 0 7 rfl #[.int .u8 x] x w d rfl (by decide) (by decide) rfl c b
def Un (g l v c w) (E:w.heap[g]?=some (.cells #[.int .u8 0] 5 (0,0))) (D:Row w v .bool l) (C:∀b o,v=some ⟨b,o,none⟩→b<g) (S:l.length=8):
 Calls prog 152 #[.slice (some ⟨g,0,none⟩) 1 1,.slice v 8 c] w fun e j=>e= .returned (.slice (some ⟨g,0,none⟩) 1 1)∧j.heap[g]?=some (.cells #[.int .u8 (bitN l 8)] 5 (0,0))∧Below g w j:=by
 have hl:=aa D;have N:=aa C;have F:=aa E;clear D C E;have R:=aD F.out
 go_enter func152,ntmps152
 go_wp2
 go_loopw [9] (fun i wr=>∃k:Nat,k≤8∧i= .int .i64 (k:Int)∧wr.heap[g]?=some (.cells #[.int .u8 (bitN l k)] 5 (0,0))∧Below g w wr) (fun i _=>8-(intOf i).toNat)
 case atStart=>exact⟨0,by omega,rfl,F.out,aP _ _⟩
 case round=>
  obtain⟨k,O,rfl,J,M⟩:=hrel;have a:=aa J;have r:=aa M;clear J M;by_cases s:k<8
  ·obtain⟨b,o,P,G⟩:=hl.out.cell k (by omega)
   subst P;have u:=aa ((r.out.cell (p:=⟨b,o+k,none⟩) (N.out b o rfl)).trans G);clear G;have B:=BR l k;obtain⟨x,m⟩:∃x,x=bitN l k:=⟨_,rfl⟩;rw[←m]at a B;obtain⟨f,d⟩:=B;by_cases h:l.getD k 0=0
   ·have n:=aa (show bitN l (k+1)=x by simp only[bitN];rw[aj h,Fi,←m])
    have q:CK.mk .bool (l.getD k 0)= .bool false:=by rw[h];rfl
    rw[q]at u;clear q h m f d;rcases zD s with rfl|rfl|rfl|rfl|rfl|rfl|rfl|rfl
    all_goals go_wp2_with (first
     |refine aC 88 ?_;refine ab (by rfl) _ (ai _ 88 4 _ _ rfl kW 1 gj b o 8 c rfl .i64 _ rfl (by decide) _ rfl) ?_
     |refine ag 4 ?_;refine dq u.out GE ?_ rfl rfl rfl rfl)
    all_goals first
     |exact⟨⟨_,by decide,rfl,by rw[n.out];exact a.out,r.out⟩,by decide⟩
     |refine⟨?_,by decide⟩
      (repeat apply Exists.intro)
      exact⟨⟨_,by decide,rfl,by rw[n.out];exact a.out,r.out⟩,rfl⟩
   ·have n:=aa (show bitN l (k+1)=x+2^k by simp only[bitN];rw[an h,←m])
    have q:CK.mk .bool (l.getD k 0)= .bool true:=by simp only[CK.mk];rw[xz h]
    rw[q]at u;clear q h m
    have A:∀(y:Int),y=(k:Int)→Calls prog 153 #[.slice (some ⟨g,0,none⟩) 1 1,.int .i64 y] wr fun e j=>e= .returned (.tuple #[])∧j.heap[g]?=some (.cells #[.int .u8 (x+2^k)] 5 (0,0))∧Below g wr j:=by
     rintro y rfl;rcases zD s with rfl|rfl|rfl|rfl|rfl|rfl|rfl|rfl
     ·exact adE g x wr a.out f d
     ·exact adD g x wr a.out f d
     ·exact adC g x wr a.out f d
     ·exact adB g x wr a.out f d
     ·exact adA g x wr a.out f d
     ·exact adz g x wr a.out f d
     ·exact ady g x wr a.out f d
     ·exact adx g x wr a.out f d
    have z:=aa A;have Q:(k:Int)<8:=by omega
    clear A f d
    go_wp2_with (first
     |refine aC 88 ?_;refine ab (by rfl) _ (ai _ 88 4 _ _ rfl kW 1 gj b o 8 c rfl .i64 k rfl s (o+k) (by omega)) ?_
     |refine ag 4 ?_;refine dq u.out GE ?_ rfl rfl rfl rfl
     |with_reducible refine(z.out _ rfl).mono ?_
      rintro e W ⟨rfl,I,L⟩;have H:=aa I;have K:=aa (r.out.trans L)
      clear I L)
    first
     |exact⟨⟨k+1,by omega,by go_num,by rw[n.out];exact H.out,K.out⟩,by simp[intOf];omega⟩
     |refine⟨?_,by simp[intOf];omega⟩
      (repeat apply Exists.intro)
      exact⟨⟨k+1,by omega,by go_num,by rw[n.out];exact H.out,K.out⟩,rfl⟩
  ·have e:k=8:=by omega
   subst e;clear s O;go_wp2;exact cA rfl _ rfl rfl ⟨rfl,a.out,r.out⟩
def Dm (l a c w) (i:Row w a .bool l) (g:∀b o,a=some ⟨b,o,none⟩→b<w.heap.size) (A:l.length=8):
 Calls prog 97 #[.slice a 8 c] w fun e f=>e= .returned (.slice (some ⟨w.heap.size,0,none⟩) 1 1)∧f.heap[w.heap.size]?=some (.cells #[.int .u8 (bitN l 8)] 5 (0,0))∧Below w.heap.size w f:=by
 obtain⟨m,s,q,p,n⟩:=info_parts SZ
 have B:∀u:World,(Instr.makeSlice 39 (.int .i64 1) (.int .i64 1)).run prog u= .ok (.slice (some ⟨u.heap.size,0,none⟩) 1 1) (u.alloc (.cells #[.int .u8 0] 5)):=fun u=>by
  have h:=Cv (P:=prog) u 39 5 m (.int .u8 0) bF s q .i64 .i64 1 1 (by omega) (vN _) (by rw[n];omega) (by omega);have e:madeCells #[Value.int .u8 0] 1=#[.int .u8 0]:=by kernel_rfl
  simpa[p,Value.cells,e]using h
 have d:Below w.heap.size w (w.alloc (.cells #[.int .u8 0] 5)):=dt;have r:=aa (Un w.heap.size l a c (w.alloc (.cells #[.int .u8 0] 5)) (ak _ _ _ _ rfl) (i.later d) g A);have v:=aa d;clear i g d
 go_enter func97,ntmps97
 go_wp2_with (first
  |with_reducible refine r.out.mono ?_
   rintro e W ⟨rfl,j,k⟩;have y:=aa j;have z:=aa (v.out.trans k)
   clear j k)
 exact cA rfl _ rfl rfl ⟨rfl,y.out,z.out⟩
def fv (y:Int) (j:Nat):Int:=y/2^j%2
def F7:(prog.info? 4).map (fun i=>(i.zero,i.size,i.bytes))=some (some (.bool false),1,1):=by kernel_rfl
def np (y:Int) (k:Nat):Array Value:=(ae 8 (fun _=> .bool) fun j=>if j<k then fv y j else 0).toArray
def adT:madeCells #[Value.bool false] 8=(ae 8 (fun _=>CK.bool) fun _=>0).toArray:=by kernel_rfl
def take_zero (y):madeCells #[Value.bool false] 8=np y 0:=by
 have e:np y 0=(ae 8 (fun _=> .bool) fun _=>0).toArray:=by unfold np;rw[bU (g:=fun _=>0) fun j _=>an (by omega)]
 rw[e];exact adT
def take_set (y k) (d:k<8):(np y k).setIfInBounds k (.bool (decide (fv y k=1)))=np y (k+1):=by
 refine iW (by simp[np,ae]) fun j b=>?_;rw[th];have f:0≤fv y k∧fv y k<2:=⟨NM _ (by decide),NN _ (by decide)⟩;by_cases e:k=j
 ·subst e
  rw[aj rfl,aj (by simp[np,ae];exact b),aj (by omega)];have a:fv y k=0∨fv y k=1:=by omega
  rcases a with a|a<;>rw[a]<;>rfl
 ·rw[an e]
  unfold np;rw[fu,aN _ _ _ _ b];by_cases c:j<k
  ·rw[aj c,aj (by omega)]
  ·rw[an c,an (by omega)]
def Ym (z) (c:0≤z) (b:z≤255):bits BinOp.and IntKind.u8 z 1=z%2:=by
 have h:∀n:Fin 256,bits BinOp.and IntKind.u8 ((n:Nat):Int) 1=((n:Nat):Int)%2:=by decide+kernel
 have a:=h ⟨z.toNat,by omega⟩;rw[show ((z.toNat:Nat):Int)=z by omega]at a;exact a
def TC (y:Int) {C D:Array Value} {k:Nat} {b a} (h:C.setIfInBounds k (.bool a)=D) (c:b=a):C.setIfInBounds k (.bool b)=D:=by subst c;exact h
def Py (y b o c w) (Z:0≤y) (Y:y≤255) (g:w.cell? ⟨b,o,none⟩=some (.int .u8 y)):
 Calls prog 178 #[.slice (some ⟨b,o,none⟩) 1 c,.int .i64 8] w fun e l=>e= .returned (.slice (some ⟨w.heap.size,0,none⟩) 8 8)∧l.heap[w.heap.size]?=some (.cells (np y 8) 4 (0,0))∧Below w.heap.size w l:=by
 have M:=iE g;have L:=aa g;clear g;obtain⟨C,I,F,E,D⟩:=info_parts F7
 have O:∀u:World,(Instr.makeSlice 88 (.int .i64 8) (.int .i64 8)).run prog u= .ok (.slice (some ⟨u.heap.size,0,none⟩) 8 8) (u.alloc (.cells (np y 0) 4)):=fun u=>by have h:=Cv (P:=prog) u 88 4 C (.bool false) kW I F .i64 .i64 8 8 (by omega) (vN _) (by rw[D];omega) (by omega);have e:=take_zero y;simpa[E,Value.cells,e]using h
 go_enter func178,ntmps178
 go_wp2;refine bO (fun W=>W.heap[w.heap.size]?=some (.cells (np y 0) 4 (0,0))∧Below w.heap.size w W) ⟨ak _ _ _ _ rfl,dt⟩ ?_;rintro W0 ⟨q,A⟩
 go_loopw [11] (fun i wr=>∃k:Nat,k≤8∧i= .int .i64 (k:Int)∧wr.heap[w.heap.size]?=some (.cells (np y k) 4 (0,0))∧Below w.heap.size w wr) (fun i _=>8-(intOf i).toNat)
 case atStart=>exact⟨0,by omega,rfl,q,A⟩
 case round=>
  obtain⟨k,H,rfl,a,v⟩:=hrel;clear q A;have r:=aa a;have d:=aa v;clear a v;by_cases f:k<8
  ·have J:=aa ((d.out.cell (p:=⟨b,o,none⟩) M).trans L.out)
   have G:=aa (take_set y k f);have X:bits BinOp.and IntKind.i64 0 7=0:=by decide+kernel
   have V:bits BinOp.and IntKind.i64 1 7=1:=by decide+kernel
   have U:bits BinOp.and IntKind.i64 2 7=2:=by decide+kernel
   have T:bits BinOp.and IntKind.i64 3 7=3:=by decide+kernel
   have xg:bits BinOp.and IntKind.i64 4 7=4:=by decide+kernel
   have S:bits BinOp.and IntKind.i64 5 7=5:=by decide+kernel
   have R:bits BinOp.and IntKind.i64 6 7=6:=by decide+kernel
   have Q:bits BinOp.and IntKind.i64 7 7=7:=by decide+kernel
   rcases zD f with rfl|rfl|rfl|rfl|rfl|rfl|rfl|rfl
   all_goals go_wp2_with (first
    |refine aC 39 ?_;refine ab (by rfl) _ (ai _ 39 5 _ _ rfl bF 1 cR b o 1 c rfl .i64 0 rfl (by decide) o (by omega)) ?_
    |refine ag 5 ?_;refine dq J.out sE ?_ rfl rfl rfl rfl
    |refine al 4 ?_;refine aH rfl fun K m=>bt 4 _ _ rfl w.heap.size _ rfl _ rfl rfl gj _ 4 r.out (by simp[np,ae]) (fun W1 a B=>m _ _ ?_);clear m K
     have N:=aa a;have s:=aa (B.below d.out bG d.out.size)
     clear a B)
   all_goals have j:=N.out
   all_goals simp[Act.eval]at j
   all_goals rw[Ym _ (by omega) (by omega)]at j
   all_goals have n:=j.trans (fB (fun z=>some (Obj.cells z 4)) (TC y G.out (by simp[fv];rfl)))
   all_goals first
    |exact⟨⟨_,by decide,rfl,n,s.out⟩,by decide⟩
    |refine⟨?_,by decide⟩
     (repeat apply Exists.intro)
     exact⟨⟨_,by decide,rfl,n,s.out⟩,rfl⟩
  ·have e:k=8:=by omega
   subst e;clear f H;go_wp2;exact cA rfl _ rfl rfl ⟨rfl,r.out,d.out⟩
def D6 (y b o c w) (i:0≤y) (h:y≤255) (d:w.cell? ⟨b,o,none⟩=some (.int .u8 y)):
 Calls prog 138 #[.slice (some ⟨b,o,none⟩) 1 c,.int .i64 8] w fun e a=>e= .returned (.tuple #[.slice (some ⟨w.heap.size,0,none⟩) 8 8,.int .i64 0])∧a.heap[w.heap.size]?=some (.cells (np y 8) 4 (0,0))∧Below w.heap.size w a:=by
 have j:=aa (Py y b o c w i h d);clear d
 go_enter func138,ntmps138
 go_wp2_with (first
  |with_reducible refine j.out.mono ?_
   rintro e W ⟨rfl,f,g⟩;have k:=aa f;have l:=aa g
   clear f g)
 exact bR rfl _ _ rfl rfl rfl ⟨rfl,k.out,l.out⟩
def KG (k a f):ae k a f++[(a k).mk (f k)]=ae (k+1) a f:=by simp[ae,s7]
def aap (y k b) (h:b=decide (fv y k=1)):Value.bool b=CK.mk .bool (fv y k):=by
 subst h;have c:0≤fv y k∧fv y k<2:=⟨NM _ (by decide),NN _ (by decide)⟩;have a:fv y k=0∨fv y k=1:=by omega
 rcases a with a|a<;>rw[a]<;>rfl
def QU (y k b) (h:b=decide (fv y k=1)):ae k (fun _=> .bool) (fv y)++[.bool b]=ae (k+1) (fun _=> .bool) (fv y):=by rw[aap y k b h];exact KG k (fun _=> .bool) (fv y)
def ZN {a:Nat} {e:TypeId} {b n:Nat} {v:Value} {d c:List Value} {w:World} (h:w.ownsRow a e b v n d) (f:d=c):w.ownsRow a e b v n c:=f▸h
def T0 (y b o c w) (P:0≤y) (O:y≤255) (g:w.cell? ⟨b,o,none⟩=some (.int .u8 y)):
 Calls prog 181 #[.slice (some ⟨b,o,none⟩) 1 c] w fun e l=>(∃a f,e= .returned (.slice a 8 f)∧l.ownsRow w.heap.size 4 1 (.slice a 8 f) 8 (ae 8 (fun _=> .bool) (fv y)))∧Below w.heap.size w l:=by
 have H:=iE g;have G:=aa g;clear g
 go_enter func181,ntmps181
 go_wp2
 go_loopw [3,4] (fun v i wr=>∃k:Nat,k≤8∧i= .int .i64 (k:Int)∧(∃a f,v= .slice a k f)∧wr.ownsRow w.heap.size 4 1 v k (ae k (fun _=> .bool) (fv y))∧Below w.heap.size w wr) (fun _ i _=>8-(intOf i).toNat)
 case atStart=>exact⟨0,by omega,rfl,⟨_,_,rfl⟩,⟨rfl,Or.inl ⟨rfl,rfl⟩⟩,aP _ _⟩
 case round=>
  obtain⟨k,E,rfl,⟨a,f,rfl⟩,q,z⟩:=hrel;have r:=aa q;have d:=aa z;clear q z;by_cases m:k<8
  ·have F:=aa ((d.out.cell (p:=⟨b,o,none⟩) H).trans G.out)
   rcases zD m with rfl|rfl|rfl|rfl|rfl|rfl|rfl|rfl
   all_goals go_wp2_with (first
    |refine aC 39 ?_;refine ab (by rfl) _ (ai _ 39 5 _ _ rfl bF 1 cR b o 1 c rfl .i64 0 rfl (by decide) o (by omega)) ?_
    |refine ag 5 ?_;refine dq F.out sE ?_ rfl rfl rfl rfl
    |refine be .append ?_;refine aH rfl fun K s=>eN (w0:=wr) (n0:=w.heap.size) (.tmp 12) (.tmp 24) 88 4 rfl kW (.bool false) 1 1 F7 rfl (by decide) w.heap.size _ _ _ rfl (aU r.out dt) ⟨wr.heap.size,0,none⟩ 1 1 rfl _ rfl (aE (ak _ _ _ _ rfl)) rfl (by simp[Value.oneCell']) (by omega) (by omega) (by have:=d.out.size;simp;omega) bG (((aP _ _).mono d.out.size).alloc (by have:=d.out.size;omega) _) (fun M R j A B D C=>s _ _ ?_);clear s K
     rw[Ym _ (by omega) (by omega)]at j;have h:=ZN j (QU y _ _ (by simp[fv];rfl));obtain⟨L,Q,I,_⟩:=aW h;subst I;have n:=aa h;have u:=aa (d.out.trans A)
     clear j h A B D C)
   all_goals first
    |exact⟨⟨_,by decide,rfl,⟨_,_,rfl⟩,n.out,u.out⟩,by decide⟩
    |refine⟨?_,by decide⟩
     (repeat apply Exists.intro)
     exact⟨⟨_,by decide,rfl,⟨_,_,rfl⟩,n.out,u.out⟩,rfl⟩
  ·have e:k=8:=by omega
   subst e;clear m E;go_wp2;exact cA rfl _ rfl rfl ⟨⟨a,f,rfl,r.out⟩,d.out⟩
def GQ (y:Int):List Int:=(List.range 8).map (fv y)
def Bc (y):(GQ y).length=8:=by simp[GQ]
def Ht (y j):fv y j=0∨fv y j=1:=by have a:0≤fv y j∧fv y j<2:=⟨NM _ (by decide),NN _ (by decide)⟩;omega
def Xg (y):∀m∈GQ y,CK.ok .bool m:=fun m a=>by obtain⟨j,_,rfl⟩:=ft.1 a;exact Ht y j
def J5 (y j) (h:j<8):(GQ y).getD j 0=fv y j:=by simp[GQ,List.getD,h]
def U7 {a c b y w} (h:w.ownsRow a 4 1 (.slice b 8 c) 8 (ae 8 (fun _=> .bool) (fv y))):∃g,b=some ⟨g,0,none⟩∧a≤g∧g<w.heap.size∧8≤c∧Row w b .bool (GQ y):=by
 rcases h.2 with⟨_,m⟩|⟨g,q,p,l,k,e,j,s,r,f⟩
 ·exact absurd m (by decide)
 ·injection l with o u n
  subst o;subst n;refine⟨g,rfl,k,aD e,j,⟨fun i d=>⟨g,0,rfl,?_⟩,Xg y⟩⟩;rw[Bc]at d;rw[br w g _ _ _ _ e,bY,J5 y i d];have:=aN 8 (fun _=> .bool) (fv y) i d;rw[←f,nO (by omega)]at this;simpa using this
def Bw (y b o c w) (n:0≤y) (m:y≤255) (h:w.cell? ⟨b,o,none⟩=some (.int .u8 y)):
 Calls prog 147 #[.slice (some ⟨b,o,none⟩) 1 c,.int .i64 8] w fun e d=>(∃g a,e= .returned (.tuple #[.slice (some ⟨g,0,none⟩) 8 a,.int .i64 0])∧w.heap.size≤g∧g<d.heap.size∧8≤a∧Row d (some ⟨g,0,none⟩) .bool (GQ y))∧Below w.heap.size w d:=by
 have p:=aa (T0 y b o c w n m h);clear h
 go_enter func147,ntmps147
 go_wp2_with (first
  |with_reducible refine p.out.mono ?_
   rintro e W ⟨⟨z,a,rfl,k⟩,l⟩;obtain⟨g,v,r,q,u,j⟩:=U7 k;subst v;have f:=aa j;have s:=aa l
   clear k j l)
 go_loopw [7] (fun i wr=>i= .int .i64 8∧wr=W) (fun _ _=>0)
 case atStart=>exact⟨rfl,rfl⟩
 case round=>
  obtain⟨rfl,rfl⟩:=hrel
  go_wp2_with (first
   |refine fj 88 ?_;refine ab (by rfl) _ (dl _ 88 4 _ _ rfl kW 1 gj g 0 8 a 8 rfl rfl (by omega)) ?_)
  exact bR rfl _ _ rfl rfl rfl ⟨⟨g,a,rfl,r,q,u,f.out⟩,s.out⟩
def av (j:Nat):CK:=if j<8 then .bool else .u8
def Vw (a):∀j,j<a→av (8+j)= .u8:=fun j _=>by unfold av;rw[an (by omega)]
def Bq (f:Nat→Int):Int:=bitN (ff f 0 8) 8
def Hu (f):∀m∈[Bq f],CK.ok .u8 m:=fun m a=>by rw[jJ.1 a];have h:=BR (ff f 0 8) 8;exact⟨h.1,by unfold Bq;omega⟩
def cN (f:Nat→Int):List Int:=[Bq f]++ff f 8 96
def gn (f):(cN f).length=97:=by simp[cN,az]
def kT {f} (a:∀j,j<104→(av j).ok (f j)):∀m∈cN f,CK.ok .u8 m:=dB (Hu f) (eM (gr a (Vw 96) (by decide)))
def cL:rowB prog 36 104=true:=by kernel_rfl
section
variable {n:Nat} {f:Nat→Int} {t:TypeId} {w W W':World}
theorem Box.bits (h:Box n 104 av f t w W) (d:∀j,j<104→(av j).ok (f j)):Row W (some ⟨n,0,none⟩) .bool (ff f 0 8):=by
 refine⟨fun i a=>⟨n,0,rfl,?_⟩,fun m b=>?_⟩
 ·rw[az]at a
  rw[h.cell (by omega),n9 _ _ _ _ a];unfold av;rw[aj (by omega)]
 ·obtain⟨j,c,rfl⟩:=ft.1 b
  have e:=rW.1 c;have:=d (0+j) (by omega);unfold av at this;rw[aj (by omega)]at this;exact this
theorem Hf {g} (h:W.heap[g]?=some (.cells #[.int .u8 (Bq f)] 5 (0,0))):cG (some ⟨g,0,none⟩) 1 [Bq f] W:=by
 refine⟨⟨fun i a=>⟨g,0,rfl,?_⟩,Hu f⟩,(fun e=>by cases e),by simp,fun b o e=>by cases e;exact aD h⟩;have e:i=0:=by simpa using a
 subst e;rw[br W g _ _ _ _ h];rfl
theorem db.app {N i a} (h:db n N i f t a w W) (l k d b c) (hs:cG b c l W) (p:l.length=k) (g:1≤k) (j:k≤100000) (r:lN ((k+31)/32) d) (q:d≤40) (m:a.length≤1000):
 Calls prog 90 #[.pointer (some ⟨n+1+1,0,none⟩),.slice b k c] W fun e o=>e= .returned (.tuple #[])∧db n N i f t (a++[uU d l]) w o:=by
 unfold uU;subst p;exact(wN (n+1+1) d a l b c W h.hH h.hT (by have:=h.h3;omega) hs.row hs.cap g (by omega) r q (by omega)).mono fun _ _ ⟨g,j,s⟩=>⟨g,h.step j s⟩
end
def zb (f) (k:∀j,j<104→(av j).ok (f j)) (w):
 Calls prog 36 #[.agg (ae 104 av f).toArray] w fun e h=>(∃g c,e= .returned (.slice g 97 c)∧(g=none→c=0)∧bc w.heap.size (.slice g 97 c) (cN f) h)∧Below w.heap.size w h:=by
 have l:=aa k;clear k
 go_enter func36,ntmps36
 go_wp2_with (first
  |refine ao 65 ?_;refine fX 3 C6 ?_
   refine bZ (fun W=>fA w.heap.size 104 av f 36 [] w W) (fA.begin (ak _ _ _ _ rfl) rfl) ?_;intro W p;have a:=aa p;clear p
  |with_reducible refine(Dm (ff f 0 8) (some ⟨w.heap.size,0,none⟩) 8 _ (a.out.toBox.bits l.out) (fun b o e=>by cases e;exact aD a.out.hX) (az f 0 8)).mono ?_
   rintro e y ⟨rfl,r,m⟩;have hV:=aa (Hf r);have d:=a.out.later m;clear r m;replace a:=aa d;clear d
  |with_reducible refine(fA.app a.out [Bq f] 1 _ _ hV.out rfl (by simp)).mono ?_
   rintro e W ⟨rfl,d⟩;replace a:=aa d;clear d
  |with_reducible refine(fA.bytes a.out 8 96 (Vw 96) (by decide) l.out (by simp)).mono ?_
   rintro e W ⟨rfl,d⟩;replace a:=aa d;clear d
  |with_reducible refine(fA.done a.out 97 (by simp[az]) (by decide)).mono ?_
   rintro e W ⟨⟨g,c,rfl,i,q⟩,v⟩;have u:=aa q;have s:=aa i
   clear q i)
 exact cA rfl _ rfl rfl ⟨⟨g,c,rfl,s.out,u.out⟩,v⟩
def eV (f:Nat→Int):Nat→Int:=fullT 1 (leaf [uU 0 [Bq f],uU 2 (ff f 8 96)])
def wU (f) (d:∀j,j<104→(av j).ok (f j)) (w) (i:cY w):
 Calls prog 106 #[.agg (ae 104 av f).toArray] w fun e q=>e= .returned (.agg (ax (eV f)))∧Below w.heap.size w q:=by
 have g:=aa d;have u:=aa i;clear d i
 go_enter func106,ntmps106
 go_wp2_with (first
  |refine ao 25 ?_;refine fX 2 cg ?_
  |refine ao 108 ?_;refine fX 3 jw ?_
   refine bZ (fun W=>db w.heap.size 104 av f 36 [] w W) (db.begin (ak _ _ _ _ rfl) rfl u.out) ?_;intro W k;have a:=aa k;clear k
  |with_reducible refine(Dm (ff f 0 8) (some ⟨w.heap.size,0,none⟩) 8 _ (a.out.toBox.bits g.out) (fun b o e=>by cases e;exact aD a.out.hX) (az f 0 8)).mono ?_
   rintro e C ⟨rfl,m,h⟩;have hV:=aa (Hf m);have c:=a.out.later h;clear m h;replace a:=aa c;clear c
  |with_reducible refine(db.app a.out [Bq f] 1 0 _ _ hV.out rfl (by decide) (by decide) (by unfold lN;decide) (by decide) (by simp)).mono ?_
   rintro e W ⟨rfl,c⟩;replace a:=aa c;clear c
  |with_reducible refine(db.bytes a.out 8 96 2 (Vw 96) (by decide) g.out (by decide) (by decide) (by unfold lN;decide) (by decide) (by simp)).mono ?_
   rintro e W ⟨rfl,c⟩;replace a:=aa c;clear c
  |with_reducible refine(db.done a.out 1 (by simp[lN]) (by simp) (by decide)).mono ?_
   rintro e W ⟨rfl,p,l⟩;have v:=aa l;have r:=p.size;clear l a
  |refine ao 25 ?_;refine aw rfl rfl 25 _ _ rfl rfl rfl (ax _) rfl rfl (zeroOf prog 25) (aG am).1 (aG am).2 (aA _ _ _) ?_
  |refine ag 25 ?_;refine ab (by rfl) _ (ay _ 25 _ (by rfl) W.heap.size (by rfl) _ _ (0,0) _ (ak W _ 25 W.heap.size rfl) cH rfl (by rw[ah am];simp[ae])) ?_
  |refine al 25 ?_;refine aq (w0:=w) (n0:=w.heap.size) 25 _ _ rfl rfl (w.heap.size+1) rfl _ rfl (aA _ _ _) (by rw[ah am];simp[ae]) _ 25 (aR _ _ _ _ v.out) (by rw[bL];simp[ae]) (by omega) (p.alloc r _) (fun B s y _=>?_))
 exact fF rfl (w.heap.size+1) 0 (ae 32 (fun _=> .u8) (eV f)) _ rfl s cH rfl (by rw[ah am,ac]) rfl ⟨rfl,y⟩
def wV (f) (s:∀j,j<104→(av j).ok (f j)) (w):
 Calls prog 47 #[.agg (ae 104 av f).toArray] w fun e p=>(∃g c,e= .returned (.tuple #[.slice g 97 c,.int .i64 0])∧(g=none→c=0)∧bc w.heap.size (.slice g 97 c) (cN f) p)∧Below w.heap.size w p:=by
 have i:=aa s;clear s
 go_enter func47,ntmps47
 go_wp2_with (first
  |refine fo 36 ?_;refine bW rfl 36 _ rfl _ rfl ?_
   refine bZ (fun W=>gw w.heap.size 104 av f 36 [] w W) (gw.begin (ak _ _ _ _ rfl) rfl) ?_;intro W v;have a:=aa v;clear v
  |with_reducible refine(AQ (ff f 0 8) (some ⟨w.heap.size,0,none⟩) 8 _ (a.out.toBox.bits i.out) (fun b o e=>by cases e;exact aD a.out.hX) (az f 0 8)).mono ?_
   rintro e m ⟨rfl,A,u⟩;have d:=(a.out.later u).add (Hf A) (k:=1) rfl;clear A u;clear a;obtain⟨C,r⟩:∃C,C=W.heap.size:=⟨_,rfl⟩;rw[←r]at d ⊢;clear r;obtain⟨W,l⟩:∃W,W=m:=⟨_,rfl⟩;subst l;have a:=aa d;clear d
  |refine aV 39 ?_;refine aH rfl fun K z=>d' rfl (z _ _ ?_);clear z K
  |refine dy 39 ?_;refine cB (w0:=W) rfl _ _ rfl W.heap.size [] (ff f 8 96) _ rfl (bc.new bG [] (by decide) (ak _ _ _ _ rfl)) (some ⟨w.heap.size,8,none⟩) 96 rfl ((a.out.toBox.row 8 96 (Vw 96) (by decide) i.out).later dt) (by simp[az]) (by simp) (fun h=>by cases h) dt (fun N m B D E=>?_)
   obtain⟨M,O,I,d⟩:=a.out.own B D (eM (gr i.out (Vw 96) (by decide))) (az f 8 96);subst I;clear B D E;obtain⟨W,l⟩:∃W,W=m:=⟨_,rfl⟩;subst l;replace a:=aa d;clear d
  |with_reducible refine(gw.Zb a.out (k:=2) (S:=97) (L:=cN f) [1,96] ?hV ?hZ rfl (by decide) (by decide) (by simp[iI,az]) (by decide) (by simp[iI,cN]) (gn f) (by decide)).mono ?hM
   case hV=>rfl
   case hZ=>rfl
   rintro e W ⟨⟨g,c,rfl,q,y⟩,H⟩;have G:=aa y;have F:=aa q
   clear y q)
 exact bR rfl _ _ rfl rfl rfl ⟨⟨g,c,rfl,F.out,G.out⟩,H⟩
def vc (f) (p:∀j,j<104→(av j).ok (f j)) (w) (s:cY w):
 Calls prog 58 #[.agg (ae 104 av f).toArray] w fun e A=>e= .returned (.tuple #[.agg (ax (eV f)),.int .i64 0])∧Below w.heap.size w A:=by
 have h:=aa p;have D:=aa s;clear p s
 go_enter func58,ntmps58
 go_wp2_with (first
  |refine ao 25 ?_;refine fX 2 cg ?_
  |refine ao 163 ?_;refine aH rfl fun K y=>bT 163 rfl 5 rfl (rep 64) 64 (by kernel_rfl) (y _ _ ?_);clear y K
   refine bZ (fun W=>dP w.heap.size 104 av f 36 163 2 [] w W) (dP.begin (ak _ _ _ _ rfl) rfl D.out (by simp) (iM _)) ?_;intro W u;have c:=aa u;clear u
  |with_reducible refine(AQ (ff f 0 8) (some ⟨w.heap.size,0,none⟩) 8 _ (c.out.toBox.bits h.out) (fun b o e=>by cases e;exact aD c.out.hX) (az f 0 8)).mono ?_
   rintro e g ⟨rfl,z,r⟩;have hV:=aa (Hf z);have a:=c.out.later r;clear z r;replace c:=aa a;clear a
  |with_reducible refine(dP.aal c.out [Bq f] _ _ 1 hV.out rfl (by decide) (by decide)).mono ?_
   rintro e W ⟨rfl,a⟩;replace c:=aa a;clear a
  |refine al 25 ?_;refine aF 25 (w.heap.size+1+1) (32*0) rfl ?_;refine mp rfl _ _ rfl 0 (uU 0 [Bq f]) rfl rfl c.out rfl (by decide) (jg (Hu f)) (fun g a=>?_)
   obtain⟨W,i⟩:∃W,W=g:=⟨_,rfl⟩;subst i;replace c:=aa a;clear a
  |with_reducible refine(dP.pack c.out (ff f 8 96) (some ⟨w.heap.size,8,none⟩) 96 96 3 (c.out.toBox.sl 8 96 (Vw 96) (by decide) h.out) (az _ _ _) (by decide) (by decide) (by decide)).mono ?_
   rintro e W ⟨B,H,rfl,k,d,q,a⟩;have l:=aa k;have m:=aa d;clear k d;replace c:=aa a;clear a
  |with_reducible refine(dP.Pc c.out (ff f 8 96) B H 3 2 (3:Int) l.out m.out q (by rw[az]) rfl (by unfold lN;decide) (by decide)).mono ?_
   rintro e W ⟨rfl,a⟩;clear l m q;replace c:=aa a;clear a
  |refine al 25 ?_;refine aF 25 (w.heap.size+1+1) (32*1) rfl ?_;refine mp rfl _ _ rfl 1 (uU 2 (ff f 8 96)) rfl rfl c.out rfl (by decide) (jg (eM (gr h.out (Vw 96) (by decide)))) (fun g a=>?_)
   obtain⟨W,i⟩:∃W,W=g:=⟨_,rfl⟩;subst i;replace c:=aa a;clear a
  |with_reducible refine(dP.last c.out 1 (2:Int) rfl rfl (by unfold lN;decide) (by decide)).mono ?_
   rintro e W ⟨rfl,F,v⟩;have E:=aa v;clear v c
  |refine al 25 ?_;refine aq (w0:=w) (n0:=w.heap.size) 25 _ _ rfl rfl (w.heap.size+1) rfl _ rfl (aA _ _ _) (by rw[ah am];simp[ae]) _ 25 E.out (by rw[bL];simp[ae]) (by omega) F (fun L C G _=>?_))
 exact aI rfl (w.heap.size+1) 0 (ae 32 (fun _=> .u8) (eV f)) _ rfl C cH rfl (by rw[ah am,ac]) rfl ⟨rfl,G⟩
def aY (l:List Int) (k:Nat):Int:=if k<8 then fv (l.getD 0 0) k else l.getD (1+(k-8)) 0
def jQ:(prog.info? 36).map (fun i=>(i.zero,i.size))=some (some (.agg (ae 104 av fun _=>0).toArray),104):=by kernel_rfl
def G7 {q:List Int} {i:Nat} {k:CK} (h:∀m∈q,k.ok m) (a:i<q.length):k.ok (q.getD i 0):=by
 have e:q.getD i 0=q[i]'a:=by simp[List.getD,a]
 rw[e];exact h _ (oI a)
section
variable {n:Nat} {t:TypeId} {l:List Int} {va:Option Addr} {c p err m:Nat} {r:Nat→Int} {w W W':World}
theorem L3 (y):np y 8=(ae 8 (fun _=>CK.bool) (fv y)).toArray:=by unfold np;rw[bU (g:=fv y) fun j a=>aj a]
theorem Hw {o:Oper} {a:Act} {K:Act→World→Prop} {Q:Exit→Act→World→Prop} (d s:Operand) (z:o.op= .call {callee:= .builtin .copy,args:=#[d,s],argTypes:=#[88,88]}) (g q u:Nat) (y:Int) (B:a.eval d= .slice (some ⟨n+1,0,none⟩) 8 q) (hs:a.eval s= .slice (some ⟨g,0,none⟩) 8 u)
 (h:RdS n 104 av t l va c p err 0 r w W) (f:W.heap[g]?=some (.cells (np y 8) 4 (0,0))) (v:err=0→∀j,j<8→fv y j=r j)
 (D:∀W',RdS n 104 av t l va c p err 8 r w W'→K (a.put o.dst (goInt 8)) W'):o.wp prog a W K Q:=by
 obtain⟨F,E,J⟩:=h.hX;rw[L3]at f;have b:(ae 8 (fun _=> .bool) (fv y)).length=8:=ac _ _ _;refine ja d s 88 88 z 4 kW gj (n+1) 0 g 0 8 q 8 u B hs _ t E (ae 8 (fun _=> .bool) (fv y)) (by rw[b];rfl) (aE f) (by rw[b];simp[ae]) cl (fun W' k C=>?_);rw[b];have G:(splice (ae 104 av F).toArray.toList 0 (ae 8 (fun _=> .bool) (fv y))).toArray=_:=yb (ii:=fun _=> .bool) (fun j I=>by unfold av;rw[aj (by omega)]) (by decide);rw[G]at k;refine D W' (h.box C _ k fun e i A=>?_);rw[aj (by omega),Nat.sub_zero];exact v e i A
theorem RdS.ad_ {N b} (h:RdS n N b t l va c p err m r w W):
 Calls prog 63 #[.pointer (some ⟨n+1+1,0,none⟩),.int .i64 0] W fun e f=>e= .returned (.tuple #[])∧RdS n N b t l va c p err m r w f:=by
 obtain⟨a,hI,g⟩:=h.hI;refine(OJ (n+1+1) l va c a err 0 W hI).mono fun _ _ ⟨j,d,i⟩=>⟨j,?_⟩;have e:(if err=0 then 0 else err)=err:=by split<;>omega
 rw[e]at d;exact h.step i ⟨_,d,g⟩ id
end
def uo (l va c w) (L:Row w va .u8 l) (l_:l.length≤c) (M:va=none→c=0) (O:∀b o,va=some ⟨b,o,none⟩→b<w.heap.size) (C:l.length=97):
 Calls prog 72 #[.slice va 97 c] w fun e T=>e= .returned (.tuple #[.agg (ae 104 av (aY l)).toArray,.int .i64 0])∧Below w.heap.size w T:=by
 have X:=aa L;have Y:=aa M;have Z:=aa O;have D:=aa C;have cW:l.length≤70368744177664:=by rw[C];decide
 clear C;clear L M O
 go_enter func72,ntmps72
 go_wp2_with (first
  |refine ao 36 ?_;refine fX 2 jQ ?_
  |refine ao 36 ?_;refine fX 4 jQ ?_
  |with_reducible refine(RdS.open (N:=104) (kd:=av) (r:=aY l) rfl 97 97 (97:Int) rfl D.out (err:=0) rfl (by decide) X.out l_ Y.out Z.out cW).mono ?_
   rintro e W ⟨rfl,a⟩;have d:=aa a;clear a
  |with_reducible refine(RdS.kh d.out 1 (1:Int) rfl (by decide) (by decide) (fun _=>by rw[D.out];decide)).mono ?_
   rintro e W ⟨b,A,I,q,rfl,G,H,f,z,s,a⟩;obtain⟨b2,o2,e0,F⟩:=f.cell 0 (by omega);cases e0;obtain⟨y,u⟩:∃y,y=q.getD 0 0:=⟨_,rfl⟩;have B:CK.ok .u8 y:=by rw[u];exact G7 f.ok (by omega)
   rw[←u]at F;have J:=aa u;have P:=aa F;have g:=aa s;have V:=aa B.1;have U:=aa B.2;clear G H f z s u F B;replace d:=aa a;clear a
  |with_reducible refine(D6 y b A I _ V.out U.out P.out).mono ?_
   rintro e W1 ⟨rfl,R,Q⟩;have hV:=aa R;have a:=d.out.later Q;clear R Q P;replace d:=aa a;clear a
  |refine be .copy ?_;refine aH rfl fun K k=>Hw _ _ rfl _ 8 8 y rfl rfl d.out hV.out (fun e j E=>by unfold aY;rw[aj E,J.out,g.out (by trivial),bA _ _ _ _ (by decide)]) (fun W h=>k _ _ ?_);clear k K
   replace d:=aa h;clear hV g J;clear h;generalize goInt 8=gi
  |with_reducible refine(RdS.ad_ d.out).mono ?_
   rintro e W ⟨rfl,a⟩;replace d:=aa a
   clear a)
 rename_i K k;refine dQ (S:=fun _=>True) (by kernel_rfl) ?_;have GH:True:=trivial;refine gY 0 1 2 (.pointer (some ⟨w.heap.size+1,8,none⟩)) (.slice (some ⟨w.heap.size+1,8,none⟩) 96 96) (.pointer (some ⟨w.heap.size+1+1,0,none⟩)) rfl (by kernel_rfl) (fun _=>by kernel_rfl) bH ‹_› ?_;go_frame;refine cQ (i:=3) rfl (by kernel_rfl) rfl (it 61 #[.pointer (some ⟨w.heap.size+1+1,0,none⟩),.int .i64 96] (by go_simp) _ ((d.out.drew _).Tq 96 (96:Int) rfl (by decide) (by decide) (fun _=>by rw[D.out];decide)) ?_);rintro v W ⟨b,A,I,q,rfl,G,H,f,z,g,a⟩;refine⟨trivial,?_⟩;go_frame;refine cQ (i:=4) rfl (by kernel_rfl) rfl (wH _ _ rfl 8 96 b A I 96 rfl rfl a q f z rfl (Vw 96) (by decide) (fun e j E=>by rw[g (by trivial),bA _ _ _ _ E];unfold aY;rw[an (by omega)];congr 1<;>omega) (fun W h=>⟨trivial,?_⟩));refine dM (by kernel_rfl) ?_ _;refine k _ _ ?_;replace d:=aa h;clear k K GH f G H g z a;clear h;generalize goInt 96=gi;go_frame
 go_wp2_with (first
  |refine ag 41 ?_;refine dq (v:=(.int .i64 0)) d.out.dS fU ?_ rfl rfl rfl rfl
  |refine ag 36 ?_;refine ab (by rfl) _ (ay _ 36 _ (by rfl) (w.heap.size+1) (by rfl) _ _ (0,0) _ d.out.res GK rfl (by rw[ah cL];simp[ae])) ?_
  |refine al 36 ?_;refine aF 36 w.heap.size 0 rfl ?_;refine aq (w0:=w) (n0:=w.heap.size) 36 _ _ rfl rfl w.heap.size rfl _ rfl (aA _ _ _) (by rw[ah cL];simp[ae]) _ 36 d.out.hR (by simp[ae]) (by omega) d.out.hB (fun W9 gM dY _=>?_))
 exact aI rfl w.heap.size 0 (ae 104 av (aY l)) _ rfl gM GK rfl (by rw[ah cL,ac]) rfl ⟨rfl,dY⟩
def sB (l T c w) (X:cG T c l w) (zu:l.length=97):
 Calls prog 82 #[.slice T 97 c] w fun e w'=>e= .returned (.tuple #[.agg (ae 104 av (aY l)).toArray,.int .i64 0])∧Below w.heap.size w w':=by
 have Bd:=aa X;have N:=aa zu;clear zu;clear X
 go_enter func82,ntmps82
 go_wp2_with (first
  |refine ao 36 ?_;refine fX 2 jQ ?_
  |refine ao 36 ?_;refine fX 4 jQ ?_
   refine bZ (fun W=>RqB w.heap.size 104 av 36 0 (aY l) w W) (RqB.begin rfl rfl) ?_;intro W b;have hl:=aa (Bd.out.later b.hB);have a:=aa b;clear b
  |with_reducible refine(RqB.cut a.out (K:=2) (k:=97) [1,96] ?hV hl.out N.out rfl (by decide) (by decide) (by decide) rfl).mono ?hM
   case hV=>rfl
   rintro e W ⟨r,L,rfl,b⟩;clear hl;replace a:=aa b;clear b
  |refine aC 114 ?_;refine ab (by rfl) _ (ai _ 114 39 _ _ rfl cV 1 dv r 0 2 L rfl .i64 0 rfl (by decide) 0 (by decide)) ?_
  |refine ag 39 ?_;refine iX 39 r 0 rfl ?_
   obtain⟨q,h⟩:∃q,q=(l.drop 0).take 1:=⟨_,rfl⟩;have p:q.length=1:=by rw[h];exact oT l 0 1 97 N.out (by decide)
   obtain⟨vq,B,u,m⟩:=a.out.part 0 1 q (by rw[jc];decide) (by rw[h];exact xX [1,96] l 0 0 1 (by decide) (by decide) rfl rfl) p;obtain⟨C,o,A,n⟩:=m.row.cell 0 (by omega);subst A;obtain⟨y,f⟩:∃y,y=q.getD 0 0:=⟨_,rfl⟩;have M:CK.ok .u8 y:=by rw[f];exact G7 m.row.ok (by omega)
   rw[←f]at n;rw[h,bA _ _ _ _ (by decide)]at f;have z:=aa n;have J:=aa f;have V:=aa M.1;have U:=aa M.2;clear n f h p m M;refine dq (v:=(.slice (some ⟨C,o,none⟩) 1 B)) u bF ?_ rfl rfl rfl rfl;clear u
  |with_reducible refine(Bw y C o B _ V.out U.out z.out).mono ?_
   rintro e s ⟨⟨g,c1,rfl,hg,qv,h8,I⟩,hb⟩;have hV:=aa I;have fL:=a.out.size;have hgn:w.heap.size+1<g:=by omega
   have b:=a.out.later hb;clear I hb z V U;obtain⟨W,Q⟩:∃W,W=s:=⟨_,rfl⟩;subst Q;replace a:=aa b;clear hg fL
   clear b)
 go_loopw [9] (fun i wr=>∃j:Nat,j≤8∧i= .int .i64 (j:Int)∧Row wr (some ⟨g,0,none⟩) .bool (GQ y)∧g<wr.heap.size∧RqS w.heap.size 104 av 36 j (aY l) r L (cutL [1,96] l) w wr) (fun i _=>8-(intOf i).toNat)
 case atStart=>exact⟨0,by omega,rfl,hV.out,qv,a.out⟩
 case round=>
  obtain⟨j,O,rfl,H,F,b⟩:=hrel;replace a:=aa b;clear hV qv;have hV:=aa H;clear b H;by_cases d:j<8
  ·have lj:(j:Int)<8:=by omega
   obtain⟨bb,ob,A,P⟩:=hV.out.cell j (by rw[Bc];exact d);cases A;rw[J5 y j d,bY]at P;have Eh:=aa P;clear P;have D:av j= .bool:=by unfold av;rw[aj d]
   have BU:=aa D;clear D
   go_wp2_with (first
    |refine aC 88 ?_;refine ab (by rfl) _ (ai _ 88 4 _ _ rfl kW 1 gj g 0 8 c1 rfl .i64 j rfl d j (by omega)) ?_
    |refine ag 4 ?_;refine dq (v:=(CK.mk .bool (fv y j))) Eh.out GE ?_ rfl rfl rfl rfl
    |refine al 4 ?_;refine aH rfl fun K hK=>Zx 4 _ _ rfl j rfl (CK.mk .bool (fv y j)) rfl (fv y j) (by rw[BU.out]) gj a.out rfl (by omega) (by unfold aY;rw[aj d,J.out]) (fun s b R=>hK _ _ ?_);clear hK K
     have G:=aa (show Row s (some ⟨g,0,none⟩) .bool (GQ y)from⟨fun i hi=>by
      obtain⟨b3,o3,e3,S⟩:=hV.out.cell i hi;cases e3
      exact⟨g,0,rfl,(iP (w:=wr) (R.block g F (by omega))).trans S⟩,hV.out.ok⟩)
     have E:g<s.heap.size:=du F R.size;clear R;clear a Eh hV;have hV:=G;clear G;have a:=aa b
     clear b)
   first
    |exact⟨⟨j+1,by omega,by go_num,hV.out,E,a.out⟩,by simp[intOf];omega⟩
    |refine⟨?_,by simp[intOf];omega⟩
     (repeat apply Exists.intro)
     exact⟨⟨j+1,by omega,by go_num,hV.out,E,a.out⟩,rfl⟩
  ·have e:j=8:=by omega
   subst e;clear d O hV;go_wp2;rename_i qo
   go_loopw [10] (fun i wr=>∃j:Nat,j≤96∧i= .int .i64 (j:Int)∧RqS w.heap.size 104 av 36 (8+j) (aY l) r L (cutL [1,96] l) w wr) (fun i _=>96-(intOf i).toNat)
   case atStart=>exact⟨0,by omega,rfl,a.out⟩
   case round=>
    obtain⟨j,O,rfl,b⟩:=hrel;replace a:=aa b;clear b;by_cases d:j<96
    ·have lj:(j:Int)<96:=by omega
     go_wp2_with (first
      |refine aC 114 ?_;refine ab (by rfl) _ (ai _ 114 39 _ _ rfl cV 1 dv r 0 2 L rfl .i64 1 rfl (by decide) 1 (by decide)) ?_
      |refine ag 39 ?_;refine iX 39 r 1 rfl ?_
       obtain⟨q,h⟩:∃q,q=(l.drop 1).take 96:=⟨_,rfl⟩;have p:q.length=96:=by rw[h];exact oT l 1 96 97 N.out (by decide)
       obtain⟨vq,B,u,m⟩:=a.out.part 1 96 q (by rw[jc];decide) (by rw[h];exact xX [1,96] l 1 1 96 (by decide) (by decide) rfl rfl) p;have Z:=aa h;have Y:=aa p;clear h p;obtain⟨C,o,A,n⟩:=m.row.cell j (by rw[Y.out];exact d);subst A;obtain⟨y,f⟩:∃y,y=q.getD j 0:=⟨_,rfl⟩;rw[←f]at n;have z:=aa n;have J:=aa f;clear n f;refine dq (v:=(.slice (some ⟨C,o,none⟩) 96 B)) u bF ?_ rfl rfl rfl rfl;have hq:=aa m;clear m u
      |refine aC 39 ?_;refine ab (by rfl) _ (ai _ 39 5 _ _ rfl bF 1 cR C o 96 B rfl .i64 j rfl d (o+j) (by omega)) ?_
      |refine ag 5 ?_;refine dq (v:=(.int .u8 y)) z.out sE ?_ rfl rfl rfl rfl
      |refine al 5 ?_;refine wI rfl 5 _ _ rfl (8+j) rfl (.int .u8 y) rfl y (by rw[Vw 96 j d];rfl) cR a.out rfl (by omega) (by rw[J.out,Z.out,bA _ _ _ _ d];unfold aY;rw[an (by omega)];congr 1<;>omega) (fun s b=>?_)
       obtain⟨W,Q⟩:∃W,W=s:=⟨_,rfl⟩;subst Q;clear Z Y J z hq;replace a:=aa b
       clear b)
     first
      |exact⟨⟨j+1,by omega,by go_num,a.out⟩,by simp[intOf];omega⟩
      |refine⟨?_,by simp[intOf];omega⟩
       (repeat apply Exists.intro)
       exact⟨⟨j+1,by omega,by go_num,a.out⟩,rfl⟩
    ·have e:j=96:=by omega
     subst e;clear d O
     go_wp2_with (first
      |refine ag 36 ?_;refine ab (by rfl) _ (ay _ 36 _ (by rfl) (w.heap.size+1) (by rfl) _ _ (0,0) _ a.out.res GK rfl (by rw[ah cL];simp[ae])) ?_
      |refine al 36 ?_;refine aF 36 w.heap.size 0 rfl ?_;refine aq (w0:=w) (n0:=w.heap.size) 36 _ _ rfl rfl w.heap.size rfl _ rfl (aA _ _ _) (by rw[ah cL];simp[ae]) _ 36 a.out.hR (by simp[ae]) (by omega) a.out.hB (fun W9 gM dY _=>?_))
     exact aI rfl w.heap.size 0 (ae 104 av (aY l)) _ rfl gM GK rfl (by rw[ah cL,ac]) rfl ⟨rfl,dY⟩
def U' (f) (h:∀j,j<8→f j=0∨f j=1):bitN (ff f 0 8) 8=f 0+2*f 1+4*f 2+8*f 3+16*f 4+32*f 5+64*f 6+128*f 7:=by
 have g:∀j,j<8→(if (ff f 0 8).getD j 0=0 then(0:Int)else 2^j)=2^j*f j:=fun j a=>by
  rw[n9 _ _ _ _ a,bY];rcases h j a with e|e<;>rw[e]
  ·rw[aj rfl,Int.mul_zero]
  ·rw[an (by decide),Int.mul_one]
 simp only[bitN];rw[g 0 (by decide),g 1 (by decide),g 2 (by decide),g 3 (by decide),g 4 (by decide),g 5 (by decide),g 6 (by decide),g 7 (by decide)];omega
def WK (y) (d:0≤y) (c:y≤255) (f) (a:∀j,j<8→f j=fv y j):Bq f=y:=by unfold Bq;rw[U' f (fun j b=>by rw[a j b];exact Ht y j),a 0 (by decide),a 1 (by decide),a 2 (by decide),a 3 (by decide),a 4 (by decide),a 5 (by decide),a 6 (by decide),a 7 (by decide)];unfold fv;show y/1%2+2*(y/2%2)+4*(y/4%2)+8*(y/8%2)+16*(y/16%2)+32*(y/32%2)+64*(y/64%2)+128*(y/128%2)=y;omega
def wX {l} (hl:l.length=97) (a:∀x∈l,CK.ok .u8 x) (k) (b:k<104):(av k).ok (aY l k):=by
 unfold aY av;by_cases c:k<8
 ·rw[aj c,aj c]
  exact Ht _ _
 ·rw[an c,an c]
  exact G7 a (by omega)
def vj (l) (hl:l.length=97) (d:∀x∈l,CK.ok .u8 x):cN (aY l)=l:=by
 have b:CK.ok .u8 (l.getD 0 0):=G7 d (by omega);unfold cN;rw[WK (l.getD 0 0) b.1 b.2 _ (fun j c=>by unfold aY;rw[aj c]),tG (aY l) l 8 1 96 (fun j c=>by unfold aY;rw[an (by omega)];congr 1;omega) (by omega)];cases l with
 |nil=>simp at hl
 |cons a l=>simp only[List.length_cons]at hl;simp[kL (show l.length≤96 by omega)]
def jC:rg:=[some 96,some 32,none,some 32,some 32]
structure Bo where
 f:Nat→Int
 g:Nat→Int
 ps:List (Nat→Int)
 ss:List (Ix×Ix)
 zp:List At
 ds:List (Nat→Int)
 es:List (Nat→Int)
def cJ (f g:Nat→Int) (e d c b a:Value):List Value:=ae 193 (kdF jC) f++([e,d,c,b,a]++ae 104 av g)
def eP (f g e d c b a):(cJ f g e d c b a).length=302:=by simp[cJ,ac]
structure Bo.ok (b:Bo):Prop where
 hf:uu 193 (kdF jC) b.f
 hg:uu 104 av b.g
 ps:∀a∈b.ps,nE.ok a
 ss:∀a∈b.ss,nk.ok a
 zp:∀a∈b.zp,mO.ok a
 ds:∀a∈b.ds,nG.ok a
 es:∀a∈b.es,nF.ok a
 n3:b.ps.length≤1048576
 n4:b.ss.length≤1048576
 n5:b.zp.length≤1048576
 n6:b.ds.length≤1048576
 n7:b.es.length≤1048576
structure Bo.at (b:Bo) (v3 v4 v5 v6 v7:Value) (W:World):Prop where
 l3:qf nE b.ps v3 W
 l4:qf nk b.ss v4 W
 l5:qf mO b.zp v5 W
 l6:qf nG b.ds v6 W
 l7:qf nF b.es v7 W
def Bo.at.later {b:Bo} {g f e d c:Value} {W W'} (h:b.at g f e d c W) (a:Below W.heap.size W W'):b.at g f e d c W':=⟨h.l3.later h_ a,h.l4.later gy a,h.l5.later gx a,h.l6.later ib a,h.l7.later ia a⟩
def wy {b:Type} (e:El b) (l:List b) (q:Nat):Int:=if (∃a∈l.take q,e.E a≠0)then 6 else 0
def uM {a:Type} (e:El a) (l:List a):wy e l 0=0:=by simp[wy]
def qX {f:Type} {e:El f} (he:e.Ok) {l:List f} {q a} (ha:l[q]?=some a):(if wy e l q=0 then e.E a else wy e l q)=wy e l (q+1):=by
 have g:l.take (q+1)=l.take q++[a]:=by rw[s6,ha];rfl
 unfold wy;rw[g];by_cases h:∃a∈l.take q,e.E a≠0
 ·have b:∃x∈l.take q++[a],e.E x≠0:=by obtain⟨x,c,b⟩:=h;exact⟨x,List.mem_append_left _ c,b⟩
  simp only[aj h,aj b];rfl
 ·simp only[an h,pC]
  by_cases d:e.E a=0
  ·have b:¬ ∃x∈l.take q++[a],e.E x≠0:=by
    rintro⟨x,c,b⟩;rcases iD.1 c with c|c
    ·exact h ⟨x,c,b⟩
    ·rw[jJ.1 c]at b
     exact b d
   rw[an b,d]
  ·have b:∃x∈l.take q++[a],e.E x≠0:=⟨a,by simp,d⟩
   rw[aj b];exact(he.Eis a).resolve_left d
structure lu (n:Nat) (C:List Value) (t:TypeId) (N:Nat) (hd rs:List Int) (hs es:List Nat) (er:Int) (L M:Nat) (sL uq:List Int) (mB zi:List Nat) (p_:Int) (w W:World):Prop where
 hI:dD n C t N hd rs hs es er w W
 hL:sA M L sL uq mB zi p_ W
 hN:N≤L
 hM:L+1≤M
 hW:M≤W.heap.size
section
variable {n:Nat} {C:List Value} {t:TypeId} {N:Nat} {hd rs:List Int} {hs es:List Nat} {er:Int} {L M:Nat} {sL uq:List Int} {mB zi:List Nat} {p_:Int} {w W W':World} {Q:Ending→World→Prop}
theorem lu.begin (h:dD n C t N hd rs hs es er w W):lu n C t W.heap.size hd rs hs es er W.heap.size (W.heap.size+1) [] [] [] [] 0 w (W.alloc (.cells (nX (.slice none 0 0) (.slice none 0 0) (.slice none 0 0) (.slice none 0 0) 0) 65)):=by obtain⟨b,a⟩:=h.more W.heap.size rfl;exact⟨b,a.bound _ (by simp),cD _,cD _,by simp⟩
theorem lu.later (h:lu n C t N hd rs hs es er L M sL uq mB zi p_ w W) (a:Below W.heap.size W W'):lu n C t N hd rs hs es er L M sL uq mB zi p_ w W':=⟨h.hI.later a,h.hL.later a,h.hN,h.hM,bg h.hW a.size⟩
theorem lu.step {a c d b f} (h:lu n C t N hd rs hs es er L M sL uq mB zi p_ w W) (e:mA L a c d b f W') (g:Below L W W'):lu n C t N hd rs hs es er L W'.heap.size a c d b f w W':=⟨h.hI.upon (g.mono h.hN),e.bound _ bG,h.hN,e.size,cD _⟩
theorem lu.SM (h:lu n C t N hd rs hs es er L M sL uq mB zi p_ w W) {m k c a d} (f:bc M (.slice a k c) m W) (g:m.length=k) (b:sL.length+k≤70368744170000) (e:∀W',Hid (lu n C t N hd rs hs es er L W'.heap.size (sL++m) uq mB zi (if p_=0 then d else p_) w W')→Q (.returned (.tuple #[])) W'):Calls prog 28 #[.pointer (some ⟨L,0,none⟩),.slice a k c,.int .i64 d] W Q:=by subst g;exact(P6 M L sL uq m mB zi p_ d a c W h.hL h.hM f b).mono fun _ _ ⟨b,j,i⟩=>by rw[b];exact e _ (h.step j i)
theorem lu.wE (h:lu n C t N hd rs hs es er L M sL uq mB zi p_ w W) {m k c a f} (i:bc M (.slice a k c) m W) (j:m.length=k) (e:sL.length≤70368744170000) (d:uq.length+k≤70368744170000) (b:mB.length≤1000000000) (l:zi.length≤1000000000) (g:∀W',Hid (lu n C t N hd rs hs es er L W'.heap.size (sL++[0,0,0,0]) (uq++m) (mB++[sL.length]) (zi++[uq.length]) (if p_=0 then f else p_) w W')→Q (.returned (.tuple #[])) W'):Calls prog 30 #[.pointer (some ⟨L,0,none⟩),.slice a k c,.int .i64 f] W Q:=by subst j;exact(Dz M L sL uq m mB zi p_ f a c W h.hL h.hM i e d b l).mono fun _ _ ⟨e,d,b⟩=>by rw[e];exact g _ (h.step d b)
theorem lu.kR (h:lu n C t N hd rs hs es er L M sL uq mB zi p_ w W) {m k c a} (b:cG a c m W) (f:m.length=k) (d:sL.length+k≤70368744170000) (e:∀W',Hid (lu n C t N hd rs hs es er L W'.heap.size (sL++m) uq mB zi p_ w W')→Q (.returned (.tuple #[])) W'):Calls prog 25 #[.pointer (some ⟨L,0,none⟩),.slice a k c] W Q:=by subst f;exact(DB L sL uq m mB zi p_ a c W h.hL.gen b.row b.nil (by omega)).mono fun _ _ ⟨d,i,g⟩=>by rw[d];exact e _ (h.step i g)
end
def Jr {b e k c m w} (h:bc b (.slice e k c) m w):k=m.length:=by
 rcases h.2 with⟨a,d⟩|⟨g,i,f,a,d,l,j⟩
 ·injection a with _ a _
  rw[a,d]
 ·injection a
section
variable {n:Nat} {C:List Value} {t:TypeId} {N:Nat} {hd rs:List Int} {hs es:List Nat} {er:Int} {L M:Nat} {sL uq:List Int} {mB zi:List Nat} {p_:Int} {w W W':World} {Q:Ending→World→Prop}
theorem lu.mI {m S} (h:lu n C t N hd rs hs es er L M sL uq mB zi p_ w W) (o:p_=0→oN sL uq mB zi=m) (l:p_≠0→m=[]) (r:m.length=S) (s:mB.length=zi.length) (q:∀i,i<mB.length→mB.getD i 0+4≤sL.length) (p:∀i,i<mB.length→zi.getD i 0≤70368744170000) (d:sL.length+uq.length≤70368744170000) (y:mB.length≤1000000000) (k:∀a c W',(a=none→c=0)→Hid (bc N (.slice a S c) m W')→Hid (dD n C t N hd rs hs es er w W')→Hid (N≤W'.heap.size)→Q (.returned (.tuple #[.slice a S c,.int .i64 p_])) W'):Calls prog 31 #[.pointer (some ⟨L,0,none⟩)] W Q:=by
 subst r;by_cases he:p_=0
 ·subst he
  refine(zN L sL uq mB zi W h.hL.gen s q p d y).mono fun _ j ⟨⟨a,c,f,v,e⟩,g⟩=>?_;rw[o rfl]at e;have u:=Jr e;rw[u]at f e;rw[f];have b:=h.hI.upon (g.mono h.hN);exact k a c j v (aa (lh e (bg h.hN (Nat.le_succ L)))) (aa b) (aa b.hW)
 ·refine(DA L sL uq mB zi p_ W h.hL.gen he).mono fun _ j ⟨f,g⟩=>?_
  have b:=h.hI.later g;obtain rfl:=l he;rw[f];exact k none 0 j (fun _=>rfl) (aa (bc.nil _ _)) (aa b) (aa b.hW)
end
structure Bt (zs:List Nat) (ps:List (List Int)):Prop where
 fits:Fits zs ps
 head:headN zs≤1000000
 rest:∀k,k≤zs.length→(layK 0 zs ps k).2.length≤70368740000000
 many:zs.length≤1000
def fJ (n:Nat) (C:List Value) (t:TypeId) (N:Nat) (zs:List Nat) (ps:List (List Int)) (k:Nat) (er:Int) (w W:World):Prop:=dD n C t N (rawA zs ps k) (layK 0 zs ps k).2 (cutA zs k) (BF zs ps k) er w W
section
variable {n:Nat} {C:List Value} {t:TypeId} {N:Nat} {zs:List Nat} {ps:List (List Int)} {k:Nat} {er:Int} {w W W':World} {Q:Ending→World→Prop}
theorem Bt.raw (h:Bt zs ps) (a:k≤zs.length):(rawA zs ps k).length≤1000000:=by obtain⟨T,e⟩:=CU (zs:=zs) (ps:=ps) k zs.length a;have c:=fB List.length e;have b:=nv h.fits zs.length bG;rw[gC]at b;rw[bM]at c;have d:=h.head;omega
theorem Bt.ac7 (h:Bt zs ps) (a:k≤zs.length):(cutA zs k).length≤1000000000:=by have c:=Hr zs k;have b:=h.many;omega
theorem fJ.tr (h:fJ n C t N zs ps k er w W) {a} (b:∀W',Hid (fJ n C t W'.heap.size zs ps k (if er=0 then a else er) w W')→Q (.returned (.tuple #[])) W'):Calls prog 27 #[.pointer (some ⟨n+1,0,none⟩),.int .i64 a] W Q:=(dD.fail h a).mono fun _ _ ⟨d,c⟩=>by rw[d];exact b _ (aa c)
theorem fJ.kA (h:fJ n C t N zs ps k er w W) (hL:Bt zs ps) (g:k<zs.length) (d:zs.getD k 0≠0) {m a s c} (e:ps.getD k []=m) (hs:cG a c m W) (hl:m.length=s) (f:∀W',Hid (fJ n C t W'.heap.size zs ps (k+1) er w W')→Q (.returned (.tuple #[])) W'):Calls prog 25 #[.pointer (some ⟨n+1,0,none⟩),.slice a s c] W Q:=by have b:=hL.raw (k:=k+1) g;simp only[rawA,an d,e,bM]at b;refine(dD.app h m s a c hs hl (by omega)).mono fun _ j ⟨b,i⟩=>?_;rw[b];refine f _ (aa ?_);unfold fJ;simp only[rawA,layK,cutA,BF,an d,e];exact i
theorem fJ.Bk (h:fJ n C t N zs ps k er w W) (hL:Bt zs ps) (f:k<zs.length) (c:zs.getD k 0≠0) {m} (d:ps.getD k []=fH m) (b:∀W',Hid (fJ n C t W'.heap.size zs ps (k+1) er w W')→Q (.returned (.tuple #[])) W'):Calls prog 83 #[.pointer (some ⟨n+1,0,none⟩),.int .u64 m] W Q:=by have a:=hL.raw (k:=k) (by omega);refine(dD.u64 h m (by omega)).mono fun _ g ⟨a,e⟩=>?_;rw[a];refine b _ (aa ?_);unfold fJ;simp only[rawA,layK,cutA,BF,an c,d];exact e
theorem fJ.putK (h:fJ n C t N zs ps k er w W) (hL:Bt zs ps) (l:k<zs.length) (e:zs.getD k 0=0) {m a s c d} (f:ps.getD k []=m) (hs:bc N (.slice a s c) m W) (hl:m.length=s) (j:∀W',Hid (fJ n C t W'.heap.size zs ps (k+1) (if er=0 then d else er) w W')→Q (.returned (.tuple #[])) W'):Calls prog 30 #[.pointer (some ⟨n+1,0,none⟩),.slice a s c,.int .i64 d] W Q:=by have i:=hL.raw (k:=k) (by omega);have b:=hL.rest (k+1) l;simp only[layK,aj e,f,bM]at b;have g:=hL.ac7 (k:=k) (by omega);refine(dD.put h m s a c d hs hl (by omega) (by omega) g (by rw[mZ];exact g)).mono fun _ o ⟨i,b⟩=>?_;rw[i];refine j _ (aa ?_);unfold fJ;simp only[rawA,layK,cutA,BF,aj e,f];rw[←nv hL.fits k (by omega)];exact b
end
section
variable {n:Nat} {C:List Value} {t:TypeId} {N:Nat} {zs:List Nat} {ps:List (List Int)} {k:Nat} {er:Int} {w W W':World} {Q:Ending→World→Prop}
theorem F' {l x i} (a:i<(l++[x]).length):(i<l.length∧(l++[x]).getD i 0=l.getD i 0)∨(l++[x]).getD i 0=x:=by
 rw[bM,List.length_singleton]at a;by_cases h:i<l.length
 ·exact Or.inl ⟨h,by simp[List.getD,eY h]⟩
 ·obtain rfl:i=l.length:=by omega
  exact Or.inr (by simp[List.getD])
theorem Tp (hF:Fits zs ps):∀k,k≤zs.length→∀i,i<(cutA zs k).length→(cutA zs k).getD i 0+4≤(rawA zs ps k).length
 |0,_,i,hi=>by simp[cutA]at hi
 |k+1,e,i,hi=>by
  have b:=Tp hF k (by omega);by_cases c:zs.getD k 0=0
  ·simp only[cutA,rawA,aj c]at hi ⊢
   rw[bM];rcases F' hi with⟨d,a⟩|a
   ·rw[a]
    have:=b i d;omega
   ·rw[a,nv hF k (by omega)]
    exact cD _
  ·simp only[cutA,rawA,an c]at hi ⊢
   rw[bM];have:=b i hi;omega
theorem Yh:∀k,∀i,i<(BF zs ps k).length→(BF zs ps k).getD i 0≤(layK 0 zs ps k).2.length
 |0,i,hi=>by simp[BF]at hi
 |k+1,i,hi=>by
  have b:=Yh k;by_cases c:zs.getD k 0=0
  ·simp only[BF,layK,aj c]at hi ⊢
   rw[bM];rcases F' hi with⟨d,a⟩|a
   ·rw[a]
    have:=b i d;omega
   ·rw[a]
    omega
  ·simp only[BF,layK,an c]at hi ⊢
   exact b i hi
theorem fJ.mI (h:fJ n C t N zs ps k er w W) (o:k=zs.length) (hL:Bt zs ps) {m S} (l:(if er=0 then eS zs ps else[])=m) (q:m.length=S) (e:∀a c W',(a=none→c=0)→bc n (.slice a S c) m W'→Below n w W'→Q (.returned (.tuple #[.slice a S c,.int .i64 er])) W'):Calls prog 31 #[.pointer (some ⟨n+1,0,none⟩)] W Q:=by
 subst o;subst q;subst l;by_cases he:er=0
 ·subst he
  have b:=hL.raw (k:=zs.length) bG;have j:=hL.rest zs.length bG;refine(dD.done h _ rfl (mZ _).symm (Tp hL.fits zs.length bG) (fun i p=>?_) (by omega) (hL.ac7 bG)).mono fun _ g ⟨⟨a,c,b,j,d⟩,f⟩=>?_
  ·exact bg (Yh _ i (by rw[mZ];exact p)) (by omega)
  ·rw[UU hL.fits]at d
   have r:=Jr d;rw[r]at b d;rw[b];exact e a c g j d f
 ·refine(dD.xO h he).mono fun _ g ⟨b,f⟩=>?_
  rw[b];simp only[an he]at e ⊢;exact e none 0 g (fun _=>rfl) (bc.nil _ _) f
end
def wD {α:Type} {e:El α} (he:e.Ok):∀l:List α,(l.map e.L).flatten.length≤4000*l.length
 |[]=>by simp
 |a::l=>by have c:=wD he l;have b:=he.O' a;rw[qC,List.flatten_cons,bM,List.length_cons];omega
def ym {α:Type} (e:El α) {l:List α} {q a} (ha:l[q]?=some a):((l.take (q+1)).map e.L).flatten=((l.take q).map e.L).flatten++e.L a:=by rw[s6,ha];simp
section
variable {α:Type} {e:El α} {l:List α} {q:Nat} {a:α} {n:Nat} {C:List Value} {t:TypeId} {N:Nat} {hd rs:List Int} {hs es:List Nat} {er:Int} {L M:Nat} {w W W':World} {Q:Ending→World→Prop}
theorem uy (he:e.Ok) (hl:l.length≤1048576):((l.take q).map e.L).flatten.length≤4194304000:=by have b:=wD he (l.take q);rw[cf]at b;have c:=NF q l.length;omega
def wC (e:El α) (l:List α) (q:Nat) (n:Nat) (C:List Value) (t:TypeId) (N:Nat) (hd rs:List Int) (hs es:List Nat) (er:Int) (L M:Nat) (w W:World):Prop:=lu n C t N hd rs hs es er L M ((l.take q).map e.L).flatten [] [] [] (wy e l q) w W
def zy (e:El α) (l:List α) (q:Nat) (n:Nat) (C:List Value) (t:TypeId) (N:Nat) (hd rs:List Int) (hs es:List Nat) (er:Int) (L M:Nat) (w W:World):Prop:=lu n C t N hd rs hs es er L M (List.replicate (4*q) 0) ((l.take q).map e.L).flatten (Rk q) (Q9 (l.map e.L) q) (wy e l q) w W
theorem wC.zero (e:El α) (l:List α) (h:dD n C t N hd rs hs es er w W):wC e l 0 n C t W.heap.size hd rs hs es er W.heap.size (W.heap.size+1) w (W.alloc (.cells (nX (.slice none 0 0) (.slice none 0 0) (.slice none 0 0) (.slice none 0 0) 0) 65)):=by unfold wC;rw[uM];exact lu.begin h
theorem zy.zero (e:El α) (l:List α) (h:dD n C t N hd rs hs es er w W):zy e l 0 n C t W.heap.size hd rs hs es er W.heap.size (W.heap.size+1) w (W.alloc (.cells (nX (.slice none 0 0) (.slice none 0 0) (.slice none 0 0) (.slice none 0 0) 0) 65)):=by unfold zy;rw[uM];exact lu.begin h
theorem wC.SH (h:wC e l q n C t N hd rs hs es er L M w W) (he:e.Ok) (hl:l.length≤1048576) (ha:l[q]?=some a) {b c} (f:bc M (.slice b (e.L a).length c) (e.L a) W) (d:∀W',Hid (wC e l (q+1) n C t N hd rs hs es er L W'.heap.size w W')→Q (.returned (.tuple #[])) W'):Calls prog 28 #[.pointer (some ⟨L,0,none⟩),.slice b (e.L a).length c,.int .i64 (e.E a)] W Q:=by have k:=uy (q:=q) he hl;have j:=he.O' a;refine lu.SM h f rfl (by omega) fun i g=>d i ?_;unfold wC;rw[ym e ha,←qX he ha];exact g
theorem zy.SH (h:zy e l q n C t N hd rs hs es er L M w W) (he:e.Ok) (hl:l.length≤1048576) (ha:l[q]?=some a) {b c} (i:bc M (.slice b (e.L a).length c) (e.L a) W) (f:∀W',Hid (zy e l (q+1) n C t N hd rs hs es er L W'.heap.size w W')→Q (.returned (.tuple #[])) W'):Calls prog 30 #[.pointer (some ⟨L,0,none⟩),.slice b (e.L a).length c,.int .i64 (e.E a)] W Q:=by
 have o:=uy (q:=q) he hl;have m:=he.O' a
 have k:q<l.length:=by
  by_cases g:q<l.length
  ·exact g
  ·rw[eT (by omega)]at ha
   exact absurd ha (by simp)
 refine lu.wE h i rfl (by rw[vK];omega) (by omega) (by rw[mV];omega) (by rw[DT];omega) fun j d=>f j ?_;unfold zy;rw[ym e ha,←qX he ha,←UC,←UI,←List.map_take];rw[vK]at d;rw[show 4*(q+1)=4*q+4 by omega,←XU];exact d
end
def jf {α:Type} (e:El α) (l:List α):Int:=wy e l l.length
def f_ {α:Type} (e:El α) (l:List α):List Int:=if jf e l=0 then(l.map e.L).flatten else[]
def iR {α:Type} (e:El α) (l:List α):List Int:=if jf e l=0 then lZ (l.map e.L)else[]
def sr (a:List (List Int)):∀i,(a.take i).flatten.length≤a.flatten.length:=fun i=>by have h:=fB List.length (fB List.flatten (jI i a));rw[Sq,bM]at h;omega
section
variable {α:Type} {e:El α} {l:List α} {n:Nat} {C:List Value} {t:TypeId} {N:Nat} {hd rs:List Int} {hs es:List Nat} {er:Int} {L M:Nat} {w W W':World} {Q:Ending→World→Prop}
theorem wC.mI (h:wC e l l.length n C t N hd rs hs es er L M w W) (he:e.Ok) (hl:l.length≤1048576)
 (f:∀a c W',(a=none→c=0)→Hid (bc N (.slice a (f_ e l).length c) (f_ e l) W')→Hid (dD n C t N hd rs hs es er w W')→Hid (N≤W'.heap.size)→Q (.returned (.tuple #[.slice a (f_ e l).length c,.int .i64 (jf e l)])) W'):Calls prog 31 #[.pointer (some ⟨L,0,none⟩)] W Q:=by
 have g:=uy (q:=l.length) he hl;refine lu.mI h (m:=f_ e l) (fun d=>?_) (fun d=>an d) rfl rfl (fun i b=>by simp at b) (fun i b=>by simp at b) (by simpa using bg g (by decide)) (by simp) f;unfold f_ jf;rw[aj d,gC];simp[oN,gZ]
theorem zy.mI (h:zy e l l.length n C t N hd rs hs es er L M w W) (he:e.Ok) (hl:l.length≤1048576)
 (g:∀b c W',(b=none→c=0)→Hid (bc N (.slice b (iR e l).length c) (iR e l) W')→Hid (dD n C t N hd rs hs es er w W')→Hid (N≤W'.heap.size)→Q (.returned (.tuple #[.slice b (iR e l).length c,.int .i64 (jf e l)])) W'):Calls prog 31 #[.pointer (some ⟨L,0,none⟩)] W Q:=by
 have o:=uy (q:=l.length) he hl;have j:=gC (l:=l);refine lu.mI h (m:=iR e l) (fun d=>?_) (fun d=>an d) rfl (by rw[mV,DT]) (fun i a=>?_) (fun i a=>?_) (by rw[vK];omega) (by rw[mV];omega) g
 ·unfold iR jf
  rw[aj d,gC];have f:=QI (l.map e.L);rw[jK]at f;exact f
 ·rw[mV]at a
  rw[vK];simp[Rk,List.getD,a];omega
 ·rw[mV]at a
  have p:=sr (l.map e.L) i;rw[j]at o;have k:(Q9 (l.map e.L) l.length).getD i 0=((l.map e.L).take i).flatten.length:=by simp[Q9,List.getD,a]
  rw[k];omega
end
def c_:List Nat:=[96,72,32,0,0,0,0,0,97]
def Bo.pw (b:Bo):List (List Int):=[ff b.f 0 96,dF bN (fun j=>b.f (96+j)),ff b.f 161 32,f_ nE b.ps,iR nk b.ss,iR mO b.zp,f_ nG b.ds,f_ nF b.es,cN b.g]
def iF {b:Type} (e:El b) (m:Int) (l:List b) (a:Int):Int:=if (if decide ((l.length:Int)>m)then(if a=0 then 6 else a)else a)=0 then jf e l else(if decide ((l.length:Int)>m)then(if a=0 then 6 else a)else a)
def Bo.E (b:Bo):Int:=iF nF 2 b.es (iF nG 2 b.ds (iF mO 4 b.zp (iF nk 1 b.ss (iF nE 2 b.ps 0))))
def Bo.L (b:Bo):List Int:=if b.E=0 then eS c_ b.pw else[]
def qK {a:Type} {e:El a} (he:e.Ok) {l:List a} (hl:l.length≤1048576):(f_ e l).length≤10000000000:=by
 unfold f_;split
 ·have:=wD he l
  omega
 ·simp
def OE {a n} (h:a.flatten.length≤n):(lZ a).length≤4*a.length+n:=by rw[A7,(mR a _ a.length a.length bG).1,tJ a a.length bG,gC];omega
def yh {a:Type} {e:El a} (he:e.Ok) {l:List a} (hl:l.length≤1048576):(iR e l).length≤10000000000:=by
 unfold iR;split
 ·have b:=OE (wD he l)
  rw[jK]at b;omega
 ·simp
def Bo.fits (b:Bo):Fits c_ b.pw:=by
 refine⟨rfl,fun i c a=>?_⟩
 match i,c with
 |0,_=>exact az _ _ _
 |1,_=>exact ez _ _
 |2,_=>exact az _ _ _
 |3,_=>exact absurd rfl a
 |4,_=>exact absurd rfl a
 |5,_=>exact absurd rfl a
 |6,_=>exact absurd rfl a
 |7,_=>exact absurd rfl a
 |8,_=>exact gn _
def MA (H a b k):(layK H a b k).2.length≤(layK H a b (k+1)).2.length:=by
 simp only[layK];split
 ·rw[bM];omega
 ·exact cD _
def yp (H:Nat) (a:List Nat) (b:List (List Int)) (k:Nat):∀n,k≤n→(layK H a b k).2.length≤(layK H a b n).2.length
 |0,h=>by obtain rfl:k=0:=by omega
          exact cD _
 |n+1,h=>by
  by_cases c:k=n+1
  ·subst c;exact cD _
  ·exact bg (yp H a b k n (by omega)) (MA H a b n)
def Bo.agA {b:Bo} (a:b.ok):Bt c_ b.pw:=by refine⟨b.fits,by decide,fun k c=>bg (yp 0 c_ b.pw k 9 c) ?_,by decide⟩;have i:=qK h_ a.n3;have h:=yh gy a.n4;have g:=yh gx a.n5;have f:=qK ib a.n6;have d:=qK ia a.n7;have e:(layK 0 c_ b.pw 9).2=([]++f_ nE b.ps++iR nk b.ss++iR mO b.zp++f_ nG b.ds++f_ nF b.es):=rfl;rw[e];simp only[bM,List.length_nil];omega
def jn {off len r kd ii f} (b:∀j,j<len→kd (off+j)=ii j):ae (off+(len+r)) kd f=ae off kd f++(ae len ii (fb f off)++ae r (fun j=>kd (off+(len+j))) (fb f (off+len))):=by
 refine mG fun j=>?_;by_cases h:j<off
 ·rw[eY (by rw[ac];exact h),aN _ _ _ _ h,aN _ _ _ _ (by omega)]
 ·rw[fT (by rw[ac];omega),ac]
  obtain⟨i,rfl⟩:∃i,j=off+i:=⟨j-off,by omega⟩;rw[jH];by_cases a:i<len
  ·rw[eY (by rw[ac];exact a),aN _ _ _ _ a,aN _ _ _ _ (by omega),b i a]
   rfl
  ·rw[fT (by rw[ac];omega),ac]
   obtain⟨q,rfl⟩:∃q,i=len+q:=⟨i-len,by omega⟩;rw[jH];by_cases c:q<r
   ·rw[aN _ _ _ _ c,aN _ _ _ _ (by omega)]
    show some ((kd (off+(len+q))).mk (f (off+(len+q))))=some ((kd (off+(len+q))).mk (f (off+len+q)));rw[oF]
   ·rw[eT (by rw[ac];omega),eT (by rw[ac];omega)]
def oX {f g v3 v4 v5 v6 v7} (a b d) (e:Cq (kdF jC) a b d=true) (k:a+b≤193):∃c,cJ f g v3 v4 v5 v6 v7=ae a (kdF jC) f++(ae b d (fb f a)++c):=by have h:=jn (off:=a) (len:=b) (r:=193-a-b) (kd:=kdF jC) (ii:=d) (f:=f) (bB e);rw[show a+(b+(193-a-b))=193 by omega]at h;refine⟨ae (193-a-b) (fun j=>kdF jC (a+(b+j))) (fb f (a+b))++([v3,v4,v5,v6,v7]++ae 104 av g),?_⟩;unfold cJ;rw[h];simp only[dA]
def bQ (f g e d c b a i v) (h:[e,d,c,b,a][i]?=some v):(cJ f g e d c b a)[193+i]?=some v:=by unfold cJ;rw[fT (by rw[ac];omega),ac,jH,eY (io.1 h).1];exact h
def uE {n f g l k j i d t s W} (h:W.heap[n]?=some (.cells (cJ f g l k j i d).toArray t s)) (r:uu 193 (kdF jC) f) (a c) (m:Cq (kdF jC) a c (fun _=> .u8)=true) (p:a+c≤193):cG (some ⟨n,a,none⟩) c (ff (fb f a) 0 c) W:=by obtain⟨q,e⟩:=oX (f:=f) (g:=g) (v3:=l) (v4:=k) (v5:=j) (v6:=i) (v7:=d) a c (fun _=> .u8) m p;exact⟨zI (dK h e a (ac _ _ _)) (d7 r (bB m) p),(fun e=>by cases e),by rw[az];exact cD _,fun b o e=>by cases e;exact aD h⟩
def headAt (k:Nat):Code→Bool
 | .region n _ _=>n==k
 | .seq a _=>headAt k a
 |_=>false
def pcAt (k:Nat):Code→Option Code
 | .seq a b=>if headAt k a then some a else match pcAt k a with|some c=>some c|none=>pcAt k b
 | .block _ c=>pcAt k c
 | .loop c=>pcAt k c
 | .region n o d=>if n==k then some (.region n o d)else none
 |_=>none
def pc (k:Nat) (f:Func):Code:=match f.body with|some c=>(match pcAt k c with|some d=>d|none=> .skip)|none=> .skip
def pq (k:Nat) (f:Func):Code:=pc k f
def gd (k) {f P Q a w} (h:(pq k f).wp P Q a w):(pq k f).wp P Q a w:=h
section
variable {ops:Array Oper} {Q:Exit→Act→World→Prop} {rest:List Oper} {a:Act} {d:Option Tmp} {D:Tmp} {ty T E:TypeId} {pos pos':String} {af O9:Array Edge} {x y:Operand} {W:World} {α:Type} {e:El α} {l:List α} {v:Value} {q:Nat} {u:α} {b p:Nat} {cs:List Value}
theorem u5 {n} {C:List Value} {t j} (g:W.heap[n]?=some (.cells C.toArray t (0,0))) (h:C[j]?=some v) (f:prog.underlying T=some (.slice E)) (c:a.eval x= .pointer (some ⟨n,j,none⟩)) (k:wpList prog ops Q rest (a.put d v) W):wpList prog ops Q (⟨d,.load T x,ty,pos,af,none⟩::rest) a W:=ab rfl _ (au _ T _ rfl ⟨n,j,none⟩ c v (by rw[br _ _ _ _ _ _ g,fu];exact h) _ f rfl) k
def Rc (e:El α) (u:α) (b p:Nat) (cs:List Value) (W:World):Prop:=W.rangeAt b p cs∧e.R u cs W∧cs.length=e.N∧cs.toArray.all (·.oneCell')=true
theorem Rc.r (h:Rc e u b p cs W):e.R u cs W:=h.2.1
theorem El.Ok.all (he:e.Ok) (h:e.R u cs W):cs.toArray.all (·.oneCell')=true:=by rw[vM,nn];exact he.one h
theorem qf.get {f m c} (h:qf e l (.slice f m c) W) (he:e.Ok) (ha:l[q]?=some u):∃b o cs,f=some ⟨b,o,none⟩∧Rc e u b (o+q*e.N) cs W:=by obtain⟨f,c,r,z,j⟩:=h;cases r;obtain⟨b,o,cs,rfl,i,g,s⟩:=j q u ha;exact⟨b,o,cs,rfl,i,g,he.len g,he.all g⟩
theorem qf.blk {b o m c} (h:qf e l (.slice (some ⟨b,o,none⟩) m c) W) (ha:l[q]?=some u):b<W.heap.size:=by obtain⟨r,c,i,s,g⟩:=h;cases i;obtain⟨_,_,_,j,_,_,f⟩:=g q u ha;cases j;exact f
theorem ixE (he:e.Ok) (h:e.t=E) (j:prog.underlying T=some (.slice E)) {o n c} (g:a.eval x= .slice (some ⟨b,o,none⟩) n c) (f:a.eval y= .int .i64 (q:Int)) (i:q<n) (k:wpList prog ops Q rest (a.put d (.pointer (some ⟨b,o+q*e.N,none⟩))) W):wpList prog ops Q (⟨d,.indexAddr T x y,ty,pos,af,none⟩::rest) a W:=ab rfl _ (ai _ T E _ _ rfl j e.N (by rw[←h];exact ah he.row) b o n c g .i64 q f i _ rfl) k
theorem ldE (he:e.Ok) (f:e.t=E) (c:a.eval x= .pointer (some ⟨b,p,none⟩)) (h:Rc e u b p cs W) (k:wpList prog ops Q rest (a.put d (.agg cs.toArray)) W):wpList prog ops Q (⟨d,.load E x,ty,pos,af,none⟩::rest) a W:=by subst f;obtain⟨_,g,i⟩:=he.und;exact ab rfl _ (ar _ e.t _ rfl b p c cs _ h.1 g i (by rw[ah he.row,h.2.2.1])) k
theorem alE (he:e.Ok) (o:e.t=E) (h:Rc e u b p cs W) (j:(a.put (some D) (.pointer (some ⟨W.heap.size,0,none⟩))).eval y= .agg cs.toArray)
 (k:∀W',Rc e u W.heap.size 0 cs W'→Below W.heap.size W W'→wpList prog ops Q rest ((a.put (some D) (.pointer (some ⟨W.heap.size,0,none⟩))).put d undef) W') (m:(a.put (some D) (.pointer (some ⟨W.heap.size,0,none⟩))).eval (.tmp D)= .pointer (some ⟨W.heap.size,0,none⟩)):wpList prog ops Q (⟨some D,.alloc E,T,pos,af,none⟩::⟨d,.store E (.tmp D) y,ty,pos',O9,none⟩::rest) a W:=by
 subst o;obtain⟨s,r,i,g⟩:=h;have c:cs.toArray.size=e.N:=by rw[cI,i]
 have f:Below W.heap.size W (W.alloc (.cells cs.toArray e.t)):=dt;refine aw rfl rfl e.t D y rfl rfl rfl cs.toArray m j (zeroOf prog e.t) ?_ ?_ g (k _ ⟨aE (ak _ _ _ _ rfl),he.Yy r f,i,g⟩ f)
 ·rw[c];exact(aG he.row).1
 ·rw[c];exact(aG he.row).2
end
def LB {α:Type} (f:Bool) (e:El α) (c:Nat):Prop:=match f with|false=>e.nm c|true=>e.fA c∧∀u,e.E u=0
def LB.p {α:Type} {e:El α} {c} (h:LB false e c):e.nm c:=h
def LB.s {α:Type} {e:El α} {c} (h:LB true e c):e.fA c:=h.1
def LB.z {α:Type} {e:El α} {c} (h:LB true e c) (u):e.E u=0:=h.2 u
def Rc.later {α:Type} {e:El α} (he:e.Ok) {u b p} {cs:List Value} {W W'} (h:Rc e u b p cs W) (c:Below W.heap.size W W') (hl:b<W.heap.size):Rc e u b p cs W':=⟨fun j x f=>(iP (w:=W) (c.block b hl)).trans (h.1 j x f),he.Yy h.2.1 c,h.2.2⟩
def I0 {α:Type} (fx:Bool) (e:El α) (l:List α):List Int:=if fx then f_ e l else iR e l
def jr {α:Type} (fx:Bool) (e:El α) (l:List α) (q n:Nat) (C:List Value) (t:TypeId) (N:Nat) (zs:List Nat) (ps:List (List Int)) (k:Nat) (er:Int) (L M:Nat) (w W:World):Prop:=if fx then wC e l q n C t N (rawA zs ps k) (layK 0 zs ps k).2 (cutA zs k) (BF zs ps k) er L M w W else zy e l q n C t N (rawA zs ps k) (layK 0 zs ps k).2 (cutA zs k) (BF zs ps k) er L M w W
section
variable {α:Type} {e:El α} {l:List α} {q:Nat} {u:α} {fx:Bool} {n:Nat} {C:List Value} {t:TypeId} {N:Nat} {zs:List Nat} {ps:List (List Int)} {k:Nat} {er:Int} {L M:Nat} {w W W':World} {Q:Ending→World→Prop}
theorem fJ.hX (h:fJ n C t N zs ps k er w W):W.heap[n]?=some (.cells C.toArray t (0,0)):=dD.hX h
theorem fJ.hB (h:fJ n C t N zs ps k er w W):Below n w W:=dD.hB h
theorem fJ.later (h:fJ n C t N zs ps k er w W) (c:Below W.heap.size W W'):fJ n C t N zs ps k er w W':=dD.later h c
theorem fJ.LT {ops R rest a d ty pos af} (zs ps) {D} (g:D=C.toArray) (c:∀W,Hid (fJ w.heap.size C t W.heap.size zs ps 0 0 w W)→wpList prog ops R rest (a.put (some d) (.pointer (some ⟨w.heap.size+1,0,none⟩))) W):wpList prog ops R (⟨some d,.alloc 65,ty,pos,af,none⟩::rest) a (w.alloc (.cells D t)):=aH rfl fun K f=>bT 65 rfl d rfl _ 5 oe (f _ _ (by rw[bn];exact c _ (dD.begin g rfl)))
theorem jr.hM (h:jr fx e l q n C t N zs ps k er L M w W):M≤W.heap.size:=by cases fx<;>exact lu.hW h
theorem jr.hI (h:jr fx e l q n C t N zs ps k er L M w W):fJ n C t N zs ps k er w W:=by cases fx<;>exact lu.hI h
theorem jr.later (h:jr fx e l q n C t N zs ps k er L M w W) (c:Below W.heap.size W W'):jr fx e l q n C t N zs ps k er L M w W':=by cases fx<;>exact lu.later h c
theorem jr.inv (h:jr fx e l 0 n C t N zs ps k er L M w W):∃I:Value→World→Prop,I (.int .i64 0) W∧(∀i c,I i c→∃q M,q≤l.length∧i= .int .i64 (q:Int)∧jr fx e l q n C t N zs ps k er L M w c)∧(∀i q M c,i= .int .i64 ((q+1:Nat):Int)→q<l.length→jr fx e l (q+1) n C t N zs ps k er L M w c→I i c):=⟨fun i c=>∃q M,q≤l.length∧i= .int .i64 (q:Int)∧jr fx e l q n C t N zs ps k er L M w c,⟨0,M,qB _,rfl,h⟩,fun _ _ h=>h,fun _ q M _ j g f=>⟨q+1,M,g,j,f⟩⟩
theorem jr.adp {P ops R rest a d ty pos af} (_:P=I0 fx e l) (h:fJ n C t N zs ps k er w W) (c:∀L W',Hid (jr fx e l 0 n C t L zs ps k er L (L+1) w W')→wpList prog ops R rest (a.put (some d) (.pointer (some ⟨L,0,none⟩))) W'):wpList prog ops R (⟨some d,.alloc 65,ty,pos,af,none⟩::rest) a W:=aH rfl fun K f=>bT 65 rfl d rfl _ 5 oe (f _ _ (c _ _ (by cases fx;exact zy.zero e l h;exact wC.zero e l h)))
theorem jr.mJ (h:jr fx e l q n C t N zs ps k er L M w W) {g} (o:e.nm g) (j:e.ok u) {cs} (m:e.R u cs W) (i:∀W' f c,Hid (jr fx e l q n C t N zs ps k er L M w W'∧bc M (.slice f (e.L u).length c) (e.L u) W')→Q (.returned (.tuple #[.slice f (e.L u).length c,.int .i64 (e.E u)])) W'):Calls prog g #[.agg cs.toArray] W Q:=(o u cs W j m).mono fun _ _ ⟨⟨f,c,z,A,s⟩,r⟩=>by rw[z];exact i _ f c ⟨h.later r,lh s h.hM⟩
theorem jr.aee (h:jr fx e l q n C t N zs ps k er L M w W) {i} (o:e.fA i) (g:e.ok u) {cs} (m:e.R u cs W) (j:∀W' f c,Hid (jr fx e l q n C t N zs ps k er L M w W'∧cG f c (e.L u) W')→Q (.returned (.slice f (e.L u).length c)) W') (he:e.Ok):Calls prog i #[.agg cs.toArray] W Q:=(o u cs W g m).mono fun _ _ ⟨⟨f,c,A,z,s⟩,r⟩=>by rw[A];exact j _ f c ⟨h.later r,cG.b_ s (he.E5 g) z⟩
theorem jr.SM {f c} (h:jr true e l q n C t N zs ps k er L M w W∧bc M (.slice f (e.L u).length c) (e.L u) W) (he:e.Ok) (hl:l.length≤1048576) (ha:l[q]?=some u) (g:∀W',Hid (jr true e l (q+1) n C t N zs ps k er L W'.heap.size w W')→Q (.returned (.tuple #[])) W'):Calls prog 28 #[.pointer (some ⟨L,0,none⟩),.slice f (e.L u).length c,.int .i64 (e.E u)] W Q:=wC.SH h.1 he hl ha h.2 g
theorem jr.wE {f c} (h:jr false e l q n C t N zs ps k er L M w W∧bc M (.slice f (e.L u).length c) (e.L u) W) (he:e.Ok) (hl:l.length≤1048576) (ha:l[q]?=some u) (g:∀W',Hid (jr false e l (q+1) n C t N zs ps k er L W'.heap.size w W')→Q (.returned (.tuple #[])) W'):Calls prog 30 #[.pointer (some ⟨L,0,none⟩),.slice f (e.L u).length c,.int .i64 (e.E u)] W Q:=zy.SH h.1 he hl ha h.2 g
theorem jr.kR {g c} (h:jr true e l q n C t N zs ps k er L M w W∧cG g c (e.L u) W) (he:e.Ok) (j:e.E u=0) (hl:l.length≤1048576) (ha:l[q]?=some u) (i:∀W',Hid (jr true e l (q+1) n C t N zs ps k er L W'.heap.size w W')→Q (.returned (.tuple #[])) W'):Calls prog 25 #[.pointer (some ⟨L,0,none⟩),.slice g (e.L u).length c] W Q:=by
 have s:=uy (q:=q) he hl;have r:=he.O' u;refine lu.kR h.1 h.2 rfl (by omega) fun o f=>i o ?_;show wC _ _ _ _ _ _ _ _ _ _ _ _ _ _ _ _;unfold wC;rw[ym e ha,←qX he ha,j];split
 ·rename_i m;rw[m]at f;exact f
 ·exact f
theorem jr.mI (h:jr fx e l l.length n C t N zs ps k er L M w W) (he:e.Ok) (hl:l.length≤1048576)
 (j:∀f c W',Hid (fJ n C t N zs ps k er w W'∧bc N (.slice f (I0 fx e l).length c) (I0 fx e l) W')→Q (.returned (.tuple #[.slice f (I0 fx e l).length c,.int .i64 (jf e l)])) W'):Calls prog 31 #[.pointer (some ⟨L,0,none⟩)] W Q:=by
 cases fx
 ·exact zy.mI h he hl fun f c W' _ i g _=>j f c W' ⟨g,i⟩
 ·exact wC.mI h he hl fun f c W' _ i g _=>j f c W' ⟨g,i⟩
end
section
variable {n N:Nat} {kd:Nat→CK} {t:TypeId} {m:Nat} {r:Nat→Int} {gp cp:Nat} {ps:List (List Int)} {w W W':World}
theorem RqS.adN (h:RqS n N kd t m r gp cp ps w W) (i k q) (v:i<ps.length) (s:ps.getD i []=q) (u:q.length=k):∃a d,W.cell? ⟨gp,i,none⟩=some (.slice a k d)∧cG a d q W∧n+2≤gp∧gp<W.heap.size∧∀b o,a=some ⟨b,o,none⟩→n+2≤b:=by
 obtain⟨g,c,e,z,y,B⟩:=h.hP;injection e with C E D
 cases C;obtain⟨a,d,f,p,A,l,j⟩:=B i v;rw[s]at f p l;rw[u]at f;exact⟨a,d,f,⟨p,A,l,fun b o e=>(j b o e).2⟩,z,y,fun b o e=>(j b o e).1⟩
theorem Wh {o:Oper} {a:Act} {K:Act→World→Prop} {Q:Exit→Act→World→Prop} (d:TypeId) (x y:Operand) (B:o.op= .store d x y) (b:Nat) (s:a.eval x= .pointer (some ⟨n+1,b,none⟩)) (u:Value) (q:a.eval y=u) (v:Int) (z:u=(kd b).mk v) (p:(prog.info? d).map (·.size)=some 1)
 (h:RqS n N kd t m r gp cp ps w W) (C:m=b) (i:b<N) (A:v=r b) (f:∀W',RqS n N kd t (b+1) r gp cp ps w W'→aL (n+1) W W'→K (a.put o.dst undef) W'):o.wp prog a W K Q:=by
 obtain⟨g,G,F⟩:=h.hX;subst z;subst C;refine bt d x y B (n+1) m s _ q (by cases kd m<;>rfl) p _ t G (by simp[ae];exact i) (fun W' E l=>f W' ?_ l);refine h.box l (fun k=>if k=m then v else g k) ?_ (fun k f=>?_)
 ·rw[E]
  congr 2
  refine pe (by simp[ae]) fun j D=>?_;rw[th];by_cases e:m=j
  ·subst e
   simp[ae,i]
  ·rw[an e,an (fun c=>e c.symm),fu,aN _ _ _ _ D]
 ·by_cases c:k=m
  ·rw[aj c,c];exact A
  ·rw[an c];exact F k (by omega)
end
def Bx (l M c w) (P:cG M c l w) (R:l.length=408):
 Calls prog 80 #[.slice M 408 c] w fun e b=>e= .returned (.tuple #[.agg (ae 401 bf (cK l)).toArray,.int .i64 0])∧Below w.heap.size w b:=by
 have Bd:=aa P;have G:=aa R;clear R;clear P
 go_enter func80,ntmps80
 go_wp2_with (first
  |refine ao 98 ?_;refine fX 2 pT ?_
  |refine ao 98 ?_;refine fX 4 pT ?_
   refine bZ (fun W=>RqB w.heap.size 401 bf 98 0 (cK l) w W) (RqB.begin rfl rfl) ?_;intro W d;have hl:=aa (Bd.out.later d.hB);have a:=aa d;clear d
  |with_reducible refine(RqB.cut a.out (K:=2) (k:=408) [224,184] ?hV hl.out G.out rfl (by decide) (by decide) (by decide) rfl).mono ?hM
   case hV=>rfl
   rintro e W ⟨gp,cp,rfl,d⟩;clear hl;replace a:=aa d
   clear d)
 go_loopw [7] (fun i wr=>∃k:Nat,k≤7∧i= .int .i64 (k:Int)∧RqS w.heap.size 401 bf 98 (32*k) (cK l) gp cp (cutL [224,184] l) w wr) (fun i _=>7-(intOf i).toNat)
 case atStart=>exact⟨0,by omega,rfl,a.out⟩
 case round=>
  obtain⟨k,hk,rfl,d⟩:=hrel;replace a:=aa d;clear d;by_cases a8:k<7
  ·have lk:(k:Int)<7:=by omega
   go_wp2;rename_i qo
   go_loopw [8] (fun i wr=>∃j:Nat,j≤32∧i= .int .i64 (j:Int)∧RqS w.heap.size 401 bf 98 (32*k+j) (cK l) gp cp (cutL [224,184] l) w wr) (fun i _=>32-(intOf i).toNat)
   case atStart=>exact⟨0,by omega,rfl,a.out⟩
   case round=>
    obtain⟨j,T,rfl,d⟩:=hrel;replace a:=aa d;clear d;by_cases L:j<32
    ·have lj:(j:Int)<32:=by omega
     obtain⟨q,p⟩:∃q,q=(l.drop 0).take 224:=⟨_,rfl⟩;have u:q.length=224:=by rw[p];exact oT l 0 224 408 G.out (by decide)
     obtain⟨E,s,A,z,hgp,qv,V⟩:=a.out.adN 0 224 q (by rw[jc];decide) (by rw[p];exact xX [224,184] l 0 0 224 (by decide) (by decide) rfl rfl) u;obtain⟨g,h,e0,H⟩:=z.row.cell (32*k+j) (by rw[u];omega);subst e0;have hbq:=V g h rfl;have kt:=z.low g h rfl;obtain⟨y,C⟩:∃y,y=q.getD (32*k+j) 0:=⟨_,rfl⟩;rw[←C]at H;rw[p,bA _ _ _ _ (by omega),bY]at C;have O:=aa C;have B:=aa A;have U:=aa H;clear C p u z V A H;have hw6:IntKind.i64.wrap (32*(k:Int))=((32*k:Nat):Int):=by rw[bP];omega
     have hw8:IntKind.i64.wrap (((32*k:Nat):Int)+(j:Int))=((32*k+j:Nat):Int):=by rw[bP];omega
     have hw9:IntKind.i64.wrap (32*(k:Int)+(j:Int))=32*(k:Int)+(j:Int):=by rw[bP];omega
     go_wp2;rename_i K Z;refine dQ (S:=fun b=>b.cell? ⟨gp,0,none⟩=some (.slice (some ⟨g,h,none⟩) 224 s)∧b.cell? ⟨g,h+(32*k+j),none⟩=some (.int .u8 y)) (by kernel_rfl) ?_;have I:({wr with drawn:=wr.drawn+1}:World).cell? ⟨gp,0,none⟩=some (.slice (some ⟨g,h,none⟩) 224 s)∧({wr with drawn:=wr.drawn+1}:World).cell? ⟨g,h+(32*k+j),none⟩=some (.int .u8 y):=⟨B.out,U.out⟩;have Y:=a.out.later (W':={wr with drawn:=wr.drawn+1}) ⟨rfl,rfl,rfl,cD _,fun _ _=>rfl⟩;refine aJ (i:=0) (v:=(.int .i64 (k:Int))) rfl (by kernel_rfl) bH ‹_› (fun b f=>by go_simp) ?_;go_frame;refine aJ (i:=1) (v:=(.int .i64 (j:Int))) rfl (by kernel_rfl) bH ‹_› (fun b f=>by go_simp) ?_;go_frame;refine d5 2 (.slice (some ⟨gp,0,none⟩) 2 cp) rfl (by kernel_rfl) (fun _=>by kernel_rfl) bH ‹_› ?_;go_frame;refine aJ (i:=3) (v:=(.pointer (some ⟨gp,0,none⟩))) rfl (by kernel_rfl) bH ‹_› (fun b _=>ai b 114 39 _ _ (by rfl) cV 1 dv gp 0 2 cp (by rfl) .i64 0 (by rfl) (by decide) 0 (by decide)) ?_;go_frame;refine aJ (i:=4) (v:=(.slice (some ⟨g,h,none⟩) 224 s)) rfl (by kernel_rfl) bH ‹_› (fun b f=>au b 39 _ (by rfl) ⟨gp,0,none⟩ (by rfl) _ f.1 _ bF rfl) ?_;go_frame;refine aJ (i:=5) (v:=(.int .i64 (k:Int))) rfl (by kernel_rfl) bH ‹_› (fun b f=>by go_simp) ?_;go_frame;refine aJ (i:=6) (v:=(.int .i64 ((32*k:Nat):Int))) rfl (by kernel_rfl) bH ‹_› (fun b f=>by go_simp) ?_;go_frame;refine aJ (i:=7) (v:=(.int .i64 (j:Int))) rfl (by kernel_rfl) bH ‹_› (fun b f=>by go_simp) ?_;go_frame;refine aJ (i:=8) (v:=(.int .i64 ((32*k+j:Nat):Int))) rfl (by kernel_rfl) bH ‹_› (fun b f=>by go_simp) ?_;go_frame;refine aJ (i:=9) (v:=(.pointer (some ⟨g,h+(32*k+j),none⟩))) rfl (by kernel_rfl) bH ‹_› (fun b _=>ai b 39 5 _ _ (by rfl) bF 1 cR g h 224 s (by rfl) .i64 (32*k+j) (by rfl) (by omega) _ (by omega)) ?_;go_frame;refine aJ (i:=10) (v:=(.int .u8 y)) rfl (by kernel_rfl) bH ‹_› (fun b f=>au b 5 _ (by rfl) ⟨g,h+(32*k+j),none⟩ (by rfl) _ f.2 _ sE rfl) ?_;go_frame;refine d5 11 (.pointer (some ⟨w.heap.size+1,0,none⟩)) rfl (by kernel_rfl) (fun _=>by kernel_rfl) bH ‹_› ?_;go_frame;refine aJ (i:=12) (v:=(.pointer (some ⟨w.heap.size+1,k*32,none⟩))) rfl (by kernel_rfl) bH ‹_› (fun b f=>by go_simp) ?_;go_frame;refine aJ (i:=13) (v:=(.pointer (some ⟨w.heap.size+1,k*32+j,none⟩))) rfl (by kernel_rfl) bH ‹_› (fun b f=>by go_simp) ?_;go_frame;refine cQ (i:=14) rfl (by kernel_rfl) rfl (Wh 5 _ _ rfl (32*k+j) (by rw[NC 32 k];rfl) (.int .u8 y) rfl y (by rw[show bf (32*k+j)= .u8 from Rf (32*k+j) 1 (by omega) 0 (by decide)];rfl) cR Y rfl (by omega) (by rw[O.out];unfold cK;rw[aj (by omega)];congr 1;omega) (fun W1 o J=>?_));refine⟨⟨(iP (w:={wr with drawn:=wr.drawn+1}) (J.block gp qv (by omega))).trans I.1,(iP (w:={wr with drawn:=wr.drawn+1}) (J.block g kt (by omega))).trans I.2⟩,?_⟩;go_frame;refine dM (by kernel_rfl) ?_ _;refine Z _ _ ?_;replace a:=aa o;clear Z K I J Y O B U;clear o;go_wp2
     first
      |exact⟨⟨j+1,by omega,by go_num,a.out⟩,by simp[intOf];omega⟩
      |refine⟨?_,by simp[intOf];omega⟩
       (repeat apply Exists.intro)
       exact⟨⟨j+1,by omega,by go_num,a.out⟩,rfl⟩
    ·have e:j=32:=by omega
     subst e;clear L T;have o:RqS w.heap.size 401 bf 98 (32*(k+1)) (cK l) gp cp (cutL [224,184] l) w wr:=a.out;replace a:=aa o;clear o;go_wp2
     first
      |exact⟨⟨k+1,by omega,by go_num,a.out⟩,by simp[intOf];omega⟩
      |refine⟨?_,by simp[intOf];omega⟩
       (repeat apply Exists.intro)
       exact⟨⟨k+1,by omega,by go_num,a.out⟩,rfl⟩
  ·have e:k=7:=by omega
   subst e;clear a8 hk;have o:RqS w.heap.size 401 bf 98 224 (cK l) gp cp (cutL [224,184] l) w wr:=a.out;replace a:=aa o;clear o
   go_wp2_with (first
    |refine aC 114 ?_;refine ab (by rfl) _ (ai _ 114 39 _ _ rfl cV 1 dv gp 0 2 cp rfl .i64 1 rfl (by decide) 1 (by decide)) ?_
    |refine ag 39 ?_;refine iX 39 gp 1 rfl ?_
     obtain⟨q,D⟩:∃q,q=(l.drop 224).take 184:=⟨_,rfl⟩;have F:q.length=184:=by rw[D];exact oT l 224 184 408 G.out (by decide)
     obtain⟨E,s,A,z⟩:=a.out.part 1 184 q (by rw[jc];decide) (by rw[D];exact xX [224,184] l 1 224 184 (by decide) (by decide) rfl rfl) F;have p:=aa D;have u:=aa F;clear D F;refine dq (v:=(.slice E 184 s)) A bF ?_ rfl rfl rfl rfl;have Q:=aa z;clear z A
    |with_reducible refine(vd q E s _ Q.out u.out).mono ?_
     rintro e W ⟨rfl,X⟩;have d:=a.out.later X;clear Q X;replace a:=aa d;clear d
    |refine al 96 ?_;refine aF 96 (w.heap.size+1) 224 rfl ?_;refine vV rfl 96 _ _ rfl 224 177 rfl bu (fw q) rfl (ah eA) a.out rfl (bB (by kernel_rfl)) (by decide) (fun j T=>by rw[p.out];simp only[cK];(repeat' split)<;>first|(exfalso;omega)|(congr 1<;>omega)) (fun W1 d=>?_)
     obtain⟨W,mM⟩:∃W,W=W1:=⟨_,rfl⟩;subst mM;clear p u;replace a:=aa d;clear d
    |refine ag 98 ?_;refine ab (by rfl) _ (ay _ 98 _ (by rfl) (w.heap.size+1) (by rfl) _ _ (0,0) _ a.out.res RK rfl (by rw[ah lD];simp[ae])) ?_
    |refine al 98 ?_;refine aF 98 w.heap.size 0 rfl ?_;refine aq (w0:=w) (n0:=w.heap.size) 98 _ _ rfl rfl w.heap.size rfl _ rfl (aA _ _ _) (by rw[ah lD];simp[ae]) _ 98 a.out.hR (by simp[ae]) (by omega) a.out.hB (fun W9 gM dY _=>?_))
   exact aI rfl w.heap.size 0 (ae 401 bf (cK l)) _ rfl gM RK rfl (by rw[ah lD,ac]) rfl ⟨rfl,dY⟩
end Go.Proofs.YtjeoeibdgciafaaGreatDoor
