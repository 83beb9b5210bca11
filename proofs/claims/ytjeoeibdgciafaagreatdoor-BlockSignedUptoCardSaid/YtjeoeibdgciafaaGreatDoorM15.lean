/- Steps of the proof. -/
import Derived.Test.YtjeoeibdgciafaaGreatDoorM14
set_option linter.all false
set_option maxRecDepth 100000
set_option maxHeartbeats 16000000
namespace Go.Proofs.YtjeoeibdgciafaaGreatDoor
open Go.RowKit BigFrame
open Go.Proofs.Tryz
def ma.blk {b k v a W} (h:ma b k v a W):∀g,v.ownBlock=some g→g<W.heap.size:=fun g e=>by
 obtain⟨i,d,_⟩:=h;rcases d.2 with⟨c,_⟩|⟨j,_,_,c,_,f,_⟩
 ·rw[c]at e;cases e
 ·rw[c]at e;cases e;exact aD f
def ma.kA {s Q o a d D R P pos z af O9 x y f k c b v j m n W} (h:ma f k v j W) (I:bc b (.slice n m.length c) m W) (G:n=none→c=0) (C:j k=m) (cM:∀x∈m,CK.ok .u8 x) (YQ:∀g,v.ownBlock=some g→g<b) (hb:f≤b) (hW:f≤W.heap.size) (hk:k≤1000000000) (hx:(a.put (some D) (.slice (some ⟨W.heap.size,0,none⟩) 1 1)).eval x=v) (hD:(a.put (some D) (.slice (some ⟨W.heap.size,0,none⟩) 1 1)).eval (.tmp D)= .slice (some ⟨W.heap.size,0,none⟩) 1 1) (hy:a.eval y= .slice n m.length c) (Z:∀A L W',ma f (k+1) (.slice A (k+1) L) j W'→Below f W W'→wpList prog s Q o ((a.put (some D) (.slice (some ⟨W.heap.size,0,none⟩) 1 1)).put d (.slice A (k+1) L)) W'):
 wpList prog s Q (⟨some D,.buildSlice 114 1 #[(0,y)],R,pos,af,none⟩::⟨d,.call {callee:= .builtin .append,args:=#[x,.tmp D],argTypes:=#[114,114]},P,z,O9,none⟩::o) a W:=by
 obtain⟨N,g1,g2,g3⟩:=h;have H:=cG.b_ I cM G;have E:=xY I;have B:Below W.heap.size W (W.alloc (.cells #[.slice n m.length c] 39)):=dt;refine aH rfl fun K hK=>bV _ (bj _ 114 39 1 _ rfl cV (.slice none 0 0) 1 nu (by decide) (by decide) [.slice n m.length c] rfl (by simp[hy]) (by simp[Value.cells])) (hK _ _ ?_);refine aH rfl fun K2 E2=>eN (w0:=W.alloc (.cells #[.slice n m.length c] 39)) (n0:=f) x (.tmp D) 114 39 rfl cV (.slice none 0 0) 1 24 rz rfl (by decide) f k v N hx (aU g1 B) ⟨W.heap.size,0,none⟩ 1 1 hD [.slice n m.length c] rfl (aE (ak _ _ _ _ rfl)) rfl (by simp[Value.oneCell']) (by omega) (by omega) (by rw[bn];omega) bG (aP _ _) (fun v2 W3 J M z3 T S=>E2 _ _ ?_);obtain⟨O,c2,e2,_⟩:=aW J;subst e2;refine Z O c2 W3 (ma.step (W:=W.alloc (.cells #[.slice n m.length c] 39)) (vp:=n) (c:=c) g2 (fun i hi=>?_) ?_ G ?_ ?_ ?_ T S M.size) ((B.mono hW).trans M)
 ·obtain⟨A,ci,Y,X,V,U,F⟩:=g3 i hi
  exact⟨A,ci,Y,X.later B,V,U,fun r p e=>⟨by rw[bn];have:=(F r p e).1;omega,(F r p e).2⟩⟩
 ·rw[C];exact H.row.later B
 ·rw[C];exact H.cap
 ·exact fun r p e=>⟨by rw[bn];have:=(E r p e).2;omega,fun e'=>by have:=YQ _ e';have:=(E r p e).1;omega,by have:=(E r p e).1;omega⟩
 ·rw[C];exact J
section
variable {α:Type} {e:El α} {l:List α} {q:Nat} {u:α} {W0 w W W':World} {v:Value}
theorem El.aef {Q d} (k:e.nm d) (i:e.ok u) {b} (j:e.R u b W) {f} (h:e.E u=f) (g:∀W' a c,Hid ((a=none→c=0)∧bc W.heap.size (.slice a (e.L u).length c) (e.L u) W'∧Below W.heap.size W W')→Q (.returned (.tuple #[.slice a (e.L u).length c,.int .i64 f])) W'):Calls prog d #[.agg b.toArray] W Q:=by subst h;exact(k u b W i j).mono fun _ _ ⟨⟨a,c,p,o,n⟩,m⟩=>by rw[p];exact g _ a c ⟨o,n,m⟩
theorem JK (he:e.Ok) (ha:l[q]?=some u) (h:e.E u≠0):jf e l=6:=by unfold jf wy;rw[gC,aj ⟨u,rY ha,h⟩]
def Vp (e:El α) (l:List α) (q:Nat):List Int:=((l.take q).map e.L).flatten
theorem UE (ha:l[q]?=some u):Vp e l (q+1)=Vp e l q++e.L u:=ym e ha
def GJ (a:Bool) (e:El α) (l:List α) (q:Nat) (W0:World) (v:Value) (W:World):Prop:=(if a then bc W0.heap.size v (Vp e l q) W else ma W0.heap.size q v (fun i=>(l.map e.L).getD i []) W)∧Below W0.heap.size W0 W∧wy e l q=0
abbrev GaI (b:Bool) (e:El α) (l:List α) (W0:World):Prop:=∃I:Value→Value→World→Prop,I (.slice none 0 0) (.int .i64 0) W0∧(∀v i a,I v i a→∃q d c,q≤l.length∧i= .int .i64 (q:Int)∧v= .slice d (if b then(Vp e l q).length else q) c∧GJ b e l q W0 v a)∧(∀v i q a,i= .int .i64 ((q+1:Nat):Int)→q<l.length→GJ b e l (q+1) W0 v a→I v i a)
theorem GJ.inv (g) (e:El α) (l:List α) (W0):GaI g e l W0:=by
 refine⟨fun v i b=>∃q,q≤l.length∧i= .int .i64 (q:Int)∧GJ g e l q W0 v b,⟨0,qB _,rfl,?_,aP _ _,uM e l⟩,fun v i b ⟨q,f,d,a⟩=>?_,fun v i q b f d a=>⟨q+1,d,f,a⟩⟩
 ·cases g
  ·exact ma.nil _ _ _
  ·exact bc.nil _ _
 ·cases g
  ·obtain⟨h,c,e⟩:=ma.form a.1
   exact⟨q,h,c,f,d,e,a⟩
  ·obtain⟨h,c,e,_⟩:=aW (show b.ownsRow _ _ _ _ _ _ from a.1)
   exact⟨q,h,c,f,d,e,a⟩
theorem GJ.err {b} (h:GJ b e l q W0 v W) (he:e.Ok) (ha:l[q]?=some u) (a:e.E u=0):wy e l (q+1)=0:=by rw[←qX he ha,aj h.2.2,a]
theorem GJ.kA {f Q b a d p pos C x y m c} (h:GJ true e l q W0 v W) (he:e.Ok) (ha:l[q]?=some u) (z:e.E u=0) (hl:l.length≤1048576) (B:e.ok u) (i:(m=none→c=0)∧bc W.heap.size (.slice m (e.L u).length c) (e.L u) W'∧Below W.heap.size W W') (hs:a.eval x=v) (A:a.eval y= .slice m (e.L u).length c) (s:∀g j k,Hid (GJ true e l (q+1) W0 (.slice g (Vp e l (q+1)).length j) k)→wpList prog f Q b (a.put d (.slice g (Vp e l (q+1)).length j)) k):
 wpList prog f Q (⟨d,.call {callee:= .builtin .append,args:=#[x,y],argTypes:=#[39,39]},p,pos,C,none⟩::b) a W':=by
 have F:=uy (q:=q) he hl;have D:=he.O' u;have o:=h.2.1.trans (i.2.2.mono h.2.1.size);refine Go.Proofs.YtjeoeibdgciafaaGreatDoor.kA (bc.later (show bc _ _ (Vp e l q) W from h.1) i.2.2) hs A (cG.b_ i.2.1 (he.E5 B) i.1) rfl (show ((l.take q).map e.L).flatten.length+_≤_ by omega) o.size fun g j k _ n r _=>?_;rw[←UE ha]at n ⊢;exact s g j k ⟨n,o.trans r,h.err he ha z⟩
theorem GJ.ahr {f Q b a d D z s pos g M K x y o c} (h:GJ false e l q W0 v W) (he:e.Ok) (ha:l[q]?=some u) (F:e.E u=0) (hl:l.length≤1048576) (N:q<l.length) (I:e.ok u) (k:(o=none→c=0)∧bc W.heap.size (.slice o (e.L u).length c) (e.L u) W'∧Below W.heap.size W W') (H:(a.put (some D) (.slice (some ⟨W'.heap.size,0,none⟩) 1 1)).eval x=v) (J:(a.put (some D) (.slice (some ⟨W'.heap.size,0,none⟩) 1 1)).eval (.tmp D)= .slice (some ⟨W'.heap.size,0,none⟩) 1 1) (G:a.eval y= .slice o (e.L u).length c) (C:∀j m n,Hid (GJ false e l (q+1) W0 (.slice j (q+1) m) n)→wpList prog f Q b ((a.put (some D) (.slice (some ⟨W'.heap.size,0,none⟩) 1 1)).put d (.slice j (q+1) m)) n):
 wpList prog f Q (⟨some D,.buildSlice 114 1 #[(0,y)],z,pos,M,none⟩::⟨d,.call {callee:= .builtin .append,args:=#[x,.tmp D],argTypes:=#[114,114]},s,g,K,none⟩::b) a W':=by
 have r:=h.2.1.trans (k.2.2.mono h.2.1.size);have p:ma W0.heap.size q v (fun i=>(l.map e.L).getD i []) W:=h.1;exact(p.later k.2.2).kA k.2.1 k.1 (by simp[List.getD,ha]) (he.E5 I) p.blk h.2.1.size r.size (by omega) H J G fun j m n B A=>C j m n ⟨B,r.trans A,h.err he ha F⟩
end
def zl (n:Nat) (q u:Nat→Value):Act:={tmps:=#[u 0,.pointer (some ⟨n,0,none⟩),u 2,u 3,u 4,q 5,q 6,q 7,q 8,q 9,q 10,q 11,q 12,q 13,u 14,u 15,u 16,u 17,u 18,u 19,u 20,u 21,u 22,u 23,u 24,u 25,u 26,u 27,u 28,u 29,u 30,u 31,u 32,u 33,u 34,u 35,u 36,u 37,u 38,u 39,u 40,u 41,u 42,u 43,u 44,u 45,u 46,u 47,u 48,u 49,u 50,u 51,u 52,u 53,u 54,u 55,u 56,u 57,u 58,u 59,u 60,u 61,u 62,u 63,u 64,u 65,u 66,u 67,u 68,u 69,u 70,u 71,u 72,u 73,u 74,u 75,u 76,u 77,u 78,u 79,u 80,u 81,u 82,u 83,u 84,u 85,u 86,u 87,u 88,u 89,u 90,u 91,u 92,u 93,u 94,u 95,u 96,u 97,u 98,u 99,u 100,u 101,u 102,u 103,u 104,u 105,u 106,u 107,u 108,u 109,u 110,u 111,u 112,u 113,u 114,u 115,u 116,u 117,u 118,u 119,u 120,u 121,u 122,u 123,u 124,u 125,u 126,u 127,u 128,u 129,u 130,u 131,u 132,u 133,u 134,u 135,u 136,u 137,u 138,u 139,u 140,u 141,u 142,u 143,u 144,u 145,u 146,u 147,u 148,u 149,u 150,u 151,u 152,u 153,u 154,u 155,u 156,u 157,u 158,u 159,u 160,u 161,u 162,u 163,u 164,u 165,u 166,u 167,u 168,u 169,u 170,u 171,u 172,u 173,u 174,u 175,u 176,u 177,u 178,u 179,u 180,u 181,u 182,u 183,u 184,u 185,u 186,u 187,u 188,u 189,u 190,u 191,u 192,u 193,u 194,u 195,u 196,u 197,u 198,u 199,u 200,u 201,u 202],defers:=[]}
def InR (n:Nat) (q:Nat→Value) (A:Act):Prop:=∃u,A=zl n q u
def InR.of {n q A} (h:A=zl n q (fun k=>A.tmps.getD k undef)):InR n q A:=⟨_,h⟩
def EE (A:Act):Prop:=A.tmps.getD 2 undef= .slice none 0 0∧A.tmps.getD 3 undef= .int .i64 6∧A.defers=[]
def EE.of {A} (c:A.tmps.getD 2 undef= .slice none 0 0) (b:A.tmps.getD 3 undef= .int .i64 6) (a:A.defers=[]):EE A:=⟨c,b,a⟩
def RX (k p:Nat) (g:Int) (d f:Nat):Prop:=∀(F:Func) (_:F=Tryz.f9) (Q:Exit→Act→World→Prop) (n:Nat) (C:List Value) (t:TypeId) (q:Nat→Value) (b:Option Addr) (m c:Nat) (tb:Bool) (W:World) (A:Act),
 prog.underlying d=some (.slice f)→decide ((m:Int)>g)=tb→InR n q A→C[p]?=some (.slice b m c)→W.heap[n]?=some (.cells C.toArray t (0,0))→
 (tb=false→∀a,InR n q a→Q .normal a W)→(tb=true→∀a,EE a→Q .ret a W)→(pq k F).wp prog Q A W
def rbX:RX 16 193 2 29 74∧RX 27 194 1 30 86∧RX 39 195 4 31 90∧RX 51 196 2 32 98∧RX 62 197 2 33 103:=by
 refine⟨?_,?_,?_,?_,?_⟩<;>
 (intro F hF Q n C t q p m c tb W A a r ⟨u,o⟩ h b f d
  have j:=aa b;have k:=aa h;have i:=aa a;clear b h a;subst o;subst hF;simp only[pq,pc,pcAt,headAt,Tryz.f9,reduceIte,Nat.reduceEqDiff,Nat.reduceBEq,dR];unfold zl;cases tb
  all_goals
   first|have g:=aa (f rfl)|have g:=aa (d rfl)
   clear f d
   go_wp2_with ((with_reducible refine ag _ ?_);refine u5 j.out k.out i.out rfl ?_)
   first|exact g.out _ (InR.of (by kernel_rfl))|exact g.out _ (EE.of (by kernel_rfl) (by kernel_rfl) (by kernel_rfl)))
def RL (m:Bool) (k p o j r f:Nat):Prop:=∀(F:Func) (_:F=Tryz.f9) (Q:Exit→Act→World→Prop) (g:Type) (e:El g) (n:Nat) (C:List Value) (t:TypeId) (q u:Nat→Value) (l:List g) (v:Value) (a:World),
 e.Ok→e.t=j→prog.underlying o=some (.slice j)→e.nm r→(if m then q else u) f= .slice none 0 0→C[p]?=some v→qf e l v a→(∀u∈l,e.ok u)→l.length≤1048576→a.heap[n]?=some (.cells C.toArray t (0,0))→
 (∀c h d b,jf e l=0→c=zl n (fun i=>if i=f then d else q i) h→h f=d→GJ m e l l.length a d b→Q .normal c b)→(∀c b,jf e l=6→EE c→Below a.heap.size a b→Q .ret c b)→(pq k F).wp prog Q (zl n q u) a
def adH {f:Bool} {n a:Nat} {q:Nat→Value} {v:Value} {A:Act} {Q:Exit→Act→World→Prop} {c:Type} {e:El c} {l:List c} {j W:World} (g:∀o d b m,jf e l=0→o=zl n (fun i=>if i=a then b else q i) d→d a=b→GJ f e l l.length j b m→Q .normal o m) (h:GJ f e l l.length j v W) (r:A=zl n (fun i=>if i=a then v else q i) (fun k=>A.tmps.getD k undef)) (p:A.tmps.getD a undef=v):Q .normal A W:=g A _ v W h.2.2 r p h
def ZK {b:Bool} {n g:Nat} {q:Nat→Value} {Q:Exit→Act→World→Prop} {d:Type} {e:El d} {l:List d} {c:World} (_:∀j f a h,jf e l=0→j=zl n (fun i=>if i=g then a else q i) f→f g=a→GJ b e l l.length c a h→Q .normal j h):GaI b e l c:=GJ.inv b e l c
def rbL:RL true 19 193 29 74 41 8∧RL false 30 194 30 86 42 16∧RL false 42 195 31 90 44 19∧RL true 54 196 32 98 45 11∧RL true 65 197 33 103 46 12:=by
 refine⟨?_,?_,?_,?_,?_⟩<;>
 (intro F hF Q α e n C t q u l v w he K J P L T B M hl A R h
  have U:=aa T;have s:=aa J;have hP:=aa P;have ho:=aa M;have hX:=aa A;have V:=aa R;have gR:=aa h;obtain⟨Z,c,rfl,-⟩:=id B;have hR:=aa B;have hn:=aa (aD A);clear T J P B M A R h;subst hF;simp only[pq,pc,pcAt,headAt,Tryz.f9,reduceIte,Nat.reduceEqDiff,Nat.reduceBEq,dR]at L ⊢;unfold zl;simp only[L];go_wp2;obtain⟨I,H,G,E⟩:=ZK V.out;have X:=aa H;have g1:=aa G;have g2:=aa E;clear H G E
  first|go_loopw [8,14] I (fun _ i _=>l.length-(intOf i).toNat)|go_loopw [16,17] I (fun _ i _=>l.length-(intOf i).toNat)|go_loopw [19,20] I (fun _ i _=>l.length-(intOf i).toNat)|go_loopw [11,22] I (fun _ i _=>l.length-(intOf i).toNat)|go_loopw [12,24] I (fun _ i _=>l.length-(intOf i).toNat)
  case atStart=>exact X.out
  case round=>
   obtain⟨a,va9,c9,hq,rfl,rfl,D⟩:=g1.out _ _ _ hrel;have d:=aa D;have g:=aa ((D.2.1.block n hn.out).trans hX.out);clear hrel X D;by_cases k:a<l.length
   ·obtain⟨z,m⟩:∃z,l[a]?=some z:=⟨_,fS k⟩
    obtain⟨b,o,cs,rfl,N⟩:=(hR.out.later he d.out.2.1).get he m;have O:=aa N;have ha:=aa m;have y:=aa (ho.out z (rY m));have lt:decide ((a:Int)<(l.length:Int))=true:=by simp;omega
    clear N m;rcases he.Eis z with p|p
    all_goals
     have j:=aa p;clear p
     go_wp2_with (first
      |refine ag _ ?_;refine u5 g.out U.out s.out rfl ?_
      |refine aC _ ?_;refine ixE he K s.out rfl rfl k ?_
      |refine ag _ ?_;refine ldE he K rfl O.out ?_
      |(with_reducible refine El.aef hP.out y.out O.out.r j.out ?_);intro W Z c f
      |refine dy 39 ?_;refine GJ.kA d.out he ha.out j.out hl y.out f.out rfl rfl ?_;clear f;intro Y c1 W S
      |refine aV 114 ?_;refine GJ.ahr d.out he ha.out j.out hl k y.out f.out rfl rfl rfl ?_;clear f;intro Y c1 W S)
    ·exact⟨g2.out _ _ a _ (by go_num) k S.out,by simp[intOf];omega⟩
    ·exact gR.out _ _ (JK he ha.out (by rw[j.out];decide)) (EE.of (by kernel_rfl) (by kernel_rfl) (by kernel_rfl)) (d.out.2.1.trans (f.out.2.2.mono d.out.2.1.size))
   ·have e0:a=l.length:=by omega
    have lt:decide ((a:Int)<(l.length:Int))=false:=by simp;omega
    subst e0
    go_wp2_with ((with_reducible refine ag _ ?_);refine u5 g.out U.out s.out rfl ?_)
    exact adH V.out d.out (by kernel_rfl) (by kernel_rfl))
def qs (ps:List Pt) (i:Nat):Value:=(il ps).getD (i-5) (.slice none 0 0)
def LI {ps a c k j m} (d:j=5+ps.length) (f:0<ps.length):(fun i=>if i=j then Value.slice a k c else qs ps i)=qs (ps++[(a,c,k,m)]):=by
 funext i
 have hl:(il ps).length=ps.length:=by simp[il]
 have e:il (ps++[(a,c,k,m)])=il ps++[.slice a k c]:=by simp[il]
 unfold qs;rw[e];by_cases h:i=j
 ·rw[aj h,show i-5=(il ps).length by omega]
  simp[List.getD]
 ·rw[an h]
  by_cases b:i-5<(il ps).length
  ·simp[List.getD,eY b]
  ·simp[List.getD,eT (vI b),eT (show (il ps++[Value.slice a k c]).length≤i-5 by simp;omega)]
def ec {α:Type} (e:El α) (m) (l:List α):iF e m l 6=6:=by unfold iF;split<;>simp
def iB {α:Type} {e:El α} {m} {l:List α} (h:decide ((l.length:Int)>m)=true):iF e m l 0=6:=by unfold iF;rw[h];rfl
def eh {α:Type} {e:El α} {m} {l:List α} {x} (h:decide ((l.length:Int)>m)=false) (a:jf e l=x):iF e m l 0=x:=by unfold iF;rw[h,a];rfl
section
variable {n:Nat} {C:List Value} {t:TypeId} {ps:List Pt} {w W W':World}
theorem c8.kA {g Q b a d u pos H x y m f k c} (h:c8 n C t ps w W) (hs:a.eval x= .slice (some ⟨W.heap.size,0,none⟩) 0 0) (B:a.eval y= .slice f k c) (j:cG f c m W) (i:m.length=k) (hl:k≤1000000) (z:∀W' f c,Hid (c8 n C t (ps++[(f,c,k,m)]) w W')→wpList prog g Q b (a.put d (.slice f k c)) W'):
 wpList prog g Q (⟨d,.call {callee:= .builtin .append,args:=#[x,y],argTypes:=#[39,39]},u,pos,H,none⟩::b) a (W.alloc (.cells #[] 5)):=by
 have o:Below W.heap.size W (W.alloc (.cells #[] 5)):=dt;refine Go.Proofs.YtjeoeibdgciafaaGreatDoor.kA (bc.new bG [] (by decide) (ak _ _ _ _ rfl)) hs B (j.later o) i (by simp;omega) (by simp) fun s G I E r D _=>?_;rw[List.nil_append,i]at r ⊢;exact z I s G ((h.later (o.trans D)).add (cG.b_ r j.row.ok E) i)
theorem c8.pp {Q} (h:c8 n C t ps w W) {fn N S d b} (j:iH fn N d S b) {f} (i:uu N d f) (g:∀m∈b f,CK.ok .u8 m) (hl:(b f).length=S) (k:∀W' a c,Hid (c8 n C t (ps++[(a,c,S,b f)]) w W')→Q (.returned (.tuple #[.slice a S c,.int .i64 0])) W'):Calls prog fn #[.agg (ae N d f).toArray] W Q:=(j f W i).mono fun _ _ ⟨⟨a,c,u,s,r⟩,o⟩=>by rw[u];exact k _ a c ((h.later o).add (cG.b_ r g s) hl)
theorem c8.I1 {Q} (h:c8 n C t ps w W) {b v a m} (i:d9 b v a W) (hn:a.length≤1000) (hl:a.flatten.length≤1000000000) (f:∀x∈m,CK.ok .u8 x) (g:lZ a=m) (k:∀W' d c,Hid (c8 n C t (ps++[(d,c,m.length,m)]) w W')→Q (.returned (.slice d m.length c)) W'):Calls prog 43 #[v] W Q:=by subst g;exact(PX a v b W i hn hl).mono fun _ _ ⟨⟨d,c,s,r,o⟩,j⟩=>by rw[s];exact k _ d c ((h.later j).add (cG.b_ o f r) rfl)
theorem c8.LJ {f Q c a d g pos r b N} (_:c8 n C t ps w W) (i:(b.toList.map fun p=>(p.1,a.eval p.2))=(il ps).zipIdx.map fun p=>(p.2,p.1)) (j:ps.length=N) (s:N≤1000) (k:wpList prog f Q c (a.put d (.slice (some ⟨W.heap.size,0,none⟩) N N)) (W.alloc (.cells (il ps).toArray 39))):wpList prog f Q (⟨d,.buildSlice 114 N b,g,pos,r,none⟩::c) a W:=by have o:=oj ps;refine aH rfl fun K m=>bV _ (bj _ 114 39 N _ rfl cV (.slice none 0 0) 1 nu (by decide) (by simp;omega) (il ps) (by simp[il,j]) i (fun v h=>?_)) (m _ _ (by rw[o];exact k));obtain⟨p,_,rfl⟩:=ft.1 h;rfl
theorem LF {f Q c a d g pos r b N} (zs) (i:(b.toList.map fun p=>(p.1,a.eval p.2))=(HT zs).zipIdx.map fun p=>(p.2,p.1)) (j:zs.length=N) (s:N≤1000) (k:wpList prog f Q c (a.put d (.slice (some ⟨W.heap.size,0,none⟩) N N)) (W.alloc (.cells (HT zs).toArray 3))):wpList prog f Q (⟨d,.buildSlice 63 N b,g,pos,r,none⟩::c) a W:=by have o:=nr zs;refine aH rfl fun K m=>bV _ (bj _ 63 3 N _ rfl dZ (.int .i64 0) 1 lV (by decide) (by simp;omega) (HT zs) (by simp[HT,j]) i (fun v h=>?_)) (m _ _ (by rw[o];exact k));obtain⟨p,_,rfl⟩:=ft.1 h;rfl
theorem c8.le (h:c8 n C t ps w W):n≤W.heap.size:=pD (aD h.hX)
variable {Q:Exit→Act→World→Prop} {A:Act} {q:Nat→Value} {k p ts te fn sl:Nat} {F:Func}
theorem IW (hF:F=Tryz.f9) {a d m c} (h:RX k p a ts te) (f:prog.underlying ts=some (.slice te)) (s:A=zl n q (fun k=>A.tmps.getD k undef)) (g:q=qs ps) (i:c8 n C t ps w W) (r:C[p]?=some (.slice d m c)) (o:decide ((m:Int)>a)=false→∀u,Q .normal (zl n (qs ps) u) W) (j:decide ((m:Int)>a)=true→∀b,EE b→Q .ret b W):(pq k F).wp prog Q A W:=by subst g;exact h F hF Q n C t _ d m c _ W A f rfl ⟨_,s⟩ r i.hX (fun h b ⟨u,e⟩=>e▸o h u) j
variable {α:Type} {e:El α} {l:List α} {v:Value}
theorem LH (hF:F=Tryz.f9) (h:RL true k p ts te fn sl) (he:e.Ok) (E:e.t=te) (D:prog.underlying ts=some (.slice te)) (L:e.nm fn) (O:A=zl n q (fun k=>A.tmps.getD k undef)) (H:q=qs ps) (hs:sl=5+ps.length) (G:0<ps.length) (a:c8 n C t ps w W) (N:C[p]?=some v) (K:qf e l v w) (j:∀u∈l,e.ok u) (hl:l.length≤1048576) (B:w.heap.size=n)
 (M:jf e l=0→∀u W' f c,Hid (c8 n C t (ps++[(f,c,(f_ e l).length,f_ e l)]) w W')→Q .normal (zl n (qs (ps++[(f,c,(f_ e l).length,f_ e l)])) u) W') (J:jf e l=6→∀d W',EE d→Below n w W'→Q .ret d W'):(pq k F).wp prog Q A W:=by
 subst H;rw[O];refine h F hF Q α e n C t _ _ l v W he E D L ?_ N (K.later he (B▸a.hB)) j hl a.hX (fun d y s W' b i _ o=>?_) fun d W' b i T=>J b d W' i (a.hB.trans (T.mono a.le))
 ·rw[aj rfl,hs]
  have hl:(il ps).length=ps.length:=by simp[il]
  simp[qs,List.getD,show (il ps)[ps.length]?=none from eT (by omega)]
 ·have U:Vp e l l.length=f_ e l:=by unfold Vp f_;rw[aj b,gC]
  have g:bc _ s (Vp e l l.length) W':=o.1;rw[U]at g;obtain⟨f,c,rfl,hn⟩:=aW g;rw[i,LI (m:=f_ e l) hs G];refine M b y W' f c ((a.later o.2.1).add (cG.b_ g ?_ hn) rfl);unfold f_;rw[aj b];intro m I;obtain⟨r,S,R⟩:=List.mem_flatten.1 I;obtain⟨z,P,rfl⟩:=ft.1 S;exact he.E5 (j z P) m R
theorem S_ (hF:F=Tryz.f9) (h:RL false k p ts te fn sl) (he:e.Ok) (H:e.t=te) (G:prog.underlying ts=some (.slice te)) (N:e.nm fn) (R:A=zl n q (fun k=>A.tmps.getD k undef)) (I:q=qs ps) (hs:A.tmps.getD sl undef= .slice none 0 0) (Y:13<sl) (b:c8 n C t ps w W) (P:C[p]?=some v) (M:qf e l v w) (J:∀u∈l,e.ok u) (hl:l.length≤1048576) (E:w.heap.size=n)
 (O:jf e l=0→∀u a W',u sl=a→Hid (d9 W.heap.size a (l.map e.L) W'∧c8 n C t ps w W')→Q .normal (zl n (qs ps) u) W') (K:jf e l=6→∀c W',EE c→Below n w W'→Q .ret c W'):(pq k F).wp prog Q A W:=by
 subst I;rw[R];refine h F hF Q α e n C t _ _ l v W he H G N (by rw[an (by decide)];exact hs) P (M.later he (E▸b.hB)) J hl b.hX (fun c d a W' o m j B=>?_) fun c W' o m j=>K o c W' m (b.hB.trans (j.mono b.le))
 have U:zl n (fun i=>if i=sl then a else qs ps i) d=zl n (qs ps) d:=by unfold zl;simp only[show ∀i:Nat,i<14→(if i=sl then a else qs ps i)=qs ps i from fun i y=>an (by omega),Nat.reduceLT]
 rw[m,U];refine O o d a W' j ⟨?_,b.later B.2.1⟩;have z:ma W.heap.size l.length a (fun i=>(l.map e.L).getD i []) W':=B.1;rcases E' l.length with f|f
 ·obtain rfl:=s9.1 f
  obtain⟨X,S,_⟩:=z;rcases S.2 with⟨r,D⟩|⟨g,s,V,r,D,T,e4,Z,_⟩
  ·exact Or.inl ⟨rfl,r⟩
  ·exact Or.inr ⟨g,s,r,D,aD T,fun i y=>absurd y (by simp)⟩
 ·exact Or.inr (z.parts bG f (l.map e.L) (by simp) fun i _=>rfl)
end
def UF {a:Type} {e:El a} (he:e.Ok) {l:List a} {m} (h:l.length≤m):(l.map e.L).flatten.length≤4000*m:=by have:=wD he l;omega
def x5 {H:Nat} {zs:List Nat} {a:List (List Int)} (h:∀p∈a,∀m∈p,CK.ok .u8 m):∀k,(∀m∈(layK H zs a k).1,CK.ok .u8 m)∧∀m∈(layK H zs a k).2,CK.ok .u8 m
 |0=>⟨fun m b=>by simp[layK]at b,fun m b=>by simp[layK]at b⟩
 |k+1=>by
  have c:=x5 (H:=H) (zs:=zs) h k
  have d:∀m∈a.getD k [],CK.ok .u8 m:=by
   by_cases e:k<a.length
   ·rw[List.getD,fS e]
    exact h _ (oI e)
   ·rw[List.getD,eT (by omega)]
    intro m b;simp at b
  simp only[layK];split
  ·exact⟨dB c.1 (rt _),dB c.2 d⟩
  ·exact⟨dB c.1 d,c.2⟩
def OD {a} (h:∀p∈a,∀m∈p,CK.ok .u8 m):∀m∈lZ a,CK.ok .u8 m:=dB (x5 h _).1 (x5 h _).2
def Jw {a:Type} {e:El a} (he:e.Ok) {l:List a} {m} (d:decide ((l.length:Int)>m)=false) (b:m≤4) (h:jf e l=0) (g:∀u∈l,e.ok u):(l.map e.L).length≤1000∧(l.map e.L).flatten.length≤1000000000∧lZ (l.map e.L)=iR e l∧∀x∈iR e l,CK.ok .u8 x:=by
 have j:l.length≤4:=by simp at d;omega
 have k:=UF he j;have c:lZ (l.map e.L)=iR e l:=by unfold iR;rw[aj h]
 refine⟨by simp;omega,by omega,c,?_⟩;rw[←c]
 exact OD fun p f m b=>by obtain⟨z,i,rfl⟩:=ft.1 f;exact he.E5 (g z i) m b
def JZ {b:Bo} (a:b.ok):(eS c_ b.pw).length≤1099511627776:=by
 have j:=qK h_ a.n3;have i:=yh gy a.n4;have h:=yh gx a.n5;have g:=qK ib a.n6;have f:=qK ia a.n7;have e:(layK (headN c_) c_ b.pw 9).2=([]++f_ nE b.ps++iR nk b.ss++iR mO b.zp++f_ nG b.ds++f_ nF b.es):=rfl;have c:=om (H:=headN c_) b.fits 9 (by decide);have d:headN (c_.take 9)≤1000:=by decide
 show ((layK (headN c_) c_ b.pw 9).1++(layK (headN c_) c_ b.pw 9).2).length≤_;rw[bM,c,e];simp only[bM,List.length_nil];omega
def c8.agB {n:Nat} {C:List Value} {t:TypeId} {a:List Pt} {w W} {b:Bo} (h:c8 n C t a w W) (f:iI a=b.pw) (m:b.ok) (o:b.E=0) (hL:b.L=eS c_ b.pw) (l:b.L.length≤1099511627776):
 Calls prog 48 #[.slice (some ⟨W.heap.size,0,none⟩) 9 9,.slice (some ⟨W.heap.size+1,0,none⟩) 9 9] ((W.alloc (.cells (il a).toArray 39)).alloc (.cells (HT c_).toArray 3)) fun e g=>(∃d c,e= .returned (.tuple #[.slice d b.L.length c,.int .i64 0])∧(d=none→c=0)∧bc n (.slice d b.L.length c) b.L g)∧Below n w g:=
 h.RQ c_ rfl rfl (by rw[←show (iI a).length=a.length by simp[iI],f];rfl) rfl (by decide) (by decide) (by decide) (fun i k j=>by rw[f];exact b.fits.2 i k j) (by rw[f,hL]) rfl l
def Mn:iH 47 104 av 97 cN:=fun f w h=>wV f h.out w
def QR (F) (h:F=Tryz.f9):(Tryz.f9).body=some (.seq (pc 0 Tryz.f9) (.seq (pc 1 Tryz.f9) (.seq (pc 2 Tryz.f9) (.seq (pc 3 Tryz.f9) (.seq (pc 4 Tryz.f9) (.seq (pc 5 Tryz.f9) (.seq (pc 6 Tryz.f9) (.seq (pc 7 Tryz.f9) (.seq (pc 8 Tryz.f9) (.seq (pc 9 Tryz.f9) (.seq (pc 10 Tryz.f9) (.seq (pc 11 Tryz.f9) (.seq (pc 12 Tryz.f9) (.seq (pc 13 Tryz.f9) (.seq (pc 15 Tryz.f9) (.seq (pq 16 F) (.seq (pc 18 Tryz.f9) (.seq (pq 19 F) (.seq (pq 27 F) (.seq (pc 29 Tryz.f9) (.seq (pq 30 F) (.seq (pc 38 Tryz.f9) (.seq (pq 39 F) (.seq (pc 41 Tryz.f9) (.seq (pq 42 F) (.seq (pc 50 Tryz.f9) (.seq (pq 51 F) (.seq (pc 53 Tryz.f9) (.seq (pq 54 F) (.seq (pq 62 F) (.seq (pc 64 Tryz.f9) (.seq (pq 65 F) (.seq (pc 73 Tryz.f9) (.seq (pc 74 Tryz.f9) (.seq (pq 76 F) (.seq (pc 77 Tryz.f9) (.ret))))))))))))))))))))))))))))))))))))):=by
 subst h
 kernel_rfl
def PZ (b:Bo) (S:b.ok) (R Q P O N:Value) (w) (r:b.at R Q P O N w):
 Calls prog 9 #[.agg (cJ b.f b.g R Q P O N).toArray] w fun e s=>(∃l c,e= .returned (.tuple #[.slice l b.L.length c,.int .i64 b.E])∧(l=none→c=0)∧bc w.heap.size (.slice l b.L.length c) b.L s)∧Below w.heap.size w s:=by
 have k:=aa S
 have i:=aa (fun(h:b.E=6) (A:Act) (W:World) (G:EE A) (h2:Below w.heap.size w W)=>show bodyPost prog Tryz.f9 (fun e s=>(∃l c,e= .returned (.tuple #[.slice l b.L.length c,.int .i64 b.E])∧(l=none→c=0)∧bc w.heap.size (.slice l b.L.length c) b.L s)∧Below w.heap.size w s) .ret A W from by
  have hL:b.L=[]:=by unfold Bo.L;rw[an (by rw[h];decide)]
  rw[hL,h]
  exact bR rfl _ _ G.1 G.2.1 G.2.2 ⟨⟨none,0,rfl,fun _=>rfl,bc.nil _ _⟩,h2⟩)
 obtain⟨Yv,c3,rfl,-,-⟩:=r.l3;obtain⟨J,c4,rfl,-,-⟩:=r.l4;obtain⟨Z,c5,rfl,-,-⟩:=r.l5;obtain⟨I,c6,rfl,-,-⟩:=r.l6;obtain⟨H,c7,rfl,-,-⟩:=r.l7;have ha:=aa r;clear S r;obtain⟨F,B⟩:∃F,F=Tryz.f9:=⟨_,rfl⟩;refine tf func9 (QR F B) ?_;have hF:=aa B;clear B;simp only[ntmps9,cI,List.length_cons,List.length_nil,Nat.reduceAdd,Nat.reduceSub,oK,Array.replicate_zero,oG,oJ,List.nil_append,List.cons_append];simp only[pc,pcAt,headAt,Tryz.f9,reduceIte,Nat.reduceEqDiff,Nat.reduceBEq,dR]
 go_wp2_with (first
  |refine fo _ ?_;refine bW rfl _ _ rfl _ rfl ?_
   refine bZ (fun W=>c8 w.heap.size (cJ b.f b.g (.slice Yv b.ps.length c3) (.slice J b.ss.length c4) (.slice Z b.zp.length c5) (.slice I b.ds.length c6) (.slice H b.es.length c7)) 38 [] w W) (c8.begin (ak _ _ _ _ rfl) rfl) ?_;intro W m;have a:=aa m;clear m
  |refine aV 39 ?_;refine aH rfl fun K U=>d' rfl (U _ _ ?_);clear U K
  |refine dy 39 ?_;refine c8.kA a.out rfl rfl (uE a.out.hX k.out.hf 0 96 rfl (by decide)) (az _ _ _) (by decide) ?_;clear a;intro W l c a
  |refine dy 39 ?_;refine c8.kA a.out rfl rfl (uE a.out.hX k.out.hf 161 32 rfl (by decide)) (az _ _ _) (by decide) ?_;clear a;intro W l c a
  |refine ag 28 ?_;obtain⟨Y,X⟩:=oX (f:=b.f) (g:=b.g) 96 65 (kdF bN) rfl (by decide);refine ab (by rfl) _ (ar _ 28 _ (by rfl) w.heap.size 96 rfl (ae 65 (kdF bN) (fb b.f 96)) _ (dK a.out.hX X 96 (ac _ _ _)) Lj rfl (by rw[ah mf,ac])) ?_;clear X
  |(with_reducible refine c8.pp a.out MO (d7 k.out.hf (bB rfl) (by decide)) (mT.ok (d7 k.out.hf (bB rfl) (by decide))) (mT.len _) ?_);clear a;intro W l c a
  |refine gd 16 ?_;refine IW hF.out rbX.1 Cb (by kernel_rfl) rfl a.out (bQ _ _ _ _ _ _ _ 0 _ rfl) (fun h u=>?_) (fun h A d=>i.out (by simp only[Bo.E,iB h,ec]) _ _ d a.out.hB);have j:=aa h;clear h;unfold zl
  |refine gd 19 ?_;refine LH hF.out rbL.1 h_ rfl Cb JO.2 (by kernel_rfl) rfl rfl (by simp) a.out (bQ _ _ _ _ _ _ _ 0 _ rfl) ha.out.l3 k.out.ps k.out.n3 rfl (fun h u p l c d=>?_) (fun h A p d m=>i.out (by simp only[Bo.E,eh j.out h,ec]) _ _ d m);clear a;have a:=d;have o:=aa (eh j.out h);clear j h d;unfold zl
  |refine gd 27 ?_;refine IW hF.out rbX.2.1 Ca (by kernel_rfl) rfl a.out (bQ _ _ _ _ _ _ _ 1 _ rfl) (fun h u=>?_) (fun h A d=>i.out (by simp only[Bo.E,o.out,iB h,ec]) _ _ d a.out.hB);have j:=aa h;clear h;unfold zl
  |refine gd 30 ?_;refine S_ hF.out rbL.2.1 gy rfl Ca JS.2 (by kernel_rfl) rfl (by kernel_rfl) (by decide) a.out (bQ _ _ _ _ _ _ _ 1 _ rfl) ha.out.l4 k.out.ss k.out.n4 rfl (fun h u v p y d=>?_) (fun h A p d m=>i.out (by simp only[Bo.E,o.out,eh j.out h,ec]) _ _ d m);clear a;have a:=d;have q:=aa (eh j.out h);have n:=aa (Jw gy j.out (by decide) h k.out.ss);clear j h d;unfold zl;simp only[y];clear y
  |(with_reducible refine c8.I1 a.out.2 a.out.1 n.out.1 n.out.2.1 n.out.2.2.2 n.out.2.2.1 ?_);clear a n;intro W l c a
  |refine gd 39 ?_;refine IW hF.out rbX.2.2.1 B' (by kernel_rfl) (LI rfl (by simp)) a.out (bQ _ _ _ _ _ _ _ 2 _ rfl) (fun h u=>?_) (fun h A d=>i.out (by simp only[Bo.E,o.out,q.out,iB h,ec]) _ _ d a.out.hB);have j:=aa h;clear h;unfold zl
  |refine gd 42 ?_;refine S_ hF.out rbL.2.2.1 gx rfl B' JR.2 (by kernel_rfl) rfl (by kernel_rfl) (by decide) a.out (bQ _ _ _ _ _ _ _ 2 _ rfl) ha.out.l5 k.out.zp k.out.n5 rfl (fun h u v p y d=>?_) (fun h A p d m=>i.out (by simp only[Bo.E,o.out,q.out,eh j.out h,ec]) _ _ d m);clear a;have a:=d;have z:=aa (eh j.out h);have n:=aa (Jw gx j.out (by decide) h k.out.zp);clear j h d;unfold zl;simp only[y];clear y
  |(with_reducible refine c8.I1 a.out.2 a.out.1 n.out.1 n.out.2.1 n.out.2.2.2 n.out.2.2.1 ?_);clear a n;intro W l c a
  |refine gd 51 ?_;refine IW hF.out rbX.2.2.2.1 B_ (by kernel_rfl) (LI rfl (by simp)) a.out (bQ _ _ _ _ _ _ _ 3 _ rfl) (fun h u=>?_) (fun h A d=>i.out (by simp only[Bo.E,o.out,q.out,z.out,iB h,ec]) _ _ d a.out.hB);have j:=aa h;clear h;unfold zl
  |refine gd 54 ?_;refine LH hF.out rbL.2.2.2.1 ib rfl B_ JQ.2 (by kernel_rfl) rfl rfl (by simp) a.out (bQ _ _ _ _ _ _ _ 3 _ rfl) ha.out.l6 k.out.ds k.out.n6 rfl (fun h u p l c d=>?_) (fun h A p d m=>i.out (by simp only[Bo.E,o.out,q.out,z.out,eh j.out h,ec]) _ _ d m);clear a;have a:=d;have C:=aa (eh j.out h);clear j h d;unfold zl
  |refine gd 62 ?_;refine IW hF.out rbX.2.2.2.2 B9 (by kernel_rfl) rfl a.out (bQ _ _ _ _ _ _ _ 4 _ rfl) (fun h u=>?_) (fun h A d=>i.out (by simp only[Bo.E,o.out,q.out,z.out,C.out,iB h,ec]) _ _ d a.out.hB);have j:=aa h;clear h;unfold zl
  |refine gd 65 ?_;refine LH hF.out rbL.2.2.2.2 ia rfl B9 JP.2 (by kernel_rfl) rfl rfl (by simp) a.out (bQ _ _ _ _ _ _ _ 4 _ rfl) ha.out.l7 k.out.es k.out.n7 rfl (fun h u p l c d=>?_) (fun h A p d m=>i.out (by simp only[Bo.E,o.out,q.out,z.out,C.out,eh j.out h,ec]) _ _ d m);clear a;have a:=d;have M:=aa (eh j.out h);clear j h d;unfold zl;simp only[qs,il,List.nil_append,List.cons_append,qC,Av,Nat.reduceSub,Sp,NI]
  |refine ag 36 ?_;refine ab (by rfl) _ (ar _ 36 _ (by rfl) w.heap.size 198 rfl (ae 104 av b.g) _ (uQ a.out.hX) GK rfl (by rw[ah cL,ac])) ?_
  |(with_reducible refine c8.pp a.out Mn k.out.hg (kT k.out.hg) (gn _) ?_);clear a;intro W l c a)
 have D:b.E=0:=by simp only[Bo.E,o.out,q.out,z.out,C.out,M.out]
 have hL:b.L=eS c_ b.pw:=by unfold Bo.L;rw[aj D]
 have T:=JZ k.out;rw[←hL]at T;rw[hF.out];have V:=aa D;have gL:=aa hL;clear i D hL;simp only[pq,pc,pcAt,headAt,Tryz.f9,reduceIte,Nat.reduceEqDiff,Nat.reduceBEq,dR]
 go_wp2_with (first
  |refine aV 114 ?_;refine c8.LJ a.out rfl rfl (by decide) ?_
  |refine aV 63 ?_;refine LF c_ rfl rfl (by decide) ?_
  |refine(c8.agB a.out (by simp only[iI,List.nil_append,List.cons_append,qC,Av,Hc];rfl) k.out V.out gL.out T).mono ?_;rintro e W2 ⟨⟨l,c,rfl,gb,nW⟩,gA⟩)
 rw[V.out];exact bR rfl _ _ rfl rfl rfl ⟨⟨l,c,rfl,gb,nW⟩,gA⟩
def oV:jT.nm 7∧jT.nm 9:=by
 refine⟨fun b cs W c o=>?_,fun b cs W c o=>?_⟩<;>obtain⟨l,j,i,g,f,rfl,h⟩:=o.out
 ·exact UM b c.out l j i g f W h
 ·exact PZ b c.out l j i g f W h
def lG {b cs W W'} (h:jT.R b cs W) (l:Below W.heap.size W W'):jT.R b cs W':=by obtain⟨j,i,g,f,c,e,h⟩:=h;exact⟨j,i,g,f,c,e,h.later l⟩
def lH {b cs W W'} (h:iz.R b cs W) (c:Below W.heap.size W W'):iz.R b cs W':=by obtain⟨ds,e,h⟩:=h;exact⟨ds,e,lG h c⟩
def MW {b cs W W'} (h:nD.R b cs W) (c:Below W.heap.size W W'):nD.R b cs W':=by obtain⟨ds,e,h⟩:=h;exact⟨ds,e,lH h c⟩
def qS {b cs W} (h:jT.R b cs W):cs.length=302:=by obtain⟨j,i,g,f,c,rfl,_⟩:=h;exact eP _ _ _ _ _ _ _
def qT {b cs W} (h:iz.R b cs W):cs.length=368:=by obtain⟨ds,rfl,h⟩:=h;rw[bM,ac,qS h]
def UP {b cs W} (h:nD.R b cs W):cs.length=464:=by obtain⟨ds,rfl,h⟩:=h;rw[bM,ac,qT h]
def rr {ps:List (List Int)} {p:List Int} (c:∀m∈p,CK.ok .u8 m) (h:∀q∈ps,∀m∈q,CK.ok .u8 m):∀q∈p::ps,∀m∈q,CK.ok .u8 m:=fun q b=>by
 rcases mF.1 b with rfl|b
 ·exact c
 ·exact h q b
def tN {α:Type} {e:El α} (he:e.Ok) {l:List α} (i:∀u∈l,e.ok u) (f:Option Nat):∀m∈xK f e l,CK.ok .u8 m:=by
 have h:∀p∈l.map e.L,∀m∈p,CK.ok .u8 m:=fun p c=>by obtain⟨u,g,rfl⟩:=ft.1 c;exact he.E5 (i u g)
 cases f with
 |none=>
  show ∀m∈iR e l,_;unfold iR;split
  ·exact OD h
  ·intro m b;simp at b
 |some s=>
  show ∀m∈f_ e l,_;unfold f_;split
  ·intro m b
   obtain⟨p,c,b⟩:=List.mem_flatten.1 b;exact h p c m b
  ·intro m b;simp at b
def Bo.E5 {b:Bo} (c:b.ok):∀m∈b.L,CK.ok .u8 m:=by
 unfold Bo.L;split
 ·have h:∀p∈b.pw,∀m∈p,CK.ok .u8 m:=rr (eM (gr c.hf (da (by kernel_rfl)) (by decide:0+96≤193))) (rr (x6 (fd:=bN) (N:=65) rfl (d7 (ii:=kdF bN) c.hf (bB (by kernel_rfl)) (by decide:96+65≤193))) (rr (eM (gr c.hf (da (by kernel_rfl)) (by decide:161+32≤193)))
   (rr (tN h_ c.ps (some 0)) (rr (tN gy c.ss none) (rr (tN gx c.zp none) (rr (tN ib c.ds (some 0)) (rr (tN ia c.es (some 0)) (rr (kT c.hg) (fun q f=>by simp at f)))))))))
  exact dB (x5 h _).1 (x5 h _).2
 ·intro m g;simp at g
def Bo.O' {b:Bo} (c:b.ok):b.L.length≤1099511627776:=by
 unfold Bo.L;split
 ·exact JZ c
 ·simp
def qr.E5 {k} (b:iz.ok k):∀m∈k.L,CK.ok .u8 m:=by
 unfold qr.L;split
 ·exact dB (x6 (fd:=jv) (N:=66) rfl b.1) (dB (rt _) (Bo.E5 b.2))
 ·intro m c;simp at c
def qr.O' {k} (b:iz.ok k):k.L.length≤1099511627876:=by
 unfold qr.L;split
 ·have:=Bo.O' b.2
  simp only[bM,ez,cC];show 80+_≤_;omega
 ·simp
def zj.E5 {g} (b:nD.ok g):∀m∈g.L,CK.ok .u8 m:=by
 unfold zj.L;split
 ·exact dB (rt _) (dB (eM fun j f=>by rw[bY];exact b.2 j f) (qr.E5 b.1))
 ·intro m c;simp at c
def J2 (k:qr):Fits oC k.ps:=⟨rfl,fun i c b=>by
 match i,c with
 |0,_=>exact aX _
 |1,_=>exact aX _
 |2,_=>exact az _ _ _
 |3,_=>exact az _ _ _
 |4,_=>exact absurd rfl b⟩
def U5 {k} (f:iz.ok k):Bt oC k.ps:=⟨J2 k,by decide,fun q c=>bg (yp 0 oC k.ps q 5 c) (by
 have h:=Bo.O' f.2;show ([]++k.b.L).length≤_;rw[List.nil_append]
 omega),by decide⟩
def Jj (g:zj):Fits ri g.ps:=⟨rfl,fun i c b=>by
 match i,c with
 |0,_=>exact absurd rfl b
 |1,_=>exact az _ _ _⟩
def TJ {g} (c:nD.ok g):Bt ri g.ps:=⟨Jj g,by decide,fun q b=>bg (yp 0 ri g.ps q 2 b) (by
 have h:=qr.O' c.1;show ([]++g.k.L).length≤_;rw[List.nil_append]
 omega),by decide⟩
section
variable {n N m:Nat} {kd:Nat→CK} {h:Nat→Int} {ds C:List Value} {t:TypeId} {fr:Nat×Nat} {W:World}
theorem Wt (b c i) (l:Cq kd b c i=true) (o:b+c≤N):∃g,ae N kd h++ds=ae b kd h++(ae c i (fb h b)++g):=by have e:=jn (off:=b) (len:=c) (r:=N-b-c) (kd:=kd) (ii:=i) (f:=h) (bB l);rw[show b+(c+(N-b-c))=N by omega]at e;exact⟨ae (N-b-c) (fun j=>kd (b+(c+j))) (fb h (b+c))++ds,by rw[e];simp only[dA]⟩
theorem tz (j:W.heap[n]?=some (.cells (ae N kd h++ds).toArray t fr)) (b c f) (i:Cq kd b c f=true) (l:b+c≤N):W.rangeAt n b (ae c f (fb h b)):=by obtain⟨g,e⟩:=Wt (ds:=ds) (h:=h) b c f i l;exact dK j e b (ac _ _ _)
theorem tM {f c g} (l:W.heap[n]?=some (.cells C.toArray t fr)) (i:W.rangeAt n f (ae c (fun _=> .u8) g)) (j:uu c (fun _=> .u8) g):cG (some ⟨n,f,none⟩) c (ff g 0 c) W:=⟨zI i j,(fun e=>by cases e),by rw[az];exact cD _,fun b o e=>by cases e;exact aD l⟩
theorem G3 (g:W.heap[n]?=some (.cells (ae N kd h++ds).toArray t fr)) (j:uu N kd h) (b c) (f:Cq kd b c (fun _=> .u8)=true) (i:b+c≤N):cG (some ⟨n,b,none⟩) c (ff h b c) W:=by rw[←Hc];exact tM g (tz g b c _ f i) (d7 j (bB f) i)
theorem post_at (c:W.heap[n]?=some (.cells (ds++ae N kd h).toArray t fr)) (b:ds.length=m):W.rangeAt n m (ae N kd h):=dK c (pre:=ds) (post:=[]) (by rw[fZ]) m b
theorem xW (b:W.heap[n]?=some (.cells (ae N kd h++ds).toArray t fr)):W.rangeAt n N ds:=dK b (pre:=ae N kd h) (post:=[]) (by rw[fZ]) N (ac _ _ _)
variable {ops:Array Oper} {Q:Exit→Act→World→Prop} {rest:List Oper} {a:Act} {d:Option Tmp} {ty T:TypeId} {pos:String} {af:Array Edge} {x:Operand}
theorem Re {b cs D} (i:W.rangeAt n b cs) (f:a.eval x= .pointer (some ⟨n,b,none⟩)) (g:prog.underlying T=some D) (j:D.isRow=true) {M} (c:rowB prog T M=true) (hl:cs.length=M) (k:wpList prog ops Q rest (a.put d (.agg cs.toArray)) W):wpList prog ops Q (⟨d,.load T x,ty,pos,af,none⟩::rest) a W:=ab rfl _ (ar _ T _ rfl n b f cs _ i g j (by rw[ah c,hl])) k
theorem ldN {b v} (g:W.rangeAt n b (ae 1 (fun _=> .u64) (fb h b))) (c:a.eval x= .pointer (some ⟨n,b,none⟩)) (f:v=h b) (k:wpList prog ops Q rest (a.put d (.int .u64 v)) W):wpList prog ops Q (⟨d,.load 26 x,ty,pos,af,none⟩::rest) a W:=by
 subst f;refine ab rfl _ (au _ 26 _ rfl ⟨n,b,none⟩ c (.int .u64 (h b)) ?_ _ Ik rfl) k;have:=g 0 (.int .u64 (h b)) rfl
 rwa [Nat.add_zero]at this
end
def tl:rowB prog 38 302=true:=by kernel_rfl
def i7:rowB prog 50 368=true:=by kernel_rfl
def pF:rowB prog 57 464=true:=by kernel_rfl
section
variable {n:Nat} {C:List Value} {t:TypeId} {N:Nat} {zs:List Nat} {ps:List (List Int)} {k:Nat} {er:Int} {w W W':World} {Q:Ending→World→Prop} {α:Type} {e:El α} {u:α} {fn:Nat} {cs:List Value}
theorem fJ.mJ (h:fJ n C t N zs ps k er w W) (l:e.nm fn) (i:e.ok u) (j:e.R u cs W) {x} (g:e.E u=x) (f:∀W' b c,Hid (fJ n C t N zs ps k er w W'∧bc N (.slice b (e.L u).length c) (e.L u) W')→Q (.returned (.tuple #[.slice b (e.L u).length c,.int .i64 x])) W'):Calls prog fn #[.agg cs.toArray] W Q:=(l u cs W i j).mono fun _ _ ⟨⟨b,c,q,r,p⟩,o⟩=>by rw[q,g];exact f _ b c ⟨h.later o,lh p (dD.hW h)⟩
end
def zX:iz.nm 13:=fun k cs w i s=>by
 have hZ:=aa (U5 i.out);have A:=aa (show k.ps.getD 2 []=ff k.h 2 32 from rfl);have z:=aa (show k.ps.getD 3 []=ff k.h 34 32 from rfl);have p:=aa (show k.ps.getD 4 []=jT.L k.b from rfl);have r:=aa i.out.1;have B:=aa (show jT.ok k.b from i.out.2);obtain⟨ds,rfl,o⟩:=s.out;have H:=aa o;have hl:=aa (qS o);obtain⟨E,j⟩:∃E,k.b.E=E:=⟨_,rfl⟩;have l:=k.lay;rw[j]at l;have D:=aa l;have G:=aa (show jT.E k.b=E from j);show Calls prog _ _ w fun x q=>(∃g c,x= .returned (.tuple #[.slice g k.L.length c,.int .i64 k.b.E])∧(g=none→c=0)∧bc w.heap.size (.slice g k.L.length c) k.L q)∧Below w.heap.size w q;rw[j];clear i s o j l
 go_enter func13,ntmps13
 go_wp2_with (first
  |refine fo _ ?_;refine bW rfl _ _ rfl _ rfl ?_
  |refine ao 65 ?_;refine fJ.LT oC k.ps rfl ?_;intro W f
  |refine ag 26 ?_;refine ldN (h:=k.h) (tz f.out.hX _ 1 (fun _=> .u64) (by kernel_rfl) (by decide)) rfl rfl ?_
  |(with_reducible refine fJ.Bk f.out hZ.out (by decide) (by decide) rfl ?_);clear f;intro W f
  |(with_reducible refine fJ.kA f.out hZ.out (by decide) (by decide) A.out (G3 f.out.hX r.out 2 32 (by kernel_rfl) (by decide)) (az _ _ _) ?_);clear f;intro W f
  |(with_reducible refine fJ.kA f.out hZ.out (by decide) (by decide) z.out (G3 f.out.hX r.out 34 32 (by kernel_rfl) (by decide)) (az _ _ _) ?_);clear f;intro W f
  |refine ag 38 ?_;refine Re (xW f.out.hX) rfl qa rfl tl hl.out ?_
  |(with_reducible refine fJ.mJ f.out oV.1 B.out (lG H.out f.out.hB) G.out ?_);clear f;intro W g c f
  |(with_reducible refine fJ.putK f.out.1 hZ.out (by decide) (by decide) p.out f.out.2 rfl ?_);clear f;intro W f
  |(with_reducible refine fJ.mI (m:=k.L) f.out (by decide) hZ.out (by rw[aj trivial];exact D.out) rfl ?_);intro v J W y F I)
 exact bR rfl _ _ rfl rfl rfl ⟨⟨v,J,rfl,y,F⟩,I⟩
def MV:nD.nm 19:=fun g cs w j r=>by
 have hZ:=aa (TJ j.out);have A:=aa (show g.ps.getD 0 []=iz.L g.k from rfl);have z:=aa (show g.ps.getD 1 []=ff g.s 0 96 from rfl);have D:=aa j.out.1;have B:=aa j.out.2;obtain⟨ds,rfl,p⟩:=r.out;have I:=aa p;have hl:=aa (qT p);obtain⟨E,l⟩:∃E,g.k.b.E=E:=⟨_,rfl⟩;have o:=g.lay;rw[l]at o;have F:=aa o;have H:=aa (show iz.E g.k=E from l);show Calls prog _ _ w fun x q=>(∃i c,x= .returned (.tuple #[.slice i g.L.length c,.int .i64 g.k.b.E])∧(i=none→c=0)∧bc w.heap.size (.slice i g.L.length c) g.L q)∧Below w.heap.size w q;rw[l];clear j r p l o
 go_enter func19,ntmps19
 go_wp2_with (first
  |refine fo _ ?_;refine bW rfl _ _ rfl _ rfl ?_
  |refine ao 65 ?_;refine fJ.LT ri g.ps rfl ?_;intro W f
  |refine ag 50 ?_;refine Re (dK f.out.hX (pre:=[]) rfl 0 rfl) rfl pn rfl i7 hl.out ?_
  |(with_reducible refine fJ.mJ f.out zX D.out (lH I.out f.out.hB) H.out ?_);clear f;intro W i c f
  |(with_reducible refine fJ.putK f.out.1 hZ.out (by decide) (by decide) A.out f.out.2 rfl ?_);clear f;intro W f
  |(with_reducible refine fJ.kA f.out hZ.out (by decide) (by decide) z.out (tM f.out.hX (post_at f.out.hX hl.out) B.out) (az _ _ _) ?_);clear f;intro W f
  |(with_reducible refine fJ.mI (m:=g.L) f.out (by decide) hZ.out (by rw[aj trivial];exact F.out) rfl ?_);intro v K W y G J)
 exact bR rfl _ _ rfl rfl rfl ⟨⟨v,K,rfl,y,G⟩,J⟩
def A3 (m w):
 Calls prog 86 #[.int .u64 m] w fun e d=>(∃a c,e= .returned (.slice a 8 c)∧(a=none→c=0)∧bc w.heap.size (.slice a 8 c) (fH m) d)∧Below w.heap.size w d:=by
 have o:=aa (rE m w)
 go_enter func86,ntmps86
 go_wp2_with (first
  |with_reducible refine o.out.mono ?_
   rintro e W ⟨rfl,g⟩;have b:=aa g;clear g
  |refine ao 184 ?_;refine aw rfl rfl 184 3 _ rfl rfl rfl (kX m) rfl rfl (zeroOf prog 184) (aG iA).1 (aG iA).2 (mh _) ?_
   have hn:=aa (ak W (kX m) 184 W.heap.size rfl);have i:=aa (b.out.alloc b.out.size (.cells (kX m) 184));have f:=i.out.size
  |refine be .append ?_;refine cB rfl (.tmp 6) (.tmp 7) rfl w.heap.size [] (fH m) _ rfl (bc.new (bg b.out.size (by simp)) [] (by decide) (ak _ _ _ _ (by simp))) (some ⟨W.heap.size,0,none⟩) 8 (by rw[aX];rfl) (mU (aR _ _ _ _ hn.out)) (by simp[aX]) (bg f (by simp)) (fun h=>by cases h) (i.out.alloc f _) ?_
   intro v y j r s;obtain⟨k,q,p,l⟩:=aW j
   subst p)
 exact cA rfl _ rfl rfl ⟨⟨k,q,by simp[aX],l,by simpa[aX]using j⟩,r⟩
section
variable {n:Nat} {C:List Value} {t:TypeId} {ps:List Pt} {w W:World} {Q:Ending→World→Prop} {α:Type} {e:El α} {u:α} {fn:Nat} {cs:List Value}
theorem c8.In (h:c8 n C t ps w W) {m} (k:∀b a c,Hid (c8 n C t (ps++[(a,c,8,fH m)]) w b)→Q (.returned (.slice a 8 c)) b):Calls prog 86 #[.int .u64 m] W Q:=(A3 m W).mono fun _ _ ⟨⟨a,c,i,g,f⟩,d⟩=>by rw[i];exact k _ a c ((h.later d).add (cG.b_ f (na m) g) (aX m))
theorem c8.V' (h:c8 n C t ps w W) (i:e.nm fn) (f:e.ok u) (g:e.R u cs W) (hL:∀m∈e.L u,CK.ok .u8 m) {x} (d:e.E u=x) (k:∀b a c,Hid (c8 n C t (ps++[(a,c,(e.L u).length,e.L u)]) w b)→Q (.returned (.tuple #[.slice a (e.L u).length c,.int .i64 x])) b):Calls prog fn #[.agg cs.toArray] W Q:=(i u cs W f g).mono fun _ _ ⟨⟨a,c,p,o,l⟩,j⟩=>by rw[p,d];exact k _ a c ((h.later j).add (cG.b_ l hL o) rfl)
theorem c8.acm {K S L ps' zs} (h:c8 n C t ps w W) (j:iI ps=ps') (hF:Fits zs ps') (d:zs.length=K) (g:∀z∈zs,z≤65536) (f:1≤K∧K≤64) (hL:eS zs ps'=L) (o:L.length=S) (m:S≤1099511627776) (k:∀a c b,(a=none→c=0)→bc n (.slice a S c) L b→Below n w b→Q (.returned (.tuple #[.slice a S c,.int .i64 0])) b):Calls prog 48 #[.slice (some ⟨W.heap.size,0,none⟩) K K,.slice (some ⟨W.heap.size+1,0,none⟩) K K] ((W.alloc (.cells (il ps).toArray 39)).alloc (.cells (HT zs).toArray 3)) Q:=by
 subst j;have l:ps.length=K:=by rw[←d,←hF.1];simp[iI]
 refine(h.RQ zs rfl rfl l d f.1 f.2 g (fun i s d=>hF.2 i (by omega) d) hL o m).mono fun _ b ⟨⟨a,c,e,r,q⟩,p⟩=>?_;rw[e];exact k a c b r q p
end
def qr.Ls {k:qr} (a:k.b.E=0):k.L.length≤200000:=by have h:=(Bo.Hp a).len;have e:k.L=dF jv k.h++(jB 84++k.b.L):=aj a;have c:k.b.L=eS c_ k.b.pw:=aj a;rw[e,c];simp only[bM,ez,cC];show 80+_≤_;omega
def zj.Ls {g:zj} (a:g.k.b.E=0):g.L.length≤300000:=by have h:=qr.Ls a;have e:g.L=jB 100++(ff g.s 0 96++g.k.L):=aj a;rw[e];simp only[bM,az,cC];omega
def o8:iz.nm 15:=fun k cs w g q=>by
 have z:=aa g.out.1;have y:=aa (show jT.ok k.b from g.out.2);have A:=aa (show ∀m∈jT.L k.b,CK.ok .u8 m from Bo.E5 g.out.2);obtain⟨D,rfl,o⟩:=q.out;have B:=aa o;have hl:=aa (qS o);obtain⟨E,f⟩:∃E,k.b.E=E:=⟨_,rfl⟩;show Calls prog _ _ w fun x v=>(∃d c,x= .returned (.tuple #[.slice d k.L.length c,.int .i64 k.b.E])∧(d=none→c=0)∧bc w.heap.size (.slice d k.L.length c) k.L v)∧Below w.heap.size w v;rcases tg (E=0)with p|p
 ·subst p
  have H:=aa (show eS oC k.ps=k.L from(aj f).symm.trans k.lay);have s:=bg (qr.Ls f) (by decide:200000≤1099511627776);have r:=aa (show jT.E k.b=0 from f);rw[f];clear g q o f
  go_enter func15,ntmps15
  go_wp2_with (first
   |refine fo _ ?_;refine bW rfl _ _ rfl _ rfl ?_
    refine bZ (fun W=>c8 w.heap.size (ae 66 (kdF jv) k.h++D) 50 [] w W) (c8.begin (ak _ _ _ _ rfl) rfl) ?_;intro W j;have a:=aa j;clear j
   |refine aV 39 ?_;refine aH rfl fun K i=>d' rfl (i _ _ ?_);clear i K
   |refine dy 39 ?_;refine c8.kA a.out rfl rfl (G3 a.out.hX z.out _ 32 (by kernel_rfl) (by decide)) (az _ _ _) (by decide) ?_;clear a;intro W d c a
   |refine ag 26 ?_;refine ldN (h:=k.h) (tz a.out.hX _ 1 (fun _=> .u64) (by kernel_rfl) (by decide)) rfl rfl ?_
   |(with_reducible refine c8.In a.out ?_);clear a;intro W d c a
   |refine ag 38 ?_;refine Re (xW a.out.hX) rfl qa rfl tl hl.out ?_
   |(with_reducible refine c8.V' a.out oV.2 y.out (lG B.out a.out.hB) A.out r.out ?_);clear a;intro W d c a
   |refine aV 114 ?_;refine c8.LJ a.out rfl rfl (by decide) ?_
   |refine aV 63 ?_;refine LF oC rfl rfl (by decide) ?_
   |refine c8.acm (ps':=k.ps) (zs:=oC) a.out rfl (J2 k) rfl (by decide) (by decide) H.out rfl s ?_;intro F M R G I J)
  exact bR rfl _ _ rfl rfl rfl ⟨⟨F,M,rfl,G,I⟩,J⟩
 ·have l:k.L=[]:=by unfold qr.L;rw[an (by rw[f];exact p)]
  have P:(E !=0)=true:=by simp[p]
  have r:=aa (show jT.E k.b=E from f);rw[f,l];clear g q o f l
  go_enter func15,ntmps15
  go_wp2_with (first
   |refine fo _ ?_;refine bW rfl _ _ rfl _ rfl ?_
    refine bZ (fun W=>c8 w.heap.size (ae 66 (kdF jv) k.h++D) 50 [] w W) (c8.begin (ak _ _ _ _ rfl) rfl) ?_;intro W j;have a:=aa j;clear j
   |refine aV 39 ?_;refine aH rfl fun K i=>d' rfl (i _ _ ?_);clear i K
   |refine dy 39 ?_;refine c8.kA a.out rfl rfl (G3 a.out.hX z.out _ 32 (by kernel_rfl) (by decide)) (az _ _ _) (by decide) ?_;clear a;intro W d c a
   |refine ag 26 ?_;refine ldN (h:=k.h) (tz a.out.hX _ 1 (fun _=> .u64) (by kernel_rfl) (by decide)) rfl rfl ?_
   |(with_reducible refine c8.In a.out ?_);clear a;intro W d c a
   |refine ag 38 ?_;refine Re (xW a.out.hX) rfl qa rfl tl hl.out ?_
   |(with_reducible refine c8.V' a.out oV.2 y.out (lG B.out a.out.hB) A.out r.out ?_);clear a;intro W d c a)
  exact bR rfl _ _ rfl rfl rfl ⟨⟨none,0,rfl,fun _=>rfl,bc.nil _ _⟩,a.out.hB⟩
def tZ:nD.nm 21:=fun g cs w h p=>by
 have y:=aa h.out.1;have H:=aa h.out.2;have z:=aa (show ∀m∈iz.L g.k,CK.ok .u8 m from qr.E5 h.out.1);obtain⟨D,rfl,l⟩:=p.out;have B:=aa l;have hl:=aa (qT l);obtain⟨E,d⟩:∃E,g.k.b.E=E:=⟨_,rfl⟩;show Calls prog _ _ w fun x v=>(∃f c,x= .returned (.tuple #[.slice f g.L.length c,.int .i64 g.k.b.E])∧(f=none→c=0)∧bc w.heap.size (.slice f g.L.length c) g.L v)∧Below w.heap.size w v;rcases tg (E=0)with o|o
 ·subst o
  have I:=aa (show eS ri g.ps=g.L from(aj d).symm.trans g.lay);have r:=bg (zj.Ls d) (by decide:300000≤1099511627776);have q:=aa (show iz.E g.k=0 from d);rw[d];clear h p l d
  go_enter func21,ntmps21
  go_wp2_with (first
   |refine fo _ ?_;refine bW rfl _ _ rfl _ rfl ?_
    refine bZ (fun W=>c8 w.heap.size (D++ae 96 (fun _=> .u8) g.s) 57 [] w W) (c8.begin (ak _ _ _ _ rfl) rfl) ?_;intro W i;have a:=aa i;clear i
   |refine aV 39 ?_;refine aH rfl fun K A=>d' rfl (A _ _ ?_);clear A K
   |refine dy 39 ?_;refine c8.kA a.out rfl rfl (tM a.out.hX (post_at a.out.hX hl.out) H.out) (az _ _ _) (by decide) ?_;clear a;intro W f c a
   |refine ag 50 ?_;refine Re (dK a.out.hX (pre:=[]) rfl 0 rfl) rfl pn rfl i7 hl.out ?_
   |(with_reducible refine c8.V' a.out o8 y.out (lH B.out a.out.hB) z.out q.out ?_);clear a;intro W f c a
   |refine aV 114 ?_;refine c8.LJ a.out rfl rfl (by decide) ?_
   |refine aV 63 ?_;refine LF ri rfl rfl (by decide) ?_
   |refine c8.acm (ps':=g.ps) (zs:=ri) a.out rfl (Jj g) rfl (by decide) (by decide) I.out rfl r ?_;intro F N S G J M)
  exact bR rfl _ _ rfl rfl rfl ⟨⟨F,N,rfl,G,J⟩,M⟩
 ·have j:g.L=[]:=by unfold zj.L;rw[an (by rw[d];exact o)]
  have R:(E !=0)=true:=by simp[o]
  have q:=aa (show iz.E g.k=E from d);rw[d,j];clear h p l d j
  go_enter func21,ntmps21
  go_wp2_with (first
   |refine fo _ ?_;refine bW rfl _ _ rfl _ rfl ?_
    refine bZ (fun W=>c8 w.heap.size (D++ae 96 (fun _=> .u8) g.s) 57 [] w W) (c8.begin (ak _ _ _ _ rfl) rfl) ?_;intro W i;have a:=aa i;clear i
   |refine ag 50 ?_;refine Re (dK a.out.hX (pre:=[]) rfl 0 rfl) rfl pn rfl i7 hl.out ?_
   |(with_reducible refine c8.V' a.out o8 y.out (lH B.out a.out.hB) z.out q.out ?_);clear a;intro W f c a)
  exact bR rfl _ _ rfl rfl rfl ⟨⟨none,0,rfl,fun _=>rfl,bc.nil _ _⟩,a.out.hB⟩
def nine:Array Value:=(c_.map fun z:Nat=>Value.int .i64 (z:Int)).toArray
def sm {b o} (w a) (e:o.op= .buildSlice 63 9 a) (d:(a.toList.map fun p=>(p.1,b p.2))=[(0,.int .i64 96),(1,.int .i64 72),(2,.int .i64 32),(3,.int .i64 0),(4,.int .i64 0),(5,.int .i64 0),(6,.int .i64 0),(7,.int .i64 0),(8,.int .i64 97)]):
 (execOp b o).run prog w= .ok (.value (.slice (some ⟨w.heap.size,0,none⟩) 9 9)) (w.alloc (.cells nine 3)):=
 bj w 63 3 9 a e dZ (.int .i64 0) 1 oo (by decide) (by decide) [.int .i64 96,.int .i64 72,.int .i64 32,.int .i64 0,.int .i64 0,.int .i64 0,.int .i64 0,.int .i64 0,.int .i64 97] rfl d (fun u c=>by
  simp only[mF,vJ,vH]at c
  rcases c with rfl|rfl|rfl|rfl|rfl|rfl|rfl|rfl|rfl<;>rfl)
def Eb (F) (h:F=Tryz.f12):(Tryz.f12).body=some (.seq (pc 0 Tryz.f12) (.seq (pc 1 Tryz.f12) (.seq (pc 2 Tryz.f12) (.seq (pc 3 Tryz.f12) (tq 5 F))))):=by
 subst h
 kernel_rfl
def vF.start {w W} (hW:W=(w.alloc (.cells bK.toArray 38)).alloc (.cells bK.toArray 38)):vF w.heap.size bK w W:=by subst hW;exact⟨aR _ _ _ _ (ak _ _ _ _ rfl),ak _ _ _ _ (by simp),dt.alloc (by simp) _,by simp⟩
def aaa {a:Code} {n:Nat} {vP:Value} {Q A W} (h:∀u,a.wp prog Q (wm n vP u) W) (b:A=wm n vP (fun k=>A.tmps.getD k undef)):a.wp prog Q A W:=by rw[b];exact h _
def Kh (r l A c w R) (I:cG A c l w) (hl:l.length<4294967296) (M:∀(z:Int) d,z≠0→z=(jY r l:Int)→Below w.heap.size w d→R (.returned (.tuple #[.agg bK.toArray,.int .i64 z])) d) (L:∀G E D C B d,jY r l=0→If (Ap r (uV l) l) (w.heap.size+2) G E D C B d→Below w.heap.size w d→R (.returned (.tuple #[.agg (cJ (Ap r (uV l) l).f (Ap r (uV l) l).g G E D C B).toArray,.int .i64 0])) d):
 Calls prog 12 #[.slice A l.length c] w R:=by
 obtain⟨a,k⟩:∃a,a=(w.alloc (.cells bK.toArray 38)).alloc (.cells bK.toArray 38):=⟨_,rfl⟩;have s:=vF.start k;have H:a.heap.size=w.heap.size+2:=by rw[k];simp
 have p:Below a.heap.size a (a.alloc (.cells nine 3)):=dt;have J:=aa (s.later p);have hs:=aa ((I.later s.hB).later p);have hZ:=aa (show et (w.heap.size+1+1) c_ (a.alloc (.cells nine 3))from ak _ _ _ _ (by rw[H]));have N:=aa M;have S:=aa L;have Q:=aa k;have P:w.heap.size+2≤(a.alloc (.cells nine 3)).heap.size:=by rw[bn];omega
 clear I M L s Q p H;subst k;obtain⟨F,v⟩:∃F,F=Tryz.f12:=⟨_,rfl⟩;refine tf func12 (Eb F v) ?_;have hF:=aa v;clear v;simp only[ntmps12,cI,List.length_cons,List.length_nil,Nat.reduceAdd,Nat.reduceSub,oK,Array.replicate_zero,oG,oJ,List.nil_append,List.cons_append];simp only[pc,pcAt,headAt,Tryz.f12,reduceIte,Nat.reduceEqDiff,Nat.reduceBEq,dR];by_cases e:BV l=0
 ·go_wp2_with (first
   |refine ao 38 ?_;refine fX 2 qQ ?_
   |refine ao 38 ?_;refine fX 4 qQ ?_
   |refine aV 63 ?_;refine aH rfl fun K b=>bV _ (sm _ _ (by rfl) (by rfl)) (b _ _ ?_);clear b K
   |refine ac8 hs.out hl hZ.out (fun d h=>absurd e h) (fun O o y _ T q=>?_))
  refine aaa (n:=w.heap.size) (vP:= .slice o 9 y) (fun u=>?_) (by kernel_rfl);have W:jY r l=nl r (uV l) l:=by unfold jY;rw[aj e]
  have j:=N.out;have i:=S.out;rw[W]at j i;exact qG5 r F hF.out R w.heap.size (uV l) l _ o y (fV c_ l) w O u hl (qn l) P (rP l) (nz l).1 (nz l).2.1 (nz l).2.2.1 (nz l).2.2.2 (yv e).1 T.out (J.out.later q) j i
 ·have Y:((BV l:Int) !=0)=true:=by simp;omega
  go_wp2_with (first
   |refine ao 38 ?_;refine fX 2 qQ ?_
   |refine ao 38 ?_;refine fX 4 qQ ?_
   |refine aV 63 ?_;refine aH rfl fun K b=>bV _ (sm _ _ (by rfl) (by rfl)) (b _ _ ?_);clear b K
   |refine ac8 hs.out hl hZ.out (fun O _ q=>?_) (fun d o y h=>absurd h e);have m:=aa (J.out.later q)
   |refine ag 38 ?_;refine ab (by rfl) _ (ay _ 38 _ (by rfl) (w.heap.size+1) (by rfl) _ _ (0,0) _ m.out.hX qa rfl (by rw[gV];rfl)) ?_
   |refine al 38 ?_;refine aH rfl fun K b=>wp_store_row 38 _ _ rfl w.heap.size rfl _ rfl od (by rw[gV];rfl) _ 38 m.out.hR rfl (fun Z U V=>b _ _ ?_);clear b K)
  exact zA rfl rfl rfl U (N.out _ _ (by omega) (by unfold jY;rw[an e]) (V.below m.out.hB bG (by have:=m.out.hz;omega)))
def Me:LV 12:=fun r l d c w hs hl=>Kh r l d c w _ hs.out hl.out
 (fun z g b he a=>by
   have e:st r l=VU:=by unfold st;rw[an (by omega)]
   rw[e,←he]
   exact⟨⟨_,_,_,_,_,rfl,BQ _ _⟩,a⟩)
 (fun m k j i h g b f a=>by
   have e:st r l=Ap r (uV l) l:=by unfold st;rw[aj b]
   rw[e,b]
   exact⟨⟨_,_,_,_,_,rfl,f.low (by omega)⟩,a⟩)
def xP (b:Bo) (N:Nat) (q:List Value) (W:World):Prop:=∃o k j i h,q=cJ b.f b.g o k j i h∧If b N o k j i h W
def vU (k:qr) (N:Nat) (g:List Value) (W:World):Prop:=∃f,g=ae 66 (kdF jv) k.h++f∧xP k.b N f W
def AK (g:zj) (N:Nat) (f:List Value) (W:World):Prop:=∃b,f=b++ae 96 (fun _=> .u8) g.s∧vU g.k N b W
def xx {α:Type} (own:α→Nat→List Value→World→Prop) (h:Nat) (g:List Int→α) (er:List Int→Nat):Prop:=∀l va c W,Hid (cG va c l W)→Hid (l.length<4294967296)→Calls prog h #[.slice va l.length c] W fun x b=>(∃f,x= .returned (.tuple #[.agg f.toArray,.int .i64 (er l:Int)])∧own (g l) W.heap.size f b)∧Below W.heap.size W b
structure Sd {α:Type} (e:El α) (own:α→Nat→List Value→World→Prop):Prop where
 kp:∀{b N k cs W W'},own b N cs W→Kp k W W'→k≤N→own b N cs W'
 low:∀{b N N' cs W},own b N' cs W→N≤N'→own b N cs W
 R:∀{b N cs W},own b N cs W→e.R b cs W
 len:∀{b N cs W},own b N cs W→cs.length=e.N
 one:∀{b N cs W},own b N cs W→∀v∈cs,v.oneCell'=true
def i8:Sd jT xP where
 kp h o hn:=by
  obtain⟨k,j,i,g,f,e,h⟩:=h
  exact⟨k,j,i,g,f,e,h.kp o hn⟩
 low h hn:=by
  obtain⟨k,j,i,g,f,e,h⟩:=h
  exact⟨k,j,i,g,f,e,h.low hn⟩
 R h:=by
   obtain⟨k,j,i,g,f,e,h⟩:=h
   exact⟨k,j,i,g,f,e,h.at⟩
 len h:=by
  obtain⟨k,j,i,g,f,rfl,h⟩:=h
  exact eP _ _ _ _ _ _ _
 one h:=by
  obtain⟨k,j,i,g,f,rfl,h⟩:=h
  intro v b
  rcases iD.1 b with b|b
  ·exact cl v b
  ·rcases iD.1 b with b|b
   ·simp only[mF,vJ,vH]at b
    rcases b with rfl|rfl|rfl|rfl|rfl
    ·exact h.o3.one
    ·exact h.o4.one
    ·exact h.o5.one
    ·exact h.o6.one
    ·exact h.o7.one
   ·exact cl v b
def gD:Sd iz vU where
 kp h g hn:=by
  obtain⟨b,e,h⟩:=h
  exact⟨b,e,i8.kp h g hn⟩
 low h hn:=by
  obtain⟨b,e,h⟩:=h
  exact⟨b,e,i8.low h hn⟩
 R h:=by
   obtain⟨b,e,h⟩:=h
   exact⟨b,e,i8.R h⟩
 len h:=by
  obtain⟨b,rfl,h⟩:=h
  rw[bM,ac,i8.len h]
  rfl
 one h:=by
  obtain⟨b,rfl,h⟩:=h
  intro v f
  rcases iD.1 f with f|f
  ·exact cl v f
  ·exact i8.one h v f
def r_:Sd nD AK where
 kp h g hn:=by
  obtain⟨b,e,h⟩:=h
  exact⟨b,e,gD.kp h g hn⟩
 low h hn:=by
  obtain⟨b,e,h⟩:=h
  exact⟨b,e,gD.low h hn⟩
 R h:=by
   obtain⟨b,e,h⟩:=h
   exact⟨b,e,gD.R h⟩
 len h:=by
  obtain⟨b,rfl,h⟩:=h
  rw[bM,ac,gD.len h]
  rfl
 one h:=by
  obtain⟨b,rfl,h⟩:=h
  intro v f
  rcases iD.1 f with f|f
  ·exact gD.one h v f
  ·exact cl v f
def RO (r):xx xP 11 (st r) (jY r)∧xx xP 12 (st r) (jY r):=by have b:∀{f:Nat},LV f→xx xP f (st r) (jY r):=fun h l va c w hs hl=>(h r l va c w hs hl).mono fun x v ⟨⟨o,k,j,i,g,u,s⟩,q⟩=>⟨⟨_,u,o,k,j,i,g,rfl,s⟩,q⟩;exact⟨b P2,b Me⟩
def dJ:List Value:=ae 66 (kdF jv) (fun _=>0)++bK
def gk:List Value:=dJ++ae 96 (fun _=> .u8) (fun _=>0)
def uA:(prog.info? 50).map (fun i=>(i.zero,i.size))=some (some (.agg dJ.toArray),368):=by kernel_rfl
def uz:(prog.info? 57).map (fun i=>(i.zero,i.size))=some (some (.agg gk.toArray),464):=by kernel_rfl
def kq (N W):vU Lz N dJ W:=⟨_,rfl,_,_,_,_,_,rfl,BQ N W⟩
def lW (N W):AK Lk N gk W:=⟨_,rfl,kq N W⟩
def ui {b o} (w) (f:o.op= .build 50 #[]):(execOp b o).run prog w= .ok (.value (.agg dJ.toArray)) w:=by
 have h:(Instr.build 50 #[]).run prog w= .ok (.agg dJ.toArray) w:=by kernel_rfl
 exact run_build 50 #[] f _ h
def ug {b o} (w) (f:o.op= .build 57 #[]):(execOp b o).run prog w= .ok (.value (.agg gk.toArray)) w:=by
 have h:(Instr.build 57 #[]).run prog w= .ok (.agg gk.toArray) w:=by kernel_rfl
 exact run_build 57 #[] f _ h
def jP {b:List Value} (h:∀v∈b,v.oneCell'=true):b.toArray.all (·.oneCell')=true:=by rw[vM,nn];exact h
section
variable {n N:Nat} {fd:rg} {Z C:Array Value} {post:List Value} {t:TypeId} {aB:List Nat} {nx:Nat} {l:List Int} {va:Option Addr} {c p m er at':Nat} {w W W':World}
def O_ (n N:Nat) (fd:rg) (Z:Array Value) (post:List Value) (t:TypeId) (aB:List Nat) (nx:Nat) (l:List Int) (va:Option Addr) (c p m er:Nat) (w W:World):Prop:=∃f at',dr n Z (ae N (kdF fd) f++post).toArray t aB nx l va c at' er w W∧(er=0→at'=p∧∀k,k<m→f k=rdF fd l k)
theorem dr.agc (h:dr n Z C t aB nx l va c at' er w W) (g:er=0→at'+8≤l.length):
 Calls prog 88 #[.pointer (some ⟨n+1+1,0,none⟩)] W fun e f=>∃v,e= .returned (.int .u64 v)∧(er=0→v=p9 ((l.drop at').take 8))∧dr n Z C t aB nx l va c (if er=0 then at'+8 else at') er w f:=by
 obtain⟨u,o,k⟩:=h.hI.ex;refine(OI (n+1+1) l va c at' er W o g).mono fun _ W' ⟨j,i,b⟩=>⟨_,j,fun e=>?_,h.step ⟨u,i,de k b (mE _)⟩ b⟩;unfold inN Rh p9;rw[aj e]
theorem O_.Bk {Q} (h:O_ n N fd Z post t aB nx l va c p m er w W) (hl:er=0→p+8≤l.length) (k:∀W' v,Hid (er=0→v=p9 ((l.drop p).take 8))→Hid (O_ n N fd Z post t aB nx l va c (p+8) m er w W')→Q (.returned (.int .u64 v)) W'):Calls prog 88 #[.pointer (some ⟨n+1+1,0,none⟩)] W Q:=by obtain⟨f,a,o,b⟩:=h;refine(o.agc fun e=>by rw[(b e).1];exact hl e).mono fun _ W' ⟨v,j,i,g⟩=>?_;rw[j];exact k W' v (fun e=>by rw[←(b e).1];exact i e) ⟨f,_,g,fun e=>⟨by rw[aj e,(b e).1],(b e).2⟩⟩
variable {ops:Array Oper} {Q:Exit→Act→World→Prop} {rest:List Oper} {a:Act} {d:Option Tmp} {ty:TypeId} {pos:String} {af:Array Edge} {x y:Operand}
theorem O_.Vt (h:O_ n N fd Z post t aB nx l va c p m er w W) {g v} (u:a.eval x= .pointer (some ⟨n+1,g,none⟩)) (s:a.eval y= .int .u64 v) (A:g=m) (G:g<N) (B:kdF fd g= .u64) (z:er=0→v=rdF fd l g) (k:∀W',Hid (O_ n N fd Z post t aB nx l va c p (g+1) er w W')→wpList prog ops Q rest (a.put d undef) W'):wpList prog ops Q (⟨d,.store 26 x y,ty,pos,af,none⟩::rest) a W:=by
 obtain⟨f,b,r,q⟩:=h;subst A;refine aH rfl fun K D=>bt 26 x y rfl (n+1) g u _ s rfl rq _ t r.hX (by simp[ae];omega) (fun W' E F=>D _ _ (k W' ⟨fun j=>if j=g then v else f j,b,r.rj F ?_,fun e=>⟨(q e).1,fun j i=>?_⟩⟩))
 ·rw[E,IK]
  congr 2
  congr 1
  refine mG fun j=>?_;rw[Fe];by_cases i:j<N
  ·rw[eY (by rw[ac];exact i),eY (by rw[ac];exact i),aN _ _ _ _ i,aN _ _ _ _ i]
   by_cases e:g=j
   ·subst e
    rw[aj rfl,aj (by simp[ac];omega),aj rfl,B];rfl
   ·rw[an e,an (fun o=>e o.symm)]
  ·rw[an (by omega),fT (by rw[ac];omega),fT (by rw[ac];omega),ac,ac]
 ·show (if j=g then v else f j)=_
  by_cases o:j=g
  ·rw[aj o,o];exact z e
  ·rw[an o];exact(q e).2 j (by omega)
theorem Fv {o:Oper} {K:Act→World→Prop} (d s:Operand) (F:o.op= .call {callee:= .builtin .copy,args:=#[d,s],argTypes:=#[39,39]}) (g k r b i A z:Nat) (G:a.eval d= .slice (some ⟨n+1,g,none⟩) k z) (hs:a.eval s= .slice (some ⟨b,i,none⟩) k A) {f:Nat→Int}
 (h:dr n Z (ae N (kdF fd) f++post).toArray t aB nx l va c at' er w W) (v:∀j,j<k→kdF fd (g+j)= .u8) (u:g+(k+r)=N) (q:List Int) (E:Row W (some ⟨b,i,none⟩) .u8 q) (D:q.length=k)
 (I:∀W',dr n Z (ae N (kdF fd) (sI f g k fun j=>q.getD j 0)++post).toArray t aB nx l va c at' er w W'→K (a.put o.dst (goInt k)) W'):o.wp prog a W K Q:=by
 refine og d s F g k b i A z G hs h (ae g (kdF fd) f) (ae r (fun j=>kdF fd (g+(k+j))) (fb f (g+k))++post) (fb f g) ?_ (ac _ _ _) q E D fun W' H _=>I W' ?_
 ·rw[←u,jn (ii:=fun _=> .u8) v];simp only[dA]
 ·rw[←u,G4 (ii:=fun _=> .u8) v];simpa only[dA]using H
theorem yk {f b o} (h:f≤b):bz f b [o] 1↔o=f:=by
 constructor
 ·intro g
  have:=g 0 (by decide);unfold g5 at this;simp at this;omega
 ·rintro rfl q i
  obtain rfl:q=0:=by omega
  unfold g5;simp;omega
theorem dr.X4 {Q hd o} (h:dr n Z C t [] 0 l va c 0 er w W) (E:K1 (n+1+1) l va c 0 er W) (he:er=if hd≤l.length then 0 else 4) (G:o+4≤hd) {x} (z:x=(hd:Int)) {y} (F:y=(o:Int)) {b r} (u:W.heap[b]?=some (.cells #[.int .i64 y] 3 (0,0))) (D:n+1+1<b) (k:∀W' aB v,Hid (dr n Z C t aB 0 l va c 0 v w W')→Hid (v=if hd≤l.length then(if aK l o=hd then 0 else 5)else 4)→Hid (v=0→aB=[hd,l.length])→Q (.returned (.tuple #[])) W'):Calls prog 60 #[.pointer (some ⟨n+1+1,0,none⟩),.int .i64 x,.slice (some ⟨b,0,none⟩) 1 r] W Q:=by
 subst F;by_cases hl:hd≤l.length
 ·rw[aj hl]at he
  subst he
  have A:∀j,j<1→W.cell? ⟨b,j,none⟩=some (.int .i64 (([o].getD j 0:Nat):Int)):=fun j s=>by
   rw[br _ _ j _ _ _ u]
   match j,s with
   |0,_=>rfl
  have B:∀j,j<1→[o].getD j 0+4≤l.length:=fun j s=>by
   match j,s with
   |0,_=>show o+4≤_;omega
  by_cases f:aK l o=hd
  ·exact(h.Fo E hd b 1 r x z [o] (by omega) rfl (by decide) hl A (aD u) D B ((yk hl).2 f)).mono fun _ W' ⟨q,i⟩=>by rw[q];exact k W' _ 0 i (by rw[aj hl,aj f];exact aa rfl) (fun _=>by rw[←f];rfl)
  ·exact(h.NX E hd b 1 r x z [o] (by omega) rfl (by decide) hl A (aD u) D B (fun g=>f ((yk hl).1 g))).mono fun _ W' ⟨q,aB,i⟩=>by rw[q];exact k W' _ 5 i (by rw[aj hl,an f];exact aa rfl) (fun e=>by cases e)
 ·rw[an hl]at he
  subst he
  exact(h.NY (by decide) x _ 1 r).mono fun _ W' ⟨q,i⟩=>by rw[q];exact k W' _ 4 i (by rw[an hl];exact aa rfl) (fun e=>by cases e)
end
section
variable {α:Type} {e:El α} {own:α→Nat→List Value→World→Prop} {n:Nat} {Z:Array Value} {C:List Value} {t:TypeId} {aB:List Nat} {nx:Nat} {l:List Int} {va:Option Addr} {c at':Nat} {w W:World}
theorem xx.mJ {Q j i er} (h:xx own j i er) {P f g x} (hs:cG f g P W) (hl:P.length<4294967296) (o:er P=x) (k:∀W' b,Hid (own (i P) W.heap.size b W')→Below W.heap.size W W'→Q (.returned (.tuple #[.agg b.toArray,.int .i64 (x:Int)])) W'):Calls prog j #[.slice f P.length g] W Q:=by subst o;exact(h P f g W hs hl).mono fun _ W' ⟨⟨b,s,r⟩,q⟩=>by rw[s];exact k W' b r q
end
def BG (n:Nat) (u:Nat→Value):Act:={tmps:=#[u 0,u 1,.pointer (some ⟨n,0,none⟩),u 3,.pointer (some ⟨n+1,0,none⟩),.pointer (some ⟨n+1+1,0,none⟩),u 6,u 7,u 8,u 9,u 10,u 11,u 12,u 13,u 14,u 15,u 16,u 17,u 18,u 19,u 20,u 21,u 22,u 23,u 24,u 25,u 26,u 27,u 28,u 29,u 30,u 31,u 32,u 33,u 34,u 35,u 36,u 37,u 38,u 39,u 40,u 41,u 42,u 43,u 44,u 45,u 46,u 47,u 48,u 49,u 50,u 51,u 52,u 53,u 54,u 55],defers:=[]}
def aad {a:Code} {n:Nat} {Q A W} (h:∀u,a.wp prog Q (BG n u) W) (b:A=BG n (fun k=>A.tmps.getD k undef)):a.wp prog Q A W:=by rw[b];exact h _
def G' {n:Nat} {Q:Exit→Act→World→Prop} {P:World→Prop} {A:Act} {W:World} (g:∀b a,P a→Q .normal (BG n b) a) (h:P W) (c:A=BG n (fun k=>A.tmps.getD k undef)):Q .normal A W:=by
 have d:=g (fun k=>A.tmps.getD k undef) W h
 rwa [←c]at d
def dK6 (F) (hF:F=Tryz.f17) (Q n Z b t m o l k c h w W u) (p:h=0→16+32≤l.length) (L:O_ n 66 jv Z b t m o l k c 16 2 h w W) (y:∀A z,O_ n 66 jv Z b t m o l k c (16+32) (2+32) h w z→Q .normal (BG n A) z) (H:∀c a d v w,Q (.panic c) (Act.put a (some d) v) w→Q (.panic c) a w):(pq 6 F).wp prog Q (BG n u) W:=by obtain⟨f,P,s,r⟩:=L;have K:=aa s;have M:=aa y;have g:=aa r;have hl:=aa p;clear s y r p;subst hF;simp only[pq,pc,pcAt,headAt,Tryz.f17,reduceIte,Nat.reduceEqDiff,Nat.reduceBEq,dR];unfold BG;refine dQ (S:=fun _=>True) (by kernel_rfl) ?_;have U:True:=trivial;refine gY 0 1 2 (.pointer (some ⟨n+1,2,none⟩)) (.slice (some ⟨n+1,2,none⟩) 32 32) (.pointer (some ⟨n+1+1,0,none⟩)) rfl (by kernel_rfl) (fun _=>by kernel_rfl) H ‹_› ?_;refine cQ (i:=3) rfl (by kernel_rfl) rfl (it 61 #[.pointer (some ⟨n+1+1,0,none⟩),.int .i64 32] (by go_simp) _ ((K.out.drew _).kh 32 (32:Int) rfl (by decide) (by decide) (fun e=>by rw[(g.out e).1];exact hl.out e)) ?_);rintro v X ⟨O,C,N,B,rfl,R,T,D,E,G,J,V⟩;refine⟨trivial,?_⟩;go_frame;refine cQ (i:=4) rfl (by kernel_rfl) rfl (Fv _ _ rfl 2 32 32 O C N 32 rfl rfl J (bB rfl) rfl B D E (fun Y I=>⟨trivial,?_⟩));refine dM (by kernel_rfl) ?_ _;exact G' M.out ⟨_,_,I,fun e=>by rw[aj e,(g.out e).1];exact⟨rfl,tA 2 32 (g.out e).2 fun j q=>by rw[G e,bA _ _ _ _ q,(g.out e).1];exact((rx (n:=32) jv l 2 16 (by decide) j q).2).symm⟩⟩ (by kernel_rfl)
def dK7 (F) (hF:F=Tryz.f17) (Q n Z b t m o l k c h w W u) (p:h=0→48+32≤l.length) (L:O_ n 66 jv Z b t m o l k c 48 34 h w W) (y:∀A z,O_ n 66 jv Z b t m o l k c (48+32) (34+32) h w z→Q .normal (BG n A) z) (H:∀c a d v w,Q (.panic c) (Act.put a (some d) v) w→Q (.panic c) a w):(pq 7 F).wp prog Q (BG n u) W:=by obtain⟨f,P,s,r⟩:=L;have K:=aa s;have M:=aa y;have g:=aa r;have hl:=aa p;clear s y r p;subst hF;simp only[pq,pc,pcAt,headAt,Tryz.f17,reduceIte,Nat.reduceEqDiff,Nat.reduceBEq,dR];unfold BG;refine dQ (S:=fun _=>True) (by kernel_rfl) ?_;have U:True:=trivial;refine gY 0 1 2 (.pointer (some ⟨n+1,34,none⟩)) (.slice (some ⟨n+1,34,none⟩) 32 32) (.pointer (some ⟨n+1+1,0,none⟩)) rfl (by kernel_rfl) (fun _=>by kernel_rfl) H ‹_› ?_;refine cQ (i:=3) rfl (by kernel_rfl) rfl (it 61 #[.pointer (some ⟨n+1+1,0,none⟩),.int .i64 32] (by go_simp) _ ((K.out.drew _).kh 32 (32:Int) rfl (by decide) (by decide) (fun e=>by rw[(g.out e).1];exact hl.out e)) ?_);rintro v X ⟨O,C,N,B,rfl,R,T,D,E,G,J,V⟩;refine⟨trivial,?_⟩;go_frame;refine cQ (i:=4) rfl (by kernel_rfl) rfl (Fv _ _ rfl 34 32 0 O C N 32 rfl rfl J (bB rfl) rfl B D E (fun Y I=>⟨trivial,?_⟩));refine dM (by kernel_rfl) ?_ _;exact G' M.out ⟨_,_,I,fun e=>by rw[aj e,(g.out e).1];exact⟨rfl,tA 34 32 (g.out e).2 fun j q=>by rw[G e,bA _ _ _ _ q,(g.out e).1];exact((rx (n:=32) jv l 34 48 (by decide) j q).2).symm⟩⟩ (by kernel_rfl)
def ahp (F) (hF:F=Tryz.f17) (R n C z A l y c j a w b u) (he:a≠0) (g:dr n dJ.toArray C 50 z A l y c j a w b) (o:∀s,Below n w s→R (.returned (.tuple #[.agg dJ.toArray,.int .i64 (a:Int)])) s):(tq 12 F).wp prog (bodyPost prog Tryz.f17 R) (BG n u) b:=by
 have d:=aa g;have E:=aa o;have G:((a:Int)==0)=false:=by simp;omega
 have H:((a:Int) !=0)=true:=by simp;omega
 have I:=g.size;clear g o;subst hF;simp only[tq,tlAt,headAt,Tryz.f17,reduceIte,Nat.reduceEqDiff,Nat.reduceBEq,dR];unfold BG
 go_wp2_with (first
  |refine ag 41 ?_;refine dq (v:=(.int .i64 (a:Int))) d.out.dS fU ?_ rfl rfl rfl rfl)
 rename_i K q;refine dQ (S:=fun e=>e.cell? ⟨n+1+1,4,none⟩=some (.int .i64 (a:Int))) (by kernel_rfl) ?_;have f:({b with drawn:=b.drawn+1}:World).cell? ⟨n+1+1,4,none⟩=some (.int .i64 (a:Int)):=d.out.dS;refine aJ (i:=0) (v:=(.agg dJ.toArray)) rfl (by kernel_rfl) bH ‹_› (fun e _=>ui e rfl) ?_;go_frame;refine gY 1 2 3 (.pointer (some ⟨n+1+1,0,none⟩)) (.pointer (some ⟨n+1+1,0,none⟩)) (.pointer (some ⟨n+1+1,4,none⟩)) rfl (by kernel_rfl) (fun _=>by kernel_rfl) bH ‹_› ?_;go_frame;refine aJ (i:=4) (v:=(.int .i64 (a:Int))) rfl (by kernel_rfl) bH ‹_› (fun e m=>au _ 41 _ (by rfl) ⟨n+1+1,4,none⟩ (by rfl) _ m _ fU rfl) ?_;go_frame;refine cQ (i:=5) rfl (by kernel_rfl) rfl (wp_store_row 50 _ _ rfl n rfl _ rfl (jP (gD.one (kq 0 b))) (by rw[ah i7];rfl) _ 50 (d.out.drew _).hR rfl (fun r B h=>⟨(h.cell (p:=⟨n+1+1,4,none⟩) (by show n+1+1<b.heap.size;omega) (show n+1+1≠n by omega)).trans d.out.dS,?_⟩));have k:r.cell? ⟨n+1+1,4,none⟩=some (.int .i64 (a:Int)):=(h.cell (p:=⟨n+1+1,4,none⟩) (by show n+1+1<b.heap.size;omega) (show n+1+1≠n by omega)).trans d.out.dS;clear f;have f:=k;clear k;go_frame;refine aJ (i:=6) (v:=(.int .i64 (a:Int))) rfl (by kernel_rfl) bH ‹_› (fun e m=>by go_simp) ?_;go_frame;refine dM (by kernel_rfl) ?_ _;simp only[Exit.then];refine q _ _ ?_;have D:Below n w r:=h.below (d.out.drew _).hB bG (by show n≤b.heap.size;omega);clear f q K;go_wp2;exact aI rfl n 0 dJ _ rfl (aE B) pn rfl (by rw[ah i7];rfl) rfl (E.out _ D)
def aho (F) (hF:F=Tryz.f17) (R n) (a:List Value) (r:List Nat) (s) (l:List Int) (q:Option Addr) (c g w e u) (h:a.length=368) (o:∀v∈a,v.oneCell'=true) (i:dr n dJ.toArray a.toArray 50 r s l q c g 0 w e) (j:∀f,Below n w f→Kp (n+3) e f→R (.returned (.tuple #[.agg a.toArray,.int .i64 0])) f):(tq 12 F).wp prog (bodyPost prog Tryz.f17 R) (BG n u) e:=by
 have b:=aa i;have B:=aa j;have d:=aa h;have A:=aa (jP o);clear i j o h;subst hF;simp only[tq,tlAt,headAt,Tryz.f17,reduceIte,Nat.reduceEqDiff,Nat.reduceBEq,dR];unfold BG
 go_wp2_with (first
  |refine ag 41 ?_;refine dq (v:=(.int .i64 0)) b.out.dS fU ?_ rfl rfl rfl rfl
  |refine ag 50 ?_;refine ab (by rfl) _ (ay _ 50 _ (by rfl) (n+1) (by rfl) _ _ (0,0) _ b.out.hX pn rfl (by rw[ah i7,cI,d.out])) ?_
  |refine al 50 ?_;refine aF 50 n 0 rfl ?_;refine aH rfl fun K k=>wp_store_row 50 _ _ rfl n rfl _ rfl A.out (by rw[ah i7,cI,d.out]) _ 50 b.out.hR (by show _=a.length;rw[d.out];rfl) (fun p y m=>k _ _ ?_);clear k K)
 have z:Below n w p:=m.below b.out.hB bG (by have:=b.out.size;omega);exact aI rfl n 0 a _ rfl (aE y) pn rfl (by rw[ah i7,d.out]) rfl (B.out p z ((Kp.refl _ _).apart m (by omega)))
def aec (F) (h:F=Tryz.f17):(Tryz.f17).body=some (.seq (pc 0 Tryz.f17) (.seq (pc 1 Tryz.f17) (.seq (pc 2 Tryz.f17) (.seq (pc 3 Tryz.f17) (.seq (pc 4 Tryz.f17) (.seq (pc 5 Tryz.f17) (tq 6 F))))))):=by
 subst h
 kernel_rfl
def cK6 (F) (h:F=Tryz.f17):tq 6 F= .seq (pq 6 F) (tq 7 F):=by
 subst h
 kernel_rfl
def cK7 (F) (h:F=Tryz.f17):tq 7 F= .seq (pq 7 F) (tq 8 F):=by
 subst h
 kernel_rfl
def cK8 (F) (h:F=Tryz.f17):tq 8 F= .seq (pq 8 F) (tq 12 F):=by
 subst h
 kernel_rfl
def sE8 (F) (hF:F=Tryz.f17) (Q n Z C t i j l g c d a w W u) (he:a≠0) (e:dr n Z C t i j l g c d a w W) (f:∀b,Q .normal (BG n b) W):(pq 8 F).wp prog Q (BG n u) W:=by
 have k:=aa e;have m:=aa (fun b o (h:o=W)=>h▸f b);have p:((a:Int)==0)=false:=by simp;omega
 clear e f;subst hF;simp only[pq,pc,pcAt,headAt,Tryz.f17,reduceIte,Nat.reduceEqDiff,Nat.reduceBEq,dR];unfold BG
 go_wp2_with (first
  |refine ag 41 ?_;refine dq (v:=(.int .i64 (a:Int))) k.out.dS fU ?_ rfl rfl rfl rfl)
 exact G' m.out rfl (by kernel_rfl)
def sG8 (r F) (hF:F=Tryz.f17) (Q n Z f t l s c k w W u P) (z:P=l.drop 84) (K:84≤l.length) (hl:l.length<4294967296) (I:k≤1000000) (D:dr n Z (ae 66 (kdF jv) f++bK).toArray t [84,l.length] 0 l s c k 0 w W) (E:∀y g o,dr n Z (ae 66 (kdF jv) f++g).toArray t [84,l.length] 1 l s c (k+4) (jY r P) w o∧xP (st r P) (n+3) g o→Q .normal (BG n y) o):(pq 8 F).wp prog Q (BG n u) W:=by
 have d:=aa D;have L:=aa (fun y o (h:∃g,dr n Z (ae 66 (kdF jv) f++g).toArray t [84,l.length] 1 l s c (k+4) (jY r P) w o∧xP (st r P) (n+3) g o)=>E y h.choose o h.choose_spec);have J:=aa (z.trans (kL (l:=l.drop 84) (i:=l.length-84) (by rw[bJ];omega)).symm);have B:=aa (show P.length<4294967296 by rw[z,bJ];omega);clear z;clear D E;subst hF;simp only[pq,pc,pcAt,headAt,Tryz.f17,reduceIte,Nat.reduceEqDiff,Nat.reduceBEq,dR];unfold BG
 go_wp2_with (first
  |refine ag 41 ?_;refine dq (v:=(.int .i64 0)) d.out.dS fU ?_ rfl rfl rfl rfl
  |with_reducible refine dr.wE (a:=84) (b:=l.length) d.out (by simp) (by simp) rfl rfl K bG (by omega) I J.out ?_
   intro W M O A;clear d;have d:=aa A.out.2.1;have hs:=aa A.out.1;clear A
  |with_reducible refine xx.mJ (RO r).1 hs.out B.out rfl ?_
   intro q g m C;have N:=d.out.size;have j:=d.out.after C;replace d:=aa j;clear hs;have p:=aa (Kp.refl (n+3) q);clear j C
  |refine ao 38 ?_;refine aw rfl rfl 38 _ _ rfl rfl rfl g.toArray rfl rfl (zeroOf prog 38) (by rw[cI,i8.len m.out];exact(aG tl).1) ((aG tl).2.trans (i8.len m.out).symm) (jP (i8.one m.out)) ?_
  |refine ag 38 ?_;refine ab (by rfl) _ (ay _ 38 _ (by rfl) q.heap.size (by rfl) _ _ (0,0) _ (ak q g.toArray 38 q.heap.size rfl) qa rfl (by rw[ah tl,cI,i8.len m.out];rfl)) ?_
  |refine al 38 ?_;refine aF 38 (n+1) 66 rfl ?_;refine iv rfl 38 _ _ rfl 66 rfl g rfl (by rw[ah tl,i8.len m.out];rfl) (i8.one m.out) (d.out.after dt) (ae 66 (kdF jv) f) bK [] (by rw[fZ]) (ac _ _ _) (by rw[i8.len m.out];rfl) (fun S j H=>?_)
   rw[fZ]at j;replace p:=aa ((p.out.below ((aP _ q).alloc bG (.cells g.toArray 38)) p.out.1).apart H (by omega));replace d:=aa j;clear H;clear j
  |with_reducible refine(dr.fail d.out _ (jY r P) _ rfl (aj rfl)).mono ?_
   rintro e R ⟨rfl,j,G⟩;replace p:=aa (p.out.apart G (by omega));replace d:=aa j;clear G
   clear j)
 exact G' L.out ⟨g,d.out,i8.low (i8.kp m.out p.out (by omega)) (by omega)⟩ (by kernel_rfl)
def rD (r):xx vU 17 (xi r) (mb r):=fun l m c w hs T=>by
 have hl:=T.out;have cW:l.length≤70368744177664:=by omega
 clear T;obtain⟨F,M⟩:∃F,F=Tryz.f17:=⟨_,rfl⟩;refine tf func17 (aec F M) ?_;have hF:=aa M;clear M;simp only[ntmps17,cI,List.length_cons,List.length_nil,Nat.reduceAdd,Nat.reduceSub,oK,Array.replicate_zero,oG,oJ,List.nil_append,List.cons_append];simp only[pc,pcAt,headAt,Tryz.f17,reduceIte,Nat.reduceEqDiff,Nat.reduceBEq,dR]
 go_wp2_with (first
  |refine ao 50 ?_;refine fX 2 uA ?_
  |refine ao 50 ?_;refine fX 4 uA ?_
  |with_reducible refine(dr.open l.length 84 (84:Int) rfl rfl 1 (1:Int) rfl (by decide) (err:=if 84≤l.length then 0 else 4) rfl (by decide) hs.out.row hs.out.cap hs.out.nil hs.out.low cW).mono ?_
   rintro e W ⟨rfl,q,p⟩;obtain⟨i,J⟩:∃i,i=if 84≤l.length then 0 else 4:=⟨_,rfl⟩
   rw[←J]at q p;have Lb:=aa J;have a:=aa q;have hW:=aa p;clear q p J
  |refine aV 63 ?_;refine aH rfl fun K Y=>bV _ (dH _ _ (by rfl) (80:Int) (by rfl)) (Y _ _ ?_);clear Y K
   have q:=aa (a.out.after ((aP _ W).alloc bG (.cells #[.int .i64 (80:Int)] 3)));have p:=aa (hW.out.later (((aP _ W).alloc hW.out.size (.cells #[.int .i64 (80:Int)] 3))));have hz:w.heap.size+1+1<W.heap.size:=a.out.size;have U:=aa (ak W #[.int .i64 (80:Int)] 3 W.heap.size rfl)
  |(with_reducible refine dr.X4 (hd:=84) (o:=80) (x:=84) (y:=80) q.out p.out Lb.out (by decide) rfl rfl U.out hz ?_);intro P s z X E h2
   have b:=aa (show O_ w.heap.size 66 jv dJ.toArray bK 50 s 0 l m c 0 0 z w P from⟨_,0,X.out,fun _=>⟨rfl,fun k H=>absurd H (xE _)⟩⟩);have B:z=0→84≤l.length:=fun e=>qE fun hn=>by have:=E.out;rw[an hn,e]at this;exact absurd this (by decide)
   clear X q p a hW U
  |(with_reducible refine O_.Bk b.out (fun e=>by have:=B e;omega) ?_);clear b;intro P v S b
  |refine al 26 ?_;refine O_.Vt b.out rfl rfl rfl (by decide) rfl S.out ?_;clear b S;intro P b)
 refine aad (n:=w.heap.size) (fun u=>?_) (by kernel_rfl);rw[cK6 F hF.out];refine ij ?_;refine dK6 F hF.out _ _ _ _ _ _ _ _ _ _ _ _ _ u (fun e=>by have:=B e;omega) b.out ?_ bH;clear b u;intro u W A;have b:=aa A;clear A;show (tq 7 F).wp prog _ (BG w.heap.size u) W;rw[cK7 F hF.out];refine ij ?_;refine dK7 F hF.out _ _ _ _ _ _ _ _ _ _ _ _ _ u (fun e=>by have:=B e;omega) b.out ?_ bH;clear b u;intro u W b;show (tq 8 F).wp prog _ (BG w.heap.size u) W;rw[cK8 F hF.out];refine ij ?_;obtain⟨f,d,a,I⟩:=b
 have V:∀i,i≠0→i=mb r l→∀C s G d W u,dr w.heap.size dJ.toArray C 50 s G l m c d i w W→(tq 12 F).wp prog (bodyPost prog Tryz.f17 fun x R=>(∃cs,x= .returned (.tuple #[.agg cs.toArray,.int .i64 (mb r l:Int)])∧vU (xi r l) w.heap.size cs R)∧Below w.heap.size w R) (BG w.heap.size u) W:=fun i j he C s G d W u a=>by refine ahp F hF.out _ _ C s G l m c d i w W u j a fun W' O=>⟨⟨dJ,by rw[he],?_⟩,O⟩;have e:xi r l=Lz:=an (by rw[←he];exact j);rw[e];exact kq _ _
 by_cases j:z=0
 ·subst j
  obtain⟨ha,I⟩:=I rfl;have h:=B rfl;have ho:=h2.out rfl;subst ho
  have N:mb r l=jY r (l.drop 84):=by
   unfold mb;have:=E.out;rw[aj h]at this ⊢;by_cases g:aK l 80=84
   ·rw[aj g]
   ·rw[an g]at this;exact absurd this (by decide)
  refine sG8 r F hF.out _ _ _ f _ l m c d w W u _ rfl h hl (by rw[ha];decide) a ?_;intro u Z W ⟨a,g⟩;show (tq 12 F).wp prog _ (BG w.heap.size u) W;by_cases D:jY r (l.drop 84)=0
  ·rw[D]at a
   have e:xi r l=⟨rdF jv l,st r (l.drop 84)⟩:=aj (by rw[N];exact D);have Q:ae 66 (kdF jv) f=ae 66 (kdF jv) (rdF jv l):=bU I;rw[Q]at a;have L:vU (xi r l) (w.heap.size+3) (ae 66 (kdF jv) (rdF jv l)++Z) W:=by rw[e];exact⟨Z,rfl,g⟩
   refine aho F hF.out _ _ _ _ _ l m c _ w W u (gD.len L) (gD.one L) a fun W' O H=>⟨⟨_,by rw[N,D];rfl,gD.low (gD.kp L H bG) (by omega)⟩,O⟩
  ·exact V _ D N.symm _ _ _ _ _ _ a
 ·refine sE8 F hF.out _ _ _ _ _ _ _ l m c d z w W u j a ?_
  intro u;refine V z j ?_ _ _ _ _ _ _ a;unfold mb;rw[E.out];by_cases h:84≤l.length
  ·rw[aj h,aj h]
   by_cases g:aK l 80=84
   ·have:=E.out
    rw[aj h,aj g]at this;exact absurd this j
   ·rw[an g,an g]
  ·rw[an h,an h]
def nY:qr:=⟨fun j=>if j=0 then 3 else 0,VU⟩
def Wd:List Value:=ae 66 (kdF jv) nY.h++bK
def M6 (w):(Instr.build 50 #[(0,.int .u64 3)]).run prog w= .ok (.agg Wd.toArray) w:=by kernel_rfl
def aan (W):iz.R nY Wd W:=⟨bK,rfl,_,_,_,_,_,rfl,(BQ 0 W).at⟩
def x7:iz.ok nY:=⟨fun j a=>by
 show (kdF jv j).ok (if j=0 then 3 else 0);split
 ·rename_i h
  subst h;exact⟨by decide,by decide⟩
 ·exact Fm jv j,Hd⟩
def zF:nY.b.E=0:=yz.E
def J0:401≤nY.L.length:=by have e:nY.L=dF jv nY.h++(jB 84++nY.b.L):=aj zF;have a:nY.b.L=eS c_ nY.b.pw:=aj zF;rw[e,a];simp only[bM,ez,cC];rw[ko nY.b.fits,x9];show 401≤80+_;omega
def aam (r):(xi r nY.L).h 0=3:=by have e:nY.L=dF jv nY.h++(jB 84++nY.b.L):=aj zF;have h:xi r nY.L=⟨rdF jv nY.L,st r (nY.L.drop 84)⟩:=aj (pZ r x7 zF);rw[h];show rdF jv nY.L 0=3;rw[e];have c:=G2 (f:=nY.h) jv 0 (jB 84++nY.b.L) (fun j a=>by rw[bY];exact x7.1 j a) 0 (by decide);exact c
def wT (w):Calls prog 6 #[] w fun e b=>e= .returned (.bool true)∧Below w.heap.size w b:=by
 obtain⟨r,_⟩:=yg;obtain⟨L,hL⟩:∃L,L=nY.L:=⟨_,rfl⟩
 have u:=aa (fun W=>show Calls prog 13 #[.agg Wd.toArray] W fun e b=>(∃a c,e= .returned (.tuple #[.slice a L.length c,.int .i64 0])∧cG a c L b)∧Below W.heap.size W b from by
  rw[hL]
  exact(zX nY Wd W (aa x7) (aa (aan W))).mono fun e b ⟨⟨a,c,j,f,B⟩,i⟩=>⟨⟨a,c,j,cG.b_ B (qr.E5 x7) f⟩,i⟩)
 have s:=aa (fun a c W (hs:cG a c L W)=>show Calls prog 17 #[.slice a L.length c] W fun e b=>(∃X:Array Value,e= .returned (.tuple #[.agg X,.int .i64 0])∧X.size=368∧X.all (·.oneCell')=true∧X[0]?=some (.int .u64 3))∧Below W.heap.size W b from by
  have C:mb r L=0:=by rw[hL];exact pZ r x7 zF
  refine(rD r L a c W (aa hs) (aa (by rw[hL];have:=qr.Ls zF;omega))).mono fun e b ⟨⟨D,j,f⟩,i⟩=>⟨⟨D.toArray,by rw[j,C];rfl,gD.len f,jP (gD.one f),?_⟩,i⟩;obtain⟨G,rfl,_⟩:=f;rw[hL];show some (Value.int .u64 ((xi r nY.L).h 0))=_
  rw[aam])
 have F:decide ((L.length:Int)>400)=true:=by have:=J0;rw[←hL]at this;simp;omega
 have E:decide (400<(L.length:Int))=true:=by have:=J0;rw[←hL]at this;simp;omega
 clear hL
 go_enter func6,ntmps6
 go_wp2_with (first
  |refine cZ 50 ?_;refine ab (by rfl) _ (run_build _ _ rfl _ (M6 _)) ?_
  |with_reducible refine(u.out _).mono ?_
   rintro e W ⟨⟨a,c,rfl,n⟩,d⟩;have hs:=aa n;have g:=aa d;clear u n d
  |with_reducible refine(s.out _ _ _ hs.out).mono ?_
   rintro e k ⟨⟨X,rfl,l,o,q⟩,d⟩;have m:=aa l;have z:=aa o;have A:=aa q;have y:=aa (g.out.trans (d.mono g.out.size));clear g hs s l o q d
  |refine ao 50 ?_;refine aw rfl rfl 50 _ _ rfl rfl rfl X rfl rfl (zeroOf prog 50) (by rw[m.out];exact(aG i7).1) (by rw[m.out];exact(aG i7).2) z.out ?_
  |refine ag 26 ?_;refine dq (p:=⟨k.heap.size,0,none⟩) (v:=(.int .u64 3)) ((br _ _ 0 _ _ _ (ak k X 50 k.heap.size rfl)).trans A.out) Ik ?_ rfl rfl rfl rfl)
 exact cA rfl _ rfl rfl ⟨rfl,y.out.alloc y.out.size _⟩
end Go.Proofs.YtjeoeibdgciafaaGreatDoor
namespace Go.Proofs.YtjeoeibdgciafaaGreatDoor
open Go.ChangeShapes Go.WideShapes Go.ChangeAt Go.RowKit BigFrame Go.Deep
open Go.Proofs.Tryz
section
variable {H:Type} {enc:TypeId×Value→H} {W:World} {base:Nat} {spare:Nat→Bool} {held:Bool} {N fuel:Nat} {α:Type} {e:El α}
def El.CD (e:El α):Prop:=∀{H:Type} {enc:TypeId×Value→H} {W:World} {base:Nat} {spare:Nat→Bool} {held:Bool} {N fuel:Nat} {b:List Value} {x:DataW H×List MemPlace},DataW.trod enc prog W base spare held fuel e.t b=some x→Rows.uptoBulk x.1≤N→N≤1048576→∃a,e.ok a∧e.R a b W
theorem Wl {W:World} {a:Addr} {v:Value} (h:W.cell? a=some v):a=⟨a.block,a.off,none⟩∧a.block<W.heap.size:=by
 have hs:a.spot=none:=by
  unfold World.cell? at h;split at h
  ·split at h
   ·cases h
   ·rename_i b
    simpa using b
  ·cases h
 have e:a=⟨a.block,a.off,none⟩:=Addr.ext' hs;refine⟨e,?_⟩;exact iE h
theorem A5 {α:Type} {P:Nat→α→Prop}:∀n,(∀i,i<n→∃u,P i u)→∃l:List α,l.length=n∧∀(i:Nat) (u:α),l[i]?=some u→P i u
 |0,_=>⟨[],rfl,fun i u h=>by simp at h⟩
 |n+1,h=>by
  obtain⟨l,j,g⟩:=A5 n fun i b=>h i (by omega);obtain⟨u,d⟩:=h n (by omega);refine⟨l++[u],by simp[j],fun i v a=>?_⟩;by_cases b:i<l.length
  ·rw[eY b]at a
   exact g i v a
  ·rw[fT (by omega)]at a
   obtain⟨f,c⟩:=io.1 a;simp only[List.length_singleton]at f;obtain rfl:i=n:=by omega
   simp at c;exact c▸d
theorem tS (he:e.Ok) (M:e.CD) {t} (r:prog.underlying t=some (.slice e.t)) (K:prog.cellsOf e.t=e.N) {v} {x:DataW H×List MemPlace} (h:DataW.trod enc prog W base spare held fuel t [v]=some x) (T:Rows.uptoBulk x.1≤N) (S:N≤1048576):∃l,qf e l v W∧(∀a∈l,e.ok a)∧l.length≤1048576:=by
 rcases open_slice r h with⟨k,_⟩|⟨a,b,z,m,n,D,Pl,k,hb,hl,X,w,I,J⟩
 ·simp only[xF,xB]at k
  exact⟨[],⟨none,0,k,fun _=>rfl,fun i a h=>by simp at h⟩,fun a h=>by simp at h,by simp⟩
 ·simp only[xF,xB]at k
  subst I;have Y:b≤m:=by rw[w];split<;>omega
  simp only[Rows.uptoBulk]at T;have p:=yy ((List.range b).map D);rw[jK,Sn]at p
  have V:0<e.N:=by obtain⟨_,_,_,h⟩:=he.byt;exact h
  have o:∀i,i<b→∃u c,e.ok u∧e.R u c W∧∀j,j<e.N→W.cell? ((a.add (i*e.N)).add j)=c[j]?:=fun i d=>by obtain⟨c,F,U⟩:=J i (by omega);have VN:=De (List.mem_map_of_mem (f:=D) (rW.2 d));obtain⟨u,q,g⟩:=M U (show Rows.uptoBulk (D i)≤N by omega) S;rw[K]at F;exact⟨u,c,q,g,(NQ F).2.2⟩
  have L:0<b→a=⟨a.block,a.off,none⟩∧a.block<W.heap.size:=fun h=>by obtain⟨u,c,_,g,s⟩:=o 0 h;have E:=s 0 V;have Q:=he.len g;rw[fS (by omega)]at E;have:=Wl E;simp only[Addr.add,E8,Nat.add_zero]at this;exact⟨Addr.ext' (by have:=this.1;rw[Addr.mk.injEq]at this;exact this.2.2),this.2⟩
  obtain⟨l,O,B⟩:=A5 b o;refine⟨l,⟨some a,z,by rw[O];exact k,(fun h=>by cases h),fun i u d=>?_⟩,fun u r=>?_,by omega⟩
  ·obtain⟨c,q,g,s⟩:=B i u d
   have Z:i<b:=by have:=(io.1 d).1;omega
   obtain⟨A,G⟩:=L (by omega);refine⟨a.block,a.off,c,by rw[←A],fun j y C=>?_,g,G⟩;have Q:=he.len g
   have P:j<e.N:=by have:=(io.1 C).1;omega
   have:=s j P;rw[C,add_add,A,vO]at this;simpa[oF]using this
  ·obtain⟨i,d⟩:=Sm.1 r
   obtain⟨c,q,_⟩:=B i u d;exact q
end
def wO {n d t f L G} (i:Vb prog d t n f=true):(tp n t f L G).CD:=fun {_ _ _ _ _ _ _ _ cs _} h _ _=>by
 obtain⟨k,g⟩:=uK i h;refine⟨fun j=>num (cs.getD j undef),fun j a=>?_,?_⟩
 ·obtain⟨v,c,_,b⟩:=g j a
  simp only[List.getD,c,Option.getD_some];exact b
 ·refine mG fun j=>?_
  by_cases a:j<n
  ·obtain⟨v,c,b,_⟩:=g j a
   rw[aN _ _ _ _ a];simp only[List.getD,c,Option.getD_some];exact fB some b
  ·rw[eT (by omega),eT (by rw[ac];omega)]
def M1:nk.CD:=fun {_ _ _ _ _ _ _ _ cs _} h hN c=>by obtain⟨a,b,⟨s,t,e,i,g⟩,f,d⟩:=WH (X:=cs.toArray) h hN c;exact⟨(a,b),⟨f,d⟩,s,t,List.toArray_inj e,i,g⟩
def M0:mO.CD:=fun {_ _ _ _ _ _ _ _ cs _} h hN b=>by obtain⟨a,k,j,⟨s,e,i⟩,g,f,d,c⟩:=WG (X:=cs.toArray) h hN b;exact⟨⟨a,k,j⟩,⟨g,f,d,c⟩,s,List.toArray_inj e,i⟩
def MX:nE.CD:=wO (d:=12) (by kernel_rfl)
def MY:nF.CD:=wO (d:=12) (by kernel_rfl)
def MZ:nG.CD:=wO (d:=12) (by kernel_rfl)
def Fu (j:Nat):Option CK:=if j<193 then some (kdF jC j)else if j<198 then none else some (av (j-198))
def I2 (i:Nat):TypeId:=[29,30,31,32,33].getD i 0
def M8 {b:List Value} {a:Nat} {f g:Nat→Int} {v:Nat→Value} (o:∀j,j<193→b[a+j]?=some ((kdF jC j).mk (f j))) (h:∀i,i<5→b[a+(193+i)]?=some (v i)) (n:∀j,j<104→b[a+(198+j)]?=some ((av j).mk (g j))):(b.drop a).take 302=cJ f g (v 0) (v 1) (v 2) (v 3) (v 4):=by
 refine mG fun i=>?_;by_cases l:i<302
 ·rw[nO l,qD]
  unfold cJ;by_cases c:i<193
  ·rw[o i c,eY (by rw[ac];exact c),aN _ _ _ _ c]
  ·obtain⟨k,rfl⟩:∃k,i=193+k:=⟨i-193,by omega⟩
   rw[fT (by rw[ac];omega),ac,jH];by_cases d:k<5
   ·rw[h k d]
    match k,d with
    |0,_=>rfl
    |1,_=>rfl
    |2,_=>rfl
    |3,_=>rfl
    |4,_=>rfl
   ·obtain⟨m,rfl⟩:∃m,k=5+m:=⟨k-5,by omega⟩
    rw[fT (by simp),show 5+m-[v 0,v 1,v 2,v 3,v 4].length=m by simp,aN _ _ _ _ (by omega),←n m (by omega)]
    congr 1
    omega
 ·rw[eT (by rw[cf];omega),eT (by rw[eP];omega)]
section
variable {H:Type} {enc:TypeId×Value→H} {W:World} {base:Nat} {spare:Nat→Bool} {held:Bool} {N:Nat}
theorem OS {d:List Value} {off} (o:N≤1048576) (hf:∀j,j<302→∀c,Fu j=some c→∃v,d[off+j]?=some v∧v=c.mk (num v)∧c.ok (num v)) (hl:∀i,i<5→∃v fuel y,d[off+(193+i)]?=some v∧DataW.trod enc prog W base spare held fuel (I2 i) [v]=some y∧Rows.uptoBulk y.1≤N):∃(b:Bo) (n m l k h:Value),b.ok∧b.at n m l k h W∧(d.drop off).take 302=cJ b.f b.g n m l k h:=by
 have p:∀j,j<302→∀c,Fu j=some c→d[off+j]?=some (c.mk (num (d.getD (off+j) undef)))∧c.ok (num (d.getD (off+j) undef)):=fun j a c hc=>by
  obtain⟨v,q,e,Z⟩:=hf j a c hc;have e2:d.getD (off+j) undef=v:=by simp only[List.getD,q,Option.getD_some]
  rw[e2,q];exact⟨fB some e,Z⟩
 have s:∀j,j<193→_:=fun j a=>p j (by omega) (kdF jC j) (by unfold Fu;rw[aj a]);have r:∀j,j<104→_:=fun j a=>p (198+j) (by omega) (av j) (by unfold Fu;rw[an (by omega),an (by omega),jH]);obtain⟨n,f3,y3,c3,B,b3⟩:=hl 0 (by decide);obtain⟨m,f4,y4,c4,A,b4⟩:=hl 1 (by decide);obtain⟨l,f5,y5,c5,z,b5⟩:=hl 2 (by decide);obtain⟨k,f6,y6,c6,w,b6⟩:=hl 3 (by decide);obtain⟨h,f7,y7,c7,u,b7⟩:=hl 4 (by decide);obtain⟨Y,G,M,S⟩:=tS h_ MX Cb (by kernel_rfl) B b3 o;obtain⟨X,F,L,R⟩:=tS gy M1 Ca (by kernel_rfl) A b4 o;obtain⟨V,E,K,Q⟩:=tS gx M0 B' (by kernel_rfl) z b5 o;obtain⟨U,D,J,P⟩:=tS ib MZ B_ (by kernel_rfl) w b6 o;obtain⟨T,C,I,O⟩:=tS ia MY B9 (by kernel_rfl) u b7 o;refine⟨⟨fun j=>num (d.getD (off+j) undef),fun j=>num (d.getD (off+(198+j)) undef),Y,X,V,U,T⟩,n,m,l,k,h,⟨fun j a=>(s j a).2,fun j a=>(r j a).2,M,L,K,J,I,S,R,Q,P,O⟩,⟨G,F,E,D,C⟩,?_⟩
 exact M8 (v:=fun i=>[n,m,l,k,h].getD i undef) (fun j a=>(s j a).1) (fun i hi=>by
  match i,hi with
  |0,_=>exact c3
  |1,_=>exact c4
  |2,_=>exact c5
  |3,_=>exact c6
  |4,_=>exact c7) (fun j a=>(r j a).1)
end
end Go.Proofs.YtjeoeibdgciafaaGreatDoor
