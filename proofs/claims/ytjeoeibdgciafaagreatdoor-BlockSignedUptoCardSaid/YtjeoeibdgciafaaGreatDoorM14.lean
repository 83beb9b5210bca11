/- Steps of the proof. -/
import Derived.Test.YtjeoeibdgciafaaGreatDoorM13
set_option linter.all false
set_option maxRecDepth 100000
set_option maxHeartbeats 16000000
namespace Go.Proofs.YtjeoeibdgciafaaGreatDoor
open Go.RowKit BigFrame
open Go.Proofs.Tryz
def wm (n:Nat) (a:Value) (u:Nat→Value):Act:={tmps:=#[u 0,u 1,.pointer (some ⟨n,0,none⟩),u 3,.pointer (some ⟨n+1,0,none⟩),a,u 6,u 7,u 8,u 9,u 10,u 11,u 12,u 13,u 14,u 15,u 16,u 17,u 18,u 19,u 20,u 21,u 22,u 23,u 24,u 25,u 26,u 27,u 28,u 29,u 30,u 31,u 32,u 33,u 34,u 35,u 36,u 37,u 38,u 39,u 40,u 41,u 42,u 43,u 44,u 45,u 46,u 47,u 48,u 49,u 50,u 51,u 52,u 53,u 54,u 55,u 56,u 57,u 58,u 59,u 60,u 61,u 62,u 63,u 64,u 65,u 66,u 67,u 68,u 69,u 70,u 71,u 72,u 73,u 74,u 75,u 76,u 77,u 78,u 79,u 80,u 81,u 82,u 83,u 84,u 85,u 86,u 87,u 88,u 89,u 90,u 91,u 92,u 93,u 94,u 95,u 96,u 97,u 98,u 99,u 100,u 101,u 102,u 103,u 104,u 105,u 106,u 107,u 108,u 109,u 110,u 111,u 112,u 113,u 114,u 115,u 116,u 117,u 118,u 119,u 120,u 121,u 122,u 123,u 124,u 125,u 126,u 127,u 128,u 129,u 130,u 131,u 132,u 133,u 134,u 135,u 136,u 137,u 138,u 139,u 140,u 141,u 142,u 143,u 144,u 145,u 146,u 147,u 148,u 149,u 150,u 151,u 152,u 153,u 154,u 155,u 156,u 157,u 158,u 159,u 160,u 161,u 162,u 163,u 164,u 165,u 166,u 167,u 168,u 169,u 170,u 171,u 172,u 173,u 174,u 175,u 176,u 177,u 178,u 179,u 180,u 181,u 182,u 183,u 184,u 185,u 186,u 187,u 188,u 189,u 190,u 191,u 192,u 193,u 194,u 195,u 196,u 197,u 198,u 199,u 200,u 201,u 202,u 203,u 204,u 205,u 206,u 207,u 208,u 209,u 210,u 211,u 212,u 213,u 214,u 215,u 216,u 217,u 218,u 219,u 220,u 221,u 222,u 223,u 224,u 225,u 226,u 227,u 228,u 229,u 230,u 231,u 232,u 233,u 234,u 235,u 236,u 237,u 238,u 239,u 240,u 241,u 242,u 243,u 244,u 245,u 246,u 247,u 248,u 249,u 250,u 251,u 252,u 253,u 254,u 255,u 256,u 257,u 258,u 259,u 260,u 261,u 262,u 263,u 264],defers:=[]}
section
variable {P:List Int} {va:Option Addr} {c:Nat} {W:World} {Q:Ending→World→Prop}
theorem Yi {e} (i:Oe e) {s m} {n:List Int→Prop} (g:∀x∈cE (some s) m P,n x) {z} (f:(pt (some s) m P:Int)=z) (hs:cG va c P W) (hl:P.length≤70368744170000) {b d} (l:b=(s:Int)) (j:d=(m:Int)) (h:(1≤s∧s≤65536)∧m≤1000) (k:∀a v,Hid (d9 W.heap.size v (cE (some s) m P) a)→Below W.heap.size W a→Q (.returned (.tuple #[v,.int .i64 z])) a):Calls prog e #[.slice va P.length c,.int .i64 b,.int .i64 d] W Q:=by subst f;exact Yj i g hs hl l j h k
theorem Tg {d} (h:Oc d) {m} {j:List Int→Prop} (f:∀x∈cE none m P,j x) {z} (e:(pt none m P:Int)=z) (hs:cG va c P W) (hl:P.length≤70368744170000) {b} (i:b=(m:Int)) (g:m≤1000) (k:∀a v,Hid (d9 W.heap.size v (cE none m P) a)→Below W.heap.size W a→Q (.returned (.tuple #[v,.int .i64 z])) a):Calls prog d #[.slice va P.length c,.int .i64 b] W Q:=by subst e;exact I1 h f hs hl i g k
end
def ab9 {a:Type} {e:El a} (he:e.Ok):(zeroOf prog e.t).size=e.N:=(aG he.row).2
def PR (k p i q r D:Nat) (f:Option Nat) (m:Nat):Prop:=∀(F:Func) (_:F=Tryz.f12) (Q:Exit→Act→World→Prop) (l:Type) (e:El l) (P:List Int→Prop) (s:List Int→l) (h:List Int→Nat) (n:Nat) (C:List Value) (b:Nat) (g:Option Addr) (j:Nat) (a:List (List Int)) (B:List Int) (w W:World) (u:Nat→Value),
 e.Ok→e.t=r→prog.underlying q=some (.slice r)→(prog.info? q).map (·.size)=some 1→e.mK P D s h→(∀x∈cE f m B,P x)→(cE f m B).length≤1000→p<C.length→C[p]?=some (.slice none 0 0)→n+2≤b→a.length=9→a.getD i []=B→B.length≤70368744170000→d9 b (.slice g 9 j) a W→vF n C w W→
 (∀A d z,A.tmps.getD 2 undef= .pointer (some ⟨n,0,none⟩)→A.tmps.getD 3 undef= .int .i64 z→A.defers=[]→z≠0→z=(kx f m h B (cE f m B).length:Int)→d.heap[n]?=some (.cells bK.toArray 38 (0,0))→Below n w d→Q .ret A d)→
 (∀y o v d,kx f m h B (cE f m B).length=0→W.heap.size≤v→vF n (C.set p o) w d→rf e v o ((cE f m B).map s) d→Kp (n+2) W d→Q .normal (wm n (.slice g 9 j) y) d)→(pq k F).wp prog Q (wm n (.slice g 9 j) u) W
def Ug {a m d B z} (b:(pt a m B:Int)=z) (h:z≠0) (k):z=(kx a m d B k:Int):=by unfold kx;rw[an (by omega)];exact b.symm
def WM {a m b B x q} (g:(pt a m B:Int)=0) (e:firstE b ((cE a m B).take q)=0) (f:q<(cE a m B).length) (d:(cE a m B).getD q []=x) (h:b x≠0):(b x:Int)=(kx a m b B (cE a m B).length:Int):=by unfold kx;rw[aj (by omega),gC,Gd e f (by rw[d];exact h),d]
def oO {b k j q a B d W} (h:d9 b (.slice d k j) a W) (f:q<a.length) (i:a.getD q []=B):∃g va e,d=some ⟨g,0,none⟩∧Hid (W.cell? ⟨g,q,none⟩=some (.slice va B.length e))∧Hid (cG va e B W):=by subst i;exact h.get f
def SL {n:Nat} {a:Value} {Q:Exit→Act→World→Prop} {A:Act} {W:World} (h:∀b,Q .normal (wm n a b) W) (d:A=wm n a (fun k=>A.tmps.getD k undef)):Q .normal A W:=by
 have e:=h (fun k=>A.tmps.getD k undef)
 rwa [←d]at e
def QK {a:Option Nat} {m} {B:List Int} {P:List Int→Prop} (_:∀x∈cE a m B,P x):(pt a m B:Int)=0∨∃z:Int,(pt a m B:Int)=z∧z≠0:=by
 by_cases h:(pt a m B:Int)=0
 ·exact Or.inl h
 ·exact Or.inr ⟨_,rfl,h⟩
def UJ (a:List Int→Nat) (x:List Int):(a x:Int)=0∨∃z:Int,(a x:Int)=z∧z≠0:=by
 by_cases h:(a x:Int)=0
 ·exact Or.inl h
 ·exact Or.inr ⟨_,rfl,h⟩
def Uh {a m b B} (e:(pt a m B:Int)=0) (d:firstE b ((cE a m B).take (cE a m B).length)=0):kx a m b B (cE a m B).length=0:=by unfold kx;rw[aj (by omega)];exact d
def K0.inv2 {b:Type} {a:Option Nat} {m} {B:List Int} {P:List Int→Prop} {n p} {C:List Value} {w W} (_:∀x∈cE a m B,P x) (f:List Int→Nat) (d:List Int→b) (e:El b) (h:vF n C w W) (g:C[p]?=some (.slice none 0 0)):RfI e a m f d B n W.heap.size p C W w:=K0.inv a m B f d e h g
def vF.agz {n N C w W b} (h:vF n C w W) (d:n+2≤N) (a:Below N W b):vF n C w b:=⟨(a.block _ (by omega)).trans h.hR,(a.block _ (by omega)).trans h.hX,h.hB.trans (a.mono (by omega)),bg h.hz a.size⟩
def AY {d:Type} {e:El d} {P:List Int→Prop} {g} {f:List Int→d} {i:List Int→Nat} {Q} {va:Option Addr} {c} {l:List Int} {W z} (h:e.mK P g f i) (j:(i l:Int)=z) (hs:Hid (cG va c l W)) (m:Hid (P l)) (k:∀a b,Hid (e.R (f l) b a)→Hid (B7 W.heap.size b a)→Hid (Below W.heap.size W a)→Q (.returned (.tuple #[.agg b.toArray,.int .i64 z])) a):Calls prog g #[.slice va l.length c] W Q:=by subst j;exact El.mK.mJ h hs m k
def pR:PR 16 193 3 29 74 76 (some 416) 2∧PR 27 194 4 30 86 78 (none) 1∧PR 38 195 5 31 90 79 (none) 4∧PR 49 196 6 32 98 80 (some 408) 2∧PR 60 197 7 33 103 81 (some 112) 2:=by
 refine⟨?_,?_,?_,?_,?_⟩<;>
 (intro F hF Q α e P rd er n C b vz l parts B w W u he D xa En R' Pi N9 hp gu ur h9 B0 xe nK cc kV XM
  have Z:=aa cc;have hC:=aa gu;have hu:=aa xa;have hi:=aa En;have Q5:=aa R';have y:=aa Pi;have gE:=aa kV;have gQ:=aa XM;have hnz:=cc.hz;obtain⟨f,vb,cb,rfl,fM,X⟩:=oO nK (by rw[h9];decide) B0;clear cc gu xa En R' Pi XM kV nK B0;subst hF;simp only[pq,pc,pcAt,headAt,Tryz.f12,reduceIte,Nat.reduceEqDiff,Nat.reduceBEq,dR];unfold wm;rcases QK y.out with m|⟨z,m,h⟩
  rotate_left
  ·have t9:(z !=0)=true:=by simpa using h
   go_wp2_with (first
   |((with_reducible refine aC 114 ?_);(first|refine ab (by rfl) _ (ai _ 114 39 _ _ rfl cV 1 dv f 0 9 l rfl .i64 3 rfl (by decide) 3 (by omega)) ?_|refine ab (by rfl) _ (ai _ 114 39 _ _ rfl cV 1 dv f 0 9 l rfl .i64 4 rfl (by decide) 4 (by omega)) ?_|refine ab (by rfl) _ (ai _ 114 39 _ _ rfl cV 1 dv f 0 9 l rfl .i64 5 rfl (by decide) 5 (by omega)) ?_|refine ab (by rfl) _ (ai _ 114 39 _ _ rfl cV 1 dv f 0 9 l rfl .i64 6 rfl (by decide) 6 (by omega)) ?_|refine ab (by rfl) _ (ai _ 114 39 _ _ rfl cV 1 dv f 0 9 l rfl .i64 7 rfl (by decide) 7 (by omega)) ?_))
   |refine ag 39 ?_;refine dq (v:=(.slice vb B.length cb)) fM.out bF ?_ rfl rfl rfl rfl
   |refine Yi FM y.out m X.out xe rfl rfl (by decide) ?_;intro W2 v2 j d;have s:=aa (Z.out.later d);have H:=aa ((Kp.refl (n+2) W).below d bG);obtain⟨vq,S,rfl⟩:=j.out.form;clear d
   |refine Tg FH y.out m X.out xe rfl (by decide) ?_;intro W2 v2 j d;have s:=aa (Z.out.later d);have H:=aa ((Kp.refl (n+2) W).below d bG);obtain⟨vq,S,rfl⟩:=j.out.form;clear d
   |refine cZ 38 ?_;refine ab (by rfl) _ (nI _ rfl) ?_
   |refine al 38 ?_;refine aH rfl fun K M=>wp_store_row 38 _ _ rfl n rfl _ rfl od (by rw[gV];rfl) _ 38 (s.out).hR rfl (fun W9 Id xm=>M _ _ ?_);clear M K)
   exact gE.out _ _ z rfl rfl rfl h (Ug m h _) Id (xm.below s.out.hB bG (by have:=s.out.hz;omega))
  go_wp2_with (first
   |((with_reducible refine aC 114 ?_);(first|refine ab (by rfl) _ (ai _ 114 39 _ _ rfl cV 1 dv f 0 9 l rfl .i64 3 rfl (by decide) 3 (by omega)) ?_|refine ab (by rfl) _ (ai _ 114 39 _ _ rfl cV 1 dv f 0 9 l rfl .i64 4 rfl (by decide) 4 (by omega)) ?_|refine ab (by rfl) _ (ai _ 114 39 _ _ rfl cV 1 dv f 0 9 l rfl .i64 5 rfl (by decide) 5 (by omega)) ?_|refine ab (by rfl) _ (ai _ 114 39 _ _ rfl cV 1 dv f 0 9 l rfl .i64 6 rfl (by decide) 6 (by omega)) ?_|refine ab (by rfl) _ (ai _ 114 39 _ _ rfl cV 1 dv f 0 9 l rfl .i64 7 rfl (by decide) 7 (by omega)) ?_))
   |refine ag 39 ?_;refine dq (v:=(.slice vb B.length cb)) fM.out bF ?_ rfl rfl rfl rfl
   |refine Yi FM y.out m X.out xe rfl rfl (by decide) ?_;intro W2 v2 j d;have s:=aa (Z.out.later d);have H:=aa ((Kp.refl (n+2) W).below d bG);obtain⟨vq,S,rfl⟩:=j.out.form;clear d
   |refine Tg FH y.out m X.out xe rfl (by decide) ?_;intro W2 v2 j d;have s:=aa (Z.out.later d);have H:=aa ((Kp.refl (n+2) W).below d bG);obtain⟨vq,S,rfl⟩:=j.out.form;clear d)
  have hPz:=aa j.out;obtain⟨I,i0,i1,i2⟩:=K0.inv2 y.out er rd e s.out hC.out;have f:=aa i0;have g1:=aa i1;have g2:=aa i2;clear i0 i1 i2 j
  first|go_loopw [11] I (fun i _=>(cE (some 416) 2 B).length-(intOf i).toNat)|go_loopw [15] I (fun i _=>(cE (none) 1 B).length-(intOf i).toNat)|go_loopw [19] I (fun i _=>(cE (none) 4 B).length-(intOf i).toNat)|go_loopw [23] I (fun i _=>(cE (some 408) 2 B).length-(intOf i).toNat)|go_loopw [27] I (fun i _=>(cE (some 112) 2 B).length-(intOf i).toNat)
  case atStart=>exact f.out
  case round=>
   obtain⟨q,v,hq,rfl,sP⟩:=g1.out _ _ hrel;have o:=aa sP;have hPr:=aa (hPz.out.kp sP.hP hnz);clear hrel f sP;rcases E_ hq with E|e0
   ·obtain⟨g,vx,cx,x,rfl,Y,hs,T,U,YE,lt⟩:=Dx hPr.out E y.out N9 rd
    rcases UJ er x with V|⟨z,V,h⟩
    rotate_left
    ·have t9:(z !=0)=true:=by simpa using h
     go_wp2_with (first
      |refine ao _ ?_;refine adh he D (fun W3 A p R=>?_)
      |refine aC 114 ?_;refine ab (by rfl) _ (ai _ 114 39 _ _ rfl cV 1 dv g 0 _ S rfl .i64 q rfl E q (by omega)) ?_
      |refine ag 39 ?_;refine dq (v:=(.slice vx x.length cx)) ((p.out.cell (iE Y.out)).trans Y.out) bF ?_ rfl rfl rfl rfl
      |(with_reducible refine AY Q5.out V (aa (hs.out.later p.out)) U ?_);intro W4 cs L hF J
      |refine al _ ?_;refine stE he D L.out ((J.out.block _ R).trans A.out) (ab9 he) rfl rfl ?_;intro W5 O N;have a:=aa (o.out.read he p.out R J.out L.out hF.out O N);clear O N
      |refine cZ 38 ?_;refine ab (by rfl) _ (nI _ rfl) ?_
      |refine al 38 ?_;refine aH rfl fun K M=>wp_store_row 38 _ _ rfl n rfl _ rfl od (by rw[gV];rfl) _ 38 (a.out.1.hK).hR rfl (fun W9 Id xm=>M _ _ ?_);clear M K)
     exact gE.out _ _ z rfl rfl rfl h (V.symm.trans (WM m a.out.1.hz E T.out (by omega))) Id (xm.below a.out.1.hK.hB bG (by have:=a.out.1.hK.hz;omega))
    ·go_wp2_with (first
      |refine ao _ ?_;refine adh he D (fun W3 A p R=>?_)
      |refine aC 114 ?_;refine ab (by rfl) _ (ai _ 114 39 _ _ rfl cV 1 dv g 0 _ S rfl .i64 q rfl E q (by omega)) ?_
      |refine ag 39 ?_;refine dq (v:=(.slice vx x.length cx)) ((p.out.cell (iE Y.out)).trans Y.out) bF ?_ rfl rfl rfl rfl
      |(with_reducible refine AY Q5.out V (aa (hs.out.later p.out)) U ?_);intro W4 cs L hF J
      |refine al _ ?_;refine stE he D L.out ((J.out.block _ R).trans A.out) (ab9 he) rfl rfl ?_;intro W5 O N;have a:=aa (o.out.read he p.out R J.out L.out hF.out O N);clear O N
      |refine ag _ ?_;refine u5 a.out.1.hK.hX (List.getElem?_set_self hp) hu.out rfl ?_
      |refine ag _ ?_;refine ldE he D rfl a.out.2.hi ?_
      |refine aV _ ?_;refine rf.kA a.out.1.hO he D hu.out a.out.2.hi.r a.out.2.hF a.out.2.hv a.out.1.hN.2 YE rfl rfl rfl ?_;intro v1 W7 G k;obtain⟨vy,ky,cy,rfl⟩:=Td G;have zh:=aa G;have Eq:=aa (a.out.1.hK.agz a.out.1.hN.1 k);have sG:=aa (a.out.1.hP.below k bG);have O6:=aa (bg a.out.1.hN.2 k.size);clear G k
      |refine al _ ?_;refine Il Eq.out.hX (by rw[NH];exact hp) hi.out rfl rfl rfl ?_;intro W8 G k;have E2:=aa (Eq.out.rj k G);have nL:=aa (zh.out.kp he ((Kp.refl (n+2) W7).apart k (by omega)) o.out.hN.1);have j:=aa (sG.out.apart k (by omega));have ut:=aa (bg O6.out k.size);clear G k)
     exact⟨g2.out _ q _ _ (by go_num) E (K0.next E2.out nL.out j.out a.out.1.hz (by omega) ⟨o.out.hN.1,ut.out⟩ E T.out hp),by simp[intOf];omega⟩
   ·have lt:=JU q
    subst e0;go_wp2
    exact SL (fun u'=>gQ.out u' v _ _ (Uh m o.out.hz) H.out.1 o.out.hK (by have:=o.out.hO;rw[gC]at this;exact this) (H.out.trans o.out.hP)) (by kernel_rfl))
def sZ:List Nat:=[200,204,208,212,216]
def uV (l:List Int):List Nat:=sZ.map (aK l)++[l.length]
def BV (l:List Int):Nat:=if 317≤l.length then(if bz 317 l.length (sZ.map (aK l)) 5 then 0 else 5)else 4
def Xi {l} (h:bz 317 l.length (sZ.map (aK l)) 5):∀i,i<5→(uV l).getD i 0≤(uV l).getD (i+1) 0∧(uV l).getD (i+1) 0≤l.length:=by
 have f:=h 0 (by decide);have e:=h 1 (by decide);have d:=h 2 (by decide);have b:=h 3 (by decide);have a:=h 4 (by decide);unfold g5 at f e d b a;simp[sZ]at f e d b a;intro i g
 match i,g with
 |0,_=>simp[uV,sZ];omega
 |1,_=>simp[uV,sZ];omega
 |2,_=>simp[uV,sZ];omega
 |3,_=>simp[uV,sZ];omega
 |4,_=>simp[uV,sZ];omega
def Sb:Array Value:=#[.int .i64 200,.int .i64 204,.int .i64 208,.int .i64 212,.int .i64 216]
def Bv {b o} (w a) (f:o.op= .buildSlice 63 5 a) (e:(a.toList.map fun p=>(p.1,b p.2))=[(0,.int .i64 200),(1,.int .i64 204),(2,.int .i64 208),(3,.int .i64 212),(4,.int .i64 216)]):
 (execOp b o).run prog w= .ok (.value (.slice (some ⟨w.heap.size,0,none⟩) 5 5)) (w.alloc (.cells Sb 3)):=
 bj w 63 3 5 a f dZ (.int .i64 0) 1 oo (by decide) (by decide) [.int .i64 200,.int .i64 204,.int .i64 208,.int .i64 212,.int .i64 216] rfl e (fun u d=>by
  simp only[mF,vJ,vH]at d
  rcases d with rfl|rfl|rfl|rfl|rfl<;>rfl)
section
variable {n:Nat} {Z C:Array Value} {t:TypeId} {l:List Int} {va:Option Addr} {c er:Nat} {w W:World} {Q:Ending→World→Prop}
theorem dr.adS (h:dr n Z C t [] 0 l va c 0 er w W) (v:K1 (n+1+1) l va c 0 er W) (he:er=if 317≤l.length then 0 else 4) {b i} (p:W.heap[b]?=some (.cells Sb 3 (0,0))) (u:n+1+1<b) (k:∀a m q,Hid (dr n Z C t m 0 l va c 0 q w a)→q=BV l→(q=0→m=uV l)→Q (.returned (.tuple #[])) a):Calls prog 60 #[.pointer (some ⟨n+1+1,0,none⟩),.int .i64 317,.slice (some ⟨b,0,none⟩) 5 i] W Q:=by
 by_cases hl:317≤l.length
 ·rw[aj hl]at he
  subst he
  have r:∀j,j<5→W.cell? ⟨b,j,none⟩=some (.int .i64 ((sZ.getD j 0:Nat):Int)):=fun j o=>by
   rw[br _ _ j _ _ _ p]
   match j,o with
   |0,_=>rfl
   |1,_=>rfl
   |2,_=>rfl
   |3,_=>rfl
   |4,_=>rfl
  have s:∀j,j<5→sZ.getD j 0+4≤l.length:=fun j o=>by
   match j,o with
   |0,_=>show 200+4≤_;omega
   |1,_=>show 204+4≤_;omega
   |2,_=>show 208+4≤_;omega
   |3,_=>show 212+4≤_;omega
   |4,_=>show 216+4≤_;omega
  by_cases g:bz 317 l.length (sZ.map (aK l)) 5
  ·exact(h.Fo v 317 b 5 i 317 rfl sZ (by omega) rfl (by decide) hl r (aD p) u s g).mono fun _ a ⟨f,d⟩=>by rw[f];exact k a _ 0 d (by unfold BV;rw[aj hl,aj g]) fun _=>rfl
  ·exact(h.NX v 317 b 5 i 317 rfl sZ (by omega) rfl (by decide) hl r (aD p) u s g).mono fun _ a ⟨f,m,d⟩=>by rw[f];exact k a _ 5 d (by unfold BV;rw[aj hl,an g]) fun e=>by cases e
 ·rw[an hl]at he
  subst he
  exact(h.NY (by decide) 317 _ 5 i).mono fun _ a ⟨f,d⟩=>by rw[f];exact k a _ 4 d (by unfold BV;rw[an hl]) fun e=>by cases e
end
def pE5:PE 5:=by
 intro F hF Q n Z C t h i l va c f er w W u he a b;have d:=aa a;have e:=aa b;have g:((er:Int)==0)=false:=by simp;omega
 clear a b;subst hF;simp only[pq,pc,pcAt,headAt,Tryz.f11,reduceIte,Nat.reduceEqDiff,Nat.reduceBEq,dR];unfold rh
 go_wp2_with (first
  |refine ag 41 ?_;refine dq (v:=(.int .i64 (er:Int))) d.out.dS fU ?_ rfl rfl rfl rfl)
 exact XZ e.out (by kernel_rfl)
def Y8 (l j) (h:j<65):rdF bN ((l.drop 96).take 72) j=rdF jC l (96+j):=by
 show _=(if 96+j<96 then _ else rdF [some 32,none,some 32,some 32] (l.drop 96) (96+j-96));rw[an (by omega),jH];show (if j<32 then((l.drop 96).take 72).getD j 0 else rdF [none,some 32] (((l.drop 96).take 72).drop 32) (j-32))=if j<32 then(l.drop 96).getD j 0 else rdF [none,some 32,some 32] ((l.drop 96).drop 32) (j-32)
 split
 ·rw[bA _ _ _ _ (by omega)]
  simp[Ff,qD]
 ·obtain⟨i,rfl⟩:∃i,j=32+i:=⟨j-32,by omega⟩
  rw[jH,Fg];cases i with
  |zero=>show p9 ((List.take (72-32) (List.drop 32 (l.drop 96))).take 8)=p9 (((l.drop 96).drop 32).take 8);rw[Fb];rfl
  |succ i=>
   show (if i<32 then((List.take (72-32) (List.drop 32 (l.drop 96))).drop 8).getD i 0 else _)=if i<32 then(((l.drop 96).drop 32).drop 8).getD i 0 else _
   rw[aj (by omega),aj (by omega),Fg];simp only[Ff];rw[nO (by omega)]
def WX (f a):(ae 193 (kdF jC) f++a).toArray=(ae 96 (kdF jC) f++(ae 65 (kdF bN) (fb f 96)++(ae 32 (fun j=>kdF jC (96+(65+j))) (fb f (96+65))++a))).toArray:=by rw[show (193:Nat)=96+(65+32)from rfl,jn (ii:=kdF bN) (bB rfl)];simp only[dA]
def aai (f a h):(ae 193 (kdF jC) (sI f 96 65 h)++a).toArray=(ae 96 (kdF jC) f++(ae 65 (kdF bN) h++(ae 32 (fun j=>kdF jC (96+(65+j))) (fb f (96+65))++a))).toArray:=by rw[show (193:Nat)=96+(65+32)from rfl,G4 (ii:=kdF bN) (bB rfl)];simp only[dA]
def adO {n:Nat} {Q:Exit→Act→World→Prop} {P:(Nat→Int)→World→Prop} {R:(Nat→Int)→Prop} {f:Nat→Int} {A:Act} {W:World} (g:∀b f a,P f a→R f→Q .normal (rh n b) a) (h:P f W) (e:R f) (d:A=rh n (fun k=>A.tmps.getD k undef)):Q .normal A W:=by
 have i:=g (fun k=>A.tmps.getD k undef) f W h e
 rwa [←d]at i
def Kl {d N S b Q l va c W} (h:eq d N b S) (hs:Hid (cG va c l W)) (hl:Hid (l.length=S)) (k:∀a,Below W.heap.size W a→Q (.returned (.tuple #[.agg (ae N (kdF b) (rdF b l)).toArray,.int .i64 0])) a):Calls prog d #[.slice va S c] W Q:=(h l va c W hs hl).mono fun _ a ⟨f,e⟩=>by rw[f];exact k a e
def pG5 (F) (hF:F=Tryz.f11) (Q n Z f a t s y l va c w W u) (r:96+72≤l.length) (i:dr n Z (ae 193 (kdF jC) f++a).toArray t s y l va c 96 0 w W) (D:∀k,k<96→f k=rdF jC l k) (I:∀L J K,dr n Z (ae 193 (kdF jC) J++a).toArray t s y l va c 168 0 w K→(∀k,k<161→J k=rdF jC l k)→Q .normal (rh n L) K):(pq 5 F).wp prog Q (rh n u) W:=by
 have d:=aa i;have U:=aa I;have p:=aa D;have fL:=i.size;clear i I D;subst hF;simp only[pq,pc,pcAt,headAt,Tryz.f11,reduceIte,Nat.reduceEqDiff,Nat.reduceBEq,dR];unfold rh
 go_wp2_with (first
  |refine ag 41 ?_;refine dq (v:=(.int .i64 0)) d.out.dS fU ?_ rfl rfl rfl rfl
  |with_reducible refine(dr.kh d.out 72 (72:Int) rfl (by decide) (by decide) (fun _=>r)).mono ?_
   rintro e X ⟨Y,rfl,b,M,V,q,rfl,E,G,A,h,B,g,T⟩;rw[aj rfl]at g;have z:=aa (show cG (some ⟨b,M,none⟩) V q X from⟨A,(fun e=>by cases e),by rw[h];exact E,fun b o e=>by cases e;exact G⟩);have N:=aa h;have O:=aa (B rfl);replace d:=aa g;clear A h B T E G;clear g
  |with_reducible refine Kl MR z N ?_
   intro m H;replace d:=aa (d.out.after H);clear H z
  |refine ao 28 ?_;refine aw rfl rfl 28 _ _ rfl rfl rfl (ae 65 (kdF bN) (rdF bN q)).toArray rfl rfl (zeroOf prog 28) (aG mf).1 (aG mf).2 (aA _ _ _) ?_
  |refine ag 28 ?_;refine ab (by rfl) _ (ay _ 28 _ (by rfl) m.heap.size (by rfl) _ _ (0,0) _ (ak m (ae 65 (kdF bN) (rdF bN q)).toArray 28 m.heap.size rfl) Lj rfl (by rw[ah mf];simp[ae])) ?_
  |refine al 28 ?_;refine aF 28 (n+1) 96 rfl ?_;refine iv rfl 28 _ _ rfl 96 rfl (ae 65 (kdF bN) (rdF bN q)) rfl (by rw[ah mf,ac]) cl (d.out.after dt) (ae 96 (kdF jC) f) (ae 65 (kdF bN) (fb f 96)) (ae 32 (fun j=>kdF jC (96+(65+j))) (fb f (96+65))++a) (WX f a) (ac _ _ _) (by rw[ac,ac]) (fun W7 g S=>?_)
   rw[←aai f a (rdF bN q)]at g;replace d:=aa g;clear S;clear g
  |with_reducible refine dr.tr d.out (er:=0) rfl ?_
   intro W8 g R;clear d R
   have d:=g)
 exact adO (f:=sI f 96 65 (rdF bN q)) U.out d.out (tA 96 65 p.out fun j P=>by rw[O.out];exact Y8 l j P) (by kernel_rfl)
section
variable {n:Nat} {C:List Value} {w W:World}
theorem yC {g f o a Q} (D:o.guard=none) (l x y) (A:o.op= .store l x y) (c) (s:a.eval x= .pointer (some ⟨n+1,c,none⟩)) (d) (r:a.eval y= .agg d.toArray) (q:(prog.info? l).map (·.size)=some d.length) (G:∀v∈d,v.oneCell'=true) (h:vF n C w W) (e i b) (k:C=e++(i++b)) (z:e.length=c) (hl:d.length=i.length) (B:∀m,Hid (vF n (e++(d++b)) w m)→aL (n+1) W m→wpList prog g Q f (a.put o.dst undef) m):wpList prog g Q (o::f) a W:=by
 subst k
 have u:W.there (n+1) c d.toArray.size:=fun j p=>by
  have p:j<d.length:=by simpa using p
  refine⟨?_,j' h.hX _⟩;rw[br W (n+1) _ _ _ _ h.hX,fu,fT (by omega),eY (by omega),fS (by omega)];rfl
 refine aH D fun H E=>s_ l x y A (n+1) c _ s r u (by rw[q];simp) (by simpa using G) (E _ _ (B _ ?_ ?_))
 ·have F:aL (n+1) W (W.setCells (n+1) c d.toArray.toList):=(aL.refl _ _).setCells _ _ _ (Or.inl rfl)
  have k:=jz (n+1) d.toArray.toList c W _ 38 h.hX (by simp;omega);rw[show (e++(i++b)).toArray.toList=e++(i++b)from rfl,show d.toArray.toList=d from rfl,oZ z hl]at k;exact h.rj F k
 ·exact(aL.refl _ _).setCells _ _ _ (Or.inl rfl)
theorem ZD {Q l b c} (hs:cG b c l W) (hl:l.length=97) (k:∀a,Below W.heap.size W a→Q (.returned (.tuple #[.agg (ae 104 av (aY l)).toArray,.int .i64 0])) a):Calls prog 82 #[.slice b 97 c] W Q:=by exact(sB l b c W hs hl).mono fun _ a ⟨e,d⟩=>by rw[e];exact k a d
theorem adJ {Q l b c} (hs:cG b c l W) (hl:l.length=72) (k:∀a,Below W.heap.size W a→Q (.returned (.tuple #[.agg (ae 65 (kdF bN) (rdF bN l)).toArray,.int .i64 0])) a):Calls prog 74 #[.slice b 72 c] W Q:=by exact(KC l b c W hs hl).mono fun _ a ⟨e,d⟩=>by rw[e];exact k a d
end
def ago (F) (hF:F=Tryz.f12) (R n f i h g e d b r p a B w l u) (s:∀v∈[i,h,g,e,d],v.oneCell'=true) (m:a.length=9) (E:a.getD 8 []=B) (P:B.length=97) (A:d9 b (.slice r 9 p) a l) (y:vF n (cJ f (fun _=>0) i h g e d) w l) (z:∀q,Below n w q→Kp (n+2) l q→R (.returned (.tuple #[.agg (cJ f (aY B) i h g e d).toArray,.int .i64 0])) q):(tq 71 F).wp prog (bodyPost prog Tryz.f12 R) (wm n (.slice r 9 p) u) l:=by
 have c:=aa y;have S:=aa z;have L:=aa s;have j:=aa (Kp.refl (n+2) l);obtain⟨T,J,U,rfl,N,M⟩:=oO A (by rw[m];decide) E;clear y z s A E;subst hF;simp only[tq,tlAt,headAt,Tryz.f12,reduceIte,Nat.reduceEqDiff,Nat.reduceBEq,dR];unfold wm
 go_wp2_with (first
  |refine aC 114 ?_;refine ab (by rfl) _ (ai _ 114 39 _ _ rfl cV 1 dv T 0 9 p rfl .i64 8 rfl (by decide) 8 (by omega)) ?_
  |refine ag 39 ?_;refine dq (v:=(.slice J B.length U)) N.out bF ?_ rfl rfl rfl rfl
  |with_reducible refine ZD M.out P ?_
   intro X o;have k:=aa (c.out.later o);replace j:=aa (j.out.below o j.out.1);clear o c;have c:=k;clear k
  |refine al 36 ?_;refine yC rfl 36 _ _ rfl 198 rfl (ae 104 av (aY B)) rfl (by rw[ah cL,ac]) cl c.out (ae 193 (kdF jC) f++[i,h,g,e,d]) (ae 104 av fun _=>0) [] (by simp[cJ]) (by simp[ac]) (by rw[ac,ac]) (fun V k G=>?_)
   replace j:=aa (j.out.apart G (by omega));clear c G;have c:=k;clear k
  |refine ag 38 ?_;refine ab (by rfl) _ (ay _ 38 _ (by rfl) (n+1) (by rfl) _ _ (0,0) _ c.out.hX qa rfl (by rw[gV];simp[ac])) ?_
  |refine al 38 ?_;refine aH rfl fun K D=>wp_store_row 38 _ _ rfl n rfl _ rfl (GA _ _ L.out) (by rw[gV];simp[ac]) _ 38 c.out.hR (by simp[ac,bK,cJ]) (fun I O H=>D _ _ ?_);clear D K)
 have Q:Below n w I:=H.below c.out.hB bG (by have:=c.out.hz;omega);have m:=S.out I Q (j.out.apart H (by omega));rw[show cJ f (aY B) i h g e d=ae 193 (kdF jC) f++[i,h,g,e,d]++(ae 104 av (aY B)++[]) by simp[cJ]]at m;exact aI rfl n 0 _ _ rfl (aE O) qa rfl (by rw[gV];simp[ac]) rfl m
def RE9:Prop:=∀(F:Func) (_:F=Tryz.f12) (Q:Exit→Act→World→Prop) (n:Nat) (f:Nat→Int) (c:List Value) (b:Nat) (d:Option Addr) (e:Nat) (a:List (List Int)) (B:List Int) (w W:World) (u:Nat→Value),
 a.length=9→a.getD 1 []=B→B.length=72→d9 b (.slice d 9 e) a W→vF n (ae 193 (kdF jC) f++c) w W→
 (∀h g,h 6= .int .i64 0→vF n (ae 193 (kdF jC) (sI f 96 65 (rdF bN B))++c) w g→Kp (n+2) W g→Q .normal (wm n (.slice d 9 e) h) g)→(pq 9 F).wp prog Q (wm n (.slice d 9 e) u) W
def adK {n:Nat} {a:Value} {Q:Exit→Act→World→Prop} {A:Act} {W:World} (h:∀b:Nat→Value,b 6= .int .i64 0→Q .normal (wm n a b) W) (d:A.tmps.getD 6 undef= .int .i64 0) (c:A=wm n a (fun k=>A.tmps.getD k undef)):Q .normal A W:=by
 have e:=h (fun k=>A.tmps.getD k undef) d
 rwa [←c]at e
def UH (f a):ae 193 (kdF jC) f++a=ae 96 (kdF jC) f++(ae 65 (kdF bN) (fb f 96)++(ae 32 (fun j=>kdF jC (96+(65+j))) (fb f (96+65))++a)):=by rw[show (193:Nat)=96+(65+32)from rfl,jn (ii:=kdF bN) (bB rfl)];simp only[dA]
def WV (f a h):ae 193 (kdF jC) (sI f 96 65 h)++a=ae 96 (kdF jC) f++(ae 65 (kdF bN) h++(ae 32 (fun j=>kdF jC (96+(65+j))) (fb f (96+65))++a)):=by rw[show (193:Nat)=96+(65+32)from rfl,G4 (ii:=kdF bN) (bB rfl)];simp only[dA]
def rE9:RE9:=by
 intro F hF Q n f a b I G h B w W u z m y l i k;have c:=aa i;have D:=aa k;have d:=aa (Kp.refl (n+2) W);obtain⟨E,p,H,rfl,s,r⟩:=oO l (by rw[z];decide) m;clear i k l m;subst hF;simp only[pq,pc,pcAt,headAt,Tryz.f12,reduceIte,Nat.reduceEqDiff,Nat.reduceBEq,dR];unfold wm
 go_wp2_with (first
  |refine aC 114 ?_;refine ab (by rfl) _ (ai _ 114 39 _ _ rfl cV 1 dv E 0 9 G rfl .i64 1 rfl (by decide) 1 (by omega)) ?_
  |refine ag 39 ?_;refine dq (v:=(.slice p B.length H)) s.out bF ?_ rfl rfl rfl rfl
  |with_reducible refine adJ r.out y ?_
   intro K g;have e:=aa (c.out.later g);replace d:=aa (d.out.below g d.out.1);clear g c;have c:=e;clear e
  |refine al 28 ?_;refine yC rfl 28 _ _ rfl 96 rfl (ae 65 (kdF bN) (rdF bN B)) rfl (by rw[ah mf,ac]) cl c.out (ae 96 (kdF jC) f) (ae 65 (kdF bN) (fb f 96)) (ae 32 (fun j=>kdF jC (96+(65+j))) (fb f (96+65))++a) (UH f a) (ac _ _ _) (by rw[ac,ac]) (fun J e o=>?_)
   rw[←WV f a (rdF bN B)]at e;replace d:=aa (d.out.apart o (by omega));clear c o;have c:=e
   clear e)
 exact adK (fun q A=>D.out q _ A c.out d.out) rfl (by kernel_rfl)
def xZ (f h a):sI f a 0 h=f:=by
 funext j
 unfold sI;exact an (by omega)
def LM {N off q kd f h post v} (d:off+q<N) (b:v=(kd (off+q)).mk (h q)):(ae N kd (sI f off q h)++post).set (off+q) v=ae N kd (sI f off (q+1) h)++post:=by
 subst b;rw[List.set_append_left _ _ (by rw[ac];exact d)]
 congr 1
 refine mG fun j=>?_;rw[Fe];by_cases a:j<N
 ·rw[aN _ _ _ _ a,aN _ _ _ _ a]
  by_cases e:off+q=j
  ·subst e
   rw[aj rfl,aj (by rw[ac];exact a)];unfold sI;rw[aj (by omega),jH]
  ·rw[an e]
   unfold sI;by_cases c:off≤j∧j<off+q
   ·rw[aj c,aj (by omega)]
   ·rw[an c,an (by omega)]
 ·rw[an (by omega),eT (by rw[ac];omega),eT (by rw[ac];omega)]
def Ot {N q b f h a v} (e:q<N) (d:v=(b q).mk (h q)):(ae N b (sI f 0 q h)++a).set q v=ae N b (sI f 0 (q+1) h)++a:=by have c:=LM (off:=0) (q:=q) (N:=N) (kd:=b) (f:=f) (h:=h) (post:=a) (v:=v) (by omega) (by rw[bY];exact d);rw[bY]at c;exact c
def agE {q} (h:q<96):kdF jC q= .u8:=aj h
def Z6 {q} (h:q<32):kdF jC (161+q)= .u8:=bB (off:=161) (len:=32) (ii:=fun _=> .u8) rfl q h
def RB (k h K i:Nat):Prop:=∀(F:Func) (_:F=Tryz.f12) (Q:Exit→Act→World→Prop) (n:Nat) (f:Nat→Int) (c:List Value) (b:Nat) (d:Option Addr) (e:Nat) (a:List (List Int)) (B:List Int) (w W:World) (u:Nat→Value),
 a.length=9→a.getD i []=B→B.length=K→n+2≤b→d9 b (.slice d 9 e) a W→vF n (ae 193 (kdF jC) f++c) w W→
 (∀l g,vF n (ae 193 (kdF jC) (sI f h K fun j=>B.getD j 0)++c) w g→Kp (n+2) W g→Q .normal (wm n (.slice d 9 e) l) g)→(pq k F).wp prog Q (wm n (.slice d 9 e) u) W
def Hb {d c j B W} (h:cG d c B W) (e:j<B.length):∃b a y,d=some ⟨b,a,none⟩∧Hid (W.cell? ⟨b,a+j,none⟩=some (.int .u8 y))∧Hid (y=B.getD j 0):=by obtain⟨b,a,g,f⟩:=h.row.cell j e;exact⟨b,a,_,g,f,rfl⟩
def GY:(prog.info? 5).map (·.size)=some 1:=by kernel_rfl
def rB:RB 5 0 96 0∧RB 12 161 32 2:=by
 refine⟨?_,?_⟩<;>
 (intro F hF Q n f a b vz E h B w W u A z s K r o p
  have S:=aa o;have T:=aa r;have Y:=aa p;have U:=aa z;have y:=aa s;have V:=aa A;clear o p r z s A;subst hF;simp only[pq,pc,pcAt,headAt,Tryz.f12,reduceIte,Nat.reduceEqDiff,Nat.reduceBEq,dR];unfold wm;go_wp2
  first
   |go_loopw [7] (fun i wr=>∃q:Nat,q≤96∧i= .int .i64 (q:Int)∧vF n (ae 193 (kdF jC) (sI f 0 q fun j=>B.getD j 0)++a) w wr∧Kp (n+2) W wr) (fun i _=>96-(intOf i).toNat)
   |go_loopw [8] (fun i wr=>∃q:Nat,q≤32∧i= .int .i64 (q:Int)∧vF n (ae 193 (kdF jC) (sI f 161 q fun j=>B.getD j 0)++a) w wr∧Kp (n+2) W wr) (fun i _=>32-(intOf i).toNat)
  case atStart=>exact⟨0,by omega,rfl,by rw[xZ];exact S.out,Kp.refl _ _⟩
  case round=>
   obtain⟨q,J,rfl,e,d⟩:=hrel;have m:=aa e;have N:=aa d;rcases E_ J with c|Z
   ·obtain⟨D,vb,cb,rfl,P,l⟩:=oO (T.out.kp d K) (by rw[V.out];decide) U.out
    obtain⟨bq,I,G,rfl,O,k⟩:=Hb l.out (j:=q) (by rw[y.out];exact c);have L:q<B.length:=by rw[y.out];exact c
    clear e d l
    first|(have lt:decide ((q:Int)<(96:Int))=true:=by simp;omega)|skip
    first|(have lt2:decide ((q:Int)<(32:Int))=true:=by simp;omega)|skip
    go_wp2_with (first
     |((with_reducible refine aC 114 ?_);first|refine ab (by rfl) _ (ai _ 114 39 _ _ rfl cV 1 dv D 0 9 E rfl .i64 0 rfl (by decide) 0 (by omega)) ?_|refine ab (by rfl) _ (ai _ 114 39 _ _ rfl cV 1 dv D 0 9 E rfl .i64 2 rfl (by decide) 2 (by omega)) ?_)
     |refine ag 39 ?_;refine dq (v:=(.slice (some ⟨bq,I,none⟩) B.length cb)) P.out bF ?_ rfl rfl rfl rfl
     |refine aC 39 ?_;refine OX rfl rfl L ?_
     |refine ag 5 ?_;refine OW rfl O.out ?_
     |refine al 5 ?_;refine Il (v:= .int .u8 G) m.out.hX (by rw[bM,ac];omega) GY rfl rfl rfl ?_;intro W8 X C;have R:=aa (m.out.rj C X);have M:=aa (N.out.apart C (by omega)))
    have g:=R.out
    first|rw[Ot (by omega) (by rw[agE c,k.out];rfl)]at g|rw[LM (off:=161) (by omega) (by rw[Z6 c,k.out];rfl)]at g
    exact⟨⟨q+1,by omega,by go_num,g,M.out⟩,by simp[intOf];omega⟩
   ·subst Z
    go_wp2
    exact SL (fun H=>Y.out H _ e d) (by kernel_rfl))
def agt (F) (h:F=Tryz.f12):tq 16 F= .seq (pq 16 F) (tq 27 F):=by
 subst h
 kernel_rfl
def ags (F) (h:F=Tryz.f12):tq 27 F= .seq (pq 27 F) (tq 38 F):=by
 subst h
 kernel_rfl
def agr (F) (h:F=Tryz.f12):tq 38 F= .seq (pq 38 F) (tq 49 F):=by
 subst h
 kernel_rfl
def agq (F) (h:F=Tryz.f12):tq 49 F= .seq (pq 49 F) (tq 60 F):=by
 subst h
 kernel_rfl
def agp (F) (h:F=Tryz.f12):tq 60 F= .seq (pq 60 F) (tq 71 F):=by
 subst h
 kernel_rfl
def zA {n R A W z} (e:A.tmps.getD 2 undef= .pointer (some ⟨n,0,none⟩)) (d:A.tmps.getD 3 undef= .int .i64 z) (a:A.defers=[]) (c:W.heap[n]?=some (.cells bK.toArray 38 (0,0))) (b:R (.returned (.tuple #[.agg bK.toArray,.int .i64 z])) W):bodyPost prog Tryz.f12 R .ret A W:=aI rfl n 0 bK _ e (aE c) qa rfl (by rw[gV];rfl) a (by rw[d];exact b)
def agw (r F) (hF:F=Tryz.f12) (R n f c l b h j a w W u) (hf:∀k,k<193→f k=rdF jC l k) (hl:l.length<4294967296) (G:a.length=9) (q:n+2≤b) (y:∀i,i<5→a.getD (3+i) []=mP c l i) (h8:a.getD 8 []=(l.drop 220).take 97) (h97:((l.drop 220).take 97).length=97) (hP:d9 b (.slice h 9 j) a W) (hS:vF n (cJ f (fun _=>0) dz dz dz dz dz) w W) (O:∀(z:Int) d,z≠0→z=(nl r c l:Int)→Below n w d→R (.returned (.tuple #[.agg bK.toArray,.int .i64 z])) d) (hQ:∀s H I K M d,nl r c l=0→If (Ap r c l) (n+2) s H I K M d→Below n w d→R (.returned (.tuple #[.agg (cJ (Ap r c l).f (Ap r c l).g s H I K M).toArray,.int .i64 0])) d):
 (tq 16 F).wp prog (bodyPost prog Tryz.f12 R) (wm n (.slice h 9 j) u) W:=by
 have fL:=hS.hz;have o:∀i,(mP c l i).length≤70368744170000:=fun i=>bg (ya c l i) (by omega);rw[agt F hF];refine ij ?_;refine pR.1 F hF _ _ nE _ (rdF aM) (fun _=>0) n (cJ f (fun _=>0) dz dz dz dz dz) b h j a (mP c l 0) w W u h_ rfl Cb (by kernel_rfl) Gf.2 (gm (by decide)).1 (bg (gm (by decide)).2 (by decide)) (by rw[eP];decide) (bQ f _ _ _ _ _ _ 0 _ rfl) q G (y 0 (by decide)) (o 0) hP hS ?_ ?_
 ·intro A d z C B D p e E m
  change z=(GU r c l:Int)at e
  exact zA C B D E (O z d p (by rw[e];unfold nl;rw[an (by omega)]) m)
 intro u0 s N0 W0 L Vl cc E1 V;show (tq 27 F).wp prog (bodyPost prog Tryz.f12 R) (wm n (.slice h 9 j) u0) W0;rw[Ty]at cc
 change GU r c l=0 at L
 have p:=V.1;have nK:=hP.kp V q;rw[ags F hF];refine ij ?_;refine pR.2.1 F hF _ _ nk _ r.Rd r.XS n (cJ f (fun _=>0) s dz dz dz dz) b h j a (mP c l 1) w W0 u0 gy rfl Ca (by kernel_rfl) (Gs r).2 (fun x y=>oE (kD.1 x y) (oE (ya c l 1) hl)) (bg kD.2 (by decide)) (by rw[eP];decide) (bQ f _ _ _ _ _ _ 1 _ rfl) q G (y 1 (by decide)) (o 1) nK cc ?_ ?_
 ·intro A d z C B D p e E m
  change z=(GT r c l:Int)at e
  exact zA C B D E (O z d p (by rw[e];unfold nl;rw[aj L,an (by omega)]) m)
 intro u1 H N1 W1 P O6 ap fR Eq;show (tq 38 F).wp prog (bodyPost prog Tryz.f12 R) (wm n (.slice h 9 j) u1) W1;rw[Tx]at ap
 change GT r c l=0 at P
 have xk:=Eq.1;have sG:=nK.kp Eq q;rw[agr F hF];refine ij ?_;refine pR.2.2.1 F hF _ _ mO _ r.Nk r.XR n (cJ f (fun _=>0) s H dz dz dz) b h j a (mP c l 2) w W1 u1 gx rfl B' (by kernel_rfl) (Gp r).2 (fun x y=>oE (kD.1 x y) (oE (ya c l 2) hl)) (bg kD.2 (by decide)) (by rw[eP];decide) (bQ f _ _ _ _ _ _ 2 _ rfl) q G (y 2 (by decide)) (o 2) sG ap ?_ ?_
 ·intro A d z C B D p e E m
  change z=(GS r c l:Int)at e
  exact zA C B D E (O z d p (by rw[e];unfold nl;rw[aj L,aj P,an (by omega)]) m)
 intro u2 I N2 W2 X ut eJ nL Z;show (tq 49 F).wp prog (bodyPost prog Tryz.f12 R) (wm n (.slice h 9 j) u2) W2;rw[Tw]at eJ
 change GS r c l=0 at X
 have Al:=Z.1;have mC:=sG.kp Z q;rw[agq F hF];refine ij ?_;refine pR.2.2.2.1 F hF _ _ nG _ cK (fun _=>0) n (cJ f (fun _=>0) s H I dz dz) b h j a (mP c l 3) w W2 u2 ib rfl B_ (by kernel_rfl) Gl.2 (gm (by decide)).1 (bg (gm (by decide)).2 (by decide)) (by rw[eP];decide) (bQ f _ _ _ _ _ _ 3 _ rfl) q G (y 3 (by decide)) (o 3) mC eJ ?_ ?_
 ·intro A d z C B D p e E m
  change z=(GR r c l:Int)at e
  exact zA C B D E (O z d p (by rw[e];unfold nl;rw[aj L,aj P,aj X,an (by omega)]) m)
 intro u3 K N3 W3 h3 hN3 jG Rx J;show (tq 60 F).wp prog (bodyPost prog Tryz.f12 R) (wm n (.slice h 9 j) u3) W3;rw[Tv]at jG
 change GR r c l=0 at h3
 have hz3:=J.1;have Ia:=mC.kp J q;rw[agp F hF];refine ij ?_;refine pR.2.2.2.2 F hF _ _ nF _ (rdF bk) (fun _=>0) n (cJ f (fun _=>0) s H I K dz) b h j a (mP c l 4) w W3 u3 ia rfl B9 (by kernel_rfl) Gi.2 (gm (by decide)).1 (bg (gm (by decide)).2 (by decide)) (by rw[eP];decide) (bQ f _ _ _ _ _ _ 4 _ rfl) q G (y 4 (by decide)) (o 4) Ia jG ?_ ?_
 ·intro A d z C B D p e E m
  change z=(ID r c l:Int)at e
  exact zA C B D E (O z d p (by rw[e];unfold nl;rw[aj L,aj P,aj X,aj h3]) m)
 intro u4 M N4 W4 h4 hN4 BW zo Y;show (tq 71 F).wp prog (bodyPost prog Tryz.f12 R) (wm n (.slice h 9 j) u4) W4;rw[Tu]at BW
 change ID r c l=0 at h4
 have Xr:=Y.1;have hP4:=Ia.kp Y q;have Q:=Kp.refl (n+2) W4;have S:=Y.trans Q;have T:=J.trans S;have U:=Z.trans T;have kk0:=Eq.trans U;refine ago F hF R n f s H I K M b h j a _ w W4 u4 (fun v hv=>?_) G h8 h97 hP4 BW fun d m N=>?_
 ·simp only[mF,vJ,vH]at hv
  rcases hv with rfl|rfl|rfl|rfl|rfl
  ·exact E1.one
  ·exact fR.one
  ·exact nL.one
  ·exact Rx.one
  ·exact zo.one
 ·have e0:nl r c l=0:=by unfold nl;rw[aj L,aj P,aj X,aj h3,h4]
  have G:=hQ s H I K M d e0 ⟨(E1.low (show n+2≤N0 by omega)).kp h_ (kk0.trans N) bG,(fR.low (show n+2≤N1 by omega)).kp gy (U.trans N) bG,(nL.low (show n+2≤N2 by omega)).kp gx (T.trans N) bG,(Rx.low (show n+2≤N3 by omega)).kp ib (S.trans N) bG,(zo.low (show n+2≤N4 by omega)).kp ia (Q.trans N) bG⟩ m;unfold cJ at G ⊢;rw[bU (g:=rdF jC l) hf];exact G
def agm (F) (hF:F=Tryz.f12) (Q n a W u) (d:u 6= .int .i64 0) (b:∀c,Q .normal (wm n a c) W):(pq 10 F).wp prog Q (wm n a u) W:=by have e:=aa b;clear b;subst hF;simp only[pq,pc,pcAt,headAt,Tryz.f12,reduceIte,Nat.reduceEqDiff,Nat.reduceBEq,dR];unfold wm;rw[d];go_wp2;exact SL e.out (by kernel_rfl)
def qT5 (F) (h:F=Tryz.f12):tq 5 F= .seq (pq 5 F) (tq 9 F):=by
 subst h
 kernel_rfl
def qT9 (F) (h:F=Tryz.f12):tq 9 F= .seq (pq 9 F) (tq 10 F):=by
 subst h
 kernel_rfl
def agv (F) (h:F=Tryz.f12):tq 10 F= .seq (pq 10 F) (tq 12 F):=by
 subst h
 kernel_rfl
def agu (F) (h:F=Tryz.f12):tq 12 F= .seq (pq 12 F) (tq 16 F):=by
 subst h
 kernel_rfl
def qG5 (r F) (hF:F=Tryz.f12) (R n p l b m o c w W u) (hl:l.length<4294967296) (A:c.length=9) (s:n+2≤b) (T:∀i,i<5→c.getD (3+i) []=mP p l i) (h0:c.getD 0 []=(l.drop 0).take 96) (h1:c.getD 1 []=(l.drop 96).take 72) (h2:c.getD 2 []=(l.drop 168).take 32) (h8:c.getD 8 []=(l.drop 220).take 97) (zw:317≤l.length) (P:d9 b (.slice m 9 o) c W) (Y:vF n bK w W) (hE:∀(z:Int) v,z≠0→z=(nl r p l:Int)→Below n w v→R (.returned (.tuple #[.agg bK.toArray,.int .i64 z])) v) (Z:∀I H G E D v,nl r p l=0→If (Ap r p l) (n+2) I H G E D v→Below n w v→R (.returned (.tuple #[.agg (cJ (Ap r p l).f (Ap r p l).g I H G E D).toArray,.int .i64 0])) v):
 (tq 5 F).wp prog (bodyPost prog Tryz.f12 R) (wm n (.slice m 9 o) u) W:=by
 have d:∀a k,a+k≤317→((l.drop a).take k).length=k:=fun a k h=>by rw[cf,bJ];omega
 let e:List Value:=[dz,dz,dz,dz,dz]++ae 104 av (fun _=>0)
 rw[qT5 F hF];refine ij ?_;refine rB.1 F hF _ n (fun _=>0) e b m o c _ w W u A h0 (d 0 96 (by decide)) s P Y ?_;intro M S X Eq;show (tq 9 F).wp prog (bodyPost prog Tryz.f12 R) (wm n (.slice m 9 o) M) S;rw[qT9 F hF];refine ij ?_;have O:=P.kp Eq s;refine rE9 F hF _ n _ e b m o c _ w S M A h1 (d 96 72 (by decide)) O X ?_;intro L B C V E2;show (tq 10 F).wp prog (bodyPost prog Tryz.f12 R) (wm n (.slice m 9 o) L) B;rw[agv F hF];refine ij ?_;have N:=O.kp E2 s;refine agm F hF _ n _ B L C ?_;intro K;show (tq 12 F).wp prog (bodyPost prog Tryz.f12 R) (wm n (.slice m 9 o) K) B;rw[agu F hF];refine ij ?_;refine rB.2 F hF _ n _ e b m o c _ w B K A h2 (d 168 32 (by decide)) s N V ?_;intro J Q U XN;show (tq 16 F).wp prog (bodyPost prog Tryz.f12 R) (wm n (.slice m 9 o) J) Q;refine agw r F hF R n _ p l b m o c w Q J (fun k y=>?_) hl A s T h8 (d 220 97 (by decide)) (N.kp XN s) U hE Z;refine tA (r:=rdF jC l) 161 32 (tA (r:=rdF jC l) 96 65 (fun k y=>?_) fun j q=>Y8 l j q) (fun j q=>?_) k y
 ·exact tA (r:=rdF jC l) 0 96 (fun k y=>absurd y (xE _)) (fun j q=>by rw[bA _ _ _ _ q];exact acg l j q) k (by omega)
 ·rw[bA _ _ _ _ q]
  exact acf l j q
def x9:headN c_=317:=rfl
def qn (l):(fV c_ l).length=9:=dO _ _
def rP (l):∀i,i<5→(fV c_ l).getD (3+i) []=mP (uV l) l i:=fun i a=>by
 rw[fN _ _ _ (show 3+i<9 by omega)]
 match i,a with
 |0,_=>rfl
 |1,_=>rfl
 |2,_=>rfl
 |3,_=>rfl
 |4,_=>rfl
def nz (l):(fV c_ l).getD 0 []=(l.drop 0).take 96∧(fV c_ l).getD 1 []=(l.drop 96).take 72∧(fV c_ l).getD 2 []=(l.drop 168).take 32∧(fV c_ l).getD 8 []=(l.drop 220).take 97:=by
 refine⟨?_,?_,?_,?_⟩
 ·rw[fN _ _ _ (by decide)];rfl
 ·rw[fN _ _ _ (by decide)];rfl
 ·rw[fN _ _ _ (by decide)];rfl
 ·rw[fN _ _ _ (by decide)];rfl
def Di:∀z∈c_,z≤65536:=by decide
def ac8 {Q l b c i n W} (hs:cG b c l W) (hl:l.length<4294967296) (hZ:et i c_ W) (p:∀a,BV l≠0→Below W.heap.size W a→Q (.returned (.tuple #[.slice none 0 0,.int .i64 (BV l:Int)])) a) (q:∀a j m,BV l=0→Hid (d9 W.heap.size (.slice j 9 m) (fV c_ l) a)→Below W.heap.size W a→Q (.returned (.tuple #[.slice j 9 m,.int .i64 0])) a):Calls prog 73 #[.slice b l.length c,.slice (some ⟨i,0,none⟩) 9 n] W Q:=by
 by_cases f:317≤l.length
 ·by_cases k:bz 317 l.length (sZ.map (aK l)) 5
  ·have e:BV l=0:=by unfold BV;rw[aj f,aj k]
   exact(uD l b c i c_ 9 n W hs hZ rfl (by decide) (by decide) Di f (by decide) (by omega) 5 rfl (by decide) k).mono fun _ a ⟨⟨v,h,r⟩,g⟩=>by have o:d9 W.heap.size v (fV c_ l) a:=Or.inr r;obtain⟨j,m,rfl⟩:=o.form;rw[h];rw[qn]at o ⊢;exact q a j m e o g
  ·have e:BV l=5:=by unfold BV;rw[aj f,an k]
   exact(uO l b c i c_ 9 n W hs hZ rfl (by decide) (by decide) Di f (by decide) (by omega) 5 rfl (by decide) k).mono fun _ a ⟨h,g⟩=>by rw[h];have d:=p a (by rw[e];decide) g;rw[e]at d;exact d
 ·have e:BV l=4:=by unfold BV;rw[an f]
  exact(uP l b c i c_ 9 n W hZ rfl (by decide) (by decide) Di (show l.length<headN c_ by rw[x9];omega)).mono fun _ a ⟨h,g⟩=>by rw[h];have d:=p a (by rw[e];decide) (g▸aP _ _);rw[e]at d;exact d
def jY (r:E4) (l:List Int):Nat:=if BV l=0 then nl r (uV l) l else BV l
def VU:Bo:=⟨fun _=>0,fun _=>0,[],[],[],[],[]⟩
def st (r:E4) (l:List Int):Bo:=if jY r l=0 then Ap r (uV l) l else VU
def cT4 (F) (h:F=Tryz.f11):tq 4 F= .seq (pq 4 F) (tq 5 F):=by
 subst h
 kernel_rfl
def cT5 (F) (h:F=Tryz.f11):tq 5 F= .seq (pq 5 F) (tq 9 F):=by
 subst h
 kernel_rfl
def cT9 (F) (h:F=Tryz.f11):tq 9 F= .seq (pq 9 F) (tq 10 F):=by
 subst h
 kernel_rfl
def EV (F) (h:F=Tryz.f11):(Tryz.f11).body=some (.seq (pc 0 Tryz.f11) (.seq (pc 1 Tryz.f11) (.seq (pc 2 Tryz.f11) (.seq (pc 3 Tryz.f11) (tq 4 F))))):=by
 subst h
 kernel_rfl
def yv {l} (h:BV l=0):317≤l.length∧bz 317 l.length (sZ.map (aK l)) 5:=by
 unfold BV at h;split at h
 ·rename_i b
  split at h
  ·rename_i a
   exact⟨b,a⟩
  ·cases h
 ·cases h
def XY:List Value:=[dz,dz,dz,dz,dz]++ae 104 av (fun _=>0)
def M9:bK=ae 193 (kdF jC) (fun _=>0)++XY:=rfl
def adu (r F) (hF:F=Tryz.f11) (R n l b c d a w W u) (Q:w.heap.size=n) (hl:l.length<4294967296) (m:a=BV l) (h2:a=0→d=uV l) (hS:dr n bK.toArray bK.toArray 38 d 0 l b c 0 a w W) (A:∀a h,a≠0→a=jY r l→Below n w h→R (.returned (.tuple #[.agg bK.toArray,.int .i64 (a:Int)])) h) (L:∀J I H G E h,jY r l=0→If (Ap r (uV l) l) (n+3) J I H G E h→Below n w h→R (.returned (.tuple #[.agg (cJ (Ap r (uV l) l).f (Ap r (uV l) l).g J I H G E).toArray,.int .i64 0])) h):
 (tq 4 F).wp prog (bodyPost prog Tryz.f11 R) (rh n u) W:=by
 have M:a=0→317≤l.length:=fun e=>(yv (m▸e)).1;rw[cT4 F hF];refine ij ?_;refine pB4 F hF _ n bK.toArray (fun _=>0) XY _ d 0 l b c 0 a w W u (fun e=>⟨rfl,by have:=M e;omega⟩) (by rw[←M9];exact hS) (fun _ k K=>absurd K (xE _)) ?_ bH;intro v O q o z V;show (tq 5 F).wp prog (bodyPost prog Tryz.f11 R) (rh n v) o;rw[cT5 F hF];refine ij ?_;by_cases i:a=0
 ·subst i
  obtain⟨ha,X⟩:=V rfl;subst ha;have zw:=M rfl;refine pG5 F hF _ n _ O _ _ d 0 l b c w o v (by omega) z (fun k K=>X k (by omega)) ?_;intro j f2 P Z U;show (tq 9 F).wp prog (bodyPost prog Tryz.f11 R) (rh n j) P;rw[cT9 F hF];refine ij ?_;refine pB9 F hF _ n _ f2 _ _ d 0 l b c 168 0 w P j (fun _=>⟨rfl,by omega⟩) Z (fun _=>U) ?_ bH;intro s N p B y T;obtain⟨D,C⟩:=T rfl;subst D;have S:=h2 rfl;subst S;have e9:jY r l=nl r (uV l) l:=by unfold jY;rw[aj m.symm]
  rw[e9]at L A;exact agh r F hF R n N (uV l) l b c w B s C Q hl zw rfl (Xi (yv m.symm).2) y A L
 ·refine pE5 F hF _ n _ _ _ d 0 l b c q a w o v i z ?_
  intro j;show (tq 9 F).wp prog (bodyPost prog Tryz.f11 R) (rh n j) o;rw[cT9 F hF];refine ij ?_;refine pB9 F hF _ n _ O _ _ d 0 l b c q a w o j (fun e=>absurd e i) z (fun e=>absurd e i) ?_ bH;intro s N p B y _;exact agi F hF R n _ d 0 l b c p a w B s i y fun h Y=>A a h i (by unfold jY;rw[an (by rw[←m];exact i)];exact m) Y
def aab {a:Code} {n:Nat} {Q A W} (h:∀u,a.wp prog Q (rh n u) W) (b:A=rh n (fun k=>A.tmps.getD k undef)):a.wp prog Q A W:=by rw[b];exact h _
def Mo (r l i c w R) (v:cG i c l w) (hl:l.length<4294967296) (B:∀a b,a≠0→a=jY r l→Below w.heap.size w b→R (.returned (.tuple #[.agg bK.toArray,.int .i64 (a:Int)])) b) (z:∀s q p o m b,jY r l=0→If (Ap r (uV l) l) (w.heap.size+3) s q p o m b→Below w.heap.size w b→R (.returned (.tuple #[.agg (cJ (Ap r (uV l) l).f (Ap r (uV l) l).g s q p o m).toArray,.int .i64 0])) b):
 Calls prog 11 #[.slice i l.length c] w R:=by
 have hs:=aa v;have L:=aa B;have J:=aa z;have G:l.length≤70368744177664:=by omega
 clear v B z;obtain⟨F,k⟩:∃F,F=Tryz.f11:=⟨_,rfl⟩;refine tf func11 (EV F k) ?_;have hF:=aa k;clear k;simp only[ntmps11,cI,List.length_cons,List.length_nil,Nat.reduceAdd,Nat.reduceSub,oK,Array.replicate_zero,oG,oJ,List.nil_append,List.cons_append];simp only[pc,pcAt,headAt,Tryz.f11,reduceIte,Nat.reduceEqDiff,Nat.reduceBEq,dR]
 go_wp2_with (first
  |refine ao 38 ?_;refine fX 2 qQ ?_
  |refine ao 38 ?_;refine fX 4 qQ ?_
  |with_reducible refine(dr.open l.length 317 (317:Int) rfl rfl 5 (5:Int) rfl (by decide) (err:=if 317≤l.length then 0 else 4) rfl (by decide) hs.out.row hs.out.cap hs.out.nil hs.out.low G).mono ?_
   rintro e W ⟨rfl,h,d⟩;obtain⟨a,j⟩:∃a,a=if 317≤l.length then 0 else 4:=⟨_,rfl⟩
   rw[←j]at h d;have H:=aa j;have y:=aa h;have hW:=aa d;clear h d j
  |refine aV 63 ?_;refine aH rfl fun K A=>bV _ (Bv _ _ (by rfl) (by rfl)) (A _ _ ?_);clear A K
   have h:=aa (y.out.after ((aP _ W).alloc bG (.cells Sb 3)));have d:=aa (hW.out.later (((aP _ W).alloc hW.out.size (.cells Sb 3))));have D:w.heap.size+1+1<W.heap.size:=y.out.size;have E:=aa (ak W Sb 3 W.heap.size rfl)
  |(with_reducible refine dr.adS h.out d.out H.out E.out D ?_);intro P C O I N M)
 refine aab (n:=w.heap.size) (fun u=>?_) (by kernel_rfl);exact adu r F hF.out R w.heap.size l i c C O w P u rfl hl N M I.out L.out J.out
def LV (k:Nat):Prop:=∀(r:E4) (l:List Int) (b:Option Addr) (c:Nat) (w:World),Hid (cG b c l w)→Hid (l.length<4294967296)→Calls prog k #[.slice b l.length c] w fun x a=>(∃j i h e d,x= .returned (.tuple #[.agg (cJ (st r l).f (st r l).g j i h e d).toArray,.int .i64 (jY r l:Int)])∧If (st r l) w.heap.size j i h e d a)∧Below w.heap.size w a
def BQ (N W):If VU N dz dz dz dz dz W:=⟨rf.nil _ _ _,rf.nil _ _ _,rf.nil _ _ _,rf.nil _ _ _,rf.nil _ _ _⟩
def If.low {b N g f e d c a W} (h:If b g f e d c a W) (hn:N≤g):If b N f e d c a W:=⟨h.o3.low hn,h.o4.low hn,h.o5.low hn,h.o6.low hn,h.o7.low hn⟩
def P2:LV 11:=fun r l d c w hs hl=>Mo r l d c w _ hs.out hl.out
 (fun n g a he b=>by
   have e:st r l=VU:=by unfold st;rw[an (he▸a)]
   rw[e,←he]
   exact⟨⟨_,_,_,_,_,rfl,BQ _ _⟩,b⟩)
 (fun m k j i h g a f b=>by
   have e:st r l=Ap r (uV l) l:=by unfold st;rw[aj a]
   rw[e,a]
   exact⟨⟨_,_,_,_,_,rfl,f.low (by omega)⟩,b⟩)
section
variable {α:Type} {e:El α} {ck:Option Nat} {er:List Int→Nat} {rd:List Int→α} {l:List α} {m:Nat} {P:List Int}
structure El.Laws (e:El α) (ck:Option Nat) (er:List Int→Nat) (rd:List Int→α):Prop where
 er0:∀a,e.ok a→e.E a=0→er (e.L a)=0
 rd0:∀l,(∀x∈l,CK.ok .u8 x)→(∀s,ck=some s→l.length=s)→er l=0→e.ok (rd l)∧e.E (rd l)=0∧e.L (rd l)=l
 sz:∀s,ck=some s→1≤s∧∀a,(e.L a).length=s
def xK (ck:Option Nat) (e:El α) (l:List α):List Int:=match ck with|some _=>f_ e l|none=>iR e l
theorem uB (h:∀a∈l,e.E a=0):jf e l=0:=by unfold jf wy;rw[gC,an];rintro⟨a,ha,hn⟩;exact hn (h a ha)
theorem WJ (h:jf e l=0):∀a∈l,e.E a=0:=fun a ha=>qE fun hn=>by unfold jf wy at h;rw[gC,aj ⟨a,ha,hn⟩]at h;exact absurd h (by decide)
theorem ud (er:List Int→Nat):∀a,firstE er a=0↔∀p∈a,er p=0
 |[]=>by simp[firstE]
 |p::a=>by
  rw[firstE];split
  ·rename_i h;rw[ud er a];simp[h]
  ·rename_i h;simp[h]
theorem UW:∀p∈cE ck m P,∀x∈p,x∈P:=by
 intro p a x b;cases ck with
 |some s=>
  unfold cE mQ at a;simp only at a;split at a
  ·obtain⟨i,_,rfl⟩:=ft.1 a
   exact kM (oH b)
  ·simp at a
 |none=>
  unfold cE kQ at a;simp only at a;split at a
  ·simp at a
  ·split at a
   ·obtain⟨i,_,rfl⟩:=ft.1 a
    unfold ik at b;split at b<;>exact kM (oH b)
   ·simp at a
theorem mq (hL:e.Laws ck er rd) (i:∀a∈l,e.ok a) (f:jf e l=0) (h:l.length≤m) (b:(xK ck e l).length<4294967296):kx ck m er (xK ck e l) (cE ck m (xK ck e l)).length=0:=by
 have c:pt ck m (xK ck e l)=0∧cE ck m (xK ck e l)=l.map e.L:=by
  cases ck with
  |some s=>have g:xK (some s) e l=(l.map e.L).flatten:=aj f;rw[g];obtain⟨k,j⟩:=QF (ps:=l.map e.L) (m:=m) (hL.sz s rfl).1 (fun p d=>by obtain⟨a,_,rfl⟩:=ft.1 d;exact(hL.sz s rfl).2 a) (by rw[jK];exact h);exact⟨by show (jt _ s m).toNat=0;rw[k];rfl,j⟩
  |none=>have g:xK none e l=lZ (l.map e.L):=aj f;rw[g]at b ⊢;exact Uc (by rw[jK];exact h) b
 unfold kx;rw[aj c.1,c.2,gC,ud];intro p d;obtain⟨a,ha,rfl⟩:=ft.1 d;exact hL.er0 a (i a ha) (WJ f a ha)
theorem qV (hL:e.Laws ck er rd) (j:∀x∈P,CK.ok .u8 x) (h:kx ck m er P (cE ck m P).length=0):((cE ck m P).map rd).length≤m∧(∀a∈(cE ck m P).map rd,e.ok a)∧jf e ((cE ck m P).map rd)=0∧xK ck e ((cE ck m P).map rd)=P:=by
 have i:pt ck m P=0:=qE fun hn=>by unfold kx at h;rw[an hn]at h;exact hn h
 unfold kx at h;rw[aj i,gC,ud]at h
 have c:(∀p∈cE ck m P,∀s,ck=some s→p.length=s)∧(cE ck m P).length≤m:=by
  cases ck with
  |some s=>exact⟨fun p c t d=>by cases d;exact(gm (hL.sz s rfl).1).1 p c,(gm (hL.sz s rfl).1).2⟩
  |none=>exact⟨(fun p c t d=>by cases d),kD.2⟩
 have f:∀p∈cE ck m P,e.ok (rd p)∧e.E (rd p)=0∧e.L (rd p)=p:=fun p b=>hL.rd0 p (fun x n=>j x (UW p b x n)) (c.1 p b) (h p b)
 have g:jf e ((cE ck m P).map rd)=0:=uB fun a ha=>by obtain⟨p,b,rfl⟩:=ft.1 ha;exact(f p b).2.1
 have k:((cE ck m P).map rd).map e.L=cE ck m P:=by rw[Fc];exact(Fd fun p b=>(f p b).2.2).trans (List.map_id _)
 refine⟨by rw[jK];exact c.2,fun a ha=>?_,g,?_⟩
 ·obtain⟨p,b,rfl⟩:=ft.1 ha
  exact(f p b).1
 ·cases ck with
  |some s=>show f_ e _=_;unfold f_;rw[aj g,k];refine(zW (hL.sz s rfl).1 ?_).1;have o:(jt P.length s m).toNat=0:=i;rw[Gu,o];rfl
  |none=>show iR e _=_;unfold iR;rw[aj g,k];exact(Ul j i).1
end
def Gc {N S t b G} (f:cF b=N) (d:sF b=S) (g:1≤S):(tp N t (kdF b) (dF b) G).Laws (some S) (fun _=>0) (rdF b):=by subst d;exact⟨fun _ _ _=>rfl,fun l hl hs _=>⟨fun k c=>IY f (hs _ rfl) hl k c,rfl,CP (hs _ rfl) hl⟩,fun s hs=>by cases hs;exact⟨g,fun a=>ez _ _⟩⟩
def Gg:nE.Laws (some 416) (fun _=>0) (rdF aM):=Gc rfl rfl (by decide)
def Gj:nF.Laws (some 112) (fun _=>0) (rdF bk):=Gc rfl rfl (by decide)
def Gm:nG.Laws (some 408) (fun _=>0) cK:=⟨fun _ _ _=>rfl,fun l hl hs _=>⟨fun k b=>HM (hs _ rfl) hl k b,rfl,ET l (hs _ rfl) hl⟩,fun s hs=>by cases hs;exact⟨by decide,fun a=>iy a⟩⟩
def F2 {l e a b} (h:Ix.rd l 0 a) (g:Ix.rd l e b):e=0:=by
 rcases h with⟨i,_⟩|⟨_,k,n,j,f,_⟩
 ·exact absurd rfl i
 ·rcases g with⟨d,_,_,_,c⟩|⟨d,_⟩
  ·rcases c with⟨c,_⟩|⟨_,c,_⟩|⟨_,_,c⟩
   ·omega
   ·exact absurd f c
   ·unfold xN at c
    rw[an (by omega),an (by omega)]at c;exact absurd (by exact_mod_cast c.symm) d
  ·exact d
def Nh {l e a b p o} (h:AN l 0 a b) (g:AN l e p o):e=0:=by
 rcases h with⟨k,_⟩|⟨_,r,j,i,f⟩
 ·exact absurd rfl k
 ·rcases g with⟨d,_,_,c⟩|⟨d,_⟩
  ·rcases c with⟨c,_⟩|⟨_,c,_⟩|⟨_,_,c⟩
   ·omega
   ·exact absurd j c
   ·rcases c with c|⟨q,c,n⟩
    ·exact F2 i c
    ·exact F2 f n
  ·exact d
def Nd {l e d b p n o k} (h:AM l 0 d p n) (g:AM l e b o k):e=0:=by
 rcases h with⟨j,_⟩|⟨_,q,i,f,_⟩
 ·exact absurd rfl j
 ·rcases g with⟨c,_,_,_,a⟩|⟨c,_⟩
  ·rcases a with⟨a,_⟩|⟨_,a,_⟩|⟨_,_,a⟩
   ·omega
   ·exact absurd i a
   ·rw[f]at a;exact a.symm
  ·exact c
def Gt (r:E4):nk.Laws none r.XS r.Rd:=by
 refine⟨fun p a b=>?_,fun l hl _ i=>?_,fun s hs=>by cases hs⟩
 ·obtain⟨k,j,h,_⟩:=QX a.1 a.2 b
  exact Nh h (r.h4 _)
 ·have h:=r.h4 l
  rw[i]at h;obtain⟨g,f,d,c⟩:=QE hl h;exact⟨⟨g,f⟩,d,c⟩
def Gq (r:E4):mO.Laws none r.XR r.Nk:=by
 refine⟨fun a ha f=>?_,fun l hl _ k=>?_,fun s hs=>by cases hs⟩
 ·have c:a.aO.length≤64:=qE fun hn=>by
   have h:At.err a=0:=f;unfold At.err at h;rw[an hn]at h;exact absurd h (by decide)
  have hl:mO.L a=dU a.aO a.fd a.fs:=aj c;rw[hl];obtain⟨_,_,h,_⟩:=QW c ha.hw ha.hd ha.hs;exact Nd h (r.h5 _)
 ·have h:=r.h5 l
  rw[k]at h;obtain⟨j,b,i,g⟩:=QC hl h
  have d:∀m∈(r.Nk l).aO,CK.ok .bool m:=by
   rcases h with⟨o,_⟩|⟨_,_,_,_,n,_⟩
   ·exact absurd rfl o
   ·rw[n];exact U8 _
  refine⟨⟨d,i,g,bg b (by decide)⟩,aj b,?_⟩;show At.L _=l;unfold At.L;rw[aj b];exact j
def oY {α:Type} {e:El α} {m:Nat} {l:List α} {er:Int} (h:iF e (m:Int) l er=0):er=0∧l.length≤m∧jf e l=0:=by
 unfold iF at h;by_cases b:er=0
 ·subst b
  by_cases a:(l.length:Int)>(m:Int)
  ·simp[a]at h
  ·simp[a]at h
   exact⟨rfl,by omega,h⟩
 ·simp[b]at h
def tK {α:Type} {e:El α} {m} {l:List α} (c:l.length≤m) (b:jf e l=0):iF e (m:Int) l 0=0:=by
 have a:¬(l.length:Int)>(m:Int):=by omega
 unfold iF;simp[a,b]
structure Bo.Lx (b:Bo):Prop where
 e3:b.ps.length≤2∧jf nE b.ps=0
 e4:b.ss.length≤1∧jf nk b.ss=0
 e5:b.zp.length≤4∧jf mO b.zp=0
 e6:b.ds.length≤2∧jf nG b.ds=0
 e7:b.es.length≤2∧jf nF b.es=0
def Bo.Hp {b:Bo} (h:b.E=0):b.Lx:=by obtain⟨h,a⟩:=oY (m:=2) h;obtain⟨h,c⟩:=oY (m:=2) h;obtain⟨h,d⟩:=oY (m:=4) h;obtain⟨h,f⟩:=oY (m:=1) h;obtain⟨h,g⟩:=oY (m:=2) h;exact⟨g,f,d,c,a⟩
def Bo.Lx.E {b:Bo} (h:b.Lx):b.E=0:=by have g:iF nE 2 b.ps 0=0:=tK (m:=2) h.e3.1 h.e3.2;have f:iF nk 1 b.ss 0=0:=tK (m:=1) h.e4.1 h.e4.2;have d:iF mO 4 b.zp 0=0:=tK (m:=4) h.e5.1 h.e5.2;have c:iF nG 2 b.ds 0=0:=tK (m:=2) h.e6.1 h.e6.2;have a:iF nF 2 b.es 0=0:=tK (m:=2) h.e7.1 h.e7.2;unfold Bo.E;rw[g,f,d,c,a]
def ol {α:Type} {e:El α} (he:e.Ok) {l:List α} (hl:l.length≤4):(f_ e l).length≤20000:=by
 unfold f_;split
 ·have:=wD he l
  omega
 ·simp
def uI {α:Type} {e:El α} (he:e.Ok) {l:List α} (hl:l.length≤4):(iR e l).length≤20000:=by
 unfold iR;split
 ·have a:=OE (wD he l)
  rw[jK]at a;omega
 ·simp
def Bo.Lx.len {b:Bo} (h:b.Lx):(eS c_ b.pw).length≤100317:=by have g:=ol h_ (bg h.e3.1 (by decide));have f:=uI gy (bg h.e4.1 (by decide));have d:=uI gx h.e5.1;have c:=ol ib (bg h.e6.1 (by decide));have a:=ol ia (bg h.e7.1 (by decide));rw[ko b.fits];have e:(layK (headN c_) c_ b.pw c_.length).2=([]++f_ nE b.ps++iR nk b.ss++iR mO b.zp++f_ nG b.ds++f_ nF b.es):=rfl;rw[e,x9];simp only[bM,List.length_nil];omega
def yR (r:E4) {b:Bo} (d:b.ok) (f:b.E=0):jY r b.L=0:=by
 have a:=Bo.Hp f;have hl:=a.len;have s:b.L=eS c_ b.pw:=aj f;rw[s];have p:bz 317 (eS c_ b.pw).length (sZ.map (aK (eS c_ b.pw))) 5:=JA b.fits (by omega)
 have o:317≤(eS c_ b.pw).length:=by rw[ko b.fits,x9];omega
 have q:BV (eS c_ b.pw)=0:=by unfold BV;rw[aj o,aj p]
 have n:=OP b.fits (show (eS c_ b.pw).length<4294967296 by omega);have c:=rP (eS c_ b.pw);rw[n]at c;unfold jY;rw[aj q];have k:kx (some 416) 2 (fun _=>0) (b.pw.getD (3+0) []) (cE (some 416) 2 (b.pw.getD (3+0) [])).length=0:=mq Gg d.ps a.e3.2 a.e3.1 (oE (ol h_ (bg a.e3.1 (by decide))) (by decide));have j:kx none 1 r.XS (b.pw.getD (3+1) []) (cE none 1 (b.pw.getD (3+1) [])).length=0:=mq (Gt r) d.ss a.e4.2 a.e4.1 (oE (uI gy (bg a.e4.1 (by decide))) (by decide));have i:kx none 4 r.XR (b.pw.getD (3+2) []) (cE none 4 (b.pw.getD (3+2) [])).length=0:=mq (Gq r) d.zp a.e5.2 a.e5.1 (oE (uI gx a.e5.1) (by decide));have h:kx (some 408) 2 (fun _=>0) (b.pw.getD (3+3) []) (cE (some 408) 2 (b.pw.getD (3+3) [])).length=0:=mq Gm d.ds a.e6.2 a.e6.1 (oE (ol ib (bg a.e6.1 (by decide))) (by decide));have g:kx (some 112) 2 (fun _=>0) (b.pw.getD (3+4) []) (cE (some 112) 2 (b.pw.getD (3+4) [])).length=0:=mq Gj d.es a.e7.2 a.e7.1 (oE (ol ia (bg a.e7.1 (by decide))) (by decide));unfold nl GU GT GS GR ID;rw[←c 0 (by decide),←c 1 (by decide),←c 2 (by decide),←c 3 (by decide),←c 4 (by decide)];rw[aj k,aj j,aj i,aj h];exact g
def QV {r a l} (h:nl r a l=0):GU r a l=0∧GT r a l=0∧GS r a l=0∧GR r a l=0∧ID r a l=0:=by
 unfold nl at h
 (repeat' split at h)<;>simp_all
def x_ {l} (hl:∀x∈l,CK.ok .u8 x) (a i):∀x∈mP a l i,CK.ok .u8 x:=jO hl _ _
def Qa:∀{q:List (List Int)},q.length=9→q=[q.getD 0 [],q.getD 1 [],q.getD 2 [],q.getD 3 [],q.getD 4 [],q.getD 5 [],q.getD 6 [],q.getD 7 [],q.getD 8 []]
 |[_,_,_,_,_,_,_,_,_],_=>rfl
def Gz (r) {l} (hl:∀x∈l,CK.ok .u8 x) (h:jY r l=0):(st r l).ok∧(st r l).E=0∧(st r l).L=l:=by
 have f:BV l=0:=qE fun hn=>by unfold jY at h;rw[an hn]at h;exact hn h
 have e:st r l=Ap r (uV l) l:=by unfold st;rw[aj h]
 unfold jY at h;rw[aj f]at h;rw[e];obtain⟨z,y,w,v,u⟩:=QV h;obtain⟨J,H⟩:=yv f;obtain⟨s,a2,a3,a4⟩:=qV Gg (x_ hl _ _) z;obtain⟨q,b2,b3,b4⟩:=qV (Gt r) (x_ hl _ _) y;obtain⟨p,c2,Z,Y⟩:=qV (Gq r) (x_ hl _ _) w;obtain⟨o,X,W,V⟩:=qV Gm (x_ hl _ _) v;obtain⟨i,U,T,S⟩:=qV Gj (x_ hl _ _) u;have g:(Ap r (uV l) l).E=0:=Bo.Lx.E ⟨⟨s,a3⟩,⟨q,b3⟩,⟨p,Z⟩,⟨o,W⟩,i,T⟩;have c:((l.drop 220).take 97).length=97:=by rw[cf,bJ];omega
 have I:∀k,k<193→(kdF jC k).ok (rdF jC l k):=fun k d=>by have:=zB jC [] l k d;rw[fZ]at this;rw[this.2];exact IY rfl (by rw[cf];show min 200 _=200;omega) (fun x F=>hl x (oH F)) k d
 refine⟨⟨I,wX c (jO hl _ _),a2,b2,c2,X,U,bg s (by decide),bg q (by decide),bg p (by decide),bg o (by decide),bg i (by decide)⟩,g,?_⟩;have R:(Ap r (uV l) l).L=eS c_ (Ap r (uV l) l).pw:=aj g;obtain⟨Q,O,M,K⟩:=nz l
 have G:(Ap r (uV l) l).pw=fV c_ l:=by
  have D:ff (rdF jC l) 0 96=(l.drop 0).take 96:=tG _ l 0 0 96 (fun j b=>by rw[bY];exact aj b) (by omega)
  have C:dF bN (fun j=>rdF jC l (96+j))=(l.drop 96).take 72:=by rw[wR (fd:=bN) (N:=65) rfl fun j b=>(Y8 l j b).symm];exact CP (by rw[cf,bJ];show min 72 _=72;omega) (jO hl _ _)
  have B:ff (rdF jC l) 161 32=(l.drop 168).take 32:=tG _ l 161 168 32 (fun j b=>((rx (n:=32) jC l 161 168 (by decide) j b).2)) (by omega);have A:cN (aY ((l.drop 220).take 97))=(l.drop 220).take 97:=vj _ c (jO hl _ _);have a:=rP l;rw[Qa (qn l),Q,O,M,K,show (fV c_ l).getD 3 []=_ from a 0 (by decide),show (fV c_ l).getD 4 []=_ from a 1 (by decide),show (fV c_ l).getD 5 []=_ from a 2 (by decide),show (fV c_ l).getD 6 []=_ from a 3 (by decide),show (fV c_ l).getD 7 []=_ from a 4 (by decide),←D,←C,←B,←A,←a4,←b4,←Y,←V,←S];rfl
 rw[R,G];exact(OC (zs:=c_) hl (by rw[x9];exact J) H (fun h=>by cases h)).2
def yz:VU.Lx:=by refine⟨⟨by decide,uB fun a ha=>?_⟩,⟨by decide,uB fun a ha=>?_⟩,⟨by decide,uB fun a ha=>?_⟩,⟨by decide,uB fun a ha=>?_⟩,⟨by decide,uB fun a ha=>?_⟩⟩<;>cases ha
def Hd:VU.ok:=by
 refine⟨fun j _=>Fm jC j,fun j _=>?_,?_,?_,?_,?_,?_,by decide,by decide,by decide,by decide,by decide⟩
 ·show (av j).ok 0
  unfold av;split
  ·exact Or.inl rfl
  ·exact⟨by decide,by decide⟩
 all_goals (intro a ha;cases ha)
def U4 (r) {l} (hl:∀x∈l,CK.ok .u8 x):(st r l).ok∧(st r l).E=0∧(jY r l=0→(st r l).L=l):=by
 by_cases h:jY r l=0
 ·obtain⟨c,b,a⟩:=Gz r hl h
  exact⟨c,b,fun _=>a⟩
 ·have e:st r l=VU:=by unfold st;rw[an h]
  rw[e];exact⟨Hd,yz.E,fun d=>absurd d h⟩
def FrB (u:Nat→Value):Act:={tmps:=#[u 0,u 1,u 2,u 3,u 4,u 5,u 6,u 7,u 8,u 9,u 10,u 11,u 12,u 13,u 14,u 15,u 16,u 17,u 18,u 19,u 20,u 21,u 22,u 23,u 24,u 25,u 26,u 27,u 28,u 29,u 30,u 31,u 32,u 33,u 34,u 35,u 36,u 37,u 38,u 39,u 40,u 41,u 42,u 43,u 44,u 45,u 46,u 47,u 48,u 49,u 50,u 51,u 52,u 53,u 54,u 55,u 56,u 57,u 58,u 59,u 60,u 61,u 62,u 63,u 64,u 65,u 66,u 67,u 68,u 69,u 70,u 71,u 72,u 73,u 74,u 75,u 76,u 77,u 78,u 79,u 80,u 81,u 82,u 83,u 84,u 85,u 86,u 87,u 88,u 89,u 90,u 91,u 92,u 93,u 94,u 95,u 96,u 97,u 98,u 99,u 100,u 101,u 102,u 103,u 104,u 105,u 106,u 107,u 108,u 109,u 110,u 111,u 112,u 113,u 114,u 115,u 116,u 117,u 118,u 119,u 120,u 121,u 122,u 123,u 124,u 125,u 126,u 127,u 128,u 129,u 130,u 131,u 132,u 133,u 134,u 135,u 136,u 137,u 138,u 139,u 140,u 141,u 142,u 143,u 144],defers:=[]}
def VW (n:Nat) (A:Act):Prop:=∃u,A=FrB u∧u 1= .pointer (some ⟨n,0,none⟩)∧u 4= .pointer (some ⟨n+1,0,none⟩)
def VW.of {n A} (h:A=FrB (fun k=>A.tmps.getD k undef)) (b:A.tmps.getD 1 undef= .pointer (some ⟨n,0,none⟩)) (a:A.tmps.getD 4 undef= .pointer (some ⟨n+1,0,none⟩)):VW n A:=⟨_,h,b,a⟩
def XC (k p:Nat) (l:Int) (h i:Nat):Prop:=∀(F:Func) (_:F=Tryz.f7) (Q:Exit→Act→World→Prop) (n:Nat) (C:List Value) (d:List Nat) (e:List (List Int)) (j:Nat) (a:Int) (g:Option Addr) (m c:Nat) (tb:Bool) (w W:World) (A:Act),
 prog.underlying h=some (.slice i)→decide ((m:Int)>l)=tb→VW n A→C[p]?=some (.slice g m c)→fJ n C 38 W.heap.size d e j a w W→
 (∀f b,VW n f→fJ n C 38 b.heap.size d e j (if tb then(if a=0 then 6 else a)else a) w b→Q .normal f b)→(pq k F).wp prog Q A W
def bdX:XC 5 193 2 29 74∧XC 14 194 1 30 86∧XC 23 195 4 31 90∧XC 32 196 2 32 98∧XC 41 197 2 33 103:=by
 refine⟨?_,?_,?_,?_,?_⟩<;>
 (intro F hF Q n C p r j v q m c tb w W A b s ⟨u,i,l,k⟩ e f d
  have a:=aa f;have h:=aa e;have g:=aa b;have o:=aa d;clear f d e b;subst i;subst hF;simp only[pq,pc,pcAt,headAt,Tryz.f7,reduceIte,Nat.reduceEqDiff,Nat.reduceBEq,dR];unfold FrB;simp only[l,k];cases tb
  all_goals
   go_wp2_with (first
    |refine ag _ ?_;refine u5 a.out.hX h.out g.out rfl ?_
    |(with_reducible refine fJ.tr a.out ?_);clear a;intro W a)
   exact o.out _ _ (VW.of (by kernel_rfl) (by kernel_rfl) (by kernel_rfl)) a.out)
def YC (o m:Bool) (k p i g q:Nat):Prop:=∀(F:Func) (_:F=Tryz.f7) (Q:Exit→Act→World→Prop) (f:Type) (e:El f) (n:Nat) (C:List Value) (a:List Nat) (b:List (List Int)) (j:Nat) (c:Int) (l:List f) (v:Value) (w W:World) (A:Act),
 e.Ok→e.t=g→prog.underlying i=some (.slice g)→LB m e q→VW n A→C[p]?=some v→qf e l v w→(∀u∈l,e.ok u)→l.length≤1048576→w.heap.size=n→Bt a b→j<a.length→a.getD j 0=0→b.getD j []=I0 o e l→fJ n C 38 W.heap.size a b j c w W→
 (∀h d,VW n h→fJ n C 38 d.heap.size a b (j+1) (if c=0 then jf e l else c) w d→Q .normal h d)→(pq k F).wp prog Q A W
def bdY:YC true false 7 193 29 74 29∧YC false false 16 194 30 86 32∧YC false false 25 195 31 90 33∧YC true false 34 196 32 98 34∧YC true true 43 197 33 103 35:=by
 refine⟨?_,?_,?_,?_,?_⟩<;>
 (intro F D Q α e n C zs ps j er l v w W A he k N V ⟨u,hA,h1,h4⟩ Y y R hl hn g f K X h0 U
  have a:=aa h0;have hC:=aa Y;have O:=aa N;have B:=aa V;have ho:=aa R;have hZ:=aa g;have hj:=aa f;have hz:=aa K;have hF:=aa X;have gQ:=aa U;obtain⟨E,c,rfl,_⟩:=id y;have hR:=aa y;clear h0 U Y N V y R g X f K;subst hA;subst hn;subst D;simp only[pq,pc,pcAt,headAt,Tryz.f7,reduceIte,Nat.reduceEqDiff,Nat.reduceBEq,dR];unfold FrB;simp only[h1,h4]
  go_wp2_with (first
   |refine ao 65 ?_;refine jr.adp hF.out a.out ?_;clear a;intro L W a
   |refine ag _ ?_;refine u5 a.out.hI.hX hC.out O.out rfl ?_)
  obtain⟨I,J,H,G⟩:=a.out.inv;have g0:=aa J;have g1:=aa H;have g2:=aa G;clear J H G
  first|go_loopw [38] I (fun i _=>l.length-(intOf i).toNat)|go_loopw [60] I (fun i _=>l.length-(intOf i).toNat)|go_loopw [82] I (fun i _=>l.length-(intOf i).toNat)|go_loopw [104] I (fun i _=>l.length-(intOf i).toNat)|go_loopw [126] I (fun i _=>l.length-(intOf i).toNat)
  case atStart=>exact g0.out
  case round=>
   obtain⟨q,M,hq,rfl,T⟩:=g1.out _ _ hrel;replace a:=aa T;clear g0 hrel;clear T;by_cases m:q<l.length
   ·obtain⟨z,h⟩:∃z,l[q]?=some z:=⟨_,fS m⟩
    obtain⟨b,o,cs,rfl,S⟩:=(hR.out.later he a.out.hI.hB).get he h;have d:=aa S;have ha:=aa h;have P:=aa (ho.out z (rY h));have lt:decide ((q:Int)<(l.length:Int))=true:=by simp;omega
    clear S h
    go_wp2_with (first
     |refine aC _ ?_;refine ixE he k O.out rfl rfl m ?_
     |refine ag _ ?_;refine ldE he k rfl d.out ?_
     |refine ao _ ?_;refine alE he k d.out rfl (fun W' h3 Z=>?_) rfl;have d:=aa h3;have a:=aa (a.out.later Z);clear h3 Z
     |(with_reducible refine jr.mJ a.out B.out.p P.out d.out.r ?_);clear a d;intro W E c a
     |(with_reducible refine jr.aee a.out B.out.s P.out d.out.r ?_ he);clear a d;intro W E c a
     |(with_reducible refine jr.SM a.out he hl ha.out ?_);clear a;intro W a
     |(with_reducible refine jr.wE a.out he hl ha.out ?_);clear a;intro W a
     |(with_reducible refine jr.kR a.out he (B.out.z z) hl ha.out ?_);clear a;intro W a)
    exact⟨g2.out _ q _ _ (by go_num) m a.out,by simp[intOf];omega⟩
   ·have e0:q=l.length:=by omega
    have lt:decide ((q:Int)<(l.length:Int))=false:=by simp;omega
    subst e0
    go_wp2_with (first
     |(with_reducible refine jr.mI a.out he hl ?_);clear a;intro eE c1 W a
     |(with_reducible refine fJ.putK a.out.1 hZ.out hj.out hz.out hF.out a.out.2 rfl ?_);clear a;intro W a)
    exact gQ.out _ _ (VW.of (by kernel_rfl) (by kernel_rfl) (by kernel_rfl)) a.out)
def Hc (f a b):ff (fb f a) 0 b=ff f a b:=by simp[ff,fb]
def uQ {n:Nat} {f g:Nat→Int} {e d c b a:Value} {t:TypeId} {i:Nat×Nat} {W:World} (h:W.heap[n]?=some (.cells (cJ f g e d c b a).toArray t i)):W.rangeAt n 198 (ae 104 av g):=dK h (pre:=ae 193 (kdF jC) f++[e,d,c,b,a]) (post:=[]) (by simp[cJ]) 198 (by simp[ac])
def U3 (F) (h:F=Tryz.f7):(Tryz.f7).body=some (.seq (pc 0 Tryz.f7) (.seq (pc 1 Tryz.f7) (.seq (pc 2 Tryz.f7) (.seq (pc 3 Tryz.f7) (.seq (pc 4 Tryz.f7) (.seq (pq 5 F) (.seq (pq 7 F) (.seq (pq 14 F) (.seq (pq 16 F) (.seq (pq 23 F) (.seq (pq 25 F) (.seq (pq 32 F) (.seq (pq 34 F) (.seq (pq 41 F) (.seq (pq 43 F) (.seq (pq 50 F) (.seq (pc 51 Tryz.f7) .ret))))))))))))))))):=by
 subst h
 kernel_rfl
def UM (b:Bo) (p:b.ok) (G D C B z:Value) (w) (k:b.at G D C B z w):
 Calls prog 7 #[.agg (cJ b.f b.g G D C B z).toArray] w fun e y=>(∃l c,e= .returned (.tuple #[.slice l b.L.length c,.int .i64 b.E])∧(l=none→c=0)∧bc w.heap.size (.slice l b.L.length c) b.L y)∧Below w.heap.size w y:=by
 have j:=aa p;have hZ:=aa (Bo.agA p);have O:=aa (show b.pw.getD 0 []=ff (fb b.f 0) 0 96 from(Hc _ _ _).symm);have N:=aa (show b.pw.getD 1 []=dF bN (fb b.f 96)from rfl);have M:=aa (show b.pw.getD 2 []=ff (fb b.f 161) 0 32 from(Hc _ _ _).symm);have s:=aa (show b.pw.getD 8 []=cN b.g from rfl);have P:=aa (zb b.g p.hg);have v:=aa (fun W=>Qu (fb b.f 96) W (aa (d7 p.hf (bB rfl) (by decide))));obtain⟨Yv,c3,rfl,-,-⟩:=k.l3;obtain⟨Z,c4,rfl,-,-⟩:=k.l4;obtain⟨Yu,c5,rfl,-,-⟩:=k.l5;obtain⟨Y,c6,rfl,-,-⟩:=k.l6;obtain⟨X,c7,rfl,-,-⟩:=k.l7;have ha:=aa k;clear p k;obtain⟨F,r⟩:∃F,F=Tryz.f7:=⟨_,rfl⟩;refine tf func7 (U3 F r) ?_;have hF:=aa r;clear r;simp only[ntmps7,cI,List.length_cons,List.length_nil,Nat.reduceAdd,Nat.reduceSub,oK,Array.replicate_zero,oG,oJ,List.nil_append,List.cons_append];simp only[pc,pcAt,headAt,Tryz.f7,reduceIte,Nat.reduceEqDiff,Nat.reduceBEq,dR]
 go_wp2_with (first
  |refine fo _ ?_;refine bW rfl _ _ rfl _ rfl ?_
  |refine ao 65 ?_;refine fJ.LT c_ b.pw rfl ?_;intro W a
  |(with_reducible refine fJ.kA a.out hZ.out (by decide) (by decide) O.out (uE a.out.hX j.out.hf 0 96 rfl (by decide)) (az _ _ _) ?_);clear a;intro W a
  |(with_reducible refine fJ.kA a.out hZ.out (by decide) (by decide) M.out (uE a.out.hX j.out.hf 161 32 rfl (by decide)) (az _ _ _) ?_);clear a;intro W a
  |refine ag 28 ?_;obtain⟨I,H⟩:=oX (f:=b.f) (g:=b.g) 96 65 (kdF bN) rfl (by decide);refine ab (by rfl) _ (ar _ 28 _ (by rfl) w.heap.size 96 rfl (ae 65 (kdF bN) (fb b.f 96)) _ (dK a.out.hX H 96 (ac _ _ _)) Lj rfl (by rw[ah mf,ac])) ?_;clear H
  |with_reducible refine(v.out _).mono ?_
   rintro e V ⟨⟨J,U,rfl,n,m⟩,o⟩;have q:=a.out.later o;have hl:=aa (cG.b_ m (mT.ok (d7 j.out.hf (bB rfl) (by decide))) n);replace a:=aa q;clear q n m o
  |(with_reducible refine fJ.kA a.out hZ.out (by decide) (by decide) N.out hl.out (mT.len _) ?_);clear a hl;intro W a
  |refine gd 5 ?_;refine bdX.1 F hF.out _ _ _ _ _ _ _ _ _ _ _ _ _ _ Cb rfl (VW.of (by kernel_rfl) (by kernel_rfl) (by kernel_rfl)) (bQ _ _ _ _ _ _ _ 0 _ rfl) a.out (fun A W i d=>?_);clear a;have h:=aa i;have a:=aa d;clear i d
  |refine gd 7 ?_;refine bdY.1 F hF.out _ _ nE _ _ _ _ _ _ b.ps _ _ _ _ h_ rfl Cb JO.1 h.out (bQ _ _ _ _ _ _ _ 0 _ rfl) ha.out.l3 j.out.ps j.out.n3 rfl hZ.out (by decide) (by decide) rfl a.out (fun A W i d=>?_);clear a h;have h:=aa i;have a:=aa d;clear i d
  |refine gd 14 ?_;refine bdX.2.1 F hF.out _ _ _ _ _ _ _ _ _ _ _ _ _ _ Ca rfl h.out (bQ _ _ _ _ _ _ _ 1 _ rfl) a.out (fun A W i d=>?_);clear a h;have h:=aa i;have a:=aa d;clear i d
  |refine gd 16 ?_;refine bdY.2.1 F hF.out _ _ nk _ _ _ _ _ _ b.ss _ _ _ _ gy rfl Ca JS.1 h.out (bQ _ _ _ _ _ _ _ 1 _ rfl) ha.out.l4 j.out.ss j.out.n4 rfl hZ.out (by decide) (by decide) rfl a.out (fun A W i d=>?_);clear a h;have h:=aa i;have a:=aa d;clear i d
  |refine gd 23 ?_;refine bdX.2.2.1 F hF.out _ _ _ _ _ _ _ _ _ _ _ _ _ _ B' rfl h.out (bQ _ _ _ _ _ _ _ 2 _ rfl) a.out (fun A W i d=>?_);clear a h;have h:=aa i;have a:=aa d;clear i d
  |refine gd 25 ?_;refine bdY.2.2.1 F hF.out _ _ mO _ _ _ _ _ _ b.zp _ _ _ _ gx rfl B' JR.1 h.out (bQ _ _ _ _ _ _ _ 2 _ rfl) ha.out.l5 j.out.zp j.out.n5 rfl hZ.out (by decide) (by decide) rfl a.out (fun A W i d=>?_);clear a h;have h:=aa i;have a:=aa d;clear i d
  |refine gd 32 ?_;refine bdX.2.2.2.1 F hF.out _ _ _ _ _ _ _ _ _ _ _ _ _ _ B_ rfl h.out (bQ _ _ _ _ _ _ _ 3 _ rfl) a.out (fun A W i d=>?_);clear a h;have h:=aa i;have a:=aa d;clear i d
  |refine gd 34 ?_;refine bdY.2.2.2.1 F hF.out _ _ nG _ _ _ _ _ _ b.ds _ _ _ _ ib rfl B_ JQ.1 h.out (bQ _ _ _ _ _ _ _ 3 _ rfl) ha.out.l6 j.out.ds j.out.n6 rfl hZ.out (by decide) (by decide) rfl a.out (fun A W i d=>?_);clear a h;have h:=aa i;have a:=aa d;clear i d
  |refine gd 41 ?_;refine bdX.2.2.2.2 F hF.out _ _ _ _ _ _ _ _ _ _ _ _ _ _ B9 rfl h.out (bQ _ _ _ _ _ _ _ 4 _ rfl) a.out (fun A W i d=>?_);clear a h;have h:=aa i;have a:=aa d;clear i d
  |refine gd 43 ?_;refine bdY.2.2.2.2 F hF.out _ _ nF _ _ _ _ _ _ b.es _ _ _ _ ia rfl B9 ⟨JP.1,fun _=>rfl⟩ h.out (bQ _ _ _ _ _ _ _ 4 _ rfl) ha.out.l7 j.out.es j.out.n7 rfl hZ.out (by decide) (by decide) rfl a.out (fun A W i d=>?_);clear a h;obtain⟨u,h,T,S⟩:=i;subst h;unfold FrB;simp only[T,S];have a:=aa (show fJ _ _ _ _ c_ b.pw 8 b.E w W from d);clear d)
 rw[hF.out];simp only[pq,pc,pcAt,headAt,Tryz.f7,reduceIte,Nat.reduceEqDiff,Nat.reduceBEq,dR]
 go_wp2_with (first
  |refine ag 36 ?_;refine ab (by rfl) _ (ar _ 36 _ (by rfl) w.heap.size 198 rfl (ae 104 av b.g) _ (uQ a.out.hX) GK rfl (by rw[ah cL,ac])) ?_
  |with_reducible refine(P.out _).mono ?_
   rintro e V ⟨⟨J,U,rfl,n,m⟩,o⟩;have q:=a.out.later o;have hl:=aa (cG.b_ m (kT j.out.hg) n);replace a:=aa q;clear q n m o
  |(with_reducible refine fJ.kA a.out hZ.out (by decide) (by decide) s.out hl.out (gn _) ?_);clear hl;clear a;intro W a
  |(with_reducible refine fJ.mI a.out (by decide) hZ.out (show (if b.E=0 then eS c_ b.pw else[])=b.L from rfl) rfl ?_);intro l c W K Q R)
 exact bR rfl _ _ rfl rfl rfl ⟨⟨l,c,rfl,K,Q⟩,R⟩
def PC {a:Type} (e:El a) (m) (l:List a) (er):(if er=0 then(if decide ((l.length:Int)>m)then 6 else jf e l)else er)=iF e m l er:=by unfold iF;split<;>split<;>simp_all
def I_ {o q F g j p N d i f m a Q} {c:Type} {e:El c} {n} {C:List Value} {t er} {rs:List (Nat→Int)} {l:List c} {v w W A} (h:HL o q g j p N d i f m a) (hF:F=q) (he:e.Ok) (s:e.t=f) (r:prog.underlying i=some (.slice f)) (H:vT j e m) (B:a=(N:Int)) (D:lN N d∧d≤32∧N≤1000) (I:C[p]?=some v) (G:qf e l v w) (z:∀u∈l,e.ok u) (hl:l.length≤1048576) (hn:w.heap.size=n) (y:rs.length≤100) (J:A=g n (fun k=>A.tmps.getD k undef)) (E:bD n C t er rs w W) (k:∀u b,bD n C t (iF e a l er) (rs++[Lm e d a l]) w b→Q .normal (g n u) b):(o F).wp prog Q A W:=by rw[J];exact h F hF Q c e n C t er rs l v _ w W _ rfl he s r H B D I G z hl hn y E fun u b K=>k u b (uJ K (PC e a l er))
def Bo.rs (b:Bo):List (Nat→Int):=[uU 2 (ff (fb b.f 0) 0 96),oS (fb b.f 96),fb b.f 161,Lm nE 1 2 b.ps,Lm nk 0 1 b.ss,Lm mO 2 4 b.zp,Lm nG 1 2 b.ds,Lm nF 1 2 b.es,eV b.g]
def Bo.R (b:Bo):Nat→Int:=if b.E=0 then fullT 4 (leaf b.rs)else bh
section
variable {n:Nat} {C:List Value} {t:TypeId} {er:Int} {rs:List (Nat→Int)} {w W:World} {Q:Ending→World→Prop}
theorem bD.kR (h:bD n C t er rs w W) {l d c k} (hl:cG d c l W) (g:l.length=k) (a:1≤k) (b:k≤512) (i:rs.length≤100) (f:∀e,Hid (bD n C t er (rs++[uU (RI k) l]) w e)→Q (.returned (.tuple #[])) e):Calls prog 90 #[.pointer (some ⟨n+1+1,0,none⟩),.slice d k c] W Q:=(h.bytes l d c k (RI k) hl g a (by omega) (tF a b).1 (tF a b).2 (by omega)).mono fun _ _ ⟨a,b⟩=>by rw[a];exact f _ b
theorem bD.mJ (h:bD n C t er rs w W) {c N b a} (i:jN c N b a) {f} (g:uu N b f) (e:fY (a f)) (k:∀d,Hid (bD n C t er rs w d∧fY (a f))→Q (.returned (.agg (ax (a f)))) d):Calls prog c #[.agg (ae N b f).toArray] W Q:=(i f W g h.hT).mono fun _ _ ⟨l,j⟩=>by rw[l];exact k _ ⟨h.later j,e⟩
theorem bD.aci {r} (h:bD n C t er rs w W∧fY r) (hl:rs.length≤100) (k:∀a,Hid (bD n C t er (rs++[r]) w a)→Q (.returned (.tuple #[])) a):Calls prog 85 #[.pointer (some ⟨n+1+1,0,none⟩),.agg (ax r),.int .i64 0] W Q:=h.1.putK h.2 hl fun a b=>k a (uJ b (by split<;>simp_all))
theorem bD.mI (h:bD n C t er rs w W) {R} (hn:1≤rs.length∧rs.length≤16) (e:(if er=0 then fullT (Q_ rs.length) (leaf rs)else bh)=R) (k:∀d,Below n w d→Hid (d.heap[n+1]?=some (.cells zr 25 (0,0)))→Q (.returned (.tuple #[.agg (ax R),.int .i64 er])) d):Calls prog 39 #[.pointer (some ⟨n+1+1,0,none⟩)] W Q:=by
 subst e;by_cases he:er=0
 ·subst he
  exact(h.done (Q_ rs.length) (tE hn).1 hn.1 (tE hn).2).mono fun _ _ ⟨c,b,a⟩=>by rw[c];exact k _ b a
 ·rw[an he]at k
  exact(h.xO he).mono fun _ _ ⟨c,b,a⟩=>by rw[c];exact k _ b a
end
def Bo.ZE (b:Bo):1≤b.rs.length∧b.rs.length≤16:=⟨show 1≤9 by decide,show 9≤16 by decide⟩
def Bo.IE (b:Bo):(if b.E=0 then fullT (Q_ b.rs.length) (leaf b.rs)else bh)=b.R:=rfl
def tY (f):fY (eV f):=jj _ _
def Ea (F) (h:F=Tryz.f37):(Tryz.f37).body=some (.seq (pc 0 Tryz.f37) (.seq (pc 1 Tryz.f37) (.seq (pc 2 Tryz.f37) (.seq (pq 3 F) (tq 17 F))))):=by
 subst h
 kernel_rfl
def D' (F) (h:F=Tryz.f38):(Tryz.f38).body=some (.seq (pq 0 F) (.seq (pq 14 F) (.seq (pq 28 F) (tq 39 F)))):=by
 subst h
 kernel_rfl
def EN (b:Bo) (q:b.ok) (o m l k j:Value) (n:Nat) (w W) (v:b.at o m l k j w) (hn:w.heap.size=n) (s:bD n (cJ b.f b.g o m l k j) 38 0 [] w W):
 Calls prog 37 #[.pointer (some ⟨n+1+1,0,none⟩),.pointer (some ⟨n,0,none⟩)] W fun e y=>e= .returned (.tuple #[])∧bD n (cJ b.f b.g o m l k j) 38 (iF nk 1 b.ss (iF nE 2 b.ps 0)) (b.rs.take 5) w y:=by
 have c:=aa q;have ha:=aa v;have a:=aa s;clear q v s;obtain⟨F,p⟩:∃F,F=Tryz.f37:=⟨_,rfl⟩;refine tf func37 (Ea F p) ?_;have hF:=aa p;clear p;simp only[ntmps37,cI,List.length_cons,List.length_nil,Nat.reduceAdd,Nat.reduceSub,oK,Array.replicate_zero,oG,oJ,List.nil_append,List.cons_append];simp only[pc,pcAt,headAt,Tryz.f37,reduceIte,Nat.reduceEqDiff,Nat.reduceBEq,dR]
 go_wp2_with (first
  |(with_reducible refine bD.kR a.out (uE a.out.hX c.out.hf 0 96 rfl (by decide)) (az _ _ _) (by decide) (by decide) (by simp) ?_);clear a;intro W a
  |refine ag 28 ?_;obtain⟨i,h⟩:=oX (f:=b.f) (g:=b.g) 96 65 (kdF bN) rfl (by decide);refine ab (by rfl) _ (ar _ 28 _ (by rfl) n 96 rfl (ae 65 (kdF bN) (fb b.f 96)) _ (dK a.out.hX h 96 (ac _ _ _)) Lj rfl (by rw[ah mf,ac])) ?_;clear h
  |(with_reducible refine bD.mJ a.out ML (d7 c.out.hf (bB rfl) (by decide)) (mT.is (d7 c.out.hf (bB rfl) (by decide))) ?_);clear a;intro W a
  |refine ag 25 ?_;obtain⟨i,h⟩:=oX (f:=b.f) (g:=b.g) 161 32 (fun _=> .u8) rfl (by decide);refine ab (by rfl) _ (ar _ 25 _ (by rfl) n 161 rfl (ae 32 (fun _=> .u8) (fb b.f 161)) _ (dK a.out.hX h 161 (ac _ _ _)) cH rfl (by rw[ah am,ac])) ?_;clear h;have r:=aa (And.intro a.out (rv (off:=161) c.out.hf (da (by kernel_rfl)) (by decide)));clear a;have a:=r;clear r
  |(with_reducible refine bD.aci a.out (by simp) ?_);clear a;intro W a
  |refine gd 3 ?_;refine I_ hL.1 hF.out h_ rfl Cb Ge.1 rfl (by unfold lN;decide) (bQ _ _ _ _ _ _ _ 0 _ rfl) ha.out.l3 c.out.ps c.out.n3 hn (by simp) (by kernel_rfl) a.out (fun u W d=>?_);replace a:=aa d;clear d
  |refine aeh 17 ?_;refine I_ hL.2.1 hF.out gy rfl Ca Gr.1 rfl (by unfold lN;decide) (bQ _ _ _ _ _ _ _ 1 _ rfl) ha.out.l4 c.out.ss c.out.n4 hn (by simp) (by kernel_rfl) a.out (fun u W d=>?_);replace a:=aa d;clear d)
 exact g8 rfl rfl ⟨rfl,a.out⟩
def EM (b:Bo) (q:b.ok) (o m l k j:Value) (n:Nat) (w W) (s:b.at o m l k j w) (hn:w.heap.size=n) {e0:Int} {rs:List (Nat→Int)} (i:rs.length=5) (r:bD n (cJ b.f b.g o m l k j) 38 e0 rs w W):
 Calls prog 38 #[.pointer (some ⟨n+1+1,0,none⟩),.pointer (some ⟨n,0,none⟩)] W fun e v=>e= .returned (.tuple #[])∧bD n (cJ b.f b.g o m l k j) 38 (iF nF 2 b.es (iF nG 2 b.ds (iF mO 4 b.zp e0))) (rs++b.rs.drop 5) w v:=by
 have d:=aa q;have ha:=aa s;have a:=aa r;clear q s r;obtain⟨F,p⟩:∃F,F=Tryz.f38:=⟨_,rfl⟩;refine tf func38 (D' F p) ?_;have hF:=aa p;clear p;simp only[ntmps38,cI,List.length_cons,List.length_nil,Nat.reduceAdd,Nat.reduceSub,oK,Array.replicate_zero,oG,oJ,List.nil_append,List.cons_append]
 go_wp2_with (first
  |refine gd 0 ?_;refine I_ hL.2.2.1 hF.out gx rfl B' Gn.1 rfl (by unfold lN;decide) (bQ _ _ _ _ _ _ _ 2 _ rfl) ha.out.l5 d.out.zp d.out.n5 hn (by simp[i]) (by kernel_rfl) a.out (fun u W c=>?_);replace a:=aa c;clear c
  |refine gd 14 ?_;refine I_ hL.2.2.2.1 hF.out ib rfl B_ Gk.1 rfl (by unfold lN;decide) (bQ _ _ _ _ _ _ _ 3 _ rfl) ha.out.l6 d.out.ds d.out.n6 hn (by simp[i]) (by kernel_rfl) a.out (fun u W c=>?_);replace a:=aa c;clear c
  |refine gd 28 ?_;refine I_ hL.2.2.2.2 hF.out ia rfl B9 ⟨Gh.1,fun _=>rfl⟩ rfl (by unfold lN;decide) (bQ _ _ _ _ _ _ _ 4 _ rfl) ha.out.l7 d.out.es d.out.n7 hn (by simp[i]) (by kernel_rfl) a.out (fun u W c=>?_);replace a:=aa c;clear c)
 rw[hF.out];simp only[tq,tlAt,headAt,Tryz.f38,reduceIte,Nat.reduceEqDiff,Nat.reduceBEq,dR];unfold FrJ;have y:=aa (show jN 106 104 av eV from fun f w h z=>wU f h.out w z.out)
 go_wp2_with (first
  |refine ag 36 ?_;refine ab (by rfl) _ (ar _ 36 _ (by rfl) n 198 rfl (ae 104 av b.g) _ (uQ a.out.hX) GK rfl (by rw[ah cL,ac])) ?_
  |(with_reducible refine bD.mJ a.out y.out d.out.hg (tY _) ?_);clear a;intro W a
  |(with_reducible refine bD.aci a.out (by simp[i]) ?_);clear a;intro W a)
 refine g8 rfl rfl ⟨rfl,?_⟩;have h:=a.out;simp only[dA]at h;exact h
def PT (b:Bo) (l:b.ok) (k j i h d:Value) (w) (m:b.at k j i h d w) (o:cY w):
 Calls prog 8 #[.agg (cJ b.f b.g k j i h d).toArray] w fun e s=>e= .returned (.tuple #[.agg (ax b.R),.int .i64 b.E])∧Below w.heap.size w s:=by
 have y:=aa (fun W=>EN b l k j i h d w.heap.size w W m rfl);have v:=aa (fun W q rs u=>EM b l k j i h d w.heap.size w W m rfl (e0:=q) (rs:=rs) u);have A:=aa o;clear l m o
 go_enter func8,ntmps8
 go_wp2_with (first
  |refine fo _ ?_;refine bW rfl _ _ rfl _ rfl ?_
  |refine ao 25 ?_;refine fX 2 cg ?_
  |refine ao 108 ?_;refine fX _ jw ?_
   refine bZ (fun W=>bD w.heap.size (cJ b.f b.g k j i h d) 38 0 [] w W) (bD.begin (ak _ _ _ _ rfl) rfl A.out) ?_;intro W a;have c:=aa a;clear a
  |(with_reducible refine(y.out _ c.out).mono ?_);rintro e r ⟨rfl,a⟩;replace c:=aa a;clear a
  |(with_reducible refine(v.out _ _ _ rfl c.out).mono ?_);rintro e r ⟨rfl,a⟩;clear c;have c:=aa (show bD _ _ _ b.E b.rs w r from a);clear a
  |(with_reducible refine bD.mI c.out b.ZE b.IE ?_);clear c;intro W p B;have H:=p.size
  |refine al 25 ?_;refine aq (w0:=w) (n0:=w.heap.size) 25 _ _ rfl rfl (w.heap.size+1) rfl _ rfl (aA _ _ _) (by rw[ah am];simp[ae]) _ 25 B.out (by rw[bL];simp[ae]) (by omega) p (fun I z D _=>?_))
 exact aI rfl (w.heap.size+1) 0 (ae 32 (fun _=> .u8) b.R) _ rfl z cH rfl (by rw[ah am,ac]) rfl ⟨rfl,D⟩
def jv:rg:=[none,none,some 32,some 32]
structure qr where
 h:Nat→Int
 b:Bo
structure zj where
 s:Nat→Int
 k:qr
def jT:El Bo:=⟨302,38,Bo.ok,fun b i W=>∃h e d c a,i=cJ b.f b.g h e d c a∧b.at h e d c a W,Bo.L,Bo.E,Bo.R⟩
def qr.L (k:qr):List Int:=if k.b.E=0 then dF jv k.h++(jB 84++k.b.L)else[]
def qr.rs (k:qr):List (Nat→Int):=[je (k.h 0),je (k.h 1),fb k.h 2,fb k.h 34,k.b.R]
def qr.R (k:qr):Nat→Int:=if k.b.E=0 then fullT 3 (leaf k.rs)else bh
def iz:El qr:=⟨368,50,fun k=>uu 66 (kdF jv) k.h∧k.b.ok,fun k c W=>∃a,c=ae 66 (kdF jv) k.h++a∧jT.R k.b a W,qr.L,fun k=>k.b.E,qr.R⟩
def zj.L (g:zj):List Int:=if g.k.b.E=0 then jB 100++(ff g.s 0 96++g.k.L)else[]
def zj.rs (g:zj):List (Nat→Int):=[g.k.R,uU 2 (ff g.s 0 96)]
def zj.R (g:zj):Nat→Int:=if g.k.b.E=0 then fullT 1 (leaf g.rs)else bh
def nD:El zj:=⟨464,57,fun g=>iz.ok g.k∧uu 96 (fun _=> .u8) g.s,fun g c W=>∃a,c=a++ae 96 (fun _=> .u8) g.s∧iz.R g.k a W,zj.L,fun g=>g.k.b.E,zj.R⟩
def oC:List Nat:=[8,8,32,32,0]
def qr.ps (k:qr):List (List Int):=[fH (k.h 0),fH (k.h 1),ff k.h 2 32,ff k.h 34 32,k.b.L]
def qr.lay (k:qr):(if k.b.E=0 then eS oC k.ps else[])=k.L:=by
 have e:eS oC k.ps=dF jv k.h++(jB 84++k.b.L):=by have h:eS oC k.ps=([]++fH (k.h 0)++fH (k.h 1)++ff k.h 2 32++ff k.h 34 32++jB 84)++([]++k.b.L):=rfl;have a:dF jv k.h=fH (k.h 0)++(fH (k.h 1)++(ff k.h 2 32++(ff k.h 34 32++[]))):=rfl;rw[h,a];simp only[dA,List.nil_append,fZ]
 unfold qr.L;rw[e]
def ri:List Nat:=[0,96]
def zj.ps (g:zj):List (List Int):=[g.k.L,ff g.s 0 96]
def zj.lay (g:zj):(if g.k.b.E=0 then eS ri g.ps else[])=g.L:=by
 have e:eS ri g.ps=jB 100++(ff g.s 0 96++g.k.L):=by have h:eS ri g.ps=([]++jB 100++ff g.s 0 96)++([]++g.k.L):=rfl;rw[h];simp only[dA,List.nil_append]
 unfold zj.L;rw[e]
def mb (r:E4) (l:List Int):Nat:=if 84≤l.length then(if aK l 80=84 then jY r (l.drop 84)else 5)else 4
def Lz:qr:=⟨fun _=>0,VU⟩
def xi (r:E4) (l:List Int):qr:=if mb r l=0 then⟨rdF jv l,st r (l.drop 84)⟩else Lz
def rl (r:E4) (l:List Int):Nat:=if 100≤l.length then(if aK l 0=100 then mb r (l.drop 100)else 5)else 4
def Lk:zj:=⟨fun _=>0,Lz⟩
def EX (r:E4) (l:List Int):zj:=if rl r l=0 then⟨fun j=>l.getD (4+j) 0,xi r (l.drop 100)⟩else Lk
def OO {l:List Int} (h:∀x∈l,CK.ok .u8 x) (n):∀x∈l.drop n,CK.ok .u8 x:=fun x a=>h x (kM a)
def Ou {A B:List Int} {p n:Nat} (a:A.length=p) (hn:n<4294967296):aK (A++(jB (n:Int)++B)) p=n:=(CX a n).trans (yl n hn)
def pZ (r) {k} (d:iz.ok k) (c:k.b.E=0):mb r k.L=0:=by have e:k.L=dF jv k.h++(jB (84:Nat)++k.b.L):=aj c;have a:(dF jv k.h).length=80:=ez _ _;rw[e];unfold mb;rw[aj (by simp only[bM,a,cC];omega),aj (Ou a (by decide))];rw[←dA,Az (by rw[bM,a,cC])];exact yR r d.2 c
def Ke (r) {g} (c:nD.ok g) (a:g.k.b.E=0):rl r g.L=0:=by have e:g.L=jB (100:Nat)++(ff g.s 0 96++g.k.L):=aj a;rw[e];unfold rl;rw[aj (by simp only[bM,az,cC];omega),aj (show aK (jB (100:Nat)++(ff g.s 0 96++g.k.L)) 0=100 from Ou (A:=[]) rfl (by decide))];rw[←dA,Az (by rw[bM,az,cC])];exact pZ r c.1 a
def OT (r) {l} (hl:∀x∈l,CK.ok .u8 x):iz.ok (xi r l)∧(xi r l).b.E=0∧(mb r l=0→(xi r l).L=l):=by
 by_cases h:mb r l=0
 ·have e:xi r l=⟨rdF jv l,st r (l.drop 84)⟩:=aj h
  unfold mb at h;split at h
  ·split at h
   ·rename_i s m
    obtain⟨q,i,o⟩:=Gz r (OO hl 84) h;have a:(l.take 80).length=sF jv:=by rw[cf];show min 80 _=80;omega
    have f:∀k,k<66→rdF jv l k=rdF jv (l.take 80) k:=fun k c=>by have:=zB jv [] l k c;rw[fZ]at this;exact this.2
    rw[e];refine⟨⟨fun k c=>?_,q⟩,i,fun _=>?_⟩
    ·show (kdF jv k).ok (rdF jv l k)
     rw[f k c];exact IY rfl a (fun x d=>hl x (oH d)) k c
    ·show qr.L _=l
     unfold qr.L;rw[aj i];show dF jv (rdF jv l)++(jB 84++(st r (l.drop 84)).L)=l;rw[o,wR (fd:=jv) (N:=66) rfl f,CP a (fun x d=>hl x (oH d))];have g:=JX hl (p:=80) (by omega);rw[m]at g;rw[show jB 84=(l.drop 80).take 4 from g.symm,show l.drop 84=(l.drop 80).drop 4 by rw[lO],jI,jI]
   ·exact absurd h (by decide)
  ·exact absurd h (by decide)
 ·have e:xi r l=Lz:=an h
  rw[e];exact⟨⟨fun j _=>Fm jv j,Hd⟩,yz.E,fun n=>absurd n h⟩
def Wo (r) {l} (hl:∀x∈l,CK.ok .u8 x):nD.ok (EX r l)∧(EX r l).k.b.E=0∧(rl r l=0→(EX r l).L=l):=by
 by_cases h:rl r l=0
 ·have e:EX r l=⟨fun j=>l.getD (4+j) 0,xi r (l.drop 100)⟩:=aj h
  unfold rl at h;split at h
  ·split at h
   ·rename_i n d
    obtain⟨i,a,g⟩:=OT r (OO hl 100);rw[e];refine⟨⟨i,fun k m=>iu hl _⟩,a,fun _=>?_⟩;show zj.L _=l;unfold zj.L;rw[aj a];show jB 100++(ff (fun j=>l.getD (4+j) 0) 0 96++(xi r (l.drop 100)).L)=l;rw[g h,tG _ l 0 4 96 (fun j _=>by rw[bY]) (by omega)];have c:l.take 4=jB 100:=mX hl (by omega) 100 d;rw[←c,show l.drop 100=(l.drop 4).drop 96 by rw[lO],jI,jI]
   ·exact absurd h (by decide)
  ·exact absurd h (by decide)
 ·have e:EX r l=Lk:=an h
  rw[e];exact⟨⟨⟨fun j _=>Fm jv j,Hd⟩,fun j _=>(⟨by decide,by decide⟩:CK.ok .u8 0)⟩,yz.E,fun f=>absurd f h⟩
end Go.Proofs.YtjeoeibdgciafaaGreatDoor
