/- Steps of the proof. -/
import Derived.Test.YtjeoeibdgciafaaGreatDoorM5
set_option linter.all false
set_option maxRecDepth 100000
set_option maxHeartbeats 16000000
namespace Go.Proofs.YtjeoeibdgciafaaGreatDoor
open Go.RowKit BigFrame
open Go.Proofs.Tryz
def dx:rg:=[none,none]
def mg (f:Nat→Int):Nat→Int:=fullT 1 (leaf [je (f 0),je (f 1)])
def g_:rowB prog 101 2=true:=by kernel_rfl
def aZ:rg:=[none,some 32]
def eZ (f:Nat→Int):Nat→Int:=fullT 1 (leaf [je (f 0),fb f 1])
def cO:rowB prog 80 33=true:=by kernel_rfl
def bN:rg:=[some 32,none,some 32]
def oS (f:Nat→Int):Nat→Int:=fullT 2 (leaf [fb f 0,je (f 32),fb f 33])
def mf:rowB prog 28 65=true:=by kernel_rfl
def bl:rg:=[some 48,some 32,none,some 96]
def dI (f:Nat→Int):Nat→Int:=fullT 2 (leaf [uU 1 (ff f 0 48),fb f 48,je (f 80),uU 2 (ff f 81 96)])
def eA:rowB prog 96 177=true:=by kernel_rfl
def b9:rg:=[none,none,some 32,some 32,some 32]
def jm (f:Nat→Int):Nat→Int:=fullT 3 (leaf [je (f 0),je (f 1),fb f 2,fb f 34,fb f 66])
def eW:rowB prog 70 98=true:=by kernel_rfl
def bk:rg:=[none,none,some 96]
def g9 (f:Nat→Int):Nat→Int:=fullT 1 (leaf [mg (fb f 0),uU 2 (ff f 2 96)])
def qj:rowB prog 103 98=true:=by kernel_rfl
def aQ:rg:=[none,none,some 32,some 32,some 32,some 96]
def dL (f:Nat→Int):Nat→Int:=fullT 1 (leaf [jm (fb f 0),uU 2 (ff f 98 96)])
def bX:rowB prog 72 194=true:=by kernel_rfl
def fE:rg:=[none,none,some 32,none,some 32,none,some 32]
def gt (f:Nat→Int):Nat→Int:=fullT 3 (leaf [je (f 0),je (f 1),fb f 2,eZ (fb f 34),eZ (fb f 67)])
def gl:rowB prog 82 100=true:=by kernel_rfl
def aM:rg:=[none,none,some 32,some 32,some 32,some 96,none,none,some 32,some 32,some 32,some 96]
def eD (f:Nat→Int):Nat→Int:=fullT 1 (leaf [dL (fb f 0),dL (fb f 194)])
def kS:rowB prog 74 388=true:=by kernel_rfl
def OH {f} (a:uu 2 (kdF dx) f):fY (mg f):=by
 refine dj _ (eO ?_)
 repeat first|exact lw|exact ir _|exact gr a (da (by kernel_rfl)) (by decide)|exact jg (eM (gr a (da (by kernel_rfl)) (by decide)))|refine dk ?_ ?_
def v_ {f} (a:uu 33 (kdF aZ) f):fY (eZ f):=by
 refine dj _ (eO ?_)
 repeat first|exact lw|exact ir _|exact gr a (da (by kernel_rfl)) (by decide)|exact jg (eM (gr a (da (by kernel_rfl)) (by decide)))|refine dk ?_ ?_
def WQ {f} (a:uu 65 (kdF bN) f):fY (oS f):=by
 refine dj _ (eO ?_)
 repeat first|exact lw|exact ir _|exact gr a (da (by kernel_rfl)) (by decide)|exact jg (eM (gr a (da (by kernel_rfl)) (by decide)))|refine dk ?_ ?_
def D_ {f} (a:uu 177 (kdF bl) f):fY (dI f):=by
 refine dj _ (eO ?_)
 repeat first|exact lw|exact ir _|exact gr a (da (by kernel_rfl)) (by decide)|exact jg (eM (gr a (da (by kernel_rfl)) (by decide)))|refine dk ?_ ?_
def F4 {f} (a:uu 98 (kdF b9) f):fY (jm f):=by
 refine dj _ (eO ?_)
 repeat first|exact lw|exact ir _|exact gr a (da (by kernel_rfl)) (by decide)|exact jg (eM (gr a (da (by kernel_rfl)) (by decide)))|refine dk ?_ ?_
def EP {f} (a:uu 98 (kdF bk) f):fY (g9 f):=by
 refine dj _ (eO ?_)
 repeat first|exact lw|exact ir _|exact gr a (da (by kernel_rfl)) (by decide)|exact jg (eM (gr a (da (by kernel_rfl)) (by decide)))|exact OH (d7 a (bB (by kernel_rfl)) (by decide))|refine dk ?_ ?_
def so {f} (a:uu 194 (kdF aQ) f):fY (dL f):=by
 refine dj _ (eO ?_)
 repeat first|exact lw|exact ir _|exact gr a (da (by kernel_rfl)) (by decide)|exact jg (eM (gr a (da (by kernel_rfl)) (by decide)))|exact F4 (d7 a (bB (by kernel_rfl)) (by decide))|refine dk ?_ ?_
def WR {f} (a:uu 100 (kdF fE) f):fY (gt f):=by
 refine dj _ (eO ?_)
 repeat first|exact lw|exact ir _|exact gr a (da (by kernel_rfl)) (by decide)|exact jg (eM (gr a (da (by kernel_rfl)) (by decide)))|exact v_ (d7 a (bB (by kernel_rfl)) (by decide))|refine dk ?_ ?_
def vf {f} (a:uu 388 (kdF aM) f):fY (eD f):=by
 refine dj _ (eO ?_)
 repeat first|exact lw|exact ir _|exact gr a (da (by kernel_rfl)) (by decide)|exact jg (eM (gr a (da (by kernel_rfl)) (by decide)))|exact so (d7 a (bB (by kernel_rfl)) (by decide))|refine dk ?_ ?_
def rA (b) {N S} (e:cF b=N) (d:sF b=S) {a} (c:∀{f},uu N (kdF b) f→fY (a f)):qJ N (kdF b) S (dF b) a:=⟨fun f=>d▸ez b f,fun h=>x6 e h,c⟩
def uL:qJ 2 (kdF dx) 16 (dF dx) mg:=rA dx rfl rfl OH
def ln:qJ 33 (kdF aZ) 40 (dF aZ) eZ:=rA aZ rfl rfl v_
def mT:qJ 65 (kdF bN) 72 (dF bN) oS:=rA bN rfl rfl WQ
def pW:qJ 98 (kdF b9) 112 (dF b9) jm:=rA b9 rfl rfl F4
def nJ:qJ 98 (kdF bk) 112 (dF bk) g9:=rA bk rfl rfl EP
def jR:qJ 194 (kdF aQ) 208 (dF aQ) dL:=rA aQ rfl rfl so
def jF:qJ 388 (kdF aM) 416 (dF aM) eD:=rA aM rfl rfl vf
def n_:
 (True→True→True→True→pu 96 2 (kdF dx) 16 (dF dx))∧
 (True→True→True→True→pu 154 33 (kdF aZ) 40 (dF aZ))∧
 (True→True→True→True→pu 26 65 (kdF bN) 72 (dF bN))∧
 (True→True→True→True→pu 95 177 (kdF bl) 184 (dF bl))∧
 (True→True→True→True→pu 151 98 (kdF b9) 112 (dF b9))∧
 (pu 96 2 (kdF dx) 16 (dF dx)→True→True→True→pu 35 98 (kdF bk) 112 (dF bk))∧
 (True→True→pu 151 98 (kdF b9) 112 (dF b9)→True→pu 91 194 (kdF aQ) 208 (dF aQ))∧
 (True→pu 154 33 (kdF aZ) 40 (dF aZ)→True→True→pu 94 100 (kdF fE) 128 (dF fE))∧
 (True→True→True→pu 91 194 (kdF aQ) 208 (dF aQ)→iH 29 388 (kdF aM) 416 (dF aM)):=by
 refine⟨?_,?_,?_,?_,?_,?_,?_,?_,?_⟩<;>
 (intro r s q o f w b
  first|go_enter func96,ntmps96|go_enter func154,ntmps154|go_enter func26,ntmps26|go_enter func95,ntmps95|go_enter func151,ntmps151|go_enter func35,ntmps35|go_enter func91,ntmps91|go_enter func94,ntmps94|go_enter func29,ntmps29
  go_wp2_with (first
   |refine ao 65 ?_;refine fX _ C6 ?_
    refine bZ (fA w.heap.size _ _ f _ [] w) (fA.begin (ak _ _ _ _ rfl) rfl) ?_;intro W l;have a:=aa l;clear l
   |refine ag 26 ?_;refine ldU a.out.toBox rfl (by decide) (by rfl) ?_
   |(with_reducible refine fA.Bk a.out (by simp[aX,az,ez]<;>decide) ?_);clear a;intro W a
   |(with_reducible refine fA.kR a.out (by kernel_rfl) (by decide) b.out (by simp[aX,az,ez]<;>decide) ?_);clear a;intro W a
   |refine ag 101 ?_;refine KM a.out.toBox (kdF dx) g_ AD rfl rfl (by kernel_rfl) (by decide) ?_
   |refine ag 80 ?_;refine KM a.out.toBox (kdF aZ) cO Ih rfl rfl (by kernel_rfl) (by decide) ?_
   |refine ag 70 ?_;refine KM a.out.toBox (kdF b9) eW Ij rfl rfl (by kernel_rfl) (by decide) ?_
   |refine ag 72 ?_;refine KM a.out.toBox (kdF aQ) bX Ii rfl rfl (by kernel_rfl) (by decide) ?_
   |(with_reducible refine fA.pp a.out r uL (by kernel_rfl) (by decide) b.out ?_);clear a;intro W d g hl a
   |(with_reducible refine fA.pp a.out s ln (by kernel_rfl) (by decide) b.out ?_);clear a;intro W d g hl a
   |(with_reducible refine fA.pp a.out q pW (by kernel_rfl) (by decide) b.out ?_);clear a;intro W d g hl a
   |(with_reducible refine fA.pp a.out o jR (by kernel_rfl) (by decide) b.out ?_);clear a;intro W d g hl a
   |(with_reducible refine fA.kA a.out hl.out (by simp[aX,az,ez]<;>decide) ?_);clear hl a;intro W a
   |with_reducible refine(fA.done a.out _ (by simp[aX,az,ez]<;>rfl) (by decide)).mono ?_
    rintro e W ⟨⟨i,c,rfl,k,m⟩,n⟩;have p:=aa m;have j:=aa k
    clear m k)
  first|refine cA rfl _ rfl rfl ⟨⟨i,c,rfl,j.out,?_⟩,n⟩|refine bR rfl _ _ rfl rfl rfl ⟨⟨i,c,rfl,j.out,?_⟩,n⟩
  have h:=p.out
  try simp only[ON]at h ⊢
  simp only[dF,encA,dx,aZ,bN,bl,b9,bk,aQ,fE,aM,fZ,List.nil_append,dA,Nat.reduceAdd]at h ⊢
  exact h)
def Qt:pu 96 2 (kdF dx) 16 (dF dx):=n_.1 trivial trivial trivial trivial
def Bz:pu 154 33 (kdF aZ) 40 (dF aZ):=n_.2.1 trivial trivial trivial trivial
def Qu:pu 26 65 (kdF bN) 72 (dF bN):=n_.2.2.1 trivial trivial trivial trivial
def Ak:pu 95 177 (kdF bl) 184 (dF bl):=n_.2.2.2.1 trivial trivial trivial trivial
def KF:pu 151 98 (kdF b9) 112 (dF b9):=n_.2.2.2.2.1 trivial trivial trivial trivial
def By:pu 35 98 (kdF bk) 112 (dF bk):=n_.2.2.2.2.2.1 Qt trivial trivial trivial
def y_:pu 91 194 (kdF aQ) 208 (dF aQ):=n_.2.2.2.2.2.2.1 trivial trivial KF trivial
def Qv:pu 94 100 (kdF fE) 128 (dF fE):=n_.2.2.2.2.2.2.2.1 trivial Bz trivial trivial
def sC:iH 29 388 (kdF aM) 416 (dF aM):=n_.2.2.2.2.2.2.2.2 trivial trivial trivial y_
def mm:
 (True→True→True→True→jN 163 2 (kdF dx) mg)∧
 (True→True→True→True→jN 186 33 (kdF aZ) eZ)∧
 (True→True→True→True→jN 98 65 (kdF bN) oS)∧
 (True→True→True→True→jN 162 177 (kdF bl) dI)∧
 (True→True→True→True→jN 183 98 (kdF b9) jm)∧
 (jN 163 2 (kdF dx) mg→True→True→True→jN 105 98 (kdF bk) g9)∧
 (True→True→jN 183 98 (kdF b9) jm→True→jN 155 194 (kdF aQ) dL)∧
 (True→jN 186 33 (kdF aZ) eZ→True→True→jN 161 100 (kdF fE) gt)∧
 (True→True→True→jN 155 194 (kdF aQ) dL→fK 99 388 (kdF aM) eD):=by
 refine⟨?_,?_,?_,?_,?_,?_,?_,?_,?_⟩<;>
 (intro p q o n f w b m
  first|go_enter func163,ntmps163|go_enter func186,ntmps186|go_enter func98,ntmps98|go_enter func162,ntmps162|go_enter func183,ntmps183|go_enter func105,ntmps105|go_enter func155,ntmps155|go_enter func161,ntmps161|go_enter func99,ntmps99
  go_wp2_with (first
   |refine ao 25 ?_;refine fX 2 cg ?_
   |refine ao 108 ?_;refine fX _ jw ?_
    refine bZ (db w.heap.size _ _ f _ [] w) (db.begin (ak _ _ _ _ rfl) rfl m.out) ?_;intro W h;have a:=aa h;clear h
   |refine ag 26 ?_;refine ldU a.out.toBox rfl (by decide) (by rfl) ?_
   |refine ag 25 ?_;refine ldR a.out.toBox rfl (by kernel_rfl) (by decide) ?_
   |(with_reducible refine db.Bk a.out (by simp) ?_);clear a;intro W a
   |(with_reducible refine db.adL a.out (by kernel_rfl) (by decide) b.out (by simp) ?_);clear a;intro W a
   |(with_reducible refine db.kR a.out (by kernel_rfl) (by decide) b.out (by decide) (by decide) (by simp) ?_);clear a;intro W a
   |refine ag 101 ?_;refine KM a.out.toBox (kdF dx) g_ AD rfl rfl (by kernel_rfl) (by decide) ?_
   |refine ag 80 ?_;refine KM a.out.toBox (kdF aZ) cO Ih rfl rfl (by kernel_rfl) (by decide) ?_
   |refine ag 70 ?_;refine KM a.out.toBox (kdF b9) eW Ij rfl rfl (by kernel_rfl) (by decide) ?_
   |refine ag 72 ?_;refine KM a.out.toBox (kdF aQ) bX Ii rfl rfl (by kernel_rfl) (by decide) ?_
   |(with_reducible refine db.pp a.out p uL (by kernel_rfl) (by decide) b.out ?_);clear a;intro W c a
   |(with_reducible refine db.pp a.out q ln (by kernel_rfl) (by decide) b.out ?_);clear a;intro W c a
   |(with_reducible refine db.pp a.out o pW (by kernel_rfl) (by decide) b.out ?_);clear a;intro W c a
   |(with_reducible refine db.pp a.out n jR (by kernel_rfl) (by decide) b.out ?_);clear a;intro W c a
   |(with_reducible refine db.putK a.out c.out (by simp) ?_);clear c a;intro W a
   |(with_reducible refine db.mI a.out (by simp) ?_);clear a;intro W e i;have l:=e.size
   |refine ao 25 ?_;refine aw rfl rfl 25 4 _ rfl rfl rfl (ax _) rfl rfl (zeroOf prog 25) (aG am).1 (aG am).2 (aA _ _ _) ?_
   |refine ag 25 ?_;refine ab (by rfl) _ (ay _ 25 _ (by rfl) W.heap.size (by rfl) _ _ (0,0) _ (ak W _ 25 W.heap.size rfl) cH rfl (by rw[ah am];simp[ae])) ?_
   |((with_reducible refine al 25 ?_);first|refine aq (w0:=w) (n0:=w.heap.size) 25 _ _ rfl rfl (w.heap.size+1) rfl _ rfl (aA _ _ _) (by rw[ah am];simp[ae]) _ 25 (aR _ _ _ _ i.out) (by rw[bL];simp[ae]) (by omega) (e.alloc l _) (fun r d g _=>?_)|refine aq (w0:=w) (n0:=w.heap.size) 25 _ _ rfl rfl (w.heap.size+1) rfl _ rfl (aA _ _ _) (by rw[ah am];simp[ae]) _ 25 i.out (by rw[bL];simp[ae]) (by omega) e (fun r d g _=>?_)))
  first|exact fF rfl (w.heap.size+1) 0 (ae 32 (fun _=> .u8) _) _ rfl d cH rfl (by rw[ah am,ac]) rfl ⟨rfl,g⟩|exact aI rfl (w.heap.size+1) 0 (ae 32 (fun _=> .u8) _) _ rfl d cH rfl (by rw[ah am,ac]) rfl ⟨rfl,g⟩)
def MK:jN 163 2 (kdF dx) mg:=mm.1 trivial trivial trivial trivial
def Af:jN 186 33 (kdF aZ) eZ:=mm.2.1 trivial trivial trivial trivial
def ML:jN 98 65 (kdF bN) oS:=mm.2.2.1 trivial trivial trivial trivial
def yY:jN 162 177 (kdF bl) dI:=mm.2.2.2.1 trivial trivial trivial trivial
def HO:jN 183 98 (kdF b9) jm:=mm.2.2.2.2.1 trivial trivial trivial trivial
def Ae:jN 105 98 (kdF bk) g9:=mm.2.2.2.2.2.1 MK trivial trivial trivial
def w6:jN 155 194 (kdF aQ) dL:=mm.2.2.2.2.2.2.1 trivial trivial HO trivial
def MM:jN 161 100 (kdF fE) gt:=mm.2.2.2.2.2.2.2.1 trivial Af trivial trivial
def rQ:fK 99 388 (kdF aM) eD:=mm.2.2.2.2.2.2.2.2 trivial trivial trivial w6
def mn:
 (True→True→True→True→iH 115 2 (kdF dx) 16 (dF dx))∧
 (True→True→True→True→iH 168 33 (kdF aZ) 40 (dF aZ))∧
 (True→True→True→True→iH 40 65 (kdF bN) 72 (dF bN))∧
 (True→True→True→True→iH 114 177 (kdF bl) 184 (dF bl))∧
 (True→True→True→True→iH 166 98 (kdF b9) 112 (dF b9))∧
 (iH 115 2 (kdF dx) 16 (dF dx)→True→True→True→iH 46 98 (kdF bk) 112 (dF bk))∧
 (True→True→iH 166 98 (kdF b9) 112 (dF b9)→True→iH 109 194 (kdF aQ) 208 (dF aQ))∧
 (True→iH 168 33 (kdF aZ) 40 (dF aZ)→True→True→iH 113 100 (kdF fE) 128 (dF fE))∧
 (True→True→True→iH 109 194 (kdF aQ) 208 (dF aQ)→iH 41 388 (kdF aM) 416 (dF aM)):=by
 refine⟨?_,?_,?_,?_,?_,?_,?_,?_,?_⟩<;>
 (intro o p n l f w d
  first|go_enter func115,ntmps115|go_enter func168,ntmps168|go_enter func40,ntmps40|go_enter func114,ntmps114|go_enter func166,ntmps166|go_enter func46,ntmps46|go_enter func109,ntmps109|go_enter func113,ntmps113|go_enter func41,ntmps41
  go_wp2_with (first
   |refine fo _ ?_;refine bW rfl _ _ rfl _ rfl ?_
    refine bZ (gw w.heap.size _ _ f _ [] w) (gw.begin (ak _ _ _ _ rfl) rfl) ?_;intro W g;have a:=aa g;clear g
   |refine ag 26 ?_;refine ldU a.out.toBox rfl (by decide) (by rfl) ?_
   |(with_reducible refine gw.In a.out ?_);clear a;intro W b e a
   |refine aV 39 ?_;refine aH rfl fun K i=>d' rfl (i _ _ ?_);clear i K
   |refine dy 39 ?_;refine gw.kA a.out rfl rfl (by kernel_rfl) (by decide) d.out (by decide) ?_;clear a;intro W b e a
   |refine ag 101 ?_;refine KM a.out.toBox (kdF dx) g_ AD rfl rfl (by kernel_rfl) (by decide) ?_
   |refine ag 80 ?_;refine KM a.out.toBox (kdF aZ) cO Ih rfl rfl (by kernel_rfl) (by decide) ?_
   |refine ag 70 ?_;refine KM a.out.toBox (kdF b9) eW Ij rfl rfl (by kernel_rfl) (by decide) ?_
   |refine ag 72 ?_;refine KM a.out.toBox (kdF aQ) bX Ii rfl rfl (by kernel_rfl) (by decide) ?_
   |(with_reducible refine gw.pp a.out o uL (by kernel_rfl) (by decide) d.out ?_);clear a;intro W b e a
   |(with_reducible refine gw.pp a.out p ln (by kernel_rfl) (by decide) d.out ?_);clear a;intro W b e a
   |(with_reducible refine gw.pp a.out n pW (by kernel_rfl) (by decide) d.out ?_);clear a;intro W b e a
   |(with_reducible refine gw.pp a.out l jR (by kernel_rfl) (by decide) d.out ?_);clear a;intro W b e a
   |refine gw.layK a.out (by rfl) (by simp[iI,aX,az,ez];rfl) (by rfl) rfl (by decide) (by decide) (by simp[iI,aX,az,ez]<;>rfl) (by decide) ?_;clear a;intro W j c k m q)
  refine bR rfl _ _ rfl rfl rfl ⟨⟨j,c,rfl,k,?_⟩,q⟩;have h:=m.out;simp only[iI,kN,qC,Av,List.flatten_cons,List.flatten_nil,List.cons_append,List.nil_append]at h
  try simp only[ON]at h ⊢
  simp only[dF,encA,dx,aZ,bN,bl,b9,bk,aQ,fE,aM,fZ,List.nil_append,dA,Nat.reduceAdd]at h ⊢
  exact h)
def MN:iH 115 2 (kdF dx) 16 (dF dx):=mn.1 trivial trivial trivial trivial
def Ah:iH 168 33 (kdF aZ) 40 (dF aZ):=mn.2.1 trivial trivial trivial trivial
def MO:iH 40 65 (kdF bN) 72 (dF bN):=mn.2.2.1 trivial trivial trivial trivial
def yZ:iH 114 177 (kdF bl) 184 (dF bl):=mn.2.2.2.1 trivial trivial trivial trivial
def HP:iH 166 98 (kdF b9) 112 (dF b9):=mn.2.2.2.2.1 trivial trivial trivial trivial
def Ag:iH 46 98 (kdF bk) 112 (dF bk):=mn.2.2.2.2.2.1 MN trivial trivial trivial
def w7:iH 109 194 (kdF aQ) 208 (dF aQ):=mn.2.2.2.2.2.2.1 trivial trivial HP trivial
def MP:iH 113 100 (kdF fE) 128 (dF fE):=mn.2.2.2.2.2.2.2.1 trivial Ah trivial trivial
def rR:iH 41 388 (kdF aM) 416 (dF aM):=mn.2.2.2.2.2.2.2.2 trivial trivial trivial w7
def kF:
 (True→True→True→True→fK 127 2 (kdF dx) mg)∧
 (True→True→True→True→fK 174 33 (kdF aZ) eZ)∧
 (True→True→True→True→fK 51 65 (kdF bN) oS)∧
 (True→True→True→True→fK 126 177 (kdF bl) dI)∧
 (True→True→True→True→fK 172 98 (kdF b9) jm)∧
 (fK 127 2 (kdF dx) mg→True→True→True→fK 57 98 (kdF bk) g9)∧
 (True→True→fK 172 98 (kdF b9) jm→True→fK 121 194 (kdF aQ) dL)∧
 (True→fK 174 33 (kdF aZ) eZ→True→True→fK 125 100 (kdF fE) gt)∧
 (True→True→True→fK 121 194 (kdF aQ) dL→fK 52 388 (kdF aM) eD):=by
 refine⟨?_,?_,?_,?_,?_,?_,?_,?_,?_⟩<;>
 (intro o p n l f w d g
  first|go_enter func127,ntmps127|go_enter func174,ntmps174|go_enter func51,ntmps51|go_enter func126,ntmps126|go_enter func172,ntmps172|go_enter func57,ntmps57|go_enter func121,ntmps121|go_enter func125,ntmps125|go_enter func52,ntmps52
  go_wp2_with (first
   |refine ao 25 ?_;refine fX 2 cg ?_
   |refine ao 163 ?_;refine aH rfl fun K c=>bT 163 rfl _ rfl (rep 64) 64 (by kernel_rfl) (c _ _ ?_);clear c K
    refine bZ (dP w.heap.size _ _ f _ _ 2 [] w) (dP.begin (ak _ _ _ _ rfl) rfl g.out (by simp) (iM _)) ?_;intro W b;have a:=aa b;clear b
   |refine ao 182 ?_;refine aH rfl fun K c=>bT 182 rfl _ rfl (rep 96) 96 (by kernel_rfl) (c _ _ ?_);clear c K
    refine bZ (dP w.heap.size _ _ f _ _ 3 [] w) (dP.begin (ak _ _ _ _ rfl) rfl g.out (by simp) (iM _)) ?_;intro W b;have a:=aa b;clear b
   |refine ao 231 ?_;refine aH rfl fun K c=>bT 231 rfl _ rfl (rep 128) 128 (by kernel_rfl) (c _ _ ?_);clear c K
    refine bZ (dP w.heap.size _ _ f _ _ 4 [] w) (dP.begin (ak _ _ _ _ rfl) rfl g.out (by simp) (iM _)) ?_;intro W b;have a:=aa b;clear b
   |refine ao 158 ?_;refine aH rfl fun K c=>bT 158 rfl _ rfl (rep 160) 160 (by kernel_rfl) (c _ _ ?_);clear c K
    refine bZ (dP w.heap.size _ _ f _ _ 5 [] w) (dP.begin (ak _ _ _ _ rfl) rfl g.out (by simp) (iM _)) ?_;intro W b;have a:=aa b;clear b
   |refine ag 26 ?_;refine ldU a.out.toBox rfl (by decide) (by rfl) ?_
   |refine ag 25 ?_;refine ldR a.out.toBox rfl (by kernel_rfl) (by decide) ?_
   |(with_reducible refine dP.In a.out ?_);clear a;intro W k r hl a
   |(with_reducible refine dP.LS a.out hl.out (aX _) (by decide) (by decide) ?_);clear hl a;intro W a
   |((with_reducible refine al 25 ?_);refine ZC a.out rfl rfl (by rfl) (by simp) (by with_reducible first|exact e.out|exact QM|exact rv d.out (da (by kernel_rfl)) (by decide)|exact jg (eM (gr d.out (da (by kernel_rfl)) (by decide)))) ?_;clear a;intro W a)
   |(with_reducible refine dP.NV a.out rfl (by kernel_rfl) (by decide) d.out (by omega) ?_);clear a;intro W k r h a
   |(with_reducible refine dP.Fp a.out h.out (by omega) (by omega) (by omega) ?_);clear h a;intro W a
   |refine ag 101 ?_;refine KM a.out.toBox (kdF dx) g_ AD rfl rfl (by kernel_rfl) (by decide) ?_
   |refine ag 80 ?_;refine KM a.out.toBox (kdF aZ) cO Ih rfl rfl (by kernel_rfl) (by decide) ?_
   |refine ag 70 ?_;refine KM a.out.toBox (kdF b9) eW Ij rfl rfl (by kernel_rfl) (by decide) ?_
   |refine ag 72 ?_;refine KM a.out.toBox (kdF aQ) bX Ii rfl rfl (by kernel_rfl) (by decide) ?_
   |(with_reducible refine dP.pp a.out o uL (by kernel_rfl) (by decide) d.out ?_);clear a;intro W e a
   |(with_reducible refine dP.pp a.out p ln (by kernel_rfl) (by decide) d.out ?_);clear a;intro W e a
   |(with_reducible refine dP.pp a.out n pW (by kernel_rfl) (by decide) d.out ?_);clear a;intro W e a
   |(with_reducible refine dP.pp a.out l jR (by kernel_rfl) (by decide) d.out ?_);clear a;intro W e a
   |(with_reducible refine dP.I3 a.out (by omega) (by simp) (by omega) ?_);clear a;intro W q m
   |refine al 25 ?_;refine aq (w0:=w) (n0:=w.heap.size) 25 _ _ rfl rfl (w.heap.size+1) rfl _ rfl (aA _ _ _) (by rw[ah am];simp[ae]) _ 25 m.out (by rw[bL];simp[ae]) (by omega) q (fun v i j _=>?_))
  first|exact fF rfl (w.heap.size+1) 0 (ae 32 (fun _=> .u8) _) _ rfl i cH rfl (by rw[ah am,ac]) rfl ⟨rfl,j⟩|exact aI rfl (w.heap.size+1) 0 (ae 32 (fun _=> .u8) _) _ rfl i cH rfl (by rw[ah am,ac]) rfl ⟨rfl,j⟩)
def Ky:fK 127 2 (kdF dx) mg:=kF.1 trivial trivial trivial trivial
def yV:fK 174 33 (kdF aZ) eZ:=kF.2.1 trivial trivial trivial trivial
def Kz:fK 51 65 (kdF bN) oS:=kF.2.2.1 trivial trivial trivial trivial
def wY:fK 126 177 (kdF bl) dI:=kF.2.2.2.1 trivial trivial trivial trivial
def EQ:fK 172 98 (kdF b9) jm:=kF.2.2.2.2.1 trivial trivial trivial trivial
def yU:fK 57 98 (kdF bk) g9:=kF.2.2.2.2.2.1 Ky trivial trivial trivial
def vg:fK 121 194 (kdF aQ) dL:=kF.2.2.2.2.2.2.1 trivial trivial EQ trivial
def KA:fK 125 100 (kdF fE) gt:=kF.2.2.2.2.2.2.2.1 trivial yV trivial trivial
def q9:fK 52 388 (kdF aM) eD:=kF.2.2.2.2.2.2.2.2 trivial trivial trivial vg
def eq (f N:Nat) (fd:rg) (S:Nat):Prop:=∀l va c w,Hid (cG va c l w)→Hid (l.length=S)→Calls prog f #[.slice va S c] w fun e b=>e= .returned (.tuple #[.agg (ae N (kdF fd) (rdF fd l)).toArray,.int .i64 0])∧Below w.heap.size w b
def CR {P o a K Q w f args} (he:(execOp a.eval o).run P w= .ok (.enter f args) w) (g:Calls P f args w fun e b=>∃v,e= .returned v∧K (a.put o.dst v) b):o.wp P a w K Q:=by unfold Oper.wp;rw[he];simp only[Oper.upon];exact g.mono fun e b ⟨v,i,h⟩=>by subst i;exact h
def oh {P:Program} {o:Oper} {a:Act} {K:Act→World→Prop} {Q:Exit→Act→World→Prop} {w:World} (ty:TypeId) (e:o.op= .alloc ty) {d:Tmp} (f:o.dst=some d) (_:Nat.ble d 4=true) {z:Array Value} {n:Nat} (b:(P.info? ty).map (fun i=>(i.zero,i.size))=some (some (.agg z),n))
 (h:K (a.put (some d) (.pointer (some ⟨w.heap.size,0,none⟩))) (w.alloc (.cells z ty))):o.wp P a w K Q:=bT ty e d f z n b h
def RP:rg→Nat→Nat→Bool
 |[],_,_=>false
 |none::_,0,_=>false
 |none::r,m+1,n=>RP r m n
 |some k::r,m,n=>if m=0 then k==n else decide (k≤m)&&RP r (m-k) n
structure Rg (n N:Nat) (fd:rg) (t:TypeId) (l:List Int) (va:Option Addr) (c p m:Nat) (w W:World):Prop extends RdS n N (kdF fd) t l va c p 0 m (rdF fd l) w W where
 hl:l.length=sF fd
section
variable {n N:Nat} {fd:rg} {t:TypeId} {l:List Int} {va:Option Addr} {c p m:Nat} {w W:World} {Q:Ending→World→Prop}
theorem cG.adU {va c l W} (h:cG va c l W) (e:0<l.length):∀b o,va=some ⟨b,o,none⟩→b<W.heap.size:=h.low
theorem Rg.later {W'} (h:Rg n N fd t l va c p m w W) (b:Below W.heap.size W W'):Rg n N fd t l va c p m w W':=⟨h.toRdS.later b,h.hl⟩
theorem Rg.drew (h:Rg n N fd t l va c p m w W):Rg n N fd t l va c p m w {W with drawn:=W.drawn+1}:=⟨h.toRdS.drew _,h.hl⟩
theorem Rg.takes {L} {i:Region.Mode} {o a} (_:Rg n N fd t l va c p m w W) (b) (_:RP fd m b=true) {e g k f j q} (s:[nth L 0,nth L 1,nth L 2]=[some e,some g,some k]) (z:(eG i L j a 0 e&&eG i L (j.setIfInBounds 0 true) (a.put e.dst (.pointer (some ⟨n+1,m,none⟩))) 1 g&&eG i L ((j.setIfInBounds 0 true).setIfInBounds 1 true) ((a.put e.dst (.pointer (some ⟨n+1,m,none⟩))).put g.dst (.slice (some ⟨n+1,m,none⟩) b b)) 2 k)=true) (r:∀w,[gives prog a e w,gives prog (a.put e.dst (.pointer (some ⟨n+1,m,none⟩))) g w,gives prog ((a.put e.dst (.pointer (some ⟨n+1,m,none⟩))).put g.dst (.slice (some ⟨n+1,m,none⟩) b b)) k w]=[BB w (.pointer (some ⟨n+1,m,none⟩)),BB w (.slice (some ⟨n+1,m,none⟩) b b),BB w (.pointer (some ⟨n+1+1,0,none⟩))]) (u:∀c a d v w,o (.panic c) (Act.put a (some d) v) w→o (.panic c) a w) (h:wpAnyH prog i L.toArray o (fun _=>True) f (((j.setIfInBounds 0 true).setIfInBounds 1 true).setIfInBounds 2 true) (((a.put e.dst (.pointer (some ⟨n+1,m,none⟩))).put g.dst (.slice (some ⟨n+1,m,none⟩) b b)).put k.dst (.pointer (some ⟨n+1+1,0,none⟩))) q):wpAnyH prog i L.toArray o (fun _=>True) (f+3) j a q:=gY 0 1 2 _ _ _ s z r u trivial h
theorem Rg.X3 {Z S x} (hZ:Z=(ae N (kdF fd) fun _=>0).toArray) (hs:cG va c l w) (b:l.length=S) (g:sF fd=S) (f:x=(S:Int)) (j:0<S∧S≤1000000) (k:∀e,Hid (Rg w.heap.size N fd t l va c 0 0 w e)→Q (.returned (.pointer (some ⟨w.heap.size+1+1,0,none⟩))) e):
 Calls prog 59 #[.slice va S c,.int .i64 x,.int .i64 0] ((w.alloc (.cells Z t)).alloc (.cells Z t)) Q:=
 (RdS.open (r:=rdF fd l) hZ S S x f b (err:=0) (aj rfl) j.2 hs.row hs.cap hs.nil (hs.adU (by omega)) (by omega)).mono fun _ _ ⟨i,h⟩=>by rw[i];exact k _ ⟨h,by rw[b,g]⟩
theorem Rg.Bk (h:Rg n N fd t l va c p m w W) (e:p+8≤sF fd) (k:∀b v,Hid (v=p9 ((l.drop p).take 8))→Hid (Rg n N fd t l va c (p+8) m w b)→Q (.returned (.int .u64 v)) b):
 Calls prog 88 #[.pointer (some ⟨n+1+1,0,none⟩)] W Q:=(h.toRdS.u64 fun _=>by rw[h.hl];exact e).mono fun _ _ ⟨v,i,g,f⟩=>by rw[i];exact k _ v (g rfl) ⟨f,h.hl⟩
theorem Rg.kR (h:Rg n N fd t l va c p m w W) {len:Nat} {x:Int} (r:x=(len:Int)) (f:0<len∧len≤100000) (s:p+len≤sF fd) (k:∀i b o g u,Hid (u=(l.drop p).take len)→Hid (cG (some ⟨b,o,none⟩) g u i∧u.length=len)→Hid (Rg n N fd t l va c (p+len) m w i)→Q (.returned (.slice (some ⟨b,o,none⟩) len g)) i):
 Calls prog 61 #[.pointer (some ⟨n+1+1,0,none⟩),.int .i64 x] W Q:=
 (h.toRdS.kh len x r f.1 f.2 fun _=>by rw[h.hl];exact s).mono fun _ _ ⟨b,o,g,q,f,C,B,A,j,z,v⟩=>by rw[f];exact k _ b o g q (z rfl) ⟨⟨A,(fun e=>by cases e),by rw[j];exact C,fun E D e=>by cases e;exact B⟩,j⟩ ⟨v,h.hl⟩
theorem Rg.js (h:Rg n N fd t l va c p m w W) {j r g e} (s:eq j r e g) {q b f} (i:cG b f q W∧q.length=g) (k:∀o,Hid (Rg n N fd t l va c p m w o)→Q (.returned (.tuple #[.agg (ae r (kdF e) (rdF e q)).toArray,.int .i64 0])) o):Calls prog j #[.slice b g f] W Q:=(s q b f W i.1 i.2).mono fun _ _ ⟨v,u⟩=>by rw[v];exact k _ (h.later u)
theorem Rg.tr (h:Rg n N fd t l va c p m w W) (k:∀b,Hid (Rg n N fd t l va c p m w b)→Q (.returned (.tuple #[])) b):Calls prog 63 #[.pointer (some ⟨n+1+1,0,none⟩),.int .i64 0] W Q:=h.toRdS.Yg.mono fun _ _ ⟨f,e⟩=>by rw[f];exact k _ ⟨e,h.hl⟩
variable {ops:Array Oper} {Qx:Exit→Act→World→Prop} {rest:List Oper} {a:Act} {d:Option Tmp} {ty:TypeId} {pos:String} {af:Array Edge} {x y:Operand}
theorem Rg.Vt (h:Rg n N fd t l va c p m w W) {q b v} (i:a.eval x= .pointer (some ⟨n+1,b,none⟩)) (g:a.eval y= .int .u64 v) (j:v=p9 ((l.drop q).take 8)) (o:m=b) (r:b<N) (s:subB [none] fd b q=true) (k:∀e,Hid (Rg n N fd t l va c p (b+1) w e)→wpList prog ops Qx rest (a.put d undef) e):wpList prog ops Qx (⟨d,.store 26 x y,ty,pos,af,none⟩::rest) a W:=by have f:=uv fd l b q s 0 (by decide);rw[Nat.add_zero]at f;refine LW rfl 26 _ _ rfl b i _ g v (by rw[f.1];rfl) rq h.toRdS o r (fun _=>?_) fun e u=>k e ⟨u,h.hl⟩;rw[f.2,j];show _=p9 (((l.drop q).take 8).take 8);rw[Fb,NE]
theorem Rg.go (h:Rg n N fd t l va c p m w W) {v:Obj} {r f q b s e u} (A:a.eval x= .pointer (some ⟨n+1,b,none⟩)) (z:a.eval y= .agg (ae f (kdF e) (rdF e u)).toArray) (B:u=(l.drop q).take s) (C:rowB prog r f=true) (D:m=b) (G:b+f≤N) (F:cF e=f) (E:sF e=s) (H:subB e fd b q=true) (k:∀g,Hid (Rg n N fd t l va c p (b+f) w g)→wpList prog ops Qx rest (a.put d undef) g):wpList prog ops Qx (⟨d,.store r x y,ty,pos,af,none⟩::rest) a (W.alloc v):=by have o:=uv fd l b q H;rw[F,E,←B]at o;exact vY rfl r _ _ rfl b f A (kdF e) _ z (ah C) (h.toRdS.later dt) D (fun j i=>(o j i).1) G (fun _ j i=>(o j i).2.symm) fun g I=>k g ⟨I,h.hl⟩
theorem Rg.X7 (h:Rg n N fd t l va c p m w W) (b:a.eval x= .pointer (some ⟨n+1+1,4,none⟩)) (k:wpList prog ops Qx rest (a.put d (.int .i64 0)) W):wpList prog ops Qx (⟨d,.load 41 x,ty,pos,af,none⟩::rest) a W:=ab rfl _ (au _ 41 _ rfl ⟨n+1+1,4,none⟩ b (.int .i64 0) h.dS _ fU rfl) k
theorem Rg.aea {o:Oper} {K:Act→World→Prop} (d s:Operand) (C:o.op= .call {callee:= .builtin .copy,args:=#[d,s],argTypes:=#[39,39]}) {f e b r k A q:Nat} (F:a.eval d= .slice (some ⟨n+1,f,none⟩) e A) (hs:a.eval s= .slice (some ⟨b,r,none⟩) e k)
 (h:Rg n N fd t l va c p m w W) {u:List Int} (B:u=(l.drop q).take e) (v:cG (some ⟨b,r,none⟩) k u W∧u.length=e) (D:m=f) (G:f+e≤N) (H:fdB fd f q e=true)
 (E:∀i,Hid (Rg n N fd t l va c p (f+e) w i)→K (a.put o.dst (goInt e)) i):o.wp prog a W K Qx:=by
 have z:=rx fd l f q H;exact wH d s C f e b r k A F hs h.toRdS _ v.1.row v.2 D (fun j g=>(z j g).1) G (fun _ j g=>by rw[B,bA _ _ _ _ g];exact(z j g).2.symm) fun i I=>E i ⟨I,h.hl⟩
end
def JE:(prog.info? 101).map (fun i=>(i.zero,i.size))=some (some (.agg (ae 2 (kdF dx) fun _=>0).toArray),2):=by kernel_rfl
def un:(prog.info? 80).map (fun i=>(i.zero,i.size))=some (some (.agg (ae 33 (kdF aZ) fun _=>0).toArray),33):=by kernel_rfl
def JF:(prog.info? 28).map (fun i=>(i.zero,i.size))=some (some (.agg (ae 65 (kdF bN) fun _=>0).toArray),65):=by kernel_rfl
def sq:(prog.info? 96).map (fun i=>(i.zero,i.size))=some (some (.agg (ae 177 (kdF bl) fun _=>0).toArray),177):=by kernel_rfl
def DO:(prog.info? 70).map (fun i=>(i.zero,i.size))=some (some (.agg (ae 98 (kdF b9) fun _=>0).toArray),98):=by kernel_rfl
def um:(prog.info? 103).map (fun i=>(i.zero,i.size))=some (some (.agg (ae 98 (kdF bk) fun _=>0).toArray),98):=by kernel_rfl
def q8:(prog.info? 72).map (fun i=>(i.zero,i.size))=some (some (.agg (ae 194 (kdF aQ) fun _=>0).toArray),194):=by kernel_rfl
def JG:(prog.info? 82).map (fun i=>(i.zero,i.size))=some (some (.agg (ae 100 (kdF fE) fun _=>0).toArray),100):=by kernel_rfl
def nA:(prog.info? 74).map (fun i=>(i.zero,i.size))=some (some (.agg (ae 388 (kdF aM) fun _=>0).toArray),388):=by kernel_rfl
def mo:
 (True→True→True→True→eq 137 2 dx 16)∧
 (True→True→True→True→eq 179 33 aZ 40)∧
 (True→True→True→True→eq 62 65 bN 72)∧
 (True→True→True→True→eq 136 177 bl 184)∧
 (True→True→True→True→eq 176 98 b9 112)∧
 (eq 137 2 dx 16→True→True→True→eq 71 98 bk 112)∧
 (True→True→eq 176 98 b9 112→True→eq 130 194 aQ 208)∧
 (True→eq 179 33 aZ 40→True→True→eq 135 100 fE 128)∧
 (True→True→True→eq 130 194 aQ 208→eq 66 388 aM 416):=by
 refine⟨?_,?_,?_,?_,?_,?_,?_,?_,?_⟩<;>
 (intro s v r q l D c w hs o
  first
   |go_enter func137,ntmps137
    have hI:=aa JE;have g:=aa g_;have h:=aa AD
   |go_enter func179,ntmps179
    have hI:=aa un;have g:=aa cO;have h:=aa Ih
   |go_enter func62,ntmps62
    have hI:=aa JF;have g:=aa mf;have h:=aa Lj
   |go_enter func136,ntmps136
    have hI:=aa sq;have g:=aa eA;have h:=aa Lh
   |go_enter func176,ntmps176
    have hI:=aa DO;have g:=aa eW;have h:=aa Ij
   |go_enter func71,ntmps71
    have hI:=aa um;have g:=aa qj;have h:=aa underlying103
   |go_enter func130,ntmps130
    have hI:=aa q8;have g:=aa bX;have h:=aa Ii
   |go_enter func135,ntmps135
    have hI:=aa JG;have g:=aa gl;have h:=aa Bi
   |go_enter func66,ntmps66
    have hI:=aa nA;have g:=aa kS;have h:=aa underlying74
  go_wp2_with (first
   |(with_reducible refine Rg.X3 rfl hs.out o.out ?_ rfl (by decide) ?_);rfl;intro W a
   |(with_reducible refine Rg.Bk a.out (by decide) ?_);clear a;intro W A k a
   |refine al 26 ?_;refine Rg.Vt a.out rfl rfl k.out rfl (by decide) (by decide) ?_;clear a k;intro W a
   |refine ag 41 ?_;refine Rg.X7 a.out rfl ?_
   |(with_reducible refine Rg.kR a.out rfl (by decide) (by decide) ?_);clear a;intro W b m n u d e a
   |(with_reducible refine Rg.js a.out s e.out ?_);clear a e;intro W a
   |refine ao 101 ?_;refine aw rfl rfl 101 _ _ rfl rfl rfl (ae 2 (kdF dx) _).toArray rfl rfl (zeroOf prog 101) (aG g_).1 (aG g_).2 (aA _ _ _) ?_
   |refine ag 101 ?_;refine ab (by rfl) _ (ay _ 101 _ (by rfl) W.heap.size (by rfl) _ _ (0,0) _ (ak W (ae 2 (kdF dx) _).toArray 101 W.heap.size rfl) AD rfl (by rw[ah g_];simp[ae])) ?_
   |refine al 101 ?_;refine aF 101 (w.heap.size+1) _ rfl ?_;refine Rg.go a.out rfl rfl d.out g_ rfl (by decide) rfl rfl (by decide) ?_;clear a d;intro W a
   |(with_reducible refine Rg.js a.out v e.out ?_);clear a e;intro W a
   |refine ao 80 ?_;refine aw rfl rfl 80 _ _ rfl rfl rfl (ae 33 (kdF aZ) _).toArray rfl rfl (zeroOf prog 80) (aG cO).1 (aG cO).2 (aA _ _ _) ?_
   |refine ag 80 ?_;refine ab (by rfl) _ (ay _ 80 _ (by rfl) W.heap.size (by rfl) _ _ (0,0) _ (ak W (ae 33 (kdF aZ) _).toArray 80 W.heap.size rfl) Ih rfl (by rw[ah cO];simp[ae])) ?_
   |refine al 80 ?_;refine aF 80 (w.heap.size+1) _ rfl ?_;refine Rg.go a.out rfl rfl d.out cO rfl (by decide) rfl rfl (by decide) ?_;clear a d;intro W a
   |(with_reducible refine Rg.js a.out r e.out ?_);clear a e;intro W a
   |refine ao 70 ?_;refine aw rfl rfl 70 _ _ rfl rfl rfl (ae 98 (kdF b9) _).toArray rfl rfl (zeroOf prog 70) (aG eW).1 (aG eW).2 (aA _ _ _) ?_
   |refine ag 70 ?_;refine ab (by rfl) _ (ay _ 70 _ (by rfl) W.heap.size (by rfl) _ _ (0,0) _ (ak W (ae 98 (kdF b9) _).toArray 70 W.heap.size rfl) Ij rfl (by rw[ah eW];simp[ae])) ?_
   |refine al 70 ?_;refine aF 70 (w.heap.size+1) _ rfl ?_;refine Rg.go a.out rfl rfl d.out eW rfl (by decide) rfl rfl (by decide) ?_;clear a d;intro W a
   |(with_reducible refine Rg.js a.out q e.out ?_);clear a e;intro W a
   |refine ao 72 ?_;refine aw rfl rfl 72 _ _ rfl rfl rfl (ae 194 (kdF aQ) _).toArray rfl rfl (zeroOf prog 72) (aG bX).1 (aG bX).2 (aA _ _ _) ?_
   |refine ag 72 ?_;refine ab (by rfl) _ (ay _ 72 _ (by rfl) W.heap.size (by rfl) _ _ (0,0) _ (ak W (ae 194 (kdF aQ) _).toArray 72 W.heap.size rfl) Ii rfl (by rw[ah bX];simp[ae])) ?_
   |refine al 72 ?_;refine aF 72 (w.heap.size+1) _ rfl ?_;refine Rg.go a.out rfl rfl d.out bX rfl (by decide) rfl rfl (by decide) ?_;clear a d;intro W a
   |(with_reducible refine Rg.tr a.out ?_);clear a;intro W a
   |refine ag _ ?_;refine ab (by rfl) _ (ay _ _ _ (by rfl) (w.heap.size+1) (by rfl) _ _ (0,0) _ a.out.res h.out rfl (by rw[ah g.out];simp[ae])) ?_
   |refine al _ ?_;refine aF _ w.heap.size 0 rfl ?_;refine aq (w0:=w) (n0:=w.heap.size) _ _ _ rfl rfl w.heap.size rfl _ rfl (aA _ _ _) (by rw[ah g.out];simp[ae]) _ _ a.out.hR (by simp[ae]) (by omega) a.out.hB (fun C p y _=>?_)
   |refine ao _ ?_;refine aH rfl fun K j=>oh _ rfl rfl rfl hI.out (j _ _ ?_);clear j K)
  repeat (
   rename_i K j;refine dQ (S:=fun _=>True) (by kernel_rfl) ?_
   first
    |refine Rg.takes a.out 32 (by decide) rfl (by kernel_rfl) (fun _=>by kernel_rfl) bH ?_;go_frame;refine cQ (i:=3) rfl (by kernel_rfl) rfl (CR (f:=61) (args:=#[.pointer (some ⟨w.heap.size+1+1,0,none⟩),.int .i64 32]) (by go_simp) (Rg.kR a.out.drew (len:=32) rfl (by decide) (by decide) (fun W b m n u d e a=>⟨_,rfl,trivial,?_⟩)))
    |refine Rg.takes a.out 48 (by decide) rfl (by kernel_rfl) (fun _=>by kernel_rfl) bH ?_;go_frame;refine cQ (i:=3) rfl (by kernel_rfl) rfl (CR (f:=61) (args:=#[.pointer (some ⟨w.heap.size+1+1,0,none⟩),.int .i64 48]) (by go_simp) (Rg.kR a.out.drew (len:=48) rfl (by decide) (by decide) (fun W b m n u d e a=>⟨_,rfl,trivial,?_⟩)))
    |refine Rg.takes a.out 96 (by decide) rfl (by kernel_rfl) (fun _=>by kernel_rfl) bH ?_;go_frame;refine cQ (i:=3) rfl (by kernel_rfl) rfl (CR (f:=61) (args:=#[.pointer (some ⟨w.heap.size+1+1,0,none⟩),.int .i64 96]) (by go_simp) (Rg.kR a.out.drew (len:=96) rfl (by decide) (by decide) (fun W b m n u d e a=>⟨_,rfl,trivial,?_⟩)))
   go_frame;refine cQ (i:=4) rfl (by kernel_rfl) rfl (Rg.aea _ _ rfl rfl rfl a.out d.out e.out rfl (by decide) (by decide) (fun W a=>⟨trivial,?_⟩));refine dM (by kernel_rfl) ?_ _;refine j _ _ ?_;generalize goInt _=E;clear j K e d;go_frame
   go_wp2_with (first
    |(with_reducible refine Rg.X3 rfl hs.out o.out ?_ rfl (by decide) ?_);rfl;intro W a
    |(with_reducible refine Rg.Bk a.out (by decide) ?_);clear a;intro W A k a
    |refine al 26 ?_;refine Rg.Vt a.out rfl rfl k.out rfl (by decide) (by decide) ?_;clear a k;intro W a
    |refine ag 41 ?_;refine Rg.X7 a.out rfl ?_
    |(with_reducible refine Rg.kR a.out rfl (by decide) (by decide) ?_);clear a;intro W b m n u d e a
    |(with_reducible refine Rg.js a.out s e.out ?_);clear a e;intro W a
    |refine ao 101 ?_;refine aw rfl rfl 101 _ _ rfl rfl rfl (ae 2 (kdF dx) _).toArray rfl rfl (zeroOf prog 101) (aG g_).1 (aG g_).2 (aA _ _ _) ?_
    |refine ag 101 ?_;refine ab (by rfl) _ (ay _ 101 _ (by rfl) W.heap.size (by rfl) _ _ (0,0) _ (ak W (ae 2 (kdF dx) _).toArray 101 W.heap.size rfl) AD rfl (by rw[ah g_];simp[ae])) ?_
    |refine al 101 ?_;refine aF 101 (w.heap.size+1) _ rfl ?_;refine Rg.go a.out rfl rfl d.out g_ rfl (by decide) rfl rfl (by decide) ?_;clear a d;intro W a
    |(with_reducible refine Rg.js a.out v e.out ?_);clear a e;intro W a
    |refine ao 80 ?_;refine aw rfl rfl 80 _ _ rfl rfl rfl (ae 33 (kdF aZ) _).toArray rfl rfl (zeroOf prog 80) (aG cO).1 (aG cO).2 (aA _ _ _) ?_
    |refine ag 80 ?_;refine ab (by rfl) _ (ay _ 80 _ (by rfl) W.heap.size (by rfl) _ _ (0,0) _ (ak W (ae 33 (kdF aZ) _).toArray 80 W.heap.size rfl) Ih rfl (by rw[ah cO];simp[ae])) ?_
    |refine al 80 ?_;refine aF 80 (w.heap.size+1) _ rfl ?_;refine Rg.go a.out rfl rfl d.out cO rfl (by decide) rfl rfl (by decide) ?_;clear a d;intro W a
    |(with_reducible refine Rg.js a.out r e.out ?_);clear a e;intro W a
    |refine ao 70 ?_;refine aw rfl rfl 70 _ _ rfl rfl rfl (ae 98 (kdF b9) _).toArray rfl rfl (zeroOf prog 70) (aG eW).1 (aG eW).2 (aA _ _ _) ?_
    |refine ag 70 ?_;refine ab (by rfl) _ (ay _ 70 _ (by rfl) W.heap.size (by rfl) _ _ (0,0) _ (ak W (ae 98 (kdF b9) _).toArray 70 W.heap.size rfl) Ij rfl (by rw[ah eW];simp[ae])) ?_
    |refine al 70 ?_;refine aF 70 (w.heap.size+1) _ rfl ?_;refine Rg.go a.out rfl rfl d.out eW rfl (by decide) rfl rfl (by decide) ?_;clear a d;intro W a
    |(with_reducible refine Rg.js a.out q e.out ?_);clear a e;intro W a
    |refine ao 72 ?_;refine aw rfl rfl 72 _ _ rfl rfl rfl (ae 194 (kdF aQ) _).toArray rfl rfl (zeroOf prog 72) (aG bX).1 (aG bX).2 (aA _ _ _) ?_
    |refine ag 72 ?_;refine ab (by rfl) _ (ay _ 72 _ (by rfl) W.heap.size (by rfl) _ _ (0,0) _ (ak W (ae 194 (kdF aQ) _).toArray 72 W.heap.size rfl) Ii rfl (by rw[ah bX];simp[ae])) ?_
    |refine al 72 ?_;refine aF 72 (w.heap.size+1) _ rfl ?_;refine Rg.go a.out rfl rfl d.out bX rfl (by decide) rfl rfl (by decide) ?_;clear a d;intro W a
    |(with_reducible refine Rg.tr a.out ?_);clear a;intro W a
    |refine ag _ ?_;refine ab (by rfl) _ (ay _ _ _ (by rfl) (w.heap.size+1) (by rfl) _ _ (0,0) _ a.out.res h.out rfl (by rw[ah g.out];simp[ae])) ?_
    |refine al _ ?_;refine aF _ w.heap.size 0 rfl ?_;refine aq (w0:=w) (n0:=w.heap.size) _ _ _ rfl rfl w.heap.size rfl _ rfl (aA _ _ _) (by rw[ah g.out];simp[ae]) _ _ a.out.hR (by simp[ae]) (by omega) a.out.hB (fun C p y _=>?_)
    |refine ao _ ?_;refine aH rfl fun K j=>oh _ rfl rfl rfl hI.out (j _ _ ?_);clear j K))
  exact aI rfl w.heap.size 0 (ae _ (kdF _) (rdF _ l)) _ rfl p h.out rfl (by rw[ah g.out,ac]) rfl ⟨rfl,y⟩)
def MQ:eq 137 2 dx 16:=mo.1 trivial trivial trivial trivial
def Aj:eq 179 33 aZ 40:=mo.2.1 trivial trivial trivial trivial
def MR:eq 62 65 bN 72:=mo.2.2.1 trivial trivial trivial trivial
def y8:eq 136 177 bl 184:=mo.2.2.2.1 trivial trivial trivial trivial
def HQ:eq 176 98 b9 112:=mo.2.2.2.2.1 trivial trivial trivial trivial
def Ai:eq 71 98 bk 112:=mo.2.2.2.2.2.1 MQ trivial trivial trivial
def w8:eq 130 194 aQ 208:=mo.2.2.2.2.2.2.1 trivial trivial HQ trivial
def MS:eq 135 100 fE 128:=mo.2.2.2.2.2.2.2.1 trivial Aj trivial trivial
def rS:eq 66 388 aM 416:=mo.2.2.2.2.2.2.2.2 trivial trivial trivial w8
structure Rq (n N:Nat) (fd:rg) (t:TypeId) (l:List Int) (zs:List Nat) (gp cp i p m:Nat) (w W:World):Prop extends RqS n N (kdF fd) t m (rdF fd l) gp cp (cutL zs l) w W where
 hl:l.length=sF fd
 hz:∀z∈zs,z≠0
 hp:headN (zs.take i)=p
def zS (a z) (b:z≠0):headN (a++[z])=headN a+z:=by rw[rL,headN,an b,headN,Nat.add_zero]
section
variable {n N:Nat} {fd:rg} {t:TypeId} {l:List Int} {zs:List Nat} {gp cp i p m:Nat} {w W:World} {Q:Ending→World→Prop}
theorem Rq.later {W'} (h:Rq n N fd t l zs gp cp i p m w W) (b:Below W.heap.size W W'):Rq n N fd t l zs gp cp i p m w W':=⟨h.toRqS.later b,h.hl,h.hz,h.hp⟩
theorem Rq.VT (h:Rq n N fd t l zs gp cp i p m w W):∃F:Nat→World→Prop,F 0 W∧∀j b,F j b↔Rq n N fd t l zs gp cp i p (m+j) w b:=⟨_,h,fun _ _=>xI⟩
theorem Rq.len (_:Rq n N fd t l zs gp cp i p m w W) (b) (h:RP fd m b=true):RP fd m b=true:=h
theorem Rq.next {b} (h:Rq n N fd t l zs gp cp i p (m+b) w W) (c:zs[i]?=some b):Rq n N fd t l zs gp cp (i+1) (p+b) (m+b) w W:=by refine⟨h.toRqS,h.hl,h.hz,?_⟩;have e:=h.hz b (rY c);rw[s6,c,Option.toList_some,zS _ _ e,h.hp]
theorem Rq.GP {Z V S K f c} (hZ:Z=(ae N (kdF fd) fun _=>0).toArray) (zs) (hV:V=(HT zs).toArray) (hs:cG f c l w) (h:l.length=S) (u:sF fd=S) (v:zs.length=K) (b:1≤K∧K≤64) (g:∀z∈zs,z≠0∧z≤65536) (q:headN zs=S) (hW:W=(w.alloc (.cells Z t)).alloc (.cells Z t)) (k:∀j gp cp,Hid (Rq w.heap.size N fd t l zs gp cp 0 0 0 w j)→Q (.returned (.tuple #[.slice (some ⟨gp,0,none⟩) K cp,.int .i64 0])) j):
 Calls prog 73 #[.slice f S c,.slice (some ⟨w.heap.size+1+1,0,none⟩) K K] (W.alloc (.cells V 3)) Q:=by
 have A:=RqB.begin (n:=w.heap.size) (N:=N) (kd:=kdF fd) (t:=t) (r:=rdF fd l) hZ rfl;subst hW;have s:Below w.heap.size w ((w.alloc (.cells Z t)).alloc (.cells Z t)):=dt.alloc (by simp) _;have e:w.heap.size+1+1=((w.alloc (.cells Z t)).alloc (.cells Z t)).heap.size:=by simp
 rw[e];exact(A.cut zs hV (hs.later s) h v b.1 b.2 g q).mono fun _ _ ⟨gp,cp,b,B⟩=>by rw[b];exact k _ gp cp ⟨B,by rw[h,u],fun z o=>(g z o).1,rfl⟩
theorem Rq.js (h:Rq n N fd t l zs gp cp i p m w W) {j r f c} (s:eq j r c f) {q b e} (g:cG b e q W∧q.length=f) (k:∀o,Hid (Rq n N fd t l zs gp cp i p m w o)→Q (.returned (.tuple #[.agg (ae r (kdF c) (rdF c q)).toArray,.int .i64 0])) o):Calls prog j #[.slice b f e] W Q:=(s q b e W g.1 g.2).mono fun _ _ ⟨v,u⟩=>by rw[v];exact k _ (h.later u)
theorem Fn {q b c} (e:cG b c q W∧q.length=8) (k:Q (.returned (.tuple #[.int .u64 (p9 q),.int .i64 0])) W):Calls prog 89 #[.slice b 8 c] W Q:=(Wp q b c W e.1 e.2).mono fun _ _ ⟨g,f⟩=>by rw[g,←f];exact k
variable {ops:Array Oper} {Qx:Exit→Act→World→Prop} {rest:List Oper} {a:Act} {d:Option Tmp} {ty:TypeId} {pos:String} {af:Array Edge} {x y:Operand}
theorem Rq.ix (h:Rq n N fd t l zs gp cp i p m w W) {K v} (c:a.eval x= .slice (some ⟨gp,0,none⟩) K cp) (b:a.eval y= .int .i64 v) (e:v=(i:Int)) (f:i<K) (k:wpList prog ops Qx rest (a.put d (.pointer (some ⟨gp,i,none⟩))) W):wpList prog ops Qx (⟨d,.indexAddr 114 x y,ty,pos,af,none⟩::rest) a W:=by subst e;exact ab rfl _ (ai _ 114 39 _ _ rfl cV 1 dv gp 0 K cp c .i64 i b f i (by omega)) k
theorem Rq.X1 (h:Rq n N fd t l zs gp cp i p m w W) {b} (g:zs[i]?=some b) (j:p+b≤sF fd):∃e f,W.cell? ⟨gp,i,none⟩=some (.slice e b f)∧cG e f ((l.drop p).take b) W∧((l.drop p).take b).length=b:=by
 have hn:i<zs.length:=by
  rcases oD i zs.length with c|c
  ·exact c
  ·rw[eT c]at g;cases g
 have hl:=oT l p b _ h.hl j;obtain⟨e,f,c,k⟩:=h.toRqS.part i b _ (by rw[jc];exact hn) (xX zs l i p b h.hz hn h.hp (by rw[List.getD,g];rfl)) hl;exact⟨e,f,c,k,hl⟩
theorem Rq.iU (h:Rq n N fd t l zs gp cp i p m w W) (b) (j:zs[i]?=some b) (g:p+b≤sF fd) (f:a.eval x= .pointer (some ⟨gp,i,none⟩)) (k:∀c e u,Hid (u=(l.drop p).take b)→Hid (cG c e u W∧u.length=b)→wpList prog ops Qx rest (a.put d (.slice c b e)) W):wpList prog ops Qx (⟨d,.load 39 x,ty,pos,af,none⟩::rest) a W:=by obtain⟨c,e,q,o⟩:=h.X1 j g;exact ab rfl _ (au _ 39 _ rfl ⟨gp,i,none⟩ f _ q _ bF rfl) (k c e _ rfl o)
theorem Rq.n8 (h:Rq n N fd t l zs gp cp i p m w W) (b) (r:zs[i]?=some b) (q:p+b≤sF fd) (o:a.eval x= .pointer (some ⟨gp,i,none⟩)) (j) (g:j<b) (k:∀e c f y,Hid (W.cell? ⟨e,c+j,none⟩=some (.int .u8 y))→Hid (y=l.getD (p+j) 0)→wpList prog ops Qx rest (a.put d (.slice (some ⟨e,c,none⟩) b f)) W):wpList prog ops Qx (⟨d,.load 39 x,ty,pos,af,none⟩::rest) a W:=by obtain⟨B,f,z,v,u⟩:=h.X1 r q;obtain⟨e,c,A,s⟩:=v.row.cell j (by rw[u];exact g);subst A;exact ab rfl _ (au _ 39 _ rfl ⟨gp,i,none⟩ o _ z _ bF rfl) (k e c f _ s (bA _ _ _ _ g))
theorem OX {e c b f j:Nat} (h:a.eval x= .slice (some ⟨e,c,none⟩) b f) (g:a.eval y= .int .i64 (j:Int)) (o:j<b) (k:wpList prog ops Qx rest (a.put d (.pointer (some ⟨e,c+j,none⟩))) W):
 wpList prog ops Qx (⟨d,.indexAddr 39 x y,ty,pos,af,none⟩::rest) a W:=
 ab rfl _ (ai _ 39 5 _ _ rfl bF 1 cR e c b f h .i64 j g o (c+j) (by omega)) k
theorem OW {c o b} (e:a.eval x= .pointer (some ⟨c,o,none⟩)) (f:W.cell? ⟨c,o,none⟩=some (.int .u8 b)) (k:wpList prog ops Qx rest (a.put d (.int .u8 b)) W):
 wpList prog ops Qx (⟨d,.load 5 x,ty,pos,af,none⟩::rest) a W:=ab rfl _ (au _ 5 _ rfl _ e _ f _ sE rfl) k
theorem Rq.Vu {j} (h:Rq n N fd t l zs gp cp i p (m+j) w W) {f b c} (q:a.eval x= .pointer (some ⟨n+1,c,none⟩)) (s:c=m+j) (o:a.eval y= .int .u8 f) (r:f=l.getD (p+j) 0) (u:j<b) (A:m+b≤N) (v:fdB fd m p b=true) (k:∀e,Hid (Rq n N fd t l zs gp cp i p (m+(j+1)) w e)→wpList prog ops Qx rest (a.put d undef) e):wpList prog ops Qx (⟨d,.store 5 x y,ty,pos,af,none⟩::rest) a W:=by subst s;have g:=rx fd l m p v j u;exact wI rfl 5 _ _ rfl (m+j) q _ o f (by rw[g.1];rfl) cR h.toRqS rfl (by omega) (by rw[r];exact g.2.symm) fun e z=>k e ⟨z,h.hl,h.hz,h.hp⟩
theorem Rq.Vt (h:Rq n N fd t l zs gp cp i p m w W) {b u} (g:a.eval x= .pointer (some ⟨n+1,b,none⟩)) (f:a.eval y= .int .u64 (p9 u)) (j:u=(l.drop p).take 8) (o:m=b) (r:b<N) (s:subB [none] fd b p=true) (q:zs[i]?=some 8) (k:∀c,Hid (Rq n N fd t l zs gp cp (i+1) (p+8) (b+1) w c)→wpList prog ops Qx rest (a.put d undef) c):wpList prog ops Qx (⟨d,.store 26 x y,ty,pos,af,none⟩::rest) a W:=by
 have e:=uv fd l b p s 0 (by decide);rw[Nat.add_zero]at e;refine wI rfl 26 _ _ rfl b g _ f (p9 u) (by rw[e.1];rfl) rq h.toRqS o r ?_ fun c v=>k c ⟨v,h.hl,h.hz,?_⟩
 ·rw[e.2,j]
  show _=p9 (((l.drop p).take 8).take 8);rw[Fb,NE]
 ·rw[s6,q,Option.toList_some,zS _ _ (by decide),h.hp]
theorem Rq.go (h:Rq n N fd t l zs gp cp i p m w W) {r e b g c u} (z:a.eval x= .pointer (some ⟨n+1,b,none⟩)) (v:a.eval y= .agg (ae e (kdF c) (rdF c u)).toArray) (A:u=(l.drop p).take g) (B:rowB prog r e=true) (C:m=b) (F:b+e≤N) (E:cF c=e) (D:sF c=g) (G:subB c fd b p=true) (s:zs[i]?=some g) (k:∀f,Hid (Rq n N fd t l zs gp cp (i+1) (p+g) (b+e) w f)→wpList prog ops Qx rest (a.put d undef) f):wpList prog ops Qx (⟨d,.store r x y,ty,pos,af,none⟩::rest) a W:=by have q:=uv fd l b p G;rw[E,D,←A]at q;exact vV rfl r _ _ rfl b e z (kdF c) _ v (ah B) h.toRqS C (fun j o=>(q j o).1) F (fun j o=>(q j o).2.symm) fun f H=>k f ⟨H,h.hl,h.hz,by rw[s6,s,Option.toList_some,zS _ _ (h.hz _ (rY s)),h.hp]⟩
end
def kI:
 (True→True→True→True→eq 146 2 dx 16)∧
 (True→True→True→True→eq 182 33 aZ 40)∧
 (True→True→True→True→eq 74 65 bN 72)∧
 (True→True→True→True→eq 145 177 bl 184)∧
 (True→True→True→True→eq 180 98 b9 112)∧
 (eq 146 2 dx 16→True→True→True→eq 81 98 bk 112)∧
 (True→True→eq 180 98 b9 112→True→eq 141 194 aQ 208)∧
 (True→eq 182 33 aZ 40→True→True→eq 144 100 fE 128)∧
 (True→True→True→eq 141 194 aQ 208→eq 76 388 aM 416):=by
 refine⟨?_,?_,?_,?_,?_,?_,?_,?_,?_⟩<;>
 (intro I J H G l R c w hs v
  first
   |go_enter func146,ntmps146
    have hI:=aa JE;have q:=aa g_;have r:=aa AD
   |go_enter func182,ntmps182
    have hI:=aa un;have q:=aa cO;have r:=aa Ih
   |go_enter func74,ntmps74
    have hI:=aa JF;have q:=aa mf;have r:=aa Lj
   |go_enter func145,ntmps145
    have hI:=aa sq;have q:=aa eA;have r:=aa Lh
   |go_enter func180,ntmps180
    have hI:=aa DO;have q:=aa eW;have r:=aa Ij
   |go_enter func81,ntmps81
    have hI:=aa um;have q:=aa qj;have r:=aa underlying103
   |go_enter func141,ntmps141
    have hI:=aa q8;have q:=aa bX;have r:=aa Ii
   |go_enter func144,ntmps144
    have hI:=aa JG;have q:=aa gl;have r:=aa Bi
   |go_enter func76,ntmps76
    have hI:=aa nA;have q:=aa kS;have r:=aa underlying74
  go_wp2_with (first
   |with_reducible refine Rq.GP (N:=2) (fd:=dx) (t:=101) (S:=16) rfl [8,8] ?hV hs.out v.out rfl rfl (by decide) (by decide) rfl ?hW ?_
    case hV=>rfl
    case hW=>rfl
    intro W B C a
   |with_reducible refine Rq.GP (N:=33) (fd:=aZ) (t:=80) (S:=40) rfl [8,32] ?hV hs.out v.out rfl rfl (by decide) (by decide) rfl ?hW ?_
    case hV=>rfl
    case hW=>rfl
    intro W B C a
   |with_reducible refine Rq.GP (N:=65) (fd:=bN) (t:=28) (S:=72) rfl [32,8,32] ?hV hs.out v.out rfl rfl (by decide) (by decide) rfl ?hW ?_
    case hV=>rfl
    case hW=>rfl
    intro W B C a
   |with_reducible refine Rq.GP (N:=177) (fd:=bl) (t:=96) (S:=184) rfl [48,32,8,96] ?hV hs.out v.out rfl rfl (by decide) (by decide) rfl ?hW ?_
    case hV=>rfl
    case hW=>rfl
    intro W B C a
   |with_reducible refine Rq.GP (N:=98) (fd:=b9) (t:=70) (S:=112) rfl [8,8,32,32,32] ?hV hs.out v.out rfl rfl (by decide) (by decide) rfl ?hW ?_
    case hV=>rfl
    case hW=>rfl
    intro W B C a
   |with_reducible refine Rq.GP (N:=98) (fd:=bk) (t:=103) (S:=112) rfl [16,96] ?hV hs.out v.out rfl rfl (by decide) (by decide) rfl ?hW ?_
    case hV=>rfl
    case hW=>rfl
    intro W B C a
   |with_reducible refine Rq.GP (N:=194) (fd:=aQ) (t:=72) (S:=208) rfl [112,96] ?hV hs.out v.out rfl rfl (by decide) (by decide) rfl ?hW ?_
    case hV=>rfl
    case hW=>rfl
    intro W B C a
   |with_reducible refine Rq.GP (N:=100) (fd:=fE) (t:=82) (S:=128) rfl [8,8,32,40,40] ?hV hs.out v.out rfl rfl (by decide) (by decide) rfl ?hW ?_
    case hV=>rfl
    case hW=>rfl
    intro W B C a
   |with_reducible refine Rq.GP (N:=388) (fd:=aM) (t:=74) (S:=416) rfl [208,208] ?hV hs.out v.out rfl rfl (by decide) (by decide) rfl ?hW ?_
    case hV=>rfl
    case hW=>rfl
    intro W B C a
   |refine aC 114 ?_;refine Rq.ix a.out rfl rfl (by rfl) (by decide) ?_
   |refine ag 39 ?_;refine Rq.iU a.out 8 (by decide) (by decide) rfl ?_;intro n g u b d
   |refine ag 39 ?_;refine Rq.iU a.out 16 (by decide) (by decide) rfl ?_;intro n g u b d
   |refine ag 39 ?_;refine Rq.iU a.out 40 (by decide) (by decide) rfl ?_;intro n g u b d
   |refine ag 39 ?_;refine Rq.iU a.out 112 (by decide) (by decide) rfl ?_;intro n g u b d
   |refine ag 39 ?_;refine Rq.iU a.out 208 (by decide) (by decide) rfl ?_;intro n g u b d
   |(with_reducible refine Fn d.out ?_);clear d
   |refine al 26 ?_;refine Rq.Vt a.out rfl rfl b.out rfl (by decide) (by decide) (by decide) ?_;clear a b;intro W a
   |(with_reducible refine Rq.js a.out I d.out ?_);clear a d;intro W a
   |refine al 101 ?_;refine aF 101 (w.heap.size+1) _ rfl ?_;refine Rq.go a.out rfl rfl b.out g_ rfl (by decide) rfl rfl (by decide) (by decide) ?_;clear a b;intro W a
   |(with_reducible refine Rq.js a.out J d.out ?_);clear a d;intro W a
   |refine al 80 ?_;refine aF 80 (w.heap.size+1) _ rfl ?_;refine Rq.go a.out rfl rfl b.out cO rfl (by decide) rfl rfl (by decide) (by decide) ?_;clear a b;intro W a
   |(with_reducible refine Rq.js a.out H d.out ?_);clear a d;intro W a
   |refine al 70 ?_;refine aF 70 (w.heap.size+1) _ rfl ?_;refine Rq.go a.out rfl rfl b.out eW rfl (by decide) rfl rfl (by decide) (by decide) ?_;clear a b;intro W a
   |(with_reducible refine Rq.js a.out G d.out ?_);clear a d;intro W a
   |refine al 72 ?_;refine aF 72 (w.heap.size+1) _ rfl ?_;refine Rq.go a.out rfl rfl b.out bX rfl (by decide) rfl rfl (by decide) (by decide) ?_;clear a b;intro W a
   |refine ag _ ?_;refine ab (by rfl) _ (ay _ _ _ (by rfl) (w.heap.size+1) (by rfl) _ _ (0,0) _ a.out.res r.out rfl (by rw[ah q.out];simp[ae])) ?_
   |refine al _ ?_;refine aF _ w.heap.size 0 rfl ?_;refine aq (w0:=w) (n0:=w.heap.size) _ _ _ rfl rfl w.heap.size rfl _ rfl (aA _ _ _) (by rw[ah q.out];simp[ae]) _ _ a.out.hR (by simp[ae]) (by omega) a.out.hB (fun P E L _=>?_)
   |refine ao _ ?_;refine aH rfl fun K s=>oh _ rfl rfl rfl hI.out (s _ _ ?_);clear s K)
  try (
   first
    |have p:=Rq.len a.out 32 (by decide)
     obtain⟨F,m,hF⟩:=a.out.VT
     go_loopw [7] (fun i wr=>∃j:Nat,j≤32∧i= .int .i64 (j:Int)∧F j wr) (fun i _=>32-(intOf i).toNat)
     case atStart=>exact⟨0,by omega,rfl,m⟩
     obtain⟨j,o,rfl,f⟩:=hrel;clear a;have a:=aa ((hF _ _).1 f);clear f;by_cases e:j<32
     ·have A:(j:Int)<32:=by omega
      go_wp2_with (first
       |refine aC 114 ?_;refine Rq.ix a.out rfl rfl (by rfl) (by decide) ?_
       |refine ag 39 ?_;refine Rq.n8 a.out 32 (by decide) (by decide) rfl j e ?_;intro D z g y k h
       |refine aC 39 ?_;refine OX rfl rfl e ?_
       |refine ag 5 ?_;refine OW rfl k.out ?_
       |refine al 5 ?_;refine Rq.Vu a.out rfl (by omega) rfl h.out e (by decide) (by decide) ?_;clear a k h;intro W a)
      first
       |exact⟨⟨j+1,by omega,by go_num,(hF _ _).2 a.out⟩,by simp[intOf];omega⟩
       |refine⟨?_,by simp[intOf];omega⟩
        (repeat apply Exists.intro)
        exact⟨⟨j+1,by omega,by go_num,(hF _ _).2 a.out⟩,rfl⟩
     obtain rfl:j=32:=by omega
     have f:=aa (Rq.next a.out (by decide));clear a e o m hF p
    |have p:=Rq.len a.out 48 (by decide)
     obtain⟨F,m,hF⟩:=a.out.VT
     go_loopw [7] (fun i wr=>∃j:Nat,j≤48∧i= .int .i64 (j:Int)∧F j wr) (fun i _=>48-(intOf i).toNat)
     case atStart=>exact⟨0,by omega,rfl,m⟩
     obtain⟨j,o,rfl,f⟩:=hrel;clear a;have a:=aa ((hF _ _).1 f);clear f;by_cases e:j<48
     ·have A:(j:Int)<48:=by omega
      go_wp2_with (first
       |refine aC 114 ?_;refine Rq.ix a.out rfl rfl (by rfl) (by decide) ?_
       |refine ag 39 ?_;refine Rq.n8 a.out 48 (by decide) (by decide) rfl j e ?_;intro D z g y k h
       |refine aC 39 ?_;refine OX rfl rfl e ?_
       |refine ag 5 ?_;refine OW rfl k.out ?_
       |refine al 5 ?_;refine Rq.Vu a.out rfl (by omega) rfl h.out e (by decide) (by decide) ?_;clear a k h;intro W a)
      first
       |exact⟨⟨j+1,by omega,by go_num,(hF _ _).2 a.out⟩,by simp[intOf];omega⟩
       |refine⟨?_,by simp[intOf];omega⟩
        (repeat apply Exists.intro)
        exact⟨⟨j+1,by omega,by go_num,(hF _ _).2 a.out⟩,rfl⟩
     obtain rfl:j=48:=by omega
     have f:=aa (Rq.next a.out (by decide));clear a e o m hF p
    |have p:=Rq.len a.out 96 (by decide)
     obtain⟨F,m,hF⟩:=a.out.VT
     go_loopw [7] (fun i wr=>∃j:Nat,j≤96∧i= .int .i64 (j:Int)∧F j wr) (fun i _=>96-(intOf i).toNat)
     case atStart=>exact⟨0,by omega,rfl,m⟩
     obtain⟨j,o,rfl,f⟩:=hrel;clear a;have a:=aa ((hF _ _).1 f);clear f;by_cases e:j<96
     ·have A:(j:Int)<96:=by omega
      go_wp2_with (first
       |refine aC 114 ?_;refine Rq.ix a.out rfl rfl (by rfl) (by decide) ?_
       |refine ag 39 ?_;refine Rq.n8 a.out 96 (by decide) (by decide) rfl j e ?_;intro D z g y k h
       |refine aC 39 ?_;refine OX rfl rfl e ?_
       |refine ag 5 ?_;refine OW rfl k.out ?_
       |refine al 5 ?_;refine Rq.Vu a.out rfl (by omega) rfl h.out e (by decide) (by decide) ?_;clear a k h;intro W a)
      first
       |exact⟨⟨j+1,by omega,by go_num,(hF _ _).2 a.out⟩,by simp[intOf];omega⟩
       |refine⟨?_,by simp[intOf];omega⟩
        (repeat apply Exists.intro)
        exact⟨⟨j+1,by omega,by go_num,(hF _ _).2 a.out⟩,rfl⟩
     obtain rfl:j=96:=by omega
     have f:=aa (Rq.next a.out (by decide));clear a e o m hF p
   have a:=f;clear f;rename_i Q
   go_wp2_with (first
    |refine aC 114 ?_;refine Rq.ix a.out rfl rfl (by rfl) (by decide) ?_
    |refine ag 39 ?_;refine Rq.iU a.out 8 (by decide) (by decide) rfl ?_;intro n g u b d
    |refine ag 39 ?_;refine Rq.iU a.out 16 (by decide) (by decide) rfl ?_;intro n g u b d
    |refine ag 39 ?_;refine Rq.iU a.out 40 (by decide) (by decide) rfl ?_;intro n g u b d
    |refine ag 39 ?_;refine Rq.iU a.out 112 (by decide) (by decide) rfl ?_;intro n g u b d
    |refine ag 39 ?_;refine Rq.iU a.out 208 (by decide) (by decide) rfl ?_;intro n g u b d
    |(with_reducible refine Fn d.out ?_);clear d
    |refine al 26 ?_;refine Rq.Vt a.out rfl rfl b.out rfl (by decide) (by decide) (by decide) ?_;clear a b;intro W a
    |(with_reducible refine Rq.js a.out I d.out ?_);clear a d;intro W a
    |refine al 101 ?_;refine aF 101 (w.heap.size+1) _ rfl ?_;refine Rq.go a.out rfl rfl b.out g_ rfl (by decide) rfl rfl (by decide) (by decide) ?_;clear a b;intro W a
    |(with_reducible refine Rq.js a.out J d.out ?_);clear a d;intro W a
    |refine al 80 ?_;refine aF 80 (w.heap.size+1) _ rfl ?_;refine Rq.go a.out rfl rfl b.out cO rfl (by decide) rfl rfl (by decide) (by decide) ?_;clear a b;intro W a
    |(with_reducible refine Rq.js a.out H d.out ?_);clear a d;intro W a
    |refine al 70 ?_;refine aF 70 (w.heap.size+1) _ rfl ?_;refine Rq.go a.out rfl rfl b.out eW rfl (by decide) rfl rfl (by decide) (by decide) ?_;clear a b;intro W a
    |(with_reducible refine Rq.js a.out G d.out ?_);clear a d;intro W a
    |refine al 72 ?_;refine aF 72 (w.heap.size+1) _ rfl ?_;refine Rq.go a.out rfl rfl b.out bX rfl (by decide) rfl rfl (by decide) (by decide) ?_;clear a b;intro W a
    |refine ag _ ?_;refine ab (by rfl) _ (ay _ _ _ (by rfl) (w.heap.size+1) (by rfl) _ _ (0,0) _ a.out.res r.out rfl (by rw[ah q.out];simp[ae])) ?_
    |refine al _ ?_;refine aF _ w.heap.size 0 rfl ?_;refine aq (w0:=w) (n0:=w.heap.size) _ _ _ rfl rfl w.heap.size rfl _ rfl (aA _ _ _) (by rw[ah q.out];simp[ae]) _ _ a.out.hR (by simp[ae]) (by omega) a.out.hB (fun P E L _=>?_)
    |refine ao _ ?_;refine aH rfl fun K s=>oh _ rfl rfl rfl hI.out (s _ _ ?_);clear s K))
  try (
   first
    |have p:=Rq.len a.out 32 (by decide)
     obtain⟨F,m,hF⟩:=a.out.VT
     go_loopw [8] (fun i wr=>∃j:Nat,j≤32∧i= .int .i64 (j:Int)∧F j wr) (fun i _=>32-(intOf i).toNat)
     case atStart=>exact⟨0,by omega,rfl,m⟩
     obtain⟨j,o,rfl,f⟩:=hrel;clear a;have a:=aa ((hF _ _).1 f);clear f;by_cases e:j<32
     ·have A:(j:Int)<32:=by omega
      go_wp2_with (first
       |refine aC 114 ?_;refine Rq.ix a.out rfl rfl (by rfl) (by decide) ?_
       |refine ag 39 ?_;refine Rq.n8 a.out 32 (by decide) (by decide) rfl j e ?_;intro D z g y k h
       |refine aC 39 ?_;refine OX rfl rfl e ?_
       |refine ag 5 ?_;refine OW rfl k.out ?_
       |refine al 5 ?_;refine Rq.Vu a.out rfl (by omega) rfl h.out e (by decide) (by decide) ?_;clear a k h;intro W a)
      first
       |exact⟨⟨j+1,by omega,by go_num,(hF _ _).2 a.out⟩,by simp[intOf];omega⟩
       |refine⟨?_,by simp[intOf];omega⟩
        (repeat apply Exists.intro)
        exact⟨⟨j+1,by omega,by go_num,(hF _ _).2 a.out⟩,rfl⟩
     obtain rfl:j=32:=by omega
     have f:=aa (Rq.next a.out (by decide));clear a e o m hF p
    |have p:=Rq.len a.out 48 (by decide)
     obtain⟨F,m,hF⟩:=a.out.VT
     go_loopw [8] (fun i wr=>∃j:Nat,j≤48∧i= .int .i64 (j:Int)∧F j wr) (fun i _=>48-(intOf i).toNat)
     case atStart=>exact⟨0,by omega,rfl,m⟩
     obtain⟨j,o,rfl,f⟩:=hrel;clear a;have a:=aa ((hF _ _).1 f);clear f;by_cases e:j<48
     ·have A:(j:Int)<48:=by omega
      go_wp2_with (first
       |refine aC 114 ?_;refine Rq.ix a.out rfl rfl (by rfl) (by decide) ?_
       |refine ag 39 ?_;refine Rq.n8 a.out 48 (by decide) (by decide) rfl j e ?_;intro D z g y k h
       |refine aC 39 ?_;refine OX rfl rfl e ?_
       |refine ag 5 ?_;refine OW rfl k.out ?_
       |refine al 5 ?_;refine Rq.Vu a.out rfl (by omega) rfl h.out e (by decide) (by decide) ?_;clear a k h;intro W a)
      first
       |exact⟨⟨j+1,by omega,by go_num,(hF _ _).2 a.out⟩,by simp[intOf];omega⟩
       |refine⟨?_,by simp[intOf];omega⟩
        (repeat apply Exists.intro)
        exact⟨⟨j+1,by omega,by go_num,(hF _ _).2 a.out⟩,rfl⟩
     obtain rfl:j=48:=by omega
     have f:=aa (Rq.next a.out (by decide));clear a e o m hF p
    |have p:=Rq.len a.out 96 (by decide)
     obtain⟨F,m,hF⟩:=a.out.VT
     go_loopw [8] (fun i wr=>∃j:Nat,j≤96∧i= .int .i64 (j:Int)∧F j wr) (fun i _=>96-(intOf i).toNat)
     case atStart=>exact⟨0,by omega,rfl,m⟩
     obtain⟨j,o,rfl,f⟩:=hrel;clear a;have a:=aa ((hF _ _).1 f);clear f;by_cases e:j<96
     ·have A:(j:Int)<96:=by omega
      go_wp2_with (first
       |refine aC 114 ?_;refine Rq.ix a.out rfl rfl (by rfl) (by decide) ?_
       |refine ag 39 ?_;refine Rq.n8 a.out 96 (by decide) (by decide) rfl j e ?_;intro D z g y k h
       |refine aC 39 ?_;refine OX rfl rfl e ?_
       |refine ag 5 ?_;refine OW rfl k.out ?_
       |refine al 5 ?_;refine Rq.Vu a.out rfl (by omega) rfl h.out e (by decide) (by decide) ?_;clear a k h;intro W a)
      first
       |exact⟨⟨j+1,by omega,by go_num,(hF _ _).2 a.out⟩,by simp[intOf];omega⟩
       |refine⟨?_,by simp[intOf];omega⟩
        (repeat apply Exists.intro)
        exact⟨⟨j+1,by omega,by go_num,(hF _ _).2 a.out⟩,rfl⟩
     obtain rfl:j=96:=by omega
     have f:=aa (Rq.next a.out (by decide));clear a e o m hF p
   have a:=f;clear f;rename_i Q
   go_wp2_with (first
    |refine aC 114 ?_;refine Rq.ix a.out rfl rfl (by rfl) (by decide) ?_
    |refine ag 39 ?_;refine Rq.iU a.out 8 (by decide) (by decide) rfl ?_;intro n g u b d
    |refine ag 39 ?_;refine Rq.iU a.out 16 (by decide) (by decide) rfl ?_;intro n g u b d
    |refine ag 39 ?_;refine Rq.iU a.out 40 (by decide) (by decide) rfl ?_;intro n g u b d
    |refine ag 39 ?_;refine Rq.iU a.out 112 (by decide) (by decide) rfl ?_;intro n g u b d
    |refine ag 39 ?_;refine Rq.iU a.out 208 (by decide) (by decide) rfl ?_;intro n g u b d
    |(with_reducible refine Fn d.out ?_);clear d
    |refine al 26 ?_;refine Rq.Vt a.out rfl rfl b.out rfl (by decide) (by decide) (by decide) ?_;clear a b;intro W a
    |(with_reducible refine Rq.js a.out I d.out ?_);clear a d;intro W a
    |refine al 101 ?_;refine aF 101 (w.heap.size+1) _ rfl ?_;refine Rq.go a.out rfl rfl b.out g_ rfl (by decide) rfl rfl (by decide) (by decide) ?_;clear a b;intro W a
    |(with_reducible refine Rq.js a.out J d.out ?_);clear a d;intro W a
    |refine al 80 ?_;refine aF 80 (w.heap.size+1) _ rfl ?_;refine Rq.go a.out rfl rfl b.out cO rfl (by decide) rfl rfl (by decide) (by decide) ?_;clear a b;intro W a
    |(with_reducible refine Rq.js a.out H d.out ?_);clear a d;intro W a
    |refine al 70 ?_;refine aF 70 (w.heap.size+1) _ rfl ?_;refine Rq.go a.out rfl rfl b.out eW rfl (by decide) rfl rfl (by decide) (by decide) ?_;clear a b;intro W a
    |(with_reducible refine Rq.js a.out G d.out ?_);clear a d;intro W a
    |refine al 72 ?_;refine aF 72 (w.heap.size+1) _ rfl ?_;refine Rq.go a.out rfl rfl b.out bX rfl (by decide) rfl rfl (by decide) (by decide) ?_;clear a b;intro W a
    |refine ag _ ?_;refine ab (by rfl) _ (ay _ _ _ (by rfl) (w.heap.size+1) (by rfl) _ _ (0,0) _ a.out.res r.out rfl (by rw[ah q.out];simp[ae])) ?_
    |refine al _ ?_;refine aF _ w.heap.size 0 rfl ?_;refine aq (w0:=w) (n0:=w.heap.size) _ _ _ rfl rfl w.heap.size rfl _ rfl (aA _ _ _) (by rw[ah q.out];simp[ae]) _ _ a.out.hR (by simp[ae]) (by omega) a.out.hB (fun P E L _=>?_)
    |refine ao _ ?_;refine aH rfl fun K s=>oh _ rfl rfl rfl hI.out (s _ _ ?_);clear s K))
  try (
   first
    |have p:=Rq.len a.out 32 (by decide)
     obtain⟨F,m,hF⟩:=a.out.VT
     go_loopw [9] (fun i wr=>∃j:Nat,j≤32∧i= .int .i64 (j:Int)∧F j wr) (fun i _=>32-(intOf i).toNat)
     case atStart=>exact⟨0,by omega,rfl,m⟩
     obtain⟨j,o,rfl,f⟩:=hrel;clear a;have a:=aa ((hF _ _).1 f);clear f;by_cases e:j<32
     ·have A:(j:Int)<32:=by omega
      go_wp2_with (first
       |refine aC 114 ?_;refine Rq.ix a.out rfl rfl (by rfl) (by decide) ?_
       |refine ag 39 ?_;refine Rq.n8 a.out 32 (by decide) (by decide) rfl j e ?_;intro D z g y k h
       |refine aC 39 ?_;refine OX rfl rfl e ?_
       |refine ag 5 ?_;refine OW rfl k.out ?_
       |refine al 5 ?_;refine Rq.Vu a.out rfl (by omega) rfl h.out e (by decide) (by decide) ?_;clear a k h;intro W a)
      first
       |exact⟨⟨j+1,by omega,by go_num,(hF _ _).2 a.out⟩,by simp[intOf];omega⟩
       |refine⟨?_,by simp[intOf];omega⟩
        (repeat apply Exists.intro)
        exact⟨⟨j+1,by omega,by go_num,(hF _ _).2 a.out⟩,rfl⟩
     obtain rfl:j=32:=by omega
     have f:=aa (Rq.next a.out (by decide));clear a e o m hF p
    |have p:=Rq.len a.out 48 (by decide)
     obtain⟨F,m,hF⟩:=a.out.VT
     go_loopw [9] (fun i wr=>∃j:Nat,j≤48∧i= .int .i64 (j:Int)∧F j wr) (fun i _=>48-(intOf i).toNat)
     case atStart=>exact⟨0,by omega,rfl,m⟩
     obtain⟨j,o,rfl,f⟩:=hrel;clear a;have a:=aa ((hF _ _).1 f);clear f;by_cases e:j<48
     ·have A:(j:Int)<48:=by omega
      go_wp2_with (first
       |refine aC 114 ?_;refine Rq.ix a.out rfl rfl (by rfl) (by decide) ?_
       |refine ag 39 ?_;refine Rq.n8 a.out 48 (by decide) (by decide) rfl j e ?_;intro D z g y k h
       |refine aC 39 ?_;refine OX rfl rfl e ?_
       |refine ag 5 ?_;refine OW rfl k.out ?_
       |refine al 5 ?_;refine Rq.Vu a.out rfl (by omega) rfl h.out e (by decide) (by decide) ?_;clear a k h;intro W a)
      first
       |exact⟨⟨j+1,by omega,by go_num,(hF _ _).2 a.out⟩,by simp[intOf];omega⟩
       |refine⟨?_,by simp[intOf];omega⟩
        (repeat apply Exists.intro)
        exact⟨⟨j+1,by omega,by go_num,(hF _ _).2 a.out⟩,rfl⟩
     obtain rfl:j=48:=by omega
     have f:=aa (Rq.next a.out (by decide));clear a e o m hF p
    |have p:=Rq.len a.out 96 (by decide)
     obtain⟨F,m,hF⟩:=a.out.VT
     go_loopw [9] (fun i wr=>∃j:Nat,j≤96∧i= .int .i64 (j:Int)∧F j wr) (fun i _=>96-(intOf i).toNat)
     case atStart=>exact⟨0,by omega,rfl,m⟩
     obtain⟨j,o,rfl,f⟩:=hrel;clear a;have a:=aa ((hF _ _).1 f);clear f;by_cases e:j<96
     ·have A:(j:Int)<96:=by omega
      go_wp2_with (first
       |refine aC 114 ?_;refine Rq.ix a.out rfl rfl (by rfl) (by decide) ?_
       |refine ag 39 ?_;refine Rq.n8 a.out 96 (by decide) (by decide) rfl j e ?_;intro D z g y k h
       |refine aC 39 ?_;refine OX rfl rfl e ?_
       |refine ag 5 ?_;refine OW rfl k.out ?_
       |refine al 5 ?_;refine Rq.Vu a.out rfl (by omega) rfl h.out e (by decide) (by decide) ?_;clear a k h;intro W a)
      first
       |exact⟨⟨j+1,by omega,by go_num,(hF _ _).2 a.out⟩,by simp[intOf];omega⟩
       |refine⟨?_,by simp[intOf];omega⟩
        (repeat apply Exists.intro)
        exact⟨⟨j+1,by omega,by go_num,(hF _ _).2 a.out⟩,rfl⟩
     obtain rfl:j=96:=by omega
     have f:=aa (Rq.next a.out (by decide));clear a e o m hF p
   have a:=f;clear f;rename_i Q
   go_wp2_with (first
    |refine aC 114 ?_;refine Rq.ix a.out rfl rfl (by rfl) (by decide) ?_
    |refine ag 39 ?_;refine Rq.iU a.out 8 (by decide) (by decide) rfl ?_;intro n g u b d
    |refine ag 39 ?_;refine Rq.iU a.out 16 (by decide) (by decide) rfl ?_;intro n g u b d
    |refine ag 39 ?_;refine Rq.iU a.out 40 (by decide) (by decide) rfl ?_;intro n g u b d
    |refine ag 39 ?_;refine Rq.iU a.out 112 (by decide) (by decide) rfl ?_;intro n g u b d
    |refine ag 39 ?_;refine Rq.iU a.out 208 (by decide) (by decide) rfl ?_;intro n g u b d
    |(with_reducible refine Fn d.out ?_);clear d
    |refine al 26 ?_;refine Rq.Vt a.out rfl rfl b.out rfl (by decide) (by decide) (by decide) ?_;clear a b;intro W a
    |(with_reducible refine Rq.js a.out I d.out ?_);clear a d;intro W a
    |refine al 101 ?_;refine aF 101 (w.heap.size+1) _ rfl ?_;refine Rq.go a.out rfl rfl b.out g_ rfl (by decide) rfl rfl (by decide) (by decide) ?_;clear a b;intro W a
    |(with_reducible refine Rq.js a.out J d.out ?_);clear a d;intro W a
    |refine al 80 ?_;refine aF 80 (w.heap.size+1) _ rfl ?_;refine Rq.go a.out rfl rfl b.out cO rfl (by decide) rfl rfl (by decide) (by decide) ?_;clear a b;intro W a
    |(with_reducible refine Rq.js a.out H d.out ?_);clear a d;intro W a
    |refine al 70 ?_;refine aF 70 (w.heap.size+1) _ rfl ?_;refine Rq.go a.out rfl rfl b.out eW rfl (by decide) rfl rfl (by decide) (by decide) ?_;clear a b;intro W a
    |(with_reducible refine Rq.js a.out G d.out ?_);clear a d;intro W a
    |refine al 72 ?_;refine aF 72 (w.heap.size+1) _ rfl ?_;refine Rq.go a.out rfl rfl b.out bX rfl (by decide) rfl rfl (by decide) (by decide) ?_;clear a b;intro W a
    |refine ag _ ?_;refine ab (by rfl) _ (ay _ _ _ (by rfl) (w.heap.size+1) (by rfl) _ _ (0,0) _ a.out.res r.out rfl (by rw[ah q.out];simp[ae])) ?_
    |refine al _ ?_;refine aF _ w.heap.size 0 rfl ?_;refine aq (w0:=w) (n0:=w.heap.size) _ _ _ rfl rfl w.heap.size rfl _ rfl (aA _ _ _) (by rw[ah q.out];simp[ae]) _ _ a.out.hR (by simp[ae]) (by omega) a.out.hB (fun P E L _=>?_)
    |refine ao _ ?_;refine aH rfl fun K s=>oh _ rfl rfl rfl hI.out (s _ _ ?_);clear s K))
  exact aI rfl w.heap.size 0 (ae _ (kdF _) (rdF _ l)) _ rfl E r.out rfl (by rw[ah q.out,ac]) rfl ⟨rfl,L⟩)
def KB:eq 146 2 dx 16:=kI.1 trivial trivial trivial trivial
def yX:eq 182 33 aZ 40:=kI.2.1 trivial trivial trivial trivial
def KC:eq 74 65 bN 72:=kI.2.2.1 trivial trivial trivial trivial
def wZ:eq 145 177 bl 184:=kI.2.2.2.1 trivial trivial trivial trivial
def ES:eq 180 98 b9 112:=kI.2.2.2.2.1 trivial trivial trivial trivial
def yW:eq 81 98 bk 112:=kI.2.2.2.2.2.1 KB trivial trivial trivial
def vi:eq 141 194 aQ 208:=kI.2.2.2.2.2.2.1 trivial trivial ES trivial
def KD:eq 144 100 fE 128:=kI.2.2.2.2.2.2.2.1 trivial yX trivial trivial
def q_:eq 76 388 aM 416:=kI.2.2.2.2.2.2.2.2 trivial trivial trivial vi
def ba:Nat→CK:=kdF fE
def eQ:(Nat→Int)→List Int:=dF fE
def dp:List Int→Nat→Int:=rdF fE
section
variable {f g:Nat→Int} {l:List Int} {w:World}
theorem bS (f):(eQ f).length=128:=ez fE f
theorem m5 (a:∀j,j<100→(ba j).ok (f j)):∀m∈eQ f,CK.ok .u8 m:=x6 (fd:=fE) rfl a
theorem lY (a:∀j,j<100→(ba j).ok (f j)):fY (gt f):=WR a
theorem JL (f) (d:∀j,j<100→(ba j).ok (f j)) (w):Calls prog 94 #[.agg (ae 100 ba f).toArray] w fun e b=>(∃a c,e= .returned (.slice a 128 c)∧(a=none→c=0)∧bc w.heap.size (.slice a 128 c) (eQ f) b)∧Below w.heap.size w b:=Qv f w d
theorem FL (f) (d:∀j,j<100→(ba j).ok (f j)) (w):Calls prog 113 #[.agg (ae 100 ba f).toArray] w fun e b=>(∃a c,e= .returned (.tuple #[.slice a 128 c,.int .i64 0])∧(a=none→c=0)∧bc w.heap.size (.slice a 128 c) (eQ f) b)∧Below w.heap.size w b:=MP f w d
theorem FE (f) (b:∀j,j<100→(ba j).ok (f j)) (w) (c:cY w):Calls prog 161 #[.agg (ae 100 ba f).toArray] w fun e a=>e= .returned (.agg (ax (gt f)))∧Below w.heap.size w a:=MM f w b c
theorem Dr (f) (b:∀j,j<100→(ba j).ok (f j)) (w) (c:cY w):Calls prog 125 #[.agg (ae 100 ba f).toArray] w fun e a=>e= .returned (.tuple #[.agg (ax (gt f)),.int .i64 0])∧Below w.heap.size w a:=KA f w b c
theorem AZ (l a c w) (h:Row w a .u8 l) (j:l.length≤c) (hn:a=none→c=0) (hl:∀b o,a=some ⟨b,o,none⟩→b<w.heap.size) (i:l.length=128):
 Calls prog 135 #[.slice a 128 c] w fun e d=>e= .returned (.tuple #[.agg (ae 100 ba (dp l)).toArray,.int .i64 0])∧Below w.heap.size w d:=MS l a c w ⟨h,hn,j,hl⟩ i
theorem yH (l a c w) (hs:cG a c l w) (d:l.length=128):
 Calls prog 144 #[.slice a 128 c] w fun e b=>e= .returned (.tuple #[.agg (ae 100 ba (dp l)).toArray,.int .i64 0])∧Below w.heap.size w b:=KD l a c w hs d
theorem Dv (f) (b:∀j,j<100→(ba j).ok (f j)) (k) (a:k<100):dp (eQ f) k=f k:=ZM (fd:=fE) rfl b k a
theorem FP (hl:l.length=128) (a:∀x∈l,CK.ok .u8 x) (k) (b:k<100):(ba k).ok (dp l k):=IY (fd:=fE) rfl hl a k b
theorem DV (l) (hl:l.length=128) (a:∀x∈l,CK.ok .u8 x):eQ (dp l)=l:=CP (fd:=fE) hl a
end
def bI (s:Value) (b a:Nat→Int):List Value:=s::(ae 100 ba b++ae 96 (fun _=> .u8) a)
def eU (a:List Int) (c b:Nat→Int):List Int:=jB 228++eQ c++ff b 0 96++d_ a
def ll (a c b):(eU a c b).length=228+8*a.length:=by simp only[eU,bM,cC,bS,az,dm]
def QB {a c b} (e:∀j,j<100→(ba j).ok (c j)) (hs:∀j,j<96→CK.ok .u8 (b j)):∀m∈eU a c b,CK.ok .u8 m:=dB (dB (dB (rt _) (m5 e)) (eM fun j d=>by rw[bY];exact hs j d)) (nt a)
def Xa (c b a):oN (([]++[0,0,0,0])++eQ b++ff a 0 96) ([]++d_ c) ([]++[0]) ([]++[0])=eU c b a:=by
 have hl:(([]++[0,0,0,0])++eQ b++ff a 0 96:List Int).length=228:=by simp[bS,az]
 show gZ _ [0] [0] 1++_=_;simp only[gZ,putK,hl];rfl
def cS:(prog.info? 84).map (·.size)=some 197:=by kernel_rfl
def bp (s b a):(bI s b a).length=197:=by simp[bI,ac]
def JM (a l o f q) (R:∀j,j<100→(ba j).ok (f j)) (P:∀j,j<96→CK.ok .u8 (q j)) (w) (M:Row w l .u64 a) (cW:a.length≤1000000000) (g) (p:decide ((64:Int)<(a.length:Int))=false∧g=0∨decide ((64:Int)<(a.length:Int))=true∧g=6):
 Calls prog 92 #[.agg (bI (.slice l a.length o) f q).toArray] w fun e J=>((g=0→∃s c,e= .returned (.tuple #[.slice s (228+8*a.length) c,.int .i64 0])∧(s=none→c=0)∧bc w.heap.size (.slice s (228+8*a.length) c) (eU a f q) J)∧(g≠0→e= .returned (.tuple #[.slice none 0 0,.int .i64 g])))∧Below w.heap.size w J:=by
 rcases p with⟨t1,E⟩|⟨t1,E⟩<;>
 (have p:=aa E
  clear E;have S:=aa R;have hs:=aa P;have N:=aa M;clear R P M
  go_enter func92,ntmps92
  go_wp2_with (first
   |refine fo 84 ?_;refine bW rfl 84 _ rfl _ rfl ?_
   |refine ao 65 ?_;refine fX 4 oe ?_
    refine bZ (fun W=>dD w.heap.size (bI (.slice l a.length o) f q) 84 W.heap.size [] [] [] [] 0 w W) (dD.begin rfl rfl) ?_;intro W z;have b:=aa z;clear z
   |with_reducible refine(dD.fail b.out 6).mono ?_
    rintro G W ⟨rfl,d⟩;rw[aj rfl]at d;replace b:=aa d;clear d
   |refine ao 65 ?_;refine fX 5 oe ?_
    obtain⟨L,hL⟩:∃L,L=W.heap.size:=⟨_,rfl⟩;have n:=b.out.more L hL.symm;rw[←hL];refine bZ (fun W=>dD w.heap.size (bI (.slice l a.length o) f q) 84 L [] [] [] [] g w W∧mA L [] [] [] [] 0 W) (by rw[p.out];exact n) ?_;clear b n hL;rintro W ⟨z,X⟩;have b:=aa z;have hL:=aa X;clear z X
   |refine ag 78 ?_;refine dq (v:=(.slice l a.length o)) (b.out.cell 0) qw ?_ rfl rfl rfl rfl)
  have I:=aa (N.out.later b.out.hB);have hf8:=dm
  go_loopw [16] (fun i wr=>∃k:Nat,k≤a.length∧i= .int .i64 (k:Int)∧dD w.heap.size (bI (.slice l a.length o) f q) 84 L [] [] [] [] g w wr∧mA L (d_ (a.take k)) [] [] [] 0 wr) (fun i _=>a.length-(intOf i).toNat)
  case atStart=>exact⟨0,by omega,rfl,b.out,hL.out⟩
  case round=>
   obtain⟨k,BU,rfl,d,V⟩:=hrel;replace b:=aa d;clear hL I;have hL:=aa V;clear d V;by_cases D:k<a.length
   ·obtain⟨bw,K,rfl,T⟩:=(N.out.later b.out.hB).cell k D
    have hc:=aa T;have No:=aa (o9 a k D);have Rr:(d_ (a.take k)).length=8*k:=by rw[dm,cf];omega
    clear T;generalize a.getD k 0=m at*;have lk:(k:Int)<(a.length:Int):=by omega
    go_wp2_with (first
     |refine aC 78 ?_;refine ab (by rfl) _ (ai _ 78 26 _ _ rfl qw 1 rq bw K a.length o rfl .i64 k rfl D (K+k) (by omega)) ?_
     |refine ag 26 ?_;refine dq (v:=(.int .u64 m)) hc.out Ik ?_ rfl rfl rfl rfl
     |with_reducible refine(Jt L _ [] [] [] 0 m _ hL.out (by rw[Rr];omega)).mono ?_
      rintro G Z ⟨rfl,r,Y⟩;have n:=aa (b.out.upon Y);rw[←No.out]at r;have A:=aa r
      clear r Y)
    first
     |exact⟨⟨k+1,by omega,by go_num,n.out,A.out⟩,by simp[intOf];omega⟩
     |refine⟨?_,by simp[intOf];omega⟩
      (repeat apply Exists.intro)
      exact⟨⟨k+1,by omega,by go_num,n.out,A.out⟩,rfl⟩
   ·have e0:k=a.length:=by omega
    subst e0;rw[gC]at hL;have K_:=dm a
    go_wp2_with (first
     |with_reducible refine(Mu L (8*a.length) (d_ a) _ hL.out (dm a) (by omega)).mono ?_
      rintro G Z ⟨⟨C,H,rfl,B,u⟩,y⟩;have n:=aa (b.out.upon y);have Q:=aa u;clear b hL B u y
     |with_reducible refine(dD.put n.out (d_ a) (8*a.length) C H 0 Q.out (dm a) (by decide) (by simp;omega) (by decide) (by decide)).mono ?_
      rintro G W ⟨rfl,d⟩;rw[show (if g=0 then 0 else g)=g by split<;>omega]at d;have b:=aa d;clear d n Q
     |refine ag 82 ?_;refine ab (by rfl) _ (ar _ 82 _ (by rfl) w.heap.size 1 rfl (ae 100 ba f) _ (dK b.out.hX (pre:=[.slice l a.length o]) rfl 1 rfl) Bi rfl (by rw[ah gl,ac])) ?_
     |with_reducible refine(JL f S.out _).mono ?_
      rintro e Z ⟨⟨C,H,rfl,B,u⟩,y⟩;have d:=b.out.later y;have hl:=aa (cG.b_ u (m5 S.out) B);replace b:=aa d;clear d B u y
     |with_reducible refine(dD.app b.out _ 128 C H hl.out (bS _) (by simp)).mono ?_
      rintro e W ⟨rfl,d⟩;clear hl;replace b:=aa d;clear d
     |with_reducible refine(dD.app b.out _ 96 _ 96 (b.out.sl (pre:= .slice l a.length o::ae 100 ba f) (post:=[]) (by simp[bI]) (by simp[ac]) hs.out) (az _ _ _) (by simp[bS])).mono ?_
      rintro e W ⟨rfl,d⟩;replace b:=aa d;clear d
     |with_reducible refine(dD.xO b.out (by rw[p.out];decide)).mono ?_
      rintro e W ⟨rfl,F⟩
     |with_reducible refine(dD.Yk (p.out▸b.out) (228+8*a.length) (by simp[bS,az,dm]) (by simp) (by simp) (by omega) (Xa a f q)).mono ?_
      rintro e W ⟨⟨s,c,rfl,O,U⟩,F⟩;have qd:=aa U;have ig:=aa O
      clear U O)
    first
     |exact bR rfl _ _ rfl rfl rfl ⟨⟨fun _=>⟨s,c,rfl,ig.out,qd.out⟩,fun h=>absurd p.out h⟩,F⟩
     |exact bR rfl _ _ rfl rfl rfl ⟨⟨fun h=>absurd (h.symm.trans p.out) (by decide),fun _=>rfl⟩,F⟩)
def WY (a f k d b) (n:∀j,j<100→(ba j).ok (d j)) (m:∀j,j<96→CK.ok .u8 (b j)) (w) (l:Row w f .u64 a) (o:a.length≤64):
 Calls prog 92 #[.agg (bI (.slice f a.length k) d b).toArray] w fun e i=>(∃g c,e= .returned (.tuple #[.slice g (228+8*a.length) c,.int .i64 0])∧(g=none→c=0)∧bc w.heap.size (.slice g (228+8*a.length) c) (eU a d b) i)∧Below w.heap.size w i:=(JM a f k d b n m w l (by omega) 0 (.inl ⟨by simp;omega,rfl⟩)).mono fun _ _ h=>⟨h.1.1 rfl,h.2⟩
def UN (a b f d c) (m:∀j,j<100→(ba j).ok (d j)) (k:∀j,j<96→CK.ok .u8 (c j)) (w) (i:Row w b .u64 a) (n:64<a.length) (l:a.length≤1000000000):
 Calls prog 92 #[.agg (bI (.slice b a.length f) d c).toArray] w fun e g=>e= .returned (.tuple #[.slice none 0 0,.int .i64 6])∧Below w.heap.size w g:=(JM a b f d c m k w i l 6 (.inr ⟨by simp;omega,rfl⟩)).mono fun _ _ h=>⟨h.1.2 (by decide),h.2⟩
def A4 (m w):
 Calls prog 167 #[.int .u64 m] w fun e d=>(∃a c,e= .returned (.slice a 8 c)∧(a=none→c=0)∧bc w.heap.size (.slice a 8 c) (fH m) d)∧Below w.heap.size w d:=by
 have n:=aa (rE m w)
 go_enter func167,ntmps167
 go_wp2_with (first
  |with_reducible refine n.out.mono ?_
   rintro e W ⟨rfl,g⟩;have b:=aa g;clear g
  |refine ao 184 ?_;refine aw rfl rfl 184 3 _ rfl rfl rfl (kX m) rfl rfl (zeroOf prog 184) (aG iA).1 (aG iA).2 (mh _) ?_
   have hn:=aa (ak W (kX m) 184 W.heap.size rfl);have i:=aa (b.out.alloc b.out.size (.cells (kX m) 184));have f:=i.out.size
  |refine be .append ?_;refine cB rfl (.tmp 6) (.tmp 7) rfl w.heap.size [] (fH m) _ rfl (bc.new (bg b.out.size (by simp)) [] (by decide) (ak _ _ _ _ (by simp))) (some ⟨W.heap.size,0,none⟩) 8 (by rw[aX];rfl) (mU (aR _ _ _ _ hn.out)) (by simp[aX]) (bg f (by simp)) (fun h=>by cases h) (i.out.alloc f _) ?_
   intro s u j q r;obtain⟨k,p,o,l⟩:=aW j
   subst o)
 exact cA rfl _ rfl rfl ⟨⟨k,p,by simp[aX],l,by simpa[aX]using j⟩,q⟩
def ZV (a c b):eS [0,128,96] [d_ a,eQ c,ff b 0 96]=eU a c b:=by simp[eS,layK,headN,eU]
def aaf (b a e i) (d:i<3) (c:[0,128,96].getD i 0≠0):([d_ b,eQ a,ff e 0 96].getD i []).length=[0,128,96].getD i 0:=by
 match i,d with
 |0,_=>exact absurd rfl c
 |1,_=>exact bS a
 |2,_=>exact az _ _ _
def P0 (a b f d c) (i:∀j,j<100→(ba j).ok (d j)) (h:∀j,j<96→CK.ok .u8 (c j)) (w) (g:Row w b .u64 a) (p:64<a.length) (q:a.length≤1000000000):
 Calls prog 110 #[.agg (bI (.slice b a.length f) d c).toArray] w fun e m=>e= .returned (.tuple #[.slice none 0 0,.int .i64 6])∧Below w.heap.size w m:=by
 have r:=aa i;have hs:=aa h;have o:=aa g;clear i h g;have n:decide ((64:Int)<(a.length:Int))=true:=by simp;omega
 go_enter func110,ntmps110
 go_wp2_with (first
  |refine fo 84 ?_;refine bW rfl 84 _ rfl _ rfl ?_
   refine bZ (fun W=>c8 w.heap.size (bI (.slice b a.length f) d c) 84 [] w W) (c8.begin (ak _ _ _ _ rfl) rfl) ?_;intro W k;have l:=aa k;clear k
  |refine ag 78 ?_;refine dq (v:=(.slice b a.length f)) (l.out.toBoxL.cell 0) qw ?_ rfl rfl rfl rfl)
 exact bR rfl _ _ rfl rfl rfl ⟨rfl,l.out.hB⟩
def TX (a n g d f) (Z:∀j,j<100→(ba j).ok (d j)) (R:∀j,j<96→CK.ok .u8 (f j)) (w) (P:Row w n .u64 a) (hk:a.length≤64):
 Calls prog 110 #[.agg (bI (.slice n a.length g) d f).toArray] w fun e O=>(∃l c,e= .returned (.tuple #[.slice l (228+8*a.length) c,.int .i64 0])∧(l=none→c=0)∧bc w.heap.size (.slice l (228+8*a.length) c) (eU a d f) O)∧Below w.heap.size w O:=by
 have hd:=aa Z;have hs:=aa R;have hw:=aa P;clear Z R P;have t1:decide ((64:Int)<(a.length:Int))=false:=by simp;omega
 go_enter func110,ntmps110
 go_wp2_with (first
  |refine fo 84 ?_;refine bW rfl 84 _ rfl _ rfl ?_
   refine bZ (fun W=>c8 w.heap.size (bI (.slice n a.length g) d f) 84 [] w W) (c8.begin (ak _ _ _ _ rfl) rfl) ?_;intro W cc;have b:=aa cc;clear cc
  |refine ag 78 ?_;refine dq (v:=(.slice n a.length g)) (b.out.toBoxL.cell 0) qw ?_ rfl rfl rfl rfl)
 have hf8:=dm;obtain⟨N,H⟩:∃N,N=W.heap.size:=⟨_,rfl⟩;have Vk:w.heap.size+1≤N:=by rw[H];exact aD b.out.hX
 have z:=aa (Nat.le_of_eq H);clear H
 go_loopw [5,8,9] (fun p i _ wr=>∃k:Nat,k≤a.length∧i= .int .i64 (k:Int)∧c8 w.heap.size (bI (.slice n a.length g) d f) 84 [] w wr∧(∃l c,p= .slice l (8*k) c)∧bc N p (d_ (a.take k)) wr∧N≤wr.heap.size) (fun _ i _ _=>a.length-(intOf i).toNat)
 case atStart=>exact⟨0,by omega,rfl,b.out,⟨none,0,rfl⟩,bc.nil _ _,z.out⟩
 case round=>
  obtain⟨k,BU,rfl,o,⟨l,c,rfl⟩,sG,xk⟩:=hrel;replace b:=aa o;clear z;have y:=aa sG;clear o sG;by_cases G:k<a.length
  ·obtain⟨M,B,rfl,wj⟩:=(hw.out.later b.out.hB).cell k G
   have hc:=aa wj;have Y:=aa (o9 a k G);have C:=aa (show (d_ (a.take k)).length=8*k by rw[dm,cf];omega);clear wj;generalize a.getD k 0=m at*;generalize d_ (a.take k)=q at*;generalize U:d_ (a.take (k+1))=q2 at*;have T:=aa U;clear U;have lk:(k:Int)<(a.length:Int):=by omega
   go_wp2_with (first
    |refine ag 78 ?_;refine dq (v:=(.slice (some ⟨M,B,none⟩) a.length g)) (b.out.toBoxL.cell 0) qw ?_ rfl rfl rfl rfl
    |refine aC 78 ?_;refine ab (by rfl) _ (ai _ 78 26 _ _ rfl qw 1 rq M B a.length g rfl .i64 k rfl G (B+k) (by omega)) ?_
    |refine ag 26 ?_;refine dq (v:=(.int .u64 m)) hc.out Ik ?_ rfl rfl rfl rfl
    |with_reducible refine(A4 m _).mono ?_
     rintro I E ⟨⟨vn,cn,rfl,u,fR⟩,r⟩;have eJ:=aa (b.out.later r);have mC:=aa (aU y.out r);have nL:=aa (cG.b_ fR (na m) u);have Al:=r.size;clear r fR u
    |refine dy 39 ?_;refine cB (w0:=E) rfl (.tmp 27) (.tmp 28) rfl N q (fH m) _ rfl (by unfold bc;rw[C.out];exact(by have h:=mC.out;rw[C.out]at h;exact h)) vn cn (by rw[aX];rfl) nL.out.row (by rw[C.out,aX];omega) (by omega) nL.out.nil (aP _ _) (fun v1 W3 s D A=>?_)
     obtain⟨F,J,I,vk⟩:=aW s;rw[bM,C.out,aX]at I;subst I;have jG:=aa (show c8 w.heap.size (bI (.slice (some ⟨M,B,none⟩) a.length g) d f) 84 [] w W3 from⟨eJ.out.toBoxL.later (D.mono Vk),fun p hp=>by simp at hp⟩);have my:=aa s
     clear s vk)
   first
    |exact⟨⟨k+1,by omega,by go_num,jG.out,⟨F,J,rfl⟩,by rw[T.out,Y.out];exact my.out,A⟩,by simp[intOf];omega⟩
    |refine⟨?_,by simp[intOf];omega⟩
     (repeat apply Exists.intro)
     exact⟨⟨k+1,by omega,by go_num,jG.out,⟨F,J,rfl⟩,by rw[T.out,Y.out];exact my.out,A⟩,rfl⟩
  ·have e0:k=a.length:=by omega
   subst e0;rw[gC]at y
   have X:l=none→c=0:=by
    obtain⟨eR,c',e',vt⟩:=aW y.out;injection e' with e5 e6 e7
    subst e5;subst e7;exact vt
   have K_:=dm a;replace b:=aa (b.out.add (cG.b_ (by have h:=y.out;exact h) (nt a) X) K_);clear y X
   go_wp2_with (first
    |refine ag 78 ?_;refine dq (v:=(.slice n a.length g)) (b.out.toBoxL.cell 0) qw ?_ rfl rfl rfl rfl
    |refine ag 82 ?_;refine ab (by rfl) _ (ar _ 82 _ (by rfl) w.heap.size 1 rfl (ae 100 ba d) _ (dg b.out.hX (pre:=[.slice n a.length g]) rfl 1 rfl) Bi rfl (by rw[ah gl,ac])) ?_
    |with_reducible refine(FL d hd.out _).mono ?_
     rintro e E ⟨⟨F,J,rfl,u,V⟩,r⟩;have o:=(b.out.later r).add (cG.b_ V (m5 hd.out) u) (bS _);clear u V r;replace b:=aa o;clear o
    |refine aV 39 ?_;refine aH rfl fun K hK=>d' rfl (hK _ _ ?_);clear hK K
    |refine dy 39 ?_;refine cB (w0:=E) rfl _ _ rfl E.heap.size [] (ff f 0 96) _ rfl (bc.new bG [] (by decide) (ak _ _ _ _ rfl)) (some ⟨w.heap.size,101,none⟩) 96 rfl ((b.out.toBoxL.sl (pre:= .slice n a.length g::ae 100 ba d) (post:=[]) (by simp[bI]) (by simp[ac]) hs.out).row.later dt) (by simp[az]) (by simp) (fun h=>by cases h) dt (fun v1 W3 s D A=>?_)
     obtain⟨Yv,c3,e3,o⟩:=b.out.own s D (eM fun j hj=>by rw[bY];exact hs.out j hj) (az _ _ _);subst e3;replace b:=aa o;clear s D A;clear o
    |with_reducible refine(c8.RQ b.out (k:=3) (S:=228+8*a.length) (L:=eU a d f) [0,128,96] ?hV ?hZ rfl rfl (by decide) (by decide) (by decide) ?hF ?hL (ll a d f) (by omega)).mono ?hM
     case hV=>rfl
     case hZ=>rfl
     case hF=>exact aaf a d f
     case hL=>exact ZV a d f
     rintro e W ⟨⟨l,c,rfl,Q,nW⟩,gA⟩;have qd:=aa nW;have ig:=aa Q
     clear nW Q)
   exact bR rfl _ _ rfl rfl rfl ⟨⟨l,c,rfl,ig.out,qd.out⟩,gA⟩
def xT (a:List Int) (c b:Nat→Int):Nat→Int:=fullT 2 (leaf [gX (B8 a) (je (a.length:Int)),gt c,uU 2 (ff b 0 96)])
def Mh {c b a} (e:∀j,j<100→(ba j).ok (b j)) (hs:∀j,j<96→CK.ok .u8 (a j)):fY (xT c b a):=dj 2 (eO (dk (jj _ _) (dk (lY e) (dk (jg (eM fun j d=>by rw[bY];exact hs j d)) lw))))
def FF (d l c f k i o) (C:∀j,j<100→(ba j).ok (i j)) (A:∀j,j<96→CK.ok .u8 (o j)) (w) (F:cY w) (z:Row w f .u64 c) (L:c.length≤1000000000) (G:fY d) (s:c.length≤64∧d=B8 c∧l=0∨64<c.length∧d=bh∧l=6):
 Calls prog 159 #[.agg (bI (.slice f c.length k) i o).toArray] w fun e I=>e= .returned (.tuple #[.agg (ax (if l=0 then fullT 2 (leaf [gX d (je (c.length:Int)),gt i,uU 2 (ff o 0 96)])else bh)),.int .i64 l])∧Below w.heap.size w I:=by
 obtain⟨r,J⟩|⟨r,J⟩:l=0∧decide ((64:Int)<(c.length:Int))=false∨l=6∧decide ((64:Int)<(c.length:Int))=true:=by
  rcases s with⟨h,-,e⟩|⟨h,-,e⟩
  ·exact .inl ⟨e,by simp;omega⟩
  ·exact .inr ⟨e,by simp;omega⟩
 all_goals
 (subst r
  have D:=aa C;have hs:=aa A;have K:=aa z;have O:=aa F;have Q:=aa (fun W (S:Row W f .u64 c) (r:cY W)=>T6 c d _ f k W S r L s);clear C A z F s;have P:=aa (lY D.out);have u:=aa (jj d (je (c.length:Int)));have y:=aa G;clear G
  go_enter func159,ntmps159
  go_wp2_with (first
   |refine ao 25 ?_;refine fX 2 cg ?_
   |refine ao 108 ?_;refine fX 4 jw ?_
    refine bZ (fun W=>bD w.heap.size (bI (.slice f c.length k) i o) 84 0 [] w W) (bD.begin (ak _ _ _ _ rfl) rfl O.out) ?_;intro W m;have b:=aa m;clear m
   |((with_reducible refine ag 78 ?_);refine dq (p:=⟨w.heap.size,0,none⟩) (v:=(.slice f c.length k)) (by first|exact b.out.toBoxL.cell 0|exact E.out) qw ?_ rfl rfl rfl rfl)
   |refine cZ 25 ?_;refine ab (by rfl) _ (ct _ rfl) ?_
   |with_reducible refine(bD.put b.out bh 6 g7 (by decide)).mono ?_
    rintro e W ⟨rfl,a⟩;rw[aj rfl]at a;replace b:=aa a;clear a
   |with_reducible refine(Q.out _ (K.out.later b.out.hB) b.out.hT).mono ?_
    rintro e W ⟨rfl,g⟩;have a:=b.out.later g;clear g;replace b:=aa a;clear a
   |refine ao 25 ?_;refine aw rfl rfl 25 _ _ rfl rfl rfl (ax d) rfl rfl (zeroOf prog 25) (aG am).1 (aG am).2 (aA _ _ _) ?_
    have a:=b.out.later (W':=W.alloc (.cells (ax d) 25)) ((aP _ W).alloc bG _);have E:=aa (a.toBoxL.cell 0);have B:=aa (ak W (ax d) 25 W.heap.size rfl)
   |refine ag 25 ?_;refine ab (by rfl) _ (ay _ 25 _ (by rfl) _ rfl _ _ (0,0) _ B.out cH rfl (by rw[ah am];simp[ae])) ?_
    clear b B E;refine bZ _ a ?_;clear a;intro W m;have b:=aa m;clear m
   |with_reducible refine(CZ d (c.length:Int) _ y.out b.out.hT).mono ?_
    rintro e W ⟨rfl,g⟩;have a:=b.out.later g;clear g;replace b:=aa a;clear a
   |with_reducible refine(bD.put b.out (gX d (je (c.length:Int))) _ u.out (by simp)).mono ?_
    rintro e W ⟨rfl,a⟩
    first|rw[aj rfl]at a|rw[an (by decide)]at a
    replace b:=aa a;clear a
   |refine ag 82 ?_;refine ab (by rfl) _ (ar _ 82 _ (by rfl) w.heap.size 1 rfl (ae 100 ba i) _ (dg b.out.hX (pre:=[.slice f c.length k]) rfl 1 rfl) Bi rfl (by rw[ah gl,ac])) ?_
   |with_reducible refine(FE i D.out _ b.out.hT).mono ?_
    rintro e W ⟨rfl,g⟩;have a:=b.out.later g;clear g;replace b:=aa a;clear a
   |with_reducible refine(bD.put b.out (gt i) 0 P.out (by simp)).mono ?_
    rintro e W ⟨rfl,a⟩
    first|rw[aj rfl]at a|rw[an (by decide)]at a
    replace b:=aa a;clear a
   |with_reducible refine(bD.bytes b.out (ff o 0 96) _ 96 96 2 (b.out.sl (pre:= .slice f c.length k::ae 100 ba i) (post:=[]) (by simp[bI]) (by simp[ac]) hs.out) (az _ _ _) (by decide) (by decide) (by unfold lN;decide) (by decide) (by simp)).mono ?_
    rintro e W ⟨rfl,a⟩;replace b:=aa a;clear a
   |with_reducible refine(bD.xO b.out (by decide)).mono ?_
    rintro e W ⟨rfl,q,n⟩;have H:=aa n;have M:=q.size;clear n b
   |with_reducible refine(bD.done b.out 2 (by simp[lN]) (by simp) (by decide)).mono ?_
    rintro e W ⟨rfl,q,n⟩;have H:=aa n;have M:=q.size;clear n b
   |refine al 25 ?_;refine aq (w0:=w) (n0:=w.heap.size) 25 _ _ rfl rfl (w.heap.size+1) rfl _ rfl (aA _ _ _) (by rw[ah am];simp[ae]) _ 25 H.out (by rw[bL];simp[ae]) (by omega) q (fun V N R _=>?_))
  exact aI rfl (w.heap.size+1) 0 (ae 32 (fun _=> .u8) _) _ rfl N cH rfl (by rw[ah am,ac]) rfl ⟨rfl,R⟩)
def TR (a d f c b) (l:∀j,j<100→(ba j).ok (c j)) (i:∀j,j<96→CK.ok .u8 (b j)) (w) (m:cY w) (h:Row w d .u64 a) (k:a.length≤64):
 Calls prog 159 #[.agg (bI (.slice d a.length f) c b).toArray] w fun e g=>e= .returned (.tuple #[.agg (ax (xT a c b)),.int .i64 0])∧Below w.heap.size w g:=FF _ _ a d f c b l i w m h (by omega) (Oi a) (.inl ⟨k,rfl,rfl⟩)
def PU (a b f d c) (m:∀j,j<100→(ba j).ok (d j)) (i:∀j,j<96→CK.ok .u8 (c j)) (w) (n:cY w) (h:Row w b .u64 a) (k:64<a.length) (l:a.length≤1000000000):
 Calls prog 159 #[.agg (bI (.slice b a.length f) d c).toArray] w fun e g=>e= .returned (.tuple #[.agg (ax (bh)),.int .i64 6])∧Below w.heap.size w g:=FF _ _ a b f d c m i w n h l g7 (.inr ⟨k,rfl,rfl⟩)
end Go.Proofs.YtjeoeibdgciafaaGreatDoor
