/- Steps of the proof. -/
import Derived.Test.YtjeoeibdgciafaaGreatDoorM10
set_option linter.all false
set_option maxRecDepth 100000
set_option maxHeartbeats 16000000
namespace Go.Proofs.YtjeoeibdgciafaaGreatDoor
open Go.RowKit BigFrame
open Go.Proofs.Tryz
def fl (f:Nat→Int) (k:Nat):List (Nat→Int):=(List.range k).map fun i=>fb f (32*i)
def eC (f k):(fl f k).length=k:=by simp[fl]
def yI (f k):fl f k++[fb f (32*k)]=fl f (k+1):=by simp[fl,s7]
def Dw {f} (c:∀j,j<401→(bf j).ok (f j)) (k) (d:k≤7):∀r∈fl f k,fY r:=fun r a=>by obtain⟨i,b,rfl⟩:=ft.1 a;have e:=rW.1 b;exact rv c (Rf (32*i) 32 (by omega)) (by omega)
def CH (f:Nat→Int):Nat→Int:=fullT 3 (leaf (fl f 7))
def Qe (a):leaf (a++[bh])=leaf a:=by
 funext i
 unfold leaf;by_cases h:i<a.length
 ·simp[List.getD,eY h]
 ·rw[List.getD,List.getD,fT (by omega),eT (vI h)]
  cases i-a.length<;>rfl
def lX (f:Nat→Int):Nat→Int:=fullT 1 (leaf [CH f,dI (fb f 224)])
def zL {f} (a:∀j,j<401→(bf j).ok (f j)):fY (CH f):=dj 3 (eO (Dw a 7 (by decide)))
def D5 {f} (a:∀j,j<401→(bf j).ok (f j)):fY (lX f):=dj 1 (eO (dk (zL a) (dk (lJ (d7 a (bB (by kernel_rfl)) (by decide))) lw)))
structure ke (n:Nat) (f:Nat→Int) (k:Nat) (w W:World):Prop extends Box n 401 bf f 98 w W where
 hR:W.heap[n+1]?=some (.cells zr 25 (0,0))
 hh:W.heap[n+1+1]?=some (.cells (nT (.slice none 0 0)) 108 (0,0))
 hl:xQ (n+1+1+1) (fl f k) W
 hT:cY W
 h3:3≤n
section
variable {n k:Nat} {f:Nat→Int} {w W W':World}
theorem ke.step {b} (h:ke n f k w W) (hl:xQ (n+1+1+1) (fl f b) W') (a:Below (n+1+1+1) W W'):ke n f b w W':=⟨h.toBox.later (a.mono (by omega)),(a.block (n+1) (by omega)).trans h.hR,(a.block (n+1+1) (by omega)).trans h.hh,hl,h.hT.below (by have:=h.h3;omega) a,h.h3⟩
theorem ke.later (h:ke n f k w W) (a:Below W.heap.size W W'):ke n f k w W':=h.step (h.hl.later a) (a.mono h.hl.size|>.mono (by omega))
theorem ke.put (h:ke n f k w W) (c:∀j,j<401→(bf j).ok (f j)) (i:k<7):
 Calls prog 85 #[.pointer (some ⟨n+1+1+1,0,none⟩),.agg (ax (fb f (32*k))),.int .i64 0] W fun e b=>e= .returned (.tuple #[])∧ke n f (k+1) w b:=
 (C8 (n+1+1+1) (fl f k) (fb f (32*k)) W h.hl (rv c (Rf (32*k) 32 (by omega)) (by omega)) (by rw[eC];omega)).mono fun _ _ ⟨g,a,d⟩=>⟨g,h.step (by rw[yI]at a;exact a) d⟩
theorem ke.zero (h:ke n f 7 w W):
 Calls prog 85 #[.pointer (some ⟨n+1+1+1,0,none⟩),.agg (ax bh),.int .i64 0] W fun e a=>e= .returned (.tuple #[])∧∃h:ke n f 7 w W,xQ (n+1+1+1) (fl f 7++[bh]) a∧Below (n+1+1+1) W a:=
 (C8 (n+1+1+1) (fl f 7) bh W h.hl g7 (by rw[eC];decide)).mono fun _ _ ⟨d,c,b⟩=>⟨d,h,c,b⟩
theorem ke.done (h:ke n f 7 w W) (hl:xQ (n+1+1+1) (fl f 7++[bh]) W') (b:Below (n+1+1+1) W W'):
 Calls prog 39 #[.pointer (some ⟨n+1+1+1,0,none⟩)] W' fun e d=>e= .returned (.tuple #[.agg (ax (CH f)),.int .i64 0])∧db n 401 bf f 98 [] w d:=by
 have j:=h.hT.below (by have:=h.h3;omega) b;have hs:=hl.size;refine(zT (n+1+1+1) 3 (fl f 7++[bh]) W' hl j (by have:=h.h3;omega) (by rw[bM,eC];unfold lN;decide) (by simp) (by decide)).mono fun _ _ ⟨c,i⟩=>?_;rw[Qe]at c;have a:Below (n+1+1+1) W _:=b.trans (i.mono (by omega));exact⟨c,h.toBox.later (a.mono (by omega)),(a.block (n+1) (by omega)).trans h.hR,⟨fun r g=>(by simp at g),_,(a.block (n+1+1) (by omega)).trans h.hh,rfl,Or.inl ⟨rfl,rfl⟩⟩,h.hT.below (by have:=h.h3;omega) a,h.h3⟩
theorem ke.begin (e:(w.alloc (.cells (ae 401 bf f).toArray 98)).heap[n]?=some (.cells (ae 401 bf f).toArray 98 (0,0))) (hn:w.heap.size=n) (d:cY w):
 ke n f 0 w ((((w.alloc (.cells (ae 401 bf f).toArray 98)).alloc (.cells zr 25)).alloc (.cells (nT (.slice none 0 0)) 108)).alloc (.cells (nT (.slice none 0 0)) 108)):=by
 have h:=db.begin e hn d;have g:=h.hH.size;subst hn;have c:=(aP _ (((w.alloc (.cells (ae 401 bf f).toArray 98)).alloc (.cells zr 25)).alloc (.cells (nT (.slice none 0 0)) 108))).alloc bG (.cells (nT (.slice none 0 0)) 108);have a:=h.later c;exact⟨a.toBox,a.hR,aR _ _ _ _ (ak _ _ _ _ (by simp)),⟨fun r b=>(by simp[fl]at b),_,ak _ _ _ _ (by simp),rfl,Or.inl ⟨rfl,rfl⟩⟩,a.hT,a.h3⟩
end
def M4 (w):(Instr.build 25 #[]).run prog w= .ok (.agg (ax bh)) w:=by kernel_rfl
def HI (f) (m:∀j,j<401→(bf j).ok (f j)) (w) (p:cY w):
 Calls prog 104 #[.agg (ae 401 bf f).toArray] w fun e y=>e= .returned (.tuple #[.agg (ax (lX f)),.int .i64 0])∧Below w.heap.size w y:=by
 have d:=aa m;have C:=aa p;clear m p
 go_enter func104,ntmps104
 go_wp2_with (first
  |refine ao 25 ?_;refine fX 2 cg ?_
  |refine ao 108 ?_;refine fX 4 jw ?_
  |refine ao 108 ?_;refine fX 5 jw ?_
   refine bZ (fun W=>ke w.heap.size f 0 w W) (ke.begin (ak _ _ _ _ rfl) rfl C.out) ?_;intro W l;have a:=aa l;clear l
  |refine ag 92 ?_;refine ab (by rfl) _ (ar _ 92 _ (by rfl) w.heap.size 0 (by rfl) (ae 224 (fun _=> .u8) (fb f 0)) _ (a.out.toBox.sub 0 224 (fun _=> .u8) (Rf 0 224 (by decide)) (by decide)) underlying92 rfl (by rw[ah FB,ac])) ?_
   obtain⟨X,h⟩:∃X,X=(ae 224 (fun _=>CK.u8) (fb f 0)).toArray:=⟨_,rfl⟩;rw[←h];have A:=aa h
   clear h)
 go_loopw [10] (fun i wr=>∃k:Nat,k≤7∧i= .int .i64 (k:Int)∧ke w.heap.size f k w wr) (fun i _=>7-(intOf i).toNat)
 case atStart=>exact⟨0,by omega,rfl,a.out⟩
 case round=>
  obtain⟨k,z,rfl,b⟩:=hrel;replace a:=aa b;clear b;by_cases g:k<7
  ·have I:(k:Int)<7:=by omega
   go_wp2_with (first
    |refine Dl 92 ?_;refine ab (by rfl) _ (Ol _ 92 25 7 32 _ _ rfl underlying92 cH rfl (ah am) X rfl .i64 k rfl g (ae 32 (fun _=> .u8) (fb f (0+32*k))).toArray (by rw[A.out];exact Om f 224 0 k (by omega))) ?_
    |refine ao 25 ?_;refine aw rfl rfl 25 _ _ rfl rfl rfl (ae 32 (fun _=> .u8) (fb f (0+32*k))).toArray rfl rfl (zeroOf prog 25) (aG am).1 (aG am).2 (aA _ _ _) ?_
     refine bZ (fun W=>ke w.heap.size f k w W∧W.heap[wr.heap.size]?=some (.cells (ax (fb f (32*k))) 25 (0,0))) ⟨a.out.later dt,by rw[bY];exact ak _ _ _ _ rfl⟩ ?_;rintro W ⟨b,s⟩;replace a:=aa b;have E:=aa s;clear b s
    |refine ag 25 ?_;refine ab (by rfl) _ (ay _ 25 _ (by rfl) wr.heap.size (by rfl) _ _ (0,0) _ E.out cH rfl (by rw[ah am];simp[ae])) ?_
    |with_reducible refine(ke.put a.out d.out g).mono ?_
     rintro e W ⟨rfl,b⟩;replace a:=aa b
     clear b)
   first
    |exact⟨⟨k+1,by omega,by go_num,a.out⟩,by simp[intOf];omega⟩
    |refine⟨?_,by simp[intOf];omega⟩
     (repeat apply Exists.intro)
     exact⟨⟨k+1,by omega,by go_num,a.out⟩,rfl⟩
  ·have e:k=7:=by omega
   subst e;clear g z
   go_wp2_with (first
    |refine cZ 25 ?_;refine ab (by rfl) _ (run_build _ _ rfl _ (M4 _)) ?_
    |with_reducible refine(ke.zero a.out).mono ?_
     rintro e W ⟨rfl,l,r,v⟩;have hL:=aa r;have c:=aa v;clear r v
    |with_reducible refine(ke.done a.out hL.out c.out).mono ?_
     rintro e W ⟨rfl,b⟩;replace a:=aa b;clear hL c;clear b
    |with_reducible refine(db.put a.out (CH f) (zL d.out) (by simp)).mono ?_
     rintro e W ⟨rfl,b⟩;replace a:=aa b;clear b
    |refine ag 96 ?_;refine ab (by rfl) _ (ar _ 96 _ (by rfl) w.heap.size 224 rfl (ae 177 bu (fb f 224)) _ (a.out.toBox.sub 224 177 bu (bB (by kernel_rfl)) (by decide)) Lh rfl (by rw[ah eA,ac])) ?_
    |with_reducible refine(Ab (fb f 224) (d7 d.out (bB (by kernel_rfl)) (by decide)) _ a.out.hT).mono ?_
     rintro e W ⟨rfl,o⟩;replace a:=aa (a.out.later o);clear o
    |with_reducible refine(db.put a.out (dI (fb f 224)) (lJ (d7 d.out (bB (by kernel_rfl)) (by decide))) (by simp)).mono ?_
     rintro e W ⟨rfl,b⟩;replace a:=aa b;clear b
    |with_reducible refine(db.done a.out 1 (by simp[lN]) (by simp) (by decide)).mono ?_
     rintro e W ⟨rfl,u,q⟩;have D:=aa q;have J:=u.size;clear q a
    |refine al 25 ?_;refine aq (w0:=w) (n0:=w.heap.size) 25 _ _ rfl rfl (w.heap.size+1) rfl _ rfl (aA _ _ _) (by rw[ah am];simp[ae]) _ 25 D.out (by rw[bL];simp[ae]) (by omega) u (fun K B F _=>?_))
   exact aI rfl (w.heap.size+1) 0 (ae 32 (fun _=> .u8) (lX f)) _ rfl B cH rfl (by rw[ah am,ac]) rfl ⟨rfl,F⟩
def HJ (f) (C:∀j,j<401→(bf j).ok (f j)) (w):
 Calls prog 45 #[.agg (ae 401 bf f).toArray] w fun e u=>(∃b c,e= .returned (.tuple #[.slice b 408 c,.int .i64 0])∧(b=none→c=0)∧bc w.heap.size (.slice b 408 c) (gH f) u)∧Below w.heap.size w u:=by
 have l:=aa C;clear C
 go_enter func45,ntmps45
 go_wp2_with (first
  |refine fo 98 ?_;refine bW rfl 98 _ rfl _ rfl ?_
   refine bZ (fun W=>gw w.heap.size 401 bf f 98 [] w W) (gw.begin (ak _ _ _ _ rfl) rfl) ?_;intro W F;have a:=aa F
   clear F)
 go_loopw [5,7] (fun v i wr=>∃k:Nat,k≤7∧i= .int .i64 (k:Int)∧(∃b c,v= .slice b (32*k) c)∧bc (w.heap.size+1) v (ff f 0 (32*k)) wr∧gw w.heap.size 401 bf f 98 [] w wr) (fun _ i _=>7-(intOf i).toNat)
 case atStart=>exact⟨0,by omega,rfl,⟨_,_,rfl⟩,bc.nil _ _,a.out⟩
 case round=>
  obtain⟨k,Y,rfl,⟨b,c,rfl⟩,I,m⟩:=hrel;replace a:=aa m;have r:=aa I;clear m I;by_cases X:k<7
  ·have lk:(k:Int)<7:=by omega
   have hn:=aD a.out.hX
   go_wp2_with (first
    |refine aV 39 ?_;refine aH rfl fun K J=>d' rfl (J _ _ ?_);clear J K
    |refine dy 39 ?_;refine cB (w0:=wr) rfl _ _ rfl wr.heap.size [] (ff f (k*32) 32) _ rfl (bc.new bG [] (by decide) (ak _ _ _ _ rfl)) (some ⟨w.heap.size,k*32,none⟩) 32 rfl ((a.out.toBox.row (k*32) 32 (Rf (k*32) 32 (by omega)) (by omega) l.out).later dt) (by simp[az]) (by simp) (fun h=>by cases h) dt (fun v1 W1 q R z1=>?_)
     rw[List.nil_append]at q;obtain⟨y,P,O,A⟩:=aW q;rw[az]at O;subst O;have s:=aa q;have d:=aa R;have g:=aa A;clear q R A
    |refine dy 39 ?_;refine cB (w0:=wr) rfl _ _ rfl (w.heap.size+1) (ff f 0 (32*k)) (ff f (k*32) 32) _ rfl (r.out.later d.out) y P rfl (cG.b_ s.out (eM (gr l.out (Rf (k*32) 32 (by omega)) (by omega))) g.out).row (by simp only[az];omega) (by have:=d.out.size;omega) g.out (d.out.mono (by omega)) (fun v2 W2 o Q z2=>?_)
     rw[NC k 32,JY f 0 (32*k) (32*k) 32 (by omega) (by omega)]at o;obtain⟨sD,c2,N,_⟩:=aW o;rw[az]at N;subst N;have H:=aa o;have E:=aa (show gw w.heap.size 401 bf f 98 [] w W2 from⟨a.out.toBox.later Q,fun p V=>by simp at V⟩)
     clear o Q)
   first
    |exact⟨⟨k+1,by omega,by go_num,⟨_,_,rfl⟩,H.out,E.out⟩,by simp[intOf];omega⟩
    |refine⟨?_,by simp[intOf];omega⟩
     (repeat apply Exists.intro)
     exact⟨⟨k+1,by omega,by go_num,⟨_,_,rfl⟩,H.out,E.out⟩,rfl⟩
  ·have e:k=7:=by omega
   subst e;clear X Y;obtain⟨vb,cb,M,n⟩:=aW r.out;rw[az]at M;cases M;have D:=aa (a.out.add (cG.b_ r.out (eM (gr l.out (Rf 0 (32*7) (by decide)) (by decide))) n) (az f 0 (32*7)));clear a;have a:=aa D.out;clear D n
   go_wp2_with (first
    |refine ag 96 ?_;refine ab (by rfl) _ (ar _ 96 _ (by rfl) w.heap.size 224 rfl (ae 177 bu (fb f 224)) _ (a.out.toBox.sub 224 177 bu (bB (by kernel_rfl)) (by decide)) Lh rfl (by rw[ah eA,ac])) ?_
    |with_reducible refine(Ac (fb f 224) (d7 l.out (bB (by kernel_rfl)) (by decide)) _).mono ?_
     rintro e W ⟨⟨y,P,rfl,g,B⟩,d⟩;have m:=(a.out.later d).add (cG.b_ B (mv (d7 l.out (bB (by kernel_rfl)) (by decide))) g) (fO _);clear g B d;replace a:=aa m;clear m
    |with_reducible refine(gw.Zb a.out (k:=2) (S:=408) (L:=gH f) [224,184] ?hV ?hZ rfl (by decide) (by decide) (by simp[iI,az,fO]) (by decide) (by simp[iI,gH]) (iy f) (by decide)).mono ?hM
     case hV=>rfl
     case hZ=>rfl
     rintro e W ⟨⟨b,c,rfl,z,G⟩,gA⟩;have Z:=aa G;have U:=aa z
     clear G z)
   exact bR rfl _ _ rfl rfl rfl ⟨⟨b,c,rfl,U.out,Z.out⟩,gA⟩
section
variable {n N:Nat} {kd:Nat→CK} {f:Nat→Int} {t tc:TypeId} {K:Nat} {rs:List (Nat→Int)} {w W W':World}
theorem dP.WO (h:dP n N kd f t tc K rs w W) (a:Below (n+3) W W'):dP n N kd f t tc K rs w W':=⟨h.toBox.later (a.mono (by omega)),(a.block _ (by omega)).trans h.hR,h.hC.block (a.block _ (by omega)),h.is,h.hT.below (by have:=h.h3;omega) a,h.h3⟩
end
def T_ (rs:List (Nat→Int)) (a:Option Addr) (c q d m W) (p:cY W) (hn:rs.length=q) (hl:j_ W a rs) (i:∀b o,a=some ⟨b,o,none⟩→b<W.heap.size) (l:q≤c) (h:m=(q:Int)) (k:lN q d) (j:d≤40):
 Calls prog 49 #[.slice a q c,.int .i64 m] W fun e g=>e= .returned (.agg (ax (fullT d (leaf rs))))∧Below W.heap.size W g:=by
 subst h;exact mj rs q q d a c W hn bG k j hl i l p
def EK (f) (F:∀j,j<401→(bf j).ok (f j)) (w) (H:cY w):
 Calls prog 56 #[.agg (ae 401 bf f).toArray] w fun e X=>e= .returned (.tuple #[.agg (ax (lX f)),.int .i64 0])∧Below w.heap.size w X:=by
 have y:=aa F;have hT:=aa H;clear F H
 go_enter func56,ntmps56
 go_wp2_with (first
  |refine ao 25 ?_;refine fX 2 cg ?_
  |refine ao 163 ?_;refine aH rfl fun K h=>bT 163 rfl 5 rfl (rep 64) 64 (by kernel_rfl) (h _ _ ?_);clear h K
   refine bZ (fun W=>dP w.heap.size 401 bf f 98 163 2 [] w W) (dP.begin (ak _ _ _ _ rfl) rfl hT.out (by simp) (iM _)) ?_;intro W J;have a:=aa J
   clear J)
 go_loopw [6,7] (fun v i wr=>∃k:Nat,k≤7∧i= .int .i64 (k:Int)∧(∃C c,v= .slice C k c)∧jU (w.heap.size+3) v (fl f k) wr∧dP w.heap.size 401 bf f 98 163 2 [] w wr) (fun _ i _=>7-(intOf i).toNat)
 case atStart=>exact⟨0,by omega,rfl,⟨_,_,rfl⟩,⟨rfl,Or.inl ⟨rfl,rfl⟩⟩,a.out⟩
 case round=>
  obtain⟨k,hk,rfl,⟨C,c,rfl⟩,Q,d⟩:=hrel;replace a:=aa d;have R:=aa Q;clear d Q;have fL:=a.out.size;by_cases a8:k<7
  ·have lk:(k:Int)<7:=by omega
   go_wp2_with (first
    |refine ao 25 ?_;refine fX 8 cg ?_
     refine bZ (fun W=>W.heap[wr.heap.size]?=some (.cells zr 25 (0,0))∧Below wr.heap.size wr W∧wr.heap.size<W.heap.size) ⟨ak _ _ _ _ rfl,dt,by simp⟩ ?_;rintro W ⟨M,r,E⟩;have O:=aa M;have l:=aa r;have hz:=aa E;clear M r E
    |refine ag 25 ?_;refine iX 25 w.heap.size (k*32) rfl ?_;refine ab (by rfl) _ (ar _ 25 _ (by rfl) w.heap.size (k*32) rfl (ae 32 (fun _=> .u8) (fb f (k*32))) _ ((a.out.later l.out).toBox.sub (k*32) 32 (fun _=> .u8) (Rf (k*32) 32 (by omega)) (by omega)) cH rfl (by rw[ah am,ac])) ?_
    |refine al 25 ?_;refine aF 25 wr.heap.size 0 rfl ?_;refine aq (w0:=wr) (n0:=wr.heap.size) 25 _ _ rfl rfl wr.heap.size rfl (ax (fb f (k*32))) rfl (aA _ _ _) (by rw[ah am];simp[ae]) _ 25 O.out (by rw[bL];simp[ae]) bG l.out (fun u G r _=>?_)
     have hQ:=aa G;replace l:=aa r;clear O G;clear r;obtain⟨W,p⟩:∃W,W=u:=⟨_,rfl⟩;subst p
    |refine ag 25 ?_;refine ab (by rfl) _ (ar _ 25 _ (by rfl) wr.heap.size 0 (by rfl) (ae 32 (fun _=> .u8) (fb f (k*32))) _ hQ.out cH rfl (by rw[ah am,ac])) ?_
    |refine aV 106 ?_;refine aH rfl fun K h=>bV _ (eF _ _ rfl (fb f (k*32)) (by rfl)) (h _ _ ?_);clear h K
    |refine be .append ?_;refine aH rfl fun K h=>eN (w0:=wr) (n0:=w.heap.size+3) (.tmp 17) (.tmp 19) 106 25 rfl fC (.agg (rep 32)) 32 32 kC rfl (by decide) (w.heap.size+3) (fl f k).length _ (d8 (fl f k)) rfl (aU (aU R.out l.out) dt) ⟨W.heap.size,0,none⟩ 1 1 rfl (ae 32 (fun _=> .u8) (fb f (k*32))) (by rw[ac]) (aE (ak _ _ _ _ rfl)) rfl cl (by rw[eC];omega) (by rw[eC];omega) (by have:=l.out.size;rw[bn];omega) bG ((l.out.mono fL).alloc (by have:=l.out.size;omega) _) (fun v1 W2 s U V Z Y=>h _ _ ?_);clear h K
     rw[NC k 32]at s;rw[show d8 (fl f k)++ae 32 (fun _=> .u8) (fb f (32*k))=d8 (fl f (k+1)) by rw[←yI,iC,lE],show (fl f k).length+1=(fl f (k+1)).length by simp[eC]]at s;obtain⟨sD,c2,T,_⟩:=aW s;rw[eC]at T;subst T;have P:=aa s;have I:=aa (a.out.WO U)
     clear s U V Z Y)
   first
    |exact⟨⟨k+1,by omega,by go_num,⟨_,_,rfl⟩,P.out,I.out⟩,by simp[intOf];omega⟩
    |refine⟨?_,by simp[intOf];omega⟩
     (repeat apply Exists.intro)
     exact⟨⟨k+1,by omega,by go_num,⟨_,_,rfl⟩,P.out,I.out⟩,rfl⟩
  ·have e:k=7:=by omega
   subst e;clear a8 hk;obtain⟨g,cap,S,hg,q⟩:=gz R.out (by rw[eC];decide);rw[eC]at S q;cases S;have l_:=q.choose_spec.2.2.1;have z:=aa (q.row (fl f 7) (by rw[eC];exact cD _) (fun _ _=>rfl) (Dw y.out 7 (by decide)));have A:=aa q.lt;clear q
   go_wp2_with (first
    |with_reducible refine(T_ (fl f 7) _ _ 7 3 (7:Int) _ a.out.hT (eC f 7) z.out (fun b o e=>by cases e;exact A.out) l_ rfl (by unfold lN;decide) (by decide)).mono ?_
     rintro e W ⟨rfl,m⟩;have d:=a.out.later m;clear m;replace a:=aa d;clear d
    |refine al 25 ?_;refine aF 25 (w.heap.size+1+1) (32*0) rfl ?_;refine mp rfl _ _ rfl 0 (CH f) rfl rfl a.out rfl (by decide) (zL y.out) (fun u d=>?_)
     obtain⟨W,p⟩:∃W,W=u:=⟨_,rfl⟩;subst p;replace a:=aa d;clear d
    |refine ag 96 ?_;refine ab (by rfl) _ (ar _ 96 _ (by rfl) w.heap.size 224 rfl (ae 177 bu (fb f 224)) _ (a.out.toBox.sub 224 177 bu (bB (by kernel_rfl)) (by decide)) Lh rfl (by rw[ah eA,ac])) ?_
    |with_reducible refine(yS (fb f 224) (d7 y.out (bB (by kernel_rfl)) (by decide)) _ a.out.hT).mono ?_
     rintro e W ⟨rfl,m⟩;have d:=a.out.later m;clear m;replace a:=aa d;clear d
    |refine al 25 ?_;refine aF 25 (w.heap.size+1+1) (32*1) rfl ?_;refine mp rfl _ _ rfl 1 (dI (fb f 224)) rfl rfl a.out rfl (by decide) (lJ (d7 y.out (bB (by kernel_rfl)) (by decide))) (fun u d=>?_)
     obtain⟨W,p⟩:∃W,W=u:=⟨_,rfl⟩;subst p;replace a:=aa d;clear d
    |with_reducible refine(dP.last a.out 1 (2:Int) rfl rfl (by unfold lN;decide) (by decide)).mono ?_
     rintro e W ⟨rfl,gA,L⟩;have oB:=aa L;clear L a
    |refine al 25 ?_;refine aq (w0:=w) (n0:=w.heap.size) 25 _ _ rfl rfl (w.heap.size+1) rfl _ rfl (aA _ _ _) (by rw[ah am];simp[ae]) _ 25 oB.out (by rw[bL];simp[ae]) (by omega) gA (fun W9 gM dY _=>?_))
   exact aI rfl (w.heap.size+1) 0 (ae 32 (fun _=> .u8) (lX f)) _ rfl gM cH rfl (by rw[ah am,ac]) rfl ⟨rfl,dY⟩
def CS {W c a k m} (h:Row W a k m) (g:∀b o,a=some ⟨b,o,none⟩→c.heap[b]?=W.heap[b]?):Row c a k m:=⟨fun i d=>by
 obtain⟨b,o,e,f⟩:=h.cell i d
 exact⟨b,o,e,(iP (w:=W) (g b o e)).trans f⟩,h.ok⟩
def blk:Value→Option Nat
 | .slice (some ⟨b,_,none⟩) _ _=>some b
 |_=>none
structure El (α:Type) where
 N:Nat
 t:TypeId
 ok:α→Prop
 R:α→List Value→World→Prop
 L:α→List Int
 E:α→Int
 G:α→Nat→Int
structure El.Ok {α:Type} (e:El α):Prop where
 row:rowB prog e.t e.N=true
 byt:∃b,(prog.info? e.t).map (·.bytes)=some b∧b≤100000∧0<e.N
 nle:e.N≤1000
 und:∃D,prog.underlying e.t=some D∧D.isRow=true
 Cd:∀{a cs W W'},e.R a cs W→(∀v∈cs,∀b,blk v=some b→W'.heap[b]?=W.heap[b]?)→e.R a cs W'
 Yy:∀{a cs W W'},e.R a cs W→Below W.heap.size W W'→e.R a cs W'
 len:∀{a cs W},e.R a cs W→cs.length=e.N
 one:∀{a cs W},e.R a cs W→∀v∈cs,v.oneCell'=true
 E5:∀{a},e.ok a→∀m∈e.L a,CK.ok .u8 m
 O':∀a,(e.L a).length≤4000
 Eis:∀a,e.E a=0∨e.E a=6
 Gis:∀{a},e.ok a→fY (e.G a)
section
variable {α:Type}
def El.nm (e:El α) (g:Nat):Prop:=∀a f W,Hid (e.ok a)→Hid (e.R a f W)→Calls prog g #[.agg f.toArray] W fun x d=>(∃b c,x= .returned (.tuple #[.slice b (e.L a).length c,.int .i64 (e.E a)])∧(b=none→c=0)∧bc W.heap.size (.slice b (e.L a).length c) (e.L a) d)∧Below W.heap.size W d
def El.fA (e:El α) (g:Nat):Prop:=∀a f W,Hid (e.ok a)→Hid (e.R a f W)→Calls prog g #[.agg f.toArray] W fun x d=>(∃b c,x= .returned (.slice b (e.L a).length c)∧(b=none→c=0)∧bc W.heap.size (.slice b (e.L a).length c) (e.L a) d)∧Below W.heap.size W d
def El.iG (e:El α) (d:Nat):Prop:=∀a b W,Hid (e.ok a)→Hid (e.R a b W)→Hid (cY W)→Calls prog d #[.agg b.toArray] W fun x c=>x= .returned (.tuple #[.agg (ax (e.G a)),.int .i64 (e.E a)])∧Below W.heap.size W c
def El.SU (e:El α) (d:Nat):Prop:=∀a b W,Hid (e.ok a)→Hid (e.R a b W)→Hid (cY W)→Calls prog d #[.agg b.toArray] W fun x c=>x= .returned (.agg (ax (e.G a)))∧Below W.heap.size W c
def qf (e:El α) (l:List α) (v:Value) (W:World):Prop:=∃d c,v= .slice d l.length c∧(d=none→c=0)∧∀i a,l[i]?=some a→∃b o f,d=some ⟨b,o,none⟩∧W.rangeAt b (o+i*e.N) f∧e.R a f W∧b<W.heap.size
theorem qf.later {e:El α} (he:e.Ok) {l:List α} {v W W'} (h:qf e l v W) (d:Below W.heap.size W W'):qf e l v W':=by obtain⟨g,c,s,r,q⟩:=h;refine⟨g,c,s,r,fun i a ha=>?_⟩;obtain⟨b,o,u,n,m,k,f⟩:=q i a ha;exact⟨b,o,u,n,fun j x p=>(iP (w:=W) (d.block b f)).trans (m j x p),he.Yy k d,du f d.size⟩
def tp (N:Nat) (t:TypeId) (a:Nat→CK) (L:(Nat→Int)→List Int) (G:(Nat→Int)→Nat→Int):El (Nat→Int):=⟨N,t,uu N a,fun f b _=>b=ae N a f,L,fun _=>0,G⟩
theorem KH (N a f):∀v∈ae N a f,v.oneCell'=true:=by have h:=aA N a f;rw[vM,nn]at h;exact h
theorem C_ {N S:Nat} {t:TypeId} {D:TypeDesc} {b:Nat→CK} {L:(Nat→Int)→List Int} {G:(Nat→Int)→Nat→Int} (d:rowB prog t N=true) (c:prog.underlying t=some D) (i:D.isRow=true) {B:Nat} (k:(prog.info? t).map (·.bytes)=some B) (j:B≤100000∧0<N) (g:N≤1000) (h:qJ N b S L G) (f:S≤4000):(tp N t b L G).Ok where
 row:=d
 byt:=⟨B,k,j⟩
 nle:=g
 und:=⟨_,c,i⟩
 Cd h1 _:=h1
 Yy h1 _:=h1
 len h1:=by
  have e:_=_:=h1
  rw[e]
  exact ac _ _ _
 one h1:=by
  have e:_=_:=h1
  rw[e]
  exact KH _ _ _
 E5 h1:=h.ok h1
 O' a:=by show (L a).length≤_;rw[h.len];exact f
 Eis _:=Or.inl rfl
 Gis h1:=h.is h1
theorem qW {d N S t b L G} (h:iH d N b S L) (hl:∀f,(L f).length=S):(tp N t b L G).nm d:=fun a i W ha g=>by have e:i=ae N b a:=g.out;subst e;have c:=h a W ha;rw[←hl a]at c;exact c
theorem Qr {d N S t b L G} (h:pu d N b S L) (hl:∀f,(L f).length=S):(tp N t b L G).fA d:=fun a i W ha g=>by have e:i=ae N b a:=g.out;subst e;have c:=h a W ha;rw[←hl a]at c;exact c
theorem o_ {c N t b L G} (h:fK c N b G):(tp N t b L G).iG c:=fun a g W ha f d=>by have e:g=ae N b a:=f.out;subst e;exact h a W ha d
theorem MT {c N t b L G} (h:jN c N b G):(tp N t b L G).SU c:=fun a g W ha f d=>by have e:g=ae N b a:=f.out;subst e;exact h a W ha d
end
def nE:El (Nat→Int):=tp 388 74 (kdF aM) (dF aM) eD
def nF:El (Nat→Int):=tp 98 103 (kdF bk) (dF bk) g9
def nG:El (Nat→Int):=tp 401 98 bf gH lX
def nk:El (Ix×Ix):=⟨394,86,fun p=>p.1.ok∧p.2.ok,fun p a W=>∃s t,a=lc p.1 p.2 s t∧p.1.at s W∧p.2.at t W,fun p=>kZ p.1 p.2,fun p=>k_ p.1 p.2,fun p=>zx p.1 p.2⟩
structure At where
 aO:List Int
 fd:Nat→Int
 fs:Nat→Int
structure At.ok (a:At):Prop where
 hw:∀m∈a.aO,CK.ok .bool m
 hd:∀j,j<100→(ba j).ok (a.fd j)
 hs:∀j,j<96→CK.ok .u8 (a.fs j)
 Es:a.aO.length≤1048576
def At.err (a:At):Int:=if a.aO.length≤64 then 0 else 6
def At.L (a:At):List Int:=if a.aO.length≤64 then dU a.aO a.fd a.fs else[]
def At.R (a:At):Nat→Int:=if a.aO.length≤64 then xU a.aO a.fd a.fs else bh
def mO:El At:=⟨197,90,At.ok,fun a b W=>∃s,b=bI s a.fd a.fs∧Po a.aO s W,At.L,At.err,At.R⟩
def h_:nE.Ok:=C_ kS underlying74 rfl (B:=416) (by kernel_rfl) (by decide) (by decide) jF (by decide)
def ia:nF.Ok:=C_ qj underlying103 rfl (B:=112) (by kernel_rfl) (by decide) (by decide) nJ (by decide)
def ib:nG.Ok:=C_ lD RK rfl (B:=408) (by kernel_rfl) (by decide) (by decide) ⟨iy,fun h=>EU h,fun h=>D5 h⟩ (by decide)
def JO:nE.nm 29∧nE.nm 41:=⟨qW sC jF.len,qW rR jF.len⟩
def Ge:nE.iG 99∧nE.iG 52:=⟨o_ rQ,o_ q9⟩
def JP:nF.fA 35∧nF.nm 46:=⟨Qr By nJ.len,qW Ag nJ.len⟩
def Gh:nF.SU 105∧nF.iG 57:=⟨MT Ae,o_ yU⟩
def JQ:nG.nm 34∧nG.nm 45:=⟨qW (fun f w h=>KJ f h.out w) iy,qW (fun f w h=>HJ f h.out w) iy⟩
def Gk:nG.iG 104∧nG.iG 56:=⟨o_ fun f w h a=>HI f h.out w a.out,o_ fun f w h a=>EK f h.out w a.out⟩
def gy:nk.Ok where
 row:=ZH
 byt:=⟨496,by kernel_rfl,by decide,by decide⟩
 nle:=by decide
 und:=⟨_,Li,rfl⟩
 Cd {p _ _ _} h j:=by
  obtain⟨s,t,rfl,⟨i,c,rfl,f⟩,⟨g,d,rfl,a⟩⟩:=h
  exact⟨_,_,rfl,⟨i,c,rfl,CS f fun b o e=>j (.slice i p.1.aO.length c) (by simp[lc,Ix.cells,bI]) b (by rw[e];rfl)⟩,⟨g,d,rfl,CS a fun b o e=>j (.slice g p.2.aO.length d) (by simp[lc,Ix.cells,bI]) b (by rw[e];rfl)⟩⟩
 Yy h hb:=by
  obtain⟨s,t,e,f,a⟩:=h
  exact⟨s,t,e,f.later hb,a.later hb⟩
 len h:=by
  obtain⟨s,t,e,_⟩:=h
  rw[e]
  exact jd _ _ _ _
 one h:=by
  obtain⟨s,t,e,f,a⟩:=h
  have k:=Dk f a
  rw[vM,nn]at k
  rw[e]
  exact k
 E5 h:=Xj h.1 h.2
 O' p:=by have:=Xk p.1 p.2;show (kZ p.1 p.2).length≤4000;omega
 Eis p:=by
  show k_ p.1 p.2=0∨k_ p.1 p.2=6
  unfold k_ Ix.err
  (repeat' split)<;>simp_all
 Gis h:=by
  show fY (zx _ _)
  unfold zx
  split
  ·exact dj 1 (eO (dk (Ix.IE h.1) (dk (Ix.IE h.2) lw)))
  ·exact g7
def UA (a n c d b):∀v∈bI (.slice a n c) d b,v.oneCell'=true:=by have h:=kj a n c d b;rw[vM,nn]at h;exact h
def gx:mO.Ok where
 row:=ZG
 byt:=⟨248,by kernel_rfl,by decide,by decide⟩
 nle:=by decide
 und:=⟨_,Ig,rfl⟩
 Cd {p _ _ _} h i:=by
  obtain⟨s,rfl,d,c,rfl,hn,f⟩:=h
  exact⟨_,rfl,d,c,rfl,hn,CS f fun b o e=>i (.slice d p.aO.length c) (by simp[bI]) b (by rw[e];rfl)⟩
 Yy h hb:=by
  obtain⟨s,e,f⟩:=h
  exact⟨s,e,f.later hb⟩
 len h:=by
  obtain⟨s,e,_⟩:=h
  rw[e]
  exact bp _ _ _
 one h:=by
  obtain⟨s,e,d,c,rfl,_⟩:=h
  rw[e]
  exact UA _ _ _ _ _
 E5 h:=by
  show ∀m∈At.L _,_
  unfold At.L
  split
  ·exact QD h.hd h.hs
  ·intro m g;simp at g
 O' a:=by
  show (At.L a).length≤4000
  unfold At.L
  split
  ·rw[jA];omega
  ·simp
 Eis a:=by
  show At.err a=0∨At.err a=6
  unfold At.err
  split
  ·exact Or.inl rfl
  ·exact Or.inr rfl
 Gis h:=by
  show fY (At.R _)
  unfold At.R
  split
  ·exact Mi h.hd h.hs
  ·exact g7
def JS:nk.nm 32∧nk.nm 42:=by
 refine⟨fun p e W a b=>?_,fun p e W a b=>?_⟩<;>obtain⟨s,t,rfl,d,c⟩:=b.out
 ·exact W_ p.1 p.2 a.out.1 a.out.2 s t W d c
 ·exact TZ p.1 p.2 a.out.1 a.out.2 s t W d c
def Gr:nk.iG 102∧nk.iG 54:=by
 refine⟨fun p f W a c b=>?_,fun p f W a c b=>?_⟩<;>obtain⟨s,t,rfl,e,d⟩:=c.out
 ·exact TT p.1 p.2 a.out.1 a.out.2 s t W b e d
 ·exact PQ p.1 p.2 a.out.1 a.out.2 s t W b e d
def JR:mO.nm 33∧mO.nm 44:=by
 refine⟨fun a l W b k=>?_,fun a l W b k=>?_⟩<;>obtain⟨s,rfl,d,c,rfl,hn,h⟩:=k.out<;>
  (show Calls prog _ _ W fun x g=>(∃d c,x= .returned (.tuple #[.slice d (At.L a).length c,.int .i64 (At.err a)])∧(d=none→c=0)∧bc W.heap.size (.slice d (At.L a).length c) (At.L a) g)∧Below W.heap.size W g)<;>
  unfold At.L At.err<;>by_cases f:a.aO.length≤64
 ·simp only[aj f]
  rw[jA];exact WZ a.aO _ d c a.fd a.fs b.out.hd b.out.hs W h rfl f
 ·simp only[an f]
  exact(UO a.aO _ d c a.fd a.fs b.out.hd b.out.hs W h rfl (by omega) (by have:=b.out.Es;omega)).mono fun e g ⟨j,i⟩=>⟨⟨none,0,j,fun _=>rfl,bc.nil _ _⟩,i⟩
 ·simp only[aj f]
  rw[jA];exact TY a.aO _ d c a.fd a.fs b.out.hd b.out.hs W h hn rfl f
 ·simp only[an f]
  exact(P1 a.aO _ d c a.fd a.fs b.out.hd b.out.hs W h rfl (by omega) (by have:=b.out.Es;omega)).mono fun e g ⟨j,i⟩=>⟨⟨none,0,j,fun _=>rfl,bc.nil _ _⟩,i⟩
def Gn:mO.iG 103∧mO.iG 55:=by
 refine⟨fun a j W b h e=>?_,fun a j W b h e=>?_⟩<;>obtain⟨s,rfl,f,c,rfl,hn,g⟩:=h.out<;>
  (show Calls prog _ _ W fun x i=>x= .returned (.tuple #[.agg (ax (At.R a)),.int .i64 (At.err a)])∧Below W.heap.size W i)<;>
  unfold At.R At.err<;>by_cases d:a.aO.length≤64
 ·simp only[aj d]
  exact TS a.aO _ f c a.fd a.fs b.out.hd b.out.hs W e g rfl d
 ·simp only[an d]
  exact PV a.aO _ f c a.fd a.fs b.out.hd b.out.hs W e g rfl (by omega)
 ·simp only[aj d]
  exact PP a.aO _ f c a.fd a.fs b.out.hd b.out.hs W e g rfl d
 ·simp only[an d]
  exact Md a.aO _ f c a.fd a.fs b.out.hd b.out.hs W e g rfl (by omega)
def manyN (l:List Int):Nat:=aK l 0/4
def dE (l:List Int):List Nat:=List.replicate (manyN l) 0
def fD (l:List Int):List Nat:=(cutA (dE l) (manyN l)).map (aK l)
def jL (l:List Int):Prop:=aK l 0=0∨aK l 0%4≠0∨l.length<aK l 0
instance (l:List Int):Decidable (jL l):=by unfold jL;infer_instance
def lR (l:List Int) (a:Nat):Nat:=if l.length=0 then 0 else if l.length<4 then 4 else if jL l then 5 else if a<manyN l then 6 else if bz (aK l 0) l.length (fD l) (manyN l)then 0 else 5
def mS (n):headN (List.replicate n 0)=4*n:=by
 induction n with
 |zero=>rfl
 |succ n a=>rw[List.replicate_succ,headN,aj rfl,a];omega
def Dd (n:Nat):∀k,k≤n→cutA (List.replicate n 0) k=(List.range k).map (4* ·)
 |0,_=>rfl
 |k+1,h=>by
  have a:(List.replicate n 0).getD k 0=0:=by simp[List.getD,show k<n by omega]
  rw[cutA,aj a,Dd n k (by omega),List.take_replicate,II (by omega),mS,s7,kN];rfl
def zZ {n k} (h:k≤n):(cutA (List.replicate n 0) k).length=k:=by rw[Dd n k h];simp
def tR (l):fD l=(List.range (manyN l)).map fun i=>aK l (4*i):=by unfold fD dE;rw[Dd _ _ bG,Fc];rfl
def FW (l) {i} (h:i<manyN l):(fD l).getD i 0=aK l (4*i):=by rw[tR];simp[List.getD,h]
def DJ (l) {i} (h:i<manyN l):(fD l).take (i+1)=(fD l).take i++[aK l (4*i)]:=by rw[lU (d:=0) _ _ (by rw[tR];simpa using h),FW l h]
def zY (l):gU (dE l) l=fD l++[l.length]:=by unfold gU fD;rw[show (dE l).length=manyN l by simp[dE]]
def FR (l) {q} (h:q<manyN l):ik (dE l) l q=(l.drop ((gU (dE l) l).getD q 0)).take ((gU (dE l) l).getD (q+1) 0-(gU (dE l) l).getD q 0):=by unfold ik;rw[aj (by simp[dE,List.getD,h]),show (cutA (dE l) q).length=q from zZ (by omega)]
def DK (l) (c:jL l→False) (b:bz (aK l 0) l.length (fD l) (manyN l)) {q} (a:q<manyN l):(gU (dE l) l).getD q 0≤(gU (dE l) l).getD (q+1) 0∧(gU (dE l) l).getD (q+1) 0≤l.length:=by rw[zY];exact Ju b (by rw[tR];simp) q a
def PW (l:List Int) (a:Nat) (f:Option Addr) (c:Nat) (w) (h:l.length<4):
 Calls prog 77 #[.slice f l.length c,.int .i64 (a:Int)] w fun e d=>e= .returned (.tuple #[.slice none 0 0,.int .i64 (lR l a:Int)])∧Below w.heap.size w d:=by
 have j:decide ((a:Int)<0)=false:=by simp
 unfold lR
 go_enter func77,ntmps77
 by_cases b:l.length=0
 ·rw[aj b,b]
  go_wp2;exact bR rfl _ _ rfl rfl rfl ⟨rfl,aP _ _⟩
 ·rw[an b,aj h]
  generalize l.length=L at*;have i:((L:Int)==0)=false:=by simp;omega
  have g:decide ((L:Int)<4)=true:=by simp;omega
  go_wp2;exact bR rfl _ _ rfl rfl rfl ⟨rfl,aP _ _⟩
def Ml (l:List Int) (b:Nat) (q:Option Addr) (c:Nat) (w) (d:cG q c l w) (E:l.length≤70368744177664) (H:¬l.length<4) (hF:jL l):
 Calls prog 77 #[.slice q l.length c,.int .i64 (b:Int)] w fun e v=>e= .returned (.tuple #[.slice none 0 0,.int .i64 5])∧Below w.heap.size w v:=by
 have D:=aa d;obtain⟨m,k,rfl,_⟩:=d.row.cell 0 (by omega);have G:=d.low m k rfl;have F:=d.cap;have C:decide ((b:Int)<0)=false:=by simp
 have B:((l.length:Int)==0)=false:=by rw[E7];omega
 have A:decide ((l.length:Int)<4)=false:=by rw[Cs];omega
 have n:=aa (show Row w (some ⟨m,k,none⟩) .u8 ((l.drop 0).take 4)from jk d.row 0 4 (by omega));have g:=aa (show ((l.drop 0).take 4).length=4 by rw[cf,bJ];omega);have o:=aa (qM l 0);clear d;have u:((aK l 0:Nat):Int).tmod 4=((aK l 0%4:Nat):Int):=(xG (aK l 0) 4).symm;have s:((aK l 0:Nat):Int).tdiv 4=((manyN l:Nat):Int):=(xH (aK l 0) 4).symm
 go_enter func77,ntmps77
 have i:=aa hF;clear hF s;unfold jL at i;generalize aK l 0=f at*;by_cases y:f=0
 ·subst y
  clear u i
  go_wp2_with (first
   |refine fj 39 ?_;refine ab (by rfl) _ (dl _ 39 5 _ _ rfl bF 1 cR m k l.length c 4 rfl rfl (by omega)) ?_
   |with_reducible refine(km _ _ 4 _ _ n.out (by rw[g.out];exact cD _) g.out).mono ?_
    rintro e W ⟨rfl,a⟩;rw[o.out];have j:=aa a;clear a
   |fail)
  exact bR rfl _ _ rfl rfl rfl ⟨rfl,j.out⟩
 ·have K:((f:Int)==0)=false:=by simp;omega
  by_cases p:f%4=0
  ·have I:l.length<f:=by rcases i.out with h|h|h<;>omega
   have z:(((f%4:Nat):Int) !=0)=false:=by simp[p]
   have J:decide ((l.length:Int)<(f:Int))=true:=by simp;omega
   generalize f%4=r at*;clear i p
   go_wp2_with (first
    |refine fj 39 ?_;refine ab (by rfl) _ (dl _ 39 5 _ _ rfl bF 1 cR m k l.length c 4 rfl rfl (by omega)) ?_
    |with_reducible refine(km _ _ 4 _ _ n.out (by rw[g.out];exact cD _) g.out).mono ?_
     rintro e W ⟨rfl,a⟩;rw[o.out];have j:=aa a;clear a
    |fail)
   exact bR rfl _ _ rfl rfl rfl ⟨rfl,j.out⟩
  ·have z:(((f%4:Nat):Int) !=0)=true:=by simp;omega
   generalize f%4=r at*;clear i p
   go_wp2_with (first
    |refine fj 39 ?_;refine ab (by rfl) _ (dl _ 39 5 _ _ rfl bF 1 cR m k l.length c 4 rfl rfl (by omega)) ?_
    |with_reducible refine(km _ _ 4 _ _ n.out (by rw[g.out];exact cD _) g.out).mono ?_
     rintro e W ⟨rfl,a⟩;rw[o.out];have j:=aa a;clear a
    |fail)
   exact bR rfl _ _ rfl rfl rfl ⟨rfl,j.out⟩
def Mk (l a i c w) (b:cG i c l w) (H:l.length≤70368744177664) (K:¬l.length<4) (hF:¬jL l) (p:a<manyN l):
 Calls prog 77 #[.slice i l.length c,.int .i64 (a:Int)] w fun e m=>e= .returned (.tuple #[.slice none 0 0,.int .i64 6])∧Below w.heap.size w m:=by
 have G:=aa b;obtain⟨g,d,rfl,_⟩:=b.row.cell 0 (by omega);have J:=b.low g d rfl;have I:=b.cap;have F:decide ((a:Int)<0)=false:=by simp
 have E:((l.length:Int)==0)=false:=by rw[E7];omega
 have D:decide ((l.length:Int)<4)=false:=by rw[Cs];omega
 have n:=aa (show Row w (some ⟨g,d,none⟩) .u8 ((l.drop 0).take 4)from jk b.row 0 4 (by omega));have j:=aa (show ((l.drop 0).take 4).length=4 by rw[cf,bJ];omega);have o:=aa (qM l 0);clear b;have C:((aK l 0:Nat):Int).tmod 4=((aK l 0%4:Nat):Int):=(xG (aK l 0) 4).symm;have B:((aK l 0:Nat):Int).tdiv 4=((manyN l:Nat):Int):=(xH (aK l 0) 4).symm;have v:aK l 0≠0:=fun h=>hF (Or.inl h);have u:aK l 0%4=0:=qE fun h=>hF (Or.inr (Or.inl h))
 have L:aK l 0≤l.length:=by
  rcases oD l.length (aK l 0)with h|h
  ·exact absurd (Or.inr (Or.inr h)) hF
  ·exact h
 have q:aK l 0=4*manyN l:=by unfold manyN;omega
 have y:manyN l≤70368744177664:=by omega
 have Q:(((aK l 0:Nat):Int)==0)=false:=by simp;omega
 have P:(((aK l 0%4:Nat):Int) !=0)=false:=by simp[u]
 have O:decide ((l.length:Int)<((aK l 0:Nat):Int))=false:=by simp;omega
 have A:decide (l.length<aK l 0)=false:=by simp;omega
 have M:decide ((a:Int)<(manyN l:Int))=true:=by simp;omega
 have z:decide (a<manyN l)=true:=by simp;omega
 go_enter func77,ntmps77
 clear hF v q p;generalize manyN l=N at*;generalize aK l 0=f at*;generalize f%4=r at*
 go_wp2_with (first
  |refine fj 39 ?_;refine ab (by rfl) _ (dl _ 39 5 _ _ rfl bF 1 cR g d l.length c 4 rfl rfl (by omega)) ?_
  |with_reducible refine(km _ _ 4 _ _ n.out (by rw[j.out];exact cD _) j.out).mono ?_
   rintro e W ⟨rfl,k⟩;rw[o.out];have s:=aa k;clear k
  |fail)
 exact bR rfl _ _ rfl rfl rfl ⟨rfl,s.out⟩
def Dt (l k va c w) (R:cG va c l w) (cW:l.length≤70368744177664) (h4:¬l.length<4) (hF:¬jL l) (hm:manyN l≤k) (O2:k≤1000) (G:Prop) (sP:G↔bz (aK l 0) l.length (fD l) (manyN l)):
 Calls prog 77 #[.slice va l.length c,.int .i64 (k:Int)] w fun e o=>((G→∃v,e= .returned (.tuple #[v,.int .i64 0])∧g6 w.heap.size v (fV (dE l) l) o)∧(¬G→e= .returned (.tuple #[.slice none 0 0,.int .i64 5])))∧Below w.heap.size w o:=by
 have Bd:=aa R;obtain⟨H,D,rfl,_⟩:=R.row.cell 0 (by omega);have GG:=R.low H D rfl;have l_:=R.cap;have t0:decide ((k:Int)<0)=false:=by simp
 have t1:((l.length:Int)==0)=false:=by rw[E7];omega
 have t2:decide ((l.length:Int)<4)=false:=by rw[Cs];omega
 have CB:=aa (show Row w (some ⟨H,D,none⟩) .u8 ((l.drop 0).take 4)from jk R.row 0 4 (by omega));have BC:=aa (show ((l.drop 0).take 4).length=4 by rw[cf,bJ];omega);have YG:=aa (qM l 0);clear R;have x1:((aK l 0:Nat):Int).tmod 4=((aK l 0%4:Nat):Int):=(xG (aK l 0) 4).symm;have x2:((aK l 0:Nat):Int).tdiv 4=((manyN l:Nat):Int):=(xH (aK l 0) 4).symm;have Cl:=aa (fun(hg:G) q (hq:q<manyN l)=>DK l hF (sP.1 hg) hq);have mH:=aa (fun q (hq:q<manyN l)=>FR l hq);have kU:=aa (zY l);have pB:=aa (show (fV (dE l) l).length=manyN l by rw[dO];simp[dE]);have wt:=aa (fun i (F:i<manyN l)=>fN (dE l) l i (by simpa[dE]using F));have f0:aK l 0≠0:=fun h=>hF (Or.inl h);have f1:aK l 0%4=0:=qE fun h=>hF (Or.inr (Or.inl h))
 have f2:aK l 0≤l.length:=by
  rcases oD l.length (aK l 0)with h|h
  ·exact absurd (Or.inr (Or.inr h)) hF
  ·exact h
 have Rt:aK l 0=4*manyN l:=by unfold manyN;omega
 have hNb:manyN l≤70368744177664:=by omega
 have c1:(((aK l 0:Nat):Int)==0)=false:=by simp;omega
 have c2:(((aK l 0%4:Nat):Int) !=0)=false:=by simp[f1]
 have c3:decide ((l.length:Int)<((aK l 0:Nat):Int))=false:=by simp;omega
 have c3n:decide (l.length<aK l 0)=false:=by simp;omega
 have hG:=aa sP;clear sP;have c4:decide ((k:Int)<(manyN l:Int))=false:=by simp;omega
 have c4n:decide (k<manyN l)=false:=by simp;omega
 have Y0:=aa (fun j (hj:j<manyN l)=>DJ l hj);have Vj:=aa (show (fD l).length=manyN l by rw[tR];simp)
 go_enter func77,ntmps77
 have Le:=aa hF;clear hF;generalize hN:manyN l=N at*;have BY:=aa hN;have Rs:=aa Rt;clear hN;generalize hff:aK l 0=f at*;have hf':=aa hff;generalize f%4=r at*;have fp:0<f:=by omega
 clear hff Rt f0
 go_wp2_with (first
  |refine fj 39 ?_;refine ab (by rfl) _ (dl _ 39 5 _ _ rfl bF 1 cR H D l.length c 4 rfl rfl (by omega)) ?_
  |with_reducible refine(km _ _ 4 _ _ CB.out (by rw[BC.out];exact cD _) BC.out).mono ?_
   rintro e W ⟨rfl,B⟩;rw[YG.out];have fe:=aa B;clear B
  |fail)
 go_loopw [7,8] (fun x i wr=>∃j s:Nat,j≤N∧Hid (s=4*j)∧i= .int .i64 (s:Int)∧(∃va c,x= .slice va j c)∧wr.ownsRow w.heap.size 3 1 x j (((fD l).take j).map fun m:Nat=>Value.int .i64 (m:Int))∧Below w.heap.size w wr) (fun _ i _=>f-(intOf i).toNat)
 case atStart=>exact⟨0,0,by omega,rfl,rfl,⟨none,0,rfl⟩,⟨rfl,Or.inl ⟨rfl,rfl⟩⟩,fe.out⟩
 case round=>
  obtain⟨j,s,hj,hs,rfl,⟨vx,cx,rfl⟩,hX,hB⟩:=hrel;have O3:=aa hX;clear hX;by_cases T:j<N
  ·have hs4:s+4≤f:=by have:=hs.out;have:=Rs.out;omega
   have lt1:decide ((s:Int)<(f:Int))=true:=by simp;omega
   have lt2:decide (s<f)=true:=by simp;omega
   have dC:=aa (jk (Bd.out.row.later hB) s 4 (by omega));have Ir:=aa (show ((l.drop s).take 4).length=4 by rw[cf,bJ];omega);have RY:=aa (qM l s);have hA:=aa (Y0.out j T);have kt:=hB.size;clear Y0 fe;generalize (fD l).take j=A at*
   go_wp2_with (first
    |refine fj 39 ?_;refine ab (by rfl) _ (mr (P:=prog) _ 39 5 _ _ _ rfl bF 1 cR H D l.length c s 4 rfl _ rfl rfl _ rfl (by omega) (by omega) (by omega) (D+s) (by omega)) ?_
    |with_reducible refine(km _ _ 4 _ _ dC.out (by rw[Ir.out];exact cD _) Ir.out).mono ?_
     rintro e W ⟨rfl,B⟩;rw[RY.out];have I:=aa (hB.trans (B.mono kt));have Ns:=aa (aU O3.out B);clear B
    |refine aV 63 ?_;refine aH rfl fun K y=>bV _ (bj _ 63 3 1 _ rfl dZ (.int .i64 0) 1 lV (by decide) (by decide) [.int .i64 ((aK l s:Nat):Int)] rfl rfl (by simp[Value.cells])) (y _ _ ?_);clear y K
    |refine dy 63 ?_;refine aH rfl fun K y=>eN (w0:=w) (n0:=w.heap.size) (.tmp 44) (.tmp 51) 63 3 rfl dZ (.int .i64 0) 1 8 ml rfl (by decide) w.heap.size j (.slice vx j cx) _ rfl (aU Ns.out dt) ⟨W.heap.size,0,none⟩ 1 1 rfl [.int .i64 ((aK l s:Nat):Int)] rfl (aE (ak _ _ _ _ rfl)) rfl (by simp[Value.oneCell']) (by omega) (by omega) (by rw[bn];have:=I.out.size;omega) bG (I.out.alloc I.out.size _) (fun v1 n z b1 z1 o1 q1=>y _ _ ?_);clear y K
     obtain⟨eE,B3,C,ig⟩:=aW z;clear ig o1 q1;subst C;have my:=aa z
     clear z)
   exact⟨⟨j+1,s+4,by omega,by show _=_;have:=hs.out;omega,by go_num,⟨eE,B3,rfl⟩,by rw[hA.out,kN,←hs.out];exact my.out,b1⟩,by simp[intOf];omega⟩
  ·obtain rfl:j=N:=by omega
   have hse:s=f:=by have:=hs.out;have:=Rs.out;omega
   subst hse;have jp:1≤j:=by have:=Rs.out;omega
   clear T Y0;have jV:=O3.out;rw[kL (by rw[Vj.out];exact cD _)]at jV
   obtain⟨g,rfl,Nr⟩:∃g,vx=some ⟨g,0,none⟩∧∀i,i<j→wr.cell? ⟨g,i,none⟩=some (.int .i64 (((fD l).getD i 0:Nat):Int)):=by
    rcases jV.2 with⟨C,e2⟩|⟨g,cap,cur,C,_⟩
    ·have:=Rs.out;omega
    ·cases C
     refine⟨g,rfl,fun i F=>?_⟩;rw[jV.cellAt i (by omega)];have Em:i<(fD l).length:=by rw[Vj.out];exact F
     simp[List.getD,Em]
   have vC:=aa jV;have Z:=aa (FI g (fD l) j cx s l.length wr Nr (by omega));have kt:=hB.size;clear jV Nr O3;by_cases iS:G
   ·rw[xz (hG.out.1 iS)]at Z
    go_wp2_with (first
     |with_reducible refine Z.out.mono ?_
      rintro e W ⟨rfl,B⟩;have I:=aa (hB.trans (B.mono kt));have Ns:=aa (aU vC.out B);clear Z vC B
     |refine aV 63 ?_;refine aH rfl fun K y=>bV _ (bj _ 63 3 1 _ rfl dZ (.int .i64 0) 1 lV (by decide) (by decide) [.int .i64 (l.length:Int)] rfl rfl (by simp[Value.cells])) (y _ _ ?_);clear y K
     |refine dy 63 ?_;refine aH rfl fun K y=>eN (w0:=w) (n0:=w.heap.size) (.tmp 59) (.tmp 62) 63 3 rfl dZ (.int .i64 0) 1 8 ml rfl (by decide) w.heap.size j (.slice (some ⟨g,0,none⟩) j cx) _ rfl (aU Ns.out dt) ⟨W.heap.size,0,none⟩ 1 1 rfl [.int .i64 (l.length:Int)] rfl (aE (ak _ _ _ _ rfl)) rfl (by simp[Value.oneCell']) (by omega) (by omega) (by rw[bn];have:=I.out.size;omega) bG (I.out.alloc I.out.size _) (fun v1 n z b1 z1 o1 q1=>y _ _ ?_);clear y K
      obtain⟨eE,B3,C,ig⟩:=aW z;clear ig o1 q1;subst C;have my:=aa z
      clear z)
    obtain⟨d,rfl,Eg,qc⟩:∃d,eE=some ⟨d,0,none⟩∧d<n.heap.size∧∀i,i<j+1→n.cell? ⟨d,i,none⟩=some (.int .i64 (((gU (dE l) l).getD i 0:Nat):Int)):=by
     rcases my.out.2 with⟨C,e2⟩|⟨d,cap,cur,C,e2,e3,e4⟩
     ·omega
     ·cases C
      refine⟨d,rfl,aD e3,fun i F=>?_⟩;rw[my.out.cellAt i (by omega),kU.out];have e5:((fD l).map fun m:Nat=>Value.int .i64 (m:Int))++[.int .i64 (l.length:Int)]=((fD l)++[l.length]).map fun m:Nat=>Value.int .i64 (m:Int):=by simp
      rw[e5,Ax];have Em:i<((fD l)++[l.length]).length:=by simp[Vj.out];exact F
      simp only[List.getD,fS Em,Option.map_some,Option.getD_some]
    have kO:=aa qc;have rc:IntKind.i64.wrap ((j:Int)+1)=(j:Int)+1:=by rw[bP];omega
    clear qc my Ns I z1 kU Vj hf' Rs Le BY;have K4:w.heap.size≤n.heap.size:=b1.size;generalize hOO:gU (dE l) l=O at*;clear hOO
    go_loopw [9,10] (fun v i wr=>∃q:Nat,q≤j∧i= .int .i64 (q:Int)∧(∃vo co,v= .slice vo q co)∧ma n.heap.size q v (ik (dE l) l) wr∧Below n.heap.size n wr) (fun _ i _=>j-(intOf i).toNat)
    case atStart=>exact⟨0,by omega,rfl,⟨none,0,rfl⟩,ma.nil _ _ _,aP _ _⟩
    case round=>
     obtain⟨u,hwv⟩:∃W,W=wr:=⟨_,rfl⟩;subst hwv;obtain⟨q,hq,rfl,⟨vo,co,rfl⟩,fR,L⟩:=hrel;by_cases T:q<j
     ·have vS:=aa (Bd.out.row.later (b1.trans (L.mono K4)))
      have zn:=mH.out q T;obtain⟨HZ,hbL⟩:=Cl.out iS q T;have hvm:q<j:=T;clear mH Cl;obtain⟨vs,GF,VS,VR⟩:=fR;have Ev:=aa GF;have gg2:=aa VS;have gg3:=aa VR;have VB:=GF.lt;have xt:n.heap.size≤u.heap.size:=L.size;clear GF VS VR;have XH:=kO.out q (by omega);have Eh:=kO.out (q+1) (by omega);generalize O.getD q 0=a at*;generalize O.getD (q+1) 0=b at*;have V:=aa (fun W (h:Below n.heap.size n W)=>(h.cell (p:=⟨d,q,none⟩) Eg).trans XH);have U:=aa (fun W (h:Below n.heap.size n W)=>(h.cell (p:=⟨d,q+1,none⟩) Eg).trans Eh);have wh:(ik (dE l) l q).length=b-a:=by rw[zn,cf,bJ];omega
      have dC:Row u (some ⟨H,if c=a then D else D+a*1,none⟩) .u8 (ik (dE l) l q):=by
       by_cases e:c=a
       ·refine⟨fun i F=>by omega,fun x hx=>?_⟩
        rw[zn]at hx;exact vS.out.ok x (kM (oH hx))
       ·rw[an e,As,zn]
        exact jk vS.out a (b-a) (by omega)
      have nS:=aa dC;have j3:=aa wh;clear dC wh zn XH Eh kO;generalize ik (dE l) l=E at*;obtain⟨po,Rl⟩:∃po,po=if c=a then D else D+a*1:=⟨_,rfl⟩
      rw[←Rl]at nS;have RW:=aa Rl;clear Rl;have lt1:decide ((q:Int)+1<(j:Int)+1)=true:=by simp;omega
      have lt2:decide (((q:Int)+1)<((j+1:Nat):Int))=true:=by simp;omega
      have wQ:IntKind.i64.wrap ((q:Int)+1)=(q:Int)+1:=by rw[bP];omega
      go_wp2;rename_i K y;refine dQ (S:=fun o=>o.cell? ⟨d,q,none⟩=some (.int .i64 (a:Int))∧o.cell? ⟨d,q+1,none⟩=some (.int .i64 (b:Int))) (by kernel_rfl) ?_;have Lf:Below n.heap.size n ({u with drawn:=u.drawn+1}:World):=L.drew;have hS:({u with drawn:=u.drawn+1}:World).cell? ⟨d,q,none⟩=some (.int .i64 (a:Int))∧({u with drawn:=u.drawn+1}:World).cell? ⟨d,q+1,none⟩=some (.int .i64 (b:Int)):=⟨V.out _ Lf,U.out _ Lf⟩;refine gY 0 2 3 (.slice vo q co) (.slice (some ⟨H,D,none⟩) l.length c) (.slice (some ⟨d,0,none⟩) (j+1) B3) rfl (by kernel_rfl) (fun _=>by kernel_rfl) bH ‹_› ?_;go_frame;refine aJ (i:=4) (v:=(.int .i64 (q:Int))) rfl (by kernel_rfl) bH ‹_› (fun o Y=>by go_simp) ?_;go_frame;refine d5 7 (.slice (some ⟨d,0,none⟩) (j+1) B3) rfl (by kernel_rfl) (fun _=>by kernel_rfl) bH ‹_› ?_;go_frame;refine aJ (i:=8) (v:=(.int .i64 (q:Int))) rfl (by kernel_rfl) bH ‹_› (fun o Y=>by go_simp) ?_;go_frame;have wA:IntKind.i64.wrap ((q:Int)+1)=(q:Int)+1:=by rw[bP];omega
      refine aJ (i:=9) (v:=(.int .i64 ((q:Int)+1))) rfl (by kernel_rfl) bH ‹_› (fun o Y=>by go_simp) ?_;go_frame;refine aJ (i:=5) (v:=(.pointer (some ⟨d,q,none⟩))) rfl (by kernel_rfl) bH ‹_› (fun o _=>ai o 63 3 _ _ (by rfl) dZ 1 d6 d 0 (j+1) B3 (by rfl) .i64 q (by rfl) (by omega) q (by omega)) ?_;go_frame;refine aJ (i:=10) (v:=(.pointer (some ⟨d,q+1,none⟩))) rfl (by kernel_rfl) bH ‹_› (fun o _=>bC o 63 3 _ _ (by rfl) dZ 1 d6 d 0 (j+1) B3 (by rfl) .i64 ((q:Int)+1) (by rfl) (q+1) (by omega) (by omega) (q+1) (by omega)) ?_;go_frame;refine aJ (i:=6) (v:=(.int .i64 (a:Int))) rfl (by kernel_rfl) bH ‹_› (fun o Y=>au _ 3 _ (by rfl) ⟨d,q,none⟩ (by rfl) _ Y.1 _ pi rfl) ?_;go_frame;refine aJ (i:=11) (v:=(.int .i64 (b:Int))) rfl (by kernel_rfl) bH ‹_› (fun o Y=>au _ 3 _ (by rfl) ⟨d,q+1,none⟩ (by rfl) _ Y.2 _ pi rfl) ?_;go_frame;refine aJ (i:=12) (v:=(.slice (some ⟨H,po,none⟩) (b-a) (c-a))) rfl (by kernel_rfl) bH ‹_› (fun o _=>RW.out▸mt (P:=prog) o 39 5 (.tmp 73) (.tmp 77) (.tmp 82) (by rfl) bF 1 cR H D l.length c a b (by rfl) (by rfl) (by rfl) HZ (by omega)) ?_;go_frame;refine cQ (i:=1) rfl (by kernel_rfl) rfl (d' rfl ⟨⟨V.out _ (Lf.alloc xt _),U.out _ (Lf.alloc xt _)⟩,?_⟩);go_frame;have Cj:Below u.heap.size u (({u with drawn:=u.drawn+1}:World).alloc (.cells #[] 5)):=(aP _ u).drew.alloc bG _;refine cQ (i:=13) rfl (by kernel_rfl) rfl (tv (w0:=u) (.tmp 72) (.tmp 83) rfl u.heap.size [] (E q) _ rfl (bc.new bG [] (by decide) (ak _ _ _ _ rfl)) (some ⟨H,po,none⟩) (c-a) (by rw[j3.out];rfl) (nS.out.later Cj) (by rw[j3.out,List.length_nil];omega) (by simp) (fun h=>by cases h) Cj (fun v1 W1 z J z1=>⟨⟨V.out _ (L.trans (J.mono xt)),U.out _ (L.trans (J.mono xt))⟩,?_⟩));rw[List.nil_append]at z;obtain⟨M,pc,C,sS,Nl⟩:=z.row nS.out.ok
      have Ek:M=none→pc=0:=by
       obtain⟨eR,c',e',vt⟩:=aW z;rw[C]at e';injection e' with e5 e6 e7
       subst e5;subst e7;exact vt
      subst C;have H2:=xY z;rw[j3.out];go_frame;have X:Below n.heap.size n (W1.alloc (.cells #[.slice M (b-a) pc] 39)):=(L.trans (J.mono xt)).alloc (by have:=J.size;omega) _;refine cQ (i:=14) rfl (by kernel_rfl) rfl (bV _ (bj _ 114 39 1 _ rfl cV (.slice none 0 0) 1 nu (by decide) (by decide) [.slice M (b-a) pc] rfl rfl (by simp[Value.cells])) ⟨⟨V.out _ X,U.out _ X⟩,?_⟩);go_frame;refine cQ (i:=15) rfl (by kernel_rfl) rfl (eN (w0:=W1.alloc (.cells #[.slice M (b-a) pc] 39)) (n0:=n.heap.size) (.tmp 71) (.tmp 85) 114 39 rfl cV (.slice none 0 0) 1 24 rz rfl (by decide) n.heap.size q (.slice vo q co) vs rfl (aU (aU Ev.out J) dt) ⟨W1.heap.size,0,none⟩ 1 1 rfl [.slice M (b-a) pc] rfl (aE (ak _ _ _ _ rfl)) rfl (by simp[Value.oneCell']) (by omega) (by omega) (by have:=J.size;simp;omega) bG (aP _ _) (fun v2 W3 h2 b3 z3 o3 q3=>⟨⟨V.out _ (X.trans b3),U.out _ (X.trans b3)⟩,?_⟩));obtain⟨sD,c2,e2,GN⟩:=aW h2;clear GN;subst e2
      have pj:=aa (ma.step (v':= .slice sD (q+1) c2) (base:=n.heap.size) (W:=W1.alloc (.cells #[.slice M (b-a) pc] 39)) (part:=E) gg2.out (fun i F=>by
       obtain⟨eR,ci,k4,k5,k6,k7,k8⟩:=gg3.out i F
       exact⟨eR,ci,k4,(k5.later J).later dt,k6,k7,fun b' Q e=>⟨by rw[bn];have:=J.size;have:=(k8 b' Q e).1;omega,(k8 b' Q e).2⟩⟩) (sS.later dt) Ek Nl (fun b' Q e=>⟨by rw[bn];have:=(H2 b' Q e).2;omega,fun e'=>by have:=(VB _ e').2;have:=(H2 b' Q e).1;omega,by have:=(H2 b' Q e).1;omega⟩) (by rw[j3.out];exact h2) o3 q3 b3.size)
      have KY:=aa (X.trans b3);clear h2 b3 o3 q3 z sS Ek Nl H2 nS gg3 gg2 Ev X Cj;go_frame;have hS:W3.cell? ⟨d,q,none⟩=some (.int .i64 (a:Int))∧W3.cell? ⟨d,q+1,none⟩=some (.int .i64 (b:Int)):=⟨V.out _ KY.out,U.out _ KY.out⟩;refine d5 16 (.slice sD (q+1) c2) rfl (by kernel_rfl) (fun _=>by kernel_rfl) bH ‹_› ?_;go_frame;refine dM (by kernel_rfl) ?_ _
      try simp only[Exit.then]
      refine y _ _ ?_;clear hS Lf y K;go_wp2;exact⟨⟨q+1,by omega,by go_num,⟨_,_,rfl⟩,pj.out,KY.out⟩,by simp[intOf];omega⟩
     ·obtain rfl:q=j:=by omega
      have lt1:decide ((q:Int)+1<(q:Int)+1)=false:=by simp
      go_wp2;exact bR rfl _ _ rfl rfl rfl ⟨⟨fun _=>⟨_,rfl,ma.parts fR K4 (by omega) _ pB.out (fun i F=>wt.out i F)⟩,fun h=>absurd iS h⟩,b1.trans (L.mono K4)⟩
   ·rw[IH (fun h=>iS (hG.out.2 h))]at Z
    go_wp2_with (
     ((with_reducible refine Z.out.mono ?_)
      rintro e W ⟨rfl,B⟩
      clear Z))
    exact bR rfl _ _ rfl rfl rfl ⟨⟨fun h=>absurd h iS,fun _=>rfl⟩,hB.trans (B.mono kt)⟩
def Mj (l a b c w) (f:cG b c l w) (k:l.length≤70368744177664) (m:¬l.length<4) (hF:¬jL l) (i:manyN l≤a) (g:a≤1000) (j:¬bz (aK l 0) l.length (fD l) (manyN l)):
 Calls prog 77 #[.slice b l.length c,.int .i64 (a:Int)] w fun e d=>e= .returned (.tuple #[.slice none 0 0,.int .i64 5])∧Below w.heap.size w d:=
 (Dt l a b c w f k m hF i g _ xI).mono fun _ _ h=>⟨h.1.2 j,h.2⟩
def TV (l a b c w) (f:cG b c l w) (k:l.length≤70368744177664) (m:¬l.length<4) (hF:¬jL l) (i:manyN l≤a) (g:a≤1000) (j:bz (aK l 0) l.length (fD l) (manyN l)):
 Calls prog 77 #[.slice b l.length c,.int .i64 (a:Int)] w fun e d=>(∃v,e= .returned (.tuple #[v,.int .i64 0])∧g6 w.heap.size v (fV (dE l) l) d)∧Below w.heap.size w d:=
 (Dt l a b c w f k m hF i g _ xI).mono fun _ _ h=>⟨h.1.1 j,h.2⟩
def PF (g:Nat) (a:List Nat) (k c h L:Nat) (w) (F:∀i,i<k→w.cell? ⟨g,i,none⟩=some (.int .i64 ((a.getD i 0:Nat):Int))) (J:0<k→a.getD 0 0=h) (W:k≤1000):
 Calls prog 132 #[.slice (some ⟨g,0,none⟩) k c,.int .i64 (h:Int),.int .i64 (L:Int)] w fun e N=>e= .returned (.bool (decide (bz h L a k)))∧Below w.heap.size w N:=by
 have H:=aa F;have U:=aa J;clear F J;have s:=aa (fun q (C:q<k) (l:g5 h L a q)=>DC C l);obtain⟨G,y⟩:∃G,G=decide (bz h L a k):=⟨_,rfl⟩;have S:=aa y;rw[←y]at s ⊢;clear y
 go_enter func132,ntmps132
 go_wp2
 go_loopw [1,11] (fun f i wr=>∃j p:Nat,j≤k∧i= .int .i64 (j:Int)∧f= .int .i64 (p:Int)∧Hid (p=if j=0 then h else a.getD (j-1) 0)∧Hid (bz h L a j)∧Below w.heap.size w wr) (fun _ i _=>k-(intOf i).toNat)
 case atStart=>exact⟨0,h,by omega,rfl,rfl,rfl,fun q C=>by omega,aP _ _⟩
 case round=>
  obtain⟨j,p,X,rfl,rfl,D,E,m⟩:=hrel;by_cases d:j<k
  ·have Q:decide ((j:Int)<(k:Int))=true:=by simp;omega
   have V:decide (j<k)=true:=by simp;omega
   have o:=aa ((m.cell (p:=⟨g,j,none⟩) (iE (H.out j d))).trans (H.out j d));obtain⟨x,r⟩:∃x,x=a.getD j 0:=⟨_,rfl⟩;rw[←r]at o;have n:=aa r;clear r;by_cases M:x<p
   ·have P:decide ((x:Int)<(p:Int))=true:=by simp;omega
    have A:decide (x<p)=true:=by simp;omega
    have u:=aa (s.out j d (Or.inr (Or.inl (by rw[←n.out,←D.out];exact M))))
    go_wp2_with (first
     |refine aC 63 ?_;refine ab (by rfl) _ (ai _ 63 3 _ _ rfl dZ 1 d6 g 0 k c rfl .i64 j rfl d j (by omega)) ?_
     |refine ag 3 ?_;refine dq (v:=(.int .i64 (x:Int))) o.out pi ?_ rfl rfl rfl rfl)
    exact cA rfl _ rfl rfl ⟨fB (fun b=>Ending.returned (.bool b)) u.out.symm,m⟩
   ·have P:decide ((x:Int)<(p:Int))=false:=by simp;omega
    have A:decide (x<p)=false:=by simp;omega
    by_cases K:L<x
    ·have O:decide ((L:Int)<(x:Int))=true:=by simp;omega
     have z:decide (L<x)=true:=by simp;omega
     have u:=aa (s.out j d (Or.inr (Or.inr (by rw[←n.out];exact K))))
     go_wp2_with (first
      |refine aC 63 ?_;refine ab (by rfl) _ (ai _ 63 3 _ _ rfl dZ 1 d6 g 0 k c rfl .i64 j rfl d j (by omega)) ?_
      |refine ag 3 ?_;refine dq (v:=(.int .i64 (x:Int))) o.out pi ?_ rfl rfl rfl rfl)
     exact cA rfl _ rfl rfl ⟨fB (fun b=>Ending.returned (.bool b)) u.out.symm,m⟩
    ·have O:decide ((L:Int)<(x:Int))=false:=by simp;omega
     have z:decide (L<x)=false:=by simp;omega
     have R:=aa (show ¬g5 h L a j by
      have T:=D.out;have I:=n.out;rintro(⟨rfl,l⟩|l|l)
      ·exact l (U.out d)
      ·rw[←T,←I]at l;exact M l
      ·rw[←I]at l;exact K l)
     go_wp2_with (first
      |refine aC 63 ?_;refine ab (by rfl) _ (ai _ 63 3 _ _ rfl dZ 1 d6 g 0 k c rfl .i64 j rfl d j (by omega)) ?_
      |refine ag 3 ?_;refine dq (v:=(.int .i64 (x:Int))) o.out pi ?_ rfl rfl rfl rfl)
     exact⟨⟨j+1,x,by omega,by go_num,rfl,by rw[an (by omega),rV];exact n.out,tO E.out R.out,m⟩,by simp[intOf];omega⟩
  ·obtain rfl:j=k:=by omega
   have Q:decide ((j:Int)<(j:Int))=false:=by simp
   have B:=aa (show G=true by rw[S.out];exact xz E.out);clear d;go_wp2;exact cA rfl _ rfl rfl ⟨fB (fun b=>Ending.returned (.bool b)) B.out.symm,m⟩
def L9 (l k) (p:l.length=k) (b o c w) (f:Row w (some ⟨b,o,none⟩) .u8 l) (z:k≤70368744177664):
 Calls prog 129 #[.slice (some ⟨b,o,none⟩) k c] w fun e d=>∃v,e= .returned v∧bc w.heap.size v l d∧Below w.heap.size w d:=by
 subst p;have g:=aa f;clear f
 go_enter func129,ntmps129
 have r:=fun w=>AR ⟨b,o,none⟩ l.length c w
 go_wp2_with (first
  |refine aV 39 ?_;refine aH rfl fun K j=>d' rfl (j _ _ ?_);clear j K
  |refine dy 39 ?_;refine cB (w0:=w) rfl _ _ rfl w.heap.size [] l _ rfl (bc.new bG [] (by decide) (ak _ _ _ _ rfl)) (some ⟨b,o,none⟩) c rfl (g.out.later dt) (by simp;omega) (by simp) (fun h=>by cases h) dt (fun y B a m n=>?_)
   rw[List.nil_append]at a;have i:=aa a;have q:=aa m
   clear a m n)
 obtain⟨u,A,e,_⟩:=i.out.row g.out.ok;subst e;exact cA rfl _ rfl rfl ⟨_,rfl,i.out,q.out⟩
def Kb (l a n c w) (d:Row w a .u8 l) (f:4≤l.length) (hn:l.length=n):
 Calls prog 131 #[.slice a n c] w fun e b=>e= .returned (.int .i64 (aK l 0:Nat))∧Below w.heap.size w b:=tP.2 l a n c w d f hn
def FrM (u:Nat→Value):Act:={tmps:=#[u 0,u 1,u 2,u 3,u 4,u 5,u 6,u 7,u 8,u 9,u 10,u 11,u 12,u 13,u 14,u 15,u 16,u 17,u 18,u 19,u 20,u 21,u 22,u 23,u 24,u 25,u 26,u 27,u 28,u 29,u 30,u 31,u 32,u 33,u 34,u 35,u 36,u 37,u 38,u 39,u 40,u 41,u 42,u 43,u 44,u 45,u 46,u 47,u 48,u 49,u 50,u 51,u 52,u 53,u 54,u 55,u 56,u 57,u 58,u 59,u 60,u 61,u 62,u 63,u 64,u 65,u 66,u 67,u 68,u 69,u 70,u 71,u 72,u 73,u 74,u 75,u 76,u 77,u 78,u 79,u 80,u 81,u 82,u 83,u 84,u 85,u 86,u 87,u 88],defers:=[]}
def AL (w:World) (a:Act) (W:World):Prop:=(∃u,a=FrM u)∧Below w.heap.size w W
def AL.of {w a W} (h:a=FrM fun k=>a.tmps.getD k undef) (b:Below w.heap.size w W):AL w a W:=⟨⟨_,h⟩,b⟩
def PJ (l:List Int) (a:Nat) (f:Option Addr) (c:Nat) (w) (h:l.length<4):
 Calls prog 67 #[.slice f l.length c,.int .i64 (a:Int)] w fun e d=>e= .returned (.tuple #[.slice none 0 0,.int .i64 (lR l a:Int)])∧Below w.heap.size w d:=by
 have j:decide ((a:Int)<0)=false:=by simp
 by_cases b:l.length=0
 ·rw[show lR l a=0 from aj b,b]
  go_enter func67,ntmps67
  go_wp2;refine fI 0 (fun _ _=>False) (fun _ _=>0) rfl (fun _ _ h=>h.elim) fun _=>?_;go_wp2;simp only[Exit.jump];exact bR rfl _ _ rfl rfl rfl ⟨rfl,aP _ _⟩
 ·rw[show lR l a=4 by unfold lR;rw[an b,aj h]]
  generalize l.length=L at*;have i:((L:Int)==0)=false:=by simp;omega
  have g:decide ((L:Int)<4)=true:=by simp;omega
  go_enter func67,ntmps67
  go_wp2;refine fI 0 (fun _ _=>False) (fun _ _=>0) rfl (fun _ _ h=>h.elim) fun _=>?_;go_wp2;simp only[Exit.jump];exact bR rfl _ _ rfl rfl rfl ⟨rfl,aP _ _⟩
def L7 (l:List Int) (d:Nat) (n:Option Addr) (c:Nat) (w) (g:cG n c l w) (H:l.length≤70368744177664) (K:¬l.length<4) (hF:jL l):
 Calls prog 67 #[.slice n l.length c,.int .i64 (d:Int)] w fun e v=>e= .returned (.tuple #[.slice none 0 0,.int .i64 5])∧Below w.heap.size w v:=by
 have G:=aa g;obtain⟨p,o,rfl,_⟩:=g.row.cell 0 (by omega);have J:=g.low p o rfl;have I:=g.cap;have F:decide ((d:Int)<0)=false:=by simp
 have E:((l.length:Int)==0)=false:=by rw[E7];omega
 have D:decide ((l.length:Int)<4)=false:=by rw[Cs];omega
 have s:((aK l 0:Nat):Int).tmod 4=((aK l 0%4:Nat):Int):=(xG (aK l 0) 4).symm;have q:((aK l 0:Nat):Int).tdiv 4=((manyN l:Nat):Int):=(xH (aK l 0) 4).symm;have i:=aa (tP.2 l (some ⟨p,o,none⟩) l.length c w g.row (by omega) rfl);clear g;have j:=aa hF;clear hF q;unfold jL at j
 go_enter func67,ntmps67
 go_wp2;refine fI 0 (AL w) (fun _ _=>0) rfl ?_ ?_
 ·rintro a W ⟨⟨u,rfl⟩,z⟩
  unfold FrM;go_wp2;simp only[Exit.jump];exact bR rfl _ _ rfl rfl rfl ⟨rfl,z⟩
 intro y;clear y;generalize aK l 0=f at*;by_cases A:f=0
 ·subst A
  clear s j
  go_wp2_with (first
   |with_reducible refine i.out.mono ?_
    rintro e W ⟨rfl,b⟩;have k:=aa b;clear b i
   |fail)
  exact wp_goto ⟨rfl,AL.of (by kernel_rfl) k.out⟩
 ·have N:((f:Int)==0)=false:=by simp;omega
  by_cases m:f%4=0
  ·have L:l.length<f:=by rcases j.out with h|h|h<;>omega
   have B:(((f%4:Nat):Int) !=0)=false:=by simp[m]
   have M:decide ((l.length:Int)<(f:Int))=true:=by simp;omega
   have C:decide (l.length<f)=true:=by simp;omega
   generalize f%4=r at*;clear j m
   go_wp2_with (first
    |with_reducible refine i.out.mono ?_
     rintro e W ⟨rfl,b⟩;have k:=aa b;clear b i
    |fail)
   exact wp_goto ⟨rfl,AL.of (by kernel_rfl) k.out⟩
  ·have B:(((f%4:Nat):Int) !=0)=true:=by simp;omega
   generalize f%4=r at*;clear j m
   go_wp2_with (first
    |with_reducible refine i.out.mono ?_
     rintro e W ⟨rfl,b⟩;have k:=aa b;clear b i
    |fail)
   exact wp_goto ⟨rfl,AL.of (by kernel_rfl) k.out⟩
def L6 (l a d c w) (b:cG d c l w) (F:l.length≤70368744177664) (I:¬l.length<4) (hF:¬jL l) (n:a<manyN l):
 Calls prog 67 #[.slice d l.length c,.int .i64 (a:Int)] w fun e m=>e= .returned (.tuple #[.slice none 0 0,.int .i64 6])∧Below w.heap.size w m:=by
 have E:=aa b;obtain⟨k,j,rfl,_⟩:=b.row.cell 0 (by omega);have H:=b.low k j rfl;have G:=b.cap;have D:decide ((a:Int)<0)=false:=by simp
 have C:((l.length:Int)==0)=false:=by rw[E7];omega
 have B:decide ((l.length:Int)<4)=false:=by rw[Cs];omega
 have A:((aK l 0:Nat):Int).tmod 4=((aK l 0%4:Nat):Int):=(xG (aK l 0) 4).symm;have z:((aK l 0:Nat):Int).tdiv 4=((manyN l:Nat):Int):=(xH (aK l 0) 4).symm;have g:=aa (tP.2 l (some ⟨k,j,none⟩) l.length c w b.row (by omega) rfl);clear b;have s:aK l 0≠0:=fun h=>hF (Or.inl h);have q:aK l 0%4=0:=qE fun h=>hF (Or.inr (Or.inl h))
 have J:aK l 0≤l.length:=by
  rcases oD l.length (aK l 0)with h|h
  ·exact absurd (Or.inr (Or.inr h)) hF
  ·exact h
 have o:aK l 0=4*manyN l:=by unfold manyN;omega
 have u:manyN l≤70368744177664:=by omega
 have O:(((aK l 0:Nat):Int)==0)=false:=by simp;omega
 have M:(((aK l 0%4:Nat):Int) !=0)=false:=by simp[q]
 have L:decide ((l.length:Int)<((aK l 0:Nat):Int))=false:=by simp;omega
 have y:decide (l.length<aK l 0)=false:=by simp;omega
 have K:decide ((a:Int)<(manyN l:Int))=true:=by simp;omega
 have v:decide (a<manyN l)=true:=by simp;omega
 go_enter func67,ntmps67
 go_wp2;refine fI 0 (fun _ _=>False) (fun _ _=>0) rfl (fun _ _ h=>h.elim) fun _=>?_;clear hF s o n;generalize manyN l=N at*;generalize aK l 0=f at*;generalize f%4=r at*
 go_wp2_with (first
  |with_reducible refine g.out.mono ?_
   rintro e W ⟨rfl,i⟩;have p:=aa i;clear i g
  |fail)
 simp only[Exit.jump];exact bR rfl _ _ rfl rfl rfl ⟨rfl,p.out⟩
def Uy:(prog.info? 39).map (fun i=>(i.zero,i.size,i.bytes))=some (some (.slice none 0 0),1,24):=by kernel_rfl
def Kg {a o} (w x y) (e:o.op= .makeSlice 114 x y) (n) (d:a x= .int .i64 (n:Int)) (c:a y= .int .i64 (n:Int)) (hn:n≤1000):
 (execOp a o).run prog w= .ok (.value (.slice (some ⟨w.heap.size,0,none⟩) n n)) (w.alloc (.cells (madeCells #[.slice none 0 0] n) 39)):=by
 obtain⟨i,f,b,hs,g⟩:=info_parts Uy;have h:=Cv (P:=prog) w 114 39 i _ cV f b .i64 .i64 n n (by omega) (vN _) (by rw[g];omega) (by omega);simp only[Int.toNat_natCast,hs,As]at h;unfold execOp;simp only[e,d,c,dN,h,Result.andThen_ok,Sem.run_pure];rfl
def Rb (G n q:Nat) (a:Nat→List Int) (W:World):Prop:=∃C:Array Value,W.heap[G]?=some (.cells C 39 (0,0))∧C.size=n∧∀i,i<q→∃c d,C[i]?=some (.slice c (a i).length d)∧cG c d (a i) W∧∀b o,c=some ⟨b,o,none⟩→G<b
def cG.apart {a c G m W f} (h:cG a c m W) (d:aL G W f) (k:∀b o,a=some ⟨b,o,none⟩→G<b):cG a c m f:=
 ⟨⟨fun j g=>by
   obtain⟨b,o,e,i⟩:=h.row.cell j g
   exact⟨b,o,e,(iP (w:=W) (d.block b (h.low b o e) (by have:=k b o e;omega))).trans i⟩,h.row.ok⟩,h.nil,h.cap,fun b o e=>du (h.low b o e) d.size⟩
def Rb.later {G n q a W W'} (h:Rb G n q a W) (b:Below W.heap.size W W'):Rb G n q a W':=by
 obtain⟨C,c,l,k⟩:=h
 exact⟨C,(b.block G (aD c)).trans c,l,fun i j=>by
  obtain⟨d,m,g,f,e⟩:=k i j
  exact⟨d,m,g,f.later b,e⟩⟩
def Rb.begin (n:Nat) (a:Nat→List Int) (W:World):Rb W.heap.size n 0 a (W.alloc (.cells (madeCells #[.slice none 0 0] n) 39)):=⟨_,ak _ _ _ _ rfl,by simp[madeCells],fun i b=>absurd b (xE _)⟩
def Rb.step {G n q part W d C a c} (w:W.heap[G]?=some (.cells C 39 (0,0))) (hn:C.size=n) (h:∀i,i<q→∃a c,C[i]?=some (.slice a (part i).length c)∧cG a c (part i) W∧∀b o,a=some ⟨b,o,none⟩→G<b) (u:q<n) (hs:cG a c (part q) W) (j:∀b o,a=some ⟨b,o,none⟩→G<b) (k:aL G W d) (r:d.heap[G]?=some (.cells (C.setIfInBounds q (.slice a (part q).length c)) 39 (0,0))):Rb G n (q+1) part d:=by
 refine⟨_,r,by simpa using hn,fun i v=>?_⟩;by_cases e:i=q
 ·subst e
  exact⟨a,c,by rw[th,aj rfl,aj (by omega)],hs.apart k j,j⟩
 ·obtain⟨l,f,p,m,g⟩:=h i (by omega)
  exact⟨l,f,by rw[th,an (fun s=>e s.symm)];exact p,m.apart k g,g⟩
def Rb.parts {G n c a W} (h:Rb G n n a W) (q:c≤G) {f} (p:f.length=n) (he:∀i,i<n→f.getD i []=a i):g6 c (.slice (some ⟨G,0,none⟩) n n) f W:=by subst p;obtain⟨C,j,u,r⟩:=h;refine⟨G,_,rfl,q,aD j,fun i g=>?_⟩;obtain⟨k,s,m,d,l⟩:=r i g;rw[he i g];exact⟨k,s,(br W G i C _ _ j).trans m,d.row,d.nil,d.cap,fun b o e=>⟨by have:=l b o e;omega,d.low b o e⟩⟩
def Dp (l o va c w) (V:cG va c l w) (cW:l.length≤70368744177664) (h4:¬l.length<4) (hF:¬jL l) (hm:manyN l≤o) (O2:o≤1000) (G:Prop) (sP:G↔bz (aK l 0) l.length (fD l) (manyN l)):
 Calls prog 67 #[.slice va l.length c,.int .i64 (o:Int)] w fun e y=>((G→∃v,e= .returned (.tuple #[v,.int .i64 0])∧g6 w.heap.size v (fV (dE l) l) y)∧(¬G→e= .returned (.tuple #[.slice none 0 0,.int .i64 5])))∧Below w.heap.size w y:=by
 have Bd:=aa V;obtain⟨I,H,rfl,_⟩:=V.row.cell 0 (by omega);have GG:=V.low I H rfl;have l_:=V.cap;have t0:decide ((o:Int)<0)=false:=by simp
 have t1:((l.length:Int)==0)=false:=by rw[E7];omega
 have t2:decide ((l.length:Int)<4)=false:=by rw[Cs];omega
 have x1:((aK l 0:Nat):Int).tmod 4=((aK l 0%4:Nat):Int):=(xG (aK l 0) 4).symm;have x2:((aK l 0:Nat):Int).tdiv 4=((manyN l:Nat):Int):=(xH (aK l 0) 4).symm;have jE:=aa (tP.2 l (some ⟨I,H,none⟩) l.length c w V.row (by omega) rfl);clear V;have Cl:=aa (fun(hg:G) q (hq:q<manyN l)=>DK l hF (sP.1 hg) hq);have mH:=aa (fun q (hq:q<manyN l)=>FR l hq);have kU:=aa (zY l);have pB:=aa (show (fV (dE l) l).length=manyN l by rw[dO];simp[dE]);have wt:=aa (fun i (L:i<manyN l)=>fN (dE l) l i (by simpa[dE]using L));have f0:aK l 0≠0:=fun h=>hF (Or.inl h);have f1:aK l 0%4=0:=qE fun h=>hF (Or.inr (Or.inl h))
 have f2:aK l 0≤l.length:=by
  rcases oD l.length (aK l 0)with h|h
  ·exact absurd (Or.inr (Or.inr h)) hF
  ·exact h
 have Rt:aK l 0=4*manyN l:=by unfold manyN;omega
 have hNb:manyN l≤70368744177664:=by omega
 have c1:(((aK l 0:Nat):Int)==0)=false:=by simp;omega
 have c2:(((aK l 0%4:Nat):Int) !=0)=false:=by simp[f1]
 have c3:decide ((l.length:Int)<((aK l 0:Nat):Int))=false:=by simp;omega
 have c3n:decide (l.length<aK l 0)=false:=by simp;omega
 have hG:=aa sP;clear sP;have c4:decide ((o:Int)<(manyN l:Int))=false:=by simp;omega
 have c4n:decide (o<manyN l)=false:=by simp;omega
 have Y0:=aa (fun j (hj:j<manyN l)=>DJ l hj);have Vj:=aa (show (fD l).length=manyN l by rw[tR];simp);have E1:=aa (fun(h:0<manyN l)=>show (fD l).getD 0 0=aK l 0 by rw[FW l h])
 go_enter func67,ntmps67
 go_wp2;refine fI 0 (fun a W=>AL w a W∧¬G) (fun _ _=>0) rfl ?_ fun SO=>?_
 ·rintro a W ⟨⟨⟨u,rfl⟩,Q⟩,R⟩
  unfold FrM;go_wp2;simp only[Exit.jump];exact bR rfl _ _ rfl rfl rfl ⟨⟨fun h=>absurd h R,fun _=>rfl⟩,Q⟩
 have Le:=aa hF;clear hF SO;generalize hN:manyN l=N at*;have BY:=aa hN;have Rs:=aa Rt;clear hN;generalize hff:aK l 0=f at*;have hf':=aa hff;generalize f%4=r at*;have fp:0<f:=by omega
 clear hff Rt f0
 go_wp2_with (first
  |with_reducible refine jE.out.mono ?_
   rintro e W ⟨rfl,D⟩;have fe:=aa D;clear D jE
  |fail)
 go_loopw [6,8] (fun x i wr=>∃j s:Nat,j≤N∧Hid (s=4*j)∧i= .int .i64 (s:Int)∧(∃va c,x= .slice va j c)∧wr.ownsRow w.heap.size 3 1 x j (((fD l).take j).map fun m:Nat=>Value.int .i64 (m:Int))∧Below w.heap.size w wr) (fun _ i _=>f-(intOf i).toNat)
 case atStart=>exact⟨0,0,by omega,rfl,rfl,⟨none,0,rfl⟩,⟨rfl,Or.inl ⟨rfl,rfl⟩⟩,fe.out⟩
 case round=>
  obtain⟨j,s,hj,hs,rfl,⟨vx,cx,rfl⟩,hX,Q⟩:=hrel;have O3:=aa hX;clear hX;by_cases X:j<N
  ·have hs4:s+4≤f:=by have:=hs.out;have:=Rs.out;omega
   have lt1:decide ((s:Int)<(f:Int))=true:=by simp;omega
   have lt2:decide (s<f)=true:=by simp;omega
   have dC:=aa (show Row wr (some ⟨I,H+s,none⟩) .u8 (l.drop s) by
    have h:=jk (Bd.out.row.later Q) s (l.length-s) (by omega)
    rwa [kL (by rw[bJ];exact cD _)]at h)
   have Ir:=aa (show (l.drop s).length=l.length-s by rw[bJ]);have RY:=aa (zO l s);have hA:=aa (Y0.out j X);have kt:=Q.size;clear Y0 fe;generalize (fD l).take j=A at*
   go_wp2_with (first
    |refine fj 39 ?_;refine ab (by rfl) _ (pg (P:=prog) _ 39 5 _ _ rfl bF 1 cR I H l.length c s rfl rfl (by omega) (by omega) (H+s) (by omega)) ?_
    |with_reducible refine(Kb _ _ (l.length-s) _ _ dC.out (by rw[Ir.out];omega) Ir.out).mono ?_
     rintro e W ⟨rfl,D⟩;rw[RY.out];have M:=aa (Q.trans (D.mono kt));have Ns:=aa (aU O3.out D);clear D
    |refine aV 63 ?_;refine aH rfl fun K z=>bV _ (bj _ 63 3 1 _ rfl dZ (.int .i64 0) 1 lV (by decide) (by decide) [.int .i64 ((aK l s:Nat):Int)] rfl rfl (by simp[Value.cells])) (z _ _ ?_);clear z K
    |refine dy 63 ?_;refine aH rfl fun K z=>eN (w0:=w) (n0:=w.heap.size) (.tmp 46) (.tmp 51) 63 3 rfl dZ (.int .i64 0) 1 8 ml rfl (by decide) w.heap.size j (.slice vx j cx) _ rfl (aU Ns.out dt) ⟨W.heap.size,0,none⟩ 1 1 rfl [.int .i64 ((aK l s:Nat):Int)] rfl (aE (ak _ _ _ _ rfl)) rfl (by simp[Value.oneCell']) (by omega) (by omega) (by rw[bn];have:=M.out.size;omega) bG (M.out.alloc M.out.size _) (fun v1 d E b1 z1 o1 q1=>z _ _ ?_);clear z K
     obtain⟨eE,Z,F,ig⟩:=aW E;clear ig o1 q1;subst F;have my:=aa E
     clear E)
   exact⟨⟨j+1,s+4,by omega,by show _=_;have:=hs.out;omega,by go_num,⟨eE,Z,rfl⟩,by rw[hA.out,kN,←hs.out];exact my.out,b1⟩,by simp[intOf];omega⟩
  ·obtain rfl:j=N:=by omega
   have hse:s=f:=by have:=hs.out;have:=Rs.out;omega
   subst hse;have jp:1≤j:=by have:=Rs.out;omega
   clear X Y0;have jV:=O3.out;rw[kL (by rw[Vj.out];exact cD _)]at jV
   obtain⟨g,rfl,Nr⟩:∃g,vx=some ⟨g,0,none⟩∧∀i,i<j→wr.cell? ⟨g,i,none⟩=some (.int .i64 (((fD l).getD i 0:Nat):Int)):=by
    rcases jV.2 with⟨F,e2⟩|⟨g,cap,cur,F,_⟩
    ·have:=Rs.out;omega
    ·cases F
     refine⟨g,rfl,fun i L=>?_⟩;rw[jV.cellAt i (by omega)];have Em:i<(fD l).length:=by rw[Vj.out];exact L
     simp[List.getD,Em]
   have vC:=aa jV;have Y:=aa (PF g (fD l) j cx s l.length wr Nr (fun h=>E1.out h) (by omega));have kt:=Q.size;clear jV Nr O3;by_cases R:G
   ·rw[xz (hG.out.1 R)]at Y
    go_wp2_with (first
     |with_reducible refine Y.out.mono ?_
      rintro e W ⟨rfl,D⟩;have M:=aa (Q.trans (D.mono kt));have Ns:=aa (aU vC.out D);clear Y vC D
     |refine aV 63 ?_;refine aH rfl fun K z=>bV _ (bj _ 63 3 1 _ rfl dZ (.int .i64 0) 1 lV (by decide) (by decide) [.int .i64 (l.length:Int)] rfl rfl (by simp[Value.cells])) (z _ _ ?_);clear z K
     |refine dy 63 ?_;refine aH rfl fun K z=>eN (w0:=w) (n0:=w.heap.size) (.tmp 59) (.tmp 62) 63 3 rfl dZ (.int .i64 0) 1 8 ml rfl (by decide) w.heap.size j (.slice (some ⟨g,0,none⟩) j cx) _ rfl (aU Ns.out dt) ⟨W.heap.size,0,none⟩ 1 1 rfl [.int .i64 (l.length:Int)] rfl (aE (ak _ _ _ _ rfl)) rfl (by simp[Value.oneCell']) (by omega) (by omega) (by rw[bn];have:=M.out.size;omega) bG (M.out.alloc M.out.size _) (fun v1 d E b1 z1 o1 q1=>z _ _ ?_);clear z K
      obtain⟨eE,Z,F,ig⟩:=aW E;clear ig o1 q1;subst F;have my:=aa E;clear E
     |refine nc 114 ?_;refine aH rfl fun K z=>bV _ (Kg _ _ _ rfl j rfl rfl (by omega)) (z _ _ ?_);clear z K)
    obtain⟨n,rfl,Eg,qc⟩:∃n,eE=some ⟨n,0,none⟩∧n<d.heap.size∧∀i,i<j+1→d.cell? ⟨n,i,none⟩=some (.int .i64 (((gU (dE l) l).getD i 0:Nat):Int)):=by
     rcases my.out.2 with⟨F,e2⟩|⟨n,cap,cur,F,e2,e3,e4⟩
     ·omega
     ·cases F
      refine⟨n,rfl,aD e3,fun i L=>?_⟩;rw[my.out.cellAt i (by omega),kU.out];have e5:((fD l).map fun m:Nat=>Value.int .i64 (m:Int))++[.int .i64 (l.length:Int)]=((fD l)++[l.length]).map fun m:Nat=>Value.int .i64 (m:Int):=by simp
      rw[e5,Ax];have Em:i<((fD l)++[l.length]).length:=by simp[Vj.out];exact L
      simp only[List.getD,fS Em,Option.map_some,Option.getD_some]
    have kO:=aa qc;have hM:=Rb.begin j (ik (dE l) l) d;have hBM:Below d.heap.size d (d.alloc (.cells (madeCells #[.slice none 0 0] j) 39)):=dt;clear qc my Ns M z1 kU Vj hf' Rs Le BY E1;have K4:w.heap.size≤d.heap.size:=b1.size;generalize hOO:gU (dE l) l=O at*;clear hOO;generalize d.alloc (.cells (madeCells #[.slice none 0 0] j) 39)=W3 at*
    go_loopw [10,69] (fun _ i wr=>∃q:Nat,q≤j∧i= .int .i64 (q:Int)∧Rb d.heap.size j q (ik (dE l) l) wr∧Below d.heap.size d wr) (fun _ i _=>j-(intOf i).toNat)
    case atStart=>exact⟨0,by omega,rfl,hM,hBM⟩
    case round=>
     obtain⟨B,hwv⟩:∃W,W=wr:=⟨_,rfl⟩;subst hwv;obtain⟨q,hq,rfl,fR,ei⟩:=hrel;clear hM hBM;by_cases X:q<j
     ·have vS:=aa (Bd.out.row.later (b1.trans (ei.mono K4)))
      have zn:=mH.out q X;obtain⟨HZ,hbL⟩:=Cl.out R q X;clear mH Cl;have hM':=aa fR;have xt:d.heap.size≤B.heap.size:=ei.size;clear fR;have XH:=kO.out q (by omega);have Eh:=kO.out (q+1) (by omega);generalize O.getD q 0=a at*;generalize O.getD (q+1) 0=b at*;have sW:=aa (fun W (h:Below d.heap.size d W)=>(h.cell (p:=⟨n,q,none⟩) Eg).trans XH);have sV:=aa (fun W (h:Below d.heap.size d W)=>(h.cell (p:=⟨n,q+1,none⟩) Eg).trans Eh);have wh:(ik (dE l) l q).length=b-a:=by rw[zn,cf,bJ];omega
      have dC:Row B (some ⟨I,if c=a then H else H+a*1,none⟩) .u8 (ik (dE l) l q):=by
       by_cases e:c=a
       ·refine⟨fun i L=>by omega,fun x hx=>?_⟩
        rw[zn]at hx;exact vS.out.ok x (kM (oH hx))
       ·rw[an e,As,zn]
        exact jk vS.out a (b-a) (by omega)
      have nS:=aa dC;have j3:=aa wh;clear dC wh zn XH Eh kO;generalize ik (dE l) l=part at*;obtain⟨po,Rl⟩:∃po,po=if c=a then H else H+a*1:=⟨_,rfl⟩
      rw[←Rl]at nS;have RW:=aa Rl;clear Rl;have lt1:decide ((q:Int)<(j:Int))=true:=by simp;omega
      have lt2:decide (q<j)=true:=by simp;omega
      go_wp2;rename_i K z;refine dQ (S:=fun y=>y.cell? ⟨n,q,none⟩=some (.int .i64 (a:Int))∧y.cell? ⟨n,q+1,none⟩=some (.int .i64 (b:Int))) (by kernel_rfl) ?_;have Lf:Below d.heap.size d ({B with drawn:=B.drawn+1}:World):=ei.drew;have hS:({B with drawn:=B.drawn+1}:World).cell? ⟨n,q,none⟩=some (.int .i64 (a:Int))∧({B with drawn:=B.drawn+1}:World).cell? ⟨n,q+1,none⟩=some (.int .i64 (b:Int)):=⟨sW.out _ Lf,sV.out _ Lf⟩;refine d5 0 (.slice (some ⟨d.heap.size,0,none⟩) j j) rfl (by kernel_rfl) (fun _=>by kernel_rfl) bH ‹_› ?_;go_frame;refine aJ (i:=1) (v:=(.int .i64 (q:Int))) rfl (by kernel_rfl) bH ‹_› (fun y T=>by go_simp) ?_;go_frame;refine kg 2 3 (.slice (some ⟨I,H,none⟩) l.length c) (.slice (some ⟨n,0,none⟩) (j+1) Z) rfl (by kernel_rfl) (fun _=>by kernel_rfl) bH ‹_› ?_;go_frame;refine aJ (i:=4) (v:=(.int .i64 (q:Int))) rfl (by kernel_rfl) bH ‹_› (fun y T=>by go_simp) ?_;go_frame;refine d5 7 (.slice (some ⟨n,0,none⟩) (j+1) Z) rfl (by kernel_rfl) (fun _=>by kernel_rfl) bH ‹_› ?_;go_frame;refine aJ (i:=8) (v:=(.int .i64 (q:Int))) rfl (by kernel_rfl) bH ‹_› (fun y T=>by go_simp) ?_;go_frame;have wA:IntKind.i64.wrap ((q:Int)+1)=(q:Int)+1:=by rw[bP];omega
      refine aJ (i:=9) (v:=(.int .i64 ((q:Int)+1))) rfl (by kernel_rfl) bH ‹_› (fun y T=>by go_simp) ?_;go_frame;refine aJ (i:=5) (v:=(.pointer (some ⟨n,q,none⟩))) rfl (by kernel_rfl) bH ‹_› (fun y _=>ai y 63 3 _ _ (by rfl) dZ 1 d6 n 0 (j+1) Z (by rfl) .i64 q (by rfl) (by omega) q (by omega)) ?_;go_frame;refine aJ (i:=10) (v:=(.pointer (some ⟨n,q+1,none⟩))) rfl (by kernel_rfl) bH ‹_› (fun y _=>bC y 63 3 _ _ (by rfl) dZ 1 d6 n 0 (j+1) Z (by rfl) .i64 ((q:Int)+1) (by rfl) (q+1) (by omega) (by omega) (q+1) (by omega)) ?_;go_frame;refine aJ (i:=6) (v:=(.int .i64 (a:Int))) rfl (by kernel_rfl) bH ‹_› (fun y T=>au _ 3 _ (by rfl) ⟨n,q,none⟩ (by rfl) _ T.1 _ pi rfl) ?_;go_frame;refine aJ (i:=11) (v:=(.int .i64 (b:Int))) rfl (by kernel_rfl) bH ‹_› (fun y T=>au _ 3 _ (by rfl) ⟨n,q+1,none⟩ (by rfl) _ T.2 _ pi rfl) ?_;go_frame;refine aJ (i:=12) (v:=(.slice (some ⟨I,po,none⟩) (b-a) (c-a))) rfl (by kernel_rfl) bH ‹_› (fun y _=>RW.out▸mt (P:=prog) y 39 5 (.tmp 74) (.tmp 78) (.tmp 83) (by rfl) bF 1 cR I H l.length c a b (by rfl) (by rfl) (by rfl) HZ (by omega)) ?_;go_frame;have Cj:Below B.heap.size B ({B with drawn:=B.drawn+1}:World):=(aP _ B).drew;refine cQ (i:=13) rfl (by kernel_rfl) rfl (it 129 #[.slice (some ⟨I,po,none⟩) (b-a) (c-a)] (by go_simp) _ (L9 (part q) (b-a) j3.out I po (c-a) _ (nS.out.later Cj) (by omega)) ?_);rintro v W4 ⟨E,B4⟩;have J:Below B.heap.size B W4:=Cj.trans B4;obtain⟨vp,pc,F,sS,Nl⟩:=E.row nS.out.ok
      have Ek:vp=none→pc=0:=by
       obtain⟨eR,c',e',vt⟩:=aW E;rw[F]at e';injection e' with e5 e6 e7
       subst e5;subst e7;exact vt
      subst F;have H2:=xY E;have hM4:=hM'.out.later J;obtain⟨C,hC,hCn,BE⟩:=hM4;have Lc:Below d.heap.size d W4:=ei.trans (J.mono xt);have BW:W4.cell? ⟨n,q,none⟩=some (.int .i64 (a:Int))∧W4.cell? ⟨n,q+1,none⟩=some (.int .i64 (b:Int)):=⟨sW.out _ Lc,sV.out _ Lc⟩;refine⟨BW,?_⟩;go_frame;refine aJ (i:=14) (v:=(.pointer (some ⟨d.heap.size,q,none⟩))) rfl (by kernel_rfl) bH ‹_› (fun y _=>ai y 114 39 _ _ (by rfl) cV 1 dv d.heap.size 0 j j (by rfl) .i64 q (by rfl) (by omega) q (by omega)) ?_;go_frame;refine cQ (i:=15) rfl (by kernel_rfl) rfl (bt 39 _ _ rfl d.heap.size q rfl _ rfl rfl dv _ _ hC (by omega) (fun W5 BZ Er=>?_));have U:Below d.heap.size d W5:=Er.below Lc bG Lc.size;have pj:=aa (Rb.step hC hCn BE X ⟨sS,Ek,Nl,fun b' o' e=>(H2 b' o' e).2⟩ (fun b' o' e=>by have:=(H2 b' o' e).1;have:B.heap.size≤b':=this;have:=aD ((J.block d.heap.size (by obtain⟨_,k,_⟩:=hM'.out;exact aD k)).symm.trans hC);omega) Er BZ);refine⟨⟨sW.out _ U,sV.out _ U⟩,?_⟩;go_frame;refine dM (by kernel_rfl) ?_ _
      try simp only[Exit.then]
      refine z _ _ ?_;clear hS BW Lf z K hC hCn BE BZ Er sS Ek Nl H2 E B4 J Lc Cj;go_wp2;exact⟨⟨q+1,by omega,by go_num,pj.out,U⟩,by simp[intOf];omega⟩
     ·obtain rfl:q=j:=by omega
      have lt1:decide ((q:Int)<(q:Int))=false:=by simp
      go_wp2;simp only[Exit.jump];exact bR rfl _ _ rfl rfl rfl ⟨⟨fun _=>⟨_,rfl,fR.parts K4 pB.out (fun i L=>wt.out i L)⟩,fun h=>absurd R h⟩,b1.trans (ei.mono K4)⟩
   ·rw[IH (fun h=>R (hG.out.2 h))]at Y
    go_wp2_with (
     ((with_reducible refine Y.out.mono ?_)
      rintro e W ⟨rfl,D⟩
      clear Y))
    exact wp_goto ⟨rfl,AL.of (by kernel_rfl) (Q.trans (D.mono kt)),R⟩
def L5 (l a b c w) (f:cG b c l w) (k:l.length≤70368744177664) (m:¬l.length<4) (hF:¬jL l) (i:manyN l≤a) (g:a≤1000) (j:¬bz (aK l 0) l.length (fD l) (manyN l)):
 Calls prog 67 #[.slice b l.length c,.int .i64 (a:Int)] w fun e d=>e= .returned (.tuple #[.slice none 0 0,.int .i64 5])∧Below w.heap.size w d:=
 (Dp l a b c w f k m hF i g _ xI).mono fun _ _ h=>⟨h.1.2 j,h.2⟩
def TI (l a b c w) (f:cG b c l w) (k:l.length≤70368744177664) (m:¬l.length<4) (hF:¬jL l) (i:manyN l≤a) (g:a≤1000) (j:bz (aK l 0) l.length (fD l) (manyN l)):
 Calls prog 67 #[.slice b l.length c,.int .i64 (a:Int)] w fun e d=>(∃v,e= .returned (.tuple #[v,.int .i64 0])∧g6 w.heap.size v (fV (dE l) l) d)∧Below w.heap.size w d:=
 (Dp l a b c w f k m hF i g _ xI).mono fun _ _ h=>⟨h.1.1 j,h.2⟩
def QG (k c L s m f w) (hL:L≤70368744177664) (z:1≤s) (he:jt L s m=f) (d:f≠0):
 Calls prog 65 #[.slice k L c,.int .i64 (s:Int),.int .i64 (m:Int)] w fun e j=>e= .returned (.tuple #[.slice none 0 0,.int .i64 f])∧w=j:=by
 have h:(L:Int).tmod (s:Int)=((L%s:Nat):Int):=(xG L s).symm;have o:(L:Int).tdiv (s:Int)=((L/s:Nat):Int):=(xH L s).symm;have y:decide ((s:Int)<1)=false:=by simp;omega
 have v:decide ((m:Int)<0)=false:=by simp
 have u:((s:Int)==0)=false:=by simp;omega
 have r:¬((s:Int)=0):=by omega
 have q:¬(s=0):=by omega
 subst he;refine(IQ (n:=3)).1 ?_;refine Sv func65 rfl trivial ?_ rfl;simp only[ntmps65,cI,List.length_cons,List.length_nil,Nat.reduceAdd,Nat.reduceSub,oK,Array.replicate_zero,oG,oJ,List.nil_append,List.cons_append];unfold jt at d ⊢;by_cases b:L%s≠0
 ·simp only[aj b]
  obtain⟨x,a⟩:∃x,x=L%s:=⟨_,rfl⟩;rw[←a]at h b;have l:((x:Int) !=0)=true:=by simp;omega
  clear d a b
  gi_wp2
  exact⟨.tuple #[.slice none 0 0,.int .i64 4],by simp[results,Tryz.f65,go_sem],rfl,rfl⟩
 ·by_cases g:m<L/s
  ·have i:L%s=0:=by omega
   simp only[an b,aj g];rw[i]at h;obtain⟨x,a⟩:∃x,x=L/s:=⟨_,rfl⟩;have p:x≤L:=a▸Nat.div_le_self _ _;rw[←a]at o g;have l:decide ((m:Int)<(x:Int))=true:=by simp;omega
   clear d a b i
   gi_wp2
   exact⟨.tuple #[.slice none 0 0,.int .i64 6],by simp[results,Tryz.f65,go_sem],rfl,rfl⟩
  ·exact absurd (by simp only[an b,an g]) d
def d9 (a:Nat) (v:Value) (b:List (List Int)) (W:World):Prop:=(b=[]∧v= .slice none 0 0)∨g6 a v b W
def d9.later {b v a W W'} (h:d9 b v a W) (c:Below W.heap.size W W'):d9 b v a W':=by
 rcases h with h|h
 ·exact Or.inl h
 ·exact Or.inr (h.later c)
def kQ (l:List Int) (a:Nat):List (List Int):=if l.length=0 then[]else if lR l a=0 then fV (dE l) l else[]
def mQ (l:List Int) (s m:Nat):List (List Int):=if jt l.length s m=0 then(List.range (l.length/s)).map fun i=>(l.drop (s*i)).take s else[]
def Oc (f:Nat):Prop:=∀(l:List Int) (a:Nat) (d:Option Addr) (c:Nat) (w:World),cG d c l w→l.length≤70368744170000→a≤1000→
 Calls prog f #[.slice d l.length c,.int .i64 (a:Int)] w fun e b=>(∃v,e= .returned (.tuple #[v,.int .i64 (lR l a:Int)])∧d9 w.heap.size v (kQ l a) b)∧Below w.heap.size w b
def Oe (d:Nat):Prop:=∀(s m:Nat) (l:List Int) (b:Option Addr) (c:Nat) (w:World),cG b c l w→l.length≤70368744170000→1≤s∧s≤65536→m≤1000→
 Calls prog d #[.slice b l.length c,.int .i64 (s:Int),.int .i64 (m:Int)] w fun e a=>(∃v,e= .returned (.tuple #[v,.int .i64 (jt l.length s m)])∧d9 w.heap.size v (mQ l s m) a)∧Below w.heap.size w a
def PI:Oc 67:=by
 intro l a h c w hs hl m;by_cases f:l.length<4
 ·refine(PJ l a h c w f).mono fun e i ⟨d,b⟩=>⟨⟨_,d,Or.inl ⟨?_,rfl⟩⟩,b⟩
  unfold kQ;by_cases g:l.length=0
  ·rw[aj g]
  ·rw[an g,an]
   unfold lR;rw[an g,aj f];decide
 ·have g:l.length≠0:=by omega
  unfold kQ lR;rw[an g,an g,an f];by_cases hF:jL l
  ·rw[aj hF]
   exact(L7 l a h c w hs (by omega) f hF).mono fun e i ⟨d,b⟩=>⟨⟨_,d,Or.inl ⟨rfl,rfl⟩⟩,b⟩
  ·rw[an hF]
   by_cases k:a<manyN l
   ·rw[aj k]
    exact(L6 l a h c w hs (by omega) f hF k).mono fun e i ⟨d,b⟩=>⟨⟨_,d,Or.inl ⟨rfl,rfl⟩⟩,b⟩
   ·rw[an k]
    by_cases j:bz (aK l 0) l.length (fD l) (manyN l)
    ·rw[aj j]
     exact(TI l a h c w hs (by omega) f hF (by omega) m j).mono fun e i ⟨⟨v,d,n⟩,b⟩=>⟨⟨v,d,Or.inr n⟩,b⟩
    ·rw[an j]
     exact(L5 l a h c w hs (by omega) f hF (by omega) m j).mono fun e i ⟨d,b⟩=>⟨⟨_,d,Or.inl ⟨rfl,rfl⟩⟩,b⟩
def FH:Oc 77:=by
 intro l a h c w hs hl m;by_cases f:l.length<4
 ·refine(PW l a h c w f).mono fun e i ⟨d,b⟩=>⟨⟨_,d,Or.inl ⟨?_,rfl⟩⟩,b⟩
  unfold kQ;by_cases g:l.length=0
  ·rw[aj g]
  ·rw[an g,an]
   unfold lR;rw[an g,aj f];decide
 ·have g:l.length≠0:=by omega
  unfold kQ lR;rw[an g,an g,an f];by_cases hF:jL l
  ·rw[aj hF]
   exact(Ml l a h c w hs (by omega) f hF).mono fun e i ⟨d,b⟩=>⟨⟨_,d,Or.inl ⟨rfl,rfl⟩⟩,b⟩
  ·rw[an hF]
   by_cases k:a<manyN l
   ·rw[aj k]
    exact(Mk l a h c w hs (by omega) f hF k).mono fun e i ⟨d,b⟩=>⟨⟨_,d,Or.inl ⟨rfl,rfl⟩⟩,b⟩
   ·rw[an k]
    by_cases j:bz (aK l 0) l.length (fD l) (manyN l)
    ·rw[aj j]
     exact(TV l a h c w hs (by omega) f hF (by omega) m j).mono fun e i ⟨⟨v,d,n⟩,b⟩=>⟨⟨v,d,Or.inr n⟩,b⟩
    ·rw[an j]
     exact(Mj l a h c w hs (by omega) f hF (by omega) m j).mono fun e i ⟨d,b⟩=>⟨⟨_,d,Or.inl ⟨rfl,rfl⟩⟩,b⟩
def g6.uW {b f v a W} (h:g6 b v a W) (w:f≤b):g6 f v a W:=by obtain⟨g,c,s,y,r,q⟩:=h;refine⟨g,c,s,by omega,r,fun i p=>?_⟩;obtain⟨j,u,n,m,l,k,d⟩:=q i p;exact⟨j,u,n,m,l,k,fun b o e=>⟨by have:=(d b o e).1;omega,(d b o e).2⟩⟩
def iL.Tc {a b k v p W} (h:iL a k v p W) (j:b≤a):d9 b v ((List.range k).map p) W:=by
 by_cases f:k=0
 ·subst f
  obtain⟨o,l,q,_⟩:=h;rcases l.2 with⟨e,_⟩|⟨g,d,n,e,r,m,_⟩
  ·exact Or.inl ⟨rfl,e⟩
  ·exact Or.inr ⟨g,d,e,by omega,aD m,fun i c=>absurd c (xE _)⟩
 ·exact Or.inr ((h.parts (by omega) _ (by simp) fun i c=>by simp[List.getD,c]).uW j)
def PL:Oe 65:=by
 intro s m l d c w hs hl f o;unfold mQ;by_cases he:jt l.length s m=0
 ·rw[aj he,he]
  have n:l.length%s=0:=qE fun h=>by unfold jt at he;rw[aj h]at he;exact absurd he (by decide)
  have k:l.length/s≤m:=by
   rcases oD m (l.length/s)with h|h
   ·unfold jt at he;rw[an (by omega),aj h]at he;exact absurd he (by decide)
   ·exact h
  have j:s*(l.length/s)=l.length:=Si (Sj n);exact(To s m l.length ⟨f.1,by omega⟩ (by omega) l (l.length/s) k j.symm (by omega) rfl d c w hs).mono fun e g ⟨⟨v,b,a⟩,i⟩=>⟨⟨v,b,a.Tc (by omega)⟩,i⟩
 ·rw[an he]
  exact(QG d c l.length s m _ w (by omega) f.1 rfl he).mono fun e g ⟨b,a⟩=>⟨⟨_,b,Or.inl ⟨rfl,rfl⟩⟩,a▸aP _ _⟩
def FM:Oe 75:=by
 intro s m l f c w hs hl d o;unfold mQ;by_cases he:jt l.length s m=0
 ·rw[aj he,he]
  have n:l.length%s=0:=qE fun h=>by unfold jt at he;rw[aj h]at he;exact absurd he (by decide)
  have k:l.length/s≤m:=by
   rcases oD m (l.length/s)with h|h
   ·unfold jt at he;rw[an (by omega),aj h]at he;exact absurd he (by decide)
   ·exact h
  have j:s*(l.length/s)=l.length:=Si (Sj n);exact(FO l (l.length/s) s m l.length k d.1 j rfl (by omega) d.2 (by omega) f c w hs).mono fun e g ⟨⟨v,b,a⟩,i⟩=>⟨⟨v,b,a.Tc (by omega)⟩,i⟩
 ·rw[an he]
  exact(FN f c l.length s m _ w (by omega) d.1 rfl he).mono fun e g ⟨b,a⟩=>⟨⟨_,b,Or.inl ⟨rfl,rfl⟩⟩,a▸aP _ _⟩
def lZ (a:List (List Int)):List Int:=eS (List.replicate a.length 0) a
def A_ {s:Nat}:∀{a:List (List Int)},(∀p∈a,p.length=s)→a.flatten.length=s*a.length
 |[],_=>by simp
 |p::a,h=>by rw[List.flatten_cons,bM,A_ fun q b=>h q (by simp[b]),h p (by simp),List.length_cons,Nat.mul_succ,Cu]
def DR {s:Nat}:∀{a:List (List Int)} (i:Nat),(∀p∈a,p.length=s)→i<a.length→(a.flatten.drop (s*i)).take s=a.getD i []
 |[],i,_,hi=>absurd hi (xE _)
 |p::a,0,h,_=>by rw[List.flatten_cons,Nat.mul_zero,rZ,Sk (h p (by simp))];rfl
 |p::a,i+1,h,hi=>by rw[List.flatten_cons,Nat.mul_succ,Cu,←lO,Az (h p (by simp)),DR i (fun q b=>h q (by simp[b])) (by simpa using hi)];rfl
def yK {b:Type} {d n} (l:List b) (f) (hn:l.length=n) (h:∀i,i<n→f i=l.getD i d):(List.range n).map f=l:=by
 refine mG fun i=>?_;by_cases a:i<n
 ·rw[Ax,So a,Option.map_some,h i a,List.getD,fS (by omega)]
  rfl
 ·rw[eT (by simp;omega),eT (by omega)]
def QF {ps s m} (hs:1≤s) (h:∀p∈ps,p.length=s) (hn:ps.length≤m):jt ps.flatten.length s m=0∧mQ ps.flatten s m=ps:=by
 have hl:=A_ h;have a:ps.flatten.length/s=ps.length:=by rw[hl,Nat.mul_div_cancel_left _ (by omega)]
 have he:jt ps.flatten.length s m=0:=by unfold jt;rw[a,hl,Nat.mul_mod_right,an (by simp),an (by omega)]
 refine⟨he,?_⟩;unfold mQ;rw[aj he,a];exact yK ps _ rfl fun i b=>DR i h b
def A9 {s:Nat}:∀(n:Nat) (l:List Int),l.length=s*n→((List.range n).map fun i=>(l.drop (s*i)).take s).flatten=l
 |0,l,h=>by rw[Nat.mul_zero]at h;rw[s9.1 h];rfl
 |n+1,l,h=>by
  rw[Sl,qC,Fc,List.flatten_cons,Nat.mul_zero,rZ];have a:=A9 n (l.drop s) (by rw[bJ,h,Nat.mul_succ,rV])
  have e:((fun i=>(l.drop (s*i)).take s)∘Nat.succ)=fun i=>((l.drop s).drop (s*i)).take s:=by
   funext i
   show (l.drop (s*(i+1))).take s=_;rw[lO,Nat.mul_succ,Cu]
  rw[e,a,jI]
def zW {l s m} (hs:1≤s) (he:jt l.length s m=0):(mQ l s m).flatten=l∧(mQ l s m).length≤m∧∀p∈mQ l s m,p.length=s:=by
 have e:l.length%s=0:=qE fun h=>by unfold jt at he;rw[aj h]at he;exact absurd he (by decide)
 have d:l.length/s≤m:=by
  rcases oD m (l.length/s)with h|h
  ·unfold jt at he;rw[an (by omega),aj h]at he;exact absurd he (by decide)
  ·exact h
 have c:s*(l.length/s)=l.length:=Si (Sj e);unfold mQ;rw[aj he];refine⟨A9 _ l c.symm,by simpa using d,fun p b=>?_⟩;obtain⟨i,a,rfl⟩:=ft.1 b;have a:=rW.1 a;have:=CV (s:=s) a;rw[cf,bJ];omega
def JJ (a):Fits (List.replicate a.length 0) a:=⟨by simp,fun i c b=>absurd (by simp[List.getD,show i<a.length by simpa using c]) b⟩
def A7 (a):(lZ a).length=4*a.length+(layK (headN (List.replicate a.length 0)) (List.replicate a.length 0) a a.length).2.length:=by unfold lZ;rw[ko (JJ a),mS,vK]
def Uc {a b} (hn:a.length≤b) (hl:(lZ a).length<4294967296):lR (lZ a) b=0∧kQ (lZ a) b=a:=by
 rcases E' a.length with c|c
 ·rw[s9.1 c]
  exact⟨rfl,rfl⟩
 ·have hL:=A7 a
  have e:=JJ a
  have d:aK (lZ a) 0=4*a.length:=by have:=OB e hl 0 (by simpa using c) (by simp[List.getD,c]);rw[mS]at this;exact this
  have f:manyN (lZ a)=a.length:=by unfold manyN;rw[d];omega
  have hZ:dE (lZ a)=List.replicate a.length 0:=by unfold dE;rw[f]
  have hF:¬jL (lZ a):=by unfold jL;rw[d];omega
  have g:bz (aK (lZ a) 0) (lZ a).length (fD (lZ a)) (manyN (lZ a)):=by have:=JA e hl;rw[mS,vK,zZ bG]at this;unfold fD;rw[f,hZ,d];exact this
  have he:lR (lZ a) b=0:=by unfold lR;rw[an (by omega),an (by omega),an hF,an (by omega),aj g]
  refine⟨he,?_⟩;unfold kQ;rw[an (by omega),aj he,hZ];exact OP e hl
def Ul {l a} (i:∀x∈l,CK.ok .u8 x) (he:lR l a=0):lZ (kQ l a)=l∧(kQ l a).length≤a:=by
 unfold kQ;by_cases b:l.length=0
 ·rw[aj b,s9.1 b]
  exact⟨rfl,qB _⟩
 ·rw[an b,aj he]
  unfold lR at he;rw[an b]at he;by_cases g:l.length<4
  ·rw[aj g]at he;exact absurd he (by decide)
  ·rw[an g]at he
   by_cases hF:jL l
   ·rw[aj hF]at he;exact absurd he (by decide)
   ·rw[an hF]at he
    by_cases e:a<manyN l
    ·rw[aj e]at he;exact absurd he (by decide)
    ·rw[an e]at he
     by_cases c:bz (aK l 0) l.length (fD l) (manyN l)
     ·have j:aK l 0=4*manyN l:=by unfold jL at hF;unfold manyN;omega
      have f:headN (dE l)=aK l 0:=by unfold dE;rw[mS,j]
      have hn:(dE l).length=manyN l:=by simp[dE]
      have d:(cutA (dE l) (dE l).length).length=manyN l:=by rw[hn];exact zZ bG
      have:=OC (zs:=dE l) i (by rw[f];unfold jL at hF;omega) (by rw[f,d,hn];exact c) (fun h=>by rw[d]at h;unfold jL at hF;omega);have hl:(fV (dE l) l).length=manyN l:=by rw[dO,hn]
      refine⟨?_,by omega⟩;unfold lZ;rw[hl];exact this.2
     ·rw[an c]at he;exact absurd he (by decide)
def P6 (N b a j m hs n d g i c w) (h:sA N b a j hs n d w) (E:b+1≤N) (q:bc N (.slice i m.length c) m w) (k:a.length+m.length≤70368744170000):
 Calls prog 28 #[.pointer (some ⟨b,0,none⟩),.slice i m.length c,.int .i64 g] w fun e o=>e= .returned (.tuple #[])∧mA b (a++m) j hs n (if d=0 then g else d) o∧Below b w o:=by
 have P:=h.gen.size;obtain⟨v,r,h,e,A⟩:=h.beside E q;have hF:=aa (zM b v r h e a j hs n d g _ w A);generalize (if d=0 then g else d)=Q at*;clear q A
 go_enter func28,ntmps28
 go_wp2_with (first
  |with_reducible refine hF.out.mono ?_
   rintro R z ⟨rfl,f,u⟩;have H:=aa f;have G:=aa (u.below (aP b w) bG (by omega));have B:=aa (oU (f.own.own 4 _ rfl));have C:=aa (BN (f.own.own 4 _ rfl));clear f u hF
  |refine ag 39 ?_;refine dq (v:=v) (H.out.cell 0) bF ?_ rfl rfl rfl rfl
  |refine be .append ?_;refine jb (w0:=z) (n0:=b+1) rfl (.tmp 13) (.tmp 14) 39 5 rfl bF (.int .u8 0) 1 1 qP rfl (by decide) (b+1) _ 0 a.length v _ rfl rfl H.out.own i m.length c rfl C.out (m.map (Value.int .u8)) (by simp) B.out zz (by omega) (by omega) H.out.size bG (aP _ z) ?_
   intro M S U D k y J _ _;have I:=aa (NW (l:=a++m) (by simp) (by rw[kN]) k);clear k D
  |refine al 39 ?_;refine aH rfl fun K s=>bt 39 _ _ rfl b 0 rfl _ rfl rfl dv _ _ ((y.block b (by omega)).trans H.out.cells) (by simp[nX]) (fun T F p=>s _ _ ?_);clear s K)
 exact g8 rfl rfl ⟨rfl,⟨_,_,_,_,(iK.put I.out p F).drop⟩,G.out.trans (p.below (y.mono (by omega)) bG (by have:=H.out.size;omega))⟩
end Go.Proofs.YtjeoeibdgciafaaGreatDoor
