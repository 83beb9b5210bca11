/- Steps of the proof. -/
import Derived.Test.YtjeoeibdgciafaaGreatDoorM4
set_option linter.all false
set_option maxRecDepth 100000
set_option maxHeartbeats 16000000
namespace Go.Proofs.YtjeoeibdgciafaaGreatDoor
open Go.RowKit BigFrame
open Go.Proofs.Tryz
def owB (v:Value) (l:List Int):Ow:=⟨5,1,v,l.length,l.map (Value.int .u8)⟩
def Vv (v:Value) (l:List Nat):Ow:=⟨3,1,v,l.length,l.map fun n:Nat=>Value.int .i64 (n:Int)⟩
def nX (v r h e:Value) (er:Int):Array Value:=#[v,r,h,e,.int .i64 er]
def uZ (v r h e:Value) (hd rs:List Int) (hs es:List Nat) (xs:List Ow):List Ow:=owB v hd::owB r rs::Vv h hs::Vv e es::xs
structure iK (b:Nat) (v r h e:Value) (hd rs:List Int) (hs es:List Nat) (er:Int) (xs:List Ow) (w:World):Prop where
 cells:w.heap[b]?=some (.cells (nX v r h e er) 65 (0,0))
 own:pm (b+1) (uZ v r h e hd rs hs es xs) w
def mA (b:Nat) (hd rs:List Int) (hs es:List Nat) (er:Int) (w:World):Prop:=∃v r h e,iK b v r h e hd rs hs es er [] w
section
variable {b:Nat} {v r h e:Value} {hd rs:List Int} {hs es:List Nat} {er:Int} {xs:List Ow} {w w':World}
theorem iK.size (H:iK b v r h e hd rs hs es er xs w):b+1≤w.heap.size:=aD H.cells
theorem iK.cell (H:iK b v r h e hd rs hs es er xs w) (j):w.cell? ⟨b,j,none⟩=(nX v r h e er)[j]?:=by rw[br w b j _ _ _ H.cells]
theorem iK.later (H:iK b v r h e hd rs hs es er xs w) (a:Below w.heap.size w w'):iK b v r h e hd rs hs es er xs w':=⟨(a.block b (aD H.cells)).trans H.cells,H.own.later a⟩
theorem iK.drew (H:iK b v r h e hd rs hs es er xs w) (k):iK b v r h e hd rs hs es er xs {w with drawn:=k}:=H.later ⟨rfl,rfl,rfl,cD _,fun _ _=>rfl⟩
theorem iK.alloc (H:iK b v r h e hd rs hs es er xs w) (o:Obj):iK b v r h e hd rs hs es er xs (w.alloc o):=H.later dt
theorem mA.later (H:mA b hd rs hs es er w) (a:Below w.heap.size w w'):mA b hd rs hs es er w':=by obtain⟨v,r,h,e,H⟩:=H;exact⟨v,r,h,e,H.later a⟩
theorem mA.size (H:mA b hd rs hs es er w):b+1≤w.heap.size:=by obtain⟨v,r,h,e,H⟩:=H;exact H.size
theorem iK.form (H:iK b v r h e hd rs hs es er xs w):(∃a c,v= .slice a hd.length c)∧(∃a c,r= .slice a rs.length c)∧(∃a c,h= .slice a hs.length c)∧∃a c,e= .slice a es.length c:=by
 refine⟨?_,?_,?_,?_⟩
 ·obtain⟨a,c,d,_⟩:=aW (H.own.own 0 _ rfl);exact⟨a,c,d⟩
 ·obtain⟨a,c,d,_⟩:=aW (H.own.own 1 _ rfl);exact⟨a,c,d⟩
 ·obtain⟨a,c,d,_⟩:=aW (H.own.own 2 _ rfl);exact⟨a,c,d⟩
 ·obtain⟨a,c,d,_⟩:=aW (H.own.own 3 _ rfl);exact⟨a,c,d⟩
end
def NU:(prog.info? 63).map (·.size)=some 1:=by kernel_rfl
def F6:(prog.info? 3).map (fun i=>(i.zero,i.size,i.bytes))=some (some (.int .i64 0),1,8):=by kernel_rfl
def oo:(prog.info? 3).map (fun i=>(i.zero,i.size))=some (some (.int .i64 0),1):=by kernel_rfl
def qP:(prog.info? 5).map (fun i=>(i.zero,i.size,i.bytes))=some (some (.int .u8 0),1,1):=by kernel_rfl
def Uw:(prog.info? 5).map (fun i=>(i.zero,i.size))=some (some (.int .u8 0),1):=by kernel_rfl
def oe:(prog.info? 65).map (fun i=>(i.zero,i.size))=some (some (.agg (nX (.slice none 0 0) (.slice none 0 0) (.slice none 0 0) (.slice none 0 0) 0)),5):=by kernel_rfl
def mA.new (w:World) (b:Nat) (d:w.heap.size=b):mA b [] [] [] [] 0 (w.alloc (.cells (nX (.slice none 0 0) (.slice none 0 0) (.slice none 0 0) (.slice none 0 0) 0) 65)):=by
 refine⟨.slice none 0 0,.slice none 0 0,.slice none 0 0,.slice none 0 0,ak _ _ _ _ d.symm,fun i x a=>?_,fun i j x y _ a f k c=>?_⟩
 ·have hn:x.v= .slice none 0 0∧x.n=0∧x.cs=[]:=by
   match i,a with
   |0,a=>cases a;exact⟨rfl,rfl,rfl⟩
   |1,a=>cases a;exact⟨rfl,rfl,rfl⟩
   |2,a=>cases a;exact⟨rfl,rfl,rfl⟩
   |3,a=>cases a;exact⟨rfl,rfl,rfl⟩
  exact⟨by rw[hn.2.2,hn.2.1];simp,Or.inl ⟨hn.1,hn.2.1⟩⟩
 ·have hn:x.v= .slice none 0 0:=by
   match i,a with
   |0,a=>cases a;rfl
   |1,a=>cases a;rfl
   |2,a=>cases a;rfl
   |3,a=>cases a;rfl
  rw[hn]at c;cases c
def dH {c o} (w a) (g:o.op= .buildSlice 63 1 a) (n) (f:(a.toList.map fun p=>(p.1,c p.2))=[(0,.int .i64 n)]):
 (execOp c o).run prog w= .ok (.value (.slice (some ⟨w.heap.size,0,none⟩) 1 1)) (w.alloc (.cells #[.int .i64 n] 3)):=
 bj w 63 3 1 a g dZ (.int .i64 0) 1 oo (by decide) (by decide) [.int .i64 n] rfl f (fun u d=>by rw[jJ.1 d];rfl)
def iK.put {b v' a c d sL g i j k xs W f} (m:pm (b+1) (uZ v' a c d sL g i j xs) W) (l:aL b W f) (n:f.heap[b]?=some (.cells (nX v' a c d k) 65 (0,0))):iK b v' a c d sL g i j k xs f:=⟨n,m.apart l (by omega)⟩
def sA (N b:Nat) (hd rs:List Int) (hs es:List Nat) (er:Int) (w:World):Prop:=∃v r h e,iK b v r h e hd rs hs es er [] w∧∀(i:Nat) (x:Ow),(uZ v r h e hd rs hs es [])[i]?=some x→∀k,x.v.ownBlock=some k→k<N
def mA.bound {b hd rs hs es er w} (H:mA b hd rs hs es er w) (N) (d:w.heap.size≤N):sA N b hd rs hs es er w:=by obtain⟨v,r,h,e,H⟩:=H;exact⟨v,r,h,e,H,fun i x a k c=>du ((H.own.own i x a).lt k c).2 d⟩
def sA.later {N b hd rs hs es er w w'} (H:sA N b hd rs hs es er w) (a:Below w.heap.size w w'):sA N b hd rs hs es er w':=by obtain⟨v,r,h,e,H,c⟩:=H;exact⟨v,r,h,e,H.later a,c⟩
def sA.mono {N a b hd rs hs es er w} (H:sA N b hd rs hs es er w) (f:N≤a):sA a b hd rs hs es er w:=by obtain⟨v,r,h,e,H,g⟩:=H;exact⟨v,r,h,e,H,fun i x c k d=>du (g i x c k d) f⟩
def sA.gen {N b hd rs hs es er w} (H:sA N b hd rs hs es er w):mA b hd rs hs es er w:=by obtain⟨v,r,h,e,H,_⟩:=H;exact⟨v,r,h,e,H⟩
def sA.below {N b hd rs hs es er w w'} (H:sA N b hd rs hs es er w) (j:Below N w w') (p:b+1≤N):sA N b hd rs hs es er w':=by
 obtain⟨v,r,h,e,H,k⟩:=H;refine⟨v,r,h,e,⟨(j.block b (by omega)).trans H.cells,fun i x f=>?_,H.own.RJ⟩,k⟩;have l:=H.own.own i x f;refine⟨l.1,?_⟩;rcases l.2 with a|⟨g,d,c,a,o,n,m⟩
 ·exact Or.inl a
 ·exact Or.inr ⟨g,d,c,a,o,(j.block g (k i x f g (by rw[a];rfl))).trans n,m⟩
def sA.beside {N b hd rs hs es er w} (H:sA N b hd rs hs es er w) (E:b+1≤N) {s m} (n:bc N s m w):∃v r h e,iK b v r h e hd rs hs es er [owB s m] w:=by
 obtain⟨v,r,h,e,H,D⟩:=H
 have c:∀(i:Nat) (x:Ow),(uZ v r h e hd rs hs es [owB s m])[i]?=some x→(i<4∧(uZ v r h e hd rs hs es [])[i]?=some x)∨(i=4∧x=owB s m):=fun i x a=>by
  match i,a with
  |0,a=>exact Or.inl ⟨by decide,a⟩
  |1,a=>exact Or.inl ⟨by decide,a⟩
  |2,a=>exact Or.inl ⟨by decide,a⟩
  |3,a=>exact Or.inl ⟨by decide,a⟩
  |4,a=>exact Or.inr ⟨rfl,(s5 a).symm⟩
 have C:=World.ownsRow.lt n;refine⟨v,r,h,e,H.cells,fun i x a=>?_,fun i j x y B a d k o=>?_⟩
 ·rcases c i x a with⟨_,a⟩|⟨_,rfl⟩
  ·exact H.own.own i x a
  ·refine⟨n.1,?_⟩
   rcases n.2 with f|⟨g,z,u,f,p,F⟩
   ·exact Or.inl f
   ·exact Or.inr ⟨g,z,u,f,bg E p,F⟩
 ·rcases c i x a with⟨A,a⟩|⟨A,rfl⟩
  ·rcases c j y d with⟨l,d⟩|⟨l,rfl⟩
   ·exact H.own.RJ i j x y B a d k o
   ·intro q
    have f:=(C k q).1;have p:=D i x a k o;omega
  ·rcases c j y d with⟨l,d⟩|⟨l,rfl⟩
   ·intro q
    have f:=(C k o).1;have p:=D j y d k q;omega
   ·exact absurd (A.trans l.symm) B
def iK.drop {b v r h e hd rs hs es er} {x:Ow} {w} (H:iK b v r h e hd rs hs es er [x] w):iK b v r h e hd rs hs es er [] w:=by
 have c:∀(i:Nat) (y:Ow),(uZ v r h e hd rs hs es [])[i]?=some y→(uZ v r h e hd rs hs es [x])[i]?=some y:=fun i y a=>by
  match i,a with
  |0,a=>exact a
  |1,a=>exact a
  |2,a=>exact a
  |3,a=>exact a
 exact⟨H.cells,fun i y a=>H.own.own i y (c i y a),fun i j y z f a d=>H.own.RJ i j y z f (c i y a) (c j z d)⟩
def zM (b v r h e hd rs hs es er a xs w) (c:iK b v r h e hd rs hs es er xs w):
 Calls prog 27 #[.pointer (some ⟨b,0,none⟩),.int .i64 a] w fun i w'=>i= .returned (.tuple #[])∧iK b v r h e hd rs hs es (if er=0 then a else er) xs w'∧aL b w w':=by
 have j:=c.size;have H:=aa c;clear c
 go_enter func27,ntmps27
 by_cases he:er=0
 ·subst he
  go_wp2_with (first
   |refine ag 41 ?_;refine dq (v:=(.int .i64 0)) (H.out.cell 4) fU ?_ rfl rfl rfl rfl
   |refine al 41 ?_;refine aH rfl fun K f=>bt 41 _ _ rfl b 4 rfl (.int .i64 a) rfl rfl oR _ _ H.out.cells (by simp[nX]) (fun l g d=>f _ _ ?_);clear f K)
  exact g8 rfl rfl ⟨rfl,iK.put H.out.own d g,d⟩
 ·have k:(er==0)=false:=by simp[he]
  rw[an he]
  go_wp2_with (
   ((with_reducible refine ag 41 ?_);refine dq (v:=(.int .i64 er)) (H.out.cell 4) fU ?_ rfl rfl rfl rfl))
  exact g8 rfl rfl ⟨rfl,H.out,aL.refl _ _⟩
def P7 (b hd rs hs es er a w) (h:mA b hd rs hs es er w):
 Calls prog 27 #[.pointer (some ⟨b,0,none⟩),.int .i64 a] w fun e w'=>e= .returned (.tuple #[])∧mA b hd rs hs es (if er=0 then a else er) w'∧Below b w w':=by
 have g:=h.size;obtain⟨v,r,h,e,H⟩:=h;exact(zM b v r h e hd rs hs es er a [] w H).mono fun _ _ ⟨f,d,c⟩=>⟨f,⟨v,r,h,e,d⟩,c.below (aP b w) bG (by omega)⟩
def zz {l:List Int}:∀u∈l.map (Value.int .u8),u.oneCell'=true:=fun u a=>by obtain⟨n,_,rfl⟩:=ft.1 a;rfl
def ZF {w a m} (h:Row w a .u8 m):qA w a (m.map (Value.int .u8)):=qA.G8 (k:= .u8) h
def DB (b hd rs m hs es er a c w) (h:mA b hd rs hs es er w) (f:Row w a .u8 m) (j:a=none→c=0) (d:hd.length+m.length≤70368744177664):
 Calls prog 25 #[.pointer (some ⟨b,0,none⟩),.slice a m.length c] w fun e w'=>e= .returned (.tuple #[])∧mA b (hd++m) rs hs es er w'∧Below b w w':=by
 have s:=h.size;obtain⟨v,r,h,e,p⟩:=h;have H:=aa p;have g:=aa f
 have u:=aa (show a=none→c=0∧m.length=0 from fun e=>⟨j e,by
  subst e;cases m with
  |nil=>rfl
  |cons y E=>obtain⟨b,I,e,_⟩:=f.cell 0 (by simp);cases e⟩)
 clear p f j
 go_enter func25,ntmps25
 go_wp2_with (first
  |refine ag 39 ?_;refine dq (v:=v) (H.out.cell 0) bF ?_ rfl rfl rfl rfl
  |refine be .append ?_;refine jb (w0:=w) (n0:=b+1) rfl (.tmp 8) (.tmp 9) 39 5 rfl bF (.int .u8 0) 1 1 qP rfl (by decide) (b+1) _ 0 hd.length v _ rfl rfl H.out.own a m.length c rfl u.out (m.map (Value.int .u8)) (by simp) (ZF g.out) zz d (by omega) s bG (aP _ w) ?_
   intro q C N z n o D _ _;have B:=aa n;clear n z
  |refine al 39 ?_;
   refine aH rfl fun K k=>bt 39 _ _ rfl b 0 rfl _ rfl rfl dv _ _ ((o.block b (by omega)).trans H.out.cells) (by simp[nX]) (fun M A i=>k _ _ ?_);clear k K)
 refine g8 rfl rfl ⟨rfl,⟨_,r,h,e,iK.put (v':= .slice q (hd.length+m.length) C) (sL:=hd++m) ?_ i A⟩,i.below (o.mono (by omega)) bG (by omega)⟩;have l:=B.out;rw[show hd.length+m.length=(hd++m).length by simp,←kN]at l;rw[show hd.length+m.length=(hd++m).length by simp];exact l
def Hy {c o} (w a) (e:o.op= .buildSlice 39 4 a) (d:(a.toList.map fun p=>(p.1,c p.2))=[(0,.int .u8 0),(1,.int .u8 0),(2,.int .u8 0),(3,.int .u8 0)]):
 (execOp c o).run prog w= .ok (.value (.slice (some ⟨w.heap.size,0,none⟩) 4 4)) (w.alloc (.cells #[.int .u8 0,.int .u8 0,.int .u8 0,.int .u8 0] 5)):=
 bj w 39 5 4 a e bF (.int .u8 0) 1 Uw (by decide) (by decide) [.int .u8 0,.int .u8 0,.int .u8 0,.int .u8 0] rfl d (fun u b=>by
  rcases mF.1 b with rfl|b
  ·rfl
  rcases mF.1 b with rfl|b
  ·rfl
  rcases mF.1 b with rfl|b
  ·rfl
  rw[jJ.1 b];rfl)
def Wq {w b m t} (h:w.heap[b]?=some (.cells (kX m) t (0,0))):qA w (some ⟨b,0,none⟩) ((fH m).map (Value.int .u8)):=qA.G8 (k:= .u8) (mU h)
def NW {v r h e c i d l hs f n m a b W} (hn:n=l.length) (g:l.map (Value.int .u8)=m) (H:pm a ((uZ v r h e i d hs f b).set 0 ⟨5,1,c,n,m⟩) W):pm a (uZ c r h e l d hs f b) W:=by subst hn;rw[←g]at H;exact H
def Jt (b a f hs g k m w) (h:mA b a f hs g k w) (y:a.length≤70368744170000):
 Calls prog 83 #[.pointer (some ⟨b,0,none⟩),.int .u64 m] w fun e l=>e= .returned (.tuple #[])∧mA b (a++fH m) f hs g k l∧Below b w l:=by
 have j:=h.size;obtain⟨v,r,h,e,u⟩:=h;have H:=aa u;clear u;have C:=aa (qY m w)
 go_enter func83,ntmps83
 go_wp2_with (first
  |with_reducible refine C.out.mono ?_
   rintro R W ⟨rfl,q⟩;have d:=aa q;clear q
  |refine ao 184 ?_;refine aw rfl rfl 184 4 _ rfl rfl rfl (kX m) rfl rfl (zeroOf prog 184) (aG iA).1 (aG iA).2 (mh _) ?_)
 refine bO (fun c=>iK b v r h e a f hs g k [] c∧c.heap[W.heap.size]?=some (.cells (kX m) 184 (0,0))∧Below (b+1) w c∧b+1≤W.heap.size∧c.heap.size=W.heap.size+1) ⟨(H.out.later d.out).alloc _,ak _ _ _ _ rfl,(d.out.mono j).alloc (bg j d.out.size) _,bg j d.out.size,by simp⟩ ?_;rintro c ⟨o,A,B,O,P⟩;go_frame;clear d;generalize W.heap.size=n at*;refine dQ (S:=fun _=>True) (by kernel_rfl) ?_;have D:True:=trivial;have F:Below (b+1) w {c with drawn:=c.drawn+1}:=B.drew;refine GX 0 1 5 2 3 (.pointer (some ⟨b,0,none⟩)) (.pointer (some ⟨b,0,none⟩)) (.slice (some ⟨n,0,none⟩) 8 8) (.pointer (some ⟨b,0,none⟩)) (.pointer (some ⟨b,0,none⟩)) rfl (by kernel_rfl) (fun _=>by kernel_rfl) bH ‹_› ?_;go_frame;refine cQ (i:=4) rfl (by kernel_rfl) rfl (bV v (au _ 39 _ (by rfl) ⟨b,0,none⟩ (by rfl) v ((o.drew _).cell 0) _ bF rfl) ⟨trivial,?_⟩);go_frame;refine cQ (i:=6) rfl (by kernel_rfl) rfl (xR (w0:=w) (n0:=b+1) (.tmp 11) (.tmp 12) 39 5 rfl bF (.int .u8 0) 1 1 qP rfl (by decide) (b+1) _ 0 a.length v _ rfl rfl (o.drew _).own (some ⟨n,0,none⟩) 8 8 rfl (fun e=>by cases e) ((fH m).map (Value.int .u8)) (by simp[aX]) (Wq A) zz (by omega) (by omega) (by show b+1≤c.heap.size;omega) bG F (fun z J K Q I s L _ _=>⟨trivial,?_⟩));go_frame;have D:True:=trivial;refine kg 7 8 (.pointer (some ⟨b,0,none⟩)) (.pointer (some ⟨b,0,none⟩)) rfl (by kernel_rfl) (fun _=>by kernel_rfl) bH ‹_› ?_;go_frame;refine cQ (i:=9) rfl (by kernel_rfl) rfl (bt 39 _ _ rfl b 0 rfl _ rfl rfl dv _ _ ((s.block b (by omega)).trans H.out.cells) (by simp[nX]) (fun T E p=>⟨trivial,?_⟩));refine dM (by kernel_rfl) ?_ _;have G:pm (b+1) (uZ (.slice z (a.length+8) J) r h e (a++fH m) f hs g []) K:=NW (n:=a.length+8) (by simp[aX]) (by rw[kN]) I;exact g8 rfl rfl ⟨rfl,⟨_,r,h,e,iK.put G p E⟩,p.below (s.mono (by omega)) bG (by omega)⟩
def adP {v r h e b} {f d:List Int} {hs g:List Nat} {k:Nat} {a:Nat} {c:List Ow} {W} (H:pm a ((uZ v r h e f d hs g c).set 2 ⟨3,1,b,hs.length+1,(hs.map fun n:Nat=>Value.int .i64 (n:Int))++[.int .i64 (k:Int)]⟩) W):pm a (uZ v r b e f d (hs++[k]) g c) W:=by
 have i:Vv b (hs++[k])=⟨3,1,b,hs.length+1,(hs.map fun n:Nat=>Value.int .i64 (n:Int))++[.int .i64 (k:Int)]⟩:=by simp[Vv]
 rw[←i]at H;exact H
def adQ {v r h e c} {g f:List Int} {hs b:List Nat} {k:Nat} {a:Nat} {d:List Ow} {W} (H:pm a ((uZ v r h e g f hs b d).set 3 ⟨3,1,c,b.length+1,(b.map fun n:Nat=>Value.int .i64 (n:Int))++[.int .i64 (k:Int)]⟩) W):pm a (uZ v r h c g f hs (b++[k]) d) W:=by
 have i:Vv c (b++[k])=⟨3,1,c,b.length+1,(b.map fun n:Nat=>Value.int .i64 (n:Int))++[.int .i64 (k:Int)]⟩:=by simp[Vv]
 rw[←i]at H;exact H
def adR {v r h e c d g l hs f n m a b W} (hn:n=l.length) (i:l.map (Value.int .u8)=m) (H:pm a ((uZ v r h e d g hs f b).set 1 ⟨5,1,c,n,m⟩) W):pm a (uZ v c h e d l hs f b) W:=by subst hn;rw[←i]at H;exact H
def Dz (N b a d m hs A M Z va c w) (h:sA N b a d hs A M w) (hN:b+1≤N) (hm:bc N (.slice va m.length c) m w) (h1:a.length≤70368744170000) (h2:d.length+m.length≤70368744170000) (h3:hs.length≤1000000000) (h4:A.length≤1000000000):
 Calls prog 30 #[.pointer (some ⟨b,0,none⟩),.slice va m.length c,.int .i64 Z] w fun e z=>e= .returned (.tuple #[])∧mA b (a++[0,0,0,0]) (d++m) (hs++[a.length]) (A++[d.length]) (if M=0 then Z else M) z∧Below b w z:=by
 have hz:=h.gen.size;obtain⟨v,r,h,e,H0⟩:=h.beside hN hm;have hF:=aa (zM b v r h e a d hs A M Z _ w H0);generalize (if M=0 then Z else M)=ek at*;clear hm H0
 go_enter func30,ntmps30
 go_wp2_with (
  (with_reducible refine hF.out.mono ?_)
  rintro e1 C ⟨rfl,hG,y⟩;have VP:=aa hG;have U:=aa (y.below (aP b w) bG (by omega))
  clear hG y hF)
 have j:=VP.out;have y:=U.out;obtain⟨⟨Q,V,rfl⟩,⟨R,X,rfl⟩,⟨vh,ch,rfl⟩,⟨ve,ce,rfl⟩⟩:=j.form;rename_i K g;clear VP U;refine dQ (S:=fun z=>z.cell? ⟨b,0,none⟩=some (.slice Q a.length V)) (by kernel_rfl) ?_;have J:({C with drawn:=C.drawn+1}:World).cell? ⟨b,0,none⟩=some (.slice Q a.length V):=(j.drew _).cell 0;refine tw 0 1 2 3 5 6 (.pointer (some ⟨b,0,none⟩)) (.pointer (some ⟨b,0,none⟩)) (.pointer (some ⟨b,0,none⟩)) (.pointer (some ⟨b,2,none⟩)) (.pointer (some ⟨b,0,none⟩)) (.pointer (some ⟨b,0,none⟩)) rfl (by kernel_rfl) (fun _=>by kernel_rfl) bH ‹_› ?_;go_frame;refine d5 7 (.pointer (some ⟨b,0,none⟩)) rfl (by kernel_rfl) (fun _=>by kernel_rfl) bH ‹_› ?_;go_frame;refine aJ (i:=8) (v:=(.slice Q a.length V)) rfl (by kernel_rfl) bH ‹_› (fun z T=>au _ 39 _ (by rfl) ⟨b,0,none⟩ (by rfl) _ T _ bF rfl) ?_;go_frame;refine aJ (i:=9) (v:=(.int .i64 ((a.length:Nat):Int))) rfl (by kernel_rfl) bH ‹_› (fun z T=>by go_simp) ?_;go_frame;refine vQ (i:=4) (k:=10) (.slice vh hs.length ch) (.slice (some ⟨C.heap.size,0,none⟩) 1 1) (Wn:=({C with drawn:=C.drawn+1}:World).alloc (.cells #[.int .i64 ((a.length:Nat):Int)] 3)) rfl rfl (by kernel_rfl) (by kernel_rfl) (by kernel_rfl) rfl rfl rfl rfl (au _ 63 _ (by rfl) ⟨b,2,none⟩ (by rfl) _ ((j.drew _).cell 2) _ dZ rfl) (au _ 63 _ (by rfl) ⟨b,2,none⟩ (by rfl) _ (((j.drew _).alloc _).cell 2) _ dZ rfl) (dH _ _ (by rfl) ((a.length:Nat):Int) (by rfl)) (dH _ _ (by rfl) ((a.length:Nat):Int) (by rfl)) J (((j.drew _).alloc _).cell 0) rfl rfl ?_;go_frame;refine cQ (i:=11) rfl (by kernel_rfl) rfl (xR (w0:=C) (n0:=b+1) (.tmp 13) (.tmp 19) 63 3 rfl dZ (.int .i64 0) 1 8 F6 rfl (by decide) (b+1) _ 2 hs.length (.slice vh hs.length ch) _ rfl rfl ((j.drew _).alloc _).own (some ⟨C.heap.size,0,none⟩) 1 1 rfl (fun e=>by cases e) [.int .i64 ((a.length:Nat):Int)] rfl (qA.block (cs:=#[.int .i64 ((a.length:Nat):Int)]) (ak _ _ _ _ rfl)) (fun u hu=>by rw[jJ.1 hu];rfl) (by omega) (by omega) (by rw[bn];show b+1≤C.heap.size+1;have:=j.size;omega) bG (((aP (b+1) C).drew).alloc j.size _) (fun eE c1 E I s f Y G F=>⟨(f.cell (p:=⟨b,0,none⟩) (mE b)).trans (j.cell 0),?_⟩));go_frame;have J:E.cell? ⟨b,0,none⟩=some (.slice Q a.length V):=(f.cell (p:=⟨b,0,none⟩) (mE b)).trans (j.cell 0);refine kg 12 13 (.pointer (some ⟨b,0,none⟩)) (.pointer (some ⟨b,2,none⟩)) rfl (by kernel_rfl) (fun _=>by kernel_rfl) bH ‹_› ?_;go_frame;refine cQ (i:=14) rfl (by kernel_rfl) rfl (bt 63 _ _ rfl b 2 rfl _ rfl rfl NU _ _ ((f.block b (by omega)).trans j.cells) (by simp[nX]) (fun P L H=>⟨(br P b 0 _ _ _ L).trans rfl,?_⟩));refine dM (by kernel_rfl) ?_ _;refine g _ _ ?_;clear g K;refine bO (fun W=>iK b _ _ _ _ a d (hs++[a.length]) A ek _ W∧Below b w W) ⟨iK.put (adP s) H L,y.trans (H.below (f.mono (by omega)) bG (by have:=j.size;omega))⟩ ?_;clear L H s f Y I G F J j y;rintro B ⟨q,y⟩;clear P E;go_wp2;rename_i K g;refine dQ (S:=fun z=>z.cell? ⟨b,1,none⟩=some (.slice R d.length X)) (by kernel_rfl) ?_;have J:({B with drawn:=B.drawn+1}:World).cell? ⟨b,1,none⟩=some (.slice R d.length X):=(q.drew _).cell 1;refine tw 0 1 2 3 5 6 (.pointer (some ⟨b,0,none⟩)) (.pointer (some ⟨b,0,none⟩)) (.pointer (some ⟨b,0,none⟩)) (.pointer (some ⟨b,3,none⟩)) (.pointer (some ⟨b,0,none⟩)) (.pointer (some ⟨b,0,none⟩)) rfl (by kernel_rfl) (fun _=>by kernel_rfl) bH ‹_› ?_;go_frame;refine d5 7 (.pointer (some ⟨b,1,none⟩)) rfl (by kernel_rfl) (fun _=>by kernel_rfl) bH ‹_› ?_;go_frame;refine aJ (i:=8) (v:=(.slice R d.length X)) rfl (by kernel_rfl) bH ‹_› (fun z T=>au _ 39 _ (by rfl) ⟨b,1,none⟩ (by rfl) _ T _ bF rfl) ?_;go_frame;refine aJ (i:=9) (v:=(.int .i64 ((d.length:Nat):Int))) rfl (by kernel_rfl) bH ‹_› (fun z T=>by go_simp) ?_;go_frame;refine vQ (i:=4) (k:=10) (.slice ve A.length ce) (.slice (some ⟨B.heap.size,0,none⟩) 1 1) (Wn:=({B with drawn:=B.drawn+1}:World).alloc (.cells #[.int .i64 ((d.length:Nat):Int)] 3)) rfl rfl (by kernel_rfl) (by kernel_rfl) (by kernel_rfl) rfl rfl rfl rfl (au _ 63 _ (by rfl) ⟨b,3,none⟩ (by rfl) _ ((q.drew _).cell 3) _ dZ rfl) (au _ 63 _ (by rfl) ⟨b,3,none⟩ (by rfl) _ (((q.drew _).alloc _).cell 3) _ dZ rfl) (dH _ _ (by rfl) ((d.length:Nat):Int) (by rfl)) (dH _ _ (by rfl) ((d.length:Nat):Int) (by rfl)) J (((q.drew _).alloc _).cell 1) rfl rfl ?_;go_frame;refine cQ (i:=11) rfl (by kernel_rfl) rfl (xR (w0:=B) (n0:=b+1) (.tmp 27) (.tmp 33) 63 3 rfl dZ (.int .i64 0) 1 8 F6 rfl (by decide) (b+1) _ 3 A.length (.slice ve A.length ce) _ rfl rfl ((q.drew _).alloc _).own (some ⟨B.heap.size,0,none⟩) 1 1 rfl (fun e=>by cases e) [.int .i64 ((d.length:Nat):Int)] rfl (qA.block (cs:=#[.int .i64 ((d.length:Nat):Int)]) (ak _ _ _ _ rfl)) (fun u hu=>by rw[jJ.1 hu];rfl) (by omega) (by omega) (by rw[bn];show b+1≤B.heap.size+1;have:=q.size;omega) bG (((aP (b+1) B).drew).alloc q.size _) (fun eE c1 E I s f Y G F=>⟨(f.cell (p:=⟨b,1,none⟩) (mE b)).trans (q.cell 1),?_⟩));go_frame;have J:E.cell? ⟨b,1,none⟩=some (.slice R d.length X):=(f.cell (p:=⟨b,1,none⟩) (mE b)).trans (q.cell 1);refine kg 12 13 (.pointer (some ⟨b,0,none⟩)) (.pointer (some ⟨b,3,none⟩)) rfl (by kernel_rfl) (fun _=>by kernel_rfl) bH ‹_› ?_;go_frame;refine cQ (i:=14) rfl (by kernel_rfl) rfl (bt 63 _ _ rfl b 3 rfl _ rfl rfl NU _ _ ((f.block b (by omega)).trans q.cells) (by simp[nX]) (fun P L H=>⟨(br P b 1 _ _ _ L).trans rfl,?_⟩));refine dM (by kernel_rfl) ?_ _;refine g _ _ ?_;clear g K;refine bO (fun W=>iK b _ _ _ _ a d (hs++[a.length]) (A++[d.length]) ek _ W∧Below b w W) ⟨iK.put (adQ s) H L,y.trans (H.below (f.mono (by omega)) bG (by have:=q.size;omega))⟩ ?_;clear L H s f Y I G F J q y;rintro WE ⟨HE,y⟩;clear P E;have o:=aa HE;have Pd:=aa (oU (HE.own.own 4 _ rfl));have Lq:=aa (BN (HE.own.own 4 _ rfl));have U:=aa y;clear HE y
 go_wp2_with (first
  |refine ag 39 ?_;refine iX 39 b 0 rfl ?_;refine dq (o.out.cell 0) bF ?_ rfl rfl rfl rfl
  |refine ag 39 ?_;refine iX 39 b 1 rfl ?_;refine dq (n.out.cell 1) bF ?_ rfl rfl rfl rfl
  |refine aV 39 ?_;refine aH rfl fun K g=>bV _ (Hy _ _ (by rfl) (by rfl)) (g _ _ ?_);clear g K
  |refine be .append ?_;refine jb (w0:=WE) (n0:=b+1) rfl (.tmp 41) (.tmp 42) 39 5 rfl bF (.int .u8 0) 1 1 qP rfl (by decide) (b+1) _ 0 a.length (.slice Q a.length V) _ rfl rfl (o.out.alloc _).own (some ⟨WE.heap.size,0,none⟩) 4 4 rfl (fun e=>by cases e) ([0,0,0,0].map (Value.int .u8)) rfl (qA.block (cs:=#[.int .u8 0,.int .u8 0,.int .u8 0,.int .u8 0]) (ak _ _ _ _ rfl)) zz (by omega) (by omega) (by rw[bn];have:=o.out.size;omega) bG ((aP (b+1) WE).alloc o.out.size _) ?_
   intro eE c1 W1 I s f Y G F;have D:=aa (NW (l:=a++[0,0,0,0]) (by simp) (by rw[kN]) s);have O:=aa f;clear s f I G F
  |refine al 39 ?_;refine aF 39 b 0 rfl ?_;
   refine aH rfl fun K g=>bt 39 _ _ rfl b 0 rfl _ rfl rfl dv _ _ ((O.out.block b (by omega)).trans o.out.cells) (by simp[nX]) (fun E fW jq=>g _ _ ?_);clear g K;have n:=aa (iK.put D.out jq fW);have ei:=aa (U.out.trans (jq.below (O.out.mono (by omega)) bG (by have:=o.out.size;omega)));have adX:=aa (oU (n.out.own.own 4 _ rfl));clear fW jq D O U
  |refine be .append ?_;refine jb (w0:=E) (n0:=b+1) rfl (.tmp 50) (.tmp 51) 39 5 rfl bF (.int .u8 0) 1 1 qP rfl (by decide) (b+1) _ 1 d.length (.slice R d.length X) _ rfl rfl n.out.own va m.length c rfl Lq.out (m.map (Value.int .u8)) (by simp) adX.out zz (by omega) (by omega) n.out.size bG (aP (b+1) E) ?_
   intro sD c2 P I s f z2 G F;have D:=aa (adR (l:=d++m) (by simp) (by rw[kN]) s);have O:=aa f;clear s f I G F
  |refine al 39 ?_;refine aF 39 b 1 rfl ?_;
   refine aH rfl fun K g=>bt 39 _ _ rfl b 1 rfl _ rfl rfl dv _ _ ((O.out.block b (by omega)).trans n.out.cells) (by simp[nX]) (fun W4 re Xt=>g _ _ ?_);clear g K)
 exact g8 rfl rfl ⟨rfl,⟨_,_,_,_,(iK.put D.out Xt re).drop⟩,ei.out.trans (Xt.below (O.out.mono (by omega)) bG (by have:=n.out.size;omega))⟩
def putK (l:List Int) (a:Nat) (n:Int):Nat→List Int
 |0=>l
 |k+1=>(putK l a n k).set (a+k) (lL n k)
def t_ (l:List Int) (a:Nat) (n:Int):∀k,(putK l a n k).length=l.length
 |0=>rfl
 |k+1=>by rw[putK,NH,t_ l a n k]
def gZ (l:List Int) (hs a:List Nat):Nat→List Int
 |0=>l
 |i+1=>putK (gZ l hs a i) (hs.getD i 0) ((l.length+a.getD i 0:Nat):Int) 4
def nh (l:List Int) (hs a:List Nat):∀i,(gZ l hs a i).length=l.length
 |0=>rfl
 |i+1=>by rw[gZ,t_,nh l hs a i]
def oN (b a:List Int) (hs c:List Nat):List Int:=gZ b hs c hs.length++a
def HR (b a hs c):(oN b a hs c).length=b.length+a.length:=by rw[oN,bM,nh]
def Js {b i n c:Nat} {f:Option Addr} {l:List Nat} {a:Nat} {m:List Ow} {w} (H:pm a m w) (p:m[i]?=some (Vv (.slice f n c) l)) (k:Nat) (q:k<l.length):∃g,f=some ⟨g,0,none⟩∧w.cell? ⟨g,k,none⟩=some (.int .i64 ((l.getD k 0:Nat):Int)):=by
 have h:=oU (n:=n) (c:=c) (va:=f) (cs:=l.map fun n:Nat=>Value.int .i64 (n:Int)) (sz:=1) (e:=3) (base:=a) (w:=w) (by
  have s:=H.own i _ p;have d:=s;simp only[Vv]at d;obtain⟨z,B,u,_⟩:=aW d;cases u
  exact d) k (.int .i64 ((l.getD k 0:Nat):Int)) (by simp[List.getD,q])
 obtain⟨g,o,e,r⟩:=h;have d:=H.own i _ p;simp only[Vv]at d;rcases d.2 with⟨j,_⟩|⟨A,y,v,j,_⟩
 ·cases j;cases e
 ·cases j
  cases e;exact⟨g,rfl,by rw[←r,bY]⟩
def iK.head {b v r h e a j hs m n i w} (H:iK b v r h e a j hs m n i w) (p:0<a.length):∃g c,v= .slice (some ⟨g,0,none⟩) a.length c∧b+1≤g:=by
 have l:=H.own.own 0 _ rfl;rcases l.2 with⟨_,d⟩|⟨g,f,o,d,k,_⟩
 ·simp only[owB]at d;omega
 ·exact⟨g,f,d,k⟩
def zN (b a o hs g w) (h:mA b a o hs g 0 w) (Vl:hs.length=g.length) (qc:∀i,i<hs.length→hs.getD i 0+4≤a.length) (Ph:∀i,i<hs.length→g.getD i 0≤70368744170000) (hlen:a.length+o.length≤70368744170000) (N_:hs.length≤1000000000):
 Calls prog 31 #[.pointer (some ⟨b,0,none⟩)] w fun e f=>(∃va c,e= .returned (.tuple #[.slice va (a.length+o.length) c,.int .i64 0])∧(va=none→c=0)∧bc (b+1) (.slice va (a.length+o.length) c) (oN a o hs g) f)∧Below b w f:=by
 have hz:=h.size;obtain⟨v,r,h,e,H0⟩:=h;obtain⟨⟨D,u,rfl⟩,⟨E,J,rfl⟩,⟨R,L,rfl⟩,⟨ve,M,rfl⟩⟩:=H0.form;have H:=aa H0;have kO:=aa qc;have Z:=aa Ph;have hN:=aa Vl;clear H0 qc Ph Vl
 go_enter func31,ntmps31
 go_wp2_with (first
  |refine ag 41 ?_;refine dq (v:=(.int .i64 0)) (H.out.cell 4) fU ?_ rfl rfl rfl rfl
  |refine ag 63 ?_;refine dq (v:=(.slice R hs.length L)) (H.out.cell 2) dZ ?_ rfl rfl rfl rfl)
 go_loopw [22] (fun i wr=>∃k:Nat,k≤hs.length∧i= .int .i64 (k:Int)∧iK b (.slice D a.length u) (.slice E o.length J) (.slice R hs.length L) (.slice ve g.length M) (gZ a hs g k) o hs g 0 [] wr∧Below b w wr) (fun i _=>hs.length-(intOf i).toNat)
 case atStart=>exact⟨0,by omega,rfl,H.out,aP _ _⟩
 case round=>
  obtain⟨k,hk,rfl,HC0,A⟩:=hrel;have z:=aa HC0;clear HC0 H;by_cases Q:k<hs.length
  ·obtain⟨gh,rfl,acT⟩:=Js (b:=b) z.out.own (i:=2) rfl k Q
   obtain⟨U,rfl,acU⟩:=Js (b:=b) z.out.own (i:=3) rfl k (hN.out▸Q);have hch:=aa acT;have hce:=aa acU;have hp:=kO.out k Q;have hq:=Z.out k Q;have lk:(k:Int)<(hs.length:Int):=by omega
   clear acT acU;have G:=aa (nh a hs g k);have H3:gZ a hs g (k+1)=putK (gZ a hs g k) (hs.getD k 0) ((a.length+g.getD k 0:Nat):Int) 4:=rfl;have Zg:=aa H3;clear H3;generalize hs.getD k 0=d at*;generalize g.getD k 0=en at*;obtain⟨n,hn⟩:∃n,n=a.length+en:=⟨_,rfl⟩;rw[←hn]at Zg;have rc:IntKind.i64.wrap ((a.length:Int)+(en:Int))=(n:Int):=by rw[bP];omega
   have alB:n≤140737488340000:=by omega
   have vt:=aa hn;clear hn
   go_wp2_with (first
    |refine aC 63 ?_;refine ab (by rfl) _ (ai _ 63 3 _ _ rfl dZ 1 d6 gh 0 hs.length L rfl .i64 k rfl Q k (by omega)) ?_
    |refine ag 3 ?_;refine dq (v:=(.int .i64 (d:Int))) hch.out pi ?_ rfl rfl rfl rfl)
   refine r8 (by kernel_rfl) (by kernel_rfl) ?_
   repeat (first
    |go_big_quiet_skip
    |(go_big_quiet_want;first|((first
    |(with_reducible refine eB 63 ?_);refine bi _ (fun f _=>ai f 63 3 _ _ rfl dZ 1 d6 U 0 g.length M rfl .i64 k rfl (hN.out▸Q) k (by omega)) ?_
    |(with_reducible refine dw 39 ?_);refine bi _ (fun f N=>au f 39 _ rfl ⟨b,0,none⟩ rfl (.slice D a.length u) (by obtain⟨n,rfl⟩:=N;exact z.out.cell 0) _ bF rfl) ?_
    |(with_reducible refine dw 63 ?_);refine bi _ (fun f N=>au f 63 _ rfl ⟨b,3,none⟩ rfl (.slice (some ⟨U,0,none⟩) g.length M) (by obtain⟨n,rfl⟩:=N;exact z.out.cell 3) _ dZ rfl) ?_
    |((with_reducible refine dw 3 ?_);refine bi _ (fun f N=>au f 3 _ rfl ⟨U,k,none⟩ rfl (.int .i64 (en:Int)) (by obtain⟨n,rfl⟩:=N;exact hce.out) _ pi rfl) ?_));(go_frame);go_big_quiet_on)|(go_big_quiet_op;go_big_quiet_on)))
   refine r9 ?_;intro _ N;obtain⟨nq,ov⟩:=N;subst ov;refine SR (fun W=>iK b (.slice D a.length u) (.slice E o.length J) (.slice (some ⟨gh,0,none⟩) hs.length L) (.slice (some ⟨U,0,none⟩) g.length M) (gZ a hs g k) o hs g 0 [] W∧Below b w W) ⟨z.out.drew _,⟨A.os,A.tape,A.output,A.size,A.block⟩⟩ ?_;clear z A hch hce;rintro WD ⟨HD,A⟩;obtain⟨q,O1⟩:∃q,q=gZ a hs g k:=⟨_,rfl⟩;rw[←O1]at HD Zg G;clear O1;obtain⟨O,cv',ev,hgv⟩:=HD.head (by rw[G.out];omega);rw[G.out]at ev;cases ev;have HD':=aa HD;have wx:=aa A;clear HD A rc;go_wp2
   go_loopw [40] (fun j wr=>∃m:Nat,m≤4∧j= .int .i64 (m:Int)∧iK b (.slice (some ⟨O,0,none⟩) a.length u) (.slice E o.length J) (.slice (some ⟨gh,0,none⟩) hs.length L) (.slice (some ⟨U,0,none⟩) g.length M) (putK q d (n:Int) m) o hs g 0 [] wr∧Below b w wr) (fun j _=>4-(intOf j).toNat)
   case atStart=>exact⟨0,by omega,rfl,HD'.out,wx.out⟩
   case round=>
    obtain⟨m,hm,rfl,HE0,I⟩:=hrel;clear HD' wx;have B:=aa HE0;clear HE0;by_cases qb:m<4
    ·have lm:(m:Int)<4:=by omega
     have Y:(putK q d (n:Int) m).length=a.length:=(t_ _ _ _ _).trans G.out;have T:=aa Y;have X:putK q d (n:Int) (m+1)=(putK q d (n:Int) m).set (d+m) (lL n m):=rfl;have N5:=aa X;obtain⟨p,C⟩:∃p,p=putK q d (n:Int) m:=⟨_,rfl⟩;rw[←C]at B N5 T;clear X Y C;obtain⟨F,V⟩:∃F,F=8*m:=⟨_,rfl⟩;obtain⟨y,hy⟩:∃y,y=lL (n:Int) m:=⟨_,rfl⟩;have Ee:IntKind.i64.wrap ((d:Int)+(m:Int))=((d+m:Nat):Int):=by rw[bP];omega
     have Vd:IntKind.i64.wrap (8*(m:Int))=(F:Int):=by rw[bP];omega
     have hw4:IntKind.u8.wrap ((n:Int)/2^F)=y:=by rw[hy,V];rfl
     rw[←hy]at N5;have hw5:min F 64=F:=by omega
     clear hy V;go_wp2;rename_i K hK;refine dQ (S:=fun f=>f.cell? ⟨b,0,none⟩=some (.slice (some ⟨O,0,none⟩) a.length u)) (by kernel_rfl) ?_;have hS:({wr with drawn:=wr.drawn+1}:World).cell? ⟨b,0,none⟩=some (.slice (some ⟨O,0,none⟩) a.length u):=(B.out.drew _).cell 0;refine gY 0 1 2 (.pointer (some ⟨b,0,none⟩)) (.pointer (some ⟨b,0,none⟩)) (.pointer (some ⟨b,0,none⟩)) rfl (by kernel_rfl) (fun _=>by kernel_rfl) bH ‹_› ?_;go_frame;refine aJ (i:=4) (v:=(.int .i64 (d:Int))) rfl (by kernel_rfl) bH ‹_› (fun f s=>by go_simp) ?_;go_frame;refine aJ (i:=5) (v:=(.int .i64 (m:Int))) rfl (by kernel_rfl) bH ‹_› (fun f s=>by go_simp) ?_;go_frame;refine aJ (i:=6) (v:=(.int .i64 ((d+m:Nat):Int))) rfl (by kernel_rfl) bH ‹_› (fun f s=>by go_simp) ?_;go_frame;refine aJ (i:=7) (v:=(.int .i64 (n:Int))) rfl (by kernel_rfl) bH ‹_› (fun f s=>by go_simp) ?_;go_frame;refine aJ (i:=8) (v:=(.int .i64 (m:Int))) rfl (by kernel_rfl) bH ‹_› (fun f s=>by go_simp) ?_;go_frame;refine aJ (i:=9) (v:=(.int .i64 (F:Int))) rfl (by kernel_rfl) bH ‹_› (fun f s=>by go_simp) ?_;go_frame;refine aJ (i:=10) (v:=(.int .i64 ((n:Int)/2^F))) rfl (by kernel_rfl) bH ‹_› (fun f s=>by go_simp) ?_;go_frame;refine aJ (i:=11) (v:=(.int .u8 y)) rfl (by kernel_rfl) bH ‹_› (fun f s=>by go_simp) ?_;go_frame;refine aJ (i:=3) (v:=(.slice (some ⟨O,0,none⟩) a.length u)) rfl (by kernel_rfl) bH ‹_› (fun f s=>au _ 39 _ (by rfl) ⟨b,0,none⟩ (by rfl) _ s _ bF rfl) ?_;go_frame;refine aJ (i:=12) (v:=(.pointer (some ⟨O,d+m,none⟩))) rfl (by kernel_rfl) bH ‹_› (fun f _=>ai f 39 5 _ _ (by rfl) bF 1 cR O 0 a.length u (by rfl) .i64 (d+m) (by rfl) (by omega) (d+m) (by omega)) ?_;go_frame;refine cQ (i:=13) rfl (by kernel_rfl) rfl (Ps 5 _ _ (by rfl) (b+1) _ 0 p.length O u (d+m) 5 1 _ (by rw[show a.length=p.length from T.out.symm];rfl) (B.out.drew _).own rfl (.int .u8 y) rfl rfl cR (by rw[jK,T.out];omega) (fun W3 Rx Ed=>⟨(Ed.block b (by exact B.out.size) (by omega)|>fun e=>iP (w:={wr with drawn:=wr.drawn+1}) e).trans hS,?_⟩));have zo:=NW (l:=p.set (d+m) y) (by simp) (by rw[List.map_set]) Rx;rw[T.out,←N5.out]at zo;have i6:=Ed.below (Below.mono ⟨I.os,I.tape,I.output,I.size,I.block⟩ (cD b):Below b w {wr with drawn:=wr.drawn+1}) (by omega) (by have:=B.out.size;show b≤wr.heap.size;omega);have HF:=aa (iK.mk ((Ed.block b (by exact B.out.size) (by omega)).trans B.out.cells) zo);have ac5:=aa i6;refine dM (by kernel_rfl) ?_ _;refine hK _ _ ?_;clear hK K Rx zo Ed i6 I B N5 T hS Ee Vd hw4 hw5;go_wp2
     first
      |exact⟨⟨m+1,by omega,by go_num,HF.out,ac5.out⟩,by simp[intOf];omega⟩
      |refine⟨?_,by simp[intOf];omega⟩
       (repeat apply Exists.intro)
       exact⟨⟨m+1,by omega,by go_num,HF.out,ac5.out⟩,rfl⟩
    ·have e4:m=4:=by omega
     subst e4;rw[←Zg.out]at B;have vD:=aa I;clear I;go_wp2
     first
      |exact⟨⟨k+1,by omega,by go_num,B.out,vD.out⟩,by simp[intOf];omega⟩
      |refine⟨?_,by simp[intOf];omega⟩
       (repeat apply Exists.intro)
       exact⟨⟨k+1,by omega,by go_num,B.out,vD.out⟩,rfl⟩
  ·have e0:k=hs.length:=by omega
   subst e0;have G:=nh a hs g hs.length;have P:oN a o hs g=gZ a hs g hs.length++o:=rfl;obtain⟨p,C⟩:∃p,p=gZ a hs g hs.length:=⟨_,rfl⟩;rw[←C]at z G P;have ag7:=aa P;have j3:=aa G;have wx:=aa A;clear C P G kO Z hN A;have jo:=z.out.size;go_wp2;rename_i K hK;refine dQ (S:=fun f=>f.heap[b]?=some (.cells (nX (.slice D a.length u) (.slice E o.length J) (.slice R hs.length L) (.slice ve g.length M) 0) 65 (0,0))) (by kernel_rfl) ?_;have hS:({wr with drawn:=wr.drawn+1}:World).heap[b]?=some (.cells (nX (.slice D a.length u) (.slice E o.length J) (.slice R hs.length L) (.slice ve g.length M) 0) 65 (0,0)):=z.out.cells;refine tw 0 4 1 5 2 6 (.pointer (some ⟨b,0,none⟩)) (.pointer (some ⟨b,0,none⟩)) (.pointer (some ⟨b,0,none⟩)) (.pointer (some ⟨b,0,none⟩)) (.pointer (some ⟨b,0,none⟩)) (.pointer (some ⟨b,1,none⟩)) rfl (by kernel_rfl) (fun _=>by kernel_rfl) bH ‹_› ?_;go_frame;refine aJ (i:=3) (v:=(.slice D a.length u)) rfl (by kernel_rfl) bH ‹_› (fun f s=>au _ 39 _ (by rfl) ⟨b,0,none⟩ (by rfl) _ (br f b 0 _ _ _ s) _ bF rfl) ?_;go_frame;refine aJ (i:=7) (v:=(.slice E o.length J)) rfl (by kernel_rfl) bH ‹_› (fun f s=>au _ 39 _ (by rfl) ⟨b,1,none⟩ (by rfl) _ (br f b 1 _ _ _ s) _ bF rfl) ?_;go_frame;refine cQ (i:=8) rfl (by kernel_rfl) rfl (xR (w0:=wr) (n0:=b+1) (.tmp 61) (.tmp 65) 39 5 rfl bF (.int .u8 0) 1 1 qP rfl (by decide) (b+1) _ 0 p.length (.slice D a.length u) _ rfl rfl (z.out.drew _).own E o.length J rfl (BN (z.out.own.own 1 _ rfl)) (o.map (Value.int .u8)) (by simp) (oU ((z.out.drew _).own.own 1 _ rfl)) zz (by rw[j3.out];omega) (by rw[j3.out];omega) jo bG ((aP _ _).drew) (fun eE c1 W2 dG q1 b1 z1 o1 o2=>⟨(b1.block b (by omega)).trans z.out.cells,?_⟩));have q2:=q1.own 0 _ rfl;simp only at q2;rw[j3.out]at q2;rw[j3.out];go_frame;have hS:W2.heap[b]?=some (.cells (nX (.slice D a.length u) (.slice E o.length J) (.slice R hs.length L) (.slice ve g.length M) 0) 65 (0,0)):=(b1.block b (by omega)).trans z.out.cells;refine d5 9 (.slice eE (a.length+o.length) c1) rfl (by kernel_rfl) (fun _=>by kernel_rfl) bH ‹_› ?_;go_frame;refine aJ (i:=10) (v:=(.int .i64 0)) rfl (by kernel_rfl) bH ‹_› (fun f s=>by go_simp) ?_;go_frame;refine dM (by kernel_rfl) ?_ _;simp only[Exit.then];refine hK _ _ ?_;go_wp2;refine bR rfl _ _ rfl rfl rfl ⟨⟨_,_,rfl,dG,?_⟩,wx.out.trans (b1.mono (by omega))⟩;unfold bc;rw[HR,ag7.out,kN];exact q2
def DA (b j g hs k a w) (h:mA b j g hs k a w) (he:a≠0):
 Calls prog 31 #[.pointer (some ⟨b,0,none⟩)] w fun e c=>e= .returned (.tuple #[.slice none 0 0,.int .i64 a])∧Below w.heap.size w c:=by
 obtain⟨v,r,h,e,f⟩:=h;have H:=aa f;clear f;have m:(a !=0)=true:=by simp[he]
 go_enter func31,ntmps31
 go_wp2_with (
  ((with_reducible refine ag 41 ?_);refine dq (v:=(.int .i64 a)) (H.out.cell 4) fU ?_ rfl rfl rfl rfl))
 refine r8 (by kernel_rfl) (by kernel_rfl) ?_
 repeat (first
  |go_big_quiet_skip
  |(go_big_quiet_want;first|((
  ((with_reducible refine dw 41 ?_);refine bi _ (fun c d=>au c 41 _ rfl ⟨b,4,none⟩ rfl (.int .i64 a) (by obtain⟨n,rfl⟩:=d;exact H.out.cell 4) _ fU rfl) ?_));(go_frame);go_big_quiet_on)|(go_big_quiet_op;go_big_quiet_on)))
 refine r9 ?_;intro _ d;obtain⟨l,i⟩:=d;subst i;go_wp2;exact bR rfl _ _ rfl rfl rfl ⟨rfl,⟨rfl,rfl,rfl,cD _,fun _ _=>rfl⟩⟩
def dK {W:World} {n:Nat} {C pre b post:List Value} {t:TypeId} {f:Nat×Nat} (h:W.heap[n]?=some (.cells C.toArray t f)) (e:C=pre++(b++post)) (a:Nat) (d:pre.length=a):W.rangeAt n a b:=fun j v c=>by subst d;rw[br W n _ _ _ _ h,fu,e,fT (by omega),jH,eY (io.1 c).1];exact c
def zI {W n a k b f} (h:W.rangeAt n a (ae b (fun _=>k) f)) (d:∀j,j<b→k.ok (f j)):Row W (some ⟨n,a,none⟩) k (ff f 0 b):=by
 refine⟨fun i c=>⟨n,a,rfl,?_⟩,fun m e=>?_⟩
 ·rw[az]at c
  rw[h i _ (aN _ _ _ _ c),n9 _ _ _ _ c,bY]
 ·obtain⟨j,g,rfl⟩:=ft.1 e
  rw[bY];exact d j (by simpa using g)
structure dD (n:Nat) (C:List Value) (t:TypeId) (N:Nat) (hd rs:List Int) (hs es:List Nat) (er:Int) (w W:World):Prop where
 hX:W.heap[n]?=some (.cells C.toArray t (0,0))
 hB:Below n w W
 hO:sA N (n+1) hd rs hs es er W
 hN:n+1+1≤N
 hW:N≤W.heap.size
section
variable {n:Nat} {C:List Value} {t:TypeId} {N:Nat} {hd rs:List Int} {hs es:List Nat} {er:Int} {w W W':World}
theorem dD.cell (h:dD n C t N hd rs hs es er w W) (j):W.cell? ⟨n,j,none⟩=C[j]?:=by rw[br W n j _ _ _ h.hX,fu]
theorem dD.later (h:dD n C t N hd rs hs es er w W) (a:Below W.heap.size W W'):dD n C t N hd rs hs es er w W':=⟨(a.block n (aD h.hX)).trans h.hX,h.hB.trans (a.mono (pD (aD h.hX))),h.hO.later a,h.hN,bg h.hW a.size⟩
theorem dD.upon (h:dD n C t N hd rs hs es er w W) (a:Below N W W'):dD n C t N hd rs hs es er w W':=by have hn:=h.hN;exact⟨(a.block n (by omega)).trans h.hX,h.hB.trans (a.mono (by omega)),h.hO.below a (by omega),h.hN,bg h.hW a.size⟩
theorem dD.step {c a b f g} (h:dD n C t N hd rs hs es er w W) (e:mA (n+1) c a b f g W') (d:Below (n+1) W W'):dD n C t W'.heap.size c a b f g w W':=⟨(d.block n (by omega)).trans h.hX,h.hB.trans (d.mono (by omega)),e.bound _ bG,e.size,cD _⟩
theorem dD.begin {a} (b:a=C.toArray) (hn:w.heap.size=n):dD n C t ((w.alloc (.cells a t)).alloc (.cells (nX (.slice none 0 0) (.slice none 0 0) (.slice none 0 0) (.slice none 0 0) 0) 65)).heap.size [] [] [] [] 0 w ((w.alloc (.cells a t)).alloc (.cells (nX (.slice none 0 0) (.slice none 0 0) (.slice none 0 0) (.slice none 0 0) 0) 65)):=by subst hn;subst b;exact⟨aR _ _ _ _ (ak _ _ _ _ rfl),dt.alloc (by simp) _,(mA.new _ _ (by simp)).bound _ bG,by simp,cD _⟩
theorem dD.more (h:dD n C t N hd rs hs es er w W) (L) (hL:W.heap.size=L):dD n C t L hd rs hs es er w (W.alloc (.cells (nX (.slice none 0 0) (.slice none 0 0) (.slice none 0 0) (.slice none 0 0) 0) 65))∧mA L [] [] [] [] 0 (W.alloc (.cells (nX (.slice none 0 0) (.slice none 0 0) (.slice none 0 0) (.slice none 0 0) 0) 65)):=by subst hL;have a:=h.later (W':=W.alloc (.cells (nX (.slice none 0 0) (.slice none 0 0) (.slice none 0 0) (.slice none 0 0) 0) 65)) dt;exact⟨⟨a.hX,a.hB,a.hO.mono h.hW,bg h.hN h.hW,by simp⟩,mA.new _ _ rfl⟩
theorem dD.fail (h:dD n C t N hd rs hs es er w W) (a):
 Calls prog 27 #[.pointer (some ⟨n+1,0,none⟩),.int .i64 a] W fun e b=>e= .returned (.tuple #[])∧dD n C t b.heap.size hd rs hs es (if er=0 then a else er) w b:=
 (P7 (n+1) hd rs hs es er a W h.hO.gen).mono fun _ _ ⟨f,d,c⟩=>⟨f,h.step d c⟩
theorem dD.app (h:dD n C t N hd rs hs es er w W) (m k a c) (d:cG a c m W) (g:m.length=k) (f:hd.length+k≤70368744170000):
 Calls prog 25 #[.pointer (some ⟨n+1,0,none⟩),.slice a k c] W fun e b=>e= .returned (.tuple #[])∧dD n C t b.heap.size (hd++m) rs hs es er w b:=by
 subst g;exact(DB (n+1) hd rs m hs es er a c W h.hO.gen d.row d.nil (by omega)).mono fun _ _ ⟨l,j,i⟩=>⟨l,h.step j i⟩
theorem dD.u64 (h:dD n C t N hd rs hs es er w W) (m) (a:hd.length≤70368744170000):
 Calls prog 83 #[.pointer (some ⟨n+1,0,none⟩),.int .u64 m] W fun e b=>e= .returned (.tuple #[])∧dD n C t b.heap.size (hd++fH m) rs hs es er w b:=
 (Jt (n+1) hd rs hs es er m W h.hO.gen a).mono fun _ _ ⟨f,d,c⟩=>⟨f,h.step d c⟩
theorem dD.put (h:dD n C t N hd rs hs es er w W) (m k a c g) (j:bc N (.slice a k c) m W) (l:m.length=k) (f:hd.length≤70368744170000) (d:rs.length+k≤70368744170000) (b:hs.length≤1000000000) (o:es.length≤1000000000):
 Calls prog 30 #[.pointer (some ⟨n+1,0,none⟩),.slice a k c,.int .i64 g] W fun e i=>e= .returned (.tuple #[])∧dD n C t i.heap.size (hd++[0,0,0,0]) (rs++m) (hs++[hd.length]) (es++[rs.length]) (if er=0 then g else er) w i:=by
 subst l;exact(Dz N (n+1) hd rs m hs es er g a c W h.hO h.hN j f d b o).mono fun _ _ ⟨f,d,b⟩=>⟨f,h.step d b⟩
theorem dD.done (h:dD n C t N hd rs hs es 0 w W) (S) (j:hd.length+rs.length=S) (k:hs.length=es.length) (g:∀i,i<hs.length→hs.getD i 0+4≤hd.length) (f:∀i,i<hs.length→es.getD i 0≤70368744170000) (b:S≤70368744170000) (p:hs.length≤1000000000):
 Calls prog 31 #[.pointer (some ⟨n+1,0,none⟩)] W fun e d=>(∃a c,e= .returned (.tuple #[.slice a S c,.int .i64 0])∧(a=none→c=0)∧bc n (.slice a S c) (oN hd rs hs es) d)∧Below n w d:=by
 subst j;exact(zN (n+1) hd rs hs es W h.hO.gen k g f b p).mono fun _ _ ⟨⟨a,c,q,o,m⟩,l⟩=>⟨⟨a,c,q,o,lh m (by omega)⟩,h.hB.trans (l.mono (by omega))⟩
theorem dD.Yk {a f L} (h:dD n C t N hd rs ([]++[a]) ([]++[f]) 0 w W) (S) (k:hd.length+rs.length=S) (ha:a+4≤hd.length) (l:f≤1000) (d:S≤70368744170000) (hL:oN hd rs ([]++[a]) ([]++[f])=L):
 Calls prog 31 #[.pointer (some ⟨n+1,0,none⟩)] W fun e j=>(∃g c,e= .returned (.tuple #[.slice g S c,.int .i64 0])∧(g=none→c=0)∧bc n (.slice g S c) L j)∧Below n w j:=by
 subst hL;refine h.done S k rfl (fun i b=>?_) (fun i b=>?_) d (by simp)
 ·obtain rfl:i=0:=by simp at b;exact b
  exact ha
 ·obtain rfl:i=0:=by simp at b;exact b
  show f≤_;omega
theorem dD.xO (h:dD n C t N hd rs hs es er w W) (he:er≠0):
 Calls prog 31 #[.pointer (some ⟨n+1,0,none⟩)] W fun e a=>e= .returned (.tuple #[.slice none 0 0,.int .i64 er])∧Below n w a:=
 (DA (n+1) hd rs hs es er W h.hO.gen he).mono fun _ _ ⟨c,b⟩=>⟨c,h.hB.trans (b.mono (pD (aD h.hX)))⟩
theorem Mu (b k m w) (h:mA b m [] [] [] 0 w) (j:m.length=k) (d:k≤70368744170000):
 Calls prog 31 #[.pointer (some ⟨b,0,none⟩)] w fun e f=>(∃a c,e= .returned (.tuple #[.slice a k c,.int .i64 0])∧(a=none→c=0)∧bc b (.slice a k c) m f)∧Below b w f:=by
 subst j;refine(zN b m [] [] [] w h rfl (fun i g=>by simp at g) (fun i g=>by simp at g) (by simpa using d) (by simp)).mono fun e f ⟨⟨a,c,r,q,p⟩,o⟩=>⟨⟨a,c,by simpa using r,q,?_⟩,o⟩;have l:=lh p (Nat.le_succ b);simpa[oN,gZ]using l
theorem dD.sl (h:dD n C t N hd rs hs es er w W) {pre post a c f} (i:C=pre++(ae a (fun _=> .u8) f++post)) (g:pre.length=c) (d:∀j,j<a→CK.ok .u8 (f j)):cG (some ⟨n,c,none⟩) a (ff f 0 a) W:=⟨zI (dK h.hX i c g) d,(fun e=>by cases e),by rw[az];exact cD _,fun b o e=>by cases e;exact aD h.hX⟩
end
def d_ (l:List Int):List Int:=(l.map fH).flatten
def dm:∀l:List Int,(d_ l).length=8*l.length
 |[]=>rfl
 |m::l=>by show (fH m++d_ l).length=_;rw[bM,aX,dm l,List.length_cons];omega
def nt:∀(l:List Int),∀x∈d_ l,CK.ok .u8 x
 |[],x,a=>by simp[d_]at a
 |m::l,x,a=>by
  rcases iD.1 (show x∈fH m++d_ l from a)with h|h
  ·exact na m x h
  ·exact nt l x h
def lU {a:Type} (l:List a) (d k) (h:k<l.length):l.take (k+1)=l.take k++[l.getD k d]:=by rw[s6,List.getD,fS h];rfl
def o9 (l:List Int) (k) (h:k<l.length):d_ (l.take (k+1))=d_ (l.take k)++fH (l.getD k 0):=by rw[lU l 0 k h];simp[d_]
def jU.VY {f n c j a w} (h:jU f (.slice j n c) a w) (hn:a.length=n) (k:∀r∈a,fY r):j_ w j a∧(∀b o,j=some ⟨b,o,none⟩→b<w.heap.size)∧n≤c:=by
 by_cases s:n=0
 ·subst s
  have y:a=[]:=Ay hn;subst y;refine⟨⟨fun i k=>absurd k (by simp),k⟩,fun b o e=>?_,qB _⟩;subst e;rcases h.2 with⟨e,_⟩|⟨g,d,z,q,B,p,_⟩
  ·cases e
  ·cases q
   exact aD p
 ·obtain⟨g,d,e,A,l⟩:=gz h (by omega)
  have m:=l.choose_spec.2.2.1;rw[hn]at e l m;obtain⟨rfl,rfl⟩:j=some ⟨g,0,none⟩∧c=d:=by injection e with v C u;exact⟨v,u⟩
  exact⟨l.row a (by omega) (fun _ _=>rfl) k,fun b o e=>by cases e;exact l.lt,m⟩
def DG (n m b c w) (j:m<n) (g:m≤1099511627776):
 Calls prog 100 #[.slice b n c,.int .i64 (m:Int)] w fun e a=>e= .returned (.tuple #[.agg (ax bh),.int .i64 6])∧Below w.heap.size w a:=by
 have o:decide (1099511627776<(m:Int))=false:=by simp;omega
 have l:decide ((m:Int)<(n:Int))=true:=by simp;omega
 have k:¬((m:Int)<0):=by omega
 go_enter func100,ntmps100
 go_wp2_with (first
  |refine ao 25 ?_;refine fX 4 cg ?_
  |refine cZ 25 ?_;refine ab (by rfl) _ (ct _ rfl) ?_
  |refine al 25 ?_;refine aq (w0:=w) (n0:=w.heap.size) 25 _ _ rfl rfl w.heap.size rfl _ rfl (aA _ _ _) (by rw[ah am];simp[ae]) _ 25 (ak _ _ _ _ rfl) (by rw[bL];simp[ae]) bG ((aP _ w).alloc bG _) (fun p d f _=>?_))
 exact aI rfl w.heap.size 0 (ae 32 (fun _=> .u8) bh) _ rfl d cH rfl (by rw[ah am,ac]) rfl ⟨rfl,f⟩
def B8 (a:List Int):Nat→Int:=fullT 4 (leaf (chunks (d_ a)))
def Oi (a):fY (B8 a):=dj 4 (eO (im (nt a)))
def T6 (a r J Y cw w) (jW:Row w Y .u64 a) (O:cY w) (cW:a.length≤1000000000) (Np:a.length≤64∧r=B8 a∧J=0∨64<a.length∧r=bh∧J=6):
 Calls prog 185 #[.slice Y a.length cw,.int .i64 64] w fun e L=>e= .returned (.tuple #[.agg (ax r),.int .i64 J])∧Below w.heap.size w L:=by
 have hk:=aa Np;clear Np;have hw:=aa jW;have E:=aa (fun W (h:Below w.heap.size w W)=>O.below O.size h);clear jW O;have xl:=aa (fun m W=>qY m W);have y:=aa (fun W (h:Below w.heap.size w W)=>hw.out.later h);have P:=aa (ak w zr 25 w.heap.size rfl);have T:=aa ((aP w.heap.size w).alloc bG (.cells zr 25));have s:(w.alloc (.cells zr 25)).heap.size=w.heap.size+1:=by rw[bn]
 obtain⟨b,B⟩:∃b,b=w.heap.size:=⟨_,rfl⟩;rw[←B]at E y P T s ⊢;have ws:=aa B;have f:=aa (fun j (h:j≤a.length)=>show (d_ (a.take j)).length=8*j by rw[dm,cf];omega)
 go_enter func185,ntmps185
 go_wp2_with (
  ((with_reducible refine ao 25 ?_);refine fX 4 cg ?_))
 rw[←B];clear B;generalize w.alloc (.cells zr 25)=U at*;have sH:Below (b+1) U U:=aP _ _
 go_loopw [6,12] (fun v i wr=>∃k:Nat,k≤a.length∧i= .int .i64 (k:Int)∧(∃M c,v= .slice M (8*k) c)∧bc (b+1) v (d_ (a.take k)) wr∧Below (b+1) U wr) (fun _ i _=>a.length-(intOf i).toNat)
 case atStart=>exact⟨0,by omega,rfl,⟨none,0,rfl⟩,⟨rfl,Or.inl ⟨rfl,rfl⟩⟩,sH⟩
 case round=>
  obtain⟨k,BU,rfl,⟨M,c,rfl⟩,E1,d⟩:=hrel;have l:=aa E1;have hD:=aa d;have H:=aa (T.out.trans (d.mono (show b≤b+1 by omega)));have G:=aa ((d.block b (by omega)).trans P.out);have g:=f.out k BU;have K4:=d.size;clear E1 d sH;by_cases N:k<a.length
  ·obtain⟨bw,Z,rfl,wj⟩:=(y.out wr H.out).cell k N
   have D:=aa wj;have No:=aa (o9 a k N);clear wj f ws E G H y;generalize a.getD k 0=m at*;have lk:(k:Int)<(a.length:Int):=by omega
   go_wp2_with (first
    |refine aC 78 ?_;refine ab (by rfl) _ (ai _ 78 26 _ _ rfl qw 1 rq bw Z a.length cw rfl .i64 k rfl N (Z+k) (by omega)) ?_
    |refine ag 26 ?_;refine dq (v:=(.int .u64 m)) D.out Ik ?_ rfl rfl rfl rfl
    |with_reducible refine(xl.out m _).mono ?_
     rintro e W ⟨rfl,o⟩;have fR:=aa ((l.out.later o).later ((aP W.heap.size W).alloc bG (.cells (kX m) 184)));have d:=aa ((hD.out.trans (o.mono (by omega))).alloc (by have:=o.size;omega) (.cells (kX m) 184));have X:=aa (mU (ak W (kX m) 184 W.heap.size rfl));have vl:b+1≤(W.alloc (.cells (kX m) 184)).heap.size:=by rw[bn];have:=o.size;omega
     clear o l hD
    |refine ao 184 ?_;refine aw rfl rfl 184 9 _ rfl rfl rfl (kX m) rfl rfl (zeroOf prog 184) (aG iA).1 (aG iA).2 (mh _) ?_
    |refine be .append ?_;refine aH rfl fun K hK=>tv (.tmp 18) (.tmp 19) rfl (b+1) _ (fH m) _ rfl fR.out (some ⟨W.heap.size,0,none⟩) 8 (by rw[aX];rfl) X.out (by rw[g,aX];omega) vl (fun h=>by cases h) d.out (fun v1 W2 I b1 z1=>hK _ _ ?_);clear hK K
     rw[←No.out]at I;have my:=aa I;have sQ:=aa b1;obtain⟨eE,c1,e1,ig⟩:=aW I;have V:(d_ (a.take (k+1))).length=8*(k+1):=by rw[dm,cf];omega
     rw[V]at e1;clear ig I b1
     subst e1)
   exact⟨⟨k+1,by omega,by go_num,⟨_,_,rfl⟩,my.out,sQ.out⟩,by simp[intOf];omega⟩
  ·have e0:k=a.length:=by omega
   subst e0;rw[gC]at g l
   have A:=CW (d_ a) M c wr (by
    obtain⟨n,p,e,h,D⟩:=l.out.row (nt a);rw[g]at e;cases e;exact h) (by
    obtain⟨n,p,e,h,D⟩:=l.out.row (nt a);rw[g]at e;cases e
    exact D) (by omega)
   rw[g]at A;have C:(chunks (d_ a)).length=(8*a.length+31)/32:=by rw[di,g]
   obtain⟨q,z⟩:∃q,q=(8*a.length+31)/32:=⟨_,rfl⟩;rw[C,←z]at A;rw[←z]at C;have hp:=aa A;have Vn:b≤wr.heap.size:=by omega
   clear A f y hw xl l T P s;have YP:=aa (im (nt a));unfold B8 at hk;generalize chunks (d_ a)=rs at*;have Lu:=aa C;have Ve:=aa z;clear C z ws;have Xx:=aa (show q≤16↔a.length≤64 by rw[Ve.out];omega)
   go_wp2_with (first
    |with_reducible refine hp.out.mono ?_
     rintro e W ⟨⟨n,p,rfl,u⟩,S⟩;obtain⟨dC,pH,mw⟩:=u.VY Lu.out YP.out;have R:=aa (H.out.trans (S.mono Vn));have F:=aa ((S.block b (aD G.out)).trans G.out)
     have hm:=aa (show Calls prog 100 #[.slice n q p,.int .i64 16] W fun e L=>e= .returned (.tuple #[.agg (ax r),.int .i64 J])∧Below W.heap.size W L from by
      rcases hk.out with⟨h,rfl,rfl⟩|⟨h,rfl,rfl⟩
      ·exact zP rs q 16 4 n p W Lu.out (Xx.out.2 h) ⟨by decide,by decide⟩ (by decide) dC pH mw (E.out _ R.out)
      ·exact DG q 16 n p W (by have:=Xx.out;omega) (by decide))
     clear u S dC pH mw hp H G E Vn
    |with_reducible refine hm.out.mono ?_
     rintro e W2 ⟨rfl,Q⟩;have i6:=aa (R.out.trans (Q.mono (pD (aD F.out))));have re:=aa ((Q.block b (aD F.out)).trans F.out);clear Q hm R F
    |refine al 25 ?_;refine aq (w0:=w) (n0:=b) 25 _ _ rfl rfl b rfl _ rfl (aA _ _ _) (by rw[ah am];simp[ae]) _ 25 re.out (by rw[bL];simp[ae]) bG i6.out (fun W9 gM dY _=>?_))
   exact aI rfl b 0 (ae 32 (fun _=> .u8) r) _ rfl gM cH rfl (by rw[ah am,ac]) rfl ⟨rfl,dY⟩
def agF:CK→Bool
 | .u8=>true
 |_=>false
def LA (kd:Nat→CK) (a b:Nat):Bool:=(List.range b).all fun j=>agF (kd (a+j))
def da {kd a b} (h:LA kd a b=true):∀j,j<b→kd (a+j)= .u8:=fun j d=>by have c:=nn.1 h j (rW.2 d);revert c;cases kd (a+j)<;>first|(intro _;rfl)|(intro c;cases c)
def adF:CK→CK→Bool
 | .u8,.u8=>true
 | .u64,.u64=>true
 |_,_=>false
def Cq (kd:Nat→CK) (a b:Nat) (c:Nat→CK):Bool:=(List.range b).all fun j=>adF (kd (a+j)) (c j)
def bB {kd ii off len} (h:Cq kd off len ii=true):∀j,j<len→kd (off+j)=ii j:=fun j b=>by have a:=nn.1 h j (rW.2 b);revert a;cases kd (off+j)<;>cases ii j<;>first|(intro _;rfl)|(intro a;cases a)
abbrev uu (N:Nat) (kd:Nat→CK) (f:Nat→Int):Prop:=∀j,j<N→(kd j).ok (f j)
def pu (d N:Nat) (kd:Nat→CK) (S:Nat) (g:(Nat→Int)→List Int):Prop:=∀f w,Hid (uu N kd f)→Calls prog d #[.agg (ae N kd f).toArray] w fun e b=>(∃a c,e= .returned (.slice a S c)∧(a=none→c=0)∧bc w.heap.size (.slice a S c) (g f) b)∧Below w.heap.size w b
def iH (d N:Nat) (kd:Nat→CK) (S:Nat) (g:(Nat→Int)→List Int):Prop:=∀f w,Hid (uu N kd f)→Calls prog d #[.agg (ae N kd f).toArray] w fun e b=>(∃a c,e= .returned (.tuple #[.slice a S c,.int .i64 0])∧(a=none→c=0)∧bc w.heap.size (.slice a S c) (g f) b)∧Below w.heap.size w b
def jN (c N:Nat) (kd:Nat→CK) (a:(Nat→Int)→Nat→Int):Prop:=∀f w,Hid (uu N kd f)→Hid (cY w)→Calls prog c #[.agg (ae N kd f).toArray] w fun e b=>e= .returned (.agg (ax (a f)))∧Below w.heap.size w b
def fK (c N:Nat) (kd:Nat→CK) (a:(Nat→Int)→Nat→Int):Prop:=∀f w,Hid (uu N kd f)→Hid (cY w)→Calls prog c #[.agg (ae N kd f).toArray] w fun e b=>e= .returned (.tuple #[.agg (ax (a f)),.int .i64 0])∧Below w.heap.size w b
structure qJ (N:Nat) (kd:Nat→CK) (S:Nat) (Co:(Nat→Int)→List Int) (root:(Nat→Int)→Nat→Int):Prop where
 len:∀f,(Co f).length=S
 ok:∀{f},uu N kd f→∀m∈Co f,CK.ok .u8 m
 is:∀{f},uu N kd f→fY (root f)
section
variable {n N:Nat} {kd:Nat→CK} {f:Nat→Int} {t:TypeId} {l:List Int} {w W:World} {Q:Ending→World→Prop}
theorem Box.num (h:Box n N kd f t w W) {j} (b:j<N) (a:kd j= .u64):W.cell? ⟨n,j,none⟩=some (.int .u64 (f j)):=by rw[h.cell b,a];rfl
theorem fA.Bk (h:fA n N kd f t l w W) {m} (hl:l.length≤70368744170000) (k:∀a,Hid (fA n N kd f t (l++fH m) w a)→Q (.returned (.tuple #[])) a):
 Calls prog 83 #[.pointer (some ⟨n+1,0,none⟩),.int .u64 m] W Q:=(h.u64 m hl).mono fun _ _ ⟨c,b⟩=>by rw[c];exact k _ b
theorem fA.kR (h:fA n N kd f t l w W) {a len} (d:LA kd a len=true) (e:a+len≤N) (c:∀j,j<N→(kd j).ok (f j)) (hl:l.length+len≤70368744170000) (k:∀b,Hid (fA n N kd f t (l++ff f a len) w b)→Q (.returned (.tuple #[])) b):
 Calls prog 25 #[.pointer (some ⟨n+1,0,none⟩),.slice (some ⟨n,a,none⟩) len len] W Q:=(h.bytes a len (da d) e c hl).mono fun _ _ ⟨i,g⟩=>by rw[i];exact k _ g
theorem ldU {c Q b a d e pos o x} (h:Box n N kd f t w W) {j} (g:a.eval x= .pointer (some ⟨n,j,none⟩)) (m:j<N) (i:kd j= .u64) (k:wpList prog c Q b (a.put d (.int .u64 (f j))) W):wpList prog c Q (⟨d,.load 26 x,e,pos,o,none⟩::b) a W:=ab rfl _ (au _ 26 _ rfl ⟨n,j,none⟩ g _ (h.num m i) _ Ik rfl) k
def RI (a:Nat):Nat:=if a≤32 then 0 else if a≤64 then 1 else if a≤128 then 2 else if a≤256 then 3 else 4
def Q_ (n:Nat):Nat:=if n≤1 then 0 else if n≤2 then 1 else if n≤4 then 2 else if n≤8 then 3 else 4
theorem tF {n} (b:1≤n) (a:n≤512):lN ((n+31)/32) (RI n)∧RI n≤40:=by
 unfold RI lN
 (repeat' split)<;>(refine⟨⟨?_,?_⟩,?_⟩<;>first|decide|omega|(right;simp;omega)|(simp;omega))
theorem tE {n} (a:1≤n∧n≤16):lN n (Q_ n)∧Q_ n≤40:=by
 unfold Q_ lN
 (repeat' split)<;>(refine⟨⟨?_,?_⟩,?_⟩<;>first|decide|omega|(right;simp;omega)|(simp;omega))
variable {rs:List (Nat→Int)}
theorem db.Bk (h:db n N kd f t rs w W) {m} (hl:rs.length≤1000) (k:∀a,Hid (db n N kd f t (rs++[je m]) w a)→Q (.returned (.tuple #[])) a):
 Calls prog 84 #[.pointer (some ⟨n+1+1,0,none⟩),.int .u64 m] W Q:=(h.u64 m hl).mono fun _ _ ⟨c,b⟩=>by rw[c];exact k _ b
theorem db.putK (h:db n N kd f t rs w W) {r} (b:fY r) (hl:rs.length≤1000) (k:∀a,Hid (db n N kd f t (rs++[r]) w a)→Q (.returned (.tuple #[])) a):
 Calls prog 85 #[.pointer (some ⟨n+1+1,0,none⟩),.agg (ax r),.int .i64 0] W Q:=(h.put r b hl).mono fun _ _ ⟨d,c⟩=>by rw[d];exact k _ c
theorem db.adL (h:db n N kd f t rs w W) {a} (d:LA kd a 32=true) (e:a+32≤N) (c:∀j,j<N→(kd j).ok (f j)) (hl:rs.length≤1000) (k:∀b,Hid (db n N kd f t (rs++[fb f a]) w b)→Q (.returned (.tuple #[])) b):
 Calls prog 85 #[.pointer (some ⟨n+1+1,0,none⟩),.agg (ax (fb f a)),.int .i64 0] W Q:=h.putK (rv c (da d) e) hl k
theorem db.kR (h:db n N kd f t rs w W) {a len} (g:LA kd a len=true) (i:a+len≤N) (e:∀j,j<N→(kd j).ok (f j)) (b:1≤len) (c:len≤512) (hl:rs.length≤1000) (k:∀d,Hid (db n N kd f t (rs++[uU (RI len) (ff f a len)]) w d)→Q (.returned (.tuple #[])) d):
 Calls prog 90 #[.pointer (some ⟨n+1+1,0,none⟩),.slice (some ⟨n,a,none⟩) len len] W Q:=
 (h.bytes a len (RI len) (da g) i e b (by omega) (tF b c).1 (tF b c).2 hl).mono fun _ _ ⟨b,c⟩=>by rw[b];exact k _ c
theorem db.mI (h:db n N kd f t rs w W) (hn:1≤rs.length∧rs.length≤16)
 (k:∀a,Below n w a→Hid (a.heap[n+1]?=some (.cells zr 25 (0,0)))→Q (.returned (.tuple #[.agg (ax (fullT (Q_ rs.length) (leaf rs))),.int .i64 0])) a):
 Calls prog 39 #[.pointer (some ⟨n+1+1,0,none⟩)] W Q:=
 (h.done (Q_ rs.length) (tE hn).1 hn.1 (tE hn).2).mono fun _ _ ⟨d,c,b⟩=>by rw[d];exact k _ c b
theorem ldR {c Q b a d e pos o x} (h:Box n N kd f t w W) {j} (g:a.eval x= .pointer (some ⟨n,j,none⟩)) (i:LA kd j 32=true) (m:j+32≤N) (k:wpList prog c Q b (a.put d (.agg (ax (fb f j)))) W):wpList prog c Q (⟨d,.load 25 x,e,pos,o,none⟩::b) a W:=ab rfl _ (ar _ 25 _ rfl n j g (ae 32 (fun _=> .u8) (fb f j)) _ (h.sub j 32 (fun _=> .u8) (da i) m) cH rfl (by rw[ah am,ac])) k
theorem KM {e Q b a d i T pos u x} (h:Box n N kd f t w W) {c} (g) (p:rowB prog T c=true) {D} (o:prog.underlying T=some D) (r:D.isRow=true) {j} (m:a.eval x= .pointer (some ⟨n,j,none⟩)) (q:Cq kd j c g=true) (s:j+c≤N) (k:wpList prog e Q b (a.put d (.agg (ae c g (fb f j)).toArray)) W):wpList prog e Q (⟨d,.load T x,i,pos,u,none⟩::b) a W:=ab rfl _ (ar _ T _ rfl n j m (ae c g (fb f j)) _ (h.sub j c g (bB q) s) o r (by rw[ah p,ac])) k
theorem fA.pp (h:fA n N kd f t l w W) {q b i e g r} (s:pu q b e i g) (hF:qJ b e i g r) {a} (o:Cq kd a b e=true) (p:a+b≤N) (m:uu N kd f) (k:∀j d c,Hid (cG d c (g (fb f a)) j∧(g (fb f a)).length=i)→Hid (fA n N kd f t l w j)→Q (.returned (.slice d i c)) j):Calls prog q #[.agg (ae b e (fb f a)).toArray] W Q:=(s _ W (d7 m (bB o) p)).mono fun _ _ ⟨⟨d,c,z,y,v⟩,u⟩=>by rw[z];exact k _ d c ⟨cG.b_ v (hF.ok (d7 m (bB o) p)) y,hF.len _⟩ (h.later u)
theorem fA.kA (h:fA n N kd f t l w W) {m q c a} (hs:cG a c m W∧m.length=q) (hl:l.length+q≤70368744170000) (k:∀b,Hid (fA n N kd f t (l++m) w b)→Q (.returned (.tuple #[])) b):
 Calls prog 25 #[.pointer (some ⟨n+1,0,none⟩),.slice a q c] W Q:=(h.app m q a c hs.1 hs.2 hl).mono fun _ _ ⟨e,d⟩=>by rw[e];exact k _ d
theorem db.pp (h:db n N kd f t rs w W) {j b s d r c} (o:jN j b d c) (hF:qJ b d s r c) {a} (g:Cq kd a b d=true) (i:a+b≤N) (e:uu N kd f) (k:∀m,Hid (fY (c (fb f a)))→Hid (db n N kd f t rs w m)→Q (.returned (.agg (ax (c (fb f a))))) m):Calls prog j #[.agg (ae b d (fb f a)).toArray] W Q:=(o _ W (d7 e (bB g) i) h.hT).mono fun _ _ ⟨q,p⟩=>by rw[q];exact k _ (hF.is (d7 e (bB g) i)) (h.later p)
variable {ps:List Pt}
theorem gw.In (h:gw n N kd f t ps w W) {m} (k:∀b a c,Hid (gw n N kd f t (ps++[(a,c,8,fH m)]) w b)→Q (.returned (.slice a 8 c)) b):
 Calls prog 108 #[.int .u64 m] W Q:=(h.num m).mono fun _ _ ⟨a,c,e,d⟩=>by rw[e];exact k _ a c d
theorem gw.kA {m Q i a d v pos E x y} (h:gw n N kd f t ps w W) {g b c} (hs:a.eval x= .slice (some ⟨W.heap.size,0,none⟩) 0 0) (z:a.eval y= .slice (some ⟨n,g,none⟩) b c) (q:LA kd g b=true) (r:g+b≤N) (p:∀j,j<N→(kd j).ok (f j)) (hl:b≤1000) (k:∀u o c,Hid (gw n N kd f t (ps++[(o,c,b,ff f g b)]) w u)→wpList prog m Q i (a.put d (.slice o b c)) u):
 wpList prog m Q (⟨d,.call {callee:= .builtin .append,args:=#[x,y],argTypes:=#[39,39]},v,pos,E,none⟩::i) a (W.alloc (.cells #[] 5)):=by
 have s:Below W.heap.size W (W.alloc (.cells #[] 5)):=dt;refine cB (w0:=W) rfl x y rfl W.heap.size [] (ff f g b) _ hs (bc.new bG [] (by decide) (ak _ _ _ _ rfl)) (some ⟨n,g,none⟩) c (by rw[az];exact z) ((h.toBox.row g b (da q) r p).later s) (by rw[az];simp;omega) (by simp) (fun h=>by cases h) s (fun G H B D _=>?_);obtain⟨o,C,e,A⟩:=h.own B D (eM (gr p (da q) r)) (az f g b);subst e;exact k _ o C A
theorem gw.layK (h:gw n N kd f t ps w W) {K S V Z b} (hV:V=(il ps).toArray) (g:b=(iI ps).map List.length) (hZ:Z=(HT b).toArray) (j:ps.length=K) (d:1≤K∧K≤64) (i:∀z∈b,z≠0∧z≤65536) (o:(iI ps).flatten.length=S) (m:S≤1099511627776) (k:∀e a c,(a=none→c=0)→Hid (bc n (.slice a S c) (iI ps).flatten e)→Below n w e→Q (.returned (.tuple #[.slice a S c,.int .i64 0])) e):
 Calls prog 48 #[.slice (some ⟨W.heap.size,0,none⟩) K K,.slice (some ⟨W.heap.size+1,0,none⟩) K K] ((W.alloc (.cells V 39)).alloc (.cells Z 3)) Q:=
 (h.Zb b hV hZ j d.1 d.2 g.symm i rfl o m).mono fun _ _ ⟨⟨a,c,d,r,q⟩,p⟩=>by rw[d];exact k _ a c r q p
theorem gw.pp (h:gw n N kd f t ps w W) {p b g e i r} (s:iH p b e g i) (hF:qJ b e g i r) {a} (m:Cq kd a b e=true) (o:a+b≤N) (j:uu N kd f) (k:∀q d c,Hid (gw n N kd f t (ps++[(d,c,g,i (fb f a))]) w q)→Q (.returned (.tuple #[.slice d g c,.int .i64 0])) q):Calls prog p #[.agg (ae b e (fb f a)).toArray] W Q:=(s _ W (d7 j (bB m) o)).mono fun _ _ ⟨⟨d,c,z,y,v⟩,u⟩=>by rw[z];exact k _ d c ((h.later u).add (cG.b_ v (hF.ok (d7 j (bB m) o)) y) (hF.len _))
variable {tc:TypeId} {K:Nat}
theorem dP.In (h:dP n N kd f t tc K rs w W) {m} (k:∀b a c,Hid (cG a c (fH m) b)→Hid (dP n N kd f t tc K rs w b)→Q (.returned (.slice a 8 c)) b):
 Calls prog 108 #[.int .u64 m] W Q:=(h.num m).mono fun _ _ ⟨a,c,g,e,d⟩=>by rw[g];exact k _ a c e d
theorem dP.LS (h:dP n N kd f t tc K rs w W) {l a c k} (hl:cG a c l W) (i:l.length=k) (d:1≤k) (b:k≤32) (g:∀e,Hid (dP n N kd f t tc K rs w e)→Q (.returned (.agg (ax (fg l 0)))) e):
 Calls prog 120 #[.slice a k c] W Q:=(h.chunk l a c k hl i d b).mono fun _ _ ⟨d,b⟩=>by rw[d];exact g _ b
theorem dP.NV (h:dP n N kd f t tc K rs w W) {d a c} (q:c=a) (p:LA kd d a=true) (r:d+a≤N) (m:∀j,j<N→(kd j).ok (f j)) (i:1≤a∧a≤512) (k:∀g e c,Hid (j_ g e (chunks (ff f d a))∧(∀b o,e=some ⟨b,o,none⟩→b<g.heap.size)∧(a+31)/32≤c)→Hid (dP n N kd f t tc K rs w g)→Q (.returned (.slice e ((a+31)/32) c)) g):
 Calls prog 50 #[.slice (some ⟨n,d,none⟩) a c] W Q:=by
 subst q;exact(h.pack (ff f d c) _ c c _ (h.toBox.sl d c (da p) r m) (az _ _ _) rfl i.1 (by omega)).mono fun _ _ ⟨e,c,i,y,v,u,s⟩=>by rw[i];exact k _ e c ⟨y,v,u⟩ s
theorem dP.Fp (h:dP n N kd f t tc K rs w W) {d a q c g m} (i:j_ W g (chunks (ff f d a))∧(∀b o,g=some ⟨b,o,none⟩→b<W.heap.size)∧(a+31)/32≤c) (p:q=(a+31)/32) (r:m=(q:Int)) (e:1≤a∧a≤512) (k:∀j,Hid (dP n N kd f t tc K rs w j)→Q (.returned (.agg (ax (uU (RI a) (ff f d a))))) j):Calls prog 49 #[.slice g q c,.int .i64 m] W Q:=by subst p;exact(h.Pc (ff f d a) g c _ (RI a) m i.1 i.2.1 i.2.2 (by rw[az]) r (tF e.1 e.2).1 (tF e.1 e.2).2).mono fun _ _ ⟨e,s⟩=>by rw[e];exact k _ s
theorem dP.pp (h:dP n N kd f t tc K rs w W) {j b s d r c} (o:fK j b d c) (hF:qJ b d s r c) {a} (g:Cq kd a b d=true) (i:a+b≤N) (e:uu N kd f) (k:∀m,Hid (fY (c (fb f a)))→Hid (dP n N kd f t tc K rs w m)→Q (.returned (.tuple #[.agg (ax (c (fb f a))),.int .i64 0])) m):Calls prog j #[.agg (ae b d (fb f a)).toArray] W Q:=(o _ W (d7 e (bB g) i) h.hT).mono fun _ _ ⟨q,p⟩=>by rw[q];exact k _ (hF.is (d7 e (bB g) i)) (h.later p)
theorem QM {m}:fY (fg (fH m) 0):=ir m
theorem ZC {c Q b a d g pos s x y} (h:dP n N kd f t tc K rs w W) {i r} (j:a.eval y= .agg (ax r)) (k:a.eval x= .pointer (some ⟨n+1+1,i,none⟩)) (p:i=32*rs.length) (q:rs.length<K) (m:fY r) (o:∀e,Hid (dP n N kd f t tc K (rs++[r]) w e)→wpList prog c Q b (a.put d undef) e):wpList prog c Q (⟨d,.store 25 x y,g,pos,s,none⟩::b) a W:=mp rfl x y rfl rs.length r (by rw[k,p]) j h rfl q m o
theorem dP.I3 (h:dP n N kd f t tc K rs w W) {m} (c:m=(K:Int)) (d:rs.length=K) (a:1≤K∧K≤16) (k:∀b,Below n w b→Hid (b.heap[n+1]?=some (.cells zr 25 (0,0)))→Q (.returned (.agg (ax (fullT (Q_ K) (leaf rs))))) b):
 Calls prog 49 #[.slice (some ⟨n+1+1,0,none⟩) K K,.int .i64 m] W Q:=(h.last (Q_ K) m c d (tE a).1 (tE a).2).mono fun _ _ ⟨a,g,e⟩=>by rw[a];exact k _ g e
end
abbrev rg:=List (Option Nat)
def cF:rg→Nat
 |[]=>0
 |none::r=>cF r+1
 |some n::r=>cF r+n
def sF:rg→Nat
 |[]=>0
 |none::r=>sF r+8
 |some n::r=>sF r+n
def kdF:rg→Nat→CK
 |[],_=> .u8
 |none::_,0=> .u64
 |none::r,j+1=>kdF r j
 |some n::r,j=>if j<n then .u8 else kdF r (j-n)
def encA (f:Nat→Int):rg→Nat→List Int
 |[],_=>[]
 |none::r,o=>fH (f o)++encA f r (o+1)
 |some n::r,o=>ff f o n++encA f r (o+n)
def dF (a:rg) (f:Nat→Int):List Int:=encA f a 0
def rdF:rg→List Int→Nat→Int
 |[],_,_=>0
 |none::_,l,0=>p9 (l.take 8)
 |none::r,l,k+1=>rdF r (l.drop 8) k
 |some n::r,l,k=>if k<n then l.getD k 0 else rdF r (l.drop n) (k-n)
def ue (f:Nat→Int):∀(a:rg) (o:Nat),(encA f a o).length=sF a
 |[],_=>rfl
 |none::r,o=>by rw[encA,bM,ue f r,aX,sF];omega
 |some n::r,o=>by rw[encA,bM,ue f r,az,sF];omega
def ez (a f):(dF a f).length=sF a:=ue f a 0
def Hq {f:Nat→Int}:∀(b:rg) (o:Nat),(∀j,j<cF b→(kdF b j).ok (f (o+j)))→∀m∈encA f b o,CK.ok .u8 m
 |[],_,_=>fun m c=>by simp[encA]at c
 |none::r,o,h=>dB (na _) (Hq r (o+1) fun j a=>by have:=h (j+1) (by simp only[cF];omega);rwa [show o+(j+1)=o+1+j by omega]at this)
 |some n::r,o,h=>by
  refine dB (eM fun j a=>?_) (Hq r (o+n) fun j a=>?_)
  ·have:=h j (by simp only[cF];omega)
   rwa [kdF,aj a]at this
  ·have:=h (n+j) (by simp only[cF];omega)
   rwa [kdF,an (by omega),jH,←oF]at this
def x6 {fd f N} (b:cF fd=N) (h:∀j,j<N→(kdF fd j).ok (f j)):∀m∈dF fd f,CK.ok .u8 m:=Hq fd 0 fun j a=>by rw[bY];exact h j (b▸a)
def rG {f g:Nat→Int}:∀(b:rg) (o p:Nat),(∀j,j<cF b→f (o+j)=g (p+j))→encA f b o=encA g b p
 |[],_,_,_=>rfl
 |none::r,o,p,h=>by rw[encA,encA,rG r (o+1) (p+1) fun j a=>by have:=h (j+1) (by simp only[cF];omega);rwa [oF,oF,Cu 1 j]];rw[show f o=g p from h 0 (by simp only[cF];omega)]
 |some n::r,o,p,h=>by rw[encA,encA,rG r (o+n) (p+n) fun j a=>by have:=h (n+j) (by simp only[cF];omega);rwa [oF,oF]];rw[show ff f o n=ff g p n from Fd fun j a=>h j (by have:=rW.1 a;simp only[cF];omega)]
def wR {fd f g N} (b:cF fd=N) (h:∀j,j<N→f j=g j):dF fd f=dF fd g:=rG fd 0 0 fun j a=>by rw[bY];exact h j (b▸a)
def ON (a f o):dF a (fb f o)=encA f a o:=rG a 0 o fun j _=>by rw[bY];rfl
def G2 {f:Nat→Int}:∀(b:rg) (o:Nat) (B:List Int),(∀j,j<cF b→(kdF b j).ok (f (o+j)))→∀k,k<cF b→rdF b (encA f b o++B) k=f (o+k)
 |[],_,_,_,k,a=>absurd a (xE _)
 |none::r,o,B,h,0,_=>by have d:0≤f o∧f o≤18446744073709551615:=h 0 (by simp only[cF];omega);rw[rdF,encA,dA,Sk (aX _)];exact Jq _ d.1 d.2
 |none::r,o,B,h,k+1,a=>by simp only[cF]at a;rw[rdF,encA,dA,Az (aX _),G2 r (o+1) B (fun j e=>by have:=h (j+1) (by simp only[cF];omega);rwa [show o+(j+1)=o+1+j by omega]at this) k (by omega)];rw[oF,Cu 1]
 |some n::r,o,B,h,k,a=>by
  simp only[cF]at a;rw[rdF,encA,dA];by_cases c:k<n
  ·rw[aj c,List.getD,eY (by rw[az];exact c)]
   exact n9 _ _ _ _ c
  ·rw[an c,Az (az _ _ _),G2 r (o+n) B (fun j e=>by
    have:=h (n+j) (by simp only[cF];omega)
    rwa [kdF,an (by omega),jH,←oF]at this) (k-n) (by omega)]
   congr 1
   omega
def ZM {fd f N} (a:cF fd=N) (h:∀j,j<N→(kdF fd j).ok (f j)) (k) (b:k<N):rdF fd (dF fd f) k=f k:=by
 have e:=G2 fd 0 [] (fun j c=>by rw[bY];exact h j (a▸c)) k (by rw[a];exact b)
 rwa [fZ,bY]at e
def SK:∀(d:rg) (l:List Int),l.length=sF d→(∀x∈l,CK.ok .u8 x)→∀k,k<cF d→(kdF d k).ok (rdF d l k)
 |[],_,_,_,k,b=>absurd b (xE _)
 |none::r,l,hl,h,0,_=>by simp only[sF]at hl;exact Ta _ (by rw[cf];omega) (fun x a=>h x (oH a))
 |none::r,l,hl,h,k+1,b=>by simp only[sF,cF]at hl b;exact SK r (l.drop 8) (by rw[bJ];omega) (fun x a=>h x (kM a)) k (by omega)
 |some n::r,l,hl,h,k,b=>by
  simp only[sF,cF]at hl b;rw[kdF,rdF];by_cases c:k<n
  ·rw[aj c,aj c];exact iu h _
  ·rw[an c,an c]
   exact SK r (l.drop n) (by rw[bJ];omega) (fun x a=>h x (kM a)) (k-n) (by omega)
def IY {fd l N} (b:cF fd=N) (hl:l.length=sF fd) (h:∀x∈l,CK.ok .u8 x) (k) (a:k<N):(kdF fd k).ok (rdF fd l k):=SK fd l hl h k (by rw[b];exact a)
def LR (g:Nat→Int):∀(b:rg) (o:Nat) (l:List Int),l.length=sF b→(∀x∈l,CK.ok .u8 x)→(∀k,k<cF b→g (o+k)=rdF b l k)→encA g b o=l
 |[],_,l,hl,_,_=>(s9.1 hl).symm
 |none::r,o,l,hl,h,hg=>by
  simp only[sF]at hl
  rw[encA,show g o=p9 (l.take 8)from hg 0 (by simp only[cF];omega),Jv _ (by rw[cf];omega) (fun x a=>h x (oH a)),
   LR g r (o+1) (l.drop 8) (by rw[bJ];omega) (fun x a=>h x (kM a)) (fun k c=>by have:=hg (k+1) (by simp only[cF];omega);rwa [show o+(k+1)=o+1+k by omega]at this)]
  exact jI 8 l
 |some n::r,o,l,hl,h,hg=>by
  simp only[sF]at hl
  have e:ff g o n=l.take n:=by
   have:=tG g l o 0 n (fun j d=>by rw[bY,hg j (by simp only[cF];omega),rdF,aj d]) (by omega)
   rwa [rZ]at this
  rw[encA,e,LR g r (o+n) (l.drop n) (by rw[bJ];omega) (fun x a=>h x (kM a)) (fun k c=>by
   have:=hg (n+k) (by simp only[cF];omega)
   rwa [rdF,an (by omega),jH,←oF]at this)]
  exact jI n l
def CP {fd l} (hl:l.length=sF fd) (h:∀x∈l,CK.ok .u8 x):dF fd (rdF fd l)=l:=LR _ fd 0 l hl h fun k _=>by rw[bY]
def Ga (l:List Int) (p j):(l.drop p).getD j 0=l.getD (p+j) 0:=by simp[List.getD]
def fdB:rg→Nat→Nat→Nat→Bool
 |[],_,_,_=>false
 |none::r,m,p,n=>decide (1≤m)&&decide (8≤p)&&fdB r (m-1) (p-8) n
 |some k::r,m,p,n=>(decide (m+n≤k)&&m==p)||(decide (k≤m)&&decide (k≤p)&&fdB r (m-k) (p-k) n)
def rx {n:Nat}:∀(b:rg) (l:List Int) (m p:Nat),fdB b m p n=true→∀j,j<n→kdF b (m+j)= .u8∧rdF b l (m+j)=l.getD (p+j) 0
 |[],_,_,_,h=>by cases h
 |none::r,l,m,p,h=>fun j a=>by simp only[fdB,nQ,Nx]at h;obtain⟨m,rfl⟩:∃k,m=k+1:=⟨m-1,by omega⟩;have:=rx r (l.drop 8) m (p-8) h.2 j a;rw[show m+1+j=(m+j)+1 by omega];rw[Ga,show 8+(p-8+j)=p+j by omega]at this;exact this
 |some k::r,l,m,p,h=>fun j a=>by
  simp only[fdB,nQ,NS,Nx,xA]at h;rw[kdF,rdF];rcases h with⟨d,rfl⟩|⟨⟨d,e⟩,c⟩
  ·rw[aj (by omega),aj (by omega)];exact⟨rfl,rfl⟩
  ·rw[an (by omega),an (by omega)]
   have:=rx r (l.drop k) (m-k) (p-k) c j a;rw[show m+j-k=m-k+j by omega];rw[Ga,show k+(p-k+j)=p+j by omega]at this;exact this
def subB (a:rg):rg→Nat→Nat→Bool
 |[],_,_=>false
 |none::r,m,p=>(m==0&&p==0&&a.isPrefixOf (none::r))||(decide (1≤m)&&decide (8≤p)&&subB a r (m-1) (p-8))
 |some k::r,m,p=>(m==0&&p==0&&a.isPrefixOf (some k::r))||(decide (k≤m)&&decide (k≤p)&&subB a r (m-k) (p-k))
def zB:∀(a b:rg) (l:List Int) (k:Nat),k<cF a→kdF (a++b) k=kdF a k∧rdF (a++b) l k=rdF a (l.take (sF a)) k
 |[],_,_,k,d=>absurd d (xE _)
 |none::r,b,l,0,_=>⟨rfl,by simp only[List.cons_append,rdF,sF,Fb];rw[II (by omega)]⟩
 |none::r,b,l,k+1,d=>by simp only[cF]at d;have:=zB r b (l.drop 8) k (by omega);simp only[List.cons_append,kdF,rdF,sF];rw[Fg,rV];exact this
 |some n::r,b,l,k,d=>by
  simp only[cF]at d;simp only[List.cons_append,kdF,rdF,sF];by_cases c:k<n
  ·simp only[aj c]
   refine⟨trivial,?_⟩;rw[List.getD,List.getD,Aw,aj (by omega)]
  ·simp only[an c]
   have:=zB r b (l.drop n) (k-n) (by omega);rw[Fg,rV];exact this
def Tb {a b:rg} (h:a.isPrefixOf b=true):∃c,b=a++c:=by obtain⟨c,d⟩:=List.isPrefixOf_iff_prefix.1 h;exact⟨c,d.symm⟩
def uv {a:rg}:∀(f:rg) (l:List Int) (m p:Nat),subB a f m p=true→∀j,j<cF a→kdF f (m+j)=kdF a j∧rdF f l (m+j)=rdF a ((l.drop p).take (sF a)) j
 |[],_,_,_,h=>by cases h
 |none::r,l,m,p,h=>fun j b=>by
  simp only[subB,nQ,NS,Nx,xA]at h;rcases h with⟨⟨rfl,rfl⟩,h⟩|⟨⟨i,g⟩,e⟩
  ·obtain⟨c,d⟩:=Tb h
   rw[d,bY,rZ];exact zB a c l j b
  ·obtain⟨m,rfl⟩:∃k,m=k+1:=⟨m-1,by omega⟩
   have:=uv r (l.drop 8) m (p-8) e j b;rw[lO,show 8+(p-8)=p by omega]at this;rw[show m+1+j=(m+j)+1 by omega];exact this
 |some k::r,l,m,p,h=>fun j b=>by
  simp only[subB,nQ,NS,Nx,xA]at h;rcases h with⟨⟨rfl,rfl⟩,h⟩|⟨⟨i,g⟩,e⟩
  ·obtain⟨c,d⟩:=Tb h
   rw[d,bY,rZ];exact zB a c l j b
  ·have:=uv r (l.drop k) (m-k) (p-k) e j b
   rw[lO,show k+(p-k)=p by omega]at this;rw[kdF,rdF,an (by omega),an (by omega),show m+j-k=m-k+j by omega];exact this
def Fm:∀(a:rg) (j:Nat),(kdF a j).ok 0
 |[],_=>⟨by decide,by decide⟩
 |none::_,0=>⟨by decide,by decide⟩
 |none::r,j+1=>Fm r j
 |some n::r,j=>by
  rw[kdF];split
  ·exact⟨by decide,by decide⟩
  ·exact Fm r _
end Go.Proofs.YtjeoeibdgciafaaGreatDoor
