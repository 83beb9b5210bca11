/- Steps of the proof. -/
import Derived.Test.YtjeoeibdgciafaaGreatDoorM16
set_option linter.all false
set_option maxRecDepth 100000
set_option maxHeartbeats 16000000
namespace Go.Proofs.YtjeoeibdgciafaaGreatDoor
open Go.RowKit BigFrame
open Go.Proofs.Tryz
def M3 (l d c w) (hl:Row w d .u8 l) (y:∀b o,d=some ⟨b,o,none⟩→b<w.heap.size) (X:1≤l.length) (V:l.length≤32) (k:cY w):
 Calls prog 87 #[.slice d l.length c] w fun e F=>e= .returned (.agg (ax (fg l 0)))∧Below w.heap.size w F:=by
 have H:=k.size;have h:=aa ((aP w.heap.size w).alloc bG (.cells zr 25));have E:=aa (ak w zr 25 w.heap.size rfl);have i:=aa (qU l d c (w.alloc (.cells zr 25)) (hl.later h.out) (fun b o e=>du (y b o e) h.out.size) (by omega));have L:=aa k;have I:=aa (im hl.ok);have j:(chunks l).length=1:=by rw[di];omega
 have z:leaf (chunks l) 0=fg l 0:=pY l 0 (by omega);rw[←z];clear k hl y z;generalize chunks l=cs at*;have f:=aa j;rw[j]at i;clear j
 go_enter func87,ntmps87
 go_wp2_with (first
  |refine ao 25 ?_;refine fX 2 cg ?_
  |with_reducible refine i.out.mono ?_
   rintro e W ⟨⟨G,r,rfl,B⟩,q⟩;obtain⟨g,s,e,U,a⟩:=gz B (by have:=f.out;omega);have p:=aa (h.out.trans (q.mono h.out.size));have D:=aa ((q.block w.heap.size (aD E.out)).trans E.out);have A:=a.choose_spec.2.2.1;rw[f.out]at e a A;obtain⟨rfl,rfl⟩:G=some ⟨g,0,none⟩∧r=s:=by injection e with R Y P;exact⟨R,P⟩
   have v:=aa (show Calls prog 49 #[.slice (some ⟨g,0,none⟩) 1 r,.int .i64 1] W _ from mj cs 1 1 0 (some ⟨g,0,none⟩) r W f.out (by omega) ⟨by decide,Or.inl rfl⟩ (by omega) (a.row cs (by have:=f.out;omega) (fun _ _=>rfl) I.out) (fun b o e=>by cases e;exact a.lt) A (L.out.below H p.out));clear B e a q i
  |with_reducible refine v.out.mono ?_
   rintro e W2 ⟨rfl,m⟩;have O:=aa (p.out.trans (m.mono p.out.size));have M:=aa ((m.block w.heap.size (aD D.out)).trans D.out);clear m v
  |refine al 25 ?_;refine aq (w0:=w) (n0:=w.heap.size) 25 _ _ rfl rfl w.heap.size rfl _ rfl (aA _ _ _) (by rw[ah am];simp[ae]) _ 25 M.out (by rw[bL];simp[ae]) (by omega) O.out (fun Z J N _=>?_))
 exact fF rfl w.heap.size 0 (ae 32 (fun _=> .u8) (leaf cs 0)) _ rfl J cH rfl (by rw[ah am,ac]) rfl ⟨rfl,N⟩
section
variable {n:Nat} {C:List Value} {t tc:TypeId} {K:Nat} {rs:List (Nat→Int)} {w W:World} {Q:Ending→World→Prop} {α:Type} {e:El α} {u:α} {fn:Nat} {cs:List Value}
theorem cm.In (h:cm n C t tc K rs w W) {m} (k:∀b a c,Hid (cm n C t tc K rs w b∧cG a c (fH m) b)→Q (.returned (.slice a 8 c)) b):Calls prog 86 #[.int .u64 m] W Q:=(A3 m W).mono fun _ _ ⟨⟨a,c,i,g,f⟩,d⟩=>by rw[i];exact k _ a c ⟨h.later d,cG.b_ f (na m) g⟩
theorem cm.LS {m a c} (h:cm n C t tc K rs w W∧cG a c (fH m) W) (k:∀d,Hid (cm n C t tc K rs w d)→Q (.returned (.agg (ax (je m)))) d):Calls prog 87 #[.slice a 8 c] W Q:=by have b:=M3 (fH m) a c W h.2.row h.2.low (by rw[aX];decide) (by rw[aX];decide) h.1.hT;rw[aX]at b;exact b.mono fun _ _ ⟨g,f⟩=>by rw[g];exact k _ (h.1.later f)
theorem cm.IX (h:cm n C t tc K rs w W) (f:e.iG fn) (c:e.ok u) (d:e.R u cs W) {x} (b:e.E u=x) (k:∀a,Hid (cm n C t tc K rs w a)→Q (.returned (.tuple #[.agg (ax (e.G u)),.int .i64 x])) a):Calls prog fn #[.agg cs.toArray] W Q:=El.SJ f c d h.hT b fun a g=>k a (h.later g)
end
def AS:iz.iG 16:=fun k cs w d l y=>by
 have M:=aa d.out.1;have s:=aa (show jT.ok k.b from d.out.2);have hI:=aa (He d.out);have D:=aa (show fY (jT.G k.b)from Bo.Ris d.out.2);have B:=aa (ir (k.h 0));have A:=aa (ir (k.h 1));obtain⟨I,rfl,i⟩:=l.out;have H:=aa i;have hl:=aa (qS i);obtain⟨E,g⟩:∃E,k.b.E=E:=⟨_,rfl⟩;have F:=aa (show jT.E k.b=E from g);have m:k.R=if E=0 then fullT 3 (leaf k.rs)else bh:=by rw[←g];rfl
 show Calls prog _ _ w fun x r=>x= .returned (.tuple #[.agg (ax k.R),.int .i64 k.b.E])∧Below w.heap.size w r;rw[g,m];clear d l i g m;rcases tg (E=0)with j|j
 case' inl=>subst j
 case' inr=>have L:(E !=0)=true:=by simp[j]
 all_goals
  go_enter func16,ntmps16
  go_wp2_with (first
   |refine fo _ ?_;refine bW rfl _ _ rfl _ rfl ?_
   |refine ao 25 ?_;refine fX 2 cg ?_
   |refine ao 158 ?_;refine aH rfl fun K o=>bT 158 rfl _ rfl (rep 160) 160 (by kernel_rfl) (o _ _ ?_);clear o K
    refine bZ (fun W=>cm w.heap.size (ae 66 (kdF jv) k.h++I) 50 158 5 [] w W) (cm.begin (ak _ _ _ _ rfl) rfl y.out (by simp) (iM _)) ?_;intro W f;have a:=aa f;clear f
   |refine ag 26 ?_;refine ldN (h:=k.h) (tz a.out.hX _ 1 (fun _=> .u64) (by kernel_rfl) (by decide)) rfl rfl ?_
   |(with_reducible refine cm.In a.out ?_);clear a;intro W J c a
   |(with_reducible refine cm.LS a.out ?_);clear a;intro W a
   |refine ag 25 ?_;refine acl (h:=k.h) (tz a.out.hX _ 32 (fun _=> .u8) (by kernel_rfl) (by decide)) rfl ?_
   |refine ag 38 ?_;refine Re (xW a.out.hX) rfl qa rfl tl hl.out ?_
   |(with_reducible refine cm.IX a.out uN.2 s.out (lG H.out a.out.hB) F.out ?_);clear a;intro W a
   |refine cZ 25 ?_;refine ab (by rfl) _ (ct _ rfl) ?_
   |((with_reducible refine al 25 ?_);refine cm.Yw a.out rfl rfl rfl (by simp) (by first|exact B.out|exact A.out|exact hI.out.1|exact hI.out.2|exact D.out) ?_;clear a;intro W a)
   |(with_reducible refine cm.I3 a.out rfl rfl (by decide) ?_);clear a;intro W p z;have v:=p.size
   |refine al 25 ?_;refine Va z.out bL p (by omega) v rfl rfl (fun W q f=>?_)
   |refine al 25 ?_;refine Va a.out.hR bL a.out.hB (by omega) (by have:=a.out.size;omega) rfl rfl (fun W q f=>?_))
 all_goals exact aI rfl (w.heap.size+1) 0 (ae 32 (fun _=> .u8) _) _ rfl (aE q.out) cH rfl (by rw[ah am,ac]) rfl ⟨rfl,f⟩
def Hz:nD.iG 22:=fun g cs w c o F=>by
 have A:=aa c.out.1;have z:=aa c.out.2;have I:=aa (show fY (iz.G g.k)from qr.Ris c.out.1);have hI:=aa (jg (d:=2) (l:=ff g.s 0 96) (eM fun j B=>by rw[bY];exact c.out.2 j B));obtain⟨M,rfl,i⟩:=o.out;have L:=aa i;have hl:=aa (qT i);obtain⟨E,h⟩:∃E,g.k.b.E=E:=⟨_,rfl⟩;have J:=aa (show iz.E g.k=E from h);have p:g.R=if E=0 then fullT 1 (leaf g.rs)else bh:=by rw[←h];rfl
 show Calls prog _ _ w fun x y=>x= .returned (.tuple #[.agg (ax g.R),.int .i64 g.k.b.E])∧Below w.heap.size w y;rw[h,p];clear c o i h p;rcases tg (E=0)with m|m
 case' inl=>subst m
 case' inr=>have O:(E !=0)=true:=by simp[m]
 all_goals
  go_enter func22,ntmps22
  go_wp2_with (first
   |refine fo _ ?_;refine bW rfl _ _ rfl _ rfl ?_
   |refine ao 25 ?_;refine fX 2 cg ?_
   |refine ao 163 ?_;refine aH rfl fun K q=>bT 163 rfl _ rfl (rep 64) 64 (by kernel_rfl) (q _ _ ?_);clear q K
    refine bZ (fun W=>cm w.heap.size (M++ae 96 (fun _=> .u8) g.s) 57 163 2 [] w W) (cm.begin (ak _ _ _ _ rfl) rfl F.out (by simp) (iM _)) ?_;intro W f;have a:=aa f;clear f
   |refine ag 50 ?_;refine Re (dK a.out.hX (pre:=[]) rfl 0 rfl) rfl pn rfl i7 hl.out ?_
   |(with_reducible refine cm.IX a.out AS A.out (lH L.out a.out.hB) J.out ?_);clear a;intro W a
   |(with_reducible refine cm.NV a.out (tM a.out.hX (post_at a.out.hX hl.out) z.out) (az _ _ _) (by decide) ?_);clear a;intro W N P a
   |(with_reducible refine cm.Fp a.out (az _ _ _) (by decide) (by decide) (by decide) ?_);clear a;intro W a
   |refine cZ 25 ?_;refine ab (by rfl) _ (ct _ rfl) ?_
   |((with_reducible refine al 25 ?_);refine cm.Yw a.out rfl rfl rfl (by simp) (by first|exact hI.out|exact I.out) ?_;clear a;intro W a)
   |(with_reducible refine cm.I3 a.out rfl rfl (by decide) ?_);clear a;intro W r H;have D:=r.size
   |refine al 25 ?_;refine Va H.out bL r (by omega) D rfl rfl (fun W v f=>?_)
   |refine al 25 ?_;refine Va a.out.hR bL a.out.hB (by omega) (by have:=a.out.size;omega) rfl rfl (fun W v f=>?_))
 all_goals exact aI rfl (w.heap.size+1) 0 (ae 32 (fun _=> .u8) _) _ rfl (aE v.out) cH rfl (by rw[ah am,ac]) rfl ⟨rfl,f⟩
structure B5 (n:Nat) (Z C:List Value) (t:TypeId) (w W:World):Prop where
 hR:W.heap[n]?=some (.cells Z.toArray t (0,0))
 hX:W.heap[n+1]?=some (.cells C.toArray t (0,0))
 hB:Below n w W
 hz:n+2≤W.heap.size
section
variable {n N b0 K:Nat} {Z C:List Value} {t:TypeId} {w W W':World}
theorem B5.later (h:B5 n Z C t w W) (a:Below W.heap.size W W'):B5 n Z C t w W':=by have b:=h.hz;exact⟨(a.block _ (by omega)).trans h.hR,(a.block _ (by omega)).trans h.hX,h.hB.trans (a.mono (by omega)),bg b a.size⟩
theorem B5.rj {b} (h:B5 n Z C t w W) (a:aL (n+1) W W') (d:W'.heap[n+1]?=some (.cells b.toArray t (0,0))):B5 n Z b t w W':=by have c:=h.hz;exact⟨(a.block _ (by omega) (by omega)).trans h.hR,d,a.below h.hB (by omega) (by omega),bg c a.size⟩
theorem B5.start (hW:W=(w.alloc (.cells Z.toArray t)).alloc (.cells Z.toArray t)):B5 w.heap.size Z Z t w W:=by subst hW;exact⟨aR _ _ _ _ (ak _ _ _ _ rfl),ak _ _ _ _ (by simp),dt.alloc (by simp) _,by simp⟩
theorem yB {g f o a Q} (B:o.guard=none) (l x y) (z:o.op= .store l x y) (c) (r:a.eval x= .pointer (some ⟨n+1,c,none⟩)) (d) (q:a.eval y= .agg d.toArray) (p:(prog.info? l).map (·.size)=some d.length) (F:∀v∈d,v.oneCell'=true) (h:B5 n Z C t w W) (e i b) (k:C=e++(i++b)) (u:e.length=c) (hl:d.length=i.length) (A:∀W',Hid (B5 n Z (e++(d++b)) t w W')→aL (n+1) W W'→wpList prog g Q f (a.put o.dst undef) W'):wpList prog g Q (o::f) a W:=by
 subst k
 have s:W.there (n+1) c d.toArray.size:=fun j m=>by
  have m:j<d.length:=by simpa using m
  refine⟨?_,j' h.hX _⟩;rw[br W (n+1) _ _ _ _ h.hX,fu,fT (by omega),eY (by omega),fS (by omega)];rfl
 refine aH B fun G D=>s_ l x y z (n+1) c _ r q s (by rw[p];simp) (by simpa using F) (D _ _ (A _ ?_ ?_))
 ·have E:aL (n+1) W (W.setCells (n+1) c d.toArray.toList):=(aL.refl _ _).setCells _ _ _ (Or.inl rfl)
  have k:=jz (n+1) d.toArray.toList c W _ t h.hX (by simp;omega);rw[show (e++(i++b)).toArray.toList=e++(i++b)from rfl,show d.toArray.toList=d from rfl,oZ u hl]at k;exact h.rj E k
 ·exact(aL.refl _ _).setCells _ _ _ (Or.inl rfl)
theorem Ha {Q} {l:List Int} {d:Option Addr} {c f p hd o k:Nat} {zs:List Nat} (hs:cG d c l W) (hl:l.length<4294967296) (hZ:et f zs W) (hn:zs.length=K) (b:1≤K∧K≤64) (q:∀z∈zs,z≤65536) (A:headN zs=hd) (u:0<hd) (j:cutA zs K=[o]) (he:k=if hd≤l.length then(if aK l o=hd then 0 else 5)else 4) (s:∀W',k≠0→Below W.heap.size W W'→Q (.returned (.tuple #[.slice none 0 0,.int .i64 (k:Int)])) W') (y:∀W' h m,k=0→Hid (d9 W.heap.size (.slice h K m) (fV zs l) W')→Below W.heap.size W W'→Q (.returned (.tuple #[.slice h K m,.int .i64 0])) W'):Calls prog 73 #[.slice d l.length c,.slice (some ⟨f,0,none⟩) K p] W Q:=by
 subst A;by_cases a:headN zs≤l.length
 ·rw[aj a]at he
  by_cases i:aK l o=headN zs
  ·rw[aj i]at he
   exact(uD l d c f zs K p W hs hZ hn b.1 b.2 q a u (by omega) 1 (by rw[j];rfl) (by decide) (by rw[j];exact(yk a).2 i)).mono fun _ W' ⟨⟨v,a,B⟩,e⟩=>by have r:d9 W.heap.size v (fV zs l) W':=Or.inr B;obtain⟨h,m,rfl⟩:=r.form;rw[a];rw[dO,hn]at r ⊢;exact y W' h m he r e
  ·rw[an i]at he
   subst he
   exact(uO l d c f zs K p W hs hZ hn b.1 b.2 q a u (by omega) 1 (by rw[j];rfl) (by decide) (by rw[j];exact fun g=>i ((yk a).1 g))).mono fun _ W' ⟨a,e⟩=>by rw[a];exact s W' (by decide) e
 ·rw[an a]at he
  subst he
  exact(uP l d c f zs K p W hZ hn b.1 b.2 q (by omega)).mono fun _ W' ⟨a,e⟩=>by rw[a];exact s W' (by decide) (e▸aP _ _)
end
def Hm {b a K c q g h v} (f:b.length=c) (e:q<K) (d:v= .int .u8 (h q)):(b++(ae K (fun _=> .u8) (sI g 0 q h)++a)).set (c+q) v=b++(ae K (fun _=> .u8) (sI g 0 (q+1) h)++a):=by subst f;rw[Au _ _ (Ct _ _),jH,Ot e d]
def Ho {K a g h}:ae K a (sI g 0 K h)=ae K a h:=bU fun k b=>by unfold sI;rw[aj (by omega),Nat.sub_zero]
def Tf {N b c f a x} (e:b<N) (d:c b= .u64):(ae N c f++a).set b (.int .u64 x)=ae N c (sI f b 1 fun _=>x)++a:=by have h:=LM (off:=b) (q:=0) (N:=N) (kd:=c) (f:=f) (h:=fun _=>x) (post:=a) (v:= .int .u64 x) (by omega) (by rw[Nat.add_zero,d];rfl);rw[xZ,Nat.add_zero,bY]at h;exact h
def sn {b o} (w a) (e:o.op= .buildSlice 63 5 a) (d:(a.toList.map fun p=>(p.1,b p.2))=[(0,.int .i64 8),(1,.int .i64 8),(2,.int .i64 32),(3,.int .i64 32),(4,.int .i64 0)]):
 (execOp b o).run prog w= .ok (.value (.slice (some ⟨w.heap.size,0,none⟩) 5 5)) (w.alloc (.cells (oC.map fun z:Nat=>Value.int .i64 (z:Int)).toArray 3)):=
 bj w 63 3 5 a e dZ (.int .i64 0) 1 oo (by decide) (by decide) [.int .i64 8,.int .i64 8,.int .i64 32,.int .i64 32,.int .i64 0] rfl d (fun u c=>by
  simp only[mF,vJ,vH]at c
  rcases c with rfl|rfl|rfl|rfl|rfl<;>rfl)
def sk {b o} (w a) (e:o.op= .buildSlice 63 2 a) (d:(a.toList.map fun p=>(p.1,b p.2))=[(0,.int .i64 0),(1,.int .i64 96)]):
 (execOp b o).run prog w= .ok (.value (.slice (some ⟨w.heap.size,0,none⟩) 2 2)) (w.alloc (.cells (ri.map fun z:Nat=>Value.int .i64 (z:Int)).toArray 3)):=
 bj w 63 3 2 a e dZ (.int .i64 0) 1 oo (by decide) (by decide) [.int .i64 0,.int .i64 96] rfl d (fun u c=>by
  simp only[mF,vJ,vH]at c
  rcases c with rfl|rfl<;>rfl)
def Nw (n:Nat) (a:Value) (u:Nat→Value):Act:={tmps:=#[u 0,u 1,.pointer (some ⟨n,0,none⟩),u 3,.pointer (some ⟨n+1,0,none⟩),a,u 6,u 7,u 8,u 9,u 10,u 11,u 12,u 13,u 14,u 15,u 16,u 17,u 18,u 19,u 20,u 21,u 22,u 23,u 24,u 25,u 26,u 27,u 28,u 29,u 30,u 31,u 32,u 33,u 34,u 35,u 36,u 37,u 38,u 39,u 40,u 41,u 42,u 43,u 44,u 45,u 46,u 47,u 48,u 49,u 50,u 51,u 52,u 53,u 54,u 55,u 56,u 57,u 58,u 59,u 60,u 61,u 62,u 63,u 64,u 65,u 66,u 67,u 68,u 69,u 70,u 71,u 72,u 73],defers:=[]}
def aac {a:Code} {n:Nat} {vP:Value} {Q A W} (h:∀u,a.wp prog Q (Nw n vP u) W) (b:A=Nw n vP (fun k=>A.tmps.getD k undef)):a.wp prog Q A W:=by rw[b];exact h _
def Tm {n:Nat} {a:Value} {Q:Exit→Act→World→Prop} {A:Act} {W:World} (h:∀b,Q .normal (Nw n a b) W) (c:A=Nw n a (fun k=>A.tmps.getD k undef)):Q .normal A W:=by
 have d:=h (fun k=>A.tmps.getD k undef)
 rwa [←c]at d
def lK7 (F) (hF:F=Tryz.f18) (Q n d c g t b k h a B w W u) (I:a.length=5) (H:a.getD 2 []=B) (E:B.length=32) (S:n+2≤b) (r:d.length=2) (D:d9 b (.slice k 5 h) a W) (z:B5 n dJ (d++(ae 32 (fun _=> .u8) g++c)) t w W) (A:∀l W',B5 n dJ (d++(ae 32 (fun _=> .u8) (fun j=>B.getD j 0)++c)) t w W'→Kp (n+2) W W'→Q .normal (Nw n (.slice k 5 h) l) W'):(pq 7 F).wp prog Q (Nw n (.slice k 5 h) u) W:=by
 have hS:=aa z;have hP:=aa D;have gQ:=aa A;have hB:=aa H;have G:=aa E;have Y1:=aa I;have s:=aa r;clear z A D H E I r;subst hF;simp only[pq,pc,pcAt,headAt,Tryz.f18,reduceIte,Nat.reduceEqDiff,Nat.reduceBEq,dR];unfold Nw;go_wp2
 go_loopw [7] (fun i wr=>∃q:Nat,q≤32∧i= .int .i64 (q:Int)∧B5 n dJ (d++(ae 32 (fun _=> .u8) (sI g 0 q fun j=>B.getD j 0)++c)) t w wr∧Kp (n+2) W wr) (fun i _=>32-(intOf i).toNat)
 case atStart=>exact⟨0,by omega,rfl,by rw[xZ];exact hS.out,Kp.refl _ _⟩
 case round=>
  obtain⟨q,R,rfl,f,e⟩:=hrel;have y:=aa f;have V:=aa e;rcases E_ R with m|e0
  ·obtain⟨g0,vb,cb,rfl,Y,o⟩:=oO (hP.out.kp e S) (by rw[Y1.out];decide) hB.out
   obtain⟨bq,O,M,rfl,X,P⟩:=Hb o.out (j:=q) (by rw[G.out];exact m);have T:q<B.length:=by rw[G.out];exact m
   clear f e o;have lt:decide ((q:Int)<(32:Int))=true:=by simp;omega
   go_wp2_with (first
    |refine aC 114 ?_;refine ab (by rfl) _ (ai _ 114 39 _ _ rfl cV 1 dv g0 0 5 h rfl .i64 2 rfl (by decide) 2 (by omega)) ?_
    |refine ag 39 ?_;refine dq (v:=(.slice (some ⟨bq,O,none⟩) B.length cb)) Y.out bF ?_ rfl rfl rfl rfl
    |refine aC 39 ?_;refine OX rfl rfl T ?_
    |refine ag 5 ?_;refine OW rfl X.out ?_
    |refine al 5 ?_;refine Il (v:= .int .u8 M) y.out.hX (p:=2+q) (by simp only[bM,ac,s.out];omega) GY rfl rfl rfl ?_;intro W8 h1 L;have jG:=aa (y.out.rj L h1);have U:=aa (V.out.apart L (by omega)))
   have J:=jG.out;rw[Hm s.out m (by rw[P.out])]at J;exact⟨⟨q+1,by omega,by go_num,J,U.out⟩,by simp[intOf];omega⟩
  ·subst e0
   go_wp2;rw[Ho]at f;exact Tm (fun l=>gQ.out l _ f e) (by kernel_rfl)
def agC (F) (hF:F=Tryz.f18) (Q n d c g t b k h a B w W u) (I:a.length=5) (H:a.getD 3 []=B) (E:B.length=32) (S:n+2≤b) (r:d.length=34) (D:d9 b (.slice k 5 h) a W) (z:B5 n dJ (d++(ae 32 (fun _=> .u8) g++c)) t w W) (A:∀l W',B5 n dJ (d++(ae 32 (fun _=> .u8) (fun j=>B.getD j 0)++c)) t w W'→Kp (n+2) W W'→Q .normal (Nw n (.slice k 5 h) l) W'):(pq 11 F).wp prog Q (Nw n (.slice k 5 h) u) W:=by
 have hS:=aa z;have hP:=aa D;have gQ:=aa A;have hB:=aa H;have G:=aa E;have Y1:=aa I;have s:=aa r;clear z A D H E I r;subst hF;simp only[pq,pc,pcAt,headAt,Tryz.f18,reduceIte,Nat.reduceEqDiff,Nat.reduceBEq,dR];unfold Nw;go_wp2
 go_loopw [8] (fun i wr=>∃q:Nat,q≤32∧i= .int .i64 (q:Int)∧B5 n dJ (d++(ae 32 (fun _=> .u8) (sI g 0 q fun j=>B.getD j 0)++c)) t w wr∧Kp (n+2) W wr) (fun i _=>32-(intOf i).toNat)
 case atStart=>exact⟨0,by omega,rfl,by rw[xZ];exact hS.out,Kp.refl _ _⟩
 case round=>
  obtain⟨q,R,rfl,f,e⟩:=hrel;have y:=aa f;have V:=aa e;rcases E_ R with m|e0
  ·obtain⟨g0,vb,cb,rfl,Y,o⟩:=oO (hP.out.kp e S) (by rw[Y1.out];decide) hB.out
   obtain⟨bq,O,M,rfl,X,P⟩:=Hb o.out (j:=q) (by rw[G.out];exact m);have T:q<B.length:=by rw[G.out];exact m
   clear f e o;have lt:decide ((q:Int)<(32:Int))=true:=by simp;omega
   go_wp2_with (first
    |refine aC 114 ?_;refine ab (by rfl) _ (ai _ 114 39 _ _ rfl cV 1 dv g0 0 5 h rfl .i64 3 rfl (by decide) 3 (by omega)) ?_
    |refine ag 39 ?_;refine dq (v:=(.slice (some ⟨bq,O,none⟩) B.length cb)) Y.out bF ?_ rfl rfl rfl rfl
    |refine aC 39 ?_;refine OX rfl rfl T ?_
    |refine ag 5 ?_;refine OW rfl X.out ?_
    |refine al 5 ?_;refine Il (v:= .int .u8 M) y.out.hX (p:=34+q) (by simp only[bM,ac,s.out];omega) GY rfl rfl rfl ?_;intro W8 h1 L;have jG:=aa (y.out.rj L h1);have U:=aa (V.out.apart L (by omega)))
   have J:=jG.out;rw[Hm s.out m (by rw[P.out])]at J;exact⟨⟨q+1,by omega,by go_num,J,U.out⟩,by simp[intOf];omega⟩
  ·subst e0
   go_wp2;rw[Ho]at f;exact Tm (fun l=>gQ.out l _ f e) (by kernel_rfl)
def aak (F) (h:F=Tryz.f18):(Tryz.f18).body=some (.seq (pc 0 Tryz.f18) (.seq (pc 1 Tryz.f18) (.seq (pc 2 Tryz.f18) (.seq (pc 3 Tryz.f18) (.seq (pc 5 Tryz.f18) (.seq (pc 6 Tryz.f18) (tq 7 F))))))):=by
 subst h
 kernel_rfl
def cR7 (F) (h:F=Tryz.f18):tq 7 F= .seq (pq 7 F) (tq 11 F):=by
 subst h
 kernel_rfl
def ahq (F) (h:F=Tryz.f18):tq 11 F= .seq (pq 11 F) (tq 15 F):=by
 subst h
 kernel_rfl
def agl (r F) (hF:F=Tryz.f18) (R n f b y s a B h w m u) (U:a.length=5) (I:a.getD 4 []=B) (k:B.length<4294967296) (H:d9 b (.slice y 5 s) a m) (G:B5 n dJ (ae 66 (kdF jv) f++bK) 50 w m) (D:jY r B=h) (A:h≠0→∀W',Below n w W'→R (.returned (.tuple #[.agg dJ.toArray,.int .i64 (h:Int)])) W') (z:h=0→∀e W',Below n w W'→xP (st r B) (n+2) e W'→R (.returned (.tuple #[.agg (ae 66 (kdF jv) f++e).toArray,.int .i64 0])) W'):(tq 15 F).wp prog (bodyPost prog Tryz.f18 R) (Nw n (.slice y 5 s) u) m:=by
 obtain⟨Y,M,cb,rfl,S,P⟩:=oO H (by rw[U];decide) I;have c:=aa G;have X:=aa A;have V:=aa z;have T:=aa k;have Q:=aa D;clear G A z H I k D;subst hF;simp only[tq,tlAt,headAt,Tryz.f18,reduceIte,Nat.reduceEqDiff,Nat.reduceBEq,dR];unfold Nw;rcases E' h with L|L
 case' inl=>subst L
 case' inr=>have t8:((h:Int) !=0)=true:=by simp;omega
 all_goals
  go_wp2_with (first
   |refine aC 114 ?_;refine ab (by rfl) _ (ai _ 114 39 _ _ rfl cV 1 dv Y 0 5 s rfl .i64 4 rfl (by decide) 4 (by omega)) ?_
   |refine ag 39 ?_;refine dq (v:=(.slice M B.length cb)) S.out bF ?_ rfl rfl rfl rfl
   |with_reducible refine xx.mJ (RO r).2 P.out T.out Q.out ?_
    intro W2 e d E;have hN:=c.out.hz;have g:=c.out.later E;replace c:=aa g;have o:=aa (Kp.refl (n+2) W2);clear g E
   |refine al 38 ?_;refine yB rfl 38 _ _ rfl 66 rfl e rfl (by rw[ah tl,i8.len d.out];rfl) (i8.one d.out) c.out (ae 66 (kdF jv) f) bK [] (by rw[fZ]) (ac _ _ _) (by rw[i8.len d.out];rfl) (fun W7 g J=>?_)
    rw[fZ]at g;replace o:=aa (o.out.apart J (by omega));clear c J;have c:=g;clear g
   |refine cZ 50 ?_;refine ab (by rfl) _ (ui _ rfl) ?_
   |refine ag 50 ?_;refine ab (by rfl) _ (ay _ 50 _ (by rfl) (n+1) (by rfl) _ _ (0,0) _ c.out.hX pn rfl (by rw[ah i7,cI,bM,ac,i8.len d.out];rfl)) ?_
   |refine al 50 ?_;refine aH rfl fun K i=>wp_store_row 50 _ _ rfl n rfl dJ.toArray rfl (jP (gD.one (kq 0 m))) (by rw[ah i7];rfl) _ 50 c.out.hR rfl (fun j p l=>i _ _ ?_);clear i K
   |refine al 50 ?_;refine aH rfl fun K i=>wp_store_row 50 _ _ rfl n rfl (ae 66 (kdF jv) f++e).toArray rfl (jP fun v O=>(iD.1 O).elim (cl v) (i8.one d.out v)) (by rw[ah i7,cI,bM,ac,i8.len d.out];rfl) _ 50 c.out.hR (by show _=(ae 66 (kdF jv) f++e).length;rw[bM,ac,i8.len d.out];rfl) (fun j p l=>i _ _ ?_);clear i K)
 ·have q:Below n w j:=l.below c.out.hB bG (by have:=c.out.hz;omega)
  exact aI rfl n 0 dJ _ rfl (aE p) pn rfl (by rw[ah i7];rfl) rfl (X.out (by omega) j q)
 ·have q:Below n w j:=l.below c.out.hB bG (by have:=c.out.hz;omega)
  exact aI rfl n 0 _ _ rfl (aE p) pn rfl (by rw[ah i7,bM,ac,i8.len d.out];rfl) rfl (V.out (by trivial) e j q (i8.low (i8.kp d.out (o.out.apart l (by omega)) (by omega)) (by omega)))
def Xf (l):(fV oC l).getD 0 []=(l.drop 0).take 8∧(fV oC l).getD 1 []=(l.drop 8).take 8∧(fV oC l).getD 2 []=(l.drop 16).take 32∧(fV oC l).getD 3 []=(l.drop 48).take 32∧(fV oC l).getD 4 []=(l.drop (aK l 80)).take (l.length-aK l 80):=by
 refine⟨?_,?_,?_,?_,?_⟩
 ·rw[fN _ _ _ (by decide)];rfl
 ·rw[fN _ _ _ (by decide)];rfl
 ·rw[fN _ _ _ (by decide)];rfl
 ·rw[fN _ _ _ (by decide)];rfl
 ·rw[fN _ _ _ (by decide)];rfl
def aao {l b a} (e:b=(l.drop 0).take 8) (d:a=(l.drop 8).take 8):∀k,k<2→sI (sI (fun _=>0) 0 1 fun _=>p9 b) 1 1 (fun _=>p9 a) k=rdF jv l k:=by
 subst e;subst d;intro k c
 match k,c with
 |0,_=>rfl
 |1,_=>rfl
def X9 (f):ae 32 (fun j=>kdF jv (2+(32+j))) f=ae 32 (fun _=> .u8) f:=Fd fun j a=>by have h:=bB (kd:=kdF jv) (off:=34) (len:=32) (ii:=fun _=> .u8) rfl j (rW.1 a);show (kdF jv (2+(32+j))).mk (f j)=_;rw[show 2+(32+j)=34+j by omega,h]
def Xe {l a} (f) (c:∀k,k<2→f k=rdF jv l k):ae 2 (kdF jv) f++(ae 32 (fun _=> .u8) (fun j=>((l.drop 16).take 32).getD j 0)++(ae 32 (fun _=> .u8) (fun j=>((l.drop 48).take 32).getD j 0)++a))=ae 66 (kdF jv) (rdF jv l)++a:=by
 rw[show (66:Nat)=2+(32+32)from rfl,jn (ii:=fun _=> .u8) (bB rfl),bU c,show ae 32 (fun _=> .u8) (fb (rdF jv l) 2)=ae 32 (fun _=> .u8) (fun j=>((l.drop 16).take 32).getD j 0)from bU fun j b=>by
  rw[bA _ _ _ _ b]
  exact(rx (n:=32) jv l 2 16 (by decide) j b).2]
 rw[X9,show ae 32 (fun _=> .u8) (fb (rdF jv l) (2+32))=ae 32 (fun _=> .u8) (fun j=>((l.drop 48).take 32).getD j 0)from bU fun j b=>by
  rw[bA _ _ _ _ b]
  exact(rx (n:=32) jv l 34 48 (by decide) j b).2]
 simp only[dA]
def AT (r):xx vU 18 (xi r) (mb r):=fun l va c w J fq=>by
 have hl:=fq.out;obtain⟨d,Q⟩:∃d,d=(w.alloc (.cells dJ.toArray 50)).alloc (.cells dJ.toArray 50):=⟨_,rfl⟩;have U:=B5.start Q;have Al:d.heap.size=w.heap.size+2:=by rw[Q];simp
 have T:Below d.heap.size d (d.alloc (.cells (oC.map fun z:Nat=>Value.int .i64 (z:Int)).toArray 3)):=dt;have hS:=aa (U.later T);have hs:=aa ((J.out.later U.hB).later T);have hZ:=aa (show et (w.heap.size+1+1) oC (d.alloc (.cells (oC.map fun z:Nat=>Value.int .i64 (z:Int)).toArray 3))from ak _ _ _ _ (by rw[Al]));have m:w.heap.size+2≤(d.alloc (.cells (oC.map fun z:Nat=>Value.int .i64 (z:Int)).toArray 3)).heap.size:=by rw[bn];omega
 obtain⟨E,a⟩:∃E,E=if 84≤l.length then(if aK l 80=84 then 0 else 5)else 4:=⟨_,rfl⟩
 have Lb:=aa a;clear J U T Al fq;subst Q;obtain⟨F,X⟩:∃F,F=Tryz.f18:=⟨_,rfl⟩;refine tf func18 (aak F X) ?_;have hF:=aa X;clear X;simp only[ntmps18,cI,List.length_cons,List.length_nil,Nat.reduceAdd,Nat.reduceSub,oK,Array.replicate_zero,oG,oJ,List.nil_append,List.cons_append];simp only[pc,pcAt,headAt,Tryz.f18,reduceIte,Nat.reduceEqDiff,Nat.reduceBEq,dR];by_cases G:E=0
 ·have Nv:84≤l.length∧aK l 80=84:=by
   rw[G]at a;by_cases ha:84≤l.length
   ·rw[aj ha]at a
    by_cases b:aK l 80=84
    ·exact⟨ha,b⟩
    ·rw[an b]at a;exact absurd a (by decide)
   ·rw[an ha]at a;exact absurd a (by decide)
  have B:=aa (Xf l);have P:=aa (show ((l.drop 0).take 8).length=8 by rw[cf,bJ];omega);have O:=aa (show ((l.drop 8).take 8).length=8 by rw[cf,bJ];omega);have g:mb r l=jY r (l.drop 84):=by unfold mb;rw[aj Nv.1,aj Nv.2]
  clear a;obtain⟨y,S⟩:∃y,y=(l.drop 0).take 8:=⟨_,rfl⟩;obtain⟨s,R⟩:∃s,s=(l.drop 8).take 8:=⟨_,rfl⟩;have H:=aa S;have jX:=aa R;rw[←S]at P;rw[←R]at O;clear S R
  go_wp2_with (first
   |refine ao 50 ?_;refine fX 2 uA ?_
   |refine ao 50 ?_;refine fX 4 uA ?_
   |refine aV 63 ?_;refine aH rfl fun K f=>bV _ (sn _ _ (by rfl) (by rfl)) (f _ _ ?_);clear f K
   |refine Ha (zs:=oC) (hd:=84) (o:=80) hs.out hl hZ.out rfl (by decide) (by decide) rfl (by decide) rfl Lb.out (fun W' h=>absurd G h) (fun W3 vz M _ hP b=>?_)
    have q:=aa (hS.out.later b);obtain⟨g0,v0,c0,rfl,fM,J⟩:=oO hP.out (by rw[dO];decide) (B.out.1.trans H.out.symm);skip
   |((with_reducible refine aC 114 ?_);first|refine ab (by rfl) _ (ai _ 114 39 _ _ rfl cV 1 dv g0 0 5 M rfl .i64 0 rfl (by decide) 0 (by omega)) ?_|refine ab (by rfl) _ (ai _ 114 39 _ _ rfl cV 1 dv g0 0 5 M rfl .i64 1 rfl (by decide) 1 (by omega)) ?_)
   |refine ag 39 ?_;refine dq (v:=(.slice v0 y.length c0)) fM.out bF ?_ rfl rfl rfl rfl;simp only[P.out]
   |refine ag 39 ?_;refine dq (v:=(.slice v1 s.length c1)) aS.out bF ?_ rfl rfl rfl rfl;simp only[O.out]
   |with_reducible refine Fn ⟨J.out,P.out⟩ ?_
   |with_reducible refine Fn ⟨pz.out,O.out⟩ ?_
   |refine al 26 ?_;refine Il (v:= .int .u64 (p9 y)) (p:=0) q.out.hX (by decide) rq rfl rfl rfl ?_;intro W5 h1 D
    have BW:=aa (q.out.rj D h1);have pA:=aa ((Kp.refl (w.heap.size+2) W3).apart D (by omega));have sG:=aa (hP.out.kp pA.out m);obtain⟨g1,v1,c1,eg,aS,pz⟩:=oO sG.out (by rw[dO];decide) (B.out.2.1.trans jX.out.symm);cases eg
   |refine al 26 ?_;refine Il (v:= .int .u64 (p9 s)) (p:=1) BW.out.hX (by rw[NH];decide) rq rfl rfl rfl ?_;intro W6 h1 D
    have Vi:=aa (BW.out.rj D h1)
    have V:=aa (sG.out.kp ((Kp.refl (w.heap.size+2) W5).apart D (by omega)) m))
  refine aac (n:=w.heap.size) (vP:= .slice (some ⟨g0,0,none⟩) 5 M) (fun u=>?_) (by kernel_rfl);obtain⟨A,Eo⟩:∃A:Nat→Int,A=sI (sI (fun _=>0) 0 1 fun _=>p9 y) 1 1 fun _=>p9 s:=⟨_,rfl⟩;have i:=Vi.out
  rw[show (dJ.set 0 (.int .u64 (p9 y))).set 1 (.int .u64 (p9 s))=ae 2 (kdF jv) A++(ae 32 (fun _=> .u8) (fb A 2)++(ae 32 (fun j=>kdF jv (2+(32+j))) (fb A (2+32))++bK)) by
   show ((ae 66 (kdF jv) (fun _=>0)++bK).set 0 _).set 1 _=_;rw[Tf (by decide) rfl,Tf (by decide) rfl,←Eo,show (66:Nat)=2+(32+32)from rfl,jn (ii:=fun _=> .u8) (bB rfl)]
   simp only[dA]]at i
  rw[cR7 F hF.out];refine ij ?_;refine lK7 F hF.out _ _ _ _ _ _ _ _ _ _ _ _ _ u (by rw[dO];rfl) B.out.2.2.1 (by rw[cf,bJ];omega) m (ac _ _ _) V.out i ?_;intro u W7 i I;show (tq 11 F).wp prog _ (Nw w.heap.size _ u) W7;rw[←dA,X9]at i;rw[ahq F hF.out];refine ij ?_;refine agC F hF.out _ _ _ _ _ _ _ _ _ _ _ _ _ u (by rw[dO];rfl) B.out.2.2.2.1 (by rw[cf,bJ];omega) m (by rw[bM,ac,ac]) (V.out.kp I m) i ?_;intro u W8 i hk8;show (tq 15 F).wp prog _ (Nw w.heap.size _ u) W8;rw[dA,Xe A (fun k hk=>by rw[Eo];exact aao H.out jX.out k hk)]at i
  have h4:(fV oC l).getD 4 []=l.drop 84:=by rw[B.out.2.2.2.2,Nv.2];exact kL (by rw[bJ];omega)
  refine agl r F hF.out _ _ _ _ _ _ _ _ (jY r (l.drop 84)) w W8 u (by rw[dO];rfl) h4 (by rw[bJ];omega) ((V.out.kp I m).kp hk8 m) i rfl (fun L W' Y=>?_) (fun L ds W' Y hO=>?_)
  ·have e:xi r l=Lz:=an (by rw[g];exact L)
   exact⟨⟨_,by rw[g],by rw[e];exact kq _ _⟩,Y⟩
  ·have e:xi r l=⟨rdF jv l,st r (l.drop 84)⟩:=aj (by rw[g];exact L)
   exact⟨⟨_,by rw[g,L];rfl,by rw[e];exact⟨ds,rfl,i8.low hO (by omega)⟩⟩,Y⟩
 ·have t9:((E:Int) !=0)=true:=by simp;omega
  have g:mb r l=E:=by
   unfold mb;by_cases ha:84≤l.length
   ·rw[aj ha]at a ⊢
    by_cases b:aK l 80=84
    ·rw[aj b]at a;exact absurd a G
    ·rw[an b]at a ⊢;exact a.symm
   ·rw[an ha]at a ⊢;exact a.symm
  have e:xi r l=Lz:=an (by rw[g];exact G);rw[g,e];clear a g e
  go_wp2_with (first
   |refine ao 50 ?_;refine fX 2 uA ?_
   |refine ao 50 ?_;refine fX 4 uA ?_
   |refine aV 63 ?_;refine aH rfl fun K f=>bV _ (sn _ _ (by rfl) (by rfl)) (f _ _ ?_);clear f K
   |refine Ha (zs:=oC) (hd:=84) (o:=80) hs.out hl hZ.out rfl (by decide) (by decide) rfl (by decide) rfl Lb.out (fun W3 _ b=>?_) (fun W' vz M h=>absurd h G);have q:=aa (hS.out.later b)
   |refine ag 50 ?_;refine ab (by rfl) _ (ay _ 50 _ (by rfl) (w.heap.size+1) (by rfl) _ _ (0,0) _ q.out.hX pn rfl (by rw[ah i7];rfl)) ?_
   |refine al 50 ?_;refine aH rfl fun K f=>wp_store_row 50 _ _ rfl w.heap.size rfl _ rfl (jP (gD.one (kq 0 w))) (by rw[ah i7];rfl) _ 50 q.out.hR rfl (fun W9 Id xm=>f _ _ ?_);clear f K)
  exact aI rfl w.heap.size 0 dJ _ rfl (aE Id) pn rfl (by rw[ah i7];rfl) rfl ⟨⟨_,rfl,kq _ _⟩,xm.below q.out.hB bG (by have:=q.out.hz;omega)⟩
end Go.Proofs.YtjeoeibdgciafaaGreatDoor
