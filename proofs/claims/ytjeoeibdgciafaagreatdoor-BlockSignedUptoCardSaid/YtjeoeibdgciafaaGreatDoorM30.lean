/- Steps of the proof. -/
import Derived.Test.YtjeoeibdgciafaaGreatDoorM15
set_option linter.all false
set_option maxRecDepth 100000
set_option maxHeartbeats 16000000
namespace Go.Proofs.YtjeoeibdgciafaaGreatDoor
open Go.ChangeShapes Go.WideShapes Go.ChangeAt Go.RowKit BigFrame
open Go.Proofs.Tryz
section
variable {H:Type} {enc:TypeId×Value→H} {W:World} {base:Nat} {spare:Nat→Bool} {held:Bool} {N fuel:Nat} {X:Array Value} {x:DataW H×List MemPlace}
def Sc (j:Nat):Option CK:=if j<66 then some (kdF jv j)else Fu (j-66)
def Y6 (j:Nat):Option CK:=if j<368 then Sc j else some .u8
theorem Ur:kindsB prog 57 464 Y6=true:=by kernel_rfl
theorem UY:∀i,i<5→(oQ prog 57).getD (66+(193+i)) 0=I2 i
 |0,_=>by kernel_rfl
 |1,_=>by kernel_rfl
 |2,_=>by kernel_rfl
 |3,_=>by kernel_rfl
 |4,_=>by kernel_rfl
theorem OK {cs:List Value} {off n kd} (hl:off+n≤cs.length) (h:∀j,j<n→∃v,cs[off+j]?=some v∧v=(kd j).mk (num v)∧(kd j).ok (num v)):∃f,uu n kd f∧(cs.drop off).take n=ae n kd f:=by
 refine⟨fun j=>num (cs.getD (off+j) undef),fun j a=>?_,mG fun j=>?_⟩
 ·obtain⟨v,b,_,d⟩:=h j a
  simp only[List.getD,b,Option.getD_some];exact d
 ·by_cases a:j<n
  ·obtain⟨v,b,d,_⟩:=h j a
   rw[nO a,qD,aN _ _ _ _ a,b];simp only[List.getD,b,Option.getD_some];exact fB some d
  ·rw[eT (by rw[cf,bJ];omega),eT (by rw[ac];omega)]
def Hand {α:Type} (e:El α) (X:Array Value) (W:World):Prop:=∃u a,X=a.toArray∧e.ok u∧e.R u a W
theorem Ts {cs:List Value} (w:N≤1048576) (hl:368≤cs.length) (d:∀j,j<368→∀c,Sc j=some c→∃v,cs[j]?=some v∧v=c.mk (num v)∧c.ok (num v)) (ha:∀i,i<5→∃v fuel y,cs[66+(193+i)]?=some v∧DataW.trod enc prog W base spare held fuel (I2 i) [v]=some y∧Rows.uptoBulk y.1≤N):∃k,iz.ok k∧iz.R k (cs.take 368) W:=by obtain⟨f,r,q⟩:=OK (cs:=cs) (off:=0) (n:=66) (kd:=kdF jv) (by omega) (fun j a=>by rw[bY];exact d j (by omega) _ (by unfold Sc;rw[aj a]));obtain⟨b,p,o,m,h,g,B,A,z⟩:=OS (off:=66) w (fun j a c s=>d (66+j) (by omega) c (by unfold Sc;rw[an (by omega),jH];exact s)) ha;refine⟨⟨f,b⟩,⟨r,B⟩,(cs.drop 66).take 302,?_,p,o,m,h,g,z,A⟩;rw[←q,rZ,←IJ]
theorem ZQ (h:DataW.trod enc prog W base spare held fuel 57 X.toList=some x) (q:Rows.uptoBulk x.1≤N) (p:N≤1048576):Hand nD X W:=by
 obtain⟨hl,b,ha⟩:=nw Ur h q
 obtain⟨k,w,r⟩:=Ts (cs:=X.toList) p (by omega) (fun j a c o=>b j (by omega) c (by unfold Y6;rw[aj a];exact o)) (fun i m=>by
  obtain⟨v,f,y,e,t,z⟩:=ha (66+(193+i)) (by omega);rw[UY i m]at t
  exact⟨v,f,y,e,t,z⟩)
 obtain⟨s,g,d⟩:=OK (cs:=X.toList) (off:=368) (n:=96) (kd:=fun _=> .u8) (by omega) (fun j a=>b (368+j) (by omega) _ (by unfold Y6;rw[an (by omega)]));refine⟨⟨s,k⟩,X.toList,rfl,⟨w,g⟩,_,?_,r⟩;rw[←d,kL (i:=96) (by rw[bJ];omega),jI]
end
section
variable {α:Type} {e:El α} {own:α→Nat→List Value→World→Prop} {fn:Nat} {rd:List Int→α} {er:List Int→Nat} {u:α} {L l:List Int} {va:Option Addr} {c:Nat} {W:World} {Y:Array Value}
def pL (e:El α) (u:α) (Y:Array Value) (W:World):Prop:=∃a:List Value,Y=a.toArray∧e.R u a W
theorem xM (a:Sd e own) (g:xx own fn rd er) (hl:l.length<4294967296) (hs:cG va c l W):Calls prog fn #[.slice va l.length c] W fun x d=>(∃Y:Array Value,x= .returned (.tuple #[.agg Y,.int .i64 (er l:Int)])∧Y.size=e.N∧Y.all (·.oneCell')=true∧pL e (rd l) Y d)∧Below W.heap.size W d:=(g l va c W (aa hs) (aa hl)).mono fun _ _ ⟨⟨f,i,b⟩,h⟩=>⟨⟨f.toArray,i,a.len b,jP (a.one b),f,rfl,a.R b⟩,h⟩
theorem nH (g:e.nm fn) (d:e.ok u) {z} (b:e.E u=z) (hL:e.L u=L) (h:pL e u Y W):Calls prog fn #[.agg Y] W fun x a=>(∃va c,x= .returned (.tuple #[.slice va L.length c,.int .i64 z])∧(va=none→c=0)∧bc W.heap.size (.slice va L.length c) L a)∧Below W.heap.size W a:=by obtain⟨i,rfl,f⟩:=h;subst b;subst hL;exact g u i W (aa d) (aa f)
theorem uC (g:e.iG fn) (b:e.ok u) (h:pL e u Y W) (d:cY W):Calls prog fn #[.agg Y] W fun x a=>x= .returned (.tuple #[.agg (ax (e.G u)),.int .i64 (e.E u)])∧Below W.heap.size W a:=by obtain⟨i,rfl,f⟩:=h;exact g u i W (aa b) (aa f) (aa d)
structure Sf (e:El α) (own:α→Nat→List Value→World→Prop) (rd:List Int→α) (er:List Int→Nat):Prop where
 own:Sd e own
 later:∀{u cs W W'},e.R u cs W→Below W.heap.size W W'→e.R u cs W'
 len:∀{u cs W},e.R u cs W→cs.length=e.N
 ok:∀{u},e.ok u→∀m∈e.L u,CK.ok .u8 m
 Es:∀{u},e.E u=0→(e.L u).length<4294967296
 wr:∀{u},e.ok u→e.E u=0→er (e.L u)=0
 any:∀{l},(∀x∈l,CK.ok .u8 x)→e.ok (rd l)∧e.E (rd l)=0∧(er l=0→e.L (rd l)=l)
theorem Sf.ru (h:Sf e own rd er) {a b} (d:pL e u Y a) (f:Below a.heap.size a b):pL e u Y b:=by obtain⟨j,i,g⟩:=d;exact⟨j,i,h.later g f⟩
theorem ZY (r):Sf nD AK (EX r) (rl r):=⟨r_,MW,UP,zj.E5,fun {g} h=>oE (zj.Ls (g:=g) h) (by decide),Ke r,Wo r⟩
end
end Go.Proofs.YtjeoeibdgciafaaGreatDoor
namespace Go.Proofs.YtjeoeibdgciafaaGreatDoor
open Go.RowKit BigFrame
open Go.Proofs.Tryz
section
variable {ops:Array Oper} {Q:Exit→Act→World→Prop} {rest:List Oper} {a:Act} {d:Option Tmp} {D:Tmp} {ty:TypeId} {pos:String} {af:Array Edge} {x y:Operand} {W W1 w:World}
theorem alZ (k:∀b,Hid (b.heap[W.heap.size]?=some (.cells zr 25 (0,0)))→Below W.heap.size W b→wpList prog ops Q rest (a.put (some D) (.pointer (some ⟨W.heap.size,0,none⟩))) b):wpList prog ops Q (⟨some D,.alloc 25,ty,pos,af,none⟩::rest) a W:=aH rfl fun K c=>bT 25 rfl D rfl zr 32 cg (c _ _ (k _ (ak _ _ _ _ rfl) dt))
theorem Va {b g r C} (f:W.heap[g]?=some (.cells C 25 (0,0))) (hs:C.size=32) (o:Below b W1 W) (j:b≤g) (m:b≤W.heap.size) (i:a.eval x= .pointer (some ⟨g,0,none⟩)) (h:a.eval y= .agg (ax r)) (k:∀c,Hid (c.heap[g]?=some (.cells (ax r) 25 (0,0)))→Below b W1 c→wpList prog ops Q rest (a.put d undef) c):wpList prog ops Q (⟨d,.store 25 x y,ty,pos,af,none⟩::rest) a W:=aH rfl fun K p=>wp_store_row 25 x y rfl g i (ax r) h (aA _ _ _) (by rw[ah am];simp[ae]) C 25 f (by rw[hs];simp[ae]) fun c s q=>p _ _ (k c s (q.below o j m))
variable {n:Nat} {C:List Value} {t tc:TypeId} {K:Nat} {rs:List (Nat→Int)}
theorem cm.Yw (h:cm n C t tc K rs w W) {i r} (f:a.eval x= .pointer (some ⟨n+1+1,i,none⟩)) (c:a.eval y= .agg (ax r)) (j:i=32*rs.length) (m:rs.length<K) (g:fY r) (k:∀b,Hid (cm n C t tc K (rs++[r]) w b)→wpList prog ops Q rest (a.put d undef) b):wpList prog ops Q (⟨d,.store 25 x y,ty,pos,af,none⟩::rest) a W:=fG rfl x y rfl rs.length r (by rw[f,j]) c h rfl m g fun b o=>k b o
theorem cm.agj {c} (h:cm n C t tc K (rs++[c]) w W) {i r} (g:a.eval x= .pointer (some ⟨n+1+1,i,none⟩)) (f:a.eval y= .agg (ax r)) (p:i=32*rs.length) (s:rs.length<K) (j:fY r) (k:∀b,Hid (cm n C t tc K (rs++[r]) w b)→wpList prog ops Q rest (a.put d undef) b):wpList prog ops Q (⟨d,.store 25 x y,ty,pos,af,none⟩::rest) a W:=vW rfl x y rfl rs.length r (by rw[g,p]) f h (fun q m=>h.is q (List.mem_append_left _ m)) (fun z o=>by rw[tU,an o]) rfl s j fun b v=>k b v
theorem cm.ldK {r} (h:cm n C t tc K (rs++[r]) w W) {i} (f:a.eval x= .pointer (some ⟨n+1+1,i,none⟩)) (g:i=32*rs.length) (m:rs.length<K) (k:wpList prog ops Q rest (a.put d (.agg (ax r))) W):wpList prog ops Q (⟨d,.load 25 x,ty,pos,af,none⟩::rest) a W:=by
 obtain⟨O,p,q,o⟩:=h.hC;refine ab rfl _ (ar _ 25 _ rfl (n+1+1) i f (ae 32 (fun _=> .u8) r) _ (fun j v b=>?_) cH rfl (by rw[ah am,ac])) k;have c:j<32:=by have:=(io.1 b).1;rw[ac]at this;exact this
 rw[br _ _ _ _ _ _ p,g,o rs.length m j c,tU,aj rfl,←b,aN _ _ _ _ c];rfl
end
section
variable {n:Nat} {C:List Value} {t tc:TypeId} {K:Nat} {rs:List (Nat→Int)} {w W W0:World} {Q:Ending→World→Prop}
theorem cm.NV (h:cm n C t tc K rs w W) {l f c k} (hl:cG f c l W) (m:l.length=k) (i:1≤k∧k≤512) (j:∀g f c,Hid (cm n C t tc K rs w g∧j_ g f (chunks l)∧(∀b o,f=some ⟨b,o,none⟩→b<g.heap.size)∧(k+31)/32≤c)→Q (.returned (.slice f ((k+31)/32) c)) g):Calls prog 50 #[.slice f k c] W Q:=(h.pack l f c k _ hl m rfl i.1 (by omega)).mono fun _ _ ⟨f,c,i,s,r,q,p⟩=>by rw[i];exact j _ f c ⟨p,s,r,q⟩
theorem cm.Fp {l g c k q m} (h:cm n C t tc K rs w W∧j_ W g (chunks l)∧(∀b o,g=some ⟨b,o,none⟩→b<W.heap.size)∧(k+31)/32≤c) (s:l.length=k) (f:1≤k∧k≤512) (p:q=(k+31)/32) (r:m=(q:Int)) (j:∀i,Hid (cm n C t tc K rs w i)→Q (.returned (.agg (ax (uU (RI k) l)))) i):Calls prog 49 #[.slice g q c,.int .i64 m] W Q:=by subst p;exact(h.1.Pc l g c _ (RI k) m h.2.1 h.2.2.1 h.2.2.2 (by rw[s]) r (tF f.1 f.2).1 (tF f.1 f.2).2).mono fun _ _ ⟨f,v⟩=>by rw[f];exact j _ v
theorem cm.mJ (h:cm n C t tc K rs w W) {g N c b} (m:fK g N c b) {f} (j:uu N c f) (k:∀i,Hid (cm n C t tc K rs w i)→Q (.returned (.tuple #[.agg (ax (b f)),.int .i64 0])) i):Calls prog g #[.agg (ae N c f).toArray] W Q:=(m f W j h.hT).mono fun _ _ ⟨p,o⟩=>by rw[p];exact k _ (h.later o)
theorem cm.I3 (h:cm n C t tc K rs w W) {m} (f:m=(K:Int)) (g:rs.length=K) (b:1≤K∧K≤16) (k:∀c,Below n w c→Hid (c.heap[n+1]?=some (.cells zr 25 (0,0)))→Q (.returned (.agg (ax (fullT (Q_ K) (leaf rs))))) c):
 Calls prog 49 #[.slice (some ⟨n+1+1,0,none⟩) K K,.int .i64 m] W Q:=(h.last (Q_ K) m f g (tE b).1 (tE b).2).mono fun _ _ ⟨b,j,i⟩=>by rw[b];exact k _ j i
variable {α:Type} {e:El α} {l:List α} {u:α} {er:Int}
theorem El.SJ {c} (m:e.iG c) (h:e.ok u) {b} (j:e.R u b W) (i:cY W) (g:e.E u=er) (k:∀f,Below W.heap.size W f→Q (.returned (.tuple #[.agg (ax (e.G u)),.int .i64 er])) f):Calls prog c #[.agg b.toArray] W Q:=by subst g;exact(m u b W h j i).mono fun _ _ ⟨p,o⟩=>by rw[p];exact k _ o
theorem GI.Fp {f:Option Addr} {c:Nat} (h:GI e l l.length W0 (.slice f l.length c) er W) (he:e.Ok) (p:∀u∈l,e.ok u) (s:cY W) {b:Int} {N d:Nat} (q:b=(N:Int)) (r:lN N d∧d≤32∧N≤1000) (g:decide ((l.length:Int)>b)=false) (k:∀i,Below W.heap.size W i→Q (.returned (.agg (ax (Io e d b l)))) i):Calls prog 49 #[.slice f l.length c,.int .i64 b] W Q:=by subst q;unfold Io at k;rw[an (by rw[g];decide)]at k;obtain⟨o,m,j⟩:=h.row he p;exact(mj (l.map e.G) l.length N d f c W (by simp) (by simp at g;omega) r.1 (by omega) o m j s).mono fun _ _ ⟨z,v⟩=>by rw[z];exact k _ v
theorem adG {r m} (c:fY r) (f:cY W) (k:∀b,Below W.heap.size W b→Q (.returned (.agg (ax (gX r (je m))))) b):Calls prog 53 #[.agg (ax r),.int .u64 m] W Q:=(zK r m W c f).mono fun _ _ ⟨h,g⟩=>by rw[h];exact k _ g
end
def Pa (n:Nat) (u:Nat→Value):Act:={tmps:=#[u 0,.pointer (some ⟨n,0,none⟩),.pointer (some ⟨n+1,0,none⟩),u 3,u 4,.pointer (some ⟨n+1+1,0,none⟩),u 6,u 7,u 8,u 9,u 10,u 11,u 12,u 13,u 14,u 15,u 16,u 17,u 18,u 19,u 20,u 21,u 22,u 23,u 24,u 25,u 26,u 27,u 28,u 29,u 30,u 31,u 32,u 33,u 34,u 35,u 36,u 37,u 38,u 39,u 40,u 41,u 42,u 43,u 44,u 45,u 46,u 47,u 48,u 49,u 50,u 51,u 52,u 53,u 54,u 55,u 56,u 57,u 58,u 59,u 60,u 61,u 62,u 63,u 64,u 65,u 66,u 67,u 68,u 69,u 70,u 71,u 72,u 73,u 74,u 75,u 76,u 77,u 78,u 79,u 80,u 81,u 82,u 83,u 84,u 85,u 86,u 87,u 88,u 89,u 90,u 91,u 92,u 93,u 94,u 95,u 96,u 97,u 98,u 99,u 100,u 101,u 102,u 103,u 104,u 105,u 106,u 107,u 108,u 109,u 110,u 111,u 112,u 113,u 114,u 115,u 116,u 117,u 118,u 119,u 120,u 121,u 122,u 123,u 124,u 125,u 126,u 127,u 128,u 129,u 130,u 131,u 132,u 133,u 134,u 135,u 136,u 137,u 138,u 139,u 140,u 141,u 142,u 143,u 144,u 145,u 146,u 147,u 148,u 149,u 150,u 151,u 152,u 153,u 154,u 155,u 156,u 157,u 158,u 159,u 160,u 161,u 162,u 163,u 164,u 165,u 166,u 167,u 168,u 169,u 170,u 171,u 172,u 173,u 174,u 175,u 176,u 177,u 178,u 179,u 180,u 181,u 182,u 183,u 184,u 185,u 186,u 187,u 188,u 189,u 190,u 191,u 192,u 193,u 194,u 195,u 196,u 197,u 198,u 199,u 200,u 201,u 202,u 203,u 204,u 205,u 206,u 207,u 208,u 209,u 210,u 211,u 212,u 213,u 214,u 215,u 216,u 217,u 218,u 219,u 220,u 221,u 222,u 223,u 224,u 225,u 226,u 227,u 228,u 229,u 230,u 231,u 232,u 233,u 234,u 235,u 236,u 237,u 238,u 239,u 240,u 241,u 242,u 243,u 244,u 245,u 246,u 247,u 248,u 249,u 250,u 251,u 252,u 253],defers:=[]}
def IG (n:Nat) (w:World) (A:Act) (W:World):Prop:=A.tmps.getD 2 undef= .pointer (some ⟨n+1,0,none⟩)∧A.tmps.getD 3 undef= .int .i64 6∧A.defers=[]∧W.heap[n+1]?=some (.cells (ax bh) 25 (0,0))∧Below n w W
def IG.of {n w A W} (e:A.tmps.getD 2 undef= .pointer (some ⟨n+1,0,none⟩)) (d:A.tmps.getD 3 undef= .int .i64 6) (c:A.defers=[]) (b:W.heap[n+1]?=some (.cells (ax bh) 25 (0,0))) (a:Below n w W):IG n w A W:=⟨e,d,c,b,a⟩
def Yf {n:Nat} {Q:Exit→Act→World→Prop} {P:World→Prop} {A:Act} {W:World} (g:∀b a,P a→Q .normal (Pa n b) a) (h:P W) (c:A=Pa n (fun k=>A.tmps.getD k undef)):Q .normal A W:=by
 have d:=g (fun k=>A.tmps.getD k undef) W h
 rwa [←c]at d
abbrev VQ (Q:Exit→Act→World→Prop) (n:Nat) (C:List Value) (t b:TypeId) (c:List (Nat→Int)) (w:World):Prop:=∀u a,cm n C t b 9 c w a→Q .normal (Pa n u) a
def VX (k p:Nat) (i:Int) (g h:Nat):Prop:=∀(F:Func) (_:F=Tryz.f10) (Q:Exit→Act→World→Prop) (n:Nat) (C:List Value) (t a:TypeId) (b:List (Nat→Int)) (f:Option Addr) (m c:Nat) (tb:Bool) (w W:World) (u:Nat→Value),
 prog.underlying g=some (.slice h)→decide ((m:Int)>i)=tb→C[p]?=some (.slice f m c)→cm n C t a 9 b w W→
 (tb=false→VQ Q n C t a b w)→(tb=true→∀e d,IG n w e d→Q .ret e d)→(pq k F).wp prog Q (Pa n u) W
def vX:VX 8 193 2 29 74∧VX 21 194 1 30 86∧VX 34 195 4 31 90∧VX 47 196 2 32 98∧VX 60 197 2 33 103:=by
 refine⟨?_,?_,?_,?_,?_⟩<;>
 (intro F hF Q n C t p q o m c tb w W u b r h d f e
  have a:=aa d;have j:=aa h;have i:=aa b;clear d h b;subst hF;simp only[pq,pc,pcAt,headAt,Tryz.f10,reduceIte,Nat.reduceEqDiff,Nat.reduceBEq,dR];unfold Pa;cases tb
  all_goals
   first|have g:=aa (f rfl)|have g:=aa (e rfl)
   clear f e
   go_wp2_with (first
    |refine ag _ ?_;refine u5 a.out.hX j.out i.out rfl ?_
    |refine cZ 25 ?_;refine ab (by rfl) _ (ct _ rfl) ?_
    |refine al 25 ?_;refine Va a.out.hR bL a.out.hB (by omega) (by have:=a.out.size;omega) rfl rfl (fun W l k=>?_))
   first|exact Yf g.out a.out (by kernel_rfl)|exact g.out _ _ (IG.of (by kernel_rfl) (by kernel_rfl) (by kernel_rfl) l.out k))
def VL (k j p N d m f o:Nat) (b:Int):Prop:=∀(F:Func) (_:F=Tryz.f10) (Q:Exit→Act→World→Prop) (c:Type) (e:El c) (n:Nat) (C:List Value) (t g:TypeId) (a:List (Nat→Int)) (l:List c) (v:Value) (w W:World) (u:Nat→Value),
 decide ((l.length:Int)>b)=false→e.Ok→e.t=f→prog.underlying m=some (.slice f)→e.iG o→b=(N:Int)→lN N d∧d≤32∧N≤1000→C[p]?=some v→qf e l v w→(∀u∈l,e.ok u)→l.length≤1048576→w.heap.size=n→a.length=3+j→cm n C t g 9 a w W→
 (jf e l=0→VQ Q n C t g (a++[Io e d b l]) w)→(jf e l=6→∀i h,IG n w i h→Q .ret i h)→(pq k F).wp prog Q (Pa n u) W
def vL:VL 10 0 193 2 1 29 74 52 2∧VL 23 1 194 1 0 30 86 54 1∧VL 36 2 195 4 2 31 90 55 4∧VL 49 3 196 2 1 32 98 56 2∧VL 62 4 197 2 1 33 103 57 2:=by
 refine⟨?_,?_,?_,?_,?_⟩<;>
 (intro F hF Q α e n C t tc rs l v w W u j he S R nK V m gu H U hl hn T h0 hQ hB
  have hS:=aa h0;have hC:=aa gu;have D:=aa R;have hP:=aa nK;have G:=aa U;have hN:=aa V;have hd:=aa m;have L:=aa j;have gQ:=aa hQ;have gB:=aa hB;obtain⟨va,c,rfl,-⟩:=id H;have hR:=aa H;have k:=aa T;clear h0 hQ hB gu R nK H U V m j T;subst hn;subst hF;simp only[pq,pc,pcAt,headAt,Tryz.f10,reduceIte,Nat.reduceEqDiff,Nat.reduceBEq,dR];unfold Pa;go_wp2;obtain⟨I,P,O,N⟩:=GI.inv e l W;have g0:=aa P;have g1:=aa O;have g2:=aa N;clear P O N
  first|go_loopw [6,7] (fun v i=>I v (.int .i64 0) i) (fun _ i _=>l.length-(intOf i).toNat)|go_loopw [9,10] (fun v i=>I v (.int .i64 0) i) (fun _ i _=>l.length-(intOf i).toNat)|go_loopw [12,13] (fun v i=>I v (.int .i64 0) i) (fun _ i _=>l.length-(intOf i).toNat)|go_loopw [15,16] (fun v i=>I v (.int .i64 0) i) (fun _ i _=>l.length-(intOf i).toNat)|go_loopw [18,19] (fun v i=>I v (.int .i64 0) i) (fun _ i _=>l.length-(intOf i).toNat)
  case atStart=>exact g0.out
  case round=>
   obtain⟨q,va9,c9,bd,hq,rfl,rfl,M,J⟩:=g1.out _ _ _ _ hrel;cases M;have K:=aa J;have f:=aa (hS.out.later J.2.1);clear hrel g0 J;have a:=aa (aP wr.heap.size wr);by_cases p:q<l.length
   ·obtain⟨z,h⟩:∃z,l[q]?=some z:=⟨_,fS p⟩
    obtain⟨b,o,cs,rfl,X⟩:=(hR.out.later he f.out.hB).get he h;have Y:=aa X;have ha:=aa h;have cM:=aa (G.out z (rY h));have lt:decide ((q:Int)<(l.length:Int))=true:=by simp;omega
    have Z:=aa (show b<wr.heap.size from((hR.out.later he f.out.hB).blk h));clear X h;rcases he.Eis z with A|A
    all_goals
     have B:=aa A;clear A
     go_wp2_with (first
      |refine ag 25 ?_;refine Y' rfl g.out ?_
      |refine ag _ ?_;refine u5 (f.out.later a.out).hX hC.out D.out rfl ?_
      |refine aC _ ?_;refine ixE he S D.out rfl rfl p ?_
      |refine ag _ ?_;refine ldE he S rfl (Y.out.later he a.out Z.out) ?_
      |refine ao 25 ?_;refine alZ (fun W g d=>?_);replace a:=aa (a.out.trans (d.mono a.out.size));clear d
      |(with_reducible refine El.SJ hP.out cM.out (Y.out.later he a.out Z.out).r (f.out.later a.out).hT B.out ?_);intro W d;replace g:=aa ((d.block _ (aD g.out)).trans g.out);replace a:=aa (a.out.trans (d.mono a.out.size));clear d
      |refine al 25 ?_;refine Va g.out bL a.out (by omega) a.out.size rfl rfl (fun W y d=>?_);clear g a;have g:=y;have a:=aa d;clear y d
      |refine aV 106 ?_;refine GI.kA K.out he ha.out p hl a.out (show (0:Int)=if (0:Int)=0 then e.E z else 0 by rw[aj rfl,B.out]) rfl rfl rfl ?_;intro eE c1 W XP
      |refine cZ 25 ?_;refine ab (by rfl) _ (ct _ rfl) ?_
      |refine al 25 ?_;refine Va (f.out.later a.out).hR bL (f.out.later a.out).hB (by omega) (by have:=(f.out.later a.out).size;omega) rfl rfl (fun W y d=>?_))
    ·exact⟨g2.out _ _ q _ _ (by go_num) p XP.out,by simp[intOf];omega⟩
    ·exact gB.out (JK he ha.out (by rw[B.out];decide)) _ _ (IG.of (by kernel_rfl) (by kernel_rfl) (by kernel_rfl) y.out d)
   ·have e0:q=l.length:=by omega
    have lt:decide ((q:Int)<(l.length:Int))=false:=by simp;omega
    subst e0
    go_wp2_with (first
     |refine ag _ ?_;refine u5 f.out.hX hC.out D.out rfl ?_
     |(with_reducible refine GI.Fp K.out he G.out f.out.hT hN.out hd.out L.out ?_);intro W d;have s:=aa (f.out.later d);clear d
     |refine al 25 ?_;refine cm.Yw s.out rfl rfl (by rw[k.out]) (by rw[k.out];decide) (ry he G.out _ _) ?_;clear s;intro W s)
    exact Yf (gQ.out K.out.2.2.symm) s.out (by kernel_rfl))
def IT {k p f g d F Q n} {C:List Value} {t a} {b:List (Nat→Int)} {e:Option Addr} {m c w W A} (h:VX k p d f g) (hF:F=Tryz.f10) (l:prog.underlying f=some (.slice g)) (s:C[p]?=some (.slice e m c)) (u:A=Pa n (fun k=>A.tmps.getD k undef)) (o:cm n C t a 9 b w W) (r:decide ((m:Int)>d)=false→VQ Q n C t a b w) (q:decide ((m:Int)>d)=true→∀j i,IG n w j i→Q .ret j i):(pq k F).wp prog Q A W:=by rw[u];exact h F hF Q n C t a b e m c _ w W _ l rfl s o r q
def M2 (F) (h:F=Tryz.f10):(Tryz.f10).body=some (.seq (pc 0 Tryz.f10) (.seq (pc 1 Tryz.f10) (.seq (pc 2 Tryz.f10) (.seq (pc 3 Tryz.f10) (.seq (pc 4 Tryz.f10) (.seq (pc 5 Tryz.f10) (.seq (pc 7 Tryz.f10) (.seq (pq 8 F) (.seq (pq 10 F) (.seq (pc 20 Tryz.f10) (.seq (pq 21 F) (.seq (pq 23 F) (.seq (pc 33 Tryz.f10) (.seq (pq 34 F) (.seq (pq 36 F) (.seq (pc 46 Tryz.f10) (.seq (pq 47 F) (.seq (pq 49 F) (.seq (pc 59 Tryz.f10) (.seq (pq 60 F) (.seq (pq 62 F) (.seq (pc 72 Tryz.f10) (.seq (pc 73 Tryz.f10) (.seq (pc 74 Tryz.f10) (.seq (pc 76 Tryz.f10) (.seq (pc 77 Tryz.f10) (.ret))))))))))))))))))))))))))):=by
 subst h
 kernel_rfl
def Mb (b:Bo) (o:b.ok) (P O N M L:Value) (w) (q:b.at P O N M L w) (Q:cY w):
 Calls prog 10 #[.agg (cJ b.f b.g P O N M L).toArray] w fun e z=>e= .returned (.tuple #[.agg (ax b.R),.int .i64 b.E])∧Below w.heap.size w z:=by
 have j:=aa o;have Y:=aa (show fK 58 104 av eV from fun f w h i=>vc f h.out w i.out);have I:=aa Q
 have m:=aa (fun(h:b.E=6) (A:Act) (W:World) (s:IG w.heap.size w A W)=>show bodyPost prog Tryz.f10 (fun e z=>e= .returned (.tuple #[.agg (ax b.R),.int .i64 b.E])∧Below w.heap.size w z) .ret A W from by
  have hL:b.R=bh:=by unfold Bo.R;rw[an (by rw[h];decide)]
  rw[hL,h]
  exact aI rfl (w.heap.size+1) 0 (ae 32 (fun _=> .u8) bh) _ s.1 (aE s.2.2.2.1) cH rfl (by rw[ah am,ac]) s.2.2.1 (by rw[s.2.1];exact⟨rfl,s.2.2.2.2⟩))
 obtain⟨X,c3,rfl,-,-⟩:=q.l3;obtain⟨H,c4,rfl,-,-⟩:=q.l4;obtain⟨V,c5,rfl,-,-⟩:=q.l5;obtain⟨G,c6,rfl,-,-⟩:=q.l6;obtain⟨D,c7,rfl,-,-⟩:=q.l7;have ha:=aa q;have n3:=o.n3;have n4:=o.n4;have n5:=o.n5;have n6:=o.n6;have n7:=o.n7;clear o q Q;obtain⟨F,B⟩:∃F,F=Tryz.f10:=⟨_,rfl⟩;refine tf func10 (M2 F B) ?_;have hF:=aa B;clear B;simp only[ntmps10,cI,List.length_cons,List.length_nil,Nat.reduceAdd,Nat.reduceSub,oK,Array.replicate_zero,oG,oJ,List.nil_append,List.cons_append];simp only[pc,pcAt,headAt,Tryz.f10,reduceIte,Nat.reduceEqDiff,Nat.reduceBEq,dR]
 go_wp2_with (first
  |refine fo _ ?_;refine bW rfl _ _ rfl _ rfl ?_
  |refine ao 25 ?_;refine fX 2 cg ?_
  |refine ao 119 ?_;refine aH rfl fun K S=>bT 119 rfl _ rfl (rep 288) 288 (by kernel_rfl) (S _ _ ?_);clear S K
   refine bZ (fun W=>cm w.heap.size (cJ b.f b.g (.slice X b.ps.length c3) (.slice H b.ss.length c4) (.slice V b.zp.length c5) (.slice G b.ds.length c6) (.slice D b.es.length c7)) 38 119 9 [] w W) (cm.begin (ak _ _ _ _ rfl) rfl I.out (by simp) (iM _)) ?_;intro W c;have a:=aa c;clear c
  |(with_reducible refine cm.NV a.out (uE a.out.hX j.out.hf 0 96 rfl (by decide)) (az _ _ _) (by decide) ?_);clear a;intro W vp cp a
  |(with_reducible refine cm.Fp a.out (az _ _ _) (by decide) (by decide) (by decide) ?_);clear a;intro W a;have hI:=aa (jg (d:=2) (l:=ff (fb b.f 0) 0 96) (eM (gr (d7 (ii:=fun _=> .u8) j.out.hf (bB (by kernel_rfl)) (by decide:0+96≤193)) (fun _ _=>rfl) (by decide))))
  |refine ag 28 ?_;obtain⟨y,v⟩:=oX (f:=b.f) (g:=b.g) 96 65 (kdF bN) rfl (by decide);refine ab (by rfl) _ (ar _ 28 _ (by rfl) w.heap.size 96 rfl (ae 65 (kdF bN) (fb b.f 96)) _ (dK a.out.hX v 96 (ac _ _ _)) Lj rfl (by rw[ah mf,ac])) ?_;clear v
  |(with_reducible refine cm.mJ a.out Kz (d7 j.out.hf (bB rfl) (by decide)) ?_);clear a;intro W a;have hI:=aa (mT.is (d7 j.out.hf (bB rfl) (by decide):uu 65 (kdF bN) (fb b.f 96)))
  |refine ag 25 ?_;refine cm.ldK a.out rfl rfl (by simp) ?_
  |refine ag 25 ?_;obtain⟨y,v⟩:=oX (f:=b.f) (g:=b.g) 161 32 (fun _=> .u8) rfl (by decide);refine ab (by rfl) _ (ar _ 25 _ (by rfl) w.heap.size 161 rfl (ae 32 (fun _=> .u8) (fb b.f 161)) _ (dK a.out.hX v 161 (ac _ _ _)) cH rfl (by rw[ah am,ac])) ?_;clear v;have hI:=aa (rv (off:=161) j.out.hf (da (by kernel_rfl)) (by decide))
  |refine al 25 ?_;refine cm.agj a.out rfl rfl rfl (by simp) (jj _ _) ?_;clear a hI;intro W a
  |refine al 25 ?_;refine cm.Yw a.out rfl rfl rfl (by simp) hI.out ?_;clear a hI;intro W a
  |(with_reducible refine adG hI.out a.out.hT ?_);intro W c;replace a:=aa (a.out.later c);clear c
  |refine gd 8 ?_;refine IT vX.1 hF.out Cb (bQ _ _ _ _ _ _ _ 0 _ rfl) (by kernel_rfl) a.out (fun h u W c=>?_) (fun h A W k=>m.out (by simp only[Bo.E,iB h,ec]) _ _ k);clear a;have i:=aa h;have a:=aa c;clear h c
  |refine gd 10 ?_;refine vL.1 F hF.out _ _ nE _ _ _ _ _ b.ps _ _ _ _ i.out h_ rfl Cb Ge.2 rfl (by unfold lN;decide) (bQ _ _ _ _ _ _ _ 0 _ rfl) ha.out.l3 j.out.ps j.out.n3 rfl rfl a.out (fun h u W c=>?_) (fun h A W k=>m.out (by simp only[Bo.E,eh i.out h,ec]) _ _ k);clear a;have n:=aa (eh i.out h);have a:=aa c;have hI:=aa (ry h_ j.out.ps 1 2);clear i h c;unfold Pa
  |refine ag 29 ?_;refine u5 a.out.hX (bQ _ _ _ _ _ _ _ 0 _ rfl) Cb rfl ?_
  |refine gd 21 ?_;refine IT vX.2.1 hF.out Ca (bQ _ _ _ _ _ _ _ 1 _ rfl) (by kernel_rfl) a.out (fun h u W c=>?_) (fun h A W k=>m.out (by simp only[Bo.E,n.out,iB h,ec]) _ _ k);clear a;have i:=aa h;have a:=aa c;clear h c
  |refine gd 23 ?_;refine vL.2.1 F hF.out _ _ nk _ _ _ _ _ b.ss _ _ _ _ i.out gy rfl Ca Gr.2 rfl (by unfold lN;decide) (bQ _ _ _ _ _ _ _ 1 _ rfl) ha.out.l4 j.out.ss j.out.n4 rfl rfl a.out (fun h u W c=>?_) (fun h A W k=>m.out (by simp only[Bo.E,n.out,eh i.out h,ec]) _ _ k);clear a;have p:=aa (eh i.out h);have a:=aa c;have hI:=aa (ry gy j.out.ss 0 1);clear i h c;unfold Pa
  |refine ag 30 ?_;refine u5 a.out.hX (bQ _ _ _ _ _ _ _ 1 _ rfl) Ca rfl ?_
  |refine gd 34 ?_;refine IT vX.2.2.1 hF.out B' (bQ _ _ _ _ _ _ _ 2 _ rfl) (by kernel_rfl) a.out (fun h u W c=>?_) (fun h A W k=>m.out (by simp only[Bo.E,n.out,p.out,iB h,ec]) _ _ k);clear a;have i:=aa h;have a:=aa c;clear h c
  |refine gd 36 ?_;refine vL.2.2.1 F hF.out _ _ mO _ _ _ _ _ b.zp _ _ _ _ i.out gx rfl B' Gn.2 rfl (by unfold lN;decide) (bQ _ _ _ _ _ _ _ 2 _ rfl) ha.out.l5 j.out.zp j.out.n5 rfl rfl a.out (fun h u W c=>?_) (fun h A W k=>m.out (by simp only[Bo.E,n.out,p.out,eh i.out h,ec]) _ _ k);clear a;have r:=aa (eh i.out h);have a:=aa c;have hI:=aa (ry gx j.out.zp 2 4);clear i h c;unfold Pa
  |refine ag 31 ?_;refine u5 a.out.hX (bQ _ _ _ _ _ _ _ 2 _ rfl) B' rfl ?_
  |refine gd 47 ?_;refine IT vX.2.2.2.1 hF.out B_ (bQ _ _ _ _ _ _ _ 3 _ rfl) (by kernel_rfl) a.out (fun h u W c=>?_) (fun h A W k=>m.out (by simp only[Bo.E,n.out,p.out,r.out,iB h,ec]) _ _ k);clear a;have i:=aa h;have a:=aa c;clear h c
  |refine gd 49 ?_;refine vL.2.2.2.1 F hF.out _ _ nG _ _ _ _ _ b.ds _ _ _ _ i.out ib rfl B_ Gk.2 rfl (by unfold lN;decide) (bQ _ _ _ _ _ _ _ 3 _ rfl) ha.out.l6 j.out.ds j.out.n6 rfl rfl a.out (fun h u W c=>?_) (fun h A W k=>m.out (by simp only[Bo.E,n.out,p.out,r.out,eh i.out h,ec]) _ _ k);clear a;have C:=aa (eh i.out h);have a:=aa c;have hI:=aa (ry ib j.out.ds 1 2);clear i h c;unfold Pa
  |refine ag 32 ?_;refine u5 a.out.hX (bQ _ _ _ _ _ _ _ 3 _ rfl) B_ rfl ?_
  |refine gd 60 ?_;refine IT vX.2.2.2.2 hF.out B9 (bQ _ _ _ _ _ _ _ 4 _ rfl) (by kernel_rfl) a.out (fun h u W c=>?_) (fun h A W k=>m.out (by simp only[Bo.E,n.out,p.out,r.out,C.out,iB h,ec]) _ _ k);clear a;have i:=aa h;have a:=aa c;clear h c
  |refine gd 62 ?_;refine vL.2.2.2.2 F hF.out _ _ nF _ _ _ _ _ b.es _ _ _ _ i.out ia rfl B9 Gh.2 rfl (by unfold lN;decide) (bQ _ _ _ _ _ _ _ 4 _ rfl) ha.out.l7 j.out.es j.out.n7 rfl rfl a.out (fun h u W c=>?_) (fun h A W k=>m.out (by simp only[Bo.E,n.out,p.out,r.out,C.out,eh i.out h,ec]) _ _ k);clear a;have J:=aa (eh i.out h);have a:=aa c;have hI:=aa (ry ia j.out.es 1 2);clear i h c;unfold Pa
  |refine ag 33 ?_;refine u5 a.out.hX (bQ _ _ _ _ _ _ _ 4 _ rfl) B9 rfl ?_
  |refine ag 36 ?_;refine ab (by rfl) _ (ar _ 36 _ (by rfl) w.heap.size 198 rfl (ae 104 av b.g) _ (uQ a.out.hX) GK rfl (by rw[ah cL,ac])) ?_
  |(with_reducible refine cm.mJ a.out Y.out j.out.hg ?_);clear a;intro W a;have hI:=aa (tY b.g)
  |(with_reducible refine cm.I3 a.out rfl rfl (by decide) ?_);clear a;intro W U mN;have Z:=U.size
  |refine al 25 ?_;refine Va mN.out bL U (by omega) Z rfl rfl (fun W k c=>?_))
 have T:b.E=0:=by simp only[Bo.E,n.out,p.out,r.out,C.out,J.out]
 have hR:b.R=fullT 4 (leaf b.rs):=by unfold Bo.R;rw[aj T]
 have h6:W.heap[w.heap.size+1]?=some (.cells (ax (fullT 4 (leaf b.rs))) 25 (0,0)):=k.out;rw[T,hR];exact aI rfl (w.heap.size+1) 0 (ae 32 (fun _=> .u8) (fullT 4 (leaf b.rs))) _ rfl (aE h6) cH rfl (by rw[ah am,ac]) rfl ⟨rfl,c⟩
def uN:jT.iG 8∧jT.iG 10:=by
 refine⟨fun b cs W a k c=>?_,fun b cs W a k c=>?_⟩<;>obtain⟨j,i,g,f,d,rfl,h⟩:=k.out
 ·exact PT b a.out j i g f d W h c.out
 ·exact Mb b a.out j i g f d W h c.out
def Bo.Ris {b:Bo} (a:b.ok):fY b.R:=by
 unfold Bo.R;split
 ·exact dj _ (eO (dk (jg (eM (gr (d7 (ii:=fun _=> .u8) a.hf (bB (by kernel_rfl)) (by decide:0+96≤193)) (fun _ _=>rfl) (by decide)))) (dk (mT.is (d7 a.hf (bB rfl) (by decide):uu 65 (kdF bN) (fb b.f 96))) (dk (rv (off:=161) a.hf (da (by kernel_rfl)) (by decide))
   (dk (jj _ _) (dk (jj _ _) (dk (jj _ _) (dk (jj _ _) (dk (jj _ _) (dk (tY _) lw))))))))))
 ·exact g7
def He {k} (a:iz.ok k):fY (fb k.h 2)∧fY (fb k.h 34):=⟨rv (off:=2) a.1 (da (by kernel_rfl)) (by decide),rv (off:=34) a.1 (da (by kernel_rfl)) (by decide)⟩
def qr.Ris {k} (a:iz.ok k):fY k.R:=by
 unfold qr.R;split
 ·exact dj _ (eO (dk (ir _) (dk (ir _) (dk (He a).1 (dk (He a).2 (dk (Bo.Ris a.2) lw))))))
 ·exact g7
section
variable {n:Nat} {C:List Value} {t:TypeId} {er:Int} {rs:List (Nat→Int)} {w W:World} {Q:Ending→World→Prop} {α:Type} {e:El α} {u:α} {fn:Nat} {cs:List Value}
theorem bD.Bk (h:bD n C t 0 rs w W) {m} (hl:rs.length≤100) (k:∀a,Hid (bD n C t 0 (rs++[je m]) w a)→Q (.returned (.tuple #[])) a):Calls prog 84 #[.pointer (some ⟨n+1+1,0,none⟩),.int .u64 m] W Q:=(JI (n+1+1) rs m W h.hH (by omega)).mono fun _ _ ⟨d,c,b⟩=>by rw[d];exact k _ (h.step c b)
theorem bD.VZ (h:bD n C t 0 rs w W) {r x} (b:fY r) (hl:rs.length≤100) (k:∀a,Hid (bD n C t x (rs++[r]) w a)→Q (.returned (.tuple #[])) a):Calls prog 85 #[.pointer (some ⟨n+1+1,0,none⟩),.agg (ax r),.int .i64 x] W Q:=h.putK b hl fun a c=>k a (uJ c (aj rfl))
theorem bD.IX (h:bD n C t er rs w W) (f:e.iG fn) (c:e.ok u) (d:e.R u cs W) {x} (b:e.E u=x) (k:∀a,Hid (bD n C t er rs w a)→Q (.returned (.tuple #[.agg (ax (e.G u)),.int .i64 x])) a):Calls prog fn #[.agg cs.toArray] W Q:=El.SJ f c d h.hT b fun a g=>k a (h.later g)
end
def acl {n b h W f Q c a d g pos l x} (j:W.rangeAt n b (ae 32 (fun _=> .u8) (fb h b))) (i:a.eval x= .pointer (some ⟨n,b,none⟩)) (k:wpList prog f Q c (a.put d (.agg (ax (fb h b)))) W):wpList prog f Q (⟨d,.load 25 x,g,pos,l,none⟩::c) a W:=Re j i cH rfl am (ac _ _ _) k
def Ds:iz.iG 14:=fun k cs w c i p=>by
 have B:=aa c.out.1;have m:=aa (show jT.ok k.b from c.out.2);have hI:=aa (He c.out);have s:=aa (show fY (jT.G k.b)from Bo.Ris c.out.2);obtain⟨A,rfl,g⟩:=i.out;have y:=aa g;have hl:=aa (qS g);obtain⟨E,d⟩:∃E,k.b.E=E:=⟨_,rfl⟩;have v:=aa (show jT.E k.b=E from d);have r:=aa (show (if E=0 then fullT 3 (leaf k.rs)else bh)=k.R by rw[←d];rfl);show Calls prog _ _ w fun x l=>x= .returned (.tuple #[.agg (ax k.R),.int .i64 k.b.E])∧Below w.heap.size w l;rw[d];clear c i g d
 go_enter func14,ntmps14
 go_wp2_with (first
  |refine fo _ ?_;refine bW rfl _ _ rfl _ rfl ?_
  |refine ao 25 ?_;refine fX 2 cg ?_
  |refine ao 108 ?_;refine fX _ jw ?_
   refine bZ (fun W=>bD w.heap.size (ae 66 (kdF jv) k.h++A) 50 0 [] w W) (bD.begin (ak _ _ _ _ rfl) rfl p.out) ?_;intro W f;have a:=aa f;clear f
  |refine ag 26 ?_;refine ldN (h:=k.h) (tz a.out.hX _ 1 (fun _=> .u64) (by kernel_rfl) (by decide)) rfl rfl ?_
  |(with_reducible refine bD.Bk a.out (by simp) ?_);clear a;intro W a
  |refine ag 25 ?_;refine acl (h:=k.h) (tz a.out.hX _ 32 (fun _=> .u8) (by kernel_rfl) (by decide)) rfl ?_
  |(with_reducible refine bD.VZ a.out hI.out.1 (by simp) ?_);clear a;intro W a
  |(with_reducible refine bD.VZ a.out hI.out.2 (by simp) ?_);clear a;intro W a
  |refine ag 38 ?_;refine Re (xW a.out.hX) rfl qa rfl tl hl.out ?_
  |(with_reducible refine bD.IX a.out uN.1 m.out (lG y.out a.out.hB) v.out ?_);clear a;intro W a
  |(with_reducible refine bD.VZ a.out s.out (by simp) ?_);clear a;intro W a
  |(with_reducible refine bD.mI (R:=k.R) a.out ?_ ?_ ?_);exact⟨by simp,by simp⟩;exact r.out;clear a;intro W j q;have o:=j.size
  |refine al 25 ?_;refine Va q.out bL j (by omega) o rfl rfl (fun W z f=>?_))
 exact aI rfl (w.heap.size+1) 0 (ae 32 (fun _=> .u8) k.R) _ rfl (aE (show W.heap[w.heap.size+1]?=some (.cells (ax k.R) 25 (0,0))from z.out)) cH rfl (by rw[ah am,ac]) rfl ⟨rfl,f⟩
def Kk:nD.iG 20:=fun g cs w c i q=>by
 have o:=aa c.out.1;have m:=aa c.out.2;have y:=aa (show fY (iz.G g.k)from qr.Ris c.out.1);obtain⟨D,rfl,h⟩:=i.out;have A:=aa h;have hl:=aa (qT h);obtain⟨E,d⟩:∃E,g.k.b.E=E:=⟨_,rfl⟩;have z:=aa (show iz.E g.k=E from d);have v:=aa (show (if E=0 then fullT 1 (leaf g.rs)else bh)=g.R by rw[←d];rfl);show Calls prog _ _ w fun x l=>x= .returned (.tuple #[.agg (ax g.R),.int .i64 g.k.b.E])∧Below w.heap.size w l;rw[d];clear c i h d
 go_enter func20,ntmps20
 go_wp2_with (first
  |refine fo _ ?_;refine bW rfl _ _ rfl _ rfl ?_
  |refine ao 25 ?_;refine fX 2 cg ?_
  |refine ao 108 ?_;refine fX _ jw ?_
   refine bZ (fun W=>bD w.heap.size (D++ae 96 (fun _=> .u8) g.s) 57 0 [] w W) (bD.begin (ak _ _ _ _ rfl) rfl q.out) ?_;intro W f;have a:=aa f;clear f
  |refine ag 50 ?_;refine Re (dK a.out.hX (pre:=[]) rfl 0 rfl) rfl pn rfl i7 hl.out ?_
  |(with_reducible refine bD.IX a.out Ds o.out (lH A.out a.out.hB) z.out ?_);clear a;intro W a
  |(with_reducible refine bD.VZ a.out y.out (by simp) ?_);clear a;intro W a
  |(with_reducible refine bD.kR a.out (tM a.out.hX (post_at a.out.hX hl.out) m.out) (az _ _ _) (by decide) (by decide) (by simp) ?_);clear a;intro W a
  |(with_reducible refine bD.mI (R:=g.R) a.out ?_ ?_ ?_);exact⟨by simp,by simp⟩;exact v.out;clear a;intro W j r;have p:=j.size
  |refine al 25 ?_;refine Va r.out bL j (by omega) p rfl rfl (fun W B f=>?_))
 exact aI rfl (w.heap.size+1) 0 (ae 32 (fun _=> .u8) g.R) _ rfl (aE (show W.heap[w.heap.size+1]?=some (.cells (ax g.R) 25 (0,0))from B.out)) cH rfl (by rw[ah am,ac]) rfl ⟨rfl,f⟩
def M3 (l d c w) (hl:Row w d .u8 l) (y:∀b o,d=some ⟨b,o,none⟩→b<w.heap.size) (X:1≤l.length) (V:l.length≤32) (k:cY w):
 Calls prog 87 #[.slice d l.length c] w fun e F=>e= .returned (.agg (ax (fg l 0)))∧Below w.heap.size w F:=by
 have H:=k.size;have h:=aa ((aP w.heap.size w).alloc bG (.cells zr 25));have E:=aa (ak w zr 25 w.heap.size rfl);have i:=aa (qU l d c (w.alloc (.cells zr 25)) (hl.later h.out) (fun b o e=>du (y b o e) h.out.size) (by omega));have L:=aa k;have I:=aa (im hl.ok);have j:(chunks l).length=1:=by rw[di];omega
 have z:leaf (chunks l) 0=fg l 0:=pY l 0 (by omega);rw[←z];clear k hl y z;generalize chunks l=cs at*;have f:=aa j;rw[j]at i;clear j
 go_enter func87,ntmps87
 go_wp2_with (first
  |refine ao 25 ?_;refine fX 2 cg ?_
  |with_reducible refine i.out.mono ?_
   rintro e W ⟨⟨G,r,rfl,B⟩,q⟩;obtain⟨g,s,e,U,a⟩:=gz B (by have:=f.out;omega);have p:=aa (h.out.trans (q.mono h.out.size));have D:=aa ((q.block w.heap.size (aD E.out)).trans E.out);have A:=a.choose_spec.2.2.1;rw[f.out]at e a A;obtain⟨rfl,rfl⟩:G=some ⟨g,0,none⟩∧r=s:=by injection e with R Y P;exact⟨R,P⟩
   have v:=aa (show Calls prog 49 #[.slice (some ⟨g,0,none⟩) 1 r,.int .i64 1] W _ from mj cs 1 1 0 (some ⟨g,0,none⟩) r W f.out (by omega) ⟨by decide,Or.inl rfl⟩ (by omega) (a.row cs (by have:=f.out;omega) (fun _ _=>rfl) I.out) (fun b o e=>by cases e;exact a.lt) A (L.out.below H p.out));clear B e a q i
  |with_reducible refine v.out.mono ?_
   rintro e W2 ⟨rfl,m⟩;have O:=aa (p.out.trans (m.mono p.out.size));have M:=aa ((m.block w.heap.size (aD D.out)).trans D.out);clear m v
  |refine al 25 ?_;refine aq (w0:=w) (n0:=w.heap.size) 25 _ _ rfl rfl w.heap.size rfl _ rfl (aA _ _ _) (by rw[ah am];simp[ae]) _ 25 M.out (by rw[bL];simp[ae]) (by omega) O.out (fun Z J N _=>?_))
 exact fF rfl w.heap.size 0 (ae 32 (fun _=> .u8) (leaf cs 0)) _ rfl J cH rfl (by rw[ah am,ac]) rfl ⟨rfl,N⟩
section
variable {n:Nat} {C:List Value} {t tc:TypeId} {K:Nat} {rs:List (Nat→Int)} {w W:World} {Q:Ending→World→Prop} {α:Type} {e:El α} {u:α} {fn:Nat} {cs:List Value}
theorem cm.In (h:cm n C t tc K rs w W) {m} (k:∀b a c,Hid (cm n C t tc K rs w b∧cG a c (fH m) b)→Q (.returned (.slice a 8 c)) b):Calls prog 86 #[.int .u64 m] W Q:=(A3 m W).mono fun _ _ ⟨⟨a,c,i,g,f⟩,d⟩=>by rw[i];exact k _ a c ⟨h.later d,cG.b_ f (na m) g⟩
theorem cm.LS {m a c} (h:cm n C t tc K rs w W∧cG a c (fH m) W) (k:∀d,Hid (cm n C t tc K rs w d)→Q (.returned (.agg (ax (je m)))) d):Calls prog 87 #[.slice a 8 c] W Q:=by have b:=M3 (fH m) a c W h.2.row h.2.low (by rw[aX];decide) (by rw[aX];decide) h.1.hT;rw[aX]at b;exact b.mono fun _ _ ⟨g,f⟩=>by rw[g];exact k _ (h.1.later f)
theorem cm.IX (h:cm n C t tc K rs w W) (f:e.iG fn) (c:e.ok u) (d:e.R u cs W) {x} (b:e.E u=x) (k:∀a,Hid (cm n C t tc K rs w a)→Q (.returned (.tuple #[.agg (ax (e.G u)),.int .i64 x])) a):Calls prog fn #[.agg cs.toArray] W Q:=El.SJ f c d h.hT b fun a g=>k a (h.later g)
end
def AS:iz.iG 16:=fun k cs w d l y=>by
 have M:=aa d.out.1;have s:=aa (show jT.ok k.b from d.out.2);have hI:=aa (He d.out);have D:=aa (show fY (jT.G k.b)from Bo.Ris d.out.2);have B:=aa (ir (k.h 0));have A:=aa (ir (k.h 1));obtain⟨I,rfl,i⟩:=l.out;have H:=aa i;have hl:=aa (qS i);obtain⟨E,g⟩:∃E,k.b.E=E:=⟨_,rfl⟩;have F:=aa (show jT.E k.b=E from g);have m:k.R=if E=0 then fullT 3 (leaf k.rs)else bh:=by rw[←g];rfl
 show Calls prog _ _ w fun x r=>x= .returned (.tuple #[.agg (ax k.R),.int .i64 k.b.E])∧Below w.heap.size w r;rw[g,m];clear d l i g m;rcases tg (E=0)with j|j
 case' inl=>subst j
 case' inr=>have L:(E !=0)=true:=by simp[j]
 all_goals
  go_enter func16,ntmps16
  go_wp2_with (first
   |refine fo _ ?_;refine bW rfl _ _ rfl _ rfl ?_
   |refine ao 25 ?_;refine fX 2 cg ?_
   |refine ao 158 ?_;refine aH rfl fun K o=>bT 158 rfl _ rfl (rep 160) 160 (by kernel_rfl) (o _ _ ?_);clear o K
    refine bZ (fun W=>cm w.heap.size (ae 66 (kdF jv) k.h++I) 50 158 5 [] w W) (cm.begin (ak _ _ _ _ rfl) rfl y.out (by simp) (iM _)) ?_;intro W f;have a:=aa f;clear f
   |refine ag 26 ?_;refine ldN (h:=k.h) (tz a.out.hX _ 1 (fun _=> .u64) (by kernel_rfl) (by decide)) rfl rfl ?_
   |(with_reducible refine cm.In a.out ?_);clear a;intro W J c a
   |(with_reducible refine cm.LS a.out ?_);clear a;intro W a
   |refine ag 25 ?_;refine acl (h:=k.h) (tz a.out.hX _ 32 (fun _=> .u8) (by kernel_rfl) (by decide)) rfl ?_
   |refine ag 38 ?_;refine Re (xW a.out.hX) rfl qa rfl tl hl.out ?_
   |(with_reducible refine cm.IX a.out uN.2 s.out (lG H.out a.out.hB) F.out ?_);clear a;intro W a
   |refine cZ 25 ?_;refine ab (by rfl) _ (ct _ rfl) ?_
   |((with_reducible refine al 25 ?_);refine cm.Yw a.out rfl rfl rfl (by simp) (by first|exact B.out|exact A.out|exact hI.out.1|exact hI.out.2|exact D.out) ?_;clear a;intro W a)
   |(with_reducible refine cm.I3 a.out rfl rfl (by decide) ?_);clear a;intro W p z;have v:=p.size
   |refine al 25 ?_;refine Va z.out bL p (by omega) v rfl rfl (fun W q f=>?_)
   |refine al 25 ?_;refine Va a.out.hR bL a.out.hB (by omega) (by have:=a.out.size;omega) rfl rfl (fun W q f=>?_))
 all_goals exact aI rfl (w.heap.size+1) 0 (ae 32 (fun _=> .u8) _) _ rfl (aE q.out) cH rfl (by rw[ah am,ac]) rfl ⟨rfl,f⟩
def Hz:nD.iG 22:=fun g cs w c o F=>by
 have A:=aa c.out.1;have z:=aa c.out.2;have I:=aa (show fY (iz.G g.k)from qr.Ris c.out.1);have hI:=aa (jg (d:=2) (l:=ff g.s 0 96) (eM fun j B=>by rw[bY];exact c.out.2 j B));obtain⟨M,rfl,i⟩:=o.out;have L:=aa i;have hl:=aa (qT i);obtain⟨E,h⟩:∃E,g.k.b.E=E:=⟨_,rfl⟩;have J:=aa (show iz.E g.k=E from h);have p:g.R=if E=0 then fullT 1 (leaf g.rs)else bh:=by rw[←h];rfl
 show Calls prog _ _ w fun x y=>x= .returned (.tuple #[.agg (ax g.R),.int .i64 g.k.b.E])∧Below w.heap.size w y;rw[h,p];clear c o i h p;rcases tg (E=0)with m|m
 case' inl=>subst m
 case' inr=>have O:(E !=0)=true:=by simp[m]
 all_goals
  go_enter func22,ntmps22
  go_wp2_with (first
   |refine fo _ ?_;refine bW rfl _ _ rfl _ rfl ?_
   |refine ao 25 ?_;refine fX 2 cg ?_
   |refine ao 163 ?_;refine aH rfl fun K q=>bT 163 rfl _ rfl (rep 64) 64 (by kernel_rfl) (q _ _ ?_);clear q K
    refine bZ (fun W=>cm w.heap.size (M++ae 96 (fun _=> .u8) g.s) 57 163 2 [] w W) (cm.begin (ak _ _ _ _ rfl) rfl F.out (by simp) (iM _)) ?_;intro W f;have a:=aa f;clear f
   |refine ag 50 ?_;refine Re (dK a.out.hX (pre:=[]) rfl 0 rfl) rfl pn rfl i7 hl.out ?_
   |(with_reducible refine cm.IX a.out AS A.out (lH L.out a.out.hB) J.out ?_);clear a;intro W a
   |(with_reducible refine cm.NV a.out (tM a.out.hX (post_at a.out.hX hl.out) z.out) (az _ _ _) (by decide) ?_);clear a;intro W N P a
   |(with_reducible refine cm.Fp a.out (az _ _ _) (by decide) (by decide) (by decide) ?_);clear a;intro W a
   |refine cZ 25 ?_;refine ab (by rfl) _ (ct _ rfl) ?_
   |((with_reducible refine al 25 ?_);refine cm.Yw a.out rfl rfl rfl (by simp) (by first|exact hI.out|exact I.out) ?_;clear a;intro W a)
   |(with_reducible refine cm.I3 a.out rfl rfl (by decide) ?_);clear a;intro W r H;have D:=r.size
   |refine al 25 ?_;refine Va H.out bL r (by omega) D rfl rfl (fun W v f=>?_)
   |refine al 25 ?_;refine Va a.out.hR bL a.out.hB (by omega) (by have:=a.out.size;omega) rfl rfl (fun W v f=>?_))
 all_goals exact aI rfl (w.heap.size+1) 0 (ae 32 (fun _=> .u8) _) _ rfl (aE v.out) cH rfl (by rw[ah am,ac]) rfl ⟨rfl,f⟩
structure B5 (n:Nat) (Z C:List Value) (t:TypeId) (w W:World):Prop where
 hR:W.heap[n]?=some (.cells Z.toArray t (0,0))
 hX:W.heap[n+1]?=some (.cells C.toArray t (0,0))
 hB:Below n w W
 hz:n+2≤W.heap.size
section
variable {n N b0 K:Nat} {Z C:List Value} {t:TypeId} {w W W':World}
theorem B5.later (h:B5 n Z C t w W) (a:Below W.heap.size W W'):B5 n Z C t w W':=by have b:=h.hz;exact⟨(a.block _ (by omega)).trans h.hR,(a.block _ (by omega)).trans h.hX,h.hB.trans (a.mono (by omega)),bg b a.size⟩
theorem B5.rj {b} (h:B5 n Z C t w W) (a:aL (n+1) W W') (d:W'.heap[n+1]?=some (.cells b.toArray t (0,0))):B5 n Z b t w W':=by have c:=h.hz;exact⟨(a.block _ (by omega) (by omega)).trans h.hR,d,a.below h.hB (by omega) (by omega),bg c a.size⟩
theorem B5.start (hW:W=(w.alloc (.cells Z.toArray t)).alloc (.cells Z.toArray t)):B5 w.heap.size Z Z t w W:=by subst hW;exact⟨aR _ _ _ _ (ak _ _ _ _ rfl),ak _ _ _ _ (by simp),dt.alloc (by simp) _,by simp⟩
theorem yB {g f o a Q} (B:o.guard=none) (l x y) (z:o.op= .store l x y) (c) (r:a.eval x= .pointer (some ⟨n+1,c,none⟩)) (d) (q:a.eval y= .agg d.toArray) (p:(prog.info? l).map (·.size)=some d.length) (F:∀v∈d,v.oneCell'=true) (h:B5 n Z C t w W) (e i b) (k:C=e++(i++b)) (u:e.length=c) (hl:d.length=i.length) (A:∀W',Hid (B5 n Z (e++(d++b)) t w W')→aL (n+1) W W'→wpList prog g Q f (a.put o.dst undef) W'):wpList prog g Q (o::f) a W:=by
 subst k
 have s:W.there (n+1) c d.toArray.size:=fun j m=>by
  have m:j<d.length:=by simpa using m
  refine⟨?_,j' h.hX _⟩;rw[br W (n+1) _ _ _ _ h.hX,fu,fT (by omega),eY (by omega),fS (by omega)];rfl
 refine aH B fun G D=>s_ l x y z (n+1) c _ r q s (by rw[p];simp) (by simpa using F) (D _ _ (A _ ?_ ?_))
 ·have E:aL (n+1) W (W.setCells (n+1) c d.toArray.toList):=(aL.refl _ _).setCells _ _ _ (Or.inl rfl)
  have k:=jz (n+1) d.toArray.toList c W _ t h.hX (by simp;omega);rw[show (e++(i++b)).toArray.toList=e++(i++b)from rfl,show d.toArray.toList=d from rfl,oZ u hl]at k;exact h.rj E k
 ·exact(aL.refl _ _).setCells _ _ _ (Or.inl rfl)
theorem Ha {Q} {l:List Int} {d:Option Addr} {c f p hd o k:Nat} {zs:List Nat} (hs:cG d c l W) (hl:l.length<4294967296) (hZ:et f zs W) (hn:zs.length=K) (b:1≤K∧K≤64) (q:∀z∈zs,z≤65536) (A:headN zs=hd) (u:0<hd) (j:cutA zs K=[o]) (he:k=if hd≤l.length then(if aK l o=hd then 0 else 5)else 4) (s:∀W',k≠0→Below W.heap.size W W'→Q (.returned (.tuple #[.slice none 0 0,.int .i64 (k:Int)])) W') (y:∀W' h m,k=0→Hid (d9 W.heap.size (.slice h K m) (fV zs l) W')→Below W.heap.size W W'→Q (.returned (.tuple #[.slice h K m,.int .i64 0])) W'):Calls prog 73 #[.slice d l.length c,.slice (some ⟨f,0,none⟩) K p] W Q:=by
 subst A;by_cases a:headN zs≤l.length
 ·rw[aj a]at he
  by_cases i:aK l o=headN zs
  ·rw[aj i]at he
   exact(uD l d c f zs K p W hs hZ hn b.1 b.2 q a u (by omega) 1 (by rw[j];rfl) (by decide) (by rw[j];exact(yk a).2 i)).mono fun _ W' ⟨⟨v,a,B⟩,e⟩=>by have r:d9 W.heap.size v (fV zs l) W':=Or.inr B;obtain⟨h,m,rfl⟩:=r.form;rw[a];rw[dO,hn]at r ⊢;exact y W' h m he r e
  ·rw[an i]at he
   subst he
   exact(uO l d c f zs K p W hs hZ hn b.1 b.2 q a u (by omega) 1 (by rw[j];rfl) (by decide) (by rw[j];exact fun g=>i ((yk a).1 g))).mono fun _ W' ⟨a,e⟩=>by rw[a];exact s W' (by decide) e
 ·rw[an a]at he
  subst he
  exact(uP l d c f zs K p W hZ hn b.1 b.2 q (by omega)).mono fun _ W' ⟨a,e⟩=>by rw[a];exact s W' (by decide) (e▸aP _ _)
end
def Hm {b a K c q g h v} (f:b.length=c) (e:q<K) (d:v= .int .u8 (h q)):(b++(ae K (fun _=> .u8) (sI g 0 q h)++a)).set (c+q) v=b++(ae K (fun _=> .u8) (sI g 0 (q+1) h)++a):=by subst f;rw[Au _ _ (Ct _ _),jH,Ot e d]
def Ho {K a g h}:ae K a (sI g 0 K h)=ae K a h:=bU fun k b=>by unfold sI;rw[aj (by omega),Nat.sub_zero]
def Tf {N b c f a x} (e:b<N) (d:c b= .u64):(ae N c f++a).set b (.int .u64 x)=ae N c (sI f b 1 fun _=>x)++a:=by have h:=LM (off:=b) (q:=0) (N:=N) (kd:=c) (f:=f) (h:=fun _=>x) (post:=a) (v:= .int .u64 x) (by omega) (by rw[Nat.add_zero,d];rfl);rw[xZ,Nat.add_zero,bY]at h;exact h
def sn {b o} (w a) (e:o.op= .buildSlice 63 5 a) (d:(a.toList.map fun p=>(p.1,b p.2))=[(0,.int .i64 8),(1,.int .i64 8),(2,.int .i64 32),(3,.int .i64 32),(4,.int .i64 0)]):
 (execOp b o).run prog w= .ok (.value (.slice (some ⟨w.heap.size,0,none⟩) 5 5)) (w.alloc (.cells (oC.map fun z:Nat=>Value.int .i64 (z:Int)).toArray 3)):=
 bj w 63 3 5 a e dZ (.int .i64 0) 1 oo (by decide) (by decide) [.int .i64 8,.int .i64 8,.int .i64 32,.int .i64 32,.int .i64 0] rfl d (fun u c=>by
  simp only[mF,vJ,vH]at c
  rcases c with rfl|rfl|rfl|rfl|rfl<;>rfl)
def sk {b o} (w a) (e:o.op= .buildSlice 63 2 a) (d:(a.toList.map fun p=>(p.1,b p.2))=[(0,.int .i64 0),(1,.int .i64 96)]):
 (execOp b o).run prog w= .ok (.value (.slice (some ⟨w.heap.size,0,none⟩) 2 2)) (w.alloc (.cells (ri.map fun z:Nat=>Value.int .i64 (z:Int)).toArray 3)):=
 bj w 63 3 2 a e dZ (.int .i64 0) 1 oo (by decide) (by decide) [.int .i64 0,.int .i64 96] rfl d (fun u c=>by
  simp only[mF,vJ,vH]at c
  rcases c with rfl|rfl<;>rfl)
def Nw (n:Nat) (a:Value) (u:Nat→Value):Act:={tmps:=#[u 0,u 1,.pointer (some ⟨n,0,none⟩),u 3,.pointer (some ⟨n+1,0,none⟩),a,u 6,u 7,u 8,u 9,u 10,u 11,u 12,u 13,u 14,u 15,u 16,u 17,u 18,u 19,u 20,u 21,u 22,u 23,u 24,u 25,u 26,u 27,u 28,u 29,u 30,u 31,u 32,u 33,u 34,u 35,u 36,u 37,u 38,u 39,u 40,u 41,u 42,u 43,u 44,u 45,u 46,u 47,u 48,u 49,u 50,u 51,u 52,u 53,u 54,u 55,u 56,u 57,u 58,u 59,u 60,u 61,u 62,u 63,u 64,u 65,u 66,u 67,u 68,u 69,u 70,u 71,u 72,u 73],defers:=[]}
def aac {a:Code} {n:Nat} {vP:Value} {Q A W} (h:∀u,a.wp prog Q (Nw n vP u) W) (b:A=Nw n vP (fun k=>A.tmps.getD k undef)):a.wp prog Q A W:=by rw[b];exact h _
def Tm {n:Nat} {a:Value} {Q:Exit→Act→World→Prop} {A:Act} {W:World} (h:∀b,Q .normal (Nw n a b) W) (c:A=Nw n a (fun k=>A.tmps.getD k undef)):Q .normal A W:=by
 have d:=h (fun k=>A.tmps.getD k undef)
 rwa [←c]at d
def lK7 (F) (hF:F=Tryz.f18) (Q n d c g t b k h a B w W u) (I:a.length=5) (H:a.getD 2 []=B) (E:B.length=32) (S:n+2≤b) (r:d.length=2) (D:d9 b (.slice k 5 h) a W) (z:B5 n dJ (d++(ae 32 (fun _=> .u8) g++c)) t w W) (A:∀l W',B5 n dJ (d++(ae 32 (fun _=> .u8) (fun j=>B.getD j 0)++c)) t w W'→Kp (n+2) W W'→Q .normal (Nw n (.slice k 5 h) l) W'):(pq 7 F).wp prog Q (Nw n (.slice k 5 h) u) W:=by
 have hS:=aa z;have hP:=aa D;have gQ:=aa A;have hB:=aa H;have G:=aa E;have Y1:=aa I;have s:=aa r;clear z A D H E I r;subst hF;simp only[pq,pc,pcAt,headAt,Tryz.f18,reduceIte,Nat.reduceEqDiff,Nat.reduceBEq,dR];unfold Nw;go_wp2
 go_loopw [7] (fun i wr=>∃q:Nat,q≤32∧i= .int .i64 (q:Int)∧B5 n dJ (d++(ae 32 (fun _=> .u8) (sI g 0 q fun j=>B.getD j 0)++c)) t w wr∧Kp (n+2) W wr) (fun i _=>32-(intOf i).toNat)
 case atStart=>exact⟨0,by omega,rfl,by rw[xZ];exact hS.out,Kp.refl _ _⟩
 case round=>
  obtain⟨q,R,rfl,f,e⟩:=hrel;have y:=aa f;have V:=aa e;rcases E_ R with m|e0
  ·obtain⟨g0,vb,cb,rfl,Y,o⟩:=oO (hP.out.kp e S) (by rw[Y1.out];decide) hB.out
   obtain⟨bq,O,M,rfl,X,P⟩:=Hb o.out (j:=q) (by rw[G.out];exact m);have T:q<B.length:=by rw[G.out];exact m
   clear f e o;have lt:decide ((q:Int)<(32:Int))=true:=by simp;omega
   go_wp2_with (first
    |refine aC 114 ?_;refine ab (by rfl) _ (ai _ 114 39 _ _ rfl cV 1 dv g0 0 5 h rfl .i64 2 rfl (by decide) 2 (by omega)) ?_
    |refine ag 39 ?_;refine dq (v:=(.slice (some ⟨bq,O,none⟩) B.length cb)) Y.out bF ?_ rfl rfl rfl rfl
    |refine aC 39 ?_;refine OX rfl rfl T ?_
    |refine ag 5 ?_;refine OW rfl X.out ?_
    |refine al 5 ?_;refine Il (v:= .int .u8 M) y.out.hX (p:=2+q) (by simp only[bM,ac,s.out];omega) GY rfl rfl rfl ?_;intro W8 h1 L;have jG:=aa (y.out.rj L h1);have U:=aa (V.out.apart L (by omega)))
   have J:=jG.out;rw[Hm s.out m (by rw[P.out])]at J;exact⟨⟨q+1,by omega,by go_num,J,U.out⟩,by simp[intOf];omega⟩
  ·subst e0
   go_wp2;rw[Ho]at f;exact Tm (fun l=>gQ.out l _ f e) (by kernel_rfl)
def agC (F) (hF:F=Tryz.f18) (Q n d c g t b k h a B w W u) (I:a.length=5) (H:a.getD 3 []=B) (E:B.length=32) (S:n+2≤b) (r:d.length=34) (D:d9 b (.slice k 5 h) a W) (z:B5 n dJ (d++(ae 32 (fun _=> .u8) g++c)) t w W) (A:∀l W',B5 n dJ (d++(ae 32 (fun _=> .u8) (fun j=>B.getD j 0)++c)) t w W'→Kp (n+2) W W'→Q .normal (Nw n (.slice k 5 h) l) W'):(pq 11 F).wp prog Q (Nw n (.slice k 5 h) u) W:=by
 have hS:=aa z;have hP:=aa D;have gQ:=aa A;have hB:=aa H;have G:=aa E;have Y1:=aa I;have s:=aa r;clear z A D H E I r;subst hF;simp only[pq,pc,pcAt,headAt,Tryz.f18,reduceIte,Nat.reduceEqDiff,Nat.reduceBEq,dR];unfold Nw;go_wp2
 go_loopw [8] (fun i wr=>∃q:Nat,q≤32∧i= .int .i64 (q:Int)∧B5 n dJ (d++(ae 32 (fun _=> .u8) (sI g 0 q fun j=>B.getD j 0)++c)) t w wr∧Kp (n+2) W wr) (fun i _=>32-(intOf i).toNat)
 case atStart=>exact⟨0,by omega,rfl,by rw[xZ];exact hS.out,Kp.refl _ _⟩
 case round=>
  obtain⟨q,R,rfl,f,e⟩:=hrel;have y:=aa f;have V:=aa e;rcases E_ R with m|e0
  ·obtain⟨g0,vb,cb,rfl,Y,o⟩:=oO (hP.out.kp e S) (by rw[Y1.out];decide) hB.out
   obtain⟨bq,O,M,rfl,X,P⟩:=Hb o.out (j:=q) (by rw[G.out];exact m);have T:q<B.length:=by rw[G.out];exact m
   clear f e o;have lt:decide ((q:Int)<(32:Int))=true:=by simp;omega
   go_wp2_with (first
    |refine aC 114 ?_;refine ab (by rfl) _ (ai _ 114 39 _ _ rfl cV 1 dv g0 0 5 h rfl .i64 3 rfl (by decide) 3 (by omega)) ?_
    |refine ag 39 ?_;refine dq (v:=(.slice (some ⟨bq,O,none⟩) B.length cb)) Y.out bF ?_ rfl rfl rfl rfl
    |refine aC 39 ?_;refine OX rfl rfl T ?_
    |refine ag 5 ?_;refine OW rfl X.out ?_
    |refine al 5 ?_;refine Il (v:= .int .u8 M) y.out.hX (p:=34+q) (by simp only[bM,ac,s.out];omega) GY rfl rfl rfl ?_;intro W8 h1 L;have jG:=aa (y.out.rj L h1);have U:=aa (V.out.apart L (by omega)))
   have J:=jG.out;rw[Hm s.out m (by rw[P.out])]at J;exact⟨⟨q+1,by omega,by go_num,J,U.out⟩,by simp[intOf];omega⟩
  ·subst e0
   go_wp2;rw[Ho]at f;exact Tm (fun l=>gQ.out l _ f e) (by kernel_rfl)
def aak (F) (h:F=Tryz.f18):(Tryz.f18).body=some (.seq (pc 0 Tryz.f18) (.seq (pc 1 Tryz.f18) (.seq (pc 2 Tryz.f18) (.seq (pc 3 Tryz.f18) (.seq (pc 5 Tryz.f18) (.seq (pc 6 Tryz.f18) (tq 7 F))))))):=by
 subst h
 kernel_rfl
def cR7 (F) (h:F=Tryz.f18):tq 7 F= .seq (pq 7 F) (tq 11 F):=by
 subst h
 kernel_rfl
def ahq (F) (h:F=Tryz.f18):tq 11 F= .seq (pq 11 F) (tq 15 F):=by
 subst h
 kernel_rfl
def agl (r F) (hF:F=Tryz.f18) (R n f b y s a B h w m u) (U:a.length=5) (I:a.getD 4 []=B) (k:B.length<4294967296) (H:d9 b (.slice y 5 s) a m) (G:B5 n dJ (ae 66 (kdF jv) f++bK) 50 w m) (D:jY r B=h) (A:h≠0→∀W',Below n w W'→R (.returned (.tuple #[.agg dJ.toArray,.int .i64 (h:Int)])) W') (z:h=0→∀e W',Below n w W'→xP (st r B) (n+2) e W'→R (.returned (.tuple #[.agg (ae 66 (kdF jv) f++e).toArray,.int .i64 0])) W'):(tq 15 F).wp prog (bodyPost prog Tryz.f18 R) (Nw n (.slice y 5 s) u) m:=by
 obtain⟨Y,M,cb,rfl,S,P⟩:=oO H (by rw[U];decide) I;have c:=aa G;have X:=aa A;have V:=aa z;have T:=aa k;have Q:=aa D;clear G A z H I k D;subst hF;simp only[tq,tlAt,headAt,Tryz.f18,reduceIte,Nat.reduceEqDiff,Nat.reduceBEq,dR];unfold Nw;rcases E' h with L|L
 case' inl=>subst L
 case' inr=>have t8:((h:Int) !=0)=true:=by simp;omega
 all_goals
  go_wp2_with (first
   |refine aC 114 ?_;refine ab (by rfl) _ (ai _ 114 39 _ _ rfl cV 1 dv Y 0 5 s rfl .i64 4 rfl (by decide) 4 (by omega)) ?_
   |refine ag 39 ?_;refine dq (v:=(.slice M B.length cb)) S.out bF ?_ rfl rfl rfl rfl
   |with_reducible refine xx.mJ (RO r).2 P.out T.out Q.out ?_
    intro W2 e d E;have hN:=c.out.hz;have g:=c.out.later E;replace c:=aa g;have o:=aa (Kp.refl (n+2) W2);clear g E
   |refine al 38 ?_;refine yB rfl 38 _ _ rfl 66 rfl e rfl (by rw[ah tl,i8.len d.out];rfl) (i8.one d.out) c.out (ae 66 (kdF jv) f) bK [] (by rw[fZ]) (ac _ _ _) (by rw[i8.len d.out];rfl) (fun W7 g J=>?_)
    rw[fZ]at g;replace o:=aa (o.out.apart J (by omega));clear c J;have c:=g;clear g
   |refine cZ 50 ?_;refine ab (by rfl) _ (ui _ rfl) ?_
   |refine ag 50 ?_;refine ab (by rfl) _ (ay _ 50 _ (by rfl) (n+1) (by rfl) _ _ (0,0) _ c.out.hX pn rfl (by rw[ah i7,cI,bM,ac,i8.len d.out];rfl)) ?_
   |refine al 50 ?_;refine aH rfl fun K i=>wp_store_row 50 _ _ rfl n rfl dJ.toArray rfl (jP (gD.one (kq 0 m))) (by rw[ah i7];rfl) _ 50 c.out.hR rfl (fun j p l=>i _ _ ?_);clear i K
   |refine al 50 ?_;refine aH rfl fun K i=>wp_store_row 50 _ _ rfl n rfl (ae 66 (kdF jv) f++e).toArray rfl (jP fun v O=>(iD.1 O).elim (cl v) (i8.one d.out v)) (by rw[ah i7,cI,bM,ac,i8.len d.out];rfl) _ 50 c.out.hR (by show _=(ae 66 (kdF jv) f++e).length;rw[bM,ac,i8.len d.out];rfl) (fun j p l=>i _ _ ?_);clear i K)
 ·have q:Below n w j:=l.below c.out.hB bG (by have:=c.out.hz;omega)
  exact aI rfl n 0 dJ _ rfl (aE p) pn rfl (by rw[ah i7];rfl) rfl (X.out (by omega) j q)
 ·have q:Below n w j:=l.below c.out.hB bG (by have:=c.out.hz;omega)
  exact aI rfl n 0 _ _ rfl (aE p) pn rfl (by rw[ah i7,bM,ac,i8.len d.out];rfl) rfl (V.out (by trivial) e j q (i8.low (i8.kp d.out (o.out.apart l (by omega)) (by omega)) (by omega)))
def Xf (l):(fV oC l).getD 0 []=(l.drop 0).take 8∧(fV oC l).getD 1 []=(l.drop 8).take 8∧(fV oC l).getD 2 []=(l.drop 16).take 32∧(fV oC l).getD 3 []=(l.drop 48).take 32∧(fV oC l).getD 4 []=(l.drop (aK l 80)).take (l.length-aK l 80):=by
 refine⟨?_,?_,?_,?_,?_⟩
 ·rw[fN _ _ _ (by decide)];rfl
 ·rw[fN _ _ _ (by decide)];rfl
 ·rw[fN _ _ _ (by decide)];rfl
 ·rw[fN _ _ _ (by decide)];rfl
 ·rw[fN _ _ _ (by decide)];rfl
def aao {l b a} (e:b=(l.drop 0).take 8) (d:a=(l.drop 8).take 8):∀k,k<2→sI (sI (fun _=>0) 0 1 fun _=>p9 b) 1 1 (fun _=>p9 a) k=rdF jv l k:=by
 subst e;subst d;intro k c
 match k,c with
 |0,_=>rfl
 |1,_=>rfl
def X9 (f):ae 32 (fun j=>kdF jv (2+(32+j))) f=ae 32 (fun _=> .u8) f:=Fd fun j a=>by have h:=bB (kd:=kdF jv) (off:=34) (len:=32) (ii:=fun _=> .u8) rfl j (rW.1 a);show (kdF jv (2+(32+j))).mk (f j)=_;rw[show 2+(32+j)=34+j by omega,h]
def Xe {l a} (f) (c:∀k,k<2→f k=rdF jv l k):ae 2 (kdF jv) f++(ae 32 (fun _=> .u8) (fun j=>((l.drop 16).take 32).getD j 0)++(ae 32 (fun _=> .u8) (fun j=>((l.drop 48).take 32).getD j 0)++a))=ae 66 (kdF jv) (rdF jv l)++a:=by
 rw[show (66:Nat)=2+(32+32)from rfl,jn (ii:=fun _=> .u8) (bB rfl),bU c,show ae 32 (fun _=> .u8) (fb (rdF jv l) 2)=ae 32 (fun _=> .u8) (fun j=>((l.drop 16).take 32).getD j 0)from bU fun j b=>by
  rw[bA _ _ _ _ b]
  exact(rx (n:=32) jv l 2 16 (by decide) j b).2]
 rw[X9,show ae 32 (fun _=> .u8) (fb (rdF jv l) (2+32))=ae 32 (fun _=> .u8) (fun j=>((l.drop 48).take 32).getD j 0)from bU fun j b=>by
  rw[bA _ _ _ _ b]
  exact(rx (n:=32) jv l 34 48 (by decide) j b).2]
 simp only[dA]
def AT (r):xx vU 18 (xi r) (mb r):=fun l va c w J fq=>by
 have hl:=fq.out;obtain⟨d,Q⟩:∃d,d=(w.alloc (.cells dJ.toArray 50)).alloc (.cells dJ.toArray 50):=⟨_,rfl⟩;have U:=B5.start Q;have Al:d.heap.size=w.heap.size+2:=by rw[Q];simp
 have T:Below d.heap.size d (d.alloc (.cells (oC.map fun z:Nat=>Value.int .i64 (z:Int)).toArray 3)):=dt;have hS:=aa (U.later T);have hs:=aa ((J.out.later U.hB).later T);have hZ:=aa (show et (w.heap.size+1+1) oC (d.alloc (.cells (oC.map fun z:Nat=>Value.int .i64 (z:Int)).toArray 3))from ak _ _ _ _ (by rw[Al]));have m:w.heap.size+2≤(d.alloc (.cells (oC.map fun z:Nat=>Value.int .i64 (z:Int)).toArray 3)).heap.size:=by rw[bn];omega
 obtain⟨E,a⟩:∃E,E=if 84≤l.length then(if aK l 80=84 then 0 else 5)else 4:=⟨_,rfl⟩
 have Lb:=aa a;clear J U T Al fq;subst Q;obtain⟨F,X⟩:∃F,F=Tryz.f18:=⟨_,rfl⟩;refine tf func18 (aak F X) ?_;have hF:=aa X;clear X;simp only[ntmps18,cI,List.length_cons,List.length_nil,Nat.reduceAdd,Nat.reduceSub,oK,Array.replicate_zero,oG,oJ,List.nil_append,List.cons_append];simp only[pc,pcAt,headAt,Tryz.f18,reduceIte,Nat.reduceEqDiff,Nat.reduceBEq,dR];by_cases G:E=0
 ·have Nv:84≤l.length∧aK l 80=84:=by
   rw[G]at a;by_cases ha:84≤l.length
   ·rw[aj ha]at a
    by_cases b:aK l 80=84
    ·exact⟨ha,b⟩
    ·rw[an b]at a;exact absurd a (by decide)
   ·rw[an ha]at a;exact absurd a (by decide)
  have B:=aa (Xf l);have P:=aa (show ((l.drop 0).take 8).length=8 by rw[cf,bJ];omega);have O:=aa (show ((l.drop 8).take 8).length=8 by rw[cf,bJ];omega);have g:mb r l=jY r (l.drop 84):=by unfold mb;rw[aj Nv.1,aj Nv.2]
  clear a;obtain⟨y,S⟩:∃y,y=(l.drop 0).take 8:=⟨_,rfl⟩;obtain⟨s,R⟩:∃s,s=(l.drop 8).take 8:=⟨_,rfl⟩;have H:=aa S;have jX:=aa R;rw[←S]at P;rw[←R]at O;clear S R
  go_wp2_with (first
   |refine ao 50 ?_;refine fX 2 uA ?_
   |refine ao 50 ?_;refine fX 4 uA ?_
   |refine aV 63 ?_;refine aH rfl fun K f=>bV _ (sn _ _ (by rfl) (by rfl)) (f _ _ ?_);clear f K
   |refine Ha (zs:=oC) (hd:=84) (o:=80) hs.out hl hZ.out rfl (by decide) (by decide) rfl (by decide) rfl Lb.out (fun W' h=>absurd G h) (fun W3 vz M _ hP b=>?_)
    have q:=aa (hS.out.later b);obtain⟨g0,v0,c0,rfl,fM,J⟩:=oO hP.out (by rw[dO];decide) (B.out.1.trans H.out.symm);skip
   |((with_reducible refine aC 114 ?_);first|refine ab (by rfl) _ (ai _ 114 39 _ _ rfl cV 1 dv g0 0 5 M rfl .i64 0 rfl (by decide) 0 (by omega)) ?_|refine ab (by rfl) _ (ai _ 114 39 _ _ rfl cV 1 dv g0 0 5 M rfl .i64 1 rfl (by decide) 1 (by omega)) ?_)
   |refine ag 39 ?_;refine dq (v:=(.slice v0 y.length c0)) fM.out bF ?_ rfl rfl rfl rfl;simp only[P.out]
   |refine ag 39 ?_;refine dq (v:=(.slice v1 s.length c1)) aS.out bF ?_ rfl rfl rfl rfl;simp only[O.out]
   |with_reducible refine Fn ⟨J.out,P.out⟩ ?_
   |with_reducible refine Fn ⟨pz.out,O.out⟩ ?_
   |refine al 26 ?_;refine Il (v:= .int .u64 (p9 y)) (p:=0) q.out.hX (by decide) rq rfl rfl rfl ?_;intro W5 h1 D
    have BW:=aa (q.out.rj D h1);have pA:=aa ((Kp.refl (w.heap.size+2) W3).apart D (by omega));have sG:=aa (hP.out.kp pA.out m);obtain⟨g1,v1,c1,eg,aS,pz⟩:=oO sG.out (by rw[dO];decide) (B.out.2.1.trans jX.out.symm);cases eg
   |refine al 26 ?_;refine Il (v:= .int .u64 (p9 s)) (p:=1) BW.out.hX (by rw[NH];decide) rq rfl rfl rfl ?_;intro W6 h1 D
    have Vi:=aa (BW.out.rj D h1)
    have V:=aa (sG.out.kp ((Kp.refl (w.heap.size+2) W5).apart D (by omega)) m))
  refine aac (n:=w.heap.size) (vP:= .slice (some ⟨g0,0,none⟩) 5 M) (fun u=>?_) (by kernel_rfl);obtain⟨A,Eo⟩:∃A:Nat→Int,A=sI (sI (fun _=>0) 0 1 fun _=>p9 y) 1 1 fun _=>p9 s:=⟨_,rfl⟩;have i:=Vi.out
  rw[show (dJ.set 0 (.int .u64 (p9 y))).set 1 (.int .u64 (p9 s))=ae 2 (kdF jv) A++(ae 32 (fun _=> .u8) (fb A 2)++(ae 32 (fun j=>kdF jv (2+(32+j))) (fb A (2+32))++bK)) by
   show ((ae 66 (kdF jv) (fun _=>0)++bK).set 0 _).set 1 _=_;rw[Tf (by decide) rfl,Tf (by decide) rfl,←Eo,show (66:Nat)=2+(32+32)from rfl,jn (ii:=fun _=> .u8) (bB rfl)]
   simp only[dA]]at i
  rw[cR7 F hF.out];refine ij ?_;refine lK7 F hF.out _ _ _ _ _ _ _ _ _ _ _ _ _ u (by rw[dO];rfl) B.out.2.2.1 (by rw[cf,bJ];omega) m (ac _ _ _) V.out i ?_;intro u W7 i I;show (tq 11 F).wp prog _ (Nw w.heap.size _ u) W7;rw[←dA,X9]at i;rw[ahq F hF.out];refine ij ?_;refine agC F hF.out _ _ _ _ _ _ _ _ _ _ _ _ _ u (by rw[dO];rfl) B.out.2.2.2.1 (by rw[cf,bJ];omega) m (by rw[bM,ac,ac]) (V.out.kp I m) i ?_;intro u W8 i hk8;show (tq 15 F).wp prog _ (Nw w.heap.size _ u) W8;rw[dA,Xe A (fun k hk=>by rw[Eo];exact aao H.out jX.out k hk)]at i
  have h4:(fV oC l).getD 4 []=l.drop 84:=by rw[B.out.2.2.2.2,Nv.2];exact kL (by rw[bJ];omega)
  refine agl r F hF.out _ _ _ _ _ _ _ _ (jY r (l.drop 84)) w W8 u (by rw[dO];rfl) h4 (by rw[bJ];omega) ((V.out.kp I m).kp hk8 m) i rfl (fun L W' Y=>?_) (fun L ds W' Y hO=>?_)
  ·have e:xi r l=Lz:=an (by rw[g];exact L)
   exact⟨⟨_,by rw[g],by rw[e];exact kq _ _⟩,Y⟩
  ·have e:xi r l=⟨rdF jv l,st r (l.drop 84)⟩:=aj (by rw[g];exact L)
   exact⟨⟨_,by rw[g,L];rfl,by rw[e];exact⟨ds,rfl,i8.low hO (by omega)⟩⟩,Y⟩
 ·have t9:((E:Int) !=0)=true:=by simp;omega
  have g:mb r l=E:=by
   unfold mb;by_cases ha:84≤l.length
   ·rw[aj ha]at a ⊢
    by_cases b:aK l 80=84
    ·rw[aj b]at a;exact absurd a G
    ·rw[an b]at a ⊢;exact a.symm
   ·rw[an ha]at a ⊢;exact a.symm
  have e:xi r l=Lz:=an (by rw[g];exact G);rw[g,e];clear a g e
  go_wp2_with (first
   |refine ao 50 ?_;refine fX 2 uA ?_
   |refine ao 50 ?_;refine fX 4 uA ?_
   |refine aV 63 ?_;refine aH rfl fun K f=>bV _ (sn _ _ (by rfl) (by rfl)) (f _ _ ?_);clear f K
   |refine Ha (zs:=oC) (hd:=84) (o:=80) hs.out hl hZ.out rfl (by decide) (by decide) rfl (by decide) rfl Lb.out (fun W3 _ b=>?_) (fun W' vz M h=>absurd h G);have q:=aa (hS.out.later b)
   |refine ag 50 ?_;refine ab (by rfl) _ (ay _ 50 _ (by rfl) (w.heap.size+1) (by rfl) _ _ (0,0) _ q.out.hX pn rfl (by rw[ah i7];rfl)) ?_
   |refine al 50 ?_;refine aH rfl fun K f=>wp_store_row 50 _ _ rfl w.heap.size rfl _ rfl (jP (gD.one (kq 0 w))) (by rw[ah i7];rfl) _ 50 q.out.hR rfl (fun W9 Id xm=>f _ _ ?_);clear f K)
  exact aI rfl w.heap.size 0 dJ _ rfl (aE Id) pn rfl (by rw[ah i7];rfl) rfl ⟨⟨_,rfl,kq _ _⟩,xm.below q.out.hB bG (by have:=q.out.hz;omega)⟩
end Go.Proofs.YtjeoeibdgciafaaGreatDoor
