/- What the operations of a program do, shown once for all programs; and numbers. -/
import Derived.Test.YtffgbjbmojdeeaaGreatDoorVm4
import Derived.Orders
import Derived.OrdersIn
import Derived.LoopNIn
import Derived.RangeFuncIn
set_option linter.constructorNameAsVariable false
set_option linter.unusedVariables false
set_option linter.unusedSimpArgs false
set_option linter.unnecessarySimpa false
noncomputable section
namespace Go.Vm
open Go.RowKit
variable {P:Program} {T:TT} {c:F1} {e:A8} {of:Nat→Option Ob}
def P6 (kv:V):List (V×V×Bool)→Bool
 | []=>false
 | p::r=>P7 p.1 kv||P6 kv r
def A0W (kv:V):List (V×V×Bool)→V
 | []=>.n
 | p::r=>bif P7 p.1 kv then p.2.1 else A0W kv r
def A1f (kv:V):List (V×V×Bool)→Bool
 | []=>true
 | p::r=>bif P7 p.1 kv then p.2.2 else A1f kv r
def A0h (kv:V):List (V×V×Bool)→List (V×V×Bool)
 | []=>[]
 | p::r=>bif P7 p.1 kv then A0h kv r else p::A0h kv r
def A04 (kv x:V) (q:Bool) (es:List (V×V×Bool)):List (V×V×Bool):=(kv,x,q)::A0h kv es
def C2O (es:List (V×V×Bool)):List (V×A):=es.map fun p=>(p.1,A.x)
theorem M5 (kv:V):∀ es:List (V×V×Bool),A0h kv es=es.filter fun p=>!P7 p.1 kv:=by
 intro es
 induction es with
 | nil=>rfl
 | cons p r ih =>
  simp only [A0h,List.filter_cons]
  cases P7 p.1 kv
  ·simp [ih]
  ·simp [ih]
theorem B6O {kv:V}:∀ {es:List (V×V×Bool)},(∀ p∈es,p.1≠kv)→P6 kv es=false:=by
 intro es
 induction es with
 | nil=>intro _;rfl
 | cons p r ih =>
  intro h
  have:P7 p.1 kv=false:=by rw [← Bool.not_eq_true,F0];exact h p (by simp)
  simp only [P6,this,ih (fun q hq=>h q (by simp [hq])),Bool.or_self]
theorem B4u {kv x:V} {q:Bool}:∀ {es:List (V×V×Bool)},(es.map (·.1)).Nodup→(kv,x,q)∈es→P6 kv es=true∧A0W kv es=x∧A1f kv es=q:=by
 intro es
 induction es with
 | nil=>intro _ h;cases h
 | cons p r ih =>
  intro hn h
  simp only [List.map_cons,List.nodup_cons] at hn
  rcases List.mem_cons.1 h with rfl | h
  ·simp only [P6,A0W,A1f,A0D,Bool.true_or,cond_true,and_self]
  ·have hne:p.1≠kv:=fun q=>hn.1 (by rw [q];exact List.mem_map.2 ⟨_,h,rfl⟩)
   have:P7 p.1 kv=false:=by rw [← Bool.not_eq_true,F0];exact hne
   simp only [P6,A0W,A1f,this,Bool.false_or,cond_false]
   exact ih hn.2 h
theorem X8 {kv:V} {es:List (V×V×Bool)} (h:∀ p∈es,p.1≠kv):(es.filter fun p=>!P7 p.1 kv)=es:=by
 rw [List.filter_eq_self]
 intro p hp
 have:P7 p.1 kv=false:=by rw [← Bool.not_eq_true,F0];exact h p hp
 rw [this];rfl
theorem A0r {kv:V} {a:V×Bool}:∀ {es:List (V×V×Bool)} {i:Nat},(es.map (·.1)).Nodup→es[i]? = some (kv,a)→(es.filter fun p=>!P7 p.1 kv)=es.eraseIdx i:=by
 intro es
 induction es with
 | nil=>intro i _ h;simp at h
 | cons p r ih =>
  intro i hn hi
  obtain ⟨k,b⟩:=p
  simp only [List.map_cons,List.nodup_cons] at hn
  cases i with
  | zero =>
   simp only [List.getElem?_cons_zero,C3q,Prod.mk.injEq] at hi
   obtain ⟨rfl,rfl⟩:=hi
   rw [List.filter_cons_of_neg (by simp [A0D]),List.eraseIdx_cons_zero]
   exact X8 (fun p hp q=>hn.1 (by rw [← q];exact List.mem_map.2 ⟨p,hp,rfl⟩))
  | succ i =>
   have hi':r[i]? = some (kv,a):=by simpa using hi
   have hne:k≠kv:=fun q=>hn.1 (by rw [q];exact List.mem_map.2 ⟨_,List.mem_of_getElem? hi',rfl⟩)
   have:P7 k kv=false:=by rw [← Bool.not_eq_true,F0];exact hne
   rw [List.filter_cons_of_pos (by simp [this]),List.eraseIdx_cons_succ,ih hn.2 hi']
theorem B16 {p p0:V×V×Bool}:∀ {es:List (V×V×Bool)} {i:Nat},es[i]? = some p0→(es.set i p).Perm (p::es.eraseIdx i):=by
 intro es
 induction es with
 | nil=>intro i h;simp at h
 | cons q r ih =>
  intro i hi
  cases i with
  | zero=>simp
  | succ i =>
   rw [List.set_cons_succ,List.eraseIdx_cons_succ]
   exact ((ih (by simpa using hi)).cons q).trans (List.Perm.swap _ _ _)
theorem A2t {α:Type}:∀ {l:List α} {i:Nat} {x:α},l[i]? = some x→l.set i x=l:=by
 intro l
 induction l with
 | nil=>intro i x h;simp at h
 | cons y r ih =>
  intro i x h
  cases i with
  | zero=>simp at h;subst h;rfl
  | succ i=>rw [List.set_cons_succ,ih (by simpa using h)]
variable {a kt st el:Nat} {ho:Option V} {es:List (V×V×Bool)} {ms:List MapEntry} {bs:List Nat}
theorem A0z.key {p:V×V×Bool} {m:MapEntry} (h:A0z T e a kt st el ho p m bs):E2 T e (.v kt p.1) m.key:=by
 cases h<;>assumption
theorem A0z.val {p:V×V×Bool} {m:MapEntry} (h:A0z T e a kt st el ho p m bs):one m.val=true:=by
 cases h with
 | lent _ h2 _=>exact h2
 | data _ h2=>exact h2.one _ (by simp)
 | own _ h2=>rw [h2];rfl
theorem SR.mr (hk:B2 T st=some (.slice el)) (hz:B1 T st=1) (h:SR T e a kt st el ho es ms bs):MR T e kt st (C2O es) ms:=by
 induction h with
 | nil=>exact .nil
 | cons h1 _ _ ih=>exact .cons h1.key trivial (by simp [B6,Q7,hk,hz,TK.agg]) ih
theorem SR.pull (h:SR T e a kt st el ho es ms bs):∀ {i:Nat} {p:V×V×Bool} {m:MapEntry},es[i]? = some p→ms[i]? = some m →
  ∃ bs0 cs,A0z T e a kt st el ho p m bs0∧SR T e a kt st el ho (es.eraseIdx i) (ms.eraseIdx i) cs∧(∀ b∈bs0,b ∉ cs)∧(∀ b,b∈bs0∨b∈cs→b∈bs):=by
 induction h with
 | nil=>intro i p m h;simp at h
 | @cons p0 r m0 ms bs0 cs h1 h2 h3 ih =>
  intro i p m hp hm
  cases i with
  | zero =>
   simp only [List.getElem?_cons_zero,C3q] at hp hm
   subst hp;subst hm
   exact ⟨bs0,cs,h1,h3,h2,fun b hb=>C3y.2 hb⟩
  | succ i =>
   obtain ⟨b1,c1,g1,g2,g3,g4⟩:=ih (by simpa using hp) (by simpa using hm)
   refine ⟨b1,bs0++c1,g1,.cons h1 (fun b hb hc=>h2 b hb (g4 b (.inr hc))) g2,fun b hb hc=>?_,fun b hb=>?_⟩
   ·rcases C3y.1 hc with hc | hc
    ·exact h2 b hc (g4 b (.inl hb))
    ·exact g3 b hb hc
   ·rcases hb with hb | hb
    ·exact C3y.2 (.inr (g4 b (.inl hb)))
    ·rcases C3y.1 hb with hb | hb
     ·exact C3y.2 (.inl hb)
     ·exact C3y.2 (.inr (g4 b (.inr hb)))
theorem SR.putAt:∀ {es:List (V×V×Bool)} {ms:List MapEntry} {i:Nat} {p p0:V×V×Bool} {m m0:MapEntry} {bs0 cs:List Nat},es[i]? = some p0→ms[i]? = some m0→SR T e a kt st el ho (es.eraseIdx i) (ms.eraseIdx i) cs→A0z T e a kt st el ho p m bs0→(∀ b∈bs0,b ∉ cs) →
  ∃ bs',SR T e a kt st el ho (es.set i p) (ms.set i m) bs'∧∀ b∈bs',b∈bs0∨b∈cs:=by
 intro es
 induction es with
 | nil=>intro ms i p p0 m m0 bs0 cs h;simp at h
 | cons q r ih =>
  intro ms i p p0 m m0 bs0 cs hp hm h he hd
  cases ms with
  | nil=>simp at hm
  | cons n ms =>
   cases i with
   | zero=>exact ⟨bs0++cs,.cons he hd h,fun b hb=>C3y.1 hb⟩
   | succ i =>
    simp only [List.eraseIdx_cons_succ] at h
    cases h with
    | @cons _ _ _ _ b1 c1 h1 h2 h3 =>
     obtain ⟨b',g1,g2⟩:=ih (by simpa using hp) (by simpa using hm) h3 he (fun b hb hc=>hd b hb (C3y.2 (.inr hc)))
     refine ⟨b1++b',.cons h1 (fun b hb hc=>?_) g1,fun b hb=>?_⟩
     ·rcases g2 b hc with hc | hc
      ·exact hd b hc (C3y.2 (.inl hb))
      ·exact h2 b hb hc
     ·rcases C3y.1 hb with hb | hb
      ·exact .inr (C3y.2 (.inl hb))
      ·exact (g2 b hb).imp id (fun hb=>C3y.2 (.inr hb))
theorem A0z.rho {ho':Option V} {p:V×V×Bool} {m:MapEntry} (h:A0z T e a kt st el ho p m bs) (hn:ho≠some p.1):A0z T e a kt st el ho' p m bs:=by
 cases h with
 | lent _ _ h3=>exact absurd h3 hn
 | data h1 h2=>exact .data h1 h2
 | own h1 h2 h0 h3 h5 h6 h7 h8 h9 h10 h11 h12=>exact .own h1 h2 h0 h3 h5 h6 h7 h8 h9 h10 h11 h12
theorem SR.rho {ho':Option V} (h:SR T e a kt st el ho es ms bs):(∀ p∈es,ho≠some p.1)→SR T e a kt st el ho' es ms bs:=by
 induction h with
 | nil=>intro _;exact .nil
 | cons h1 h2 _ ih=>intro hn;exact .cons (h1.rho (hn _ (by simp))) h2 (ih (fun p hp=>hn p (by simp [hp])))
theorem SR.snoc {p:V×V×Bool} {m:MapEntry} {bs0:List Nat} (h:SR T e a kt st el ho es ms bs):A0z T e a kt st el ho p m bs0→(∀ b∈bs0,b ∉ bs)→∃ bs',SR T e a kt st el ho (es++[p]) (ms++[m]) bs'∧∀ b∈bs',b∈bs0∨b∈bs:=by
 induction h with
 | nil=>intro he _;exact ⟨bs0++[],.cons he (fun b _ hc=>by cases hc) .nil,fun b hb=>.inl (by simpa using hb)⟩
 | @cons q r n ms b1 c1 h1 h2 h3 ih =>
  intro he hd
  obtain ⟨b',g1,g2⟩:=ih he (fun b hb hc=>hd b hb (C3y.2 (.inr hc)))
  refine ⟨b1++b',.cons h1 (fun b hb hc=>?_) g1,fun b hb=>?_⟩
  ·rcases g2 b hc with hc | hc
   ·exact hd b hc (C3y.2 (.inl hb))
   ·exact h2 b hb hc
  ·rcases C3y.1 hb with hb | hb
   ·exact .inr (C3y.2 (.inl hb))
   ·exact (g2 b hb).imp id (fun hb=>C3y.2 (.inr hb))
theorem SR.find (hT:F4 T P) {kv:V} {key:Value} (hk:B2 T st=some (.slice el)) (hz:B1 T st=1) (hf:eqT T EQD kt=true) (hy:B3 T e (.v kt kv) key) (w:World) (h:SR T e a kt st el ho es ms bs) :
  ∃ r,(Instr.findKey kt key ms).run P w=.ok r w∧((r=none∧∀ p∈es,p.1≠kv)∨∃ i m p,r=some (i,m.val)∧ms[i]? = some m∧es[i]? = some p∧p.1=kv):=by
 obtain ⟨r,g1,g2⟩:=A33 hT hf hy w (h.mr hk hz)
 refine ⟨r,g1,?_⟩
 cases r with
 | none=>exact .inl ⟨rfl,fun p hp=>g2 (p.1,A.x) (List.mem_map.2 ⟨p,hp,rfl⟩)⟩
 | some q =>
  obtain ⟨k,v⟩:=q
  obtain ⟨j,m,a,h1,h2,h3,h4⟩:=g2
  rw [Nat.zero_add] at h1
  subst h1;subst h4
  rw [C2O,List.getElem?_map] at h3
  cases hj:es[k]? with
  | none=>rw [hj] at h3;cases h3
  | some p =>
   rw [hj] at h3
   injection h3 with h3;injection h3 with h3 _
   exact .inr ⟨_,m,p,rfl,h2,hj,h3⟩
theorem A4x {id:Nat} (h:A5 T c e of) (hof:of id=some (.sm kt st el es ho)):e.U id∧e.bn id=0∧B2 T st=some (.slice el)∧B1 T st=1∧0 < B1 T el∧∃ b ms clock,e.ι id=some (b,0)∧e.w.heap[b]? = some (.map ms clock)∧((es.map (·.1)).Nodup∧StB ms clock)∧∃ es' bs,es'.Perm es∧SR T e b kt st el ho es' ms.toList bs:=h.ok _ _ hof
def A2Z (of:Nat→Option Ob) (m:A):Option (Nat×Nat×Nat×Nat×List (V×V×Bool)×Option V) :=
 match m with
 | .m id=>match of id with
  | some (.sm kt st el es ho)=>some (id,kt,st,el,es,ho)
  | _=>none
 | _=>none
theorem A1A {m:A} {id:Nat} (h:A2Z of m=some (id,kt,st,el,es,ho)):m=.m id∧of id=some (.sm kt st el es ho):=by
 unfold A2Z at h
 split at h<;>try (cases h;done)
 split at h<;>try (cases h;done)
 cases h
 exact ⟨rfl,by assumption⟩
theorem A2u (hT:F4 T P) {id:Nat} {kv:V} {key:Value} (h:A5 T c e of) (hof:of id=some (.sm kt st el es ho)) (hf:eqT T EQD kt=true) (hy:B3 T e (.v kt kv) key) :
  ∃ b ms clock es' bs,e.ι id=some (b,0)∧e.w.heap[b]? = some (.map ms clock)∧StB ms clock∧es'.Perm es∧(es.map (·.1)).Nodup∧(es'.map (·.1)).Nodup∧SR T e b kt st el ho es' ms.toList bs ∧
   (((Instr.findKey kt key ms.toList).run P e.w=.ok none e.w∧P6 kv es=false∧∀ p∈es',p.1≠kv) ∨
    ∃ i m x q,(Instr.findKey kt key ms.toList).run P e.w=.ok (some (i,m.val)) e.w∧ms.toList[i]? = some m∧es'[i]? = some (kv,x,q)∧P6 kv es=true∧A0W kv es=x∧A1f kv es=q):=by
 obtain ⟨u1,u2,hk,hz,hz2,b,ms,clock,v3,v4,v5,es',bs,v6,v7⟩:=A4x h hof
 have v8:(es'.map (·.1)).Nodup:=(v6.map _).nodup_iff.2 v5.1
 obtain ⟨r,g1,g2⟩:=v7.find hT hk hz hf hy e.w
 refine ⟨b,ms,clock,es',bs,v3,v4,v5.2,v6,v5.1,v8,v7,?_⟩
 rcases g2 with ⟨rfl,g2⟩ | ⟨i,m,p,rfl,g2,g3,g4⟩
 ·exact .inl ⟨g1,B6O (fun p hp=>g2 p (v6.mem_iff.2 hp)),g2⟩
 ·obtain ⟨k,x,q⟩:=p
  simp only at g4
  subst g4
  obtain ⟨q1,q2,q3⟩:=B4u v5.1 (v6.mem_iff.1 (List.mem_of_getElem? g3))
  exact .inr ⟨i,m,x,q,g1,g2,g3,q1,q2,q3⟩
theorem A5.shareG (h:A5 T c e of) {id:Nat} {o:Ob} (ho:of id=some o) {a b lo hi:Nat} (hι:e.ι id=some (a,0)) (hG:e.G a b) (hok:OK T (e.share b lo hi) id o):A5 T c (e.share b lo hi) of:=by
 have A7:(of id).isSome:=by rw [ho];rfl
 refine ⟨fun j x hj=>?_,h.sep,h.own,h.lt,fun k i hs=>hs.elim (h.slt k i) (fun ⟨q,_⟩=>by rw [q];exact h.g.lt _ _ hG),fun k i hs=>.inl (h.s0 k i hs),fun k i hs=>hs.elim (h.snew k i) (fun ⟨q,_⟩=>.inr (by rw [q];exact h.g.own _ _ hG)),h.os,h.tape,h.output,h.size,h.block,⟨h.g.sep,h.g.uniq,h.g.own,h.g.lt⟩⟩
 by_cases hj':j=id
 ·subst hj';rw [ho] at hj;cases hj;exact hok
 ·have hjs:(of j).isSome:=by rw [hj];rfl
  refine (h.ok j x hj).keep (G7 _ _ _ _) rfl (fun _ _ _=>rfl) (fun k q i hk hs=>hs.elim (fun q=>q) (fun ⟨q',_⟩=>absurd q' (h.g.sep _ _ hG _ _ _ hjs hk))) (fun a' q k hk hG'=>⟨hG',rfl,fun i hs=>hs.elim (fun q=>q) (fun ⟨q',_⟩=>?_)⟩)
  subst q'
  have:=h.g.uniq _ _ _ hG hG'
  subst this
  exact absurd rfl (h.sep _ _ _ _ _ _ hjs A7 hk hι hj')
def A4y (T:TT) (t:Nat) (k:A) (ok:Bool) (q:Nat×Nat×Nat×Nat×List (V×V×Bool)×Option V):Option (A×List Nat) :=
 match q.2.2.2.2.2 with
 | none=>match B2 T t with
  | some (.map kt et)=>match T et,A0q T kt k with
   | some te,some kv=>if TK.notOther te.k then (if Nat.beq kt q.2.1&&Nat.beq et q.2.2.1 then
     (match P6 kv q.2.2.2.2.1 with
     | true=>some (okA ok (mkA T et (A0W kv q.2.2.2.2.1)) true,[q.1])
     | false=>some (okA ok (mkA T et te.zero) false,[q.1])) else none) else none
   | _,_=>none
  | _=>none
 | some _=>none
theorem B4v (hT:F4 T P) {id t:Nat} {k r:A} {x y:Value} {ok:Bool} {ro:List Nat} (h:A5 T c e of) (hr:A4y T t k ok (id,kt,st,el,es,ho)=some (r,ro)) (hof:of id=some (.sm kt st el es ho)) (hx:B3 T e (.m id) x) (hy:B3 T e k y) :
  B9 P (do pure (.value (← Instr.lookup t x y ok))) e.w (C4 T c e of ⟨r,[],ro,[]⟩):=by
 unfold A4y at hr
 split at hr<;>try (cases hr;done)
 rename_i hho
 simp only at hho
 subst hho
 split at hr<;>try (cases hr;done)
 rename_i kt' et hk
 obtain ⟨tem,h1,h2⟩:=A6 hk
 have hu:=H2 (hT _ _ h1) h2
 split at hr<;>try (cases hr;done)
 rename_i te kv hte hkv
 obtain ⟨hf,hkey⟩:=A0O hkv hy
 split at hr<;>try (cases hr;done)
 rename_i hne
 split at hr<;>try (cases hr;done)
 rename_i hc
 simp only [C3o] at hc
 have:=C3n hc.1;subst this
 have:=C3n hc.2;subst this
 obtain ⟨z,hz1,hz2⟩:=A34 hT hte hne e.w
 have hck:∀ em,(Instr.checkKey em 10000 kt' y).run P e.w=.ok () e.w:=fun em=>H5 hT em e.w EQD kt' 9992 kv y hf hkey
 obtain ⟨u1,u2,hks,hz,hz3,_⟩:=A4x h hof
 obtain ⟨b,ms,clock,es',bs,v3,v4,vb,v6,v5,v8,v7,g⟩:=A2u hT h hof hf hkey
 obtain ⟨b',_,_,u3,rfl⟩:=P1 hx
 rw [v3] at u3;cases u3
 have hg:(getObj b).run P e.w=.ok (.map ms clock) e.w:=MapKept.run_getObj_map v4
 rcases g with ⟨g1,g2,_⟩ | ⟨i,me,xv,q,g1,hm1,hm2,g2,g3,g4⟩
 ·simp only [g2] at hr
  simp only [C3q,Prod.mk.injEq] at hr
  obtain ⟨rfl,rfl⟩:=hr
  refine A1 (x:=if ok then .tuple #[z,.bool false] else z) (w':=e.w) ?_ (A4 h (A2g (hz2 e) (A1t _ _)))
  simp [Instr.lookup,A2 hu,hg,hck,g1,hz1]
 ·simp only [g2] at hr
  simp only [C3q,Prod.mk.injEq] at hr
  obtain ⟨rfl,rfl⟩:=hr
  have hrun:(Instr.lookup t (.map (some b)) y ok).run P e.w=.ok (if ok then .tuple #[me.val,.bool true] else me.val) e.w:=by
   simp [Instr.lookup,A2 hu,hg,hck,g1]
  obtain ⟨bs0,cs,k1,k2,k3,k4⟩:=v7.pull hm2 hm1
  have back:∀ e':A8,e'.w=e.w→A5 T c e' of→e.le e'→(∀ j,e'.U j→e.U j)→RV T e' [et] [xv] [me.val]→C4 T c e of ⟨okA ok (mkA T et (A0W kv es)) true,[],[id],[]⟩ (if ok then .tuple #[me.val,.bool true] else me.val) e.w:=by
   intro e' q1 q2 q3 q4 q5
   refine ⟨e',q1,q2,q3,fun j hj=>.inl (q4 j hj),A2g ?_ (A1t _ _)⟩
   rw [g3]
   have hone:one me.val=true:=k1.val
   exact W5 hte (a:=.v et xv) ⟨by rw [E6 hone];exact q5,J3 hks rfl hone⟩ (G9 _ _)
  refine A1 hrun ?_
  cases k1 with
  | lent _ _ h3=>cases h3
  | data j1 j2=>exact back e rfl h (A8.le.refl e) (fun _ hu=>hu) j2
  | @own _ xs _ bb o j cap cells fz pre ys post j1 j2 j0 j3 j5 j6 j7 j8 j9 j10 j11 j12 =>
   have hle:=G7 e bb o (o+ys.length)
   have hne':∀ b'∈cs,e.G b b'→(e.share bb o (o+ys.length)).G b b'∧(e.share bb o (o+ys.length)).w.heap[b']? = e.w.heap[b']? ∧ ∀ i,(e.share bb o (o+ys.length)).S b' i→e.S b' i:=fun b' hb' hG'=>⟨hG',rfl,fun i hs=>hs.elim (fun q=>q) (fun ⟨q',_⟩=>absurd (q' ▸ hb') (k3 bb (by simp)))⟩
   have hent:A0z T (e.share bb o (o+ys.length)) b kt' et el none (kv,.l xs,true) me [bb]:=.own (j1.mono hle) j2 j0 j3 j5 j6 j7 j8 (j9.mono hle) j10 j11 (fun i hi hs=>hs.elim (j12 i hi) (fun ⟨_,_,q⟩=>by omega))
   obtain ⟨bs',q1,_⟩:=SR.putAt hm2 hm1 (k2.keep' hle hne') hent k3
   rw [show es'.set i (kv,.l xs,true)=es' from A2t hm2,show ms.toList.set i me=ms.toList from A2t hm1] at q1
   have hok:OK T (e.share bb o (o+ys.length)) id (.sm kt' et el es none):=⟨u1,u2,hks,hz,hz3,b,ms,clock,v3,v4,⟨v5,vb⟩,es',bs',v6,q1⟩
   refine back (e.share bb o (o+ys.length)) rfl (h.shareG hof v3 j3 hok) hle (fun _ hu=>hu) ?_
   rw [j2]
   refine .slice hks hz rfl j10 ⟨fun _=>rfl,fun jj y' hj=>?_⟩ (j9.mono hle) .nil
   have hjl:=(List.getElem?_eq_some_iff.1 hj).1
   have hcap:0 < cap:=by
    rcases Nat.eq_zero_or_pos cap with h0 | h0
    ·have:xs=[]:=List.eq_nil_of_length_eq_zero (by omega)
     subst this
     have:=j9.length.1
     simp [szs] at this
     subst this;simp at hjl
    ·exact h0
   have:=j0 hcap
   subst this
   refine ⟨?_,.inr ⟨rfl,by show j≤j+jj;omega,by show j+jj < _;omega⟩⟩
   show e.w.cell? _=_
   rw [C2,D6 j5,j7,← j8,List.append_assoc]
   exact J7 hj
variable {P:Program} {T:TT} {c:F1} {e:A8} {of:Nat→Option Ob}
variable {a kt st el:Nat} {ho:Option V} {es:List (V×V×Bool)} {ms:List MapEntry} {bs:List Nat}
theorem SR.inG (h:SR T e a kt st el ho es ms bs):∀ b∈bs,e.G a b:=by
 induction h with
 | nil=>intro b hb;cases hb
 | cons h1 _ _ ih =>
  intro b hb
  rcases C3y.1 hb with hb | hb
  ·cases h1 with
   | lent=>cases hb
   | data=>cases hb
   | own _ _ _ h3=>simp only [List.mem_singleton] at hb;subst hb;exact h3
  ·exact ih b hb
def A8.give (e:A8) (id b o el ln:Nat):A8 :=
 {w:=e.w,ι:=D3 e.ι id (some (b,o)),S:=e.S,bn:=D3 e.bn id 1,U:=fun j=>j=id∨e.U j,ty:=D3 e.ty id el,ln:=D3 e.ln id ln,G:=fun a b'=>e.G a b'∧b'≠b }
theorem B0I {id:Nat} (hu:¬ e.U id) (b o el ln:Nat):e.le (e.give id b o el ln):=by
 have ne:∀ j,e.U j→j≠id:=fun j hj q=>hu (q ▸ hj)
 refine ⟨fun b i hs=>⟨hs,fun x hx=>hx⟩,fun _ hj=>.inr hj,fun j hj _=>⟨A3 _ _ (ne j hj),A3 _ _ (ne j hj),fun _ _ _=>rfl⟩,fun j hj h0=>?_,fun j hj=>?_,fun j hj=>A3 _ _ (ne j hj),Nat.le_refl _,fun _ _=>rfl⟩
 ·show D3 e.bn id 1 j=0
  rw [A3 _ _ (ne j hj)];exact h0
 ·show _≤D3 e.bn id 1 j
  rw [A3 _ _ (ne j hj)];exact Nat.le_refl _
theorem A5.give (h:A5 T c e of) {id id0:Nat} (hu:¬ e.U id) {o0 o1 o2:Ob} (hof:of id0=some o0) {a b q el ln:Nat} (hι:e.ι id0=some (a,0)) (hG:e.G a b) (h1:OK T (e.give id b q el ln) id0 o1) (h2:OK T (e.give id b q el ln) id o2) :
  A5 T c (e.give id b q el ln) (D3 (D3 of id0 (some o1)) id (some o2)):=by
 have hle:=B0I hu b q el ln
 have hs0:(of id0).isSome:=by rw [hof];rfl
 have hne:id0≠id:=fun e=>hu (e ▸ (h.ok _ _ hof).use)
 have ιne:∀ j,j≠id→(e.give id b q el ln).ι j=e.ι j:=fun j hj=>A3 _ _ hj
 have some':∀ j,j≠id→(D3 (D3 of id0 (some o1)) id (some o2) j).isSome→(of j).isSome:=fun j hj hh=>by
  rw [A3 _ _ hj] at hh
  by_cases h0:j=id0
  ·subst h0;exact hs0
  ·rw [A3 _ _ h0] at hh;exact hh
 refine ⟨fun j x hj=>?_,fun j k b1 q1 b2 q2 hj hk hb1 hb2 hjk=>?_,fun j b1 q1 hj hb1=>?_,fun j b1 q1 hj hb1=>?_,h.slt,h.s0,h.snew,h.os,h.tape,h.output,h.size,h.block,⟨fun a1 b1 hg j b2 q2 hj hb2=>?_,fun a1 a2 b1 g1 g2=>h.g.uniq a1 a2 b1 g1.1 g2.1,fun a1 b1 g1=>h.g.own a1 b1 g1.1,fun a1 b1 g1=>h.g.lt a1 b1 g1.1⟩⟩
 ·by_cases hj1:j=id
  ·subst hj1;rw [upd_same] at hj;cases hj;exact h2
  ·rw [A3 _ _ hj1] at hj
   by_cases hj2:j=id0
   ·subst hj2;rw [upd_same] at hj;cases hj;exact h1
   ·rw [A3 _ _ hj2] at hj
    have hjs:(of j).isSome:=by rw [hj];rfl
    refine (h.ok j x hj).keep hle (A3 _ _ hj1) (fun _ _ _=>rfl) (fun _ _ _ _ hs=>hs) (fun a' q' k hk hG'=>⟨⟨hG',fun q=>?_⟩,rfl,fun _ hs=>hs⟩)
    subst q
    have:=h.g.uniq _ _ _ hG hG'
    subst this
    exact h.sep _ _ _ _ _ _ hjs hs0 hk hι hj2 rfl
 ·by_cases e1:j=id
  ·subst e1
   have e2:k≠j:=Ne.symm hjk
   rw [ιne k e2] at hb2
   have hb1:(b,q)=(b1,q1):=by simpa [A8.give] using hb1
   cases hb1
   exact Ne.symm (h.g.sep _ _ hG _ _ _ (some' k e2 hk) hb2)
  ·by_cases e2:k=id
   ·subst e2
    rw [ιne j e1] at hb1
    have hb2:(b,q)=(b2,q2):=by simpa [A8.give] using hb2
    cases hb2
    exact h.g.sep _ _ hG _ _ _ (some' j e1 hj) hb1
   ·rw [ιne _ e1] at hb1;rw [ιne _ e2] at hb2
    exact h.sep _ _ _ _ _ _ (some' j e1 hj) (some' k e2 hk) hb1 hb2 hjk
 ·by_cases e1:j=id
  ·subst e1
   have hb1:(b,q)=(b1,q1):=by simpa [A8.give] using hb1
   cases hb1
   exact h.g.own _ _ hG
  ·rw [ιne _ e1] at hb1
   exact h.own _ _ _ (some' j e1 hj) hb1
 ·by_cases e1:j=id
  ·subst e1
   have hb1:(b,q)=(b1,q1):=by simpa [A8.give] using hb1
   cases hb1
   exact h.g.lt _ _ hG
  ·rw [ιne _ e1] at hb1
   rcases hj with hj | hj
   ·exact absurd hj e1
   ·exact h.lt _ _ _ hj hb1
 ·by_cases e1:j=id
  ·subst e1
   have hb2:(b,q)=(b2,q2):=by simpa [A8.give] using hb2
   cases hb2
   exact Ne.symm hg.2
  ·rw [ιne _ e1] at hb2
   exact h.g.sep _ _ hg.1 _ _ _ (some' j e1 hj) hb2
def A50 (T:TT) (nx t:Nat) (k:A) (q:Nat×Nat×Nat×Nat×List (V×V×Bool)×Option V):Option Out :=
 match q.2.2.2.2.2 with
 | none=>match B2 T t with
  | some (.map kt et)=>match T et,A0q T kt k with
   | some te,some kv=>if TK.notOther te.k then (if Nat.beq kt q.2.1&&Nat.beq et q.2.2.1 then
     (match P6 kv q.2.2.2.2.1 with
     | true=>if A1f kv q.2.2.2.2.1 then some ⟨.o nx 1,[(q.1,.sm q.2.1 q.2.2.1 q.2.2.2.1 q.2.2.2.2.1 (some kv)),(nx,.row q.2.2.2.1 1 (A0W kv q.2.2.2.2.1).els false true)],[q.1],[nx]⟩ else none
     | false=>some ⟨mkA T et te.zero,[],[q.1],[]⟩) else none) else none
   | _,_=>none
  | _=>none
 | some _=>none
theorem B4w (hT:F4 T P) {id t nx:Nat} {k:A} {x y:Value} {out:Out} (h:A5 T c e of) (hr:A50 T nx t k (id,kt,st,el,es,ho)=some out) (hof:of id=some (.sm kt st el es ho)) (hu0:∀ j∈out.nw,¬ e.U j) (hx:B3 T e (.m id) x) (hy:B3 T e k y) :
  B9 P (do pure (.value (← Instr.lookup t x y false))) e.w (C4 T c e of out):=by
 unfold A50 at hr
 split at hr<;>try (cases hr;done)
 rename_i hho
 simp only at hho
 subst hho
 split at hr<;>try (cases hr;done)
 rename_i kt' et hk
 obtain ⟨tem,h1,h2⟩:=A6 hk
 have hu:=H2 (hT _ _ h1) h2
 split at hr<;>try (cases hr;done)
 rename_i te kv hte hkv
 obtain ⟨hf,hkey⟩:=A0O hkv hy
 split at hr<;>try (cases hr;done)
 rename_i hne
 split at hr<;>try (cases hr;done)
 rename_i hc
 simp only [C3o] at hc
 have:=C3n hc.1;subst this
 have:=C3n hc.2;subst this
 obtain ⟨z,hz1,hz2⟩:=A34 hT hte hne e.w
 have hck:∀ em,(Instr.checkKey em 10000 kt' y).run P e.w=.ok () e.w:=fun em=>H5 hT em e.w EQD kt' 9992 kv y hf hkey
 obtain ⟨u1,u2,hks,hz,hz3,_⟩:=A4x h hof
 obtain ⟨b,ms,clock,es',bs,v3,v4,vb,v6,v5,v8,v7,g⟩:=A2u hT h hof hf hkey
 obtain ⟨b',_,_,u3,rfl⟩:=P1 hx
 rw [v3] at u3;cases u3
 have hg:(getObj b).run P e.w=.ok (.map ms clock) e.w:=MapKept.run_getObj_map v4
 rcases g with ⟨g1,g2,_⟩ | ⟨i,me,xv,q,g1,hm1,hm2,g2,g3,g4⟩
 ·simp only [g2] at hr
  injection hr with hr;subst hr
  refine A1 (x:=z) (w':=e.w) ?_ (A4 h (hz2 e))
  simp [Instr.lookup,A2 hu,hg,hck,g1,hz1]
 ·simp only [g2] at hr
  split at hr<;>try (cases hr;done)
  rename_i hown
  injection hr with hr;subst hr
  rw [g4] at hown
  subst hown
  have hun:¬ e.U nx:=hu0 nx (by simp)
  obtain ⟨bs0,cs,k1,k2,k3,k4⟩:=v7.pull hm2 hm1
  cases k1 with
  | lent _ _ h3=>cases h3
  | @own _ xs _ bb o j cap cells fz pre ys post j1 j2 j0 j3 j5 j6 j7 j8 j9 j10 j11 j12 =>
   have hle:=B0I hun bb o el xs.length
   have hent:A0z T (e.give nx bb o el xs.length) b kt' et el (some kv) (kv,.l xs,true) me []:=.lent (j1.mono hle) (by rw [j2];rfl) rfl
   have k2':SR T e b kt' et el (some kv) (es'.eraseIdx i) (ms.toList.eraseIdx i) cs:=k2.rho (fun p _ q=>by cases q)
   obtain ⟨bs',q1,_⟩:=SR.putAt hm2 hm1 (k2'.keep' hle (fun b' hb' hG'=>⟨⟨hG',fun q=>k3 bb (by simp) (q ▸ hb')⟩,rfl,fun _ hs=>hs⟩)) hent (fun b hb=>by cases hb)
   rw [show es'.set i (kv,.l xs,true)=es' from A2t hm2,show ms.toList.set i me=ms.toList from A2t hm1] at q1
   have hne:id≠nx:=fun q=>hun (q ▸ u1)
   have hok1:OK T (e.give nx bb o el xs.length) id (.sm kt' et el es (some kv)):=⟨.inr u1,(A3 _ _ hne).trans u2,hks,hz,hz3,b,ms,clock,(A3 _ _ hne).trans v3,v4,⟨v5,vb⟩,es',bs',v6,q1⟩
   have hok2:OK T (e.give nx bb o el xs.length) nx (.row el 1 xs false true):=⟨.inl rfl,Nat.one_pos,upd_same _ _ _,upd_same _ _ _,upd_same _ _ _,hz3,.inr ⟨rfl,bb,o,cells,el,fz,pre,ys,post,upd_same _ _ _,j5,j6,j7,j8,j9.mono hle,j12,(fun q=>by cases q),rfl⟩⟩
   refine A1 (x:=me.val) (w':=e.w) (by simp [Instr.lookup,A2 hu,hg,hck,g1]) ⟨e.give nx bb o el xs.length,rfl,?_,hle,fun jj hj=>hj.elim (fun q=>.inr (by simp [q])) .inl,?_⟩
   ·have:=h.give hun hof v3 j3 hok1 hok2
    rw [g3]
    exact this
   ·rw [j2]
    refine RA.r ⟨rfl,.inl rfl,Nat.le_of_eq (upd_same _ _ _).symm,Nat.one_pos,fun _=>.inr ⟨bb,o,cap,j,upd_same _ _ _,?_,?_,j0,?_⟩⟩ rfl .nil
    ·show D3 e.ln nx xs.length nx≤cap
     rw [upd_same];exact j10
    ·show o+cap * B1 T (D3 e.ty nx el nx)=L3 e.w bb
     rw [upd_same,j11];simp [L3,j5]
    ·show _=Value.slice _ (D3 e.ln nx xs.length nx) cap
     rw [upd_same]
variable {P:Program} {T:TT} {c:F1} {e:A8} {of:Nat→Option Ob}
variable {a kt st el:Nat} {ho:Option V} {es:List (V×V×Bool)}
theorem A49 {ms:Array MapEntry} {i:Nat} {me:MapEntry} {f:MapEntry→MapEntry} (hm1:ms.toList[i]? = some me):(ms.modify i f).toList=ms.toList.set i (f me):=by
 have hj:ms[i]? = some me:=by simpa using hm1
 apply List.ext_getElem?
 intro j
 rw [Array.getElem?_toList,Array.getElem?_modify,List.getElem?_set]
 by_cases hij:i=j
 ·subst hij
  rw [if_pos rfl,if_pos rfl,hj]
  have:i < ms.toList.length:=(List.getElem?_eq_some_iff.1 hm1).1
  rw [if_pos this];rfl
 ·rw [if_neg hij,if_neg hij,Array.getElem?_toList]
theorem A6O {ms:Array MapEntry} {i:Nat} {me:MapEntry} (hm1:ms.toList[i]? = some me):(ms.eraseIdxIfInBounds i).toList=ms.toList.eraseIdx i:=by
 have:i < ms.size:=by have:=(List.getElem?_eq_some_iff.1 hm1).1;simpa using this
 simp [Array.eraseIdxIfInBounds,this]
theorem A10 {kv:V} (h:(es.map (·.1)).Nodup):((A0h kv es).map (·.1)).Nodup:=by rw [M5];exact h.sublist (List.filter_sublist.map _)
theorem A11 {kv x:V} {q:Bool} (h:(es.map (·.1)).Nodup):((A04 kv x q es).map (·.1)).Nodup:=by
 rw [A04,List.map_cons,List.nodup_cons]
 refine ⟨?_,A10 h⟩
 rw [M5]
 intro hm
 obtain ⟨p,hp,hpk⟩:=List.mem_map.1 hm
 have:=(List.mem_filter.1 hp).2
 simp only at hpk
 rw [hpk,A0D] at this
 simp at this
theorem A8b {kv:V} {x0:V×Bool}:∀ {es:List (V×V×Bool)} {i:Nat},(es.map (·.1)).Nodup→es[i]? = some (kv,x0)→∀ p∈es.eraseIdx i,p.1≠kv:=by
 intro es i hn hi p hp
 rw [← A0r hn hi] at hp
 have:=(List.mem_filter.1 hp).2
 intro q
 rw [q,A0D] at this
 simp at this
theorem B4x (hT:F4 T P) {id t:Nat} {kv x:V} {q:Bool} {bs0 bs:List Nat} {y z:Value} {es':List (V×V×Bool)} {ms:Array MapEntry} {clock b:Nat} (hu:P.underlying t=some (.map kt st)) (h:A5 T c e of) (hof:of id=some (.sm kt st el es ho)) (hf:eqT T EQD kt=true) (hkey:B3 T e (.v kt kv) y) (hho:ho=none∨ho=some kv)
  (v3:e.ι id=some (b,0)) (v4:e.w.heap[b]? = some (.map ms clock)) (vb:StB ms clock) (v6:es'.Perm es) (v5:(es.map (·.1)).Nodup) (v8:(es'.map (·.1)).Nodup) (v7:SR T e b kt st el ho es' ms.toList bs)
  (g:((Instr.findKey kt y ms.toList).run P e.w=.ok none e.w∧P6 kv es=false∧∀ p∈es',p.1≠kv) ∨
    ∃ i m x q,(Instr.findKey kt y ms.toList).run P e.w=.ok (some (i,m.val)) e.w∧ms.toList[i]? = some m∧es'[i]? = some (kv,x,q)∧P6 kv es=true∧A0W kv es=x∧A1f kv es=q)
  (hd:∀ b'∈bs0,b' ∉ bs)
  (hent:∀ w':World,e.le { e with w:=w' }→(∀ k,k≠b→w'.heap[k]? = e.w.heap[k]?)→∀ n,A0z T { e with w:=w' } b kt st el none (kv,x,q) { key:=y,val:=z,born:=n } bs0) :
  B9 P (do Instr.mapUpdate t (.map (some b)) y z;pure .skip) e.w (fun _ w'=>∃ e':A8,e'.w=w'∧A5 T c e' (D3 of id (some (.sm kt st el (A04 kv x q es) none)))∧e.le e'∧∀ j,e'.U j→e.U j):=by
 obtain ⟨u1,u2,hks,hz,hz3,_⟩:=A4x h hof
 have hg:(getObj b).run P e.w=.ok (.map ms clock) e.w:=MapKept.run_getObj_map v4
 have hck:∀ em,(Instr.checkKey em 10000 kt y).run P e.w=.ok () e.w:=fun em=>H5 hT em e.w EQD kt 9992 kv y hf hkey
 have hset:∀ o,(setObj b o).run P e.w=.ok () { e.w with heap:=e.w.heap.setIfInBounds b o }:=fun o=>MapKept.run_setObj_map o v4
 have hids:(of id).isSome:=by rw [hof];rfl
 have hnb:∀ b',e.G b b'→b'≠b:=fun b' hG q=>h.g.sep _ _ hG _ _ _ hids v3 q.symm
 have oth:∀ (o:Go.Obj) (k:Nat),k≠b→({ e.w with heap:=e.w.heap.setIfInBounds b o }:World).heap[k]? = e.w.heap[k]? := fun o k hk=>by simp [Ne.symm hk]
 have hkp:∀ {cs:List Nat} (o:Go.Obj),∀ b'∈cs,e.G b b'→({ e with w:={ e.w with heap:=e.w.heap.setIfInBounds b o } }:A8).G b b'∧({ e.w with heap:=e.w.heap.setIfInBounds b o }:World).heap[b']? = e.w.heap[b']? ∧ ∀ i,({ e with w:={ e.w with heap:=e.w.heap.setIfInBounds b o } }:A8).S b' i→e.S b' i:=fun o b' _ hG=>⟨hG,oth o b' (hnb b' hG),fun _ hs=>hs⟩
 rcases g with ⟨g1,g2,g3⟩ | ⟨i,me,xv,q0,g1,hm1,hm2,g2,g3,g4⟩
 ·obtain ⟨q1,q2⟩:=h.writeM hof v3 v4 (ms':=ms.push { key:=y,val:=z,born:=clock }) (cl':=clock+1) rfl (o':=.sm kt st el (A04 kv x q es) none) (fun hle hh=>by
   have hr:SR T e b kt st el none es' ms.toList bs:=v7.rho (fun p hp hq=>by
    rcases hho with rfl | rfl
    ·cases hq
    ·injection hq with hq;exact g3 p hp hq.symm)
   obtain ⟨bs',r1,_⟩:=(hr.keep' hle (hkp _)).snoc (hent _ hle (oth _) clock) hd
   refine ⟨u1,u2,hks,hz,hz3,b,_,_,v3,hh,⟨A11 v5,vb.push⟩,es'++[(kv,x,q)],bs',?_,?_⟩
   ·have:A0h kv es=es:=by rw [M5];exact X8 (fun p hp=>g3 p (v6.mem_iff.2 hp))
    rw [A04,this]
    exact (List.perm_append_singleton _ _).trans (v6.cons _)
   ·rw [Array.toList_push];exact r1)
  refine .inr (.inl ⟨_,?_,⟨_,rfl,q1,q2,fun j hj=>hj⟩⟩)
  simp [Instr.mapUpdate,A2 hu,hg,hck,g1,hset]
 ·obtain ⟨b1,cs,k1,k2,k3,k4⟩:=v7.pull hm2 hm1
  have hkeq:me.key=y:=(A3y hf hkey).2 _ k1.key
  have hj:ms[i]? = some me:=by simpa using hm1
  obtain ⟨q1,q2⟩:=h.writeM hof v3 v4 (ms':=ms.modify i fun e=>{ e with key:=y,val:=z }) (cl':=clock) rfl (o':=.sm kt st el (A04 kv x q es) none) (fun hle hh=>by
   have hr:SR T e b kt st el none (es'.eraseIdx i) (ms.toList.eraseIdx i) cs:=k2.rho (fun p hp hq=>by
    rcases hho with rfl | rfl
    ·cases hq
    ·injection hq with hq;exact A8b v8 hm2 p hp hq.symm)
   obtain ⟨bs',r1,_⟩:=SR.putAt hm2 hm1 (hr.keep' hle (hkp _)) (hent _ hle (oth _) me.born) (fun b' hb hc=>hd b' hb (k4 b' (.inr hc)))
   refine ⟨u1,u2,hks,hz,hz3,b,_,_,v3,hh,⟨A11 v5,vb.mod (fun _=>rfl)⟩,es'.set i (kv,x,q),bs',?_,?_⟩
   ·refine (B16 hm2).trans (List.Perm.cons _ ?_)
    rw [M5,← A0r v8 hm2]
    exact v6.filter _
   ·rw [A49 hm1];exact r1)
  have hst:(Instr.keyThatStays y y).run P e.w=.ok y e.w:=A5q (A3y hf hkey).1 e.w
  refine .inr (.inl ⟨_,?_,⟨_,rfl,q1,q2,fun j hj=>hj⟩⟩)
  simp [Instr.mapUpdate,A2 hu,hg,hck,g1,hj,hkeq,hst,hset]
def B6P:Option V→V→Bool
 | none,_=>true
 | some k,kv=>P7 k kv
theorem B17 {kv:V} (h:B6P ho kv=true):ho=none∨ho=some kv:=by
 cases ho with
 | none=>exact .inl rfl
 | some k=>exact .inr (by rw [(F0 _ _).1 h])
def B18 (T:TT) (of:Nat→Option Ob) (t:Nat) (k v:A) (q:Nat×Nat×Nat×Nat×List (V×V×Bool)×Option V):Option (List (Nat×Ob)×List Nat) :=
 match B2 T t with
 | some (.map kt et)=>match A0q T kt k with
  | some kv=>if Nat.beq kt q.2.1&&Nat.beq et q.2.2.1 then (if B6P q.2.2.2.2.2 kv then (match v with
    | .o rid ver=>match of rid with
     | some (.row el v' xs false sh)=>if Nat.beq el q.2.2.2.1&&Nat.beq v' ver then some ([(rid,.row el (ver+1) [] true false),(q.1,.sm q.2.1 q.2.2.1 q.2.2.2.1 (A04 kv (.l xs) true q.2.2.2.2.1) none)],[q.1,rid]) else none
     | _=>none
    | v=>match J0 T DEP of et v with
     | some (x,wo)=>if !(U1 wo).contains q.1 then some (wo++[(q.1,.sm q.2.1 q.2.2.1 q.2.2.2.1 (A04 kv x false q.2.2.2.2.1) none)],q.1::U1 wo) else none
     | none=>none) else none) else none
  | none=>none
 | _=>none
def A8.lose (e:A8) (id ver:Nat):A8:={ e with ι:=D3 e.ι id none,bn:=D3 e.bn id ver,ln:=D3 e.ln id 0 }
theorem A5.lose (h:A5 T c e of) {id el ver:Nat} {xs:List V} {nl sh:Bool} (hof:of id=some (.row el ver xs nl sh)):e.le (e.lose id (ver+1))∧A5 T c (e.lose id (ver+1)) (D3 of id (some (.row el (ver+1) [] true false))):=by
 obtain ⟨r1,r2,r3,r4,r5,r6,_⟩:=G3 h hof
 have hle:e.le (e.lose id (ver+1)):=Y2 (w:=e.w) (p:=none) (ln:=0) (by omega) (by omega) (fun _ _ _ _ hx=>hx) (fun _ _=>rfl) (fun j b o hj hb=>h.lt _ _ _ hj hb) (Nat.le_refl _)
 refine ⟨hle,h.turn hof hle (fun _ hj=>A3 _ _ hj) (fun _ hj=>A3 _ _ hj) (fun _ hj=>hj) (fun _ _ _=>rfl) (Nat.le_refl _) (fun _ _ hs=>.inl hs) (fun b q hb=>?_) rfl rfl rfl ?_⟩
 ·have:(none:Option (Nat×Nat))=some (b,q):=by rw [← hb];exact (upd_same _ _ _).symm
  cases this
 ·exact ⟨r1,Nat.succ_pos _,upd_same _ _ _,r4,upd_same _ _ _,r6,.inl ⟨rfl,upd_same _ _ _,rfl⟩⟩
def A8.keepG (e:A8) (a b:Nat):A8:={ e with G:=fun a' b'=>e.G a' b'∨(a'=a∧b'=b) }
theorem A4z (e:A8) (a b:Nat):e.le (e.keepG a b):=⟨fun _ _ h=>⟨h,fun _ hx=>hx⟩,fun _ h=>h,fun _ _ _=>⟨rfl,rfl,fun _ _ _=>rfl⟩,fun _ _ h=>h,fun _ _=>Nat.le_refl _,fun _ _=>rfl,Nat.le_refl _,fun _ _=>rfl⟩
theorem A5.keepG (h:A5 T c e of) {a b:Nat} (h1:∀ j b' o,(of j).isSome→e.ι j=some (b',o)→b'≠b) (h2:∀ a',¬ e.G a' b) (h3:c.w0.heap.size≤b∨c.M b) (h4:b < e.w.heap.size):A5 T c (e.keepG a b) of:=by
 refine ⟨fun j o hj=>(h.ok j o hj).keep (A4z e a b) rfl (fun _ _ _=>rfl) (fun _ _ _ _ hs=>hs) (fun _ _ _ _ hG=>⟨.inl hG,rfl,fun _ hs=>hs⟩),h.sep,h.own,h.lt,h.slt,h.s0,h.snew,h.os,h.tape,h.output,h.size,h.block,⟨fun a' b' hg j b1 o hj hb=>?_,fun a1 a2 b' g1 g2=>?_,fun a' b' hg=>?_,fun a' b' hg=>?_⟩⟩
 ·rcases hg with hg | ⟨_,rfl⟩
  ·exact h.g.sep _ _ hg _ _ _ hj hb
  ·exact h1 _ _ _ hj hb
 ·rcases g1 with g1 | ⟨rfl,rfl⟩
  ·rcases g2 with g2 | ⟨rfl,rfl⟩
   ·exact h.g.uniq _ _ _ g1 g2
   ·exact absurd g1 (h2 _)
  ·rcases g2 with g2 | ⟨rfl,_⟩
   ·exact absurd g2 (h2 _)
   ·rfl
 ·rcases hg with hg | ⟨_,rfl⟩
  ·exact h.g.own _ _ hg
  ·exact h3
 ·rcases hg with hg | ⟨_,rfl⟩
  ·exact h.g.lt _ _ hg
  ·exact h4
theorem B6Q (hT:F4 T P) {of':Nat→Option Ob} {id t:Nat} {k v:A} {x y z:Value} {wo:List (Nat×Ob)} {ro:List Nat} (h:A5 T c e of') (hr:B18 T of t k v (id,kt,st,el,es,ho)=some (wo,ro)) (hof:of id=some (.sm kt st el es ho)) (hoo:∀ id∈ro,of' id=of id) (hx:B3 T e (.m id) x) (hy:B3 T e k y) (hz:B3 T e v z) :
  B9 P (do Instr.mapUpdate t x y z;pure .skip) e.w (C4 T c e of' ⟨.x,wo,ro,[]⟩):=by
 unfold B18 at hr
 split at hr<;>try (cases hr;done)
 rename_i kt' et hk
 obtain ⟨tem,h1,h2⟩:=A6 hk
 have hu:=H2 (hT _ _ h1) h2
 split at hr<;>try (cases hr;done)
 rename_i kv hkv
 obtain ⟨hf,hkey⟩:=A0O hkv hy
 split at hr<;>try (cases hr;done)
 rename_i hc
 simp only [C3o] at hc
 have:=C3n hc.1;subst this
 have:=C3n hc.2;subst this
 split at hr<;>try (cases hr;done)
 rename_i hho
 have hho:=B17 hho
 split at hr
 ·rename_i rid ver
  split at hr<;>try (cases hr;done)
  rename_i el' v' xs sh hrow
  split at hr<;>try (cases hr;done)
  rename_i hc2
  simp only [C3o] at hc2
  have:=C3n hc2.1;subst this
  have:=C3n hc2.2;subst this
  injection hr with hr;injection hr with e1 e2;subst e1;subst e2
  have hrow':=(hoo rid (by simp)).trans hrow
  have hof':=(hoo id (by simp)).trans hof
  obtain ⟨r1,r2,r3,r4,r5,r6,r7⟩:=G3 h hrow'
  rcases r7 with ⟨q,_⟩ | ⟨_,bb,o,cells,t',fz,pre,ys,post,j1,j2,j3,j4,j5,j6,j7,j8⟩
  ·cases q
  ·obtain ⟨j8,hte⟩:=j8
   have hte:=hte.symm;subst hte
   have hne:id≠rid:=fun q=>by subst q;rw [hof'] at hrow';cases hrow'
   obtain ⟨hle1,s1⟩:=h.lose hrow'
   have hof1:D3 of' rid (some (.row el' (v'+1) [] true false)) id=some (.sm kt' et el' es ho):=by rw [A3 _ _ hne];exact hof'
   obtain ⟨b,ms,clock,es',bs,v3,v4,vb,v6,v5,v8,v7,g⟩:=A2u hT s1 hof1 hf (hkey.mono hle1)
   have hrs:(of' rid).isSome:=by rw [hrow'];rfl
   have hnoG:∀ a',¬ (e.lose rid (v'+1)).G a' bb:=fun a' hG=>h.g.sep _ _ hG _ _ _ hrs j1 rfl
   have s2:=s1.keepG (a:=b) (b:=bb) (fun j b' o' hj hb=>by
     have hjr:j≠rid:=fun q=>by
      subst q
      have:(none:Option (Nat×Nat))=some (b',o'):=by rw [← hb];exact (upd_same _ _ _).symm
      cases this
     have hb':e.ι j=some (b',o'):=by rw [← hb];exact (A3 _ _ hjr).symm
     have hj':(of' j).isSome:=by rw [A3 _ _ hjr] at hj;exact hj
     exact h.sep _ _ _ _ _ _ hj' hrs hb' j1 hjr) hnoG (h.own _ _ _ hrs j1) (h.lt _ _ _ r1 j1)
   have hle2:=hle1.trans (A4z (e.lose rid (v'+1)) b bb)
   have v3':e.ι id=some (b,0):=by rw [← v3];exact (A3 _ _ hne).symm
   have hbb:bb≠b:=fun q=>h.sep _ _ _ _ _ _ (by rw [hof'];rfl) hrs v3' j1 hne q.symm
   obtain ⟨b',_,_,u3,rfl⟩:=P1 hx
   rw [v3'] at u3;cases u3
   have v7':=v7.keep' (A4z (e.lose rid (v'+1)) b bb) (fun b' _ hG=>⟨.inl hG,rfl,fun _ hs=>hs⟩)
   have main:=B4x (x:=.l xs) (q:=true) (bs0:=[bb]) (y:=y) (z:=z) hT hu s2 hof1 hf (hkey.mono hle2) hho v3 v4 vb v6 v5 v8 v7' g (fun b' hb' hc=>by
     simp only [List.mem_singleton] at hb';subst hb'
     exact hnoG b (v7.inG _ hc)) (fun w' hle hw n=>by
     rcases F7 hz r3 with ⟨q,_⟩ | ⟨b2,o2,cap,kk,k1,k2,k3,k4,k5⟩
     ·rw [j1] at q;cases q
     ·rw [j1] at k1;cases k1
      rw [r5] at k2 k5;rw [r4] at k3
      have hh:w'.heap[bb]? = some (.cells cells el' fz):=(hw bb hbb).trans j2
      refine .own ((hkey.mono hle2).mono hle) k5 k4 (.inr ⟨rfl,rfl⟩) hh (A5Y j3 (hw bb hbb)) j4 j5 ((j6.mono hle2).mono hle) k2 ?_ j7
      rw [k3];simp [L3,j2])
   refine C8 main ?_
   rintro u w' ⟨e',p1,p2,p3,p4⟩
   exact ⟨e',p1,p2,hle2.trans p3,fun j hj=>.inl (p4 j hj),trivial⟩
 ·split at hr<;>try (cases hr;done)
  rename_i xv w1 hxv
  split at hr<;>try (cases hr;done)
  rename_i hc4
  simp only [Bool.not_eq_true'] at hc4
  injection hr with hr;injection hr with hr1 hr2;subst hr1;subst hr2
  have hnin:id ∉ U1 w1:=fun hin=>by
   have:(U1 w1).contains id=true:=List.contains_iff_mem.2 hin
   rw [this] at hc4;cases hc4
  have hof':=(hoo id (by simp)).trans hof
  have hxv':=(Y5 (T:=T) DEP).1 of of' _ _ _ _ hxv (fun j hj=>hoo j (by simp [hj]))
  obtain ⟨e1,a1,a2,a3,a4,a5⟩:=Y8 h hxv' hz
  have hp1:put of' w1 id=some (.sm kt' et el es ho):=by rw [A5x hnin];exact hof'
  obtain ⟨b,ms,clock,es',bs,v3,v4,vb,v6,v5,v8,v7,g⟩:=A2u hT a2 hp1 hf (hkey.mono a3)
  obtain ⟨_,_,hks,hz1,_,_⟩:=A4x a2 hp1
  obtain ⟨b',_,_,u3,rfl⟩:=P1 (hx.mono a3)
  rw [v3] at u3;cases u3
  have hone:z.cells.toList=[z]:=by
   have:RV T e1 [et] [xv] z.cells.toList:=a5
   cases hzz:z with
   | agg cs =>
    exfalso
    have hag:=(A3z hxv' hz).2 ⟨cs,hzz⟩
    obtain ⟨k',hk',ha'⟩:=hag
    rw [hks] at hk';cases hk';cases ha'
   | tuple cs =>
    have:=a5.one (.tuple cs) (by rw [hzz];exact List.mem_singleton_self _)
    cases this
   | _=>rfl
  have main:=B4x (x:=xv) (q:=false) (bs0:=[]) (y:=y) (z:=z) hT hu a2 hp1 hf (hkey.mono a3) hho v3 v4 vb v6 v5 v8 v7 g (fun b' hb'=>by cases hb') (fun w' hle hw n=>.data ((hkey.mono a3).mono hle) (by
    have:=a5.mono hle
    rw [hone] at this;exact this))
  rw [a1] at main
  refine C8 main ?_
  rintro u w' ⟨e',p1,p2,p3,p4⟩
  refine ⟨e',p1,?_,a3.trans p3,fun j hj=>.inl (a4 j (p4 j hj)),trivial⟩
  show A5 T c e' (put of' (w1++[(id,_)]))
  rw [F8]
  exact p2
variable {P:Program} {T:TT} {c:F1} {e:A8} {of:Nat→Option Ob}
variable {a kt st el:Nat} {ho:Option V} {es:List (V×V×Bool)}
def B4y (T:TT) (t:Nat) (k:A) (q:Nat×Nat×Nat×Nat×List (V×V×Bool)×Option V):Option (List (Nat×Ob)×List Nat) :=
 match B2 T t with
 | some (.map kt et)=>match A0q T kt k with
  | some kv=>if Nat.beq kt q.2.1&&Nat.beq et q.2.2.1 then some ([(q.1,.sm q.2.1 q.2.2.1 q.2.2.2.1 (A0h kv q.2.2.2.2.1) q.2.2.2.2.2)],[q.1]) else none
  | none=>none
 | _=>none
theorem B4z (hT:F4 T P) {of':Nat→Option Ob} {id t kt0 ty:TypeId} {k:A} {x y:Value} {wo:List (Nat×Ob)} {ro:List Nat} (h:A5 T c e of') (hr:B4y T t k (id,kt,st,el,es,ho)=some (wo,ro)) (hof:of id=some (.sm kt st el es ho)) (hoo:∀ id∈ro,of' id=of id) (hx:B3 T e (.m id) x) (hy:B3 T e k y) :
  B9 P (do pure (.value (← Builtin.delete_ #[t,kt0] ty #[x,y]))) e.w (C4 T c e of' ⟨.x,wo,ro,[]⟩):=by
 unfold B4y at hr
 split at hr<;>try (cases hr;done)
 rename_i kt' et hk
 obtain ⟨tem,h1,h2⟩:=A6 hk
 have hu:=H2 (hT _ _ h1) h2
 split at hr<;>try (cases hr;done)
 rename_i kv hkv
 obtain ⟨hf,hkey⟩:=A0O hkv hy
 split at hr<;>try (cases hr;done)
 rename_i hc
 simp only [C3o] at hc
 have:=C3n hc.1;subst this
 have:=C3n hc.2;subst this
 injection hr with hr;injection hr with e1 e2;subst e1;subst e2
 have hof':=(hoo id (by simp)).trans hof
 obtain ⟨u1,u2,hks,hz,hz3,_⟩:=A4x h hof'
 obtain ⟨b,ms,clock,es',bs,v3,v4,vb,v6,v5,v8,v7,g⟩:=A2u hT h hof' hf hkey
 obtain ⟨b',_,_,u3,rfl⟩:=P1 hx
 rw [v3] at u3;cases u3
 have hg:(getObj b).run P e.w=.ok (.map ms clock) e.w:=MapKept.run_getObj_map v4
 have hck:∀ em,(Instr.checkKey em 10000 kt' y).run P e.w=.ok () e.w:=fun em=>H5 hT em e.w EQD kt' 9992 kv y hf hkey
 have hset:∀ o,(setObj b o).run P e.w=.ok () { e.w with heap:=e.w.heap.setIfInBounds b o }:=fun o=>MapKept.run_setObj_map o v4
 have hids:(of' id).isSome:=by rw [hof'];rfl
 have hnb:∀ b',e.G b b'→b'≠b:=fun b' hG q=>h.g.sep _ _ hG _ _ _ hids v3 q.symm
 have oth:∀ (o:Go.Obj) (k:Nat),k≠b→({ e.w with heap:=e.w.heap.setIfInBounds b o }:World).heap[k]? = e.w.heap[k]? := fun o k hk=>by simp [Ne.symm hk]
 have hkp:∀ {cs:List Nat} (o:Go.Obj),∀ b'∈cs,e.G b b'→({ e with w:={ e.w with heap:=e.w.heap.setIfInBounds b o } }:A8).G b b'∧({ e.w with heap:=e.w.heap.setIfInBounds b o }:World).heap[b']? = e.w.heap[b']? ∧ ∀ i,({ e with w:={ e.w with heap:=e.w.heap.setIfInBounds b o } }:A8).S b' i→e.S b' i:=fun o b' _ hG=>⟨hG,oth o b' (hnb b' hG),fun _ hs=>hs⟩
 rcases g with ⟨g1,g2,g3⟩ | ⟨i,me,xv,q0,g1,hm1,hm2,g2,g3,g4⟩
 ·obtain ⟨q1,q2⟩:=h.writeM hof' v3 v4 (ms':=ms) (cl':=clock) rfl (o':=.sm kt' et el (A0h kv es) ho) (fun hle hh =>
   ⟨u1,u2,hks,hz,hz3,b,_,_,v3,hh,⟨A10 v5,vb⟩,es',bs,by rw [M5,X8 (fun p hp=>g3 p (v6.mem_iff.2 hp))];exact v6,v7.keep' hle (hkp _)⟩)
  refine A1 (x:=.tuple #[]) ?_ ⟨_,rfl,q1,q2,fun j hj=>.inl hj,trivial⟩
  simp [Builtin.delete_,A2 hu,hg,hck,g1,hset]
 ·obtain ⟨b1,cs,k1,k2,k3,k4⟩:=v7.pull hm2 hm1
  obtain ⟨q1,q2⟩:=h.writeM hof' v3 v4 (ms':=ms.eraseIdxIfInBounds i) (cl':=clock) rfl (o':=.sm kt' et el (A0h kv es) ho) (fun hle hh =>
   ⟨u1,u2,hks,hz,hz3,b,_,_,v3,hh,⟨A10 v5,vb.erase i⟩,es'.eraseIdx i,cs,by rw [M5,← A0r v8 hm2];exact v6.filter _,by
    rw [A6O hm1]
    exact k2.keep' hle (hkp _)⟩)
  refine A1 (x:=.tuple #[]) ?_ ⟨_,rfl,q1,q2,fun j hj=>.inl hj,trivial⟩
  simp [Builtin.delete_,A2 hu,hg,hck,g1,hset]
theorem SR.length {bs:List Nat} {ms:List MapEntry} (h:SR T e a kt st el ho es ms bs):es.length=ms.length:=by
 induction h with
 | nil=>rfl
 | cons _ _ _ ih=>simp [ih]
def B6R (T:TT) (t:Nat) (q:Nat×Nat×Nat×Nat×List (V×V×Bool)×Option V):Option (A×List Nat) :=
 match B2 T t with
 | some (.map _ _)=>if Nat.ble q.2.2.2.2.1.length 9223372036854775807 then some (.i .i64 (q.2.2.2.2.1.length:Nat),[q.1]) else none
 | _=>none
theorem B6S (hT:F4 T P) {of':Nat→Option Ob} {id t ty:TypeId} {r:A} {x:Value} {ro:List Nat} (h:A5 T c e of') (hr:B6R T t (id,kt,st,el,es,ho)=some (r,ro)) (hof:of id=some (.sm kt st el es ho)) (hoo:∀ id∈ro,of' id=of id) (hx:B3 T e (.m id) x) :
  B9 P (do pure (.value (← Builtin.len_ #[t] ty #[x]))) e.w (C4 T c e of' ⟨r,[],ro,[]⟩):=by
 unfold B6R at hr
 split at hr<;>try (cases hr;done)
 rename_i kt' et hk
 obtain ⟨tem,h1,h2⟩:=A6 hk
 have hu:=H2 (hT _ _ h1) h2
 split at hr<;>try (cases hr;done)
 rename_i hl
 injection hr with hr;injection hr with e1 e2;subst e1;subst e2
 have hof':=(hoo id (by simp)).trans hof
 obtain ⟨u1,u2,hks,hz,hz3,b,ms,clock,v3,v4,v5,es',bs,v6,v7⟩:=A4x h hof'
 obtain ⟨b',_,_,u3,rfl⟩:=P1 hx
 rw [v3] at u3;cases u3
 have hlen:ms.size=es.length:=by rw [← v6.length_eq,v7.length,C3u]
 have hg:(getObj b).run P e.w=.ok (.map ms clock) e.w:=MapKept.run_getObj_map v4
 refine A1 (x:=.int .i64 ms.size) (w':=e.w) (by simp [Builtin.len_,A2 hu,goInt,hg]) ?_
 rw [hlen]
 exact A4 h (G6 (A2x hl))
def B4A (pos:String):Bool:=pos == "naming.go:22"||pos == "naming.go:190"
def A51 (T:TT) (lend:Bool) (nx:Nat) (of:Nat→Option Ob) (t:Nat) (m k:A) (ok:Bool):Option Out :=
 match A2Z of m with
 | some q=>bif lend&&!ok then A50 T nx t k q else (match A4y T t k ok q with
  | some (v,ro)=>some ⟨v,[],ro,[]⟩
  | none=>none)
 | none=>match A5w T of t m k ok with
  | some (v,ro)=>some ⟨v,[],ro,[]⟩
  | none=>none
theorem B4B (hT:F4 T P) {of':Nat→Option Ob} {nx t:Nat} {m k:A} {x y:Value} {lend ok:Bool} {out:Out} (h:A5 T c e of') (hr:A51 T lend nx of t m k ok=some out) (ho:∀ id∈out.ro,of' id=of id) (hu:∀ id∈out.nw,¬ e.U id) (hx:B3 T e m x) (hy:B3 T e k y) :
  B9 P (do pure (.value (← Instr.lookup t x y ok))) e.w (C4 T c e of' out):=by
 unfold A51 at hr
 split at hr
 ·rename_i q hq
  obtain ⟨id,kt,st,el,es,ho'⟩:=q
  obtain ⟨rfl,hof⟩:=A1A hq
  cases hl:lend&&!ok with
  | true =>
   rw [hl] at hr
   simp only [cond_true] at hr
   simp only [C3o,Bool.not_eq_true'] at hl
   obtain ⟨_,rfl⟩:=hl
   have A7:id∈out.ro:=by
    unfold A50 at hr
    (repeat' split at hr)<;>first | (cases hr;done) | (injection hr with hr;subst hr;simp)
   exact B4w hT h hr ((ho id A7).trans hof) hu hx hy
  | false =>
   rw [hl] at hr
   simp only [cond_false] at hr
   split at hr<;>try (cases hr;done)
   rename_i v ro hv
   injection hr with hr;subst hr
   have A7:id∈ro:=by
    unfold A4y at hv
    (repeat' split at hv)<;>first | (cases hv;done) | (injection hv with hv;injection hv with _ hv;subst hv;simp)
   exact B4v hT h hv ((ho id A7).trans hof) hx hy
 ·split at hr<;>try (cases hr;done)
  rename_i v ro hv
  injection hr with hr;subst hr
  exact B3d hT h hv ho hx hy
def B6T (T:TT) (of:Nat→Option Ob) (t:Nat) (m k v:A):Option (List (Nat×Ob)×List Nat) :=
 match A2Z of m with
 | some q=>B18 T of t k v q
 | none=>B3e T of t m k v
theorem B0J (hT:F4 T P) {of':Nat→Option Ob} {t:Nat} {m k v:A} {x y z:Value} {wo:List (Nat×Ob)} {ro:List Nat} (h:A5 T c e of') (hr:B6T T of t m k v=some (wo,ro)) (ho:∀ id∈ro,of' id=of id) (hx:B3 T e m x) (hy:B3 T e k y) (hz:B3 T e v z) :
  B9 P (do Instr.mapUpdate t x y z;pure .skip) e.w (C4 T c e of' ⟨.x,wo,ro,[]⟩):=by
 unfold B6T at hr
 split at hr
 ·rename_i q hq
  obtain ⟨id,kt,st,el,es,ho'⟩:=q
  obtain ⟨rfl,hof⟩:=A1A hq
  exact B6Q hT h hr hof ho hx hy hz
 ·exact B5K hT h hr ho hx hy hz
def B4C (T:TT) (of:Nat→Option Ob) (t:Nat) (m k:A):Option (List (Nat×Ob)×List Nat) :=
 match A2Z of m with
 | some q=>B4y T t k q
 | none=>B3f T of t m k
theorem B4D (hT:F4 T P) {of':Nat→Option Ob} {t kt0 ty:TypeId} {m k:A} {x y:Value} {wo:List (Nat×Ob)} {ro:List Nat} (h:A5 T c e of') (hr:B4C T of t m k=some (wo,ro)) (ho:∀ id∈ro,of' id=of id) (hx:B3 T e m x) (hy:B3 T e k y) :
  B9 P (do pure (.value (← Builtin.delete_ #[t,kt0] ty #[x,y]))) e.w (C4 T c e of' ⟨.x,wo,ro,[]⟩):=by
 unfold B4C at hr
 split at hr
 ·rename_i q hq
  obtain ⟨id,kt,st,el,es,ho'⟩:=q
  obtain ⟨rfl,hof⟩:=A1A hq
  exact B4z hT h hr hof ho hx hy
 ·exact B3g hT h hr ho hx hy
def A4A (T:TT) (of:Nat→Option Ob) (t:Nat) (u:A):Option (A×List Nat) :=
 match A2Z of u with
 | some q=>B6R T t q
 | none=>B1n T of t u
theorem B6U (hT:F4 T P) {of':Nat→Option Ob} {t ty:TypeId} {u r:A} {x:Value} {ro:List Nat} (h:A5 T c e of') (hr:A4A T of t u=some (r,ro)) (ho:∀ id∈ro,of' id=of id) (hx:B3 T e u x) :
  B9 P (do pure (.value (← Builtin.len_ #[t] ty #[x]))) e.w (C4 T c e of' ⟨r,[],ro,[]⟩):=by
 unfold A4A at hr
 split at hr
 ·rename_i q hq
  obtain ⟨id,kt,st,el,es,ho'⟩:=q
  obtain ⟨rfl,hof⟩:=A1A hq
  exact B6S hT h hr hof ho hx
 ·exact B5L hT h hr ho hx
def A3I (T:TT) (kt et:Nat):Ob :=
 match B2 T et with
 | some (.slice el)=>bif A5v T 8 el&&Nat.beq (B1 T et) 1&&Nat.blt 0 (B1 T el) then .sm kt et el [] none else A2M T kt et
 | _=>A2M T kt et
theorem A3f {t kt et id:Nat} (h:A5 T c e of) (ht:P.underlying t=some (.map kt et)) (hu:¬ e.U id) {r:Option Value} (hr:r=none∨∃ k n,r=some (.int k n)) {ro:List Nat} :
  B9 P (do pure (.value (← Instr.makeMap t r))) e.w (C4 T c e of ⟨.m id,[(id,A3I T kt et)],ro,[id]⟩):=by
 unfold A3I
 split
 ·rename_i el hk
  cases hc:A5v T 8 el&&Nat.beq (B1 T et) 1&&Nat.blt 0 (B1 T el) with
  | false=>exact A39 h ht hu hr
  | true =>
   simp only [C3o] at hc
   have hrun:(Instr.makeMap t r).run P e.w=.ok (.map (some e.w.heap.size)) (e.w.alloc (.map #[] 0)):=by
    rcases hr with rfl | ⟨k,n,rfl⟩
    ·simp [Instr.makeMap]
    ·simp [Instr.makeMap,A2 ht,asInt,asIntOf]
   have hok:OK T (e.newM id (.map #[] 0)) id (.sm kt et el [] none) :=
    ⟨.inl rfl,upd_same _ _ _,hk,C3n hc.1.2,by simpa [Nat.blt_eq] using hc.2,e.w.heap.size,#[],0,upd_same _ _ _,J2 _ _,⟨List.nodup_nil,B0G⟩,[],[],List.Perm.refl _,.nil⟩
   refine A1 hrun ⟨e.newM id (.map #[] 0),rfl,h.newM hu hok,h.le_newM hu _,fun j hj=>hj.elim (fun q=>.inr (by simp [q])) .inl,?_⟩
   exact RA.r ⟨e.w.heap.size,.inl rfl,upd_same _ _ _,upd_same _ _ _,rfl⟩ rfl .nil
 ·exact A39 h ht hu hr
variable {P:Program} {T:TT} {c:F1} {e:A8} {of:Nat→Option Ob}
structure M8 where
 val:A
 wo:List (Nat×Ob)
 ro:List Nat
 nx:Nat
def W2 (T:TT) (c:F1) (e:A8) (of:Nat→Option Ob) (nx:Nat) (f:M8) (x:Value) (w':World):Prop :=
 ∃ e':A8,e'.w=w'∧A5 T c e' (put of f.wo)∧e.le e'∧(∀ id,e'.U id→e.U id∨(nx≤id∧id < f.nx))∧B3 T e' f.val x
inductive P3 (T:TT) (e:A8):List A→List Value→Prop
 | nil:P3 T e [] []
 | cons {v x r s}:B3 T e v x→P3 T e r s→P3 T e (v::r) (x::s)
abbrev N9:=List A→(Nat→Option Ob)→Nat→Option M8
def C0 (P:Program) (T:TT) (f:FuncId) (s:N9):Prop :=
 ∀ (c:F1) (e:A8) (of of':Nat→Option Ob) (args:List A) (vals:Array Value) (nx:Nat) (out:M8),A5 T c e of'→s args of nx=some out→(∀ id∈out.ro,of' id=of id)→(∀ id,nx≤id→id < out.nx→¬ e.U id)→P3 T e args vals.toList →
  B9 P (callFunc f vals) e.w (W2 T c e of' nx out)
def M8.pv (nx:Nat) (v:A) (ro:List Nat):M8:=⟨v,[],ro,nx⟩
def X9 (nx:Nat) (o:Option Out):Option M8 :=
 match o with
 | some ⟨v,wo,ro,nw⟩=>match nw with
  | []=>some ⟨v,wo,ro,nx⟩
  | [k]=>if Nat.beq k nx then some ⟨v,wo,ro,nx+1⟩ else none
  | _=>none
 | none=>none
theorem Y6 {nx:Nat} {o:Option Out} {f:M8} (h:X9 nx o=some f):∃ out,o=some out∧f.ro=out.ro∧(∀ id∈out.nw,nx≤id∧id < f.nx)∧(∀ {c:F1} {e:A8} {of:Nat→Option Ob} {x w'},C4 T c e of out x w'→W2 T c e of nx f x w'):=by
 unfold X9 at h
 split at h<;>try (cases h;done)
 rename_i v wo ro nw
 split at h
 ·injection h with h;subst h
  refine ⟨_,rfl,rfl,?_,?_⟩
  ·intro id A7;cases A7
  ·rintro c e of x w' ⟨e',p1,p2,p3,p4,p5⟩
   exact ⟨e',p1,p2,p3,fun id A7=>(p4 id A7).elim .inl (fun q=>by cases q),p5⟩
 ·rename_i k
  split at h<;>try (cases h;done)
  rename_i hk
  have:=C3n hk;subst this
  injection h with h;subst h
  refine ⟨_,rfl,rfl,?_,?_⟩
  ·intro id A7
   simp only [List.mem_singleton] at A7;subst A7;exact ⟨Nat.le_refl _,Nat.lt_succ_self _⟩
  ·rintro c e of x w' ⟨e',p1,p2,p3,p4,p5⟩
   refine ⟨e',p1,p2,p3,fun id A7=>(p4 id A7).imp (fun q=>q) (fun q=>?_),p5⟩
   simp only [List.mem_singleton] at q;subst q;exact ⟨Nat.le_refl _,Nat.lt_succ_self _⟩
 ·cases h
theorem B6V {nx:Nat} {v:A} {ro:List Nat} {x:Value} {w':World} (h:C4 T c e of ⟨v,[],ro,[]⟩ x w'):W2 T c e of nx (.pv nx v ro) x w':=by
 obtain ⟨e',p1,p2,p3,p4,p5⟩:=h
 exact ⟨e',p1,p2,p3,fun id A7=>(p4 id A7).elim .inl (fun q=>by cases q),p5⟩
theorem B6W {nx:Nat} {v:A} {wo:List (Nat×Ob)} {ro:List Nat} {x:Value} {w':World} (h:C4 T c e of ⟨v,wo,ro,[]⟩ x w'):W2 T c e of nx ⟨v,wo,ro,nx⟩ x w':=by
 obtain ⟨e',p1,p2,p3,p4,p5⟩:=h
 exact ⟨e',p1,p2,p3,fun id A7=>(p4 id A7).elim .inl (fun q=>by cases q),p5⟩
theorem E5 {s:Sem Next} {w:World} {nx:Nat} {v:A} {ro:List Nat} (h:B9 P s w (C4 T c e of ⟨v,[],ro,[]⟩)):B9 P s w (W2 T c e of nx (.pv nx v ro)):=C8 h (fun _ _=>B6V)
theorem A0X {s:Sem Next} {w:World} {nx:Nat} {v:A} {wo:List (Nat×Ob)} {ro:List Nat} (h:B9 P s w (C4 T c e of ⟨v,wo,ro,[]⟩)):B9 P s w (W2 T c e of nx ⟨v,wo,ro,nx⟩):=C8 h (fun _ _=>B6W)
theorem OK.sh {id:Nat} {o:Ob} (h:OK T e id o):OK T e id (A3k o):=by
 cases o with
 | box t a sh =>
  obtain ⟨h1,h2,h2',h2'',b,cs,ty,fz,h3,h4,h5,h5',h6,h7⟩:=h
  exact ⟨h1,h2,h2',h2'',b,cs,ty,fz,h3,h4,h5,h5',h6,(fun hh=>by cases hh),h7.2⟩
 | row el ver xs nl sh =>
  obtain ⟨h1,h2,h3,h4,h4',h5,h6⟩:=h
  refine ⟨h1,h2,h3,h4,h4',h5,?_⟩
  rcases h6 with h6 | ⟨nn,b,o,cs,t,fz,pre,ys,post,g1,g2,g3,g4,g5,g6,g7,g8⟩
  ·exact .inl h6
  ·exact .inr ⟨nn,b,o,cs,t,fz,pre,ys,post,g1,g2,g3,g4,g5,g6,g7,(fun hh=>by cases hh),g8.2⟩
 | map kt et es=>exact h
 | vm kt et es=>exact h
 | sm _ _ _ _ _=>exact h
 | lp q=>exact h
 | it q=>exact h
theorem A5.weak {wo:List (Nat×Ob)} (h:A5 T c e of) (hw:V8 of wo):A5 T c e (put of wo):=by
 have key:∀ id,put of wo id=of id∨∃ o0,of id=some o0∧put of wo id=some (A3k o0):=fun id=>(A1q wo of of hw id (.inl rfl)).1
 have some':∀ id,(put of wo id).isSome→(of id).isSome:=fun id hs=>by
  rcases key id with k | ⟨o0,k1,k2⟩
  ·rw [← k];exact hs
  ·rw [k1];rfl
 refine ⟨fun id o ho=>?_,fun i j b o b' o' hi hj=>h.sep i j b o b' o' (some' _ hi) (some' _ hj),fun i b o hi=>h.own i b o (some' _ hi),h.lt,h.slt,h.s0,h.snew,h.os,h.tape,h.output,h.size,h.block,h.g.mono (fun _ _ q=>q) rfl (fun _ q=>q) (Nat.le_refl _) (fun j b o hj hb=>.inl ⟨j,o,some' j hj,hb⟩)⟩
 rcases key id with k | ⟨o0,k1,k2⟩
 ·rw [k] at ho;exact h.ok _ _ ho
 ·rw [k2] at ho;cases ho;exact (h.ok _ _ k1).sh
def shW (of:Nat→Option Ob):List Nat→List (Nat×Ob)
 | []=>[]
 | id::r=>match of id with
  | some o0=>bif A4Z o0 then shW of r else (id,A3k o0)::shW of r
  | none=>shW of r
theorem B6X {of:Nat→Option Ob}:∀ l:List Nat,V8 of (shW of l)∧∀ id∈U1 (shW of l),id∈l:=by
 intro l
 induction l with
 | nil=>exact ⟨fun p hp=>(by cases hp),fun id h=>(by cases h)⟩
 | cons k r ih =>
  simp only [shW]
  split
  ·rename_i o0 ho0
   cases A4Z o0 with
   | true=>exact ⟨ih.1,fun id h=>List.mem_cons_of_mem _ (ih.2 id h)⟩
   | false =>
    refine ⟨fun p hp=>?_,fun id h=>?_⟩
    ·rcases List.mem_cons.1 hp with rfl | hp
     ·exact ⟨o0,ho0,rfl⟩
     ·exact ih.1 p hp
    ·simp only [cond_false,U1,List.map_cons,List.mem_cons] at h
     rcases h with rfl | h
     ·exact List.mem_cons_self ..
     ·exact List.mem_cons_of_mem _ (ih.2 id h)
  ·exact ⟨ih.1,fun id h=>List.mem_cons_of_mem _ (ih.2 id h)⟩
def R7 (T:TT):A→Bool
 | .v t _=>Q7 T t
 | .g _ _ | .t _ | .x=>false
 | _=>true
theorem B6Y {cap:List A} (h:cap.all (R7 T)=true):bdP cap=none:=by
 unfold bdP
 split
 ·simp [R7] at h
 ·rfl
theorem B6Z {a:A} {x:Value} (h:B3 T e a x) (hc:R7 T a=true):RA T e [a] [x]∧one x=true:=by
 cases a with
 | v t y =>
  simp only [R7,Q7,C3o] at hc
  have hk:∃ k,B2 T t=some k∧k.agg=false:=by
   cases hk:B2 T t with
   | none=>rw [hk] at hc;simp at hc
   | some k=>rw [hk] at hc;exact ⟨k,rfl,by simpa using hc.1⟩
  have:=C5 h hk
  exact ⟨RA.v1 this,this.one x (by simp)⟩
 | g _ _=>cases hc
 | t _=>cases hc
 | x=>cases hc
 | _=>exact ⟨h,RA.one_ h x (by simp)⟩
theorem B60 {a:A} {x:Value} (h:RA T e [a] [x]) (hc:R7 T a=true):B3 T e a x:=by
 have ho:=RA.one_ h x (by simp)
 cases a with
 | v t y =>
  simp only [R7,Q7,C3o] at hc
  refine ⟨by rw [E6 ho];exact h.v_inv,⟨fun ⟨k,h1,h2⟩=>?_,fun ⟨cs,hx⟩=>by subst hx;cases ho⟩⟩
  rw [h1] at hc;simp [h2] at hc
 | g _ _=>cases hc
 | t _=>cases hc
 | x=>cases hc
 | _=>exact h
theorem B4E {a:A} {d:List Value} (h:RA T e [a] d) (hc:R7 T a=true):∃ x,d=[x]:=by
 cases a with
 | v t y =>
  simp only [R7] at hc
  have:=h.v_inv.one_len
  rw [E1 hc] at this
  exact List.length_eq_one_iff.1 this
 | g _ _=>cases hc
 | t _=>cases hc
 | x=>cases hc
 | _=>exact h.single rfl
theorem B61:∀ {l:List A} {vs:List Value},P3 T e l vs→l.all (R7 T)=true→RA T e l vs:=by
 intro l vs h
 induction h with
 | nil=>intro _;exact .nil
 | @cons v x r s h1 _ ih =>
  intro hc
  simp only [List.all_cons,C3o] at hc
  exact RA.append (l:=[v]) (xs:=[x]) (B6Z h1 hc.1).1 (ih hc.2)
theorem B0K:∀ {l:List A} {vs:List Value},RA T e l vs→l.all (R7 T)=true→P3 T e l vs:=by
 intro l
 induction l with
 | nil=>intro vs h _;cases h;exact .nil
 | cons a l ih =>
  intro vs h hc
  simp only [List.all_cons,C3o] at hc
  obtain ⟨d,r,rfl,h1,h2⟩:=h.uncons
  obtain ⟨x,rfl⟩:=B4E h1 hc.1
  exact .cons (B60 h1 hc.1) (ih h2 hc.2)
theorem P3.append {a b:List A} {x y:List Value} (h:P3 T e a x) (k:P3 T e b y):P3 T e (a++b) (x++y):=by
 induction h with
 | nil=>exact k
 | cons h1 _ ih=>exact .cons h1 ih
theorem P3.get {l:List A} {xs:List Value} (h:P3 T e l xs):xs.length=l.length∧∀ (i:Nat) v x,l[i]? = some v→xs[i]? = some x→B3 T e v x:=by
 induction h with
 | nil=>exact ⟨rfl,fun i v x h=>by simp at h⟩
 | cons h1 _ ih =>
  refine ⟨by simp [ih.1],fun i v x hv hx=>?_⟩
  cases i with
  | zero=>simp at hv hx;subst hv;subst hx;exact h1
  | succ i=>exact ih.2 i v x (by simpa using hv) (by simpa using hx)
theorem P3.mono {e e':A8} (he:e.le e') {l:List A} {xs:List Value} (h:P3 T e l xs):P3 T e' l xs:=by
 induction h with
 | nil=>exact .nil
 | cons h1 _ ih=>exact .cons (h1.mono he) ih
def A6P:Value→A
 | .int k n=>if A9P k n then .i k n else .x
 | .bool b=>.b b
 | .string s=>.s (W9 s)
 | v=>if A1Y v then .z v else .x
theorem B19 (v:Value):B3 T e (A6P v) v:=by
 unfold A6P
 split
 ·split
  ·rename_i h;exact G6 (A4I h)
  ·trivial
 ·exact A17 _
 ·exact A3S _
 ·split
  ·rename_i h;exact RA.z h .nil
  ·trivial
def J9 (sl:Nat→A):Operand→A
 | .tmp t=>sl t
 | .const v=>A6P v
 | .func f=>.f f []
 | .global _=>.x
theorem A9H {sl:Nat→A} {a:Act} {x:Operand} (h:∀ t,x=.tmp t→B3 T e (sl t) (a.tmps.getD t undef)):B3 T e (J9 sl x) (a.eval x):=by
 cases x with
 | tmp t=>exact h t rfl
 | const v=>exact B19 v
 | global g=>trivial
 | func f=>exact RA.f .nil .nil
variable {P:Program} {T:TT} {c:F1} {e:A8} {of:Nat→Option Ob}
structure KS where
 f:Nat→N9
 y:Nat→N9
 ord:Nat→Bool
instance:CoeFun KS (fun _=>Nat→N9):=⟨KS.f⟩
def YOK (P:Program) (T:TT) (id:Nat) (s:N9):Prop :=
 ∀ (c:F1) (e:A8) (of of':Nat→Option Ob) (args:List A) (vals:Array Value) (nx:Nat) (out:M8) (b:Nat),A5 T c e of'→s args of nx=some out→(∀ id∈out.ro,of' id=of id)→(∀ id,nx≤id→id < out.nx→¬ e.U id)→P3 T e args vals.toList →
  e.U id→e.bn id=0→e.ι id=some (b,0)→B9 P (Instr.yield b vals) e.w (W2 T c e of' nx out)
structure KOK (P:Program) (T:TT) (K:KS):Prop where
 f:∀ f,C0 P T f (K.f f)
 y:∀ id,YOK P T id (K.y id)
 ord:∀ f,K.ord f=true→∀ (vals:Array Value) (w:World),(callFunc f vals).run P w=.ok (.enter f vals) w
def KS.no (f:Nat→N9):KS:=⟨f,fun _ _ _ _=>none,fun _=>false⟩
theorem KOK.no {f:Nat→N9} (h:∀ i,C0 P T i (f i)):KOK P T (.no f):=⟨h,fun id c e of of' args vals nx out b _ hr=>(by cases hr),fun f h=>(by cases h)⟩
theorem B2a {id:Nat} {v:Value} (h:B3 T e (.y id) v):∃ b,e.U id∧e.bn id=0∧e.ι id=some (b,0)∧v=.func (.yield b) #[] #[]:=by
 have h:RA T e [.y id] [v]:=h
 cases h with
 | r h1 _ _=>exact h1
def U2 (T:TT) (K:KS) (ev:Operand→A) (of:Nat→Option Ob) (nx:Nat) (k:Call):Option M8 :=
 match k.callee with
 | .value f=>match ev f with
  | .f fn cap=>match bdP cap with
   | some p=>K fn (p::k.args.toList.map ev) of nx
   | none=>if cap.all (R7 T) then K fn (k.args.toList.map ev++cap) of nx else none
  | .y id=>K.y id (k.args.toList.map ev) of nx
  | _=>none
 | .builtin .len=>match k.argTypes.toList,k.args.toList with
  | [t],[x]=>match A4A T of t (ev x) with
   | some (v,ro)=>some (.pv nx v ro)
   | none=>none
  | _,_=>none
 | .builtin .cap=>match k.argTypes.toList,k.args.toList with
  | [t],[x]=>match B93 T t (ev x) with
   | some v=>some (.pv nx v [])
   | none=>none
  | _,_=>none
 | .builtin .append=>match k.argTypes.toList,k.args.toList with
  | [t,xt],[x,y]=>if A0v T xt (ev y) then X9 nx (A0i T of nx t (ev x) (ev y)) else if isQ T (ev x) then X9 nx (A2L T nx t xt (ev x) (ev y)) else none
  | _,_=>none
 | .builtin .min=>match k.args.toList with
  | [x,y]=>match B2i false (ev x) (ev y) with
   | some v=>some (.pv nx v [])
   | none=>none
  | _=>none
 | .builtin .max=>match k.args.toList with
  | [x,y]=>match B2i true (ev x) (ev y) with
   | some v=>some (.pv nx v [])
   | none=>none
  | _=>none
 | .builtin .delete=>match k.argTypes.toList,k.args.toList with
  | [t,_],[x,y]=>match B4C T of t (ev x) (ev y) with
   | some (wo,ro)=>some ⟨.x,wo,ro,nx⟩
   | none=>none
  | _,_=>none
 | .builtin .copy=>match k.argTypes.toList,k.args.toList with
  | [t,xt],[x,y]=>match W8 T of t xt (ev x) (ev y) with
   | some (v,wo,ro)=>some ⟨v,wo,ro,nx⟩
   | none=>none
  | _,_=>none
 | _=>none
theorem H6 {s s':Sem Next} {w:World} {R:Value→World→Prop} (h:∀ w,s.run P w=s'.run P w) (hd:B9 P s' w R):B9 P s w R:=by
 unfold B9 at hd ⊢
 rw [h];exact hd
theorem A9I {α:Type} {a:Array α} {x:α} (h:a.toList=[x]):a=#[x]:=by
 have:=congrArg List.toArray h;simpa using this
theorem A05 {α:Type} {a:Array α} {x y:α} (h:a.toList=[x,y]):a=#[x,y]:=by
 have:=congrArg List.toArray h;simpa using this
theorem A2v {ev:Operand→A} {ρ:Operand→Value} (hx:∀ x,B3 T e (ev x) (ρ x)):∀ l:List Operand,P3 T e (l.map ev) (l.map ρ):=by
 intro l
 induction l with
 | nil=>exact .nil
 | cons x r ih=>exact .cons (hx x) ih
theorem B4F (hT:F4 T P) {K:KS} (hK:KOK P T K) {of':Nat→Option Ob} {nx:Nat} {k:Call} {ev:Operand→A} {ρ:Operand→Value} {out:M8} (h:A5 T c e of') (hr:U2 T K ev of nx k=some out) (ho:∀ id∈out.ro,of' id=of id)
  (hu:∀ id,nx≤id→id < out.nx→¬ e.U id) (hx:∀ x,B3 T e (ev x) (ρ x)) (ty:TypeId) :
  B9 P (do let d ← resolve ρ k ty;invoke d.target d.args) e.w (W2 T c e of' nx out):=by
 unfold U2 at hr
 split at hr
 ·rename_i f hk
  split at hr<;>try (cases hr;done)
  case h_2 id hf =>
   have hf':=hx f
   rw [hf] at hf'
   obtain ⟨b,y1,y2,y3,hv⟩:=B2a hf'
   have q1:=hK.y id c e of of' _ (k.args.map ρ) nx out b h hr ho hu (by rw [Array.toList_map];exact A2v hx _) y1 y2 y3
   refine H6 (s':=Instr.yield b (k.args.map ρ)) (fun w=>?_) q1
   simp [resolve,hk,hv,Deferred.ofValue,invoke]
  rename_i fn cap hf
  split at hr
  ·rename_i p hbd
   have hf':=hx f
   rw [hf] at hf'
   obtain ⟨y,hv,hy⟩:=A9R hf' hbd
   have q1:=hK.f fn c e of of' _ (#[y]++k.args.map ρ) nx out h hr ho hu (by rw [Array.toList_append,Array.toList_map];exact .cons hy (A2v hx _))
   refine H6 (s':=callFunc fn (#[y]++k.args.map ρ)) (fun w=>?_) q1
   simp [resolve,hk,hv,Deferred.ofValue,invoke]
  rename_i hbd
  split at hr<;>try (cases hr;done)
  rename_i hcap
  have hf':=hx f
  rw [hf] at hf'
  obtain ⟨vs,hv,hvs⟩:=A57 hf' hbd
  have hcaps:=B0K hvs hcap
  have q1:=hK.f fn c e of of' _ (k.args.map ρ++vs.toArray) nx out h hr ho hu (by rw [Array.toList_append,Array.toList_map];exact (A2v hx _).append hcaps)
  refine H6 (s':=callFunc fn (k.args.map ρ++vs.toArray)) (fun w=>?_) q1
  simp [resolve,hk,hv,Deferred.ofValue,invoke]
 ·rename_i hk
  split at hr<;>try (cases hr;done)
  rename_i t x hty har
  split at hr<;>try (cases hr;done)
  rename_i v ro hl
  injection hr with hr;subst hr
  have hrun:∀ w,(do let d ← resolve ρ k ty;invoke d.target d.args:Sem Next).run P w=(do pure (.value (← Builtin.len_ #[t] ty #[ρ x])):Sem Next).run P w:=fun w=>by
   simp [resolve,hk,invoke,builtin,A9I hty,A9I har]
  exact H6 hrun (E5 (B6U hT h hl ho (hx x)))
 ·rename_i hk
  split at hr<;>try (cases hr;done)
  rename_i t x hty har
  split at hr<;>try (cases hr;done)
  rename_i v hl
  injection hr with hr;subst hr
  have hrun:∀ w,(do let d ← resolve ρ k ty;invoke d.target d.args:Sem Next).run P w=(do pure (.value (← Builtin.cap_ #[t] ty #[ρ x])):Sem Next).run P w:=fun w=>by
   simp [resolve,hk,invoke,builtin,A9I hty,A9I har]
  exact H6 hrun (E5 (B66 hT h hl (hx x)))
 ·rename_i hk
  split at hr<;>try (cases hr;done)
  rename_i t xt x y hty har
  have hrun:∀ w,(do let d ← resolve ρ k ty;invoke d.target d.args:Sem Next).run P w=(do pure (.value (← Builtin.append_ #[t,xt] ty #[ρ x,ρ y])):Sem Next).run P w:=fun w=>by
   simp [resolve,hk,invoke,builtin,A05 hty,A05 har]
  split at hr
  ·rename_i hap
   obtain ⟨o2,h2,h3,h4,h5⟩:=Y6 hr
   exact H6 hrun (C8 (A8A h hT hap h2 (by rw [← h3];exact ho) (fun id A7=>hu id (h4 id A7).1 (h4 id A7).2) (hx x) (hx y)) (fun _ _=>h5))
  ·split at hr<;>try (cases hr;done)
   rename_i hq
   obtain ⟨o2,h2,h3,h4,h5⟩:=Y6 hr
   exact H6 hrun (C8 (B1m hT h h2 hq (fun id A7=>hu id (h4 id A7).1 (h4 id A7).2) (hx x) (hx y)) (fun _ _=>h5))
 ·rename_i hk
  split at hr<;>try (cases hr;done)
  rename_i x y har
  split at hr<;>try (cases hr;done)
  rename_i v hl
  injection hr with hr;subst hr
  have hrun:∀ w,(do let d ← resolve ρ k ty;invoke d.target d.args:Sem Next).run P w=(do pure (.value (← Builtin.min_ k.argTypes ty #[ρ x,ρ y])):Sem Next).run P w:=fun w=>by
   simp [resolve,hk,invoke,builtin,A05 har]
  exact H6 hrun (E5 (B94 h hl (hx x) (hx y)))
 ·rename_i hk
  split at hr<;>try (cases hr;done)
  rename_i x y har
  split at hr<;>try (cases hr;done)
  rename_i v hl
  injection hr with hr;subst hr
  have hrun:∀ w,(do let d ← resolve ρ k ty;invoke d.target d.args:Sem Next).run P w=(do pure (.value (← Builtin.max_ k.argTypes ty #[ρ x,ρ y])):Sem Next).run P w:=fun w=>by
   simp [resolve,hk,invoke,builtin,A05 har]
  exact H6 hrun (E5 (B95 h hl (hx x) (hx y)))
 ·rename_i hk
  split at hr<;>try (cases hr;done)
  rename_i t t2 x y hty har
  split at hr<;>try (cases hr;done)
  rename_i wo ro hl
  injection hr with hr;subst hr
  have hrun:∀ w,(do let d ← resolve ρ k ty;invoke d.target d.args:Sem Next).run P w=(do pure (.value (← Builtin.delete_ #[t,t2] ty #[ρ x,ρ y])):Sem Next).run P w:=fun w=>by
   simp [resolve,hk,invoke,builtin,A05 hty,A05 har]
  exact H6 hrun (A0X (B4D hT h hl ho (hx x) (hx y)))
 ·rename_i hk
  split at hr<;>try (cases hr;done)
  rename_i t xt x y hty har
  split at hr<;>try (cases hr;done)
  rename_i v wo ro hl
  injection hr with hr;subst hr
  have hrun:∀ w,(do let d ← resolve ρ k ty;invoke d.target d.args:Sem Next).run P w=(do pure (.value (← Builtin.copy_ #[t,xt] ty #[ρ x,ρ y])):Sem Next).run P w:=fun w=>by
   simp [resolve,hk,invoke,builtin,A05 hty,A05 har]
  exact H6 hrun (A0X (B28 hT h hl ho (hx x) (hx y)))
 ·cases hr
def A12 (ev:Operand→A) (parts:List (Nat×Operand)):List (Nat×A):=parts.map fun p=>(p.1,ev p.2)
theorem A52 {ev:Operand→A} {ρ:Operand→Value} (hx:∀ x,B3 T e (ev x) (ρ x)):∀ (l:List (Nat×Operand)),A3U T e (A12 ev l) (l.map fun p=>(p.1,ρ p.2)):=by
 intro l
 induction l with
 | nil=>exact .nil
 | cons p r ih=>exact .cons (hx _) ih
theorem A6Q {ev:Operand→A} {ρ:Operand→Value} (hx:∀ x,B3 T e (ev x) (ρ x)) (o:Option Operand):X4 T e (o.map ev) (o.map ρ):=by
 cases o with
 | none=>exact .none
 | some x=>exact .some (hx x)
def A6R (T:TT) (ty nx:Nat) (u:A):M8 :=
 match u with
 | .z v=>match B2 T ty with
  | some (.slice el)=>if A3Q v&&Nat.blt 0 (B1 T el) then ⟨.o nx 1,[(nx,.row el 1 [] true false)],[],nx+1⟩ else .pv nx u []
  | _=>.pv nx u []
 | _=>.pv nx u []
def A0a (T:TT) (nx t:Nat) (u v:A):Option M8 :=
 match B2 T t,u,v with
 | some (.slice el),.i _ a,.i _ b=>match T el with
  | some te=>if Nat.blt 0 te.size&&TK.notOther te.k&&Nat.ble te.bytes 131072&&J1 0 a&&J1 a b&&J1 b LIM then some ⟨.o nx 1,[(nx,.row el 1 (List.replicate a.toNat te.zero) false false)],[],nx+1⟩ else none
  | none=>none
 | _,_,_=>none
def A4B (T:TT) (nx t:Nat) (r:Option A):Option M8 :=
 match B2 T t with
 | some (.map kt et)=>match r with
  | none=>some ⟨.m nx,[(nx,A3I T kt et)],[],nx+1⟩
  | some (.i _ _)=>some ⟨.m nx,[(nx,A3I T kt et)],[],nx+1⟩
  | _=>none
 | _=>none
def A8c (T:TT) (of:Nat→Option Ob) (nx t:Nat) (m k v:A):Option M8 :=
 match B6T T of t m k v with
 | some (wo,ro)=>some ⟨.x,wo,ro,nx⟩
 | none=>none
def pvO (nx:Nat) (o:Option A):Option M8 :=
 match o with
 | some v=>some (.pv nx v [])
 | none=>none
def pvR (nx:Nat) (o:Option (A×List Nat)):Option M8 :=
 match o with
 | some (v,ro)=>some (.pv nx v ro)
 | none=>none
def pvW (nx:Nat) (o:Option (A×List (Nat×Ob)×List Nat)):Option M8 :=
 match o with
 | some (v,wo,ro)=>some ⟨v,wo,ro,nx⟩
 | none=>none
def M0 (T:TT) (K:KS) (ev:Operand→A) (of:Nat→Option Ob) (nx:Nat) (o:Oper):Option M8 :=
 match o.op with
 | .move x=>some (.pv nx (ev x) [])
 | .assign x=>some (A6R T o.type nx (ev x))
 | .pick q a b=>match ev q with
  | .b t=>some (.pv nx (bif t then ev a else ev b) [])
  | _=>none
 | .alloc el=>match T el with
  | some te=>if TK.notOther te.k then some ⟨.p nx el [],[(nx,.box el (.v el te.zero) false)],[],nx+1⟩ else none
  | none=>none
 | .box el x=>match H7 T el (ev x) with
  | some a=>some ⟨.p nx el [],[(nx,.box el a false)],[],nx+1⟩
  | none=>none
 | .build t parts=>match A6f T t (A12 ev parts.toList) with
  | some v=>some (.pv nx v [])
  | none=>none
 | .buildSlice t len parts=>X9 nx (S5 T of nx t len (A12 ev parts.toList))
 | .load t a=>pvR nx (Q5 T of t (ev a))
 | .store t a x=>match A1k T of t (ev a) (ev x) with
  | some (wo,ro)=>some ⟨.x,wo,ro,nx⟩
  | none=>none
 | .sliceToArrayPointer t x=>pvW nx (A8i T of t (ev x))
 | .nilCheck x=>match B69 of (ev x) with
  | some ro=>some (.pv nx (ev x) ro)
  | none=>none
 | .binOp op t x y _=>pvR nx (A4G T of op t (ev x) (ev y))
 | .unOp op _ x=>pvO nx (unA op (ev x))
 | .convert s t x=>X9 nx (A1O T of nx s t (ev x))
 | .makeFunc fn first captured=>match fn with
  | .func f=>if Nat.beq first.toList.length 0 then (if (captured.toList.map ev).all (R7 T) then some (.pv nx (.f f (captured.toList.map ev)) []) else none) else pvO nx (bdF f (first.toList.map ev) (captured.toList.map ev))
  | _=>none
 | .makeSlice t l k=>A0a T nx t (ev l) (ev k)
 | .makeMap t r=>A4B T nx t (r.map ev)
 | .lookup t m k ok=>X9 nx (A51 T (B4A o.pos) nx of t (ev m) (ev k) ok)
 | .mapUpdate t m k v=>A8c T of nx t (ev m) (ev k) (ev v)
 | .insert t m k v=>A8c T of nx t (ev m) (ev k) (ev v)
 | .slice t x lo hi mx=>pvW nx (A0N T of t (ev x) (lo.map ev) (hi.map ev) (mx.map ev))
 | .fieldAddr s x f=>pvR nx (M9 T of s f (ev x))
 | .field s x f=>pvO nx (A6X T s f (ev x))
 | .indexAddr t x ix=>match ev ix with
  | .i _ i=>pvR nx (J8 T of t i (ev x))
  | _=>none
 | .index t x ix=>match ev ix with
  | .i _ i=>pvO nx (A21 T t i (ev x))
  | _=>none
 | .extract x i=>pvO nx (B67 i (ev x))
 | .call k=>U2 T K ev of nx k
 | .range t x=>X9 nx (A6q T of nx t (ev x))
 | .next x str=>if str then none else pvR nx (B0f of (ev x))
 | _=>none
theorem A1g {nx:Nat} {o:Option A} {f:M8} (h:pvO nx o=some f):∃ v,o=some v∧f=.pv nx v []:=by
 unfold pvO at h
 split at h
 ·injection h with h;exact ⟨_,rfl,h.symm⟩
 ·cases h
theorem A1h {nx:Nat} {o:Option (A×List Nat)} {f:M8} (h:pvR nx o=some f):∃ v ro,o=some (v,ro)∧f=.pv nx v ro:=by
 unfold pvR at h
 split at h
 ·injection h with h;exact ⟨_,_,rfl,h.symm⟩
 ·cases h
theorem A8d {nx:Nat} {o:Option (A×List (Nat×Ob)×List Nat)} {f:M8} (h:pvW nx o=some f):∃ v wo ro,o=some (v,wo,ro)∧f=⟨v,wo,ro,nx⟩:=by
 unfold pvW at h
 split at h
 ·injection h with h;exact ⟨_,_,_,rfl,h.symm⟩
 ·cases h
theorem A0B {s:Sem Next} {w:World} {nx id:Nat} {v:A} {wo:List (Nat×Ob)} {ro:List Nat} (hd:B9 P s w (C4 T c e of ⟨v,wo,ro,[nx]⟩)):B9 P s w (W2 T c e of nx ⟨v,wo,ro,nx+1⟩) :=
 C8 hd (fun _ _ ⟨e',p1,p2,p3,p4,p5⟩=>⟨e',p1,p2,p3,fun id A7=>(p4 id A7).imp (fun q=>q) (fun q=>by simp only [List.mem_singleton] at q;subst q;exact ⟨Nat.le_refl _,Nat.lt_succ_self _⟩),p5⟩)
theorem B2b (hT:F4 T P) {K:KS} (hK:KOK P T K) {of':Nat→Option Ob} {nx:Nat} {o:Oper} {ev:Operand→A} {ρ:Operand→Value} {out:M8} (h:A5 T c e of') (hr:M0 T K ev of nx o=some out) (ho:∀ id∈out.ro,of' id=of id) (hu:∀ id,nx≤id→id < out.nx→¬ e.U id)
  (hc:∀ v,ρ (.const v)=v) (hx:∀ x,B3 T e (ev x) (ρ x)):B9 P (execOp ρ o) e.w (W2 T c e of' nx out):=by
 have pure':∀ {v:A} {x:Value} {s:Sem Next},s=pure (.value x)→B3 T e v x→B9 P s e.w (W2 T c e of' nx (.pv nx v [])):=fun {v x s} hs hv=>by
  subst hs
  exact E5 (.inl ⟨x,e.w,by simp,A4 h hv⟩)
 obtain ⟨dst,op,ty,pos,after,guard⟩:=o
 cases op<;>simp only [M0] at hr<;>try (cases hr;done)
 case move x =>
  injection hr with hr;subst hr
  exact pure' rfl (hx x)
 case assign x =>
  injection hr with hr
  unfold A6R at hr
  split at hr
  ·rename_i v hv
   split at hr
   ·rename_i el hk
    split at hr
    ·rename_i hcc
     simp only [C3o] at hcc
     subst hr
     have hxx:=hx x
     rw [hv] at hxx
     have hxv:ρ x=.slice none 0 0:=by
      have hxx:RA T e [.z v] [ρ x]:=hxx
      generalize ρ x=r at hxx
      cases hxx with
      | z _ _=>exact A0K hcc.1
      | r g1 _ _=>exact g1.elim
     refine A0B (id:=nx) (.inl ⟨.slice none 0 0,e.w,by simp [execOp,hxv],A7e (nl:=true) h (hu nx (Nat.le_refl _) (Nat.lt_succ_self _)) rfl (by simpa [Nat.blt_eq] using hcc.2)⟩)
    ·subst hr;exact pure' rfl (hv ▸ hx x)
   ·subst hr;exact pure' rfl (hv ▸ hx x)
  ·subst hr;exact pure' rfl (hx x)
 case pick q a b =>
  split at hr<;>try (cases hr;done)
  rename_i t hq
  injection hr with hr;subst hr
  have hq':=hx q
  rw [hq] at hq'
  have e1:=Y4 hq'
  refine E5 (.inl ⟨if t then ρ a else ρ b,e.w,by simp [execOp,e1,asBool],A4 h ?_⟩)
  cases t
  ·exact hx b
  ·exact hx a
 case alloc el =>
  split at hr<;>try (cases hr;done)
  rename_i te hte
  split at hr<;>try (cases hr;done)
  rename_i hne
  injection hr with hr;subst hr
  exact A0B (id:=nx) (B14 h hT hte hne (hu nx (Nat.le_refl _) (Nat.lt_succ_self _)))
 case box el x =>
  split at hr<;>try (cases hr;done)
  rename_i a ha
  injection hr with hr;subst hr
  exact A0B (id:=nx) (B6M h (hu nx (Nat.le_refl _) (Nat.lt_succ_self _)) (hx x) ha)
 case build t parts =>
  split at hr<;>try (cases hr;done)
  rename_i v h2
  injection hr with hr;subst hr
  have:=B00 (ro:=[]) hT h (A52 hx parts.toList) h2
  rw [← Array.toList_map,Array.toArray_toList] at this
  exact E5 this
 case buildSlice t len parts =>
  obtain ⟨o2,h2,h3,h4,h5⟩:=Y6 hr
  have:=A3X h hT h2 (by rw [← h3];exact ho) (fun id A7=>hu id (h4 id A7).1 (h4 id A7).2) (A52 hx parts.toList)
  rw [← Array.toList_map,Array.toArray_toList] at this
  exact C8 this (fun _ _=>h5)
 case load t a =>
  obtain ⟨v,ro,h2,rfl⟩:=A1h hr
  exact E5 (B4L hT h h2 ho (hx a))
 case store t a x =>
  split at hr<;>try (cases hr;done)
  rename_i wo ro h2
  injection hr with hr;subst hr
  exact A0X (A56 hT h h2 ho (hx a) (hx x))
 case sliceToArrayPointer t x =>
  obtain ⟨v,wo,ro,h2,rfl⟩:=A8d hr
  exact A0X (B7b hT h h2 ho (hx x))
 case nilCheck x =>
  split at hr<;>try (cases hr;done)
  rename_i ro h2
  injection hr with hr;subst hr
  exact E5 (B7a rfl h h2 ho (hx x))
 case binOp op t x y t2 =>
  obtain ⟨v,ro,h2,rfl⟩:=A1h hr
  exact E5 (B2d hT h (hx x) (hx y) h2 ho)
 case unOp op t x =>
  obtain ⟨v,h2,rfl⟩:=A1g hr
  exact E5 (B96 h h2 (hx x))
 case convert s t x =>
  obtain ⟨o2,h2,h3,h4,h5⟩:=Y6 hr
  exact C8 (B4O hT h h2 (by rw [← h3];exact ho) (fun id A7=>hu id (h4 id A7).1 (h4 id A7).2) (hx x)) (fun _ _=>h5)
 case makeFunc fn first captured =>
  split at hr<;>try (cases hr;done)
  rename_i f
  split at hr
  rotate_left
  ·obtain ⟨v,h2,rfl⟩:=A1g hr
   unfold bdF at h2
   split at h2<;>try (cases h2;done)
   rename_i id t path hfi hca
   injection h2 with h2;subst h2
   obtain ⟨x,hfx⟩:∃ x,first.toList=[x]:=by
    cases hl:first.toList with
    | nil=>rw [hl] at hfi;cases hfi
    | cons x r=>cases r with
     | nil=>exact ⟨x,rfl⟩
     | cons y r=>rw [hl] at hfi;simp at hfi
   have hcx:captured=#[]:=by
    have:captured.toList=[]:=by
     cases hl:captured.toList with
     | nil=>rfl
     | cons x r=>rw [hl] at hca;cases hca
    simpa using this
   rw [hfx] at hfi
   have hp:ev x=.p id t path:=by simpa using hfi
   have hxx:=hx x
   rw [hp] at hxx
   obtain ⟨b,off,q1,q2,q3,q4,q5⟩:=F6 hxx
   refine E5 (.inl ⟨.func (.func f) #[ρ x] #[],e.w,by simp [execOp,Instr.makeFunc,A9I hfx,hcx],A4 h ?_⟩)
   exact RA.r (a:=.f f [.t [.p id t path]]) ⟨b,off,q1,q2,q3,q4,by rw [q5]⟩ rfl .nil
  rename_i hc1
  split at hr<;>try (cases hr;done)
  rename_i hc2
  have hcc:=And.intro hc1 hc2
  injection hr with hr;subst hr
  have h0:first=#[]:=by
   have:=C3n hcc.1
   rw [C3u] at this
   exact Array.eq_empty_of_size_eq_zero this
  refine E5 (.inl ⟨.func (.func f) #[] (captured.map ρ),e.w,by simp [execOp,Instr.makeFunc,h0],A4 h ?_⟩)
  have:=RA.f (fn:=f) (B61 (A2v hx captured.toList) hcc.2) .nil
  have e1:captured.map ρ=(captured.toList.map ρ).toArray:=Array.ext' (by rw [Array.toList_map])
  rw [e1]
  exact this
 case makeSlice t l k =>
  unfold A0a at hr
  split at hr<;>try (cases hr;done)
  rename_i el k1 a k2 b hk hl hkk
  split at hr<;>try (cases hr;done)
  rename_i te hte
  split at hr<;>try (cases hr;done)
  rename_i hcc
  simp only [C3o,K9] at hcc
  obtain ⟨⟨⟨⟨⟨c1,c2⟩,c3⟩,c4⟩,c5⟩,c6⟩:=hcc
  injection hr with hr;subst hr
  obtain ⟨te',h1,h2⟩:=A6 hk
  have hl':=hx l
  have hk':=hx k
  rw [hl] at hl'
  rw [hkk] at hk'
  have e1:=B8 hl'
  have e2:=B8 hk'
  refine ?_
  show B9 P (do pure (.value (← Instr.makeSlice t (ρ l) (ρ k)))) _ _
  rw [e1,e2]
  have hb:=C3t c3
  have hbb:b * te.bytes≤140737488355328:=by
   have h1:(b:Int)≤1073741824:=c6
   have h2:(te.bytes:Int)≤131072:=by omega
   calc b * te.bytes≤1073741824 * te.bytes:=Int.mul_le_mul_of_nonneg_right h1 (by omega)
    _≤1073741824 * 131072:=Int.mul_le_mul_of_nonneg_left h2 (by omega)
    _≤140737488355328:=by omega
  have h63:b≤4611686018427387904:=by have h1:(b:Int)≤1073741824:=c6;omega
  exact A0B (id:=nx) (B2v (ro:=[]) h hT (D4 (hT _ _ h1) h2) hte (S4 c2) (hu nx (Nat.le_refl _) (Nat.lt_succ_self _)) (by simpa [Nat.blt_eq] using c1) c4 c5 hbb h63)
 case makeMap t r =>
  unfold A4B at hr
  split at hr<;>try (cases hr;done)
  rename_i kt et hk
  obtain ⟨te',h1,h2⟩:=A6 hk
  split at hr<;>try (cases hr;done)
  ·rename_i hrn
   have hr0:r=none:=by cases r<;>first | rfl | (simp at hrn;done)
   subst hr0
   injection hr with hr;subst hr
   exact A0B (id:=nx) (A3f h (H2 (hT _ _ h1) h2) (hu nx (Nat.le_refl _) (Nat.lt_succ_self _)) (.inl rfl))
  ·rename_i k n hrn
   obtain ⟨x,rfl,hxn⟩:∃ x,r=some x∧ev x=.i k n:=by cases r<;>simp at hrn;exact ⟨_,rfl,hrn⟩
   injection hr with hr;subst hr
   have hx':=hx x
   rw [hxn] at hx'
   exact A0B (id:=nx) (A3f h (H2 (hT _ _ h1) h2) (hu nx (Nat.le_refl _) (Nat.lt_succ_self _)) (.inr ⟨k,n,by rw [← B8 hx'];rfl⟩))
 case lookup t m k ok =>
  obtain ⟨o2,h2,h3,h4,h5⟩:=Y6 hr
  exact C8 (B4B hT h h2 (by rw [← h3];exact ho) (fun id A7=>hu id (h4 id A7).1 (h4 id A7).2) (hx m) (hx k)) (fun _ _=>h5)
 case mapUpdate t m k v =>
  unfold A8c at hr
  split at hr<;>try (cases hr;done)
  rename_i wo ro h2
  injection hr with hr;subst hr
  exact A0X (B0J hT h h2 ho (hx m) (hx k) (hx v))
 case insert t m k v =>
  unfold A8c at hr
  split at hr<;>try (cases hr;done)
  rename_i wo ro h2
  injection hr with hr;subst hr
  exact A0X (B0J hT h h2 ho (hx m) (hx k) (hx v))
 case slice t x lo hi mx =>
  obtain ⟨v,wo,ro,h2,rfl⟩:=A8d hr
  exact A0X (B1h hT h h2 ho (hx x) (A6Q hx lo) (A6Q hx hi) (A6Q hx mx))
 case fieldAddr s x f =>
  obtain ⟨v,ro,h2,rfl⟩:=A1h hr
  exact E5 (A5c hT h h2 ho (hx x))
 case field s x f =>
  obtain ⟨v,h2,rfl⟩:=A1g hr
  exact E5 (B2e hT h h2 (hx x))
 case indexAddr t x ix =>
  split at hr<;>try (cases hr;done)
  rename_i kk i hi
  obtain ⟨v,ro,h2,rfl⟩:=A1h hr
  have hi':=hx ix
  rw [hi] at hi'
  have e1:=B8 hi'
  refine ?_
  show B9 P (do pure (.value (← Instr.indexAt t (ρ x) (ρ ix)))) _ _
  rw [e1]
  exact E5 (A5d hT h h2 ho (hx x))
 case index t x ix =>
  split at hr<;>try (cases hr;done)
  rename_i kk i hi
  obtain ⟨v,h2,rfl⟩:=A1g hr
  have hi':=hx ix
  rw [hi] at hi'
  have e1:=B8 hi'
  refine ?_
  show B9 P (do pure (.value (← Instr.index t (ρ x) (ρ ix)))) _ _
  rw [e1]
  exact E5 (B2f hT h h2 (hx x))
 case extract x i =>
  obtain ⟨v,h2,rfl⟩:=A1g hr
  exact E5 (B68 h h2 (hx x))
 case call k=>exact B4F hT hK h hr ho hu hx ty
 case range t x =>
  obtain ⟨o2,h2,h3,h4,h5⟩:=Y6 hr
  exact C8 (B1o hT h h2 (by rw [← h3];exact ho) (fun id A7=>hu id (h4 id A7).1 (h4 id A7).2) (hx x)) (fun _ _=>h5)
 case next x str =>
  split at hr<;>try (cases hr;done)
  rename_i hstr
  have hs:str=false:=by simpa using hstr
  subst hs
  obtain ⟨v,ro,h2,rfl⟩:=A1h hr
  exact E5 (B3h h h2 ho (hx x))
variable {P:Program} {T:TT} {c:F1} {e eb:A8} {of:Nat→Option Ob}
inductive Tr where
 | e
 | n (v:Option Ob) (l r:Tr)
def Tr.get:Tr→Nat→Option Ob
 | .e,_=>none
 | .n v l r,k=>match k with
  | 0=>v
  | k+1=>match Nat.mod k 2 with
   | 0=>l.get (Nat.div k 2)
   | _=>r.get (Nat.div k 2)
def Tr.setF:Nat→Tr→Nat→Ob→Tr
 | 0,t,_,_=>t
 | f+1,.e,k,o=>match k with
  | 0=>.n (some o) .e .e
  | k+1=>match Nat.mod k 2 with
   | 0=>.n none (setF f .e (Nat.div k 2) o) .e
   | _=>.n none .e (setF f .e (Nat.div k 2) o)
 | f+1,.n v l r,k,o=>match k with
  | 0=>.n (some o) l r
  | k+1=>match Nat.mod k 2 with
   | 0=>.n v (setF f l (Nat.div k 2) o) r
   | _=>.n v l (setF f r (Nat.div k 2) o)
def Tr.set (t:Tr) (k:Nat) (o:Ob):Tr:=setF (k+1) t k o
theorem Tr.get_e (k:Nat):Tr.get .e k=none:=by cases k<;>rfl
theorem Tr.get_s (v:Option Ob) (l r:Tr) (k:Nat):Tr.get (.n v l r) (k+1)=if k % 2=0 then l.get (k / 2) else r.get (k / 2):=by
 show (match Nat.mod k 2 with | 0=>l.get (Nat.div k 2) | _=>r.get (Nat.div k 2))=_
 have e1:Nat.mod k 2=k % 2:=rfl
 have e2:Nat.div k 2=k / 2:=rfl
 rw [e1,e2]
 rcases Nat.mod_two_eq_zero_or_one k with h | h<;>rw [h]<;>rfl
theorem Tr.get_setF:∀ (f:Nat) (t:Tr) (k:Nat) (o:Ob) (j:Nat),k < f→(setF f t k o).get j=if j=k then some o else t.get j:=by
 intro f
 induction f with
 | zero=>intro t k o j h;omega
 | succ f ih =>
  intro t k o j h
  have hdiv:∀ m:Nat,m+1 < f+1→m / 2 < f:=fun m hm=>by omega
  have key:∀ (m:Nat) (hm:k=m+1) (v:Option Ob) (l r:Tr),(match Nat.mod m 2 with | 0=>Tr.n v (setF f l (Nat.div m 2) o) r | _=>Tr.n v l (setF f r (Nat.div m 2) o)).get j=if j=k then some o else (Tr.n v l r).get j:=by
   intro m hm v l r
   subst hm
   have e1:Nat.mod m 2=m % 2:=rfl
   have e2:Nat.div m 2=m / 2:=rfl
   rw [e1,e2]
   cases j with
   | zero =>
    rw [if_neg (by omega)]
    rcases Nat.mod_two_eq_zero_or_one m with h' | h'<;>rw [h']<;>rfl
   | succ j =>
    rcases Nat.mod_two_eq_zero_or_one m with h' | h'<;>rw [h']
    ·show Tr.get (.n v (setF f l (m / 2) o) r) (j+1)=_
     rw [get_s,get_s,ih l (m / 2) o (j / 2) (hdiv m h)]
     by_cases hj:j % 2=0
     ·rw [if_pos hj,if_pos hj]
      by_cases hjm:j=m
      ·subst hjm;simp
      ·rw [if_neg (by omega),if_neg (by omega)]
     ·rw [if_neg hj,if_neg hj,if_neg (by omega)]
    ·show Tr.get (.n v l (setF f r (m / 2) o)) (j+1)=_
     rw [get_s,get_s,ih r (m / 2) o (j / 2) (hdiv m h)]
     by_cases hj:j % 2=0
     ·rw [if_pos hj,if_pos hj,if_neg (by omega)]
     ·rw [if_neg hj,if_neg hj]
      by_cases hjm:j=m
      ·subst hjm;simp
      ·rw [if_neg (by omega),if_neg (by omega)]
  cases t with
  | e =>
   cases k with
   | zero =>
    cases j with
    | zero=>rfl
    | succ j=>rw [if_neg (by omega)];show Tr.get (.n (some o) .e .e) (j+1)=_;rw [get_s];simp [get_e]
   | succ m =>
    have:=key m rfl none .e .e
    have e0:(Tr.n none .e .e).get j=Tr.get .e j:=by
     cases j with
     | zero=>rfl
     | succ j=>rw [get_s];simp [get_e]
    rw [e0] at this
    exact this
  | n v l r =>
   cases k with
   | zero =>
    cases j with
    | zero=>rfl
    | succ j=>rw [if_neg (by omega)];show Tr.get (.n (some o) l r) (j+1)=_;rw [get_s,get_s]
   | succ m=>exact key m rfl v l r
theorem Tr.get_set (t:Tr) (k:Nat) (o:Ob) (j:Nat):(t.set k o).get j=if j=k then some o else t.get j:=get_setF _ _ _ _ _ (Nat.lt_succ_self _)
def Tr.toL:Tr→(Nat→Nat)→List (Nat×Ob)
 | .e,_=>[]
 | .n v l r,f=>match v with
  | some o=>(f 0,o)::(l.toL (fun j=>f (2 * j+1))++r.toL (fun j=>f (2 * j+2)))
  | none=>l.toL (fun j=>f (2 * j+1))++r.toL (fun j=>f (2 * j+2))
def B7 (t:Tr) (L6:Nat→Option Ob) (id:Nat):Option Ob :=
 match t.get id with
 | some o=>some o
 | none=>L6 id
theorem B62:∀ (t:Tr) (f:Nat→Nat) (L6:Nat→Option Ob),(∀ i j,f i=f j→i=j) →
  (∀ j,put L6 (t.toL f) (f j)=match t.get j with | some o=>some o | none=>L6 (f j))∧∀ id,(∀ j,f j≠id)→put L6 (t.toL f) id=L6 id:=by
 intro t
 induction t with
 | e=>intro f L6 _;exact ⟨fun j=>by rw [Tr.get_e];rfl,fun id _=>rfl⟩
 | n v l r ihl ihr =>
  intro f L6 hf
  have i1:∀ i j,f (2 * i+1)=f (2 * j+1)→i=j:=fun i j h=>by have:=hf _ _ h;omega
  have i2:∀ i j,f (2 * i+2)=f (2 * j+2)→i=j:=fun i j h=>by have:=hf _ _ h;omega
  have rest:∀ b:Nat→Option Ob,put b (l.toL (fun j=>f (2 * j+1))++r.toL (fun j=>f (2 * j+2))) (f 0)=b (f 0) ∧
    (∀ j,put b (l.toL (fun j=>f (2 * j+1))++r.toL (fun j=>f (2 * j+2))) (f (j+1))=match (if j % 2=0 then l.get (j / 2) else r.get (j / 2)) with | some o=>some o | none=>b (f (j+1))) ∧
    ∀ id,(∀ j,f j≠id)→put b (l.toL (fun j=>f (2 * j+1))++r.toL (fun j=>f (2 * j+2))) id=b id:=by
   intro b
   rw [F8]
   obtain ⟨l1,l2⟩:=ihl (fun j=>f (2 * j+1)) b i1
   obtain ⟨r1,r2⟩:=ihr (fun j=>f (2 * j+2)) (put b (l.toL (fun j=>f (2 * j+1)))) i2
   refine ⟨?_,fun j=>?_,fun id A7=>?_⟩
   ·rw [r2 (f 0) (fun j h=>by have:=hf _ _ h;omega),l2 (f 0) (fun j h=>by have:=hf _ _ h;omega)]
   ·by_cases hj:j % 2=0
    ·have e1:j+1=2 * (j / 2)+1:=by omega
     rw [r2 (f (j+1)) (fun k h=>by have:=hf _ _ h;omega),if_pos hj]
     have:=l1 (j / 2)
     simp only [← e1] at this
     exact this
    ·have e1:j+1=2 * (j / 2)+2:=by omega
     rw [if_neg hj]
     have:=r1 (j / 2)
     simp only [← e1] at this
     rw [this,l2 (f (j+1)) (fun k h=>by have:=hf _ _ h;omega)]
   ·rw [r2 id (fun j=>A7 _),l2 id (fun j=>A7 _)]
  cases v with
  | none =>
   obtain ⟨a1,a2,a3⟩:=rest L6
   refine ⟨fun j=>?_,a3⟩
   cases j with
   | zero=>exact a1
   | succ j=>rw [Tr.get_s];exact a2 j
  | some o =>
   obtain ⟨a1,a2,a3⟩:=rest (D3 L6 (f 0) (some o))
   refine ⟨fun j=>?_,fun id A7=>?_⟩
   ·cases j with
    | zero=>exact a1.trans (upd_same _ _ _)
    | succ j =>
     rw [Tr.get_s]
     refine (a2 j).trans ?_
     rw [A3 _ _ (fun h=>by have:=hf _ _ h;omega)]
   ·exact (a3 id A7).trans (A3 _ _ (fun h=>A7 0 h.symm))
theorem A0Y (t:Tr) (L6:Nat→Option Ob):put L6 (t.toL fun j=>j)=B7 t L6:=by
 funext id
 exact (B62 t (fun j=>j) L6 (fun _ _ h=>h)).1 id
def A0b (t:Tr):List (Nat×Ob)→Tr
 | []=>t
 | (id,o)::r=>A0b (t.set id o) r
theorem A1i (t:Tr) (L6:Nat→Option Ob) (k:Nat) (o:Ob):B7 (t.set k o) L6=D3 (B7 t L6) k (some o):=by
 funext id
 simp only [B7,D3,Tr.get_set]
 by_cases h:id=k
 ·rw [if_pos h,if_pos h]
 ·rw [if_neg h,if_neg h]
theorem A0C:∀ (l:List (Nat×Ob)) (t:Tr) (L6:Nat→Option Ob),B7 (A0b t l) L6=put (B7 t L6) l:=by
 intro l
 induction l with
 | nil=>intro t L6;rfl
 | cons p r ih=>intro t L6;obtain ⟨k,o⟩:=p;simp only [A0b,put];rw [ih,A1i]
variable {P:Program} {T:TT} {c:F1} {e eb:A8} {of of':Nat→Option Ob}
structure St where
 sl:List (Nat×A)
 ob:Tr
 rd:List Nat
 nx:Nat
 mks:Option (List Nat)
def B4G:List (Nat×A)→Nat→A
 | [],_=>.x
 | (k,v)::r,t=>bif Nat.beq k t then v else B4G r t
def D5 (l:List (Nat×A)) (t:Nat):A:=List.rec (motive:=fun _=>A) A.x (fun p _ ih=>Bool.rec (motive:=fun _=>A) ih p.2 (Nat.beq p.1 t)) l
theorem C0x:@D5=@B4G:=by
 funext l t
 induction l with
 | nil=>rfl
 | cons p r ih =>
  obtain ⟨k,v⟩:=p
  show Bool.rec (motive:=fun _=>A) (D5 r t) v (Nat.beq k t)=bif Nat.beq k t then v else B4G r t
  rw [ih]
  cases Nat.beq k t<;>rfl
theorem P0 (k:Nat) (v:A) (r:List (Nat×A)):D5 ((k,v)::r)=D3 (D5 r) k v:=by
 funext t
 show Bool.rec (motive:=fun _=>A) (D5 r t) v (Nat.beq k t)=D3 (D5 r) k v t
 simp only [D3]
 by_cases h:t=k
 ·subst h;rw [if_pos rfl,show Nat.beq t t=true from Nat.beq_refl t]
 ·rw [if_neg h]
  have:Nat.beq k t=false:=by
   rw [← Bool.not_eq_true];intro q;exact h (C3n q).symm
  rw [this]
def mem (t:Nat):List Nat→Bool
 | []=>false
 | k::r=>Nat.beq k t||mem t r
theorem mem_iff {t:Nat} {l:List Nat}:mem t l=true↔t∈l:=by
 induction l with
 | nil=>simp [mem]
 | cons k r ih =>
  simp only [mem,Bool.or_eq_true,ih,List.mem_cons]
  constructor
  ·rintro (h | h)
   ·exact .inl (C3n h).symm
   ·exact .inr h
  ·rintro (h | h)
   ·subst h;exact .inl (Nat.beq_refl t)
   ·exact .inr h
def Y0 (ob:Tr):List Nat→List Nat→List Nat
 | [],rd=>rd
 | id::r,rd=>match ob.get id with
  | some _=>Y0 ob r rd
  | none=>bif mem id rd then Y0 ob r rd else Y0 ob r (id::rd)
theorem S9 (ob:Tr):∀ (l rd:List Nat),∀ id∈rd,id∈Y0 ob l rd:=by
 intro l
 induction l with
 | nil=>intro rd id h;exact h
 | cons k r ih =>
  intro rd id h
  simp only [Y0]
  cases ob.get k with
  | some o=>exact ih _ _ h
  | none =>
   cases mem k rd with
   | true=>exact ih _ _ h
   | false=>exact ih _ _ (List.mem_cons_of_mem _ h)
theorem B4H (ob:Tr):∀ (l rd:List Nat),∀ id∈l,(∃ o,ob.get id=some o)∨id∈Y0 ob l rd:=by
 intro l
 induction l with
 | nil=>intro rd id h;cases h
 | cons k r ih =>
  intro rd id h
  rcases List.mem_cons.1 h with rfl | h
  ·cases hk:ob.get id with
   | some o=>exact .inl ⟨o,rfl⟩
   | none =>
    right
    simp only [Y0,hk]
    cases hm:mem id rd with
    | true=>exact S9 _ _ _ _ (mem_iff.1 hm)
    | false=>exact S9 _ _ _ _ (List.mem_cons_self ..)
  ·simp only [Y0]
   cases hk:ob.get k with
   | some o=>exact ih _ _ h
   | none =>
    cases mem k rd with
    | true=>exact ih _ _ h
    | false=>exact ih _ _ h
inductive U9 (e:A8):List Nat→List Deferred→Prop
 | nil:U9 e [] []
 | cons {id b l ds}:e.U id→e.bn id=0→e.ι id=some (b,0)→U9 e l ds→U9 e (id::l) ({ target:=.collected b,args:=#[] }::ds)
def A3g (e:A8) (rd:Option Nat):Option (List Nat)→List Deferred→Prop
 | none,ds=>ds=[]
 | some l,ds=>rd=none∧U9 e l ds
theorem U9.mono {e e':A8} (he:e.le e') {l:List Nat} {ds:List Deferred} (h:U9 e l ds):U9 e' l ds:=by
 induction h with
 | nil=>exact .nil
 | cons h1 h2 h3 _ ih =>
  have h0:=he.box _ h1 h2
  exact .cons (he.use _ h1) h0 (by rw [(he.obj _ h1 (by omega)).1];exact h3) ih
theorem A3g.mono {e e':A8} (he:e.le e') {rd:Option Nat} {l:Option (List Nat)} {ds:List Deferred} (h:A3g e rd l ds):A3g e' rd l ds:=by
 cases l with
 | none=>exact h
 | some l=>exact ⟨h.1,h.2.mono he⟩
structure V0 (T:TT) (c:F1) (eb:A8) (sl:Nat→A) (of:Nat→Option Ob) (U:Nat→Prop) (nt:Nat) (mk:Option (List Nat)) (a:Act) (e:A8):Prop where
 os:A5 T c e of
 le:eb.le e
 U:∀ id,e.U id→U id
 sl:∀ t,B3 T e (sl t) (a.tmps.getD t undef)
 def_:A3g e c.rd mk a.defers
 nt:a.tmps.size=nt
def Sim (T:TT) (c:F1) (eb:A8) (of:Nat→Option Ob) (n0 nt:Nat) (σ:St) (a:Act) (w:World):Prop :=
 ∃ e,e.w=w∧V0 T c eb (D5 σ.sl) (B7 σ.ob of) (fun id=>eb.U id∨(n0≤id∧id < σ.nx)) nt σ.mks a e
structure N2 where
 dst:Option Nat
 val:A
 wo:List (Nat×Ob)
 rs:List Nat
 ro:List Nat
 lo:Nat
 hi:Nat
def N2.mk1 (o:Oper) (rs:List Nat) (nx:Nat) (out:M8):N2:=⟨o.dst,out.val,out.wo,rs,out.ro,nx,out.nx⟩
def N2.skip (o:Oper) (rs:List Nat) (nx:Nat):N2:=⟨o.dst,.t [],[],rs,[],nx,nx⟩
def X0 (T:TT) (K:KS) (ops:Array Oper) (sl:Nat→A) (of:Nat→Option Ob) (nx:Nat) (o:Oper):Option N2 :=
 match o.guard with
 | none=>match M0 T K (J9 sl) of nx o with
  | some out=>if Nat.ble nx out.nx then some (.mk1 o (o.looksAt ops) nx out) else none
  | none=>none
 | some (g,want)=>match (ops[g]?).bind (·.dst) with
  | some d=>match sl d with
   | .t _=>some (.skip o (o.looksAt ops) nx)
   | .b q=>if q=want then (match M0 T K (J9 sl) of nx o with
     | some out=>if Nat.ble nx out.nx then some (.mk1 o (o.looksAt ops) nx out) else none
     | none=>none) else some (.skip o (o.looksAt ops) nx)
   | _=>none
  | none=>none
theorem A6S {K:KS} {of:Nat→Option Ob} {nx:Nat} {o:Oper} {ev ev':Operand→A} (h:∀ x∈o.op.operands,ev x=ev' x):M0 T K ev of nx o=M0 T K ev' of nx o:=by
 obtain ⟨dst,op,ty,pos,after,guard⟩:=o
 have hp:∀ (ps:Array (Nat×Operand)),(∀ x∈(ps.toList.map (·.2)).toArray,ev x=ev' x)→A12 ev ps.toList=A12 ev' ps.toList:=fun ps hps=>by
  unfold A12
  apply List.map_congr_left
  intro p hpm
  rw [hps p.2 (by simpa using ⟨p.1,by simpa using hpm⟩)]
 cases op<;>simp only [M0]<;>simp only [Op.operands] at h
 case move x=>rw [h x (by simp)]
 case assign x=>rw [h x (by simp)]
 case pick q a b=>rw [h q (by simp),h a (by simp),h b (by simp)]
 case box el x=>rw [h x (by simp)]
 case build t parts=>rw [hp parts h]
 case buildSlice t len parts=>rw [hp parts h]
 case load t a=>rw [h a (by simp)]
 case store t a x=>rw [h a (by simp),h x (by simp)]
 case sliceToArrayPointer t x=>rw [h x (by simp)]
 case nilCheck x=>rw [h x (by simp)]
 case binOp op t x y t2=>rw [h x (by simp),h y (by simp)]
 case unOp op t x=>rw [h x (by simp)]
 case convert s t x=>rw [h x (by simp)]
 case makeFunc fn first captured =>
  have:captured.toList.map ev=captured.toList.map ev':=List.map_congr_left (fun x hx=>h x (by simp;exact .inr (by simpa using hx)))
  have h1:first.toList.map ev=first.toList.map ev':=List.map_congr_left (fun x hx=>h x (by simp;exact .inl (by simpa using hx)))
  rw [this,h1]
 case makeSlice t l k=>rw [h l (by simp),h k (by simp)]
 case makeMap t r =>
  have e1:r.map ev=r.map ev':=by cases r with | none=>rfl | some y=>simp only [Option.map_some];rw [h y (by simp)]
  rw [e1]
 case lookup t m k ok=>rw [h m (by simp),h k (by simp)]
 case mapUpdate t m k v=>rw [h m (by simp),h k (by simp),h v (by simp)]
 case insert t m k v=>rw [h m (by simp),h k (by simp),h v (by simp)]
 case slice t x lo hi mx =>
  have e1:lo.map ev=lo.map ev':=by cases lo with | none=>rfl | some y=>simp only [Option.map_some];rw [h y (by simp)]
  have e2:hi.map ev=hi.map ev':=by cases hi with | none=>rfl | some y=>simp only [Option.map_some];rw [h y (by simp)]
  have e3:mx.map ev=mx.map ev':=by cases mx with | none=>rfl | some y=>simp only [Option.map_some];rw [h y (by simp)]
  rw [h x (by simp),e1,e2,e3]
 case fieldAddr s x f=>rw [h x (by simp)]
 case field s x f=>rw [h x (by simp)]
 case indexAddr t x ix=>rw [h x (by simp),h ix (by simp)]
 case index t x ix=>rw [h x (by simp),h ix (by simp)]
 case extract x i=>rw [h x (by simp)]
 case range t x=>rw [h x (by simp)]
 case next x str=>rw [h x (by simp)]
 case call k =>
  have e1:∀ x∈k.args,ev x=ev' x:=fun x hx=>h x (by unfold Call.operands;simp [hx])
  have e2:k.args.toList.map ev=k.args.toList.map ev':=List.map_congr_left (fun x hx=>e1 x (by simpa using hx))
  unfold U2
  split
  ·rename_i f hk
   rw [h f (by unfold Call.operands;simp [hk]),e2]
  ·split
   ·rename_i hx;rw [e1 _ (by have:=A9I hx;rw [this];simp)]
   ·rfl
  ·split
   ·rename_i hx;rw [e1 _ (by have:=A9I hx;rw [this];simp)]
   ·rfl
  ·split
   ·rename_i hx;rw [e1 _ (by have:=A05 hx;rw [this];simp),e1 _ (by have:=A05 hx;rw [this];simp)]
   ·rfl
  ·split
   ·rename_i hx;rw [e1 _ (by have:=A05 hx;rw [this];simp),e1 _ (by have:=A05 hx;rw [this];simp)]
   ·rfl
  ·split
   ·rename_i hx;rw [e1 _ (by have:=A05 hx;rw [this];simp),e1 _ (by have:=A05 hx;rw [this];simp)]
   ·rfl
  ·split
   ·rename_i hx;rw [e1 _ (by have:=A05 hx;rw [this];simp),e1 _ (by have:=A05 hx;rw [this];simp)]
   ·rfl
  ·split
   ·rename_i hx;rw [e1 _ (by have:=A05 hx;rw [this];simp),e1 _ (by have:=A05 hx;rw [this];simp)]
   ·rfl
  ·rfl
abbrev WF (rd:Option Nat):Fence:={ Fence.wide with round:=rd }
theorem Q2 {rd:Option Nat} {m:Nat} {cd:Code} {Q Q':Exit→Act→World→Prop} {a:Act} {w:World} (hq:∀ e a w,Q e a w→Q' e a w) (h:cd.wpIn (WF rd) m P Q a w):cd.wpIn (WF rd) m P Q' a w:=wpIn_mono h hq
theorem A4C {rd:Option Nat} {m:Nat} {f:FuncId} {args:Array Value} {w:World} {R:Ending→World→Prop} (h:Calls P f args w R):CallsIn (WF rd) m P f args w R:=(callsIn_wide (n:=m)).2 h
theorem A9J {rd:Option Nat} {m l:Nat} {f:FuncId} {tmps:Array Value} {asg body:Code} {w:World} {R:Ending→World→Prop} (h:RoundIn Fence.wide 0 P l f tmps asg body w R):RoundIn (WF rd) m P l f tmps asg body w R:=by
 refine ⟨trivial,fun c cs hr=>?_⟩
 exact h.2 c cs (by intro d hd;cases hd)
theorem A6T {rd:Option Nat} {m:Nat} {o:Oper} {a:Act} {w:World} {next:Act→World→Prop} {Q:Exit→Act→World→Prop} {R:Value→World→Prop} (hd:∀ c,o.op≠.defer c)
  (h:B9 P (execOp a.eval o) w R) (hn:∀ x w',R x w'→next (a.put o.dst x) w'):o.wpIn (WF rd) m P a w next Q:=by
 refine ⟨fun _ _=>trivial,?_⟩
 rw [Oper.semAt_eq _ _ _ hd]
 rcases h with ⟨x,w',h,hr⟩ | ⟨w',h,hr⟩ | ⟨f,args,w1,h,hc⟩ | ⟨l,f,tmps,asg,body,w1,h,hc⟩
 ·rw [h];exact hn _ _ hr
 ·rw [h];exact hn _ _ hr
 ·rw [h]
  refine ⟨fun q=>(by cases q),CallsIn.mono (A4C hc) fun en w' he=>?_⟩
  obtain ⟨x,rfl,hr⟩:=he
  exact hn _ _ hr
 ·rw [h]
  refine ⟨fun q=>(by cases q),(A9J hc).mono fun en w' he=>?_⟩
  obtain ⟨x,rfl,hr⟩:=he
  exact hn _ _ hr
theorem A6U {K:KS} {ev:Operand→A} {nx:Nat} {o:Oper} {E:M8} (h:M0 T K ev of nx o=some E):∀ c,o.op≠.defer c:=by
 intro c hc
 unfold M0 at h
 rw [hc] at h
 cases h
theorem A8e {rd:Option Nat} {m:Nat} (hT:F4 T P) {K:KS} (hK:KOK P T K) {ops:Array Oper} {Q:Exit→Act→World→Prop} {i:Nat} {o:Oper} (hi:ops[i]? = some o) {sl:Nat→A} {nx:Nat} {E:N2} {a:Act} (h:A5 T c e of') (hr:X0 T K ops sl of nx o=some E)
  (ho:∀ id∈E.ro,of' id=of id) (hu:∀ id,E.lo≤id→id < E.hi→¬ e.U id) (hs:∀ t∈E.rs,B3 T e (sl t) (a.tmps.getD t undef)) {K':Act→World→Prop}
  (hK':∀ x w',W2 T c e of' E.lo ⟨E.val,E.wo,E.ro,E.hi⟩ x w'→K' (a.put E.dst x) w'):wpOpIn (WF rd) m P ops Q i K' a e.w:=by
 have go:(match M0 T K (J9 sl) of nx o with
   | some out=>if Nat.ble nx out.nx then some (N2.mk1 o (o.looksAt ops) nx out) else none
   | none=>none)=some E→Region.wanted o (yielded ops a.tmps)=true→wpOpIn (WF rd) m P ops Q i K' a e.w:=by
  intro hg hw
  split at hg<;>try (cases hg;done)
  rename_i out hst
  split at hg<;>try (cases hg;done)
  injection hg with hg;subst hg
  unfold wpOpIn
  simp only [hi,hw,if_true]
  have hmem:∀ t,.tmp t∈o.op.operands→t∈o.looksAt ops:=fun t ht=>by
   unfold Oper.looksAt
   refine List.mem_append_left _ (List.mem_filterMap.2 ⟨.tmp t,by simpa using ht,rfl⟩)
  rw [A6S (ev':=J9 fun t=>if t∈o.looksAt ops then sl t else .x) (fun x hx=>by
   cases x with
   | tmp t=>simp only [J9];rw [if_pos (hmem t hx)]
   | _=>rfl)] at hst
  refine (A6T (A6U hst) (B2b hT hK h hst ho hu (fun _=>rfl) (fun x=>A9H (fun t ht=>?_))) (fun x w' hl=>hK' x w' hl))
  subst ht
  split
  ·rename_i hin;exact hs t hin
  ·trivial
 have skip:E=N2.skip o (o.looksAt ops) nx→Region.wanted o (yielded ops a.tmps)=false→wpOpIn (WF rd) m P ops Q i K' a e.w:=by
  intro hE hw
  subst hE
  unfold wpOpIn
  simp only [hi,hw,Bool.false_eq_true,if_false]
  refine ⟨fun _ _=>trivial,?_⟩
  exact hK' undef e.w ⟨e,rfl,h,A8.le.refl e,fun _ hu=>.inl hu,⟨#[],rfl,rfl,fun i v x hv=>by simp at hv⟩⟩
 have hrs:E.rs=o.looksAt ops:=by
  unfold X0 at hr
  repeat' split at hr
  all_goals first | (cases hr;done) | (injection hr with hr;subst hr;rfl)
 rw [hrs] at hs
 unfold X0 at hr
 split at hr
 ·rename_i hg
  exact go hr (by simp [Region.wanted,hg])
 ·rename_i g want hg
  split at hr<;>try (cases hr;done)
  rename_i d hd
  have hdm:d∈o.looksAt ops:=by simp [Oper.looksAt,hg,hd]
  have hsd:=hs d hdm
  split at hr<;>try (cases hr;done)
  ·rename_i l hl
   injection hr with hr
   refine skip hr.symm ?_
   rw [hl] at hsd
   obtain ⟨xs,hxs,_⟩:=hsd
   have:yielded ops a.tmps g=none:=by
    unfold yielded
    rw [hd]
    simp only [Option.bind_some]
    cases hx:a.tmps[d]? with
    | none=>rfl
    | some v =>
     have:a.tmps.getD d undef=v:=by simp [hx]
     rw [this] at hxs;subst hxs;rfl
   simp [Region.wanted,hg,this]
  ·rename_i q hq
   rw [hq] at hsd
   have hv:=Y4 hsd
   have hy:yielded ops a.tmps g=some q:=by
    unfold yielded
    rw [hd]
    simp only [Option.bind_some]
    cases hx:a.tmps[d]? with
    | none=>simp [hx,undef] at hv
    | some v =>
     have:a.tmps.getD d undef=v:=by simp [hx]
     rw [this] at hv;subst hv;rfl
   split at hr
   ·rename_i hqw
    exact go hr (by simp [Region.wanted,hg,hy,hqw])
   ·rename_i hqw
    injection hr with hr
    exact skip hr.symm (by simp [Region.wanted,hg,hy,hqw])
theorem A0c {K:KS} {ops:Array Oper} {sl:Nat→A} {nx:Nat} {o:Oper} {E:N2} (hr:X0 T K ops sl of nx o=some E):E.lo=nx∧nx≤E.hi∧E.dst=o.dst∧E.rs=o.looksAt ops:=by
 unfold X0 at hr
 repeat' split at hr
 all_goals first | (cases hr;done) | (injection hr with hr;subst hr;exact ⟨rfl,Nat.le_refl _,rfl,rfl⟩) | (rename_i hb;injection hr with hr;subst hr;exact ⟨rfl,C3t hb,rfl,rfl⟩)
variable {P:Program} {T:TT} {c:F1} {e eb:A8} {of of':Nat→Option Ob}
section
variable {β:Type}
def wr (f:Nat→β):List (Nat×β)→Nat→β
 | []=>f
 | (k,v)::r=>wr (D3 f k v) r
def V1 (l:List (Nat×β)):List Nat:=l.map (·.1)
theorem A1j:∀ (l:List (Nat×β)) (f:Nat→β) (t:Nat),t ∉ V1 l→wr f l t=f t:=by
 intro l
 induction l with
 | nil=>intro f t _;rfl
 | cons p r ih =>
  intro f t h
  obtain ⟨k,v⟩:=p
  simp only [V1,List.map_cons,List.mem_cons,not_or] at h
  simp only [wr]
  rw [ih _ _ h.2,A3 _ _ h.1]
theorem A4D:∀ (l:List (Nat×β)) (f g:Nat→β) (t:Nat),(t ∉ V1 l→f t=g t)→wr f l t=wr g l t:=by
 intro l
 induction l with
 | nil=>intro f g t h;exact h (by simp [V1])
 | cons p r ih =>
  intro f g t h
  obtain ⟨k,v⟩:=p
  simp only [wr]
  refine ih _ _ t (fun ht=>?_)
  by_cases hk:t=k
  ·subst hk;simp
  ·rw [A3 _ _ hk,A3 _ _ hk]
   exact h (by simp only [V1,List.map_cons,List.mem_cons,not_or];exact ⟨hk,ht⟩)
theorem B63 (f:Nat→β) (l m:List (Nat×β)) (h:∀ t,t∈V1 l→t ∉ V1 m):wr (wr f l) m=wr (wr f m) l:=by
 funext t
 by_cases ht:t∈V1 l
 ·rw [A1j m _ _ (h t ht)]
  exact A4D l _ _ t (fun h'=>absurd ht h')
 ·rw [A1j l _ _ ht]
  exact A4D m _ _ t (fun _=>A1j l _ _ ht)
def M1 (D:Nat→Bool):Nat→List (List (Nat×β))→(Nat→β)→Nat→β
 | _,[],f=>f
 | k,l::r,f=>M1 D (k+1) r (if D k then wr f l else f)
theorem B4I (D:Nat→Bool) (m:List (Nat×β)):∀ (Ls:List (List (Nat×β))) (k:Nat) (f:Nat→β),(∀ q l,Ls[q]? = some l→D (k+q)=true→∀ t,t∈V1 m→t ∉ V1 l) →
  M1 D k Ls (wr f m)=wr (M1 D k Ls f) m:=by
 intro Ls
 induction Ls with
 | nil=>intro k f _;rfl
 | cons l r ih =>
  intro k f h
  simp only [M1]
  have hr:=fun f=>ih (k+1) f (fun q l' hq hD=>h (q+1) l' (by simpa using hq) (by rw [← hD];congr 1;omega))
  by_cases hD:D k=true
  ·rw [if_pos hD,if_pos hD,← hr,B63 _ _ _ (h 0 l rfl hD)]
  ·rw [if_neg hD,if_neg hD,hr]
theorem W3 {D D':Nat→Bool}:∀ (Ls:List (List (Nat×β))) (k:Nat) (f:Nat→β),(∀ q,q < Ls.length→D (k+q)=D' (k+q))→M1 D k Ls f=M1 D' k Ls f:=by
 intro Ls
 induction Ls with
 | nil=>intro k f _;rfl
 | cons l r ih =>
  intro k f h
  simp only [M1]
  rw [show D k=D' k from h 0 (by simp),ih (k+1) _ (fun q hq=>by have:=h (q+1) (by simpa using hq);rwa [show k+(q+1)=k+1+q by omega] at this)]
theorem A2w {D:Nat→Bool}:∀ (Ls:List (List (Nat×β))) (k p:Nat) (f:Nat→β) (l:List (Nat×β)),Ls[p]? = some l→D (k+p)=false→(∀ q l',p < q→Ls[q]? = some l'→D (k+q)=true→∀ t,t∈V1 l→t ∉ V1 l') →
  M1 (fun j=>j == k+p||D j) k Ls f=wr (M1 D k Ls f) l:=by
 intro Ls
 induction Ls with
 | nil=>intro k p f l h;simp at h
 | cons l0 r ih =>
  intro k p f l h hD hd
  cases p with
  | zero =>
   simp only [List.getElem?_cons_zero,C3q] at h
   subst h
   simp only [Nat.add_zero] at hD
   simp only [M1,Nat.add_zero,beq_self_eq_true,Bool.true_or,if_true,hD,Bool.false_eq_true,if_false]
   rw [W3 (D':=D) r (k+1) _ (fun q _=>by
    have:(k+1+q == k)=false:=by simp;omega
    simp [this])]
   exact B4I D l0 r (k+1) f (fun q l' hq hD'=>hd (q+1) l' (by omega) (by simpa using hq) (by rw [← hD'];congr 1;omega))
  | succ p =>
   have hk:(k == k+(p+1))=false:=by simp
   simp only [M1,hk,Bool.false_or]
   have:=ih (k+1) p (if D k then wr f l0 else f) l (by simpa using h) (by rw [← hD];congr 1;omega) (fun q l' hpq hq hD'=>hd (q+1) l' (by omega) (by simpa using hq) (by rw [← hD'];congr 1;omega))
   rw [← this]
   refine W3 r (k+1) _ (fun q _=>?_)
   rw [show k+1+p=k+(p+1) by omega]
theorem A4E {D D':Nat→Bool} {t:Nat}:∀ (Ls:List (List (Nat×β))) (k:Nat) (f g:Nat→β),f t=g t→(∀ q l,Ls[q]? = some l→t∈V1 l→D (k+q)=D' (k+q))→M1 D k Ls f t=M1 D' k Ls g t:=by
 intro Ls
 induction Ls with
 | nil=>intro k f g h _;exact h
 | cons l r ih =>
  intro k f g h hd
  simp only [M1]
  refine ih (k+1) _ _ ?_ (fun q l' hq ht=>by have:=hd (q+1) l' (by simpa using hq) ht;rwa [show k+(q+1)=k+1+q by omega] at this)
  by_cases ht:t∈V1 l
  ·have:=hd 0 l rfl ht
   rw [Nat.add_zero] at this
   rw [this]
   by_cases hD:D' k=true
   ·rw [if_pos hD,if_pos hD];exact A4D l _ _ t (fun h'=>absurd ht h')
   ·rw [if_neg hD,if_neg hD];exact h
  ·have h1:(if D k=true then wr f l else f) t=f t:=by split;exact A1j l _ _ ht;rfl
   have h2:(if D' k=true then wr g l else g) t=g t:=by split;exact A1j l _ _ ht;rfl
   rw [h1,h2,h]
theorem A13 {D:Nat→Bool}:∀ (Ls:List (List (Nat×β))) (k:Nat) (f:Nat→β),(∀ j,k≤j→D j=false)→M1 D k Ls f=f:=by
 intro Ls
 induction Ls with
 | nil=>intro k f _;rfl
 | cons l r ih=>intro k f h;simp only [M1];rw [h k (Nat.le_refl _)];exact ih (k+1) f (fun j hj=>h j (by omega))
theorem Y1:∀ (Ls:List (List (Nat×β))) (k p:Nat) (f:Nat→β),M1 (fun j=>decide (j < k+p)) k Ls f=(Ls.take p).foldl wr f:=by
 intro Ls
 induction Ls with
 | nil=>intro k p f;simp [M1]
 | cons l r ih =>
  intro k p f
  cases p with
  | zero=>simp only [List.take_zero,List.foldl_nil,Nat.add_zero];exact A13 _ _ _ (fun j hj=>by simp;omega)
  | succ p =>
   simp only [M1,List.take_succ_cons,List.foldl_cons]
   rw [if_pos (by simp),← ih (k+1) p]
   refine W3 r (k+1) _ (fun q _=>?_)
   rw [show k+(p+1)=k+1+p by omega]
end
end Go.Vm
end