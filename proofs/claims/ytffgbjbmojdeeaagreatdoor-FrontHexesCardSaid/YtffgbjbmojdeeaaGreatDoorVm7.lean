/- What the operations of a program do, shown once for all programs; and numbers. -/
import Derived.Test.YtffgbjbmojdeeaaGreatDoorVm6
set_option linter.constructorNameAsVariable false
set_option linter.unusedVariables false
set_option linter.unusedSimpArgs false
set_option linter.unnecessarySimpa false
noncomputable section
namespace Go.Vm
open Go.RowKit
variable {P:Program} {T:TT} {c:F1} {e eb:A8} {of of':Nat→Option Ob}
theorem RV.change {e e':A8} (hf:∀ a ds,Fz e a ds→Fz e' a ds) {ts:List Nat} {xs:List V} {cs:List Value} (h:RV T e ts xs cs):RV T e' ts xs cs:=by
 induction h with
 | nil=>exact .nil
 | int h1 h2 hr _ ih=>exact .int h1 h2 hr ih
 | bool h1 h2 _ ih=>exact .bool h1 h2 ih
 | str h1 h2 _ ih=>exact .str h1 h2 ih
 | ptr h1 h2 _ ih=>exact .ptr h1 h2 ih
 | nils h1 h2 _ ih=>exact .nils h1 h2 ih
 | map h1 h2 _ ih=>exact .map h1 h2 ih
 | func h1 h2 _ ih=>exact .func h1 h2 ih
 | fn h1 h2 _ ih=>exact .fn h1 h2 ih
 | slice h1 h2 h3 h4 h5 _ _ ih1 ih=>exact .slice h1 h2 h3 h4 (hf _ _ h5) ih1 ih
 | arr h1 h2 _ _ ih1 ih=>exact .arr h1 h2 ih1 ih
 | struct h1 h2 _ _ ih1 ih=>exact .struct h1 h2 ih1 ih
theorem SR.move {e e':A8} (hf:∀ a ds,Fz e a ds→Fz e' a ds) (hw:e'.w=e.w) (hS:∀ b i,e'.S b i→e.S b i) {a kt st el:Nat} (hG:∀ b,e.G a b→e'.G a b) {ho:Option V} {es:List (V×V×Bool)} {ms:List MapEntry} {bs:List Nat} (h:SR T e a kt st el ho es ms bs):SR T e' a kt st el ho es ms bs:=by
 induction h with
 | nil=>exact .nil
 | cons h0 hd _ ih =>
  refine .cons ?_ hd ih
  cases h0 with
  | lent h1 h2 h3=>exact .lent ⟨h1.1.change hf,h1.2⟩ h2 h3
  | data h1 h2=>exact .data ⟨h1.1.change hf,h1.2⟩ (h2.change hf)
  | own h1 h2 h0 h3 h5 h6 h7 h8 h9 h10 h11 h12=>exact .own ⟨h1.1.change hf,h1.2⟩ h2 h0 (hG _ h3) (by rw [hw];exact h5) (by rw [hw];exact h6) h7 h8 (h9.change hf) h10 h11 (fun i hi hs=>h12 i hi (hS _ _ hs))
theorem SR.change {e e':A8} (hf:∀ a ds,Fz e a ds→Fz e' a ds) (hw:e'.w=e.w) (hS:∀ b i,e'.S b i→e.S b i) (hG:∀ a b,e.G a b→e'.G a b) {a kt st el:Nat} {ho:Option V} {es:List (V×V×Bool)} {ms:List MapEntry} {bs:List Nat} (h:SR T e a kt st el ho es ms bs):SR T e' a kt st el ho es ms bs:=h.move hf hw hS (hG a)
mutual
def D1:A→List Nat
 | .p id _ _=>[id]
 | .e id _ _ _ _=>[id]
 | .o id _=>[id]
 | .w id _ _ _=>[id]
 | .a id _ _ _ _=>[id]
 | .m id=>[id]
 | .y id=>[id]
 | .f _ l=>G5 l
 | .g _ l=>G5 l
 | .t l=>G5 l
 | _=>[]
def G5:List A→List Nat
 | []=>[]
 | a::r=>D1 a++G5 r
end
def A3p:List (V×A)→List Nat
 | []=>[]
 | p::r=>D1 p.2++A3p r
def A1L:List (Nat×A)→List Nat
 | []=>[]
 | p::r=>D1 p.2++A1L r
theorem B4Q:∀ (l:List (Nat×A)) p,p∈l→∀ id∈D1 p.2,id∈A1L l:=by
 intro l
 induction l with
 | nil=>intro p hp;cases hp
 | cons q r ih =>
  intro p hp id A7
  simp only [A1L,C3y]
  rcases List.mem_cons.1 hp with rfl | hp
  ·exact .inl A7
  ·exact .inr (ih p hp id A7)
def A3q:Ob→List Nat
 | .box _ a _=>D1 a
 | .row _ _ _ _ _=>[]
 | .map _ _ es=>A3p es
 | .vm _ _ _=>[]
 | .sm _ _ _ _ _=>[]
 | .lp (some r)=>A1L r.sl
 | .lp none=>[]
 | .it (some m)=>[m]
 | .it none=>[]
theorem A8j {et:Nat}:∀ {es:List (V×V)},∀ p∈vms et es,D1 p.2=[]:=by
 intro es
 induction es with
 | nil=>intro p hp;cases hp
 | cons q r ih =>
  intro p hp
  rcases List.mem_cons.1 hp with rfl | hp
  ·rfl
  ·exact ih p hp
theorem R1.use {a:A} {v:Value} (h:R1 T e a v):∀ id∈D1 a,e.U id:=by
 cases a<;>simp only [D1,List.mem_singleton]<;>intro id A7
 case p=>subst A7;obtain ⟨b,off,h1,_⟩:=h;exact h1
 case e=>subst A7;exact h.2.1
 case o=>subst A7;exact h.2.1
 case w=>subst A7;exact h.2.1
 case a=>subst A7;obtain ⟨b,off,n,el,k,cap,h1,_⟩:=h;exact h1
 case m=>subst A7;obtain ⟨b,h1,_⟩:=h;exact h1
 case y=>subst A7;obtain ⟨b,h1,_⟩:=h;exact h1
 case f=>obtain ⟨id',t,path,rfl,b,off,h1,_⟩:=A0R h;simp [G5,D1] at A7;subst A7;exact h1
 case g=>exact h.elim
 case t=>exact h.elim
 all_goals cases A7
theorem RA.use {l:List A} {cs:List Value} (h:RA T e l cs):∀ id∈G5 l,e.U id:=by
 induction h with
 | nil=>intro id h;cases h
 | f _ _ ih1 ih=>intro id h;simp only [G5,D1,C3y] at h;exact h.elim (ih1 id) (ih id)
 | g _ _ _ _ _ ih1 ih=>intro id h;simp only [G5,D1,C3y] at h;exact h.elim (ih1 id) (ih id)
 | r h1 _ _ ih=>intro id h;simp only [G5,C3y] at h;exact h.elim (h1.use id) (ih id)
 | _=>rename_i ih;intro id h;simp only [G5,D1,List.nil_append] at h;exact ih id h
def D2 (n0 nx id:Nat):Bool:=Nat.ble n0 id&&Nat.blt id nx
def A1l (ob:Tr) (n0 nx id:Nat):Option Nat :=
 bif D2 n0 nx id then (match ob.get id with
  | some (.row _ v _ _ _)=>some v
  | _=>none) else none
def A22 (ob:Tr) (n0 nx id ver:Nat) (k:Nat→A):A :=
 match A1l ob n0 nx id with
 | some v=>bif Nat.beq v ver then k 1 else .x
 | none=>k ver
mutual
def Q6 (ob:Tr) (n0 nx:Nat):A→A
 | .e id ver i t path=>A22 ob n0 nx id ver fun v=>.e id v i t path
 | .o id ver=>A22 ob n0 nx id ver fun v=>.o id v
 | .w id ver off n=>A22 ob n0 nx id ver fun v=>.w id v off n
 | .f fn l=>.f fn (R8 ob n0 nx l)
 | .g t l=>.g t (R8 ob n0 nx l)
 | .t l=>.t (R8 ob n0 nx l)
 | a=>a
def R8 (ob:Tr) (n0 nx:Nat):List A→List A
 | []=>[]
 | a::r=>Q6 ob n0 nx a::R8 ob n0 nx r
end
def A4J (ob:Tr) (n0 nx:Nat):List (Nat×A)→List (Nat×A)
 | []=>[]
 | p::r=>(p.1,Q6 ob n0 nx p.2)::A4J ob n0 nx r
def A2y (ob:Tr) (n0 nx id:Nat):Ob→Ob
 | .box t a sh=>.box t (Q6 ob n0 nx a) sh
 | .row el ver xs nl sh=>.row el (bif D2 n0 nx id then 1 else ver) xs nl sh
 | .map kt et es=>.map kt et es
 | .vm kt et es=>.vm kt et es
 | .sm kt st el es ho=>.sm kt st el es ho
 | .lp (some r)=>.lp (some { r with sl:=A4J ob n0 nx r.sl })
 | .lp none=>.lp none
 | .it q=>.it q
theorem B4R (ob:Tr) (n0 nx:Nat):∀ (l:List (Nat×A)),∀ p∈A4J ob n0 nx l,∃ q∈l,p=(q.1,Q6 ob n0 nx q.2):=by
 intro l
 induction l with
 | nil=>intro p hp;cases hp
 | cons q r ih =>
  intro p hp
  rcases List.mem_cons.1 hp with rfl | hp
  ·exact ⟨q,by simp,rfl⟩
  ·obtain ⟨q',h1,h2⟩:=ih p hp
   exact ⟨q',by simp [h1],h2⟩
def A8.anew (e:A8) (ob:Tr) (n0 nx:Nat) (keep:List Nat):A8 :=
 {e with U:=fun j=>e.U j∧(D2 n0 nx j=true→j∈keep),bn:=fun j=>match A1l ob n0 nx j with
  | some _=>1
  | none=>e.bn j }
structure A1m (T:TT) (c:F1) (e eb:A8) (of':Nat→Option Ob) (ob:Tr) (n0 nx:Nat):Prop where
 os:A5 T c e (B7 ob of')
 new:∀ id,D2 n0 nx id=true→¬ eb.U id
theorem B4S {ob:Tr} {n0 nx id v:Nat} (h:A1l ob n0 nx id=some v):D2 n0 nx id=true∧∃ el xs nl sh,ob.get id=some (.row el v xs nl sh):=by
 unfold A1l at h
 cases hn:D2 n0 nx id with
 | false=>rw [hn] at h;cases h
 | true =>
  rw [hn] at h
  simp only [cond_true] at h
  split at h
  ·rename_i el v' xs nl sh hg
   injection h with h;subst h
   exact ⟨rfl,el,xs,nl,sh,hg⟩
  ·cases h
theorem A1m.ver {ob:Tr} {n0 nx:Nat} (h:A1m T c e eb of' ob n0 nx) {id v:Nat} (hv:A1l ob n0 nx id=some v):e.bn id=v∧0 < v:=by
 obtain ⟨_,el,xs,nl,sh,hg⟩:=B4S hv
 have:=h.os.ok id (.row el v xs nl sh) (by unfold B7;rw [hg])
 exact ⟨this.2.2.1,this.2.1⟩
theorem A6Z {ob:Tr} {n0 nx:Nat} {keep:List Nat} {a:Addr} {ds:List Value} (h:Fz e a ds):Fz (e.anew ob n0 nx keep) a ds:=h
theorem L0 {ob:Tr} {n0 nx j:Nat} {keep:List Nat} (h:A1l ob n0 nx j=none):(e.anew ob n0 nx keep).bn j=e.bn j:=by
 show (match A1l ob n0 nx j with | some _=>1 | none=>e.bn j)=e.bn j
 rw [h]
theorem A3L {ob:Tr} {n0 nx j v:Nat} {keep:List Nat} (h:A1l ob n0 nx j=some v):(e.anew ob n0 nx keep).bn j=1:=by
 show (match A1l ob n0 nx j with | some _=>1 | none=>e.bn j)=1
 rw [h]
theorem A1m.box0 {ob:Tr} {n0 nx j:Nat} {keep:List Nat} (h:A1m T c e eb of' ob n0 nx) (h0:e.bn j=0):(e.anew ob n0 nx keep).bn j=0:=by
 cases hv:A1l ob n0 nx j with
 | none=>rw [L0 hv];exact h0
 | some v=>have:=h.ver hv;omega
theorem R1.fix {ob:Tr} {n0 nx:Nat} {keep:List Nat} (hA:A1m T c e eb of' ob n0 nx) {a:A} {v:Value} (h:R1 T e a v) (ho:one v=true) (hk:∀ id∈D1 (Q6 ob n0 nx a),D2 n0 nx id=true→id∈keep):R1 T (e.anew ob n0 nx keep) (Q6 ob n0 nx a) v:=by
 cases a with
 | x=>exact h
 | p id t path =>
  obtain ⟨b,off,h1,h2,h3,h4,h5⟩:=h
  exact ⟨b,off,⟨h1,hk id (by simp [Q6,D1])⟩,hA.box0 h2,h3,h4,h5⟩
 | a id t path lo m =>
  obtain ⟨b,off,n,el,k,cap,h1,h2,h3⟩:=h
  exact ⟨b,off,n,el,k,cap,⟨h1,hk id (by simp [Q6,D1])⟩,hA.box0 h2,h3⟩
 | m id =>
  obtain ⟨b,h1,h2,h3⟩:=h
  exact ⟨b,⟨h1,hk id (by simp [Q6,D1])⟩,hA.box0 h2,h3⟩
 | y id =>
  obtain ⟨b,h1,h2,h3⟩:=h
  exact ⟨b,⟨h1,hk id (by simp [Q6,D1])⟩,hA.box0 h2,h3⟩
 | e id ver i t path =>
  obtain ⟨h0,h1,h2,h3,h4⟩:=h
  simp only [Q6] at hk ⊢
  unfold A22 at hk ⊢
  cases hv:A1l ob n0 nx id with
  | none =>
   rw [hv] at hk
   exact ⟨h0,⟨h1,hk id (by simp [D1])⟩,by rw [L0 hv];exact h2,h3,fun hb=>h4 (by rw [L0 hv] at hb;exact hb)⟩
  | some v' =>
   rw [hv] at hk
   simp only at hk ⊢
   cases hq:Nat.beq v' ver with
   | false=>exact ho
   | true =>
    rw [hq] at hk
    have:=C3n hq;subst this
    exact ⟨h0,⟨h1,hk id (by simp [D1])⟩,by rw [A3L hv];exact Nat.le_refl _,by omega,fun _=>h4 (hA.ver hv).1⟩
 | o id ver =>
  obtain ⟨h0,h1,h2,h3,h4⟩:=h
  simp only [Q6] at hk ⊢
  unfold A22 at hk ⊢
  cases hv:A1l ob n0 nx id with
  | none =>
   rw [hv] at hk
   exact ⟨h0,⟨h1,hk id (by simp [D1])⟩,by rw [L0 hv];exact h2,h3,fun hb=>h4 (by rw [L0 hv] at hb;exact hb)⟩
  | some v' =>
   rw [hv] at hk
   simp only at hk ⊢
   cases hq:Nat.beq v' ver with
   | false=>exact ho
   | true =>
    rw [hq] at hk
    have:=C3n hq;subst this
    exact ⟨h0,⟨h1,hk id (by simp [D1])⟩,by rw [A3L hv];exact Nat.le_refl _,by omega,fun _=>h4 (hA.ver hv).1⟩
 | w id ver off n =>
  obtain ⟨h0,h1,h2,h3,h4⟩:=h
  simp only [Q6] at hk ⊢
  unfold A22 at hk ⊢
  cases hv:A1l ob n0 nx id with
  | none =>
   rw [hv] at hk
   exact ⟨h0,⟨h1,hk id (by simp [D1])⟩,by rw [L0 hv];exact h2,h3,fun hb=>h4 (by rw [L0 hv] at hb;exact hb)⟩
  | some v' =>
   rw [hv] at hk
   simp only at hk ⊢
   cases hq:Nat.beq v' ver with
   | false=>exact ho
   | true =>
    rw [hq] at hk
    have:=C3n hq;subst this
    exact ⟨h0,⟨h1,hk id (by simp [D1])⟩,by rw [A3L hv];exact Nat.le_refl _,by omega,fun _=>h4 (hA.ver hv).1⟩
 | f fn cap =>
  obtain ⟨id,t,path,rfl,b,off,h1,h2,h3,h4,h5⟩:=A0R h
  exact ⟨b,off,⟨h1,hk id (by simp [Q6,R8,D1,G5])⟩,hA.box0 h2,h3,h4,h5⟩
 | _=>exact h.elim
theorem B4T {ob:Tr} {n0 nx t:Nat}:∀ {a:A},B6 T t a=true→B6 T t (Q6 ob n0 nx a)=true:=by
 have r:∀ {id ver:Nat} {k:Nat→A},(∀ v,B6 T t (k v)=Q7 T t)→B6 T t (k ver)=true→B6 T t (A22 ob n0 nx id ver k)=true:=by
  intro id ver k hk h
  rw [hk] at h
  unfold A22
  split
  ·rename_i v _;cases Nat.beq v ver
   ·exact h
   ·exact (hk _).trans h
  ·exact (hk _).trans h
 intro a h
 cases a with
 | e id ver i t path=>exact r (k:=fun v=>.e id v i t path) (fun _=>rfl) h
 | o id ver=>exact r (k:=fun v=>.o id v) (fun _=>rfl) h
 | w id ver off n=>exact r (k:=fun v=>.w id v off n) (fun _=>rfl) h
 | f fn l=>exact h
 | g t' l=>exact h
 | t l=>cases h
 | _=>exact h
theorem B97 {ob:Tr} {n0 nx:Nat}:∀ {ts:List Nat} {l:List A},X6 T ts l=true→X6 T ts (R8 ob n0 nx l)=true:=by
 intro ts
 induction ts with
 | nil=>intro l h;cases l with
  | nil=>rfl
  | cons a l=>cases h
 | cons t ts ih=>intro l h;cases l with
  | nil=>cases h
  | cons a l =>
   simp only [X6,C3o] at h
   simp only [R8,X6,C3o]
   exact ⟨B4T h.1,ih h.2⟩
theorem RV.anew {ob:Tr} {n0 nx:Nat} {keep:List Nat} {ts:List Nat} {xs:List V} {cs:List Value} (h:RV T e ts xs cs):RV T (e.anew ob n0 nx keep) ts xs cs:=RV.change (e:=e) (e':=e.anew ob n0 nx keep) (fun a ds q=>A6Z q) h
theorem RA.fix {ob:Tr} {n0 nx:Nat} {keep:List Nat} (hA:A1m T c e eb of' ob n0 nx) {l:List A} {cs:List Value} (h:RA T e l cs):(∀ id∈G5 (R8 ob n0 nx l),D2 n0 nx id=true→id∈keep)→RA T (e.anew ob n0 nx keep) (R8 ob n0 nx l) cs:=by
 induction h with
 | nil=>intro _;exact .nil
 | i hr _ ih=>intro hk;exact .i hr (ih (fun id A7=>hk id (by simp only [R8,G5,C3y];exact .inr A7)))
 | b _ ih=>intro hk;exact .b (ih (fun id A7=>hk id (by simp only [R8,G5,C3y];exact .inr A7)))
 | s _ ih=>intro hk;exact .s (ih (fun id A7=>hk id (by simp only [R8,G5,C3y];exact .inr A7)))
 | z h1 _ ih=>intro hk;exact .z h1 (ih (fun id A7=>hk id (by simp only [R8,G5,C3y];exact .inr A7)))
 | v h1 _ ih=>intro hk;exact .v h1.anew (ih (fun id A7=>hk id (by simp only [R8,G5,C3y];exact .inr A7)))
 | c h1 h2 _ ih=>intro hk;exact .c h1.anew h2 (ih (fun id A7=>hk id (by simp only [R8,G5,C3y];exact .inr A7)))
 | q h1 _ ih=>intro hk;exact .q h1.anew (ih (fun id A7=>hk id (by simp only [R8,G5,C3y];exact .inr A7)))
 | f _ _ ih1 ih =>
  intro hk
  exact .f (ih1 (fun id A7=>hk id (by simp only [R8,Q6,G5,D1,C3y];exact .inl A7))) (ih (fun id A7=>hk id (by simp only [R8,G5,C3y];exact .inr A7)))
 | g h1 h2 h3 _ _ ih1 ih =>
  intro hk
  exact .g h1 (B97 h2) h3 (ih1 (fun id A7=>hk id (by simp only [R8,Q6,G5,D1,C3y];exact .inl A7))) (ih (fun id A7=>hk id (by simp only [R8,G5,C3y];exact .inr A7)))
 | r h1 h2 _ ih =>
  intro hk
  exact .r (h1.fix hA h2 (fun id A7=>hk id (by simp only [R8,G5,C3y];exact .inl A7))) h2 (ih (fun id A7=>hk id (by simp only [R8,G5,C3y];exact .inr A7)))
theorem A0F {ob:Tr} {n0 nx id:Nat} (h:D2 n0 nx id=false):A1l ob n0 nx id=none:=by unfold A1l;rw [h];rfl
theorem R1.old {ob:Tr} {n0 nx:Nat} {keep:List Nat} (hA:A1m T c e eb of' ob n0 nx) {a:A} {v:Value} (h:R1 T e a v) (hn:∀ id∈D1 a,D2 n0 nx id=false):R1 T (e.anew ob n0 nx keep) a v:=by
 have nk:∀ {id:Nat},D2 n0 nx id=false→(D2 n0 nx id=true→id∈keep):=fun hf ht=>by rw [hf] at ht;cases ht
 cases a with
 | x=>exact h
 | p id t path =>
  obtain ⟨b,off,h1,h2,h3,h4,h5⟩:=h
  exact ⟨b,off,⟨h1,nk (hn id (by simp [D1]))⟩,hA.box0 h2,h3,h4,h5⟩
 | a id t path lo m =>
  obtain ⟨b,off,n,el,k,cap,h1,h2,h3⟩:=h
  exact ⟨b,off,n,el,k,cap,⟨h1,nk (hn id (by simp [D1]))⟩,hA.box0 h2,h3⟩
 | m id =>
  obtain ⟨b,h1,h2,h3⟩:=h
  exact ⟨b,⟨h1,nk (hn id (by simp [D1]))⟩,hA.box0 h2,h3⟩
 | y id =>
  obtain ⟨b,h1,h2,h3⟩:=h
  exact ⟨b,⟨h1,nk (hn id (by simp [D1]))⟩,hA.box0 h2,h3⟩
 | e id ver i t path =>
  obtain ⟨h0,h1,h2,h3,h4⟩:=h
  have hv:=A0F (ob:=ob) (hn id (by simp [D1]))
  exact ⟨h0,⟨h1,nk (hn id (by simp [D1]))⟩,by rw [L0 hv];exact h2,h3,fun hb=>h4 (by rw [L0 hv] at hb;exact hb)⟩
 | o id ver =>
  obtain ⟨h0,h1,h2,h3,h4⟩:=h
  have hv:=A0F (ob:=ob) (hn id (by simp [D1]))
  exact ⟨h0,⟨h1,nk (hn id (by simp [D1]))⟩,by rw [L0 hv];exact h2,h3,fun hb=>h4 (by rw [L0 hv] at hb;exact hb)⟩
 | w id ver off n =>
  obtain ⟨h0,h1,h2,h3,h4⟩:=h
  have hv:=A0F (ob:=ob) (hn id (by simp [D1]))
  exact ⟨h0,⟨h1,nk (hn id (by simp [D1]))⟩,by rw [L0 hv];exact h2,h3,fun hb=>h4 (by rw [L0 hv] at hb;exact hb)⟩
 | f fn cap =>
  obtain ⟨id,t,path,rfl,b,off,h1,h2,h3,h4,h5⟩:=A0R h
  exact ⟨b,off,⟨h1,nk (hn id (by simp [D1,G5]))⟩,hA.box0 h2,h3,h4,h5⟩
 | _=>exact h.elim
theorem RA.old {ob:Tr} {n0 nx:Nat} {keep:List Nat} (hA:A1m T c e eb of' ob n0 nx) {l:List A} {cs:List Value} (h:RA T e l cs):(∀ id∈G5 l,D2 n0 nx id=false)→RA T (e.anew ob n0 nx keep) l cs:=by
 induction h with
 | nil=>intro _;exact .nil
 | i hr _ ih=>intro hk;exact .i hr (ih (fun id A7=>hk id (by simp only [G5,C3y];exact .inr A7)))
 | b _ ih=>intro hk;exact .b (ih (fun id A7=>hk id (by simp only [G5,C3y];exact .inr A7)))
 | s _ ih=>intro hk;exact .s (ih (fun id A7=>hk id (by simp only [G5,C3y];exact .inr A7)))
 | z h1 _ ih=>intro hk;exact .z h1 (ih (fun id A7=>hk id (by simp only [G5,C3y];exact .inr A7)))
 | v h1 _ ih=>intro hk;exact .v h1.anew (ih (fun id A7=>hk id (by simp only [G5,C3y];exact .inr A7)))
 | c h1 h2 _ ih=>intro hk;exact .c h1.anew h2 (ih (fun id A7=>hk id (by simp only [G5,C3y];exact .inr A7)))
 | q h1 _ ih=>intro hk;exact .q h1.anew (ih (fun id A7=>hk id (by simp only [G5,C3y];exact .inr A7)))
 | f _ _ ih1 ih =>
  intro hk
  exact .f (ih1 (fun id A7=>hk id (by simp only [G5,D1,C3y];exact .inl A7))) (ih (fun id A7=>hk id (by simp only [G5,C3y];exact .inr A7)))
 | g h1 h2 h3 _ _ ih1 ih =>
  intro hk
  exact .g h1 h2 h3 (ih1 (fun id A7=>hk id (by simp only [G5,D1,C3y];exact .inl A7))) (ih (fun id A7=>hk id (by simp only [G5,C3y];exact .inr A7)))
 | r h1 h2 _ ih =>
  intro hk
  exact .r (h1.old hA (fun id A7=>hk id (by simp only [G5,C3y];exact .inl A7))) h2 (ih (fun id A7=>hk id (by simp only [G5,C3y];exact .inr A7)))
theorem E2.use {a:A} {v:Value} (h:E2 T e a v):∀ id∈D1 a,e.U id:=by
 have one:∀ {a:A} {cs:List Value},RA T e [a] cs→∀ id∈D1 a,e.U id:=fun g id A7=>g.use id (by simp only [G5,List.append_nil];exact A7)
 cases a with
 | x=>intro id h;cases h
 | t l=>exact h.elim
 | v t y=>intro id h;cases h
 | g t l=>exact one h.1
 | _=>exact one h
theorem E2.old {ob:Tr} {n0 nx:Nat} {keep:List Nat} (hA:A1m T c e eb of' ob n0 nx) {a:A} {v:Value} (h:E2 T e a v) (hn:∀ id∈D1 a,D2 n0 nx id=false):E2 T (e.anew ob n0 nx keep) a v:=by
 have one:∀ {a:A} {cs:List Value},RA T e [a] cs→(∀ id∈D1 a,D2 n0 nx id=false)→RA T (e.anew ob n0 nx keep) [a] cs:=fun g hk=>g.old hA (fun id A7=>hk id (by simpa [G5] using A7))
 cases a with
 | x=>trivial
 | t l=>exact h.elim
 | v t y=>exact ⟨h.1.anew,h.2⟩
 | g t l=>exact ⟨one h.1 hn,h.2⟩
 | _=>exact one h hn
theorem MR.use {kt et:Nat} {es:List (V×A)} {ms:List MapEntry} (h:MR T e kt et es ms):∀ p∈es,∀ id∈D1 p.2,e.U id:=by
 induction h with
 | nil=>intro p hp;cases hp
 | cons _ h2 _ _ ih =>
  intro p hp
  rcases List.mem_cons.1 hp with rfl | hp
  ·exact h2.use
  ·exact ih p hp
theorem MR.old {ob:Tr} {n0 nx:Nat} {keep:List Nat} (hA:A1m T c e eb of' ob n0 nx) {kt et:Nat} {es:List (V×A)} {ms:List MapEntry} (h:MR T e kt et es ms):(∀ p∈es,∀ id∈D1 p.2,D2 n0 nx id=false)→MR T (e.anew ob n0 nx keep) kt et es ms:=by
 induction h with
 | nil=>intro _;exact .nil
 | cons h1 h2 h3 _ ih=>intro hk;exact .cons (h1.old hA (fun id A7=>by cases A7)) (h2.old hA (hk _ (List.mem_cons_self ..))) h3 (ih (fun p hp=>hk p (List.mem_cons_of_mem _ hp)))
theorem OK.old {ob:Tr} {n0 nx id:Nat} {keep:List Nat} {o:Ob} (hA:A1m T c e eb of' ob n0 nx) (h:OK T e id o) (hb:OK T eb id o):OK T (e.anew ob n0 nx keep) id o:=by
 have nn:∀ {j:Nat},eb.U j→D2 n0 nx j=false:=fun {j} hj=>by
  cases hq:D2 n0 nx j with
  | false=>rfl
  | true=>exact absurd hj (hA.new j hq)
 have A7:=nn hb.use
 have hU:(e.anew ob n0 nx keep).U id:=⟨h.use,fun ht=>by rw [A7] at ht;cases ht⟩
 cases o with
 | box t a sh =>
  obtain ⟨h1,h2,h2',h2'',b,cs,ty,fz,h3,h4,h5,h5',h6,h7⟩:=h
  obtain ⟨_,_,_,_,_,cs0,_,_,_,_,_,_,g6,_⟩:=hb
  exact ⟨hU,hA.box0 h2,h2',h2'',b,cs,ty,fz,h3,h4,h5,h5',h6.old hA (fun j hj=>nn (g6.use j hj)),h7⟩
 | row el ver xs nl sh =>
  obtain ⟨h1,h2,h3,h4,h4',h5,h6⟩:=h
  refine ⟨hU,h2,by rw [L0 (A0F A7)];exact h3,h4,h4',h5,?_⟩
  rcases h6 with h6 | ⟨nn',b,o,cs,t,fz,pre,ys,post,g1,g2,g3,g4,g5,g6,g7,g8⟩
  ·exact .inl h6
  ·exact .inr ⟨nn',b,o,cs,t,fz,pre,ys,post,g1,g2,g3,g4,g5,g6.anew,g7,g8⟩
 | map kt et es =>
  obtain ⟨h1,h2,b,ms,clock,h3,h4,h5,es',h6,h7⟩:=h
  obtain ⟨_,_,_,ms0,_,_,_,_,es0,k6,k7⟩:=hb
  have hes:∀ p∈es,∀ j∈D1 p.2,D2 n0 nx j=false:=fun p hp j hj=>nn (k7.use p (k6.mem_iff.2 hp) j hj)
  exact ⟨hU,hA.box0 h2,b,ms,clock,h3,h4,h5,es',h6,h7.old hA (fun p hp=>hes p (h6.mem_iff.1 hp))⟩
 | vm kt et es =>
  obtain ⟨h1,h2,b,ms,clock,h3,h4,h5,es',h6,h7⟩:=h
  exact ⟨hU,hA.box0 h2,b,ms,clock,h3,h4,h5,es',h6,h7.old hA (fun p hp j hj=>by rw [A8j p (h6.mem_iff.1 hp)] at hj;cases hj)⟩
 | sm kt st el es ho =>
  obtain ⟨h1,h2,ha,hb',hc,b,ms,clock,h3,h4,h5,es',bs,h6,h7⟩:=h
  exact ⟨hU,hA.box0 h2,ha,hb',hc,b,ms,clock,h3,h4,h5,es',bs,h6,h7.change (e':=e.anew ob n0 nx keep) (fun a ds q=>A6Z q) rfl (fun _ _ q=>q) (fun _ _ q=>q)⟩
 | lp q =>
  cases q with
  | none =>
   obtain ⟨h1,h2,b,h3,h4⟩:=h
   exact ⟨hU,hA.box0 h2,b,h3,h4⟩
  | some r =>
   obtain ⟨h1,h2,b,tm,df,fn,h3,h4,h5,h6⟩:=h
   obtain ⟨_,_,_,tm0,_,_,_,_,_,k6⟩:=hb
   exact ⟨hU,hA.box0 h2,b,tm,df,fn,h3,h4,h5,fun p hp=>(h6 p hp).old hA (fun j hj=>nn ((k6 p hp).use j hj))⟩
 | it q =>
  cases q with
  | none =>
   obtain ⟨h1,h2,b,x,y,z,h3,h4⟩:=h
   exact ⟨hU,hA.box0 h2,b,x,y,z,h3,h4⟩
  | some m =>
   obtain ⟨h1,h2,b,bm,x,z,h3,h4,h5,h6,h7⟩:=h
   obtain ⟨_,_,_,_,_,_,_,_,k5,_⟩:=hb
   have hm:=nn k5
   exact ⟨hU,hA.box0 h2,b,bm,x,z,h3,h4,⟨h5,fun ht=>by rw [hm] at ht;cases ht⟩,hA.box0 h6,h7⟩
theorem E2.fix {ob:Tr} {n0 nx:Nat} {keep:List Nat} (hA:A1m T c e eb of' ob n0 nx) {a:A} {v:Value} (h:E2 T e a v) (hk:∀ id∈D1 (Q6 ob n0 nx a),D2 n0 nx id=true→id∈keep):E2 T (e.anew ob n0 nx keep) (Q6 ob n0 nx a) v:=by
 have one:∀ {a:A} {cs:List Value},RA T e [a] cs→(∀ id∈D1 (Q6 ob n0 nx a),D2 n0 nx id=true→id∈keep)→RA T (e.anew ob n0 nx keep) [Q6 ob n0 nx a] cs:=fun {a cs} g hk=>by
  have:=g.fix (keep:=keep) hA (fun id A7=>hk id (by simpa [R8,G5] using A7))
  simpa [R8] using this
 have sc:∀ {a:A},RA T e [a] [v]→(∀ id∈D1 (Q6 ob n0 nx a),D2 n0 nx id=true→id∈keep)→(Q6 ob n0 nx a=.x∨((∀ t y,Q6 ob n0 nx a≠.v t y)∧(∀ t l,Q6 ob n0 nx a≠.g t l)∧(∀ l,Q6 ob n0 nx a≠.t l)))→E2 T (e.anew ob n0 nx keep) (Q6 ob n0 nx a) v:=fun {a} g hk hs=>by
  have r:=one g hk
  rcases hs with hs | ⟨s1,s2,s3⟩
  ·rw [hs];trivial
  ·cases hf:Q6 ob n0 nx a with
   | v t y=>exact absurd hf (s1 _ _)
   | g t l=>exact absurd hf (s2 _ _)
   | t l=>exact absurd hf (s3 _)
   | x=>trivial
   | _=>rw [hf] at r;exact r
 have fr:∀ {id ver:Nat} {k:Nat→A},(∀ v,(∀ t y,k v≠.v t y)∧(∀ t l,k v≠.g t l)∧(∀ l,k v≠.t l))→(A22 ob n0 nx id ver k=.x∨((∀ t y,A22 ob n0 nx id ver k≠.v t y)∧(∀ t l,A22 ob n0 nx id ver k≠.g t l)∧(∀ l,A22 ob n0 nx id ver k≠.t l))):=by
  intro id ver k hk
  unfold A22
  split
  ·rename_i v _;cases Nat.beq v ver
   ·exact .inl rfl
   ·exact .inr (hk _)
  ·exact .inr (hk _)
 cases a with
 | x=>trivial
 | t l=>exact h.elim
 | v t y=>exact ⟨h.1.anew,h.2⟩
 | g t l=>exact ⟨one h.1 hk,h.2⟩
 | e id ver i t path=>exact sc h hk (fr (k:=fun v=>.e id v i t path) (fun v=>⟨by simp,by simp,by simp⟩))
 | o id ver=>exact sc h hk (fr (k:=fun v=>.o id v) (fun v=>⟨by simp,by simp,by simp⟩))
 | w id ver off n=>exact sc h hk (fr (k:=fun v=>.w id v off n) (fun v=>⟨by simp,by simp,by simp⟩))
 | _=>exact one h hk
theorem OK.fix {ob:Tr} {n0 nx id:Nat} {keep:List Nat} {o:Ob} (hA:A1m T c e eb of' ob n0 nx) (hg:ob.get id=some o) (h:OK T e id o) (hkeep:D2 n0 nx id=true→id∈keep) (hk:∀ j∈A3q (A2y ob n0 nx id o),D2 n0 nx j=true→j∈keep) (hmap:∀ kt et es,o=.map kt et es→∀ p∈es,D1 p.2=[]):OK T (e.anew ob n0 nx keep) id (A2y ob n0 nx id o):=by
 have hU:(e.anew ob n0 nx keep).U id:=⟨h.use,hkeep⟩
 cases o with
 | box t a sh =>
  obtain ⟨h1,h2,h2',h2'',b,cs,ty,fz,h3,h4,h5,h5',h6,h7⟩:=h
  refine ⟨hU,hA.box0 h2,h2',B4T h2'',b,cs,ty,fz,h3,h4,h5,h5',?_,h7⟩
  have:=h6.fix (keep:=keep) hA (fun j hj=>hk j (by simpa [R8,G5,A2y,A3q] using hj))
  simpa [R8] using this
 | row el ver xs nl sh =>
  obtain ⟨h1,h2,h3,h4,h4',h5,h6⟩:=h
  have rest:0 < B1 T el∧((nl=true∧(e.anew ob n0 nx keep).ι id=none∧xs=[])∨(nl=false∧∃ b o cs t fz pre ys post,(e.anew ob n0 nx keep).ι id=some (b,o)∧(e.anew ob n0 nx keep).w.heap[b]? = some (.cells cs t fz)∧A0y (e.anew ob n0 nx keep).w b cs∧cs.toList=pre++ys++post∧pre.length=o∧RV T (e.anew ob n0 nx keep) (List.replicate xs.length el) xs ys ∧
     (∀ i,o+ys.length≤i→¬ (e.anew ob n0 nx keep).S b i)∧(sh=false→∀ i,o≤i→¬ (e.anew ob n0 nx keep).S b i)∧t=el)):=by
   refine ⟨h5,?_⟩
   rcases h6 with h6 | ⟨nn',b,o,cs,t,fz,pre,ys,post,g1,g2,g3,g4,g5,g6,g7,g8⟩
   ·exact .inl h6
   ·exact .inr ⟨nn',b,o,cs,t,fz,pre,ys,post,g1,g2,g3,g4,g5,g6.anew,g7,g8⟩
  cases hn:D2 n0 nx id with
  | false =>
   have hf:A2y ob n0 nx id (.row el ver xs nl sh)=.row el ver xs nl sh:=by simp [A2y,hn]
   rw [hf]
   exact ⟨hU,h2,by rw [L0 (A0F hn)];exact h3,h4,h4',rest⟩
  | true =>
   have hf:A2y ob n0 nx id (.row el ver xs nl sh)=.row el 1 xs nl sh:=by simp [A2y,hn]
   rw [hf]
   have hv:A1l ob n0 nx id=some ver:=by unfold A1l;rw [hn,hg];rfl
   exact ⟨hU,by omega,A3L hv,h4,h4',rest⟩
 | map kt et es =>
  obtain ⟨h1,h2,b,ms,clock,h3,h4,h5,es',h6,h7⟩:=h
  exact ⟨hU,hA.box0 h2,b,ms,clock,h3,h4,h5,es',h6,h7.old hA (fun p hp j hj=>by rw [hmap kt et es rfl p (h6.mem_iff.1 hp)] at hj;cases hj)⟩
 | vm kt et es =>
  obtain ⟨h1,h2,b,ms,clock,h3,h4,h5,es',h6,h7⟩:=h
  exact ⟨hU,hA.box0 h2,b,ms,clock,h3,h4,h5,es',h6,h7.old hA (fun p hp j hj=>by rw [A8j p (h6.mem_iff.1 hp)] at hj;cases hj)⟩
 | sm kt st el es ho =>
  obtain ⟨h1,h2,ha,hb',hc,b,ms,clock,h3,h4,h5,es',bs,h6,h7⟩:=h
  exact ⟨hU,hA.box0 h2,ha,hb',hc,b,ms,clock,h3,h4,h5,es',bs,h6,h7.change (e':=e.anew ob n0 nx keep) (fun a ds q=>A6Z q) rfl (fun _ _ q=>q) (fun _ _ q=>q)⟩
 | lp q =>
  cases q with
  | none =>
   obtain ⟨h1,h2,b,h3,h4⟩:=h
   exact ⟨hU,hA.box0 h2,b,h3,h4⟩
  | some r =>
   obtain ⟨h1,h2,b,tm,df,fn,h3,h4,h5,h6⟩:=h
   refine ⟨hU,hA.box0 h2,b,tm,df,fn,h3,h4,h5,fun p hp=>?_⟩
   obtain ⟨q,hq,rfl⟩:=B4R _ _ _ _ p hp
   exact (h6 q hq).fix hA (fun j hj=>hk j (B4Q _ _ hp j hj))
 | it q =>
  cases q with
  | none =>
   obtain ⟨h1,h2,b,x,y,z,h3,h4⟩:=h
   exact ⟨hU,hA.box0 h2,b,x,y,z,h3,h4⟩
  | some m =>
   obtain ⟨h1,h2,b,bm,x,z,h3,h4,h5,h6,h7⟩:=h
   exact ⟨hU,hA.box0 h2,b,bm,x,z,h3,h4,⟨h5,hk m (by simp [A2y,A3q])⟩,hA.box0 h6,h7⟩
theorem B4U {ob:Tr} {n0 nx:Nat}:∀ {l:List A} {i:Nat} {v:A},(R8 ob n0 nx l)[i]? = some v→∃ a,l[i]? = some a∧v=Q6 ob n0 nx a:=by
 intro l
 induction l with
 | nil=>intro i v h;simp [R8] at h
 | cons a l ih =>
  intro i v h
  cases i with
  | zero=>simp [R8] at h;exact ⟨a,rfl,h.symm⟩
  | succ i=>exact ih (by simpa [R8] using h)
theorem B4V {ob:Tr} {n0 nx:Nat}:∀ {l:List A},(R8 ob n0 nx l).length=l.length:=by
 intro l
 induction l with
 | nil=>rfl
 | cons a l ih=>simp [R8,ih]
theorem B4W:∀ {l:List A} {i:Nat} {a:A},l[i]? = some a→∀ id∈D1 a,id∈G5 l:=by
 intro l
 induction l with
 | nil=>intro i a h;simp at h
 | cons b l ih =>
  intro i a h id A7
  simp only [G5,C3y]
  cases i with
  | zero=>simp at h;subst h;exact .inl A7
  | succ i=>exact .inr (ih (by simpa using h) id A7)
theorem B3.fix {ob:Tr} {n0 nx:Nat} {keep:List Nat} (hA:A1m T c e eb of' ob n0 nx) {a:A} {v:Value} (h:B3 T e a v) (hk:∀ id∈D1 (Q6 ob n0 nx a),D2 n0 nx id=true→id∈keep):B3 T (e.anew ob n0 nx keep) (Q6 ob n0 nx a) v:=by
 have X9:∀ {a:A},(∀ l,a≠.t l)→E2 T e a v→(∀ id∈D1 (Q6 ob n0 nx a),D2 n0 nx id=true→id∈keep)→B3 T (e.anew ob n0 nx keep) (Q6 ob n0 nx a) v:=fun {a} ht g hk=>by
  have r:=g.fix (keep:=keep) hA hk
  cases hf:Q6 ob n0 nx a with
  | t l =>
   rw [hf] at r;exact r.elim
  | _=>rw [hf] at r;exact r
 cases a with
 | t l =>
  obtain ⟨xs,rfl,h2,h3⟩:=h
  refine ⟨xs,rfl,by rw [B4V];exact h2,fun i v x hv hx=>?_⟩
  obtain ⟨a,ha,rfl⟩:=B4U hv
  exact (h3 i a x ha hx).fix hA (fun id A7=>hk id (B4W hv id A7))
 | _=>exact X9 (by intro l hl;cases hl) h hk
variable {P:Program} {T:TT} {c:F1} {e eb:A8} {of of':Nat→Option Ob}
def sw (i j n:Nat):Nat:=bif Nat.beq n i then j else bif Nat.beq n j then i else n
theorem A9T {a b:Nat} (h:a≠b):Nat.beq a b=false:=by
 cases hq:Nat.beq a b with
 | false=>rfl
 | true=>exact absurd (C3n hq) h
theorem C2S (i j:Nat):sw i j i=j:=by unfold sw;rw [Nat.beq_refl];rfl
theorem C2T (i j:Nat):sw i j j=i:=by
 unfold sw
 by_cases h:j=i
 ·subst h;rw [Nat.beq_refl];rfl
 ·rw [A9T h,Nat.beq_refl];rfl
theorem A3r {i j n:Nat} (h1:n≠i) (h2:n≠j):sw i j n=n:=by unfold sw;rw [A9T h1,A9T h2];rfl
@[simp] theorem sw_sw (i j n:Nat):sw i j (sw i j n)=n:=by
 by_cases h1:n=i
 ·subst h1;rw [C2S,C2T]
 ·by_cases h2:n=j
  ·subst h2;rw [C2T,C2S]
  ·rw [A3r h1 h2,A3r h1 h2]
theorem B98 {i j a b:Nat} (h:sw i j a=sw i j b):a=b:=by rw [← sw_sw i j a,h,sw_sw]
mutual
def swA (i j:Nat):A→A
 | .p id t path=>.p (sw i j id) t path
 | .e id ver k t path=>.e (sw i j id) ver k t path
 | .o id ver=>.o (sw i j id) ver
 | .w id ver off n=>.w (sw i j id) ver off n
 | .a id t path lo m=>.a (sw i j id) t path lo m
 | .m id=>.m (sw i j id)
 | .y id=>.y (sw i j id)
 | .f fn l=>.f fn (swL i j l)
 | .g t l=>.g t (swL i j l)
 | .t l=>.t (swL i j l)
 | a=>a
def swL (i j:Nat):List A→List A
 | []=>[]
 | a::r=>swA i j a::swL i j r
end
def swE (i j:Nat):List (V×A)→List (V×A)
 | []=>[]
 | p::r=>(p.1,swA i j p.2)::swE i j r
def swS (i j:Nat):List (Nat×A)→List (Nat×A)
 | []=>[]
 | p::r=>(p.1,swA i j p.2)::swS i j r
def swO (i j:Nat):Ob→Ob
 | .box t a sh=>.box t (swA i j a) sh
 | .row el ver xs nl sh=>.row el ver xs nl sh
 | .map kt et es=>.map kt et (swE i j es)
 | .vm kt et es=>.vm kt et es
 | .sm kt st el es ho=>.sm kt st el es ho
 | .lp (some r)=>.lp (some { r with sl:=swS i j r.sl })
 | .lp none=>.lp none
 | .it (some m)=>.it (some (sw i j m))
 | .it none=>.it none
def A8.sw (e:A8) (i j:Nat):A8:={ e with ι:=fun n=>e.ι (Vm.sw i j n),bn:=fun n=>e.bn (Vm.sw i j n),U:=fun n=>e.U (Vm.sw i j n),ty:=fun n=>e.ty (Vm.sw i j n),ln:=fun n=>e.ln (Vm.sw i j n) }
variable {i j:Nat}
theorem R1.sw {a:A} {v:Value} (h:R1 T e a v):R1 T (e.sw i j) (swA i j a) v:=by
 cases a
 case f fn cap =>
  obtain ⟨id,t,path,rfl,b,off,h1,h2,h3,h4,h5⟩:=A0R h
  show ∃ b off,_
  exact ⟨b,off,by simpa only [A8.sw,sw_sw] using h1,by simpa only [A8.sw,sw_sw] using h2,by simpa only [A8.sw,sw_sw] using h3,by simpa only [A8.sw,sw_sw] using h4,h5⟩
 all_goals simp only [R1,swA,A8.sw,sw_sw] at h ⊢<;>exact h
theorem A60 {t:Nat} {a:A}:B6 T t (swA i j a)=B6 T t a:=by cases a<;>rfl
theorem B7c:∀ {ts:List Nat} {l:List A},X6 T ts (swL i j l)=X6 T ts l:=by
 intro ts
 induction ts with
 | nil=>intro l;cases l<;>rfl
 | cons t ts ih=>intro l;cases l with
  | nil=>rfl
  | cons a l=>simp only [swL,X6,A60,ih]
theorem RV.sw {ts:List Nat} {xs:List V} {cs:List Value} (h:RV T e ts xs cs):RV T (e.sw i j) ts xs cs:=RV.change (e:=e) (e':=e.sw i j) (fun a ds q=>q) h
theorem RA.sw {l:List A} {cs:List Value} (h:RA T e l cs):RA T (e.sw i j) (swL i j l) cs:=by
 induction h with
 | nil=>exact .nil
 | i hr _ ih=>exact .i hr ih
 | b _ ih=>exact .b ih
 | s _ ih=>exact .s ih
 | z h1 _ ih=>exact .z h1 ih
 | v h1 _ ih=>exact .v h1.sw ih
 | c h1 h2 _ ih=>exact .c h1.sw h2 ih
 | q h1 _ ih=>exact .q h1.sw ih
 | f _ _ ih1 ih=>exact .f ih1 ih
 | g h1 h2 h3 _ _ ih1 ih=>exact .g h1 (by rw [B7c];exact h2) h3 ih1 ih
 | r h1 h2 _ ih=>exact .r h1.sw h2 ih
theorem E2.sw {a:A} {v:Value} (h:E2 T e a v):E2 T (e.sw i j) (swA i j a) v:=by
 cases a<;>simp only [E2] at h<;>first | trivial | exact h.elim | exact ⟨h.1.sw,h.2⟩ | exact RA.sw h
theorem B7d:∀ {l:List A} {k:Nat} {v:A},(swL i j l)[k]? = some v→∃ a,l[k]? = some a∧v=swA i j a:=by
 intro l
 induction l with
 | nil=>intro k v h;simp [swL] at h
 | cons a l ih =>
  intro k v h
  cases k with
  | zero=>simp [swL] at h;exact ⟨a,rfl,h.symm⟩
  | succ k=>exact ih (by simpa [swL] using h)
theorem B7e:∀ {l:List A},(swL i j l).length=l.length:=by
 intro l
 induction l with
 | nil=>rfl
 | cons a l ih=>simp [swL,ih]
theorem B3.sw {a:A} {v:Value} (h:B3 T e a v):B3 T (e.sw i j) (swA i j a) v:=by
 cases a with
 | t l =>
  obtain ⟨xs,rfl,h2,h3⟩:=h
  refine ⟨xs,rfl,by rw [B7e];exact h2,fun k v x hv hx=>?_⟩
  obtain ⟨a,ha,rfl⟩:=B7d hv
  exact (h3 k a x ha hx).sw
 | _=>exact (by first | exact E2.sw (a:=.i _ _) h | exact E2.sw (a:=.b _) h | exact E2.sw (a:=.s _) h | exact E2.sw (a:=.z _) h | exact E2.sw (a:=.v _ _) h | exact E2.sw (a:=.p _ _ _) h | exact E2.sw (a:=.e _ _ _ _ _) h | exact E2.sw (a:=.c _ _) h | exact E2.sw (a:=.q _ _) h | exact E2.sw (a:=.o _ _) h | exact E2.sw (a:=.w _ _ _ _) h | exact E2.sw (a:=.a _ _ _ _ _) h | exact E2.sw (a:=.m _) h | exact E2.sw (a:=.y _) h | exact E2.sw (a:=.f _ _) h | exact E2.sw (a:=.g _ _) h | trivial)
theorem MR.sw {kt et:Nat} {es:List (V×A)} {ms:List MapEntry} (h:MR T e kt et es ms):MR T (e.sw i j) kt et (swE i j es) ms:=by
 induction h with
 | nil=>exact .nil
 | cons h1 h2 h3 _ ih=>exact .cons h1.sw h2.sw (by rw [A60];exact h3) ih
theorem A2z:∀ l:List (V×A),swE i j l=l.map fun p=>(p.1,swA i j p.2):=by
 intro l
 induction l with
 | nil=>rfl
 | cons p r ih=>simp [swE,ih]
theorem B7f {et:Nat}:∀ es:List (V×V),swE i j (vms et es)=vms et es:=by
 intro es
 induction es with
 | nil=>rfl
 | cons p r ih=>simp only [vms,swE,ih];rfl
theorem B7g:∀ {l:List (Nat×A)} {p:Nat×A},p∈swS i j l→∃ q∈l,p=(q.1,swA i j q.2):=by
 intro l
 induction l with
 | nil=>intro p hp;cases hp
 | cons q r ih =>
  intro p hp
  rcases List.mem_cons.1 hp with rfl | hp
  ·exact ⟨q,by simp,rfl⟩
  ·obtain ⟨q',h1,h2⟩:=ih hp
   exact ⟨q',by simp [h1],h2⟩
theorem OK.sw {id:Nat} {o:Ob} (h:OK T e id o):OK T (e.sw i j) (Vm.sw i j id) (swO i j o):=by
 cases o with
 | box t a sh =>
  obtain ⟨h1,h2,h2',h2'',b,cs,ty,fz,h3,h4,h5,h5',h6,h7⟩:=h
  simp only [OK,swO,A8.sw,sw_sw,A60]
  exact ⟨h1,h2,h2',h2'',b,cs,ty,fz,h3,h4,h5,h5',RA.sw h6,h7⟩
 | row el ver xs nl sh =>
  obtain ⟨h1,h2,h3,h4,h4',h5,h6⟩:=h
  simp only [OK,swO,A8.sw,sw_sw]
  refine ⟨h1,h2,h3,h4,h4',h5,?_⟩
  rcases h6 with h6 | ⟨nn',b,o,cs,t,fz,pre,ys,post,g1,g2,g3,g4,g5,g6,g7,g8⟩
  ·exact .inl h6
  ·exact .inr ⟨nn',b,o,cs,t,fz,pre,ys,post,g1,g2,g3,g4,g5,g6.sw,g7,g8⟩
 | map kt et es =>
  obtain ⟨h1,h2,b,ms,clock,h3,h4,⟨h5,h5'⟩,es',h6,h7⟩:=h
  simp only [OK,swO,A8.sw,sw_sw]
  refine ⟨h1,h2,b,ms,clock,h3,h4,⟨by rw [A2z,List.map_map];exact h5,h5'⟩,swE i j es',by rw [A2z,A2z];exact h6.map _,h7.sw⟩
 | vm kt et es =>
  obtain ⟨h1,h2,b,ms,clock,h3,h4,⟨h5,h5'⟩,es',h6,h7⟩:=h
  simp only [OK,swO,A8.sw,sw_sw]
  refine ⟨h1,h2,b,ms,clock,h3,h4,⟨h5,h5'⟩,swE i j es',by rw [← B7f (i:=i) (j:=j) es,A2z,A2z];exact h6.map _,h7.sw⟩
 | sm kt st el es ho =>
  obtain ⟨h1,h2,ha,hb',hc,b,ms,clock,h3,h4,h5,es',bs,h6,h7⟩:=h
  simp only [OK,swO,A8.sw,sw_sw]
  exact ⟨h1,h2,ha,hb',hc,b,ms,clock,h3,h4,h5,es',bs,h6,SR.change (e:=e) (e':=e.sw i j) (fun a ds q=>q) rfl (fun _ _ q=>q) (fun _ _ q=>q) h7⟩
 | lp q =>
  cases q with
  | none =>
   obtain ⟨h1,h2,b,h3,h4⟩:=h
   simp only [OK,swO,A8.sw,sw_sw]
   exact ⟨h1,h2,b,h3,h4⟩
  | some r =>
   obtain ⟨h1,h2,b,tm,df,fn,h3,h4,h5,h6⟩:=h
   simp only [OK,swO,A8.sw,sw_sw]
   refine ⟨h1,h2,b,tm,df,fn,h3,h4,h5,fun p hp=>?_⟩
   obtain ⟨q,hq,rfl⟩:=B7g hp
   exact (h6 q hq).sw
 | it q =>
  cases q with
  | none =>
   obtain ⟨h1,h2,b,x,y,z,h3,h4⟩:=h
   simp only [OK,swO,A8.sw,sw_sw]
   exact ⟨h1,h2,b,x,y,z,h3,h4⟩
  | some m =>
   obtain ⟨h1,h2,b,bm,x,z,h3,h4,h5,h6,h7⟩:=h
   simp only [OK,swO,A8.sw,sw_sw]
   exact ⟨h1,h2,b,bm,x,z,h3,h4,h5,h6,h7⟩
mutual
theorem A61:∀ (a:A),(∀ k∈D1 a,k≠i∧k≠j)→swA i j a=a:=by
 intro a h
 cases a with
 | p id t path=>have:=h id (by simp [D1]);simp only [swA,A3r this.1 this.2]
 | e id ver k t path=>have:=h id (by simp [D1]);simp only [swA,A3r this.1 this.2]
 | o id ver=>have:=h id (by simp [D1]);simp only [swA,A3r this.1 this.2]
 | w id ver off n=>have:=h id (by simp [D1]);simp only [swA,A3r this.1 this.2]
 | a id t path lo m=>have:=h id (by simp [D1]);simp only [swA,A3r this.1 this.2]
 | m id=>have:=h id (by simp [D1]);simp only [swA,A3r this.1 this.2]
 | y id=>have:=h id (by simp [D1]);simp only [swA,A3r this.1 this.2]
 | f fn l=>simp only [swA,A62 l (fun k hk=>h k (by simpa [D1] using hk))]
 | g t l=>simp only [swA,A62 l (fun k hk=>h k (by simpa [D1] using hk))]
 | t l=>simp only [swA,A62 l (fun k hk=>h k (by simpa [D1] using hk))]
 | _=>rfl
theorem A62:∀ (l:List A),(∀ k∈G5 l,k≠i∧k≠j)→swL i j l=l:=by
 intro l h
 cases l with
 | nil=>rfl
 | cons a r=>simp only [swL,A61 a (fun k hk=>h k (by simp [G5,hk])),A62 r (fun k hk=>h k (by simp [G5,hk]))]
end
theorem B99:∀ (l:List (V×A)),(∀ k∈A3p l,k≠i∧k≠j)→swE i j l=l:=by
 intro l
 induction l with
 | nil=>intro _;rfl
 | cons p r ih=>intro h;simp only [swE,A61 p.2 (fun k hk=>h k (by simp [A3p,hk])),ih (fun k hk=>h k (by simp [A3p,hk]))]
theorem C0a:∀ (l:List (Nat×A)),(∀ k∈A1L l,k≠i∧k≠j)→swS i j l=l:=by
 intro l
 induction l with
 | nil=>intro _;rfl
 | cons p r ih=>intro h;simp only [swS,A61 p.2 (fun k hk=>h k (by simp [A1L,hk])),ih (fun k hk=>h k (by simp [A1L,hk]))]
theorem C0b:∀ (o:Ob),(∀ k∈A3q o,k≠i∧k≠j)→swO i j o=o:=by
 intro o h
 cases o with
 | box t a sh=>simp only [swO,A61 a h]
 | row el ver xs nl sh=>rfl
 | map kt et es=>simp only [swO,B99 es h]
 | vm kt et es=>rfl
 | sm _ _ _ _ _=>rfl
 | lp q=>cases q with
  | none=>rfl
  | some r=>simp only [swO,C0a r.sl h]
 | it q=>cases q with
  | none=>rfl
  | some m=>have:=h m (by simp [A3q]);simp only [swO,A3r this.1 this.2]
theorem E2.used {a:A} {v:Value} (h:E2 T e a v):∀ id∈D1 a,e.U id:=by
 have one:∀ {a:A} {cs:List Value},RA T e [a] cs→∀ id∈D1 a,e.U id:=fun g id A7=>g.use id (by simp [G5,A7])
 cases a<;>simp only [E2] at h
 case x=>intro id A7;cases A7
 case v=>intro id A7;cases A7
 case g=>exact one h.1
 all_goals exact one h
theorem MR.used {kt et:Nat} {es:List (V×A)} {ms:List MapEntry} (h:MR T e kt et es ms):∀ id∈A3p es,e.U id:=by
 induction h with
 | nil=>intro id A7;cases A7
 | cons h1 h2 _ _ ih =>
  intro id A7
  simp only [A3p,C3y] at A7
  exact A7.elim (h2.used id) (ih id)
theorem B2j {a b:List (V×A)} (h:a.Perm b):∀ id,id∈A3p b→id∈A3p a:=by
 have mem:∀ (l:List (V×A)) id,id∈A3p l↔∃ p∈l,id∈D1 p.2:=by
  intro l id
  induction l with
  | nil=>simp [A3p]
  | cons p r ih=>simp [A3p,ih]
 intro id A7
 rw [mem] at A7 ⊢
 obtain ⟨p,hp,hq⟩:=A7
 exact ⟨p,h.mem_iff.2 hp,hq⟩
theorem OK.used {id:Nat} {o:Ob} (h:OK T e id o):∀ k∈A3q o,e.U k:=by
 cases o with
 | box t a sh =>
  obtain ⟨h1,h2,h2',h2'',b,cs,ty,fz,h3,h4,h5,h5',h6,h7⟩:=h
  exact fun k hk=>h6.use k (by simpa [G5,A3q] using hk)
 | row el ver xs nl sh=>intro k hk;cases hk
 | map kt et es =>
  obtain ⟨h1,h2,b,ms,clock,h3,h4,h5,es',h6,h7⟩:=h
  exact fun k hk=>h7.used k (B2j h6 k hk)
 | vm kt et es=>intro k hk;cases hk
 | sm _ _ _ _ _=>intro k hk;cases hk
 | lp q =>
  cases q with
  | none=>intro k hk;cases hk
  | some r =>
   obtain ⟨h1,h2,b,tm,df,fn,h3,h4,h5,h6⟩:=h
   have mem:∀ (l:List (Nat×A)) id,id∈A1L l→∃ p∈l,id∈D1 p.2:=by
    intro l id
    induction l with
    | nil=>intro h;cases h
    | cons p r ih =>
     intro h
     simp only [A1L,C3y] at h
     rcases h with h | h
     ·exact ⟨p,by simp,h⟩
     ·obtain ⟨q,q1,q2⟩:=ih h;exact ⟨q,by simp [q1],q2⟩
   intro k hk
   obtain ⟨p,hp,hq⟩:=mem _ _ hk
   exact (h6 p hp).used k hq
 | it q =>
  cases q with
  | none=>intro k hk;cases hk
  | some m =>
   obtain ⟨h1,h2,b,bm,x,z,h3,h4,h5,h6,h7⟩:=h
   intro k hk
   have:k=m:=by simpa [A3q] using hk
   subst this;exact h5
def swP (i j:Nat) (p:Nat×Ob):Nat×Ob:=(sw i j p.1,swO i j p.2)
def swM (i j:Nat):List (Nat×Ob)→List (Nat×Ob)
 | []=>[]
 | p::r=>swP i j p::swM i j r
theorem B7h:∀ (l:List (Nat×Ob)) (f g:Nat→Option Ob),(∀ n,g n=(f (sw i j n)).map (swO i j))→∀ n,put g (swM i j l) n=(put f l (sw i j n)).map (swO i j):=by
 intro l
 induction l with
 | nil=>intro f g h n;exact h n
 | cons p r ih =>
  intro f g h n
  obtain ⟨k,o⟩:=p
  simp only [swM,swP,put]
  refine ih _ _ (fun n=>?_) n
  by_cases hn:n=sw i j k
  ·subst hn;rw [upd_same,sw_sw,upd_same];rfl
  ·rw [A3 _ _ hn,A3 _ _ (fun q=>hn (by rw [← q,sw_sw])),h]
theorem B4X {l:List Nat} {ds:List Deferred} (h:U9 e l ds):U9 (e.sw i j) (l.map (sw i j)) ds:=by
 induction h with
 | nil=>exact .nil
 | cons h1 h2 h3 _ ih=>exact .cons (by simp only [A8.sw,sw_sw];exact h1) (by simp only [A8.sw,sw_sw];exact h2) (by simp only [A8.sw,sw_sw];exact h3) ih
variable {P:Program} {T:TT} {c:F1} {e eb:A8} {of of':Nat→Option Ob}
def A23 (ob:Tr) (n0 nx:Nat):Nat→List Nat→List Nat→List Nat
 | 0,_,seen=>seen
 | _+1,[],seen=>seen
 | f+1,id::r,seen=>bif mem id seen||!(D2 n0 nx id) then A23 ob n0 nx f r seen else
  match ob.get id with
  | some o=>A23 ob n0 nx f (A3q (A2y ob n0 nx id o)++r) (id::seen)
  | none=>A23 ob n0 nx f r (id::seen)
def okR (n0 nx:Nat) (keep:List Nat) (id:Nat):Bool:=!(D2 n0 nx id)||mem id keep
def A63 (n0 nx:Nat) (keep:List Nat):List Nat→Bool
 | []=>true
 | id::r=>okR n0 nx keep id&&A63 n0 nx keep r
def A64:List (V×A)→Bool
 | []=>true
 | p::r=>(match D1 p.2 with | []=>true | _=>false)&&A64 r
def B8w:Ob→Bool
 | .map _ _ es=>A64 es
 | _=>true
def A1P (ob:Tr) (n0 nx:Nat) (keep:List Nat):List (Nat×Ob)→List (Nat×Ob)
 | []=>[]
 | p::r=>bif okR n0 nx keep p.1 then (p.1,A2y ob n0 nx p.1 p.2)::A1P ob n0 nx keep r else A1P ob n0 nx keep r
def B4Y (n0 nx:Nat) (keep:List Nat):List (Nat×Ob)→Bool
 | []=>true
 | p::r=>A63 n0 nx keep (A3q p.2)&&(B8w p.2&&B4Y n0 nx keep r)
def B4Z:List Nat→Nat→Nat
 | [],m=>m
 | id::r,m=>B4Z r (bif Nat.blt m (id+1) then id+1 else m)
def A4K (ob:Tr) (n0 nx:Nat):List (Nat×Ob)→List Nat
 | []=>[]
 | p::r=>bif D2 n0 nx p.1 then A4K ob n0 nx r else A3q (A2y ob n0 nx p.1 p.2)++A4K ob n0 nx r
def mkL:Option (List Nat)→List Nat
 | some l=>l
 | none=>[]
theorem U9.anew {ob:Tr} {n0 nx:Nat} {keep:List Nat} (hA:A1m T c e eb of' ob n0 nx) {l:List Nat} {ds:List Deferred} (h:U9 e l ds):(∀ id∈l,D2 n0 nx id=true→id∈keep)→U9 (e.anew ob n0 nx keep) l ds:=by
 induction h with
 | nil=>intro _;exact .nil
 | cons h1 h2 h3 _ ih=>intro hk;exact .cons ⟨h1,hk _ (by simp)⟩ (hA.box0 h2) h3 (ih fun id A7=>hk id (by simp [A7]))
theorem A3g.anew {ob:Tr} {n0 nx:Nat} {keep:List Nat} (hA:A1m T c e eb of' ob n0 nx) {rd:Option Nat} {l:Option (List Nat)} {ds:List Deferred} (h:A3g e rd l ds) (hk:∀ id∈mkL l,D2 n0 nx id=true→id∈keep):A3g (e.anew ob n0 nx keep) rd l ds:=by
 cases l with
 | none=>exact h
 | some l=>exact ⟨h.1,h.2.anew hA hk⟩
def St.norm0 (σ:St) (n0:Nat) (ks:List Nat):Option St :=
 let sl:=A4J σ.ob n0 σ.nx (A0j σ.sl ks)
 let L:=σ.ob.toL fun j=>j
 let keep:=A23 σ.ob n0 σ.nx 1000 (A1L sl++(mkL σ.mks++A4K σ.ob n0 σ.nx L)) []
 let L2:=A1P σ.ob n0 σ.nx keep L
 bif (A63 n0 σ.nx keep (A1L sl)&&A63 n0 σ.nx keep (mkL σ.mks))&&B4Y n0 σ.nx keep L2 then some ⟨sl,A0b .e L2,σ.rd,B4Z keep n0,σ.mks⟩ else none
theorem A8k {n0 nx id:Nat} {keep:List Nat} (h:okR n0 nx keep id=true):D2 n0 nx id=true→id∈keep:=by
 intro hn
 unfold okR at h
 rw [hn] at h
 exact mem_iff.1 (by simpa using h)
theorem A24 {n0 nx:Nat} {keep:List Nat}:∀ {l:List Nat},A63 n0 nx keep l=true→∀ id∈l,D2 n0 nx id=true→id∈keep:=by
 intro l
 induction l with
 | nil=>intro _ id h;cases h
 | cons k r ih =>
  intro h id A7
  simp only [A63,C3o] at h
  rcases List.mem_cons.1 A7 with rfl | A7
  ·exact A8k h.1
  ·exact ih h.2 id A7
theorem A8l:∀ {es:List (V×A)},A64 es=true→∀ p∈es,D1 p.2=[]:=by
 intro es
 induction es with
 | nil=>intro _ p h;cases h
 | cons q r ih =>
  intro h p hp
  simp only [A64,C3o] at h
  rcases List.mem_cons.1 hp with rfl | hp
  ·cases hq:D1 p.2 with
   | nil=>rfl
   | cons _ _=>rw [hq] at h;simp at h
  ·exact ih h.2 p hp
theorem B7i:∀ (l:List Nat) (m:Nat),m≤B4Z l m∧∀ id∈l,id < B4Z l m:=by
 intro l
 induction l with
 | nil=>intro m;exact ⟨Nat.le_refl _,fun id h=>by cases h⟩
 | cons k r ih =>
  intro m
  simp only [B4Z]
  obtain ⟨p,q⟩:=ih (bif Nat.blt m (k+1) then k+1 else m)
  have hm:m≤(bif Nat.blt m (k+1) then k+1 else m)∧k < (bif Nat.blt m (k+1) then k+1 else m):=by
   cases hb:Nat.blt m (k+1) with
   | true=>have:m < k+1:=by simpa [Nat.blt_eq] using hb
           exact ⟨by simp;omega,by simp⟩
   | false =>
    have:¬ m < k+1:=by intro hq;rw [show Nat.blt m (k+1)=true by simpa [Nat.blt_eq] using hq] at hb;cases hb
    exact ⟨by simp,by simp;omega⟩
  refine ⟨Nat.le_trans hm.1 p,fun id A7=>?_⟩
  rcases List.mem_cons.1 A7 with rfl | A7
  ·exact Nat.lt_of_lt_of_le hm.2 p
  ·exact q id A7
theorem B40 {ob:Tr} {n0 nx:Nat}:∀ {l:List (Nat×A)} {t:Nat},D5 (A4J ob n0 nx l) t=Q6 ob n0 nx (D5 l t):=by
 intro l
 induction l with
 | nil=>intro t;rfl
 | cons p r ih =>
  intro t
  obtain ⟨k,v⟩:=p
  rw [A4J,P0,P0]
  by_cases h:t=k
  ·subst h;rw [upd_same,upd_same]
  ·rw [A3 _ _ h,A3 _ _ h];exact ih
theorem B41:∀ {l:List (Nat×A)} {t:Nat},∀ id∈D1 (D5 l t),id∈A1L l:=by
 intro l
 induction l with
 | nil=>intro t id h;cases h
 | cons p r ih =>
  intro t id h
  obtain ⟨k,v⟩:=p
  simp only [A1L,C3y]
  rw [P0] at h
  by_cases hk:t=k
  ·subst hk;rw [upd_same] at h;exact .inl h
  ·rw [A3 _ _ hk] at h;exact .inr (ih id h)
theorem A25:∀ (l:List (Nat×Ob)) (f:Nat→Option Ob) (id:Nat),put f l id=match put (fun _=>none) l id with
  | some o=>some o
  | none=>f id:=by
 intro l
 induction l with
 | nil=>intro f id;rfl
 | cons p r ih =>
  intro f id
  obtain ⟨k,o⟩:=p
  simp only [put]
  rw [ih (D3 f k (some o)),ih (D3 (fun _=>none) k (some o))]
  cases hq:put (fun _=>none) r id with
  | some o'=>rfl
  | none =>
   simp only
   by_cases h:id=k
   ·subst h;rw [upd_same,upd_same]
   ·rw [A3 _ _ h,A3 _ _ h]
theorem A8m {ob:Tr} {n0 nx:Nat} {keep:List Nat}:∀ (l:List (Nat×Ob)) (id:Nat),put (fun _=>none) (A1P ob n0 nx keep l) id=if okR n0 nx keep id=true then (put (fun _=>none) l id).map (A2y ob n0 nx id) else none:=by
 intro l
 induction l with
 | nil=>intro id;simp [A1P,put]
 | cons p r ih =>
  intro id
  obtain ⟨k,o⟩:=p
  simp only [A1P]
  cases hk:okR n0 nx keep k with
  | false =>
   simp only [cond_false,put]
   rw [ih id,A25 r (D3 (fun _=>none) k (some o))]
   by_cases A7:okR n0 nx keep id=true
   ·have hne:id≠k:=fun h=>by subst h;rw [hk] at A7;cases A7
    rw [if_pos A7,if_pos A7,A3 _ _ hne]
    cases put (fun _=>none) r id<;>rfl
   ·rw [if_neg A7,if_neg A7]
  | true =>
   simp only [cond_true,put]
   rw [A25 (A1P ob n0 nx keep r) (D3 (fun _=>none) k _),ih id,A25 r (D3 (fun _=>none) k (some o))]
   by_cases A7:okR n0 nx keep id=true
   ·rw [if_pos A7,if_pos A7]
    cases put (fun _=>none) r id with
    | some o'=>rfl
    | none =>
     simp only [Option.map_none]
     by_cases h:id=k
     ·subst h;rw [upd_same,upd_same];rfl
     ·rw [A3 _ _ h,A3 _ _ h];rfl
   ·rw [if_neg A7,if_neg A7]
    simp only
    by_cases h:id=k
    ·subst h;exact absurd hk A7
    ·exact A3 _ _ h
theorem B42 {n0 nx:Nat} {keep:List Nat}:∀ {l:List (Nat×Ob)},B4Y n0 nx keep l=true→∀ id o,put (fun _=>none) l id=some o→A63 n0 nx keep (A3q o)=true∧B8w o=true:=by
 intro l
 induction l with
 | nil=>intro _ id o h;cases h
 | cons p r ih =>
  intro h id o ho
  obtain ⟨k,o1⟩:=p
  simp only [B4Y,C3o] at h
  simp only [put] at ho
  rw [A25] at ho
  split at ho
  ·rename_i o' ho'
   injection ho with ho;subst ho
   exact ih h.2.2 id _ ho'
  ·by_cases hk:id=k
   ·subst hk;rw [upd_same] at ho;injection ho with ho;subst ho;exact ⟨h.1,h.2.1⟩
   ·rw [A3 _ _ hk] at ho;cases ho
theorem Sim.norm0 {n0 nt:Nat} {σ σn:St} {a:Act} {w:World} {ks:List Nat} (h:Sim T c eb of' n0 nt σ a w) (hb:A6E T eb of') (hnew:∀ id,n0≤id→id < σ.nx→¬ eb.U id) (hn:σ.norm0 n0 ks=some σn):Sim T c eb of' n0 nt σn a w∧n0≤σn.nx∧σn.rd=σ.rd:=by
 obtain ⟨e,rfl,hst⟩:=h
 unfold St.norm0 at hn
 simp only at hn
 generalize hkeep:A23 σ.ob n0 σ.nx 1000 (A1L (A4J σ.ob n0 σ.nx (A0j σ.sl ks))++(mkL σ.mks++A4K σ.ob n0 σ.nx (σ.ob.toL fun j=>j))) []=keep at hn
 cases hc:((A63 n0 σ.nx keep (A1L (A4J σ.ob n0 σ.nx (A0j σ.sl ks)))&&A63 n0 σ.nx keep (mkL σ.mks))&&B4Y n0 σ.nx keep (A1P σ.ob n0 σ.nx keep (σ.ob.toL fun j=>j))) with
 | false=>rw [hc] at hn;cases hn
 | true =>
 rw [hc] at hn
 simp only [cond_true,C3q] at hn
 subst hn
 simp only [C3o] at hc
 obtain ⟨hc1,hc2⟩:=hc
 have isn:∀ {id:Nat},D2 n0 σ.nx id=true→n0≤id∧id < σ.nx:=fun {id} hq=>by
  simp only [D2,C3o] at hq
  exact ⟨C3t hq.1,by simpa [Nat.blt_eq] using hq.2⟩
 have nis:∀ {id:Nat},eb.U id→D2 n0 σ.nx id=false:=fun {id} hu=>by
  cases hq:D2 n0 σ.nx id with
  | false=>rfl
  | true=>exact absurd hu (hnew id (isn hq).1 (isn hq).2)
 have hA:A1m T c e eb of' σ.ob n0 σ.nx:=⟨hst.os,fun id hq=>hnew id (isn hq).1 (isn hq).2⟩
 obtain ⟨hm0,hmk⟩:=B7i keep n0
 have hget:∀ id,put (fun _=>none) (σ.ob.toL fun j=>j) id=σ.ob.get id:=fun id=>by
  rw [A0Y];unfold B7;cases σ.ob.get id<;>rfl
 have hover:∀ id,B7 (A0b .e (A1P σ.ob n0 σ.nx keep (σ.ob.toL fun j=>j))) of' id=if okR n0 σ.nx keep id=true then (match σ.ob.get id with | some o=>some (A2y σ.ob n0 σ.nx id o) | none=>of' id) else of' id:=by
  intro id
  rw [A0C,show B7 Tr.e of'=of' from funext fun j=>by unfold B7;rw [Tr.get_e],A25,A8m,hget]
  by_cases A7:okR n0 σ.nx keep id=true
  ·rw [if_pos A7,if_pos A7];cases σ.ob.get id<;>rfl
  ·rw [if_neg A7,if_neg A7]
 have hok:∀ id o,B7 (A0b .e (A1P σ.ob n0 σ.nx keep (σ.ob.toL fun j=>j))) of' id=some o→OK T (e.anew σ.ob n0 σ.nx keep) id o∧(B7 σ.ob of' id).isSome∧e.U id:=by
  intro id o ho
  rw [hover] at ho
  by_cases A7:okR n0 σ.nx keep id=true
  ·rw [if_pos A7] at ho
   cases hg:σ.ob.get id with
   | some o1 =>
    rw [hg] at ho
    injection ho with ho;subst ho
    have h1:B7 σ.ob of' id=some o1:=by unfold B7;rw [hg]
    have hch:=B42 hc2 id (A2y σ.ob n0 σ.nx id o1) (by rw [A8m,if_pos A7,hget,hg];rfl)
    refine ⟨OK.fix hA hg (hst.os.ok _ _ h1) (A8k A7) (A24 hch.1) (fun kt et es he=>?_),by rw [h1];rfl,(hst.os.ok _ _ h1).use⟩
    subst he
    exact A8l hch.2
   | none =>
    rw [hg] at ho
    have h1:B7 σ.ob of' id=some o:=by unfold B7;rw [hg];exact ho
    exact ⟨OK.old hA (hst.os.ok _ _ h1) (hb id o ho),by rw [h1];rfl,(hst.os.ok _ _ h1).use⟩
  ·rw [if_neg A7] at ho
   have hu:=(hb id o ho).use
   have:=nis hu
   unfold okR at A7
   rw [this] at A7
   exact absurd rfl A7
 refine ⟨⟨e.anew σ.ob n0 σ.nx keep,rfl,⟨⟨fun id o ho=>(hok id o ho).1,fun i j b o b' o' hi hj=>?_,fun i b o hi=>?_,fun i b o hi=>hst.os.lt i b o hi.1,hst.os.slt,hst.os.s0,hst.os.snew,hst.os.os,hst.os.tape,hst.os.output,hst.os.size,hst.os.block,hst.os.g.mono (fun _ _ q=>q) rfl (fun _ q=>q) (Nat.le_refl _) (fun j b o hj hb=>by
  obtain ⟨o1,ho1⟩:=C3s.1 hj
  exact .inl ⟨j,o,(hok _ _ ho1).2.1,hb⟩)⟩,?_,fun id A7=>?_,fun t=>?_,hst.def_.anew hA (A24 hc1.2),hst.nt⟩⟩,hm0,rfl⟩
 ·obtain ⟨o1,ho1⟩:=C3s.1 hi
  obtain ⟨o2,ho2⟩:=C3s.1 hj
  exact hst.os.sep i j b o b' o' (hok _ _ ho1).2.1 (hok _ _ ho2).2.1
 ·obtain ⟨o1,ho1⟩:=C3s.1 hi
  exact hst.os.own i b o (hok _ _ ho1).2.1
 ·have old:∀ {id:Nat},eb.U id→(e.anew σ.ob n0 σ.nx keep).bn id=e.bn id:=fun {id} hu=>L0 (A0F (nis hu))
  exact ⟨hst.le.S,fun id hu=>⟨hst.le.use id hu,fun hq=>by rw [nis hu] at hq;cases hq⟩,fun id hu hq=>hst.le.obj id hu (by rw [← old hu];exact hq),fun id hu h0=>by rw [old hu];exact hst.le.box id hu h0,fun id hu=>by rw [old hu];exact hst.le.up id hu,hst.le.ty,hst.le.grow,hst.le.keep⟩
 ·rcases hst.U id A7.1 with h | h
  ·exact .inl h
  ·refine .inr ⟨h.1,hmk id (A7.2 ?_)⟩
   simp only [D2,C3o]
   exact ⟨C3x h.1,by simpa [Nat.blt_eq] using h.2⟩
 ·show B3 T _ (D5 (A4J σ.ob n0 σ.nx (A0j σ.sl ks)) t) _
  have hr:B3 T e (D5 (A0j σ.sl ks) t) (a.tmps.getD t undef):=by
   rcases A5U σ.sl ks t with h | h
   ·rw [h];trivial
   ·rw [h];exact hst.sl t
  have href:∀ id∈D1 (D5 (A4J σ.ob n0 σ.nx (A0j σ.sl ks)) t),D2 n0 σ.nx id=true→id∈keep:=fun id A7=>A24 hc1.1 id (B41 id A7)
  rw [B40] at href ⊢
  exact hr.fix hA href
def St.swap (σ:St) (i j:Nat):St:={ σ with sl:=swS i j σ.sl,ob:=A0b .e (swM i j (σ.ob.toL fun j=>j)),mks:=match σ.mks with
 | some l=>some (l.map (sw i j))
 | none=>none }
theorem B7j {i j:Nat}:∀ {l:List (Nat×A)} {t:Nat},D5 (swS i j l) t=swA i j (D5 l t):=by
 intro l
 induction l with
 | nil=>intro t;rfl
 | cons p r ih =>
  intro t
  obtain ⟨k,v⟩:=p
  rw [swS,P0,P0]
  by_cases h:t=k
  ·subst h;rw [upd_same,upd_same]
  ·rw [A3 _ _ h,A3 _ _ h];exact ih
theorem Sim.swap {n0 nt:Nat} {σ:St} {a:Act} {w:World} (h:Sim T c eb of' n0 nt σ a w) (hb:A6E T eb of') {i j:Nat} (hi:n0≤i∧i < σ.nx) (hj:n0≤j∧j < σ.nx) (hui:¬ eb.U i) (huj:¬ eb.U j):Sim T c eb of' n0 nt (σ.swap i j) a w:=by
 obtain ⟨e,rfl,hst⟩:=h
 have old:∀ {n:Nat},eb.U n→sw i j n=n:=fun {n} hu=>A3r (fun q=>hui (q ▸ hu)) (fun q=>huj (q ▸ hu))
 have hget:∀ id,put (fun _=>none) (σ.ob.toL fun j=>j) id=σ.ob.get id:=fun id=>by
  rw [A0Y];unfold B7;cases σ.ob.get id<;>rfl
 have hover:∀ n,B7 (A0b .e (swM i j (σ.ob.toL fun j=>j))) of' n=match σ.ob.get (sw i j n) with
   | some o=>some (swO i j o)
   | none=>of' n:=by
  intro n
  rw [A0C,show B7 Tr.e of'=of' from funext fun j=>by unfold B7;rw [Tr.get_e],A25,B7h _ (fun _=>none) (fun _=>none) (fun _=>rfl),hget]
  cases σ.ob.get (sw i j n)<;>rfl
 have hok:∀ n o,B7 (A0b .e (swM i j (σ.ob.toL fun j=>j))) of' n=some o→OK T (e.sw i j) n o∧(B7 σ.ob of' (sw i j n)).isSome:=by
  intro n o ho
  rw [hover] at ho
  split at ho
  ·rename_i o1 hg
   injection ho with ho;subst ho
   have h1:B7 σ.ob of' (sw i j n)=some o1:=by unfold B7;rw [hg]
   have:=(hst.os.ok _ _ h1).sw (i:=i) (j:=j)
   rw [sw_sw] at this
   exact ⟨this,by rw [h1];rfl⟩
  ·rename_i hg
   have hbo:=hb n o ho
   have hn:=old hbo.use
   rw [hn] at hg ⊢
   have h1:B7 σ.ob of' n=some o:=by unfold B7;rw [hg];exact ho
   have:=(hst.os.ok _ _ h1).sw (i:=i) (j:=j)
   rw [hn,C0b o (fun k hk=>⟨fun q=>hui (by rw [← q];exact hbo.used k hk),fun q=>huj (by rw [← q];exact hbo.used k hk)⟩)] at this
   exact ⟨this,by rw [h1];rfl⟩
 refine ⟨e.sw i j,rfl,⟨fun id o ho=>(hok id o ho).1,fun p q b o b' o' hp hq hb1 hb2 hne=>?_,fun p b o hp hb1=>?_,fun p b o hp hb1=>hst.os.lt _ b o hp hb1,hst.os.slt,hst.os.s0,hst.os.snew,hst.os.os,hst.os.tape,hst.os.output,hst.os.size,hst.os.block,hst.os.g.mono (fun _ _ q=>q) rfl (fun _ q=>q) (Nat.le_refl _) (fun p b o hp hb=>by
  obtain ⟨o1,ho1⟩:=C3s.1 hp
  exact .inl ⟨_,o,(hok _ _ ho1).2,hb⟩)⟩,?_,fun id A7=>?_,fun t=>?_,?_,hst.nt⟩
 ·obtain ⟨o1,ho1⟩:=C3s.1 hp
  obtain ⟨o2,ho2⟩:=C3s.1 hq
  exact hst.os.sep _ _ b o b' o' (hok _ _ ho1).2 (hok _ _ ho2).2 hb1 hb2 (fun k=>hne (B98 k))
 ·obtain ⟨o1,ho1⟩:=C3s.1 hp
  exact hst.os.own _ b o (hok _ _ ho1).2 hb1
 ·have k:∀ {n:Nat},eb.U n→(e.sw i j).ι n=e.ι n∧(e.sw i j).bn n=e.bn n∧(e.sw i j).ln n=e.ln n∧(e.sw i j).ty n=e.ty n∧((e.sw i j).U n↔e.U n):=fun {n} hu=>by
   have:=old hu
   refine ⟨?_,?_,?_,?_,?_⟩<;>simp only [A8.sw,this]
  exact ⟨hst.le.S,fun id hu=>(k hu).2.2.2.2.2 (hst.le.use id hu),fun id hu hq=>by rw [(k hu).1,(k hu).2.2.1];exact hst.le.obj id hu (by rw [← (k hu).2.1];exact hq),fun id hu h0=>by rw [(k hu).2.1];exact hst.le.box id hu h0,fun id hu=>by rw [(k hu).2.1];exact hst.le.up id hu,fun id hu=>by rw [(k hu).2.2.2.1];exact hst.le.ty id hu,hst.le.grow,hst.le.keep⟩
 ·by_cases h1:id=i
  ·subst h1;exact .inr hi
  ·by_cases h2:id=j
   ·subst h2;exact .inr hj
   ·have:e.U (sw i j id):=A7
    rw [A3r h1 h2] at this
    exact hst.U id this
 ·show B3 T _ (D5 (swS i j σ.sl) t) _
  rw [B7j]
  exact (hst.sl t).sw
 ·have:=hst.def_
  show A3g (e.sw i j) c.rd (match σ.mks with | some l=>some (l.map (sw i j)) | none=>none) a.defers
  cases hm:σ.mks with
  | none=>rw [hm] at this;exact this
  | some l=>rw [hm] at this;exact ⟨this.1,B4X this.2⟩
def St.permL (n0:Nat):List Nat→Nat→(Nat→Nat)→St→St
 | [],_,_,σ=>σ
 | id::r,k,f,σ=>bif D2 n0 σ.nx (f id)&&D2 n0 σ.nx k then St.permL n0 r (k+1) (fun n=>sw (f id) k (f n)) (σ.swap (f id) k) else σ
theorem St.permL_rd {n0:Nat}:∀ (l:List Nat) (k:Nat) (f:Nat→Nat) (σ:St),(St.permL n0 l k f σ).rd=σ.rd∧(St.permL n0 l k f σ).nx=σ.nx:=by
 intro l
 induction l with
 | nil=>intro k f σ;exact ⟨rfl,rfl⟩
 | cons id r ih =>
  intro k f σ
  unfold St.permL
  cases D2 n0 σ.nx (f id)&&D2 n0 σ.nx k
  ·exact ⟨rfl,rfl⟩
  ·exact ih (k+1) _ (σ.swap (f id) k)
theorem Sim.permL {n0 nt:Nat} {a:Act} {w:World} (hb:A6E T eb of'):∀ (l:List Nat) (k:Nat) (f:Nat→Nat) (σ:St),Sim T c eb of' n0 nt σ a w→(∀ id,n0≤id→id < σ.nx→¬ eb.U id)→Sim T c eb of' n0 nt (St.permL n0 l k f σ) a w:=by
 have isn:∀ {nx id:Nat},D2 n0 nx id=true→n0≤id∧id < nx:=fun {nx id} hq=>by
  simp only [D2,C3o] at hq
  exact ⟨C3t hq.1,by simpa [Nat.blt_eq] using hq.2⟩
 intro l
 induction l with
 | nil=>intro k f σ h _;exact h
 | cons id r ih =>
  intro k f σ h hn
  unfold St.permL
  cases hc:D2 n0 σ.nx (f id)&&D2 n0 σ.nx k with
  | false=>exact h
  | true =>
   simp only [C3o] at hc
   have h1:=isn hc.1
   have h2:=isn hc.2
   exact ih (k+1) _ (σ.swap (f id) k) (h.swap hb h1 h2 (hn _ h1.1 h1.2) (hn _ h2.1 h2.2)) hn
def St.met (σ:St) (n0:Nat) (ks:List Nat):List Nat :=
 (A23 σ.ob n0 σ.nx 1000 (A1L (A4J σ.ob n0 σ.nx (A0j σ.sl ks))++(mkL σ.mks++A4K σ.ob n0 σ.nx (σ.ob.toL fun j=>j))) []).reverse
def St.norm (σ:St) (n0:Nat) (ks:List Nat):Option St :=
 match ks with
 | k::r=>bif Nat.beq k 999999 then (St.permL n0 (σ.met n0 r) n0 (fun n=>n) σ).norm0 n0 r else σ.norm0 n0 (k::r)
 | []=>σ.norm0 n0 []
theorem Sim.norm {n0 nt:Nat} {σ σn:St} {a:Act} {w:World} {ks:List Nat} (h:Sim T c eb of' n0 nt σ a w) (hb:A6E T eb of') (hnew:∀ id,n0≤id→id < σ.nx→¬ eb.U id) (hn:σ.norm n0 ks=some σn):Sim T c eb of' n0 nt σn a w∧n0≤σn.nx∧σn.rd=σ.rd:=by
 unfold St.norm at hn
 split at hn
 ·rename_i k r
  cases hk:Nat.beq k 999999 with
  | false=>rw [hk] at hn;exact h.norm0 hb hnew hn
  | true =>
   rw [hk] at hn
   obtain ⟨p1,p2⟩:=St.permL_rd (n0:=n0) (σ.met n0 r) n0 (fun n=>n) σ
   have:=(Sim.permL hb _ n0 (fun n=>n) σ h hnew).norm0 hb (fun id h1 h2=>hnew id h1 (by rw [p2] at h2;exact h2)) hn
   exact ⟨this.1,this.2.1,this.2.2.trans p1⟩
 ·exact h.norm0 hb hnew hn
theorem B43 {α:Type} {q:Bool} {a b:α} (h:(bif q then some a else none)=some b):q=true∧a=b:=by
 cases q with
 | false=>cases h
 | true=>exact ⟨rfl,by simpa using h⟩
theorem B0N {σ σn:St} {n0:Nat} {ks:List Nat} (h:σ.norm n0 ks=some σn):σn.rd=σ.rd:=by
 have z:∀ {σ σn:St} {ks:List Nat},σ.norm0 n0 ks=some σn→σn.rd=σ.rd:=fun {σ σn ks} h=>by
  unfold St.norm0 at h
  simp only at h
  rw [← (B43 h).2]
 unfold St.norm at h
 split at h
 ·rename_i k r
  cases hk:Nat.beq k 999999 with
  | false=>rw [hk] at h;exact z h
  | true=>rw [hk] at h;exact (z h).trans (St.permL_rd (n0:=n0) (σ.met n0 r) n0 (fun n=>n) σ).1
 ·exact z h
def R0 (n0:Nat) (ks:List Nat) (F3:Nat) (f:St→Option (Exit×St)):Nat→St→Option (Exit×St)
 | 0,_=>none
 | n+1,σ=>bif Nat.ble σ.nx F3 then (match σ.norm n0 ks with
  | some σn=>match f σn with
   | some (ex,σ1)=>match ex with
    | .normal=>R0 n0 ks F3 f n σ1
    | ex=>bif Nat.ble σ1.nx F3 then (match σ1.norm n0 ks with
     | some σ2=>bif Nat.ble σ2.nx F3 then some (ex,{ σ2 with nx:=F3 }) else none
     | none=>none) else none
   | none=>none
  | none=>none) else none
theorem Sim.up {n0 nt m:Nat} {σ:St} {a:Act} {w:World} (h:Sim T c eb of n0 nt σ a w) (hm:σ.nx≤m):Sim T c eb of n0 nt { σ with nx:=m } a w:=by
 obtain ⟨e,rfl,hst⟩:=h
 exact ⟨e,rfl,hst.os,hst.le,fun id A7=>(hst.U id A7).imp (fun q=>q) (fun q=>⟨q.1,Nat.lt_of_lt_of_le q.2 hm⟩),hst.sl,hst.def_,hst.nt⟩
theorem A9U {nt n0 F3:Nat} {ks:List Nat} {body:Code} {f:St→Option (Exit×St)} (hf:∀ σ ex σ',f σ=some (ex,σ')→A2n P T nt n0 of body σ ex σ'):∀ (n:Nat) (σ:St) (ex:Exit) (σ':St),R0 n0 ks F3 f n σ=some (ex,σ') →
  σ.le σ'∧σ'.nx=F3∧∀ (m:Nat) (of':Nat→Option Ob) (c:F1) (eb:A8) (a:Act) (w:World),A1J of of' eb n0 σ'→A6E T eb of'→Sim T c eb of' n0 nt σ a w→Code.roundsIn (WF c.rd) m P body (fun e a' w'=>e=ex∧Sim T c eb of' n0 nt σ' a' w') n a w:=by
 intro n
 induction n with
 | zero=>intro σ ex σ' h;cases h
 | succ n ih =>
  intro σ ex σ' h
  simp only [R0] at h
  cases hle:Nat.ble σ.nx F3 with
  | false=>rw [hle] at h;cases h
  | true =>
  rw [hle] at h
  simp only [cond_true] at h
  have hle:=C3t hle
  split at h<;>try (cases h;done)
  rename_i σn hn
  split at h<;>try (cases h;done)
  rename_i ex1 σ1 hx
  obtain ⟨l1,k1⟩:=hf _ _ _ hx
  have hrd:σn.rd=σ.rd:=B0N hn
  have rdle:∀ id∈σ.rd,id∈σ1.rd:=fun id A7=>l1.1 id (by rw [hrd];exact A7)
  have round:∀ (m:Nat) (of':Nat→Option Ob) (c:F1) (eb:A8) (a:Act) (w:World),(∀ id∈σ1.rd,of' id=of id)→(∀ id,n0≤id→id < F3→¬ eb.U id)→σ1.nx≤F3→A6E T eb of'→Sim T c eb of' n0 nt σ a w→body.wpIn (WF c.rd) m P (fun e a' w'=>e=ex1∧Sim T c eb of' n0 nt σ1 a' w') a w:=fun m of' c eb a w h1 h2 h3 hbs hs=>by
   obtain ⟨s1,s2,s3⟩:=hs.norm hbs (fun id q1 q2=>h2 id q1 (Nat.lt_of_lt_of_le q2 hle)) hn
   exact k1 m of' c eb a w s2 ⟨h1,fun id q1 q2=>h2 id q1 (Nat.lt_of_lt_of_le q2 h3)⟩ hbs s1
  cases ex1 with
  | normal =>
   obtain ⟨l2,b2,k2⟩:=ih _ _ _ h
   have h3:σ1.nx≤F3:=by rw [← b2];exact l2.2
   refine ⟨⟨fun id A7=>l2.1 id (rdle id A7),by rw [b2];exact hle⟩,b2,fun m of' c eb a w hfit hbs hs=>?_⟩
   refine Q2 ?_ (round m of' c eb a w (fun id A7=>hfit.rd id (l2.1 id A7)) (fun id q1 q2=>hfit.fr id q1 (by rw [b2];exact q2)) h3 hbs hs)
   rintro e' a' w' ⟨rfl,hs'⟩
   exact k2 m of' c eb a' w' hfit hbs hs'
  | _ =>
   simp only at h
   cases hb1:Nat.ble σ1.nx F3 with
   | false=>rw [hb1] at h;cases h
   | true =>
    rw [hb1] at h
    simp only [cond_true] at h
    have h3:=C3t hb1
    split at h<;>try (cases h;done)
    rename_i σ2 hn2
    cases hb2:Nat.ble σ2.nx F3 with
    | false=>rw [hb2] at h;cases h
    | true =>
    rw [hb2] at h
    simp only [cond_true,C3q,Prod.mk.injEq] at h
    obtain ⟨rfl,rfl⟩:=h
    have h4:=C3t hb2
    have hrd2:σ2.rd=σ1.rd:=B0N hn2
    refine ⟨⟨fun id A7=>by show id∈σ2.rd;rw [hrd2];exact rdle id A7,hle⟩,rfl,fun m of' c eb a w hfit hbs hs=>?_⟩
    refine Q2 ?_ (round m of' c eb a w (fun id A7=>hfit.rd id (by show id∈σ2.rd;rw [hrd2];exact A7)) hfit.fr h3 hbs hs)
    rintro e' a' w' ⟨rfl,hs'⟩
    exact ⟨rfl,(hs'.norm hbs (fun id q1 q2=>hfit.fr id q1 (Nat.lt_of_lt_of_le q2 h3)) hn2).1.up h4⟩
theorem A5e {nt n0 F3 fu:Nat} {ks:List Nat} {body:Code} {f:St→Option (Exit×St)} (hf:∀ σ ex σ',f σ=some (ex,σ')→A2n P T nt n0 of body σ ex σ') {σ σ':St} {ex:Exit} (h:R0 n0 ks F3 f fu σ=some (ex,σ')):A2n P T nt n0 of (.loop body) σ ex σ':=by
 obtain ⟨l1,_,k1⟩:=A9U hf fu σ ex σ' h
 exact ⟨l1,fun m of' c eb a w hn hfit hbs hs=>wpIn_loop_rounds fu (k1 m of' c eb a w hfit hbs hs)⟩
end Go.Vm
end