/- What the operations of a program do, shown once for all programs; and numbers. -/
import Derived.Test.YtadjkmffodhmbaaGreatVm6
set_option linter.constructorNameAsVariable false
set_option linter.unusedVariables false
set_option linter.unusedSimpArgs false
noncomputable section
namespace Go.Vm
open Go.RowKit
variable {P : Program} {T : TT} {c : Q0} {e eb : B4} {of of' : Nat → Option Ob}
theorem RV.change {e e' : B4} (hf : ∀ a ds, Fz e a ds → Fz e' a ds) {ts : List Nat} {xs : List V} {cs : List Value} (h : RV T e ts xs cs) : RV T e' ts xs cs := by
 induction h with
 | nil => exact .nil
 | int h1 h2 hr _ ih => exact .int h1 h2 hr ih
 | bool h1 h2 _ ih => exact .bool h1 h2 ih
 | str h1 h2 _ ih => exact .str h1 h2 ih
 | ptr h1 h2 _ ih => exact .ptr h1 h2 ih
 | nils h1 h2 _ ih => exact .nils h1 h2 ih
 | map h1 h2 _ ih => exact .map h1 h2 ih
 | func h1 h2 _ ih => exact .func h1 h2 ih
 | fn h1 h2 _ ih => exact .fn h1 h2 ih
 | slice h1 h2 h3 h4 h5 _ _ ih1 ih => exact .slice h1 h2 h3 h4 (hf _ _ h5) ih1 ih
 | arr h1 h2 _ _ ih1 ih => exact .arr h1 h2 ih1 ih
 | struct h1 h2 _ _ ih1 ih => exact .struct h1 h2 ih1 ih
theorem SR.move {e e' : B4} (hf : ∀ a ds, Fz e a ds → Fz e' a ds) (hw : e'.w = e.w) (hS : ∀ b i, e'.S b i → e.S b i) {a kt st el : Nat} (hG : ∀ b, e.G a b → e'.G a b) {ho : Option V} {es : List (V × V × Bool)} {ms : List MapEntry} {bs : List Nat} (h : SR T e a kt st el ho es ms bs) : SR T e' a kt st el ho es ms bs := by
 induction h with
 | nil => exact .nil
 | cons h0 hd _ ih =>
  refine .cons ?_ hd ih
  cases h0 with
  | lent h1 h2 h3 => exact .lent ⟨h1.1.change hf, h1.2⟩ h2 h3
  | data h1 h2 => exact .data ⟨h1.1.change hf, h1.2⟩ (h2.change hf)
  | own h1 h2 h0 h3 h5 h6 h7 h8 h9 h10 h11 h12 => exact .own ⟨h1.1.change hf, h1.2⟩ h2 h0 (hG _ h3) (by rw [hw]; exact h5) (by rw [hw]; exact h6) h7 h8 (h9.change hf) h10 h11 (fun i hi hs => h12 i hi (hS _ _ hs))
theorem SR.change {e e' : B4} (hf : ∀ a ds, Fz e a ds → Fz e' a ds) (hw : e'.w = e.w) (hS : ∀ b i, e'.S b i → e.S b i) (hG : ∀ a b, e.G a b → e'.G a b) {a kt st el : Nat} {ho : Option V} {es : List (V × V × Bool)} {ms : List MapEntry} {bs : List Nat} (h : SR T e a kt st el ho es ms bs) : SR T e' a kt st el ho es ms bs := h.move hf hw hS (hG a)
mutual
def E3 : A → List Nat
 | .p id _ _ => [id]
 | .e id _ _ _ _ => [id]
 | .o id _ => [id]
 | .w id _ _ _ => [id]
 | .a id _ _ _ _ => [id]
 | .m id => [id]
 | .y id => [id]
 | .f _ l => F2 l
 | .g _ l => F2 l
 | .t l => F2 l
 | _ => []
def F2 : List A → List Nat
 | [] => []
 | a :: r => E3 a ++ F2 r
end
def A2f : List (V × A) → List Nat
 | [] => []
 | p :: r => E3 p.2 ++ A2f r
def A2F : List (Nat × A) → List Nat
 | [] => []
 | p :: r => E3 p.2 ++ A2F r
theorem B8f : ∀ (l : List (Nat × A)) p, p ∈ l → ∀ id ∈ E3 p.2, id ∈ A2F l := by
 intro l
 induction l with
 | nil => intro p hp; cases hp
 | cons q r ih =>
  intro p hp id A2
  simp only [A2F, D1c]
  rcases List.mem_cons.1 hp with rfl | hp
  ·exact .inl A2
  ·exact .inr (ih p hp id A2)
def A1N : Ob → List Nat
 | .box _ a _ => E3 a
 | .row _ _ _ _ _ => []
 | .map _ _ es => A2f es
 | .vm _ _ _ => []
 | .sm _ _ _ _ _ => []
 | .lp (some r) => A2F r.sl
 | .lp none => []
 | .it (some m) => [m]
 | .it none => []
theorem A90 {et : Nat} : ∀ {es : List (V × V)}, ∀ p ∈ vms et es, E3 p.2 = [] := by
 intro es
 induction es with
 | nil => intro p hp; cases hp
 | cons q r ih =>
  intro p hp
  rcases List.mem_cons.1 hp with rfl | hp
  ·rfl
  ·exact ih p hp
theorem R1.use {a : A} {v : Value} (h : R1 T e a v) : ∀ id ∈ E3 a, e.U id := by
 cases a <;> simp only [E3, List.mem_singleton] <;> intro id A2
 case p => subst A2; obtain ⟨b, off, h1, _⟩ := h; exact h1
 case e => subst A2; exact h.2.1
 case o => subst A2; exact h.2.1
 case w => subst A2; exact h.2.1
 case a => subst A2; obtain ⟨b, off, n, el, k, cap, h1, _⟩ := h; exact h1
 case m => subst A2; obtain ⟨b, h1, _⟩ := h; exact h1
 case y => subst A2; obtain ⟨b, h1, _⟩ := h; exact h1
 case f => exact h.elim
 case g => exact h.elim
 case t => exact h.elim
 all_goals cases A2
theorem RA.use {l : List A} {cs : List Value} (h : RA T e l cs) : ∀ id ∈ F2 l, e.U id := by
 induction h with
 | nil => intro id h; cases h
 | f _ _ ih1 ih => intro id h; simp only [F2, E3, D1c] at h; exact h.elim (ih1 id) (ih id)
 | g _ _ _ _ _ ih1 ih => intro id h; simp only [F2, E3, D1c] at h; exact h.elim (ih1 id) (ih id)
 | r h1 _ _ ih => intro id h; simp only [F2, D1c] at h; exact h.elim (h1.use id) (ih id)
 | _ => rename_i ih; intro id h; simp only [F2, E3, List.nil_append] at h; exact ih id h
def G9 (n0 nx id : Nat) : Bool := Nat.ble n0 id && Nat.blt id nx
def A2g (ob : Tr) (n0 nx id : Nat) : Option Nat :=
 bif G9 n0 nx id then (match ob.get id with
  | some (.row _ v _ _ _) => some v
  | _ => none) else none
def A4c (ob : Tr) (n0 nx id ver : Nat) (k : Nat → A) : A :=
 match A2g ob n0 nx id with
 | some v => bif Nat.beq v ver then k 1 else .x
 | none => k ver
mutual
def U8 (ob : Tr) (n0 nx : Nat) : A → A
 | .e id ver i t path => A4c ob n0 nx id ver fun v => .e id v i t path
 | .o id ver => A4c ob n0 nx id ver fun v => .o id v
 | .w id ver off n => A4c ob n0 nx id ver fun v => .w id v off n
 | .f fn l => .f fn (W0 ob n0 nx l)
 | .g t l => .g t (W0 ob n0 nx l)
 | .t l => .t (W0 ob n0 nx l)
 | a => a
def W0 (ob : Tr) (n0 nx : Nat) : List A → List A
 | [] => []
 | a :: r => U8 ob n0 nx a :: W0 ob n0 nx r
end
def A6l (ob : Tr) (n0 nx : Nat) : List (Nat × A) → List (Nat × A)
 | [] => []
 | p :: r => (p.1, U8 ob n0 nx p.2) :: A6l ob n0 nx r
def A3z (ob : Tr) (n0 nx id : Nat) : Ob → Ob
 | .box t a sh => .box t (U8 ob n0 nx a) sh
 | .row el ver xs nl sh => .row el (bif G9 n0 nx id then 1 else ver) xs nl sh
 | .map kt et es => .map kt et es
 | .vm kt et es => .vm kt et es
 | .sm kt st el es ho => .sm kt st el es ho
 | .lp (some r) => .lp (some { r with sl := A6l ob n0 nx r.sl })
 | .lp none => .lp none
 | .it q => .it q
theorem B8g (ob : Tr) (n0 nx : Nat) : ∀ (l : List (Nat × A)), ∀ p ∈ A6l ob n0 nx l, ∃ q ∈ l, p = (q.1, U8 ob n0 nx q.2) := by
 intro l
 induction l with
 | nil => intro p hp; cases hp
 | cons q r ih =>
  intro p hp
  rcases List.mem_cons.1 hp with rfl | hp
  ·exact ⟨q, by simp, rfl⟩
  ·obtain ⟨q', h1, h2⟩ := ih p hp
   exact ⟨q', by simp [h1], h2⟩
def B4.anew (e : B4) (ob : Tr) (n0 nx : Nat) (keep : List Nat) : B4 :=
 {e with U := fun j => e.U j ∧ (G9 n0 nx j = true → j ∈ keep), bn := fun j => match A2g ob n0 nx j with
  | some _ => 1
  | none => e.bn j }
structure A2h (T : TT) (c : Q0) (e eb : B4) (of' : Nat → Option Ob) (ob : Tr) (n0 nx : Nat) : Prop where
 os : A6 T c e (D7 ob of')
 new : ∀ id, G9 n0 nx id = true → ¬ eb.U id
theorem B8h {ob : Tr} {n0 nx id v : Nat} (h : A2g ob n0 nx id = some v) : G9 n0 nx id = true ∧ ∃ el xs nl sh, ob.get id = some (.row el v xs nl sh) := by
 unfold A2g at h
 cases hn : G9 n0 nx id with
 | false => rw [hn] at h; cases h
 | true =>
  rw [hn] at h
  simp only [cond_true] at h
  split at h
  ·rename_i el v' xs nl sh hg
   injection h with h; subst h
   exact ⟨rfl, el, xs, nl, sh, hg⟩
  ·cases h
theorem A2h.ver {ob : Tr} {n0 nx : Nat} (h : A2h T c e eb of' ob n0 nx) {id v : Nat} (hv : A2g ob n0 nx id = some v) : e.bn id = v ∧ 0 < v := by
 obtain ⟨_, el, xs, nl, sh, hg⟩ := B8h hv
 have := h.os.ok id (.row el v xs nl sh) (by unfold D7; rw [hg])
 exact ⟨this.2.2.1, this.2.1⟩
theorem A8E {ob : Tr} {n0 nx : Nat} {keep : List Nat} {a : Addr} {ds : List Value} (h : Fz e a ds) : Fz (e.anew ob n0 nx keep) a ds := h
theorem Q2 {ob : Tr} {n0 nx j : Nat} {keep : List Nat} (h : A2g ob n0 nx j = none) : (e.anew ob n0 nx keep).bn j = e.bn j := by
 show (match A2g ob n0 nx j with | some _ => 1 | none => e.bn j) = e.bn j
 rw [h]
theorem A4V {ob : Tr} {n0 nx j v : Nat} {keep : List Nat} (h : A2g ob n0 nx j = some v) : (e.anew ob n0 nx keep).bn j = 1 := by
 show (match A2g ob n0 nx j with | some _ => 1 | none => e.bn j) = 1
 rw [h]
theorem A2h.box0 {ob : Tr} {n0 nx j : Nat} {keep : List Nat} (h : A2h T c e eb of' ob n0 nx) (h0 : e.bn j = 0) : (e.anew ob n0 nx keep).bn j = 0 := by
 cases hv : A2g ob n0 nx j with
 | none => rw [Q2 hv]; exact h0
 | some v => have := h.ver hv; omega
theorem R1.fix {ob : Tr} {n0 nx : Nat} {keep : List Nat} (hA : A2h T c e eb of' ob n0 nx) {a : A} {v : Value} (h : R1 T e a v) (ho : one v = true) (hk : ∀ id ∈ E3 (U8 ob n0 nx a), G9 n0 nx id = true → id ∈ keep) : R1 T (e.anew ob n0 nx keep) (U8 ob n0 nx a) v := by
 cases a with
 | x => exact h
 | p id t path =>
  obtain ⟨b, off, h1, h2, h3, h4, h5⟩ := h
  exact ⟨b, off, ⟨h1, hk id (by simp [U8, E3])⟩, hA.box0 h2, h3, h4, h5⟩
 | a id t path lo m =>
  obtain ⟨b, off, n, el, k, cap, h1, h2, h3⟩ := h
  exact ⟨b, off, n, el, k, cap, ⟨h1, hk id (by simp [U8, E3])⟩, hA.box0 h2, h3⟩
 | m id =>
  obtain ⟨b, h1, h2, h3⟩ := h
  exact ⟨b, ⟨h1, hk id (by simp [U8, E3])⟩, hA.box0 h2, h3⟩
 | y id =>
  obtain ⟨b, h1, h2, h3⟩ := h
  exact ⟨b, ⟨h1, hk id (by simp [U8, E3])⟩, hA.box0 h2, h3⟩
 | e id ver i t path =>
  obtain ⟨h0, h1, h2, h3, h4⟩ := h
  simp only [U8] at hk ⊢
  unfold A4c at hk ⊢
  cases hv : A2g ob n0 nx id with
  | none =>
   rw [hv] at hk
   exact ⟨h0, ⟨h1, hk id (by simp [E3])⟩, by rw [Q2 hv]; exact h2, h3, fun hb => h4 (by rw [Q2 hv] at hb; exact hb)⟩
  | some v' =>
   rw [hv] at hk
   simp only at hk ⊢
   cases hq : Nat.beq v' ver with
   | false => exact ho
   | true =>
    rw [hq] at hk
    have := D01 hq; subst this
    exact ⟨h0, ⟨h1, hk id (by simp [E3])⟩, by rw [A4V hv]; exact Nat.le_refl _, by omega, fun _ => h4 (hA.ver hv).1⟩
 | o id ver =>
  obtain ⟨h0, h1, h2, h3, h4⟩ := h
  simp only [U8] at hk ⊢
  unfold A4c at hk ⊢
  cases hv : A2g ob n0 nx id with
  | none =>
   rw [hv] at hk
   exact ⟨h0, ⟨h1, hk id (by simp [E3])⟩, by rw [Q2 hv]; exact h2, h3, fun hb => h4 (by rw [Q2 hv] at hb; exact hb)⟩
  | some v' =>
   rw [hv] at hk
   simp only at hk ⊢
   cases hq : Nat.beq v' ver with
   | false => exact ho
   | true =>
    rw [hq] at hk
    have := D01 hq; subst this
    exact ⟨h0, ⟨h1, hk id (by simp [E3])⟩, by rw [A4V hv]; exact Nat.le_refl _, by omega, fun _ => h4 (hA.ver hv).1⟩
 | w id ver off n =>
  obtain ⟨h0, h1, h2, h3, h4⟩ := h
  simp only [U8] at hk ⊢
  unfold A4c at hk ⊢
  cases hv : A2g ob n0 nx id with
  | none =>
   rw [hv] at hk
   exact ⟨h0, ⟨h1, hk id (by simp [E3])⟩, by rw [Q2 hv]; exact h2, h3, fun hb => h4 (by rw [Q2 hv] at hb; exact hb)⟩
  | some v' =>
   rw [hv] at hk
   simp only at hk ⊢
   cases hq : Nat.beq v' ver with
   | false => exact ho
   | true =>
    rw [hq] at hk
    have := D01 hq; subst this
    exact ⟨h0, ⟨h1, hk id (by simp [E3])⟩, by rw [A4V hv]; exact Nat.le_refl _, by omega, fun _ => h4 (hA.ver hv).1⟩
 | _ => exact h.elim
theorem B8i {ob : Tr} {n0 nx t : Nat} : ∀ {a : A}, D5 T t a = true → D5 T t (U8 ob n0 nx a) = true := by
 have r : ∀ {id ver : Nat} {k : Nat → A}, (∀ v, D5 T t (k v) = V5 T t) → D5 T t (k ver) = true → D5 T t (A4c ob n0 nx id ver k) = true := by
  intro id ver k hk h
  rw [hk] at h
  unfold A4c
  split
  ·rename_i v _; cases Nat.beq v ver
   ·exact h
   ·exact (hk _).trans h
  ·exact (hk _).trans h
 intro a h
 cases a with
 | e id ver i t path => exact r (k := fun v => .e id v i t path) (fun _ => rfl) h
 | o id ver => exact r (k := fun v => .o id v) (fun _ => rfl) h
 | w id ver off n => exact r (k := fun v => .w id v off n) (fun _ => rfl) h
 | f fn l => exact h
 | g t' l => exact h
 | t l => cases h
 | _ => exact h
theorem C62 {ob : Tr} {n0 nx : Nat} : ∀ {ts : List Nat} {l : List A}, Y9 T ts l = true → Y9 T ts (W0 ob n0 nx l) = true := by
 intro ts
 induction ts with
 | nil => intro l h; cases l with
  | nil => rfl
  | cons a l => cases h
 | cons t ts ih => intro l h; cases l with
  | nil => cases h
  | cons a l =>
   simp only [Y9, D02] at h
   simp only [W0, Y9, D02]
   exact ⟨B8i h.1, ih h.2⟩
theorem RV.anew {ob : Tr} {n0 nx : Nat} {keep : List Nat} {ts : List Nat} {xs : List V} {cs : List Value} (h : RV T e ts xs cs) : RV T (e.anew ob n0 nx keep) ts xs cs := RV.change (e := e) (e' := e.anew ob n0 nx keep) (fun a ds q => A8E q) h
theorem RA.fix {ob : Tr} {n0 nx : Nat} {keep : List Nat} (hA : A2h T c e eb of' ob n0 nx) {l : List A} {cs : List Value} (h : RA T e l cs) : (∀ id ∈ F2 (W0 ob n0 nx l), G9 n0 nx id = true → id ∈ keep) → RA T (e.anew ob n0 nx keep) (W0 ob n0 nx l) cs := by
 induction h with
 | nil => intro _; exact .nil
 | i hr _ ih => intro hk; exact .i hr (ih (fun id A2 => hk id (by simp only [W0, F2, D1c]; exact .inr A2)))
 | b _ ih => intro hk; exact .b (ih (fun id A2 => hk id (by simp only [W0, F2, D1c]; exact .inr A2)))
 | s _ ih => intro hk; exact .s (ih (fun id A2 => hk id (by simp only [W0, F2, D1c]; exact .inr A2)))
 | z h1 _ ih => intro hk; exact .z h1 (ih (fun id A2 => hk id (by simp only [W0, F2, D1c]; exact .inr A2)))
 | v h1 _ ih => intro hk; exact .v h1.anew (ih (fun id A2 => hk id (by simp only [W0, F2, D1c]; exact .inr A2)))
 | c h1 h2 _ ih => intro hk; exact .c h1.anew h2 (ih (fun id A2 => hk id (by simp only [W0, F2, D1c]; exact .inr A2)))
 | q h1 _ ih => intro hk; exact .q h1.anew (ih (fun id A2 => hk id (by simp only [W0, F2, D1c]; exact .inr A2)))
 | f _ _ ih1 ih =>
  intro hk
  exact .f (ih1 (fun id A2 => hk id (by simp only [W0, U8, F2, E3, D1c]; exact .inl A2))) (ih (fun id A2 => hk id (by simp only [W0, F2, D1c]; exact .inr A2)))
 | g h1 h2 h3 _ _ ih1 ih =>
  intro hk
  exact .g h1 (C62 h2) h3 (ih1 (fun id A2 => hk id (by simp only [W0, U8, F2, E3, D1c]; exact .inl A2))) (ih (fun id A2 => hk id (by simp only [W0, F2, D1c]; exact .inr A2)))
 | r h1 h2 _ ih =>
  intro hk
  exact .r (h1.fix hA h2 (fun id A2 => hk id (by simp only [W0, F2, D1c]; exact .inl A2))) h2 (ih (fun id A2 => hk id (by simp only [W0, F2, D1c]; exact .inr A2)))
theorem A1t {ob : Tr} {n0 nx id : Nat} (h : G9 n0 nx id = false) : A2g ob n0 nx id = none := by unfold A2g; rw [h]; rfl
theorem R1.old {ob : Tr} {n0 nx : Nat} {keep : List Nat} (hA : A2h T c e eb of' ob n0 nx) {a : A} {v : Value} (h : R1 T e a v) (hn : ∀ id ∈ E3 a, G9 n0 nx id = false) : R1 T (e.anew ob n0 nx keep) a v := by
 have nk : ∀ {id : Nat}, G9 n0 nx id = false → (G9 n0 nx id = true → id ∈ keep) := fun hf ht => by rw [hf] at ht; cases ht
 cases a with
 | x => exact h
 | p id t path =>
  obtain ⟨b, off, h1, h2, h3, h4, h5⟩ := h
  exact ⟨b, off, ⟨h1, nk (hn id (by simp [E3]))⟩, hA.box0 h2, h3, h4, h5⟩
 | a id t path lo m =>
  obtain ⟨b, off, n, el, k, cap, h1, h2, h3⟩ := h
  exact ⟨b, off, n, el, k, cap, ⟨h1, nk (hn id (by simp [E3]))⟩, hA.box0 h2, h3⟩
 | m id =>
  obtain ⟨b, h1, h2, h3⟩ := h
  exact ⟨b, ⟨h1, nk (hn id (by simp [E3]))⟩, hA.box0 h2, h3⟩
 | y id =>
  obtain ⟨b, h1, h2, h3⟩ := h
  exact ⟨b, ⟨h1, nk (hn id (by simp [E3]))⟩, hA.box0 h2, h3⟩
 | e id ver i t path =>
  obtain ⟨h0, h1, h2, h3, h4⟩ := h
  have hv := A1t (ob := ob) (hn id (by simp [E3]))
  exact ⟨h0, ⟨h1, nk (hn id (by simp [E3]))⟩, by rw [Q2 hv]; exact h2, h3, fun hb => h4 (by rw [Q2 hv] at hb; exact hb)⟩
 | o id ver =>
  obtain ⟨h0, h1, h2, h3, h4⟩ := h
  have hv := A1t (ob := ob) (hn id (by simp [E3]))
  exact ⟨h0, ⟨h1, nk (hn id (by simp [E3]))⟩, by rw [Q2 hv]; exact h2, h3, fun hb => h4 (by rw [Q2 hv] at hb; exact hb)⟩
 | w id ver off n =>
  obtain ⟨h0, h1, h2, h3, h4⟩ := h
  have hv := A1t (ob := ob) (hn id (by simp [E3]))
  exact ⟨h0, ⟨h1, nk (hn id (by simp [E3]))⟩, by rw [Q2 hv]; exact h2, h3, fun hb => h4 (by rw [Q2 hv] at hb; exact hb)⟩
 | _ => exact h.elim
theorem RA.old {ob : Tr} {n0 nx : Nat} {keep : List Nat} (hA : A2h T c e eb of' ob n0 nx) {l : List A} {cs : List Value} (h : RA T e l cs) : (∀ id ∈ F2 l, G9 n0 nx id = false) → RA T (e.anew ob n0 nx keep) l cs := by
 induction h with
 | nil => intro _; exact .nil
 | i hr _ ih => intro hk; exact .i hr (ih (fun id A2 => hk id (by simp only [F2, D1c]; exact .inr A2)))
 | b _ ih => intro hk; exact .b (ih (fun id A2 => hk id (by simp only [F2, D1c]; exact .inr A2)))
 | s _ ih => intro hk; exact .s (ih (fun id A2 => hk id (by simp only [F2, D1c]; exact .inr A2)))
 | z h1 _ ih => intro hk; exact .z h1 (ih (fun id A2 => hk id (by simp only [F2, D1c]; exact .inr A2)))
 | v h1 _ ih => intro hk; exact .v h1.anew (ih (fun id A2 => hk id (by simp only [F2, D1c]; exact .inr A2)))
 | c h1 h2 _ ih => intro hk; exact .c h1.anew h2 (ih (fun id A2 => hk id (by simp only [F2, D1c]; exact .inr A2)))
 | q h1 _ ih => intro hk; exact .q h1.anew (ih (fun id A2 => hk id (by simp only [F2, D1c]; exact .inr A2)))
 | f _ _ ih1 ih =>
  intro hk
  exact .f (ih1 (fun id A2 => hk id (by simp only [F2, E3, D1c]; exact .inl A2))) (ih (fun id A2 => hk id (by simp only [F2, D1c]; exact .inr A2)))
 | g h1 h2 h3 _ _ ih1 ih =>
  intro hk
  exact .g h1 h2 h3 (ih1 (fun id A2 => hk id (by simp only [F2, E3, D1c]; exact .inl A2))) (ih (fun id A2 => hk id (by simp only [F2, D1c]; exact .inr A2)))
 | r h1 h2 _ ih =>
  intro hk
  exact .r (h1.old hA (fun id A2 => hk id (by simp only [F2, D1c]; exact .inl A2))) h2 (ih (fun id A2 => hk id (by simp only [F2, D1c]; exact .inr A2)))
theorem H6.use {a : A} {v : Value} (h : H6 T e a v) : ∀ id ∈ E3 a, e.U id := by
 have one : ∀ {a : A} {cs : List Value}, RA T e [a] cs → ∀ id ∈ E3 a, e.U id := fun g id A2 => g.use id (by simp only [F2, List.append_nil]; exact A2)
 cases a with
 | x => intro id h; cases h
 | t l => exact h.elim
 | v t y => intro id h; cases h
 | g t l => exact one h.1
 | _ => exact one h
theorem H6.old {ob : Tr} {n0 nx : Nat} {keep : List Nat} (hA : A2h T c e eb of' ob n0 nx) {a : A} {v : Value} (h : H6 T e a v) (hn : ∀ id ∈ E3 a, G9 n0 nx id = false) : H6 T (e.anew ob n0 nx keep) a v := by
 have one : ∀ {a : A} {cs : List Value}, RA T e [a] cs → (∀ id ∈ E3 a, G9 n0 nx id = false) → RA T (e.anew ob n0 nx keep) [a] cs := fun g hk => g.old hA (fun id A2 => hk id (by simpa [F2] using A2))
 cases a with
 | x => trivial
 | t l => exact h.elim
 | v t y => exact ⟨h.1.anew, h.2⟩
 | g t l => exact ⟨one h.1 hn, h.2⟩
 | _ => exact one h hn
theorem MR.use {kt et : Nat} {es : List (V × A)} {ms : List MapEntry} (h : MR T e kt et es ms) : ∀ p ∈ es, ∀ id ∈ E3 p.2, e.U id := by
 induction h with
 | nil => intro p hp; cases hp
 | cons _ h2 _ _ ih =>
  intro p hp
  rcases List.mem_cons.1 hp with rfl | hp
  ·exact h2.use
  ·exact ih p hp
theorem MR.old {ob : Tr} {n0 nx : Nat} {keep : List Nat} (hA : A2h T c e eb of' ob n0 nx) {kt et : Nat} {es : List (V × A)} {ms : List MapEntry} (h : MR T e kt et es ms) : (∀ p ∈ es, ∀ id ∈ E3 p.2, G9 n0 nx id = false) → MR T (e.anew ob n0 nx keep) kt et es ms := by
 induction h with
 | nil => intro _; exact .nil
 | cons h1 h2 h3 _ ih => intro hk; exact .cons (h1.old hA (fun id A2 => by cases A2)) (h2.old hA (hk _ (List.mem_cons_self ..))) h3 (ih (fun p hp => hk p (List.mem_cons_of_mem _ hp)))
theorem OK.old {ob : Tr} {n0 nx id : Nat} {keep : List Nat} {o : Ob} (hA : A2h T c e eb of' ob n0 nx) (h : OK T e id o) (hb : OK T eb id o) : OK T (e.anew ob n0 nx keep) id o := by
 have nn : ∀ {j : Nat}, eb.U j → G9 n0 nx j = false := fun {j} hj => by
  cases hq : G9 n0 nx j with
  | false => rfl
  | true => exact absurd hj (hA.new j hq)
 have A2 := nn hb.use
 have hU : (e.anew ob n0 nx keep).U id := ⟨h.use, fun ht => by rw [A2] at ht; cases ht⟩
 cases o with
 | box t a sh =>
  obtain ⟨h1, h2, h2', h2'', b, cs, ty, fz, h3, h4, h5, h5', h6, h7⟩ := h
  obtain ⟨_, _, _, _, _, cs0, _, _, _, _, _, _, g6, _⟩ := hb
  exact ⟨hU, hA.box0 h2, h2', h2'', b, cs, ty, fz, h3, h4, h5, h5', h6.old hA (fun j hj => nn (g6.use j hj)), h7⟩
 | row el ver xs nl sh =>
  obtain ⟨h1, h2, h3, h4, h4', h5, h6⟩ := h
  refine ⟨hU, h2, by rw [Q2 (A1t A2)]; exact h3, h4, h4', h5, ?_⟩
  rcases h6 with h6 | ⟨nn', b, o, cs, t, fz, pre, ys, post, g1, g2, g3, g4, g5, g6, g7, g8⟩
  ·exact .inl h6
  ·exact .inr ⟨nn', b, o, cs, t, fz, pre, ys, post, g1, g2, g3, g4, g5, g6.anew, g7, g8⟩
 | map kt et es =>
  obtain ⟨h1, h2, b, ms, clock, h3, h4, h5, es', h6, h7⟩ := h
  obtain ⟨_, _, _, ms0, _, _, _, _, es0, k6, k7⟩ := hb
  have hes : ∀ p ∈ es, ∀ j ∈ E3 p.2, G9 n0 nx j = false := fun p hp j hj => nn (k7.use p (k6.mem_iff.2 hp) j hj)
  exact ⟨hU, hA.box0 h2, b, ms, clock, h3, h4, h5, es', h6, h7.old hA (fun p hp => hes p (h6.mem_iff.1 hp))⟩
 | vm kt et es =>
  obtain ⟨h1, h2, b, ms, clock, h3, h4, h5, es', h6, h7⟩ := h
  exact ⟨hU, hA.box0 h2, b, ms, clock, h3, h4, h5, es', h6, h7.old hA (fun p hp j hj => by rw [A90 p (h6.mem_iff.1 hp)] at hj; cases hj)⟩
 | sm kt st el es ho =>
  obtain ⟨h1, h2, ha, hb', hc, b, ms, clock, h3, h4, h5, es', bs, h6, h7⟩ := h
  exact ⟨hU, hA.box0 h2, ha, hb', hc, b, ms, clock, h3, h4, h5, es', bs, h6, h7.change (e' := e.anew ob n0 nx keep) (fun a ds q => A8E q) rfl (fun _ _ q => q) (fun _ _ q => q)⟩
 | lp q =>
  cases q with
  | none =>
   obtain ⟨h1, h2, b, h3, h4⟩ := h
   exact ⟨hU, hA.box0 h2, b, h3, h4⟩
  | some r =>
   obtain ⟨h1, h2, b, tm, df, fn, h3, h4, h5, h6⟩ := h
   obtain ⟨_, _, _, tm0, _, _, _, _, _, k6⟩ := hb
   exact ⟨hU, hA.box0 h2, b, tm, df, fn, h3, h4, h5, fun p hp => (h6 p hp).old hA (fun j hj => nn ((k6 p hp).use j hj))⟩
 | it q =>
  cases q with
  | none =>
   obtain ⟨h1, h2, b, x, y, z, h3, h4⟩ := h
   exact ⟨hU, hA.box0 h2, b, x, y, z, h3, h4⟩
  | some m =>
   obtain ⟨h1, h2, b, bm, x, z, h3, h4, h5, h6, h7⟩ := h
   obtain ⟨_, _, _, _, _, _, _, _, k5, _⟩ := hb
   have hm := nn k5
   exact ⟨hU, hA.box0 h2, b, bm, x, z, h3, h4, ⟨h5, fun ht => by rw [hm] at ht; cases ht⟩, hA.box0 h6, h7⟩
theorem H6.fix {ob : Tr} {n0 nx : Nat} {keep : List Nat} (hA : A2h T c e eb of' ob n0 nx) {a : A} {v : Value} (h : H6 T e a v) (hk : ∀ id ∈ E3 (U8 ob n0 nx a), G9 n0 nx id = true → id ∈ keep) : H6 T (e.anew ob n0 nx keep) (U8 ob n0 nx a) v := by
 have one : ∀ {a : A} {cs : List Value}, RA T e [a] cs → (∀ id ∈ E3 (U8 ob n0 nx a), G9 n0 nx id = true → id ∈ keep) → RA T (e.anew ob n0 nx keep) [U8 ob n0 nx a] cs := fun {a cs} g hk => by
  have := g.fix (keep := keep) hA (fun id A2 => hk id (by simpa [W0, F2] using A2))
  simpa [W0] using this
 have sc : ∀ {a : A}, RA T e [a] [v] → (∀ id ∈ E3 (U8 ob n0 nx a), G9 n0 nx id = true → id ∈ keep) → (U8 ob n0 nx a = .x ∨ ((∀ t y, U8 ob n0 nx a ≠ .v t y) ∧ (∀ t l, U8 ob n0 nx a ≠ .g t l) ∧ (∀ l, U8 ob n0 nx a ≠ .t l))) → H6 T (e.anew ob n0 nx keep) (U8 ob n0 nx a) v := fun {a} g hk hs => by
  have r := one g hk
  rcases hs with hs | ⟨s1, s2, s3⟩
  ·rw [hs]; trivial
  ·cases hf : U8 ob n0 nx a with
   | v t y => exact absurd hf (s1 _ _)
   | g t l => exact absurd hf (s2 _ _)
   | t l => exact absurd hf (s3 _)
   | x => trivial
   | _ => rw [hf] at r; exact r
 have fr : ∀ {id ver : Nat} {k : Nat → A}, (∀ v, (∀ t y, k v ≠ .v t y) ∧ (∀ t l, k v ≠ .g t l) ∧ (∀ l, k v ≠ .t l)) → (A4c ob n0 nx id ver k = .x ∨ ((∀ t y, A4c ob n0 nx id ver k ≠ .v t y) ∧ (∀ t l, A4c ob n0 nx id ver k ≠ .g t l) ∧ (∀ l, A4c ob n0 nx id ver k ≠ .t l))) := by
  intro id ver k hk
  unfold A4c
  split
  ·rename_i v _; cases Nat.beq v ver
   ·exact .inl rfl
   ·exact .inr (hk _)
  ·exact .inr (hk _)
 cases a with
 | x => trivial
 | t l => exact h.elim
 | v t y => exact ⟨h.1.anew, h.2⟩
 | g t l => exact ⟨one h.1 hk, h.2⟩
 | e id ver i t path => exact sc h hk (fr (k := fun v => .e id v i t path) (fun v => ⟨by simp, by simp, by simp⟩))
 | o id ver => exact sc h hk (fr (k := fun v => .o id v) (fun v => ⟨by simp, by simp, by simp⟩))
 | w id ver off n => exact sc h hk (fr (k := fun v => .w id v off n) (fun v => ⟨by simp, by simp, by simp⟩))
 | _ => exact one h hk
theorem OK.fix {ob : Tr} {n0 nx id : Nat} {keep : List Nat} {o : Ob} (hA : A2h T c e eb of' ob n0 nx) (hg : ob.get id = some o) (h : OK T e id o) (hkeep : G9 n0 nx id = true → id ∈ keep) (hk : ∀ j ∈ A1N (A3z ob n0 nx id o), G9 n0 nx j = true → j ∈ keep) (hmap : ∀ kt et es, o = .map kt et es → ∀ p ∈ es, E3 p.2 = []) : OK T (e.anew ob n0 nx keep) id (A3z ob n0 nx id o) := by
 have hU : (e.anew ob n0 nx keep).U id := ⟨h.use, hkeep⟩
 cases o with
 | box t a sh =>
  obtain ⟨h1, h2, h2', h2'', b, cs, ty, fz, h3, h4, h5, h5', h6, h7⟩ := h
  refine ⟨hU, hA.box0 h2, h2', B8i h2'', b, cs, ty, fz, h3, h4, h5, h5', ?_, h7⟩
  have := h6.fix (keep := keep) hA (fun j hj => hk j (by simpa [W0, F2, A3z, A1N] using hj))
  simpa [W0] using this
 | row el ver xs nl sh =>
  obtain ⟨h1, h2, h3, h4, h4', h5, h6⟩ := h
  have rest : 0 < B8 T el ∧ ((nl = true ∧ (e.anew ob n0 nx keep).ι id = none ∧ xs = []) ∨ (nl = false ∧ ∃ b o cs t fz pre ys post, (e.anew ob n0 nx keep).ι id = some (b, o) ∧ (e.anew ob n0 nx keep).w.heap[b]? = some (.cells cs t fz) ∧ A05 (e.anew ob n0 nx keep).w b cs ∧ cs.toList = pre ++ ys ++ post ∧ pre.length = o ∧ RV T (e.anew ob n0 nx keep) (List.replicate xs.length el) xs ys ∧
     (∀ i, o + ys.length ≤ i → ¬ (e.anew ob n0 nx keep).S b i) ∧ (sh = false → ∀ i, o ≤ i → ¬ (e.anew ob n0 nx keep).S b i))) := by
   refine ⟨h5, ?_⟩
   rcases h6 with h6 | ⟨nn', b, o, cs, t, fz, pre, ys, post, g1, g2, g3, g4, g5, g6, g7, g8⟩
   ·exact .inl h6
   ·exact .inr ⟨nn', b, o, cs, t, fz, pre, ys, post, g1, g2, g3, g4, g5, g6.anew, g7, g8⟩
  cases hn : G9 n0 nx id with
  | false =>
   have hf : A3z ob n0 nx id (.row el ver xs nl sh) = .row el ver xs nl sh := by simp [A3z, hn]
   rw [hf]
   exact ⟨hU, h2, by rw [Q2 (A1t hn)]; exact h3, h4, h4', rest⟩
  | true =>
   have hf : A3z ob n0 nx id (.row el ver xs nl sh) = .row el 1 xs nl sh := by simp [A3z, hn]
   rw [hf]
   have hv : A2g ob n0 nx id = some ver := by unfold A2g; rw [hn, hg]; rfl
   exact ⟨hU, by omega, A4V hv, h4, h4', rest⟩
 | map kt et es =>
  obtain ⟨h1, h2, b, ms, clock, h3, h4, h5, es', h6, h7⟩ := h
  exact ⟨hU, hA.box0 h2, b, ms, clock, h3, h4, h5, es', h6, h7.old hA (fun p hp j hj => by rw [hmap kt et es rfl p (h6.mem_iff.1 hp)] at hj; cases hj)⟩
 | vm kt et es =>
  obtain ⟨h1, h2, b, ms, clock, h3, h4, h5, es', h6, h7⟩ := h
  exact ⟨hU, hA.box0 h2, b, ms, clock, h3, h4, h5, es', h6, h7.old hA (fun p hp j hj => by rw [A90 p (h6.mem_iff.1 hp)] at hj; cases hj)⟩
 | sm kt st el es ho =>
  obtain ⟨h1, h2, ha, hb', hc, b, ms, clock, h3, h4, h5, es', bs, h6, h7⟩ := h
  exact ⟨hU, hA.box0 h2, ha, hb', hc, b, ms, clock, h3, h4, h5, es', bs, h6, h7.change (e' := e.anew ob n0 nx keep) (fun a ds q => A8E q) rfl (fun _ _ q => q) (fun _ _ q => q)⟩
 | lp q =>
  cases q with
  | none =>
   obtain ⟨h1, h2, b, h3, h4⟩ := h
   exact ⟨hU, hA.box0 h2, b, h3, h4⟩
  | some r =>
   obtain ⟨h1, h2, b, tm, df, fn, h3, h4, h5, h6⟩ := h
   refine ⟨hU, hA.box0 h2, b, tm, df, fn, h3, h4, h5, fun p hp => ?_⟩
   obtain ⟨q, hq, rfl⟩ := B8g _ _ _ _ p hp
   exact (h6 q hq).fix hA (fun j hj => hk j (B8f _ _ hp j hj))
 | it q =>
  cases q with
  | none =>
   obtain ⟨h1, h2, b, x, y, z, h3, h4⟩ := h
   exact ⟨hU, hA.box0 h2, b, x, y, z, h3, h4⟩
  | some m =>
   obtain ⟨h1, h2, b, bm, x, z, h3, h4, h5, h6, h7⟩ := h
   exact ⟨hU, hA.box0 h2, b, bm, x, z, h3, h4, ⟨h5, hk m (by simp [A3z, A1N])⟩, hA.box0 h6, h7⟩
theorem B8j {ob : Tr} {n0 nx : Nat} : ∀ {l : List A} {i : Nat} {v : A}, (W0 ob n0 nx l)[i]? = some v → ∃ a, l[i]? = some a ∧ v = U8 ob n0 nx a := by
 intro l
 induction l with
 | nil => intro i v h; simp [W0] at h
 | cons a l ih =>
  intro i v h
  cases i with
  | zero => simp [W0] at h; exact ⟨a, rfl, h.symm⟩
  | succ i => exact ih (by simpa [W0] using h)
theorem B8k {ob : Tr} {n0 nx : Nat} : ∀ {l : List A}, (W0 ob n0 nx l).length = l.length := by
 intro l
 induction l with
 | nil => rfl
 | cons a l ih => simp [W0, ih]
theorem B8l : ∀ {l : List A} {i : Nat} {a : A}, l[i]? = some a → ∀ id ∈ E3 a, id ∈ F2 l := by
 intro l
 induction l with
 | nil => intro i a h; simp at h
 | cons b l ih =>
  intro i a h id A2
  simp only [F2, D1c]
  cases i with
  | zero => simp at h; subst h; exact .inl A2
  | succ i => exact .inr (ih (by simpa using h) id A2)
theorem C7.fix {ob : Tr} {n0 nx : Nat} {keep : List Nat} (hA : A2h T c e eb of' ob n0 nx) {a : A} {v : Value} (h : C7 T e a v) (hk : ∀ id ∈ E3 (U8 ob n0 nx a), G9 n0 nx id = true → id ∈ keep) : C7 T (e.anew ob n0 nx keep) (U8 ob n0 nx a) v := by
 have A3V : ∀ {a : A}, (∀ l, a ≠ .t l) → H6 T e a v → (∀ id ∈ E3 (U8 ob n0 nx a), G9 n0 nx id = true → id ∈ keep) → C7 T (e.anew ob n0 nx keep) (U8 ob n0 nx a) v := fun {a} ht g hk => by
  have r := g.fix (keep := keep) hA hk
  cases hf : U8 ob n0 nx a with
  | t l =>
   rw [hf] at r; exact r.elim
  | _ => rw [hf] at r; exact r
 cases a with
 | t l =>
  obtain ⟨xs, rfl, h2, h3⟩ := h
  refine ⟨xs, rfl, by rw [B8k]; exact h2, fun i v x hv hx => ?_⟩
  obtain ⟨a, ha, rfl⟩ := B8j hv
  exact (h3 i a x ha hx).fix hA (fun id A2 => hk id (B8l hv id A2))
 | _ => exact A3V (by intro l hl; cases hl) h hk
variable {P : Program} {T : TT} {c : Q0} {e eb : B4} {of of' : Nat → Option Ob}
def sw (i j n : Nat) : Nat := bif Nat.beq n i then j else bif Nat.beq n j then i else n
theorem A6m {a b : Nat} (h : a ≠ b) : Nat.beq a b = false := by
 cases hq : Nat.beq a b with
 | false => rfl
 | true => exact absurd (D01 hq) h
theorem C9p (i j : Nat) : sw i j i = j := by unfold sw; rw [Nat.beq_refl]; rfl
theorem C9q (i j : Nat) : sw i j j = i := by
 unfold sw
 by_cases h : j = i
 ·subst h; rw [Nat.beq_refl]; rfl
 ·rw [A6m h, Nat.beq_refl]; rfl
theorem A4E {i j n : Nat} (h1 : n ≠ i) (h2 : n ≠ j) : sw i j n = n := by unfold sw; rw [A6m h1, A6m h2]; rfl
@[simp] theorem sw_sw (i j n : Nat) : sw i j (sw i j n) = n := by
 by_cases h1 : n = i
 ·subst h1; rw [C9p, C9q]
 ·by_cases h2 : n = j
  ·subst h2; rw [C9q, C9p]
  ·rw [A4E h1 h2, A4E h1 h2]
theorem C63 {i j a b : Nat} (h : sw i j a = sw i j b) : a = b := by rw [← sw_sw i j a, h, sw_sw]
mutual
def swA (i j : Nat) : A → A
 | .p id t path => .p (sw i j id) t path
 | .e id ver k t path => .e (sw i j id) ver k t path
 | .o id ver => .o (sw i j id) ver
 | .w id ver off n => .w (sw i j id) ver off n
 | .a id t path lo m => .a (sw i j id) t path lo m
 | .m id => .m (sw i j id)
 | .y id => .y (sw i j id)
 | .f fn l => .f fn (swL i j l)
 | .g t l => .g t (swL i j l)
 | .t l => .t (swL i j l)
 | a => a
def swL (i j : Nat) : List A → List A
 | [] => []
 | a :: r => swA i j a :: swL i j r
end
def swE (i j : Nat) : List (V × A) → List (V × A)
 | [] => []
 | p :: r => (p.1, swA i j p.2) :: swE i j r
def swS (i j : Nat) : List (Nat × A) → List (Nat × A)
 | [] => []
 | p :: r => (p.1, swA i j p.2) :: swS i j r
def swO (i j : Nat) : Ob → Ob
 | .box t a sh => .box t (swA i j a) sh
 | .row el ver xs nl sh => .row el ver xs nl sh
 | .map kt et es => .map kt et (swE i j es)
 | .vm kt et es => .vm kt et es
 | .sm kt st el es ho => .sm kt st el es ho
 | .lp (some r) => .lp (some { r with sl := swS i j r.sl })
 | .lp none => .lp none
 | .it (some m) => .it (some (sw i j m))
 | .it none => .it none
def B4.sw (e : B4) (i j : Nat) : B4 := { e with ι := fun n => e.ι (Vm.sw i j n), bn := fun n => e.bn (Vm.sw i j n), U := fun n => e.U (Vm.sw i j n), ty := fun n => e.ty (Vm.sw i j n), ln := fun n => e.ln (Vm.sw i j n) }
variable {i j : Nat}
theorem R1.sw {a : A} {v : Value} (h : R1 T e a v) : R1 T (e.sw i j) (swA i j a) v := by
 cases a <;> simp only [R1, swA, B4.sw, sw_sw] at h ⊢ <;> exact h
theorem A8F {t : Nat} {a : A} : D5 T t (swA i j a) = D5 T t a := by cases a <;> rfl
theorem C2D : ∀ {ts : List Nat} {l : List A}, Y9 T ts (swL i j l) = Y9 T ts l := by
 intro ts
 induction ts with
 | nil => intro l; cases l <;> rfl
 | cons t ts ih => intro l; cases l with
  | nil => rfl
  | cons a l => simp only [swL, Y9, A8F, ih]
theorem RV.sw {ts : List Nat} {xs : List V} {cs : List Value} (h : RV T e ts xs cs) : RV T (e.sw i j) ts xs cs := RV.change (e := e) (e' := e.sw i j) (fun a ds q => q) h
theorem RA.sw {l : List A} {cs : List Value} (h : RA T e l cs) : RA T (e.sw i j) (swL i j l) cs := by
 induction h with
 | nil => exact .nil
 | i hr _ ih => exact .i hr ih
 | b _ ih => exact .b ih
 | s _ ih => exact .s ih
 | z h1 _ ih => exact .z h1 ih
 | v h1 _ ih => exact .v h1.sw ih
 | c h1 h2 _ ih => exact .c h1.sw h2 ih
 | q h1 _ ih => exact .q h1.sw ih
 | f _ _ ih1 ih => exact .f ih1 ih
 | g h1 h2 h3 _ _ ih1 ih => exact .g h1 (by rw [C2D]; exact h2) h3 ih1 ih
 | r h1 h2 _ ih => exact .r h1.sw h2 ih
theorem H6.sw {a : A} {v : Value} (h : H6 T e a v) : H6 T (e.sw i j) (swA i j a) v := by
 cases a <;> simp only [H6] at h <;> first | trivial | exact h.elim | exact ⟨h.1.sw, h.2⟩ | exact RA.sw h
theorem C2E : ∀ {l : List A} {k : Nat} {v : A}, (swL i j l)[k]? = some v → ∃ a, l[k]? = some a ∧ v = swA i j a := by
 intro l
 induction l with
 | nil => intro k v h; simp [swL] at h
 | cons a l ih =>
  intro k v h
  cases k with
  | zero => simp [swL] at h; exact ⟨a, rfl, h.symm⟩
  | succ k => exact ih (by simpa [swL] using h)
theorem C2F : ∀ {l : List A}, (swL i j l).length = l.length := by
 intro l
 induction l with
 | nil => rfl
 | cons a l ih => simp [swL, ih]
theorem C7.sw {a : A} {v : Value} (h : C7 T e a v) : C7 T (e.sw i j) (swA i j a) v := by
 cases a with
 | t l =>
  obtain ⟨xs, rfl, h2, h3⟩ := h
  refine ⟨xs, rfl, by rw [C2F]; exact h2, fun k v x hv hx => ?_⟩
  obtain ⟨a, ha, rfl⟩ := C2E hv
  exact (h3 k a x ha hx).sw
 | _ => exact (by first | exact H6.sw (a := .i _ _) h | exact H6.sw (a := .b _) h | exact H6.sw (a := .s _) h | exact H6.sw (a := .z _) h | exact H6.sw (a := .v _ _) h | exact H6.sw (a := .p _ _ _) h | exact H6.sw (a := .e _ _ _ _ _) h | exact H6.sw (a := .c _ _) h | exact H6.sw (a := .q _ _) h | exact H6.sw (a := .o _ _) h | exact H6.sw (a := .w _ _ _ _) h | exact H6.sw (a := .a _ _ _ _ _) h | exact H6.sw (a := .m _) h | exact H6.sw (a := .y _) h | exact H6.sw (a := .f _ _) h | exact H6.sw (a := .g _ _) h | trivial)
theorem MR.sw {kt et : Nat} {es : List (V × A)} {ms : List MapEntry} (h : MR T e kt et es ms) : MR T (e.sw i j) kt et (swE i j es) ms := by
 induction h with
 | nil => exact .nil
 | cons h1 h2 h3 _ ih => exact .cons h1.sw h2.sw (by rw [A8F]; exact h3) ih
theorem A3A : ∀ l : List (V × A), swE i j l = l.map fun p => (p.1, swA i j p.2) := by
 intro l
 induction l with
 | nil => rfl
 | cons p r ih => simp [swE, ih]
theorem C2G {et : Nat} : ∀ es : List (V × V), swE i j (vms et es) = vms et es := by
 intro es
 induction es with
 | nil => rfl
 | cons p r ih => simp only [vms, swE, ih]; rfl
theorem C2H : ∀ {l : List (Nat × A)} {p : Nat × A}, p ∈ swS i j l → ∃ q ∈ l, p = (q.1, swA i j q.2) := by
 intro l
 induction l with
 | nil => intro p hp; cases hp
 | cons q r ih =>
  intro p hp
  rcases List.mem_cons.1 hp with rfl | hp
  ·exact ⟨q, by simp, rfl⟩
  ·obtain ⟨q', h1, h2⟩ := ih hp
   exact ⟨q', by simp [h1], h2⟩
theorem OK.sw {id : Nat} {o : Ob} (h : OK T e id o) : OK T (e.sw i j) (Vm.sw i j id) (swO i j o) := by
 cases o with
 | box t a sh =>
  obtain ⟨h1, h2, h2', h2'', b, cs, ty, fz, h3, h4, h5, h5', h6, h7⟩ := h
  simp only [OK, swO, B4.sw, sw_sw, A8F]
  exact ⟨h1, h2, h2', h2'', b, cs, ty, fz, h3, h4, h5, h5', RA.sw h6, h7⟩
 | row el ver xs nl sh =>
  obtain ⟨h1, h2, h3, h4, h4', h5, h6⟩ := h
  simp only [OK, swO, B4.sw, sw_sw]
  refine ⟨h1, h2, h3, h4, h4', h5, ?_⟩
  rcases h6 with h6 | ⟨nn', b, o, cs, t, fz, pre, ys, post, g1, g2, g3, g4, g5, g6, g7, g8⟩
  ·exact .inl h6
  ·exact .inr ⟨nn', b, o, cs, t, fz, pre, ys, post, g1, g2, g3, g4, g5, g6.sw, g7, g8⟩
 | map kt et es =>
  obtain ⟨h1, h2, b, ms, clock, h3, h4, ⟨h5, h5'⟩, es', h6, h7⟩ := h
  simp only [OK, swO, B4.sw, sw_sw]
  refine ⟨h1, h2, b, ms, clock, h3, h4, ⟨by rw [A3A, List.map_map]; exact h5, h5'⟩, swE i j es', by rw [A3A, A3A]; exact h6.map _, h7.sw⟩
 | vm kt et es =>
  obtain ⟨h1, h2, b, ms, clock, h3, h4, ⟨h5, h5'⟩, es', h6, h7⟩ := h
  simp only [OK, swO, B4.sw, sw_sw]
  refine ⟨h1, h2, b, ms, clock, h3, h4, ⟨h5, h5'⟩, swE i j es', by rw [← C2G (i := i) (j := j) es, A3A, A3A]; exact h6.map _, h7.sw⟩
 | sm kt st el es ho =>
  obtain ⟨h1, h2, ha, hb', hc, b, ms, clock, h3, h4, h5, es', bs, h6, h7⟩ := h
  simp only [OK, swO, B4.sw, sw_sw]
  exact ⟨h1, h2, ha, hb', hc, b, ms, clock, h3, h4, h5, es', bs, h6, SR.change (e := e) (e' := e.sw i j) (fun a ds q => q) rfl (fun _ _ q => q) (fun _ _ q => q) h7⟩
 | lp q =>
  cases q with
  | none =>
   obtain ⟨h1, h2, b, h3, h4⟩ := h
   simp only [OK, swO, B4.sw, sw_sw]
   exact ⟨h1, h2, b, h3, h4⟩
  | some r =>
   obtain ⟨h1, h2, b, tm, df, fn, h3, h4, h5, h6⟩ := h
   simp only [OK, swO, B4.sw, sw_sw]
   refine ⟨h1, h2, b, tm, df, fn, h3, h4, h5, fun p hp => ?_⟩
   obtain ⟨q, hq, rfl⟩ := C2H hp
   exact (h6 q hq).sw
 | it q =>
  cases q with
  | none =>
   obtain ⟨h1, h2, b, x, y, z, h3, h4⟩ := h
   simp only [OK, swO, B4.sw, sw_sw]
   exact ⟨h1, h2, b, x, y, z, h3, h4⟩
  | some m =>
   obtain ⟨h1, h2, b, bm, x, z, h3, h4, h5, h6, h7⟩ := h
   simp only [OK, swO, B4.sw, sw_sw]
   exact ⟨h1, h2, b, bm, x, z, h3, h4, h5, h6, h7⟩
mutual
theorem A8G : ∀ (a : A), (∀ k ∈ E3 a, k ≠ i ∧ k ≠ j) → swA i j a = a := by
 intro a h
 cases a with
 | p id t path => have := h id (by simp [E3]); simp only [swA, A4E this.1 this.2]
 | e id ver k t path => have := h id (by simp [E3]); simp only [swA, A4E this.1 this.2]
 | o id ver => have := h id (by simp [E3]); simp only [swA, A4E this.1 this.2]
 | w id ver off n => have := h id (by simp [E3]); simp only [swA, A4E this.1 this.2]
 | a id t path lo m => have := h id (by simp [E3]); simp only [swA, A4E this.1 this.2]
 | m id => have := h id (by simp [E3]); simp only [swA, A4E this.1 this.2]
 | y id => have := h id (by simp [E3]); simp only [swA, A4E this.1 this.2]
 | f fn l => simp only [swA, A8H l (fun k hk => h k (by simpa [E3] using hk))]
 | g t l => simp only [swA, A8H l (fun k hk => h k (by simpa [E3] using hk))]
 | t l => simp only [swA, A8H l (fun k hk => h k (by simpa [E3] using hk))]
 | _ => rfl
theorem A8H : ∀ (l : List A), (∀ k ∈ F2 l, k ≠ i ∧ k ≠ j) → swL i j l = l := by
 intro l h
 cases l with
 | nil => rfl
 | cons a r => simp only [swL, A8G a (fun k hk => h k (by simp [F2, hk])), A8H r (fun k hk => h k (by simp [F2, hk]))]
end
theorem C64 : ∀ (l : List (V × A)), (∀ k ∈ A2f l, k ≠ i ∧ k ≠ j) → swE i j l = l := by
 intro l
 induction l with
 | nil => intro _; rfl
 | cons p r ih => intro h; simp only [swE, A8G p.2 (fun k hk => h k (by simp [A2f, hk])), ih (fun k hk => h k (by simp [A2f, hk]))]
theorem C65 : ∀ (l : List (Nat × A)), (∀ k ∈ A2F l, k ≠ i ∧ k ≠ j) → swS i j l = l := by
 intro l
 induction l with
 | nil => intro _; rfl
 | cons p r ih => intro h; simp only [swS, A8G p.2 (fun k hk => h k (by simp [A2F, hk])), ih (fun k hk => h k (by simp [A2F, hk]))]
theorem C66 : ∀ (o : Ob), (∀ k ∈ A1N o, k ≠ i ∧ k ≠ j) → swO i j o = o := by
 intro o h
 cases o with
 | box t a sh => simp only [swO, A8G a h]
 | row el ver xs nl sh => rfl
 | map kt et es => simp only [swO, C64 es h]
 | vm kt et es => rfl
 | sm _ _ _ _ _ => rfl
 | lp q => cases q with
  | none => rfl
  | some r => simp only [swO, C65 r.sl h]
 | it q => cases q with
  | none => rfl
  | some m => have := h m (by simp [A1N]); simp only [swO, A4E this.1 this.2]
theorem H6.used {a : A} {v : Value} (h : H6 T e a v) : ∀ id ∈ E3 a, e.U id := by
 have one : ∀ {a : A} {cs : List Value}, RA T e [a] cs → ∀ id ∈ E3 a, e.U id := fun g id A2 => g.use id (by simp [F2, A2])
 cases a <;> simp only [H6] at h
 case x => intro id A2; cases A2
 case v => intro id A2; cases A2
 case g => exact one h.1
 all_goals exact one h
theorem MR.used {kt et : Nat} {es : List (V × A)} {ms : List MapEntry} (h : MR T e kt et es ms) : ∀ id ∈ A2f es, e.U id := by
 induction h with
 | nil => intro id A2; cases A2
 | cons h1 h2 _ _ ih =>
  intro id A2
  simp only [A2f, D1c] at A2
  exact A2.elim (h2.used id) (ih id)
theorem A4d {a b : List (V × A)} (h : a.Perm b) : ∀ id, id ∈ A2f b → id ∈ A2f a := by
 have mem : ∀ (l : List (V × A)) id, id ∈ A2f l ↔ ∃ p ∈ l, id ∈ E3 p.2 := by
  intro l id
  induction l with
  | nil => simp [A2f]
  | cons p r ih => simp [A2f, ih]
 intro id A2
 rw [mem] at A2 ⊢
 obtain ⟨p, hp, hq⟩ := A2
 exact ⟨p, h.mem_iff.2 hp, hq⟩
theorem OK.used {id : Nat} {o : Ob} (h : OK T e id o) : ∀ k ∈ A1N o, e.U k := by
 cases o with
 | box t a sh =>
  obtain ⟨h1, h2, h2', h2'', b, cs, ty, fz, h3, h4, h5, h5', h6, h7⟩ := h
  exact fun k hk => h6.use k (by simpa [F2, A1N] using hk)
 | row el ver xs nl sh => intro k hk; cases hk
 | map kt et es =>
  obtain ⟨h1, h2, b, ms, clock, h3, h4, h5, es', h6, h7⟩ := h
  exact fun k hk => h7.used k (A4d h6 k hk)
 | vm kt et es => intro k hk; cases hk
 | sm _ _ _ _ _ => intro k hk; cases hk
 | lp q =>
  cases q with
  | none => intro k hk; cases hk
  | some r =>
   obtain ⟨h1, h2, b, tm, df, fn, h3, h4, h5, h6⟩ := h
   have mem : ∀ (l : List (Nat × A)) id, id ∈ A2F l → ∃ p ∈ l, id ∈ E3 p.2 := by
    intro l id
    induction l with
    | nil => intro h; cases h
    | cons p r ih =>
     intro h
     simp only [A2F, D1c] at h
     rcases h with h | h
     ·exact ⟨p, by simp, h⟩
     ·obtain ⟨q, q1, q2⟩ := ih h; exact ⟨q, by simp [q1], q2⟩
   intro k hk
   obtain ⟨p, hp, hq⟩ := mem _ _ hk
   exact (h6 p hp).used k hq
 | it q =>
  cases q with
  | none => intro k hk; cases hk
  | some m =>
   obtain ⟨h1, h2, b, bm, x, z, h3, h4, h5, h6, h7⟩ := h
   intro k hk
   have : k = m := by simpa [A1N] using hk
   subst this; exact h5
def swP (i j : Nat) (p : Nat × Ob) : Nat × Ob := (sw i j p.1, swO i j p.2)
def swM (i j : Nat) : List (Nat × Ob) → List (Nat × Ob)
 | [] => []
 | p :: r => swP i j p :: swM i j r
theorem C2I : ∀ (l : List (Nat × Ob)) (f g : Nat → Option Ob), (∀ n, g n = (f (sw i j n)).map (swO i j)) → ∀ n, put g (swM i j l) n = (put f l (sw i j n)).map (swO i j) := by
 intro l
 induction l with
 | nil => intro f g h n; exact h n
 | cons p r ih =>
  intro f g h n
  obtain ⟨k, o⟩ := p
  simp only [swM, swP, put]
  refine ih _ _ (fun n => ?_) n
  by_cases hn : n = sw i j k
  ·subst hn; rw [upd_same, sw_sw, upd_same]; rfl
  ·rw [A3 _ _ hn, A3 _ _ (fun q => hn (by rw [← q, sw_sw])), h]
theorem B8m {l : List Nat} {ds : List Deferred} (h : Y3 e l ds) : Y3 (e.sw i j) (l.map (sw i j)) ds := by
 induction h with
 | nil => exact .nil
 | cons h1 h2 h3 _ ih => exact .cons (by simp only [B4.sw, sw_sw]; exact h1) (by simp only [B4.sw, sw_sw]; exact h2) (by simp only [B4.sw, sw_sw]; exact h3) ih
variable {P : Program} {T : TT} {c : Q0} {e eb : B4} {of of' : Nat → Option Ob}
def A4e (ob : Tr) (n0 nx : Nat) : Nat → List Nat → List Nat → List Nat
 | 0, _, seen => seen
 | _ + 1, [], seen => seen
 | f + 1, id :: r, seen => bif mem id seen || !(G9 n0 nx id) then A4e ob n0 nx f r seen else
  match ob.get id with
  | some o => A4e ob n0 nx f (A1N (A3z ob n0 nx id o) ++ r) (id :: seen)
  | none => A4e ob n0 nx f r (id :: seen)
def okR (n0 nx : Nat) (keep : List Nat) (id : Nat) : Bool := !(G9 n0 nx id) || mem id keep
def A8I (n0 nx : Nat) (keep : List Nat) : List Nat → Bool
 | [] => true
 | id :: r => okR n0 nx keep id && A8I n0 nx keep r
def A8J : List (V × A) → Bool
 | [] => true
 | p :: r => (match E3 p.2 with | [] => true | _ => false) && A8J r
def C4R : Ob → Bool
 | .map _ _ es => A8J es
 | _ => true
def A2I (ob : Tr) (n0 nx : Nat) (keep : List Nat) : List (Nat × Ob) → List (Nat × Ob)
 | [] => []
 | p :: r => bif okR n0 nx keep p.1 then (p.1, A3z ob n0 nx p.1 p.2) :: A2I ob n0 nx keep r else A2I ob n0 nx keep r
def B8n (n0 nx : Nat) (keep : List Nat) : List (Nat × Ob) → Bool
 | [] => true
 | p :: r => A8I n0 nx keep (A1N p.2) && (C4R p.2 && B8n n0 nx keep r)
def B8o : List Nat → Nat → Nat
 | [], m => m
 | id :: r, m => B8o r (bif Nat.blt m (id + 1) then id + 1 else m)
def A6n (ob : Tr) (n0 nx : Nat) : List (Nat × Ob) → List Nat
 | [] => []
 | p :: r => bif G9 n0 nx p.1 then A6n ob n0 nx r else A1N (A3z ob n0 nx p.1 p.2) ++ A6n ob n0 nx r
def mkL : Option (List Nat) → List Nat
 | some l => l
 | none => []
theorem Y3.anew {ob : Tr} {n0 nx : Nat} {keep : List Nat} (hA : A2h T c e eb of' ob n0 nx) {l : List Nat} {ds : List Deferred} (h : Y3 e l ds) : (∀ id ∈ l, G9 n0 nx id = true → id ∈ keep) → Y3 (e.anew ob n0 nx keep) l ds := by
 induction h with
 | nil => intro _; exact .nil
 | cons h1 h2 h3 _ ih => intro hk; exact .cons ⟨h1, hk _ (by simp)⟩ (hA.box0 h2) h3 (ih fun id A2 => hk id (by simp [A2]))
theorem A4s.anew {ob : Tr} {n0 nx : Nat} {keep : List Nat} (hA : A2h T c e eb of' ob n0 nx) {rd : Option Nat} {l : Option (List Nat)} {ds : List Deferred} (h : A4s e rd l ds) (hk : ∀ id ∈ mkL l, G9 n0 nx id = true → id ∈ keep) : A4s (e.anew ob n0 nx keep) rd l ds := by
 cases l with
 | none => exact h
 | some l => exact ⟨h.1, h.2.anew hA hk⟩
def St.norm0 (σ : St) (n0 : Nat) (ks : List Nat) : Option St :=
 let sl := A6l σ.ob n0 σ.nx (A0U σ.sl ks)
 let L := σ.ob.toL fun j => j
 let keep := A4e σ.ob n0 σ.nx 1000 (A2F sl ++ (mkL σ.mks ++ A6n σ.ob n0 σ.nx L)) []
 let L2 := A2I σ.ob n0 σ.nx keep L
 bif (A8I n0 σ.nx keep (A2F sl) && A8I n0 σ.nx keep (mkL σ.mks)) && B8n n0 σ.nx keep L2 then some ⟨sl, A0N .e L2, σ.rd, B8o keep n0, σ.mks⟩ else none
theorem A91 {n0 nx id : Nat} {keep : List Nat} (h : okR n0 nx keep id = true) : G9 n0 nx id = true → id ∈ keep := by
 intro hn
 unfold okR at h
 rw [hn] at h
 exact mem_iff.1 (by simpa using h)
theorem A4f {n0 nx : Nat} {keep : List Nat} : ∀ {l : List Nat}, A8I n0 nx keep l = true → ∀ id ∈ l, G9 n0 nx id = true → id ∈ keep := by
 intro l
 induction l with
 | nil => intro _ id h; cases h
 | cons k r ih =>
  intro h id A2
  simp only [A8I, D02] at h
  rcases List.mem_cons.1 A2 with rfl | A2
  ·exact A91 h.1
  ·exact ih h.2 id A2
theorem A92 : ∀ {es : List (V × A)}, A8J es = true → ∀ p ∈ es, E3 p.2 = [] := by
 intro es
 induction es with
 | nil => intro _ p h; cases h
 | cons q r ih =>
  intro h p hp
  simp only [A8J, D02] at h
  rcases List.mem_cons.1 hp with rfl | hp
  ·cases hq : E3 p.2 with
   | nil => rfl
   | cons _ _ => rw [hq] at h; simp at h
  ·exact ih h.2 p hp
theorem C2J : ∀ (l : List Nat) (m : Nat), m ≤ B8o l m ∧ ∀ id ∈ l, id < B8o l m := by
 intro l
 induction l with
 | nil => intro m; exact ⟨Nat.le_refl _, fun id h => by cases h⟩
 | cons k r ih =>
  intro m
  simp only [B8o]
  obtain ⟨p, q⟩ := ih (bif Nat.blt m (k + 1) then k + 1 else m)
  have hm : m ≤ (bif Nat.blt m (k + 1) then k + 1 else m) ∧ k < (bif Nat.blt m (k + 1) then k + 1 else m) := by
   cases hb : Nat.blt m (k + 1) with
   | true => have : m < k + 1 := by simpa [Nat.blt_eq] using hb
             exact ⟨by simp; omega, by simp⟩
   | false =>
    have : ¬ m < k + 1 := by intro hq; rw [show Nat.blt m (k + 1) = true by simpa [Nat.blt_eq] using hq] at hb; cases hb
    exact ⟨by simp, by simp; omega⟩
  refine ⟨Nat.le_trans hm.1 p, fun id A2 => ?_⟩
  rcases List.mem_cons.1 A2 with rfl | A2
  ·exact Nat.lt_of_lt_of_le hm.2 p
  ·exact q id A2
theorem B8p {ob : Tr} {n0 nx : Nat} : ∀ {l : List (Nat × A)} {t : Nat}, H2 (A6l ob n0 nx l) t = U8 ob n0 nx (H2 l t) := by
 intro l
 induction l with
 | nil => intro t; rfl
 | cons p r ih =>
  intro t
  obtain ⟨k, v⟩ := p
  rw [A6l, S7, S7]
  by_cases h : t = k
  ·subst h; rw [upd_same, upd_same]
  ·rw [A3 _ _ h, A3 _ _ h]; exact ih
theorem B8q : ∀ {l : List (Nat × A)} {t : Nat}, ∀ id ∈ E3 (H2 l t), id ∈ A2F l := by
 intro l
 induction l with
 | nil => intro t id h; cases h
 | cons p r ih =>
  intro t id h
  obtain ⟨k, v⟩ := p
  simp only [A2F, D1c]
  rw [S7] at h
  by_cases hk : t = k
  ·subst hk; rw [upd_same] at h; exact .inl h
  ·rw [A3 _ _ hk] at h; exact .inr (ih id h)
theorem A4g : ∀ (l : List (Nat × Ob)) (f : Nat → Option Ob) (id : Nat), put f l id = match put (fun _ => none) l id with
  | some o => some o
  | none => f id := by
 intro l
 induction l with
 | nil => intro f id; rfl
 | cons p r ih =>
  intro f id
  obtain ⟨k, o⟩ := p
  simp only [put]
  rw [ih (G6 f k (some o)), ih (G6 (fun _ => none) k (some o))]
  cases hq : put (fun _ => none) r id with
  | some o' => rfl
  | none =>
   simp only
   by_cases h : id = k
   ·subst h; rw [upd_same, upd_same]
   ·rw [A3 _ _ h, A3 _ _ h]
theorem A93 {ob : Tr} {n0 nx : Nat} {keep : List Nat} : ∀ (l : List (Nat × Ob)) (id : Nat), put (fun _ => none) (A2I ob n0 nx keep l) id = if okR n0 nx keep id = true then (put (fun _ => none) l id).map (A3z ob n0 nx id) else none := by
 intro l
 induction l with
 | nil => intro id; simp [A2I, put]
 | cons p r ih =>
  intro id
  obtain ⟨k, o⟩ := p
  simp only [A2I]
  cases hk : okR n0 nx keep k with
  | false =>
   simp only [cond_false, put]
   rw [ih id, A4g r (G6 (fun _ => none) k (some o))]
   by_cases A2 : okR n0 nx keep id = true
   ·have hne : id ≠ k := fun h => by subst h; rw [hk] at A2; cases A2
    rw [if_pos A2, if_pos A2, A3 _ _ hne]
    cases put (fun _ => none) r id <;> rfl
   ·rw [if_neg A2, if_neg A2]
  | true =>
   simp only [cond_true, put]
   rw [A4g (A2I ob n0 nx keep r) (G6 (fun _ => none) k _), ih id, A4g r (G6 (fun _ => none) k (some o))]
   by_cases A2 : okR n0 nx keep id = true
   ·rw [if_pos A2, if_pos A2]
    cases put (fun _ => none) r id with
    | some o' => rfl
    | none =>
     simp only [Option.map_none]
     by_cases h : id = k
     ·subst h; rw [upd_same, upd_same]; rfl
     ·rw [A3 _ _ h, A3 _ _ h]; rfl
   ·rw [if_neg A2, if_neg A2]
    simp only
    by_cases h : id = k
    ·subst h; exact absurd hk A2
    ·exact A3 _ _ h
theorem B8r {n0 nx : Nat} {keep : List Nat} : ∀ {l : List (Nat × Ob)}, B8n n0 nx keep l = true → ∀ id o, put (fun _ => none) l id = some o → A8I n0 nx keep (A1N o) = true ∧ C4R o = true := by
 intro l
 induction l with
 | nil => intro _ id o h; cases h
 | cons p r ih =>
  intro h id o ho
  obtain ⟨k, o1⟩ := p
  simp only [B8n, D02] at h
  simp only [put] at ho
  rw [A4g] at ho
  split at ho
  ·rename_i o' ho'
   injection ho with ho; subst ho
   exact ih h.2.2 id _ ho'
  ·by_cases hk : id = k
   ·subst hk; rw [upd_same] at ho; injection ho with ho; subst ho; exact ⟨h.1, h.2.1⟩
   ·rw [A3 _ _ hk] at ho; cases ho
theorem Sim.norm0 {n0 nt : Nat} {σ σn : St} {a : Act} {w : World} {ks : List Nat} (h : Sim T c eb of' n0 nt σ a w) (hb : A8u T eb of') (hnew : ∀ id, n0 ≤ id → id < σ.nx → ¬ eb.U id) (hn : σ.norm0 n0 ks = some σn) : Sim T c eb of' n0 nt σn a w ∧ n0 ≤ σn.nx ∧ σn.rd = σ.rd := by
 obtain ⟨e, rfl, hst⟩ := h
 unfold St.norm0 at hn
 simp only at hn
 generalize hkeep : A4e σ.ob n0 σ.nx 1000 (A2F (A6l σ.ob n0 σ.nx (A0U σ.sl ks)) ++ (mkL σ.mks ++ A6n σ.ob n0 σ.nx (σ.ob.toL fun j => j))) [] = keep at hn
 cases hc : ((A8I n0 σ.nx keep (A2F (A6l σ.ob n0 σ.nx (A0U σ.sl ks))) && A8I n0 σ.nx keep (mkL σ.mks)) && B8n n0 σ.nx keep (A2I σ.ob n0 σ.nx keep (σ.ob.toL fun j => j))) with
 | false => rw [hc] at hn; cases hn
 | true =>
 rw [hc] at hn
 simp only [cond_true, D04] at hn
 subst hn
 simp only [D02] at hc
 obtain ⟨hc1, hc2⟩ := hc
 have isn : ∀ {id : Nat}, G9 n0 σ.nx id = true → n0 ≤ id ∧ id < σ.nx := fun {id} hq => by
  simp only [G9, D02] at hq
  exact ⟨D07 hq.1, by simpa [Nat.blt_eq] using hq.2⟩
 have nis : ∀ {id : Nat}, eb.U id → G9 n0 σ.nx id = false := fun {id} hu => by
  cases hq : G9 n0 σ.nx id with
  | false => rfl
  | true => exact absurd hu (hnew id (isn hq).1 (isn hq).2)
 have hA : A2h T c e eb of' σ.ob n0 σ.nx := ⟨hst.os, fun id hq => hnew id (isn hq).1 (isn hq).2⟩
 obtain ⟨hm0, hmk⟩ := C2J keep n0
 have hget : ∀ id, put (fun _ => none) (σ.ob.toL fun j => j) id = σ.ob.get id := fun id => by
  rw [A1D]; unfold D7; cases σ.ob.get id <;> rfl
 have hover : ∀ id, D7 (A0N .e (A2I σ.ob n0 σ.nx keep (σ.ob.toL fun j => j))) of' id = if okR n0 σ.nx keep id = true then (match σ.ob.get id with | some o => some (A3z σ.ob n0 σ.nx id o) | none => of' id) else of' id := by
  intro id
  rw [A0x, show D7 Tr.e of' = of' from funext fun j => by unfold D7; rw [Tr.get_e], A4g, A93, hget]
  by_cases A2 : okR n0 σ.nx keep id = true
  ·rw [if_pos A2, if_pos A2]; cases σ.ob.get id <;> rfl
  ·rw [if_neg A2, if_neg A2]
 have hok : ∀ id o, D7 (A0N .e (A2I σ.ob n0 σ.nx keep (σ.ob.toL fun j => j))) of' id = some o → OK T (e.anew σ.ob n0 σ.nx keep) id o ∧ (D7 σ.ob of' id).isSome ∧ e.U id := by
  intro id o ho
  rw [hover] at ho
  by_cases A2 : okR n0 σ.nx keep id = true
  ·rw [if_pos A2] at ho
   cases hg : σ.ob.get id with
   | some o1 =>
    rw [hg] at ho
    injection ho with ho; subst ho
    have h1 : D7 σ.ob of' id = some o1 := by unfold D7; rw [hg]
    have hch := B8r hc2 id (A3z σ.ob n0 σ.nx id o1) (by rw [A93, if_pos A2, hget, hg]; rfl)
    refine ⟨OK.fix hA hg (hst.os.ok _ _ h1) (A91 A2) (A4f hch.1) (fun kt et es he => ?_), by rw [h1]; rfl, (hst.os.ok _ _ h1).use⟩
    subst he
    exact A92 hch.2
   | none =>
    rw [hg] at ho
    have h1 : D7 σ.ob of' id = some o := by unfold D7; rw [hg]; exact ho
    exact ⟨OK.old hA (hst.os.ok _ _ h1) (hb id o ho), by rw [h1]; rfl, (hst.os.ok _ _ h1).use⟩
  ·rw [if_neg A2] at ho
   have hu := (hb id o ho).use
   have := nis hu
   unfold okR at A2
   rw [this] at A2
   exact absurd rfl A2
 refine ⟨⟨e.anew σ.ob n0 σ.nx keep, rfl, ⟨⟨fun id o ho => (hok id o ho).1, fun i j b o b' o' hi hj => ?_, fun i b o hi => ?_, fun i b o hi => hst.os.lt i b o hi.1, hst.os.slt, hst.os.s0, hst.os.snew, hst.os.os, hst.os.tape, hst.os.output, hst.os.size, hst.os.block, hst.os.g.mono (fun _ _ q => q) rfl (fun _ q => q) (Nat.le_refl _) (fun j b o hj hb => by
  obtain ⟨o1, ho1⟩ := D06.1 hj
  exact .inl ⟨j, o, (hok _ _ ho1).2.1, hb⟩)⟩, ?_, fun id A2 => ?_, fun t => ?_, hst.def_.anew hA (A4f hc1.2), hst.nt⟩⟩, hm0, rfl⟩
 ·obtain ⟨o1, ho1⟩ := D06.1 hi
  obtain ⟨o2, ho2⟩ := D06.1 hj
  exact hst.os.sep i j b o b' o' (hok _ _ ho1).2.1 (hok _ _ ho2).2.1
 ·obtain ⟨o1, ho1⟩ := D06.1 hi
  exact hst.os.own i b o (hok _ _ ho1).2.1
 ·have old : ∀ {id : Nat}, eb.U id → (e.anew σ.ob n0 σ.nx keep).bn id = e.bn id := fun {id} hu => Q2 (A1t (nis hu))
  exact ⟨hst.le.S, fun id hu => ⟨hst.le.use id hu, fun hq => by rw [nis hu] at hq; cases hq⟩, fun id hu hq => hst.le.obj id hu (by rw [← old hu]; exact hq), fun id hu h0 => by rw [old hu]; exact hst.le.box id hu h0, fun id hu => by rw [old hu]; exact hst.le.up id hu, hst.le.ty, hst.le.grow, hst.le.keep⟩
 ·rcases hst.U id A2.1 with h | h
  ·exact .inl h
  ·refine .inr ⟨h.1, hmk id (A2.2 ?_)⟩
   simp only [G9, D02]
   exact ⟨D1b h.1, by simpa [Nat.blt_eq] using h.2⟩
 ·show C7 T _ (H2 (A6l σ.ob n0 σ.nx (A0U σ.sl ks)) t) _
  have hr : C7 T e (H2 (A0U σ.sl ks) t) (a.tmps.getD t undef) := by
   rcases A7D σ.sl ks t with h | h
   ·rw [h]; trivial
   ·rw [h]; exact hst.sl t
  have href : ∀ id ∈ E3 (H2 (A6l σ.ob n0 σ.nx (A0U σ.sl ks)) t), G9 n0 σ.nx id = true → id ∈ keep := fun id A2 => A4f hc1.1 id (B8q id A2)
  rw [B8p] at href ⊢
  exact hr.fix hA href
def St.swap (σ : St) (i j : Nat) : St := { σ with sl := swS i j σ.sl, ob := A0N .e (swM i j (σ.ob.toL fun j => j)), mks := match σ.mks with
 | some l => some (l.map (sw i j))
 | none => none }
theorem C2K {i j : Nat} : ∀ {l : List (Nat × A)} {t : Nat}, H2 (swS i j l) t = swA i j (H2 l t) := by
 intro l
 induction l with
 | nil => intro t; rfl
 | cons p r ih =>
  intro t
  obtain ⟨k, v⟩ := p
  rw [swS, S7, S7]
  by_cases h : t = k
  ·subst h; rw [upd_same, upd_same]
  ·rw [A3 _ _ h, A3 _ _ h]; exact ih
theorem Sim.swap {n0 nt : Nat} {σ : St} {a : Act} {w : World} (h : Sim T c eb of' n0 nt σ a w) (hb : A8u T eb of') {i j : Nat} (hi : n0 ≤ i ∧ i < σ.nx) (hj : n0 ≤ j ∧ j < σ.nx) (hui : ¬ eb.U i) (huj : ¬ eb.U j) : Sim T c eb of' n0 nt (σ.swap i j) a w := by
 obtain ⟨e, rfl, hst⟩ := h
 have old : ∀ {n : Nat}, eb.U n → sw i j n = n := fun {n} hu => A4E (fun q => hui (q ▸ hu)) (fun q => huj (q ▸ hu))
 have hget : ∀ id, put (fun _ => none) (σ.ob.toL fun j => j) id = σ.ob.get id := fun id => by
  rw [A1D]; unfold D7; cases σ.ob.get id <;> rfl
 have hover : ∀ n, D7 (A0N .e (swM i j (σ.ob.toL fun j => j))) of' n = match σ.ob.get (sw i j n) with
   | some o => some (swO i j o)
   | none => of' n := by
  intro n
  rw [A0x, show D7 Tr.e of' = of' from funext fun j => by unfold D7; rw [Tr.get_e], A4g, C2I _ (fun _ => none) (fun _ => none) (fun _ => rfl), hget]
  cases σ.ob.get (sw i j n) <;> rfl
 have hok : ∀ n o, D7 (A0N .e (swM i j (σ.ob.toL fun j => j))) of' n = some o → OK T (e.sw i j) n o ∧ (D7 σ.ob of' (sw i j n)).isSome := by
  intro n o ho
  rw [hover] at ho
  split at ho
  ·rename_i o1 hg
   injection ho with ho; subst ho
   have h1 : D7 σ.ob of' (sw i j n) = some o1 := by unfold D7; rw [hg]
   have := (hst.os.ok _ _ h1).sw (i := i) (j := j)
   rw [sw_sw] at this
   exact ⟨this, by rw [h1]; rfl⟩
  ·rename_i hg
   have hbo := hb n o ho
   have hn := old hbo.use
   rw [hn] at hg ⊢
   have h1 : D7 σ.ob of' n = some o := by unfold D7; rw [hg]; exact ho
   have := (hst.os.ok _ _ h1).sw (i := i) (j := j)
   rw [hn, C66 o (fun k hk => ⟨fun q => hui (by rw [← q]; exact hbo.used k hk), fun q => huj (by rw [← q]; exact hbo.used k hk)⟩)] at this
   exact ⟨this, by rw [h1]; rfl⟩
 refine ⟨e.sw i j, rfl, ⟨fun id o ho => (hok id o ho).1, fun p q b o b' o' hp hq hb1 hb2 hne => ?_, fun p b o hp hb1 => ?_, fun p b o hp hb1 => hst.os.lt _ b o hp hb1, hst.os.slt, hst.os.s0, hst.os.snew, hst.os.os, hst.os.tape, hst.os.output, hst.os.size, hst.os.block, hst.os.g.mono (fun _ _ q => q) rfl (fun _ q => q) (Nat.le_refl _) (fun p b o hp hb => by
  obtain ⟨o1, ho1⟩ := D06.1 hp
  exact .inl ⟨_, o, (hok _ _ ho1).2, hb⟩)⟩, ?_, fun id A2 => ?_, fun t => ?_, ?_, hst.nt⟩
 ·obtain ⟨o1, ho1⟩ := D06.1 hp
  obtain ⟨o2, ho2⟩ := D06.1 hq
  exact hst.os.sep _ _ b o b' o' (hok _ _ ho1).2 (hok _ _ ho2).2 hb1 hb2 (fun k => hne (C63 k))
 ·obtain ⟨o1, ho1⟩ := D06.1 hp
  exact hst.os.own _ b o (hok _ _ ho1).2 hb1
 ·have k : ∀ {n : Nat}, eb.U n → (e.sw i j).ι n = e.ι n ∧ (e.sw i j).bn n = e.bn n ∧ (e.sw i j).ln n = e.ln n ∧ (e.sw i j).ty n = e.ty n ∧ ((e.sw i j).U n ↔ e.U n) := fun {n} hu => by
   have := old hu
   refine ⟨?_, ?_, ?_, ?_, ?_⟩ <;> simp only [B4.sw, this]
  exact ⟨hst.le.S, fun id hu => (k hu).2.2.2.2.2 (hst.le.use id hu), fun id hu hq => by rw [(k hu).1, (k hu).2.2.1]; exact hst.le.obj id hu (by rw [← (k hu).2.1]; exact hq), fun id hu h0 => by rw [(k hu).2.1]; exact hst.le.box id hu h0, fun id hu => by rw [(k hu).2.1]; exact hst.le.up id hu, fun id hu => by rw [(k hu).2.2.2.1]; exact hst.le.ty id hu, hst.le.grow, hst.le.keep⟩
 ·by_cases h1 : id = i
  ·subst h1; exact .inr hi
  ·by_cases h2 : id = j
   ·subst h2; exact .inr hj
   ·have : e.U (sw i j id) := A2
    rw [A4E h1 h2] at this
    exact hst.U id this
 ·show C7 T _ (H2 (swS i j σ.sl) t) _
  rw [C2K]
  exact (hst.sl t).sw
 ·have := hst.def_
  show A4s (e.sw i j) c.rd (match σ.mks with | some l => some (l.map (sw i j)) | none => none) a.defers
  cases hm : σ.mks with
  | none => rw [hm] at this; exact this
  | some l => rw [hm] at this; exact ⟨this.1, B8m this.2⟩
def St.permL (n0 : Nat) : List Nat → Nat → (Nat → Nat) → St → St
 | [], _, _, σ => σ
 | id :: r, k, f, σ => bif G9 n0 σ.nx (f id) && G9 n0 σ.nx k then St.permL n0 r (k + 1) (fun n => sw (f id) k (f n)) (σ.swap (f id) k) else σ
theorem St.permL_rd {n0 : Nat} : ∀ (l : List Nat) (k : Nat) (f : Nat → Nat) (σ : St), (St.permL n0 l k f σ).rd = σ.rd ∧ (St.permL n0 l k f σ).nx = σ.nx := by
 intro l
 induction l with
 | nil => intro k f σ; exact ⟨rfl, rfl⟩
 | cons id r ih =>
  intro k f σ
  unfold St.permL
  cases G9 n0 σ.nx (f id) && G9 n0 σ.nx k
  ·exact ⟨rfl, rfl⟩
  ·exact ih (k + 1) _ (σ.swap (f id) k)
theorem Sim.permL {n0 nt : Nat} {a : Act} {w : World} (hb : A8u T eb of') : ∀ (l : List Nat) (k : Nat) (f : Nat → Nat) (σ : St), Sim T c eb of' n0 nt σ a w → (∀ id, n0 ≤ id → id < σ.nx → ¬ eb.U id) → Sim T c eb of' n0 nt (St.permL n0 l k f σ) a w := by
 have isn : ∀ {nx id : Nat}, G9 n0 nx id = true → n0 ≤ id ∧ id < nx := fun {nx id} hq => by
  simp only [G9, D02] at hq
  exact ⟨D07 hq.1, by simpa [Nat.blt_eq] using hq.2⟩
 intro l
 induction l with
 | nil => intro k f σ h _; exact h
 | cons id r ih =>
  intro k f σ h hn
  unfold St.permL
  cases hc : G9 n0 σ.nx (f id) && G9 n0 σ.nx k with
  | false => exact h
  | true =>
   simp only [D02] at hc
   have h1 := isn hc.1
   have h2 := isn hc.2
   exact ih (k + 1) _ (σ.swap (f id) k) (h.swap hb h1 h2 (hn _ h1.1 h1.2) (hn _ h2.1 h2.2)) hn
def St.met (σ : St) (n0 : Nat) (ks : List Nat) : List Nat :=
 (A4e σ.ob n0 σ.nx 1000 (A2F (A6l σ.ob n0 σ.nx (A0U σ.sl ks)) ++ (mkL σ.mks ++ A6n σ.ob n0 σ.nx (σ.ob.toL fun j => j))) []).reverse
def St.norm (σ : St) (n0 : Nat) (ks : List Nat) : Option St :=
 match ks with
 | k :: r => bif Nat.beq k 999999 then (St.permL n0 (σ.met n0 r) n0 (fun n => n) σ).norm0 n0 r else σ.norm0 n0 (k :: r)
 | [] => σ.norm0 n0 []
theorem Sim.norm {n0 nt : Nat} {σ σn : St} {a : Act} {w : World} {ks : List Nat} (h : Sim T c eb of' n0 nt σ a w) (hb : A8u T eb of') (hnew : ∀ id, n0 ≤ id → id < σ.nx → ¬ eb.U id) (hn : σ.norm n0 ks = some σn) : Sim T c eb of' n0 nt σn a w ∧ n0 ≤ σn.nx ∧ σn.rd = σ.rd := by
 unfold St.norm at hn
 split at hn
 ·rename_i k r
  cases hk : Nat.beq k 999999 with
  | false => rw [hk] at hn; exact h.norm0 hb hnew hn
  | true =>
   rw [hk] at hn
   obtain ⟨p1, p2⟩ := St.permL_rd (n0 := n0) (σ.met n0 r) n0 (fun n => n) σ
   have := (Sim.permL hb _ n0 (fun n => n) σ h hnew).norm0 hb (fun id h1 h2 => hnew id h1 (by rw [p2] at h2; exact h2)) hn
   exact ⟨this.1, this.2.1, this.2.2.trans p1⟩
 ·exact h.norm0 hb hnew hn
theorem B8s {α : Type} {q : Bool} {a b : α} (h : (bif q then some a else none) = some b) : q = true ∧ a = b := by
 cases q with
 | false => cases h
 | true => exact ⟨rfl, by simpa using h⟩
theorem B2Y {σ σn : St} {n0 : Nat} {ks : List Nat} (h : σ.norm n0 ks = some σn) : σn.rd = σ.rd := by
 have z : ∀ {σ σn : St} {ks : List Nat}, σ.norm0 n0 ks = some σn → σn.rd = σ.rd := fun {σ σn ks} h => by
  unfold St.norm0 at h
  simp only at h
  rw [← (B8s h).2]
 unfold St.norm at h
 split at h
 ·rename_i k r
  cases hk : Nat.beq k 999999 with
  | false => rw [hk] at h; exact z h
  | true => rw [hk] at h; exact (z h).trans (St.permL_rd (n0 := n0) (σ.met n0 r) n0 (fun n => n) σ).1
 ·exact z h
def U9 (n0 : Nat) (ks : List Nat) (L6 : Nat) (f : St → Option (Exit × St)) : Nat → St → Option (Exit × St)
 | 0, _ => none
 | n + 1, σ => bif Nat.ble σ.nx L6 then (match σ.norm n0 ks with
  | some σn => match f σn with
   | some (ex, σ1) => match ex with
    | .normal => U9 n0 ks L6 f n σ1
    | ex => bif Nat.ble σ1.nx L6 then (match σ1.norm n0 ks with
     | some σ2 => bif Nat.ble σ2.nx L6 then some (ex, { σ2 with nx := L6 }) else none
     | none => none) else none
   | none => none
  | none => none) else none
theorem Sim.up {n0 nt m : Nat} {σ : St} {a : Act} {w : World} (h : Sim T c eb of n0 nt σ a w) (hm : σ.nx ≤ m) : Sim T c eb of n0 nt { σ with nx := m } a w := by
 obtain ⟨e, rfl, hst⟩ := h
 exact ⟨e, rfl, hst.os, hst.le, fun id A2 => (hst.U id A2).imp (fun q => q) (fun q => ⟨q.1, Nat.lt_of_lt_of_le q.2 hm⟩), hst.sl, hst.def_, hst.nt⟩
theorem B1y {nt n0 L6 : Nat} {ks : List Nat} {body : Code} {f : St → Option (Exit × St)} (hf : ∀ σ ex σ', f σ = some (ex, σ') → A3l P T nt n0 of body σ ex σ') : ∀ (n : Nat) (σ : St) (ex : Exit) (σ' : St), U9 n0 ks L6 f n σ = some (ex, σ') →
  σ.le σ' ∧ σ'.nx = L6 ∧ ∀ (m : Nat) (of' : Nat → Option Ob) (c : Q0) (eb : B4) (a : Act) (w : World), A2B of of' eb n0 σ' → A8u T eb of' → Sim T c eb of' n0 nt σ a w → Code.roundsIn (WF c.rd) m P body (fun e a' w' => e = ex ∧ Sim T c eb of' n0 nt σ' a' w') n a w := by
 intro n
 induction n with
 | zero => intro σ ex σ' h; cases h
 | succ n ih =>
  intro σ ex σ' h
  simp only [U9] at h
  cases hle : Nat.ble σ.nx L6 with
  | false => rw [hle] at h; cases h
  | true =>
  rw [hle] at h
  simp only [cond_true] at h
  have hle := D07 hle
  split at h <;> try (cases h; done)
  rename_i σn hn
  split at h <;> try (cases h; done)
  rename_i ex1 σ1 hx
  obtain ⟨l1, k1⟩ := hf _ _ _ hx
  have hrd : σn.rd = σ.rd := B2Y hn
  have rdle : ∀ id ∈ σ.rd, id ∈ σ1.rd := fun id A2 => l1.1 id (by rw [hrd]; exact A2)
  have round : ∀ (m : Nat) (of' : Nat → Option Ob) (c : Q0) (eb : B4) (a : Act) (w : World), (∀ id ∈ σ1.rd, of' id = of id) → (∀ id, n0 ≤ id → id < L6 → ¬ eb.U id) → σ1.nx ≤ L6 → A8u T eb of' → Sim T c eb of' n0 nt σ a w → body.wpIn (WF c.rd) m P (fun e a' w' => e = ex1 ∧ Sim T c eb of' n0 nt σ1 a' w') a w := fun m of' c eb a w h1 h2 h3 hbs hs => by
   obtain ⟨s1, s2, s3⟩ := hs.norm hbs (fun id q1 q2 => h2 id q1 (Nat.lt_of_lt_of_le q2 hle)) hn
   exact k1 m of' c eb a w s2 ⟨h1, fun id q1 q2 => h2 id q1 (Nat.lt_of_lt_of_le q2 h3)⟩ hbs s1
  cases ex1 with
  | normal =>
   obtain ⟨l2, b2, k2⟩ := ih _ _ _ h
   have h3 : σ1.nx ≤ L6 := by rw [← b2]; exact l2.2
   refine ⟨⟨fun id A2 => l2.1 id (rdle id A2), by rw [b2]; exact hle⟩, b2, fun m of' c eb a w hfit hbs hs => ?_⟩
   refine S1 ?_ (round m of' c eb a w (fun id A2 => hfit.rd id (l2.1 id A2)) (fun id q1 q2 => hfit.fr id q1 (by rw [b2]; exact q2)) h3 hbs hs)
   rintro e' a' w' ⟨rfl, hs'⟩
   exact k2 m of' c eb a' w' hfit hbs hs'
  | _ =>
   simp only at h
   cases hb1 : Nat.ble σ1.nx L6 with
   | false => rw [hb1] at h; cases h
   | true =>
    rw [hb1] at h
    simp only [cond_true] at h
    have h3 := D07 hb1
    split at h <;> try (cases h; done)
    rename_i σ2 hn2
    cases hb2 : Nat.ble σ2.nx L6 with
    | false => rw [hb2] at h; cases h
    | true =>
    rw [hb2] at h
    simp only [cond_true, D04, Prod.mk.injEq] at h
    obtain ⟨rfl, rfl⟩ := h
    have h4 := D07 hb2
    have hrd2 : σ2.rd = σ1.rd := B2Y hn2
    refine ⟨⟨fun id A2 => by show id ∈ σ2.rd; rw [hrd2]; exact rdle id A2, hle⟩, rfl, fun m of' c eb a w hfit hbs hs => ?_⟩
    refine S1 ?_ (round m of' c eb a w (fun id A2 => hfit.rd id (by show id ∈ σ2.rd; rw [hrd2]; exact A2)) hfit.fr h3 hbs hs)
    rintro e' a' w' ⟨rfl, hs'⟩
    exact ⟨rfl, (hs'.norm hbs (fun id q1 q2 => hfit.fr id q1 (Nat.lt_of_lt_of_le q2 h3)) hn2).1.up h4⟩
theorem A7a {nt n0 L6 fu : Nat} {ks : List Nat} {body : Code} {f : St → Option (Exit × St)} (hf : ∀ σ ex σ', f σ = some (ex, σ') → A3l P T nt n0 of body σ ex σ') {σ σ' : St} {ex : Exit} (h : U9 n0 ks L6 f fu σ = some (ex, σ')) : A3l P T nt n0 of (.loop body) σ ex σ' := by
 obtain ⟨l1, _, k1⟩ := B1y hf fu σ ex σ' h
 exact ⟨l1, fun m of' c eb a w hn hfit hbs hs => wpIn_loop_rounds fu (k1 m of' c eb a w hfit hbs hs)⟩
variable {T : TT}
def ob {α R : Type} (o : Option α) (k : α → Option R) : Option R :=
 match o with
 | some a => k a
 | none => none
abbrev E7 := (R : Type) → List A → (Nat → Option Ob) → Nat → (V9 → Option R) → Option R
def E7.dir (s : E7) : Sym := fun args of nx => s V9 args of nx some
def E7.nat (s : E7) : Prop := ∀ (R : Type) (args : List A) (of : Nat → Option Ob) (nx : Nat) (k : V9 → Option R), s R args of nx k = ob (s.dir args of nx) k
def A94 (s : Sym) : E7 := fun _ args of nx k => ob (s args of nx) k
theorem B43 (s : Sym) : (A94 s).nat := by
 intro R args of nx k
 simp only [A94, E7.dir]
 cases s args of nx <;> rfl
theorem B44 (s : Sym) : (A94 s).dir = s := by
 funext args of nx
 simp only [A94, E7.dir]
 cases s args of nx <;> rfl
variable {R : Type}
def B1z (T : TT) (of : Nat → Option Ob) (el : Nat) (u : A) (k : List V × List Nat → Option R) : Option R :=
 match u with
 | .w id ver off n => match of id with
  | some (.row el' v xs _ _) => bif Nat.beq el el' && Nat.beq v ver then (bif Nat.ble (off + n) xs.length then k ((xs.drop off).take n, [id]) else none) else none
  | _ => none
 | u => ob (X0 T of el u) k
theorem A4W (of : Nat → Option Ob) (el : Nat) (u : A) (k : List V × List Nat → Option R) : B1z T of el u k = ob (X0 T of el u) k := by
 unfold B1z
 split
 ·rename_i id ver off n
  simp only [X0]
  cases of id with
  | none => rfl
  | some o =>
   cases o with
   | row el' v xs nl sh => simp only; cases (Nat.beq el el' && Nat.beq v ver) <;> cases Nat.ble (off + n) xs.length <;> rfl
   | _ => rfl
 ·rfl
def A2Y (T : TT) (of : Nat → Option Ob) (t : Nat) (i : Int) (u : A) (k : A × List Nat → Option R) : Option R :=
 match D4 T t with
 | some (.arr n el) => bif (T el).isSome then bif C2 0 i && B7 i n then
   (match u with
   | .p id t' path => bif L4 T t t' then k (.p id el (path ++ [i.toNat]), []) else none
   | .e id ver j t' path => bif L4 T t t' && B0y of id ver then k (.e id ver j el (path ++ [i.toNat]), [id]) else none
   | .c t' y => bif L4 T t t' then k (.c el (y.nth i.toNat), []) else none
   | _ => none)
  else none else none
 | some (.slice el) => bif (T el).isSome then
   (match u with
   | .o id ver => match of id with
    | some (.row el' v xs _ _) => bif Nat.beq el el' && Nat.beq v ver then (bif C2 0 i && B7 i xs.length then k (.e id ver i.toNat el [], [id]) else none) else none
    | _ => none
   | .w id ver off n => match of id with
    | some (.row el' v xs _ _) => bif Nat.beq el el' && Nat.beq v ver then (bif C2 0 i && B7 i n then k (.e id ver (off + i.toNat) el [], [id]) else none) else none
    | _ => none
   | .v t' y => bif L4 T t t' then (bif C2 0 i && B7 i y.els.length then k (.c el (y.nth i.toNat), []) else none) else none
   | .q t' y => bif L4 T t t' then (bif C2 0 i && B7 i y.els.length then k (.c el (y.nth i.toNat), []) else none) else none
   | .a id t1 path l0 m => match D4 T t1 with
    | some (.arr _ el') => bif Nat.beq el el' then (bif C2 0 i && B7 i m then k (.p id el (path ++ [l0 + i.toNat]), []) else none) else none
    | _ => none
   | _ => none)
  else none
 | _ => none
theorem A7b (of : Nat → Option Ob) (t : Nat) (i : Int) (u : A) (k : A × List Nat → Option R) : A2Y T of t i u k = ob (A0C T of t i u) k := by
 unfold A2Y A0C
 cases D4 T t with
 | none => rfl
 | some kk =>
 cases kk with
 | arr n el =>
  simp only
  cases u with
  | p id t' path => simp only; cases (T el).isSome <;> cases C2 0 i <;> cases B7 i (n : Int) <;> cases L4 T t t' <;> rfl
  | e id ver j t' path => simp only; cases (T el).isSome <;> cases C2 0 i <;> cases B7 i (n : Int) <;> cases L4 T t t' <;> cases B0y of id ver <;> rfl
  | c t' y => simp only; cases (T el).isSome <;> cases C2 0 i <;> cases B7 i (n : Int) <;> cases L4 T t t' <;> rfl
  | _ => simp only; cases (T el).isSome <;> cases C2 0 i <;> cases B7 i (n : Int) <;> rfl
 | slice el =>
  simp only
  cases (T el).isSome
  ·cases C2 0 i <;> rfl
  ·simp only [cond_true, Bool.and_true]
   cases u with
   | o id ver =>
    simp only
    cases of id with
    | none => cases C2 0 i <;> rfl
    | some o =>
     cases o with
     | row el' v xs nl sh => simp only; cases C2 0 i <;> cases (Nat.beq el el' && Nat.beq v ver) <;> cases B7 i xs.length <;> rfl
     | _ => cases C2 0 i <;> rfl
   | w id ver off n =>
    simp only
    cases of id with
    | none => cases C2 0 i <;> rfl
    | some o =>
     cases o with
     | row el' v xs nl sh => simp only; cases C2 0 i <;> cases (Nat.beq el el' && Nat.beq v ver) <;> cases B7 i n <;> rfl
     | _ => cases C2 0 i <;> rfl
   | v t' y => simp only; cases C2 0 i <;> cases L4 T t t' <;> cases B7 i y.els.length <;> rfl
   | q t' y => simp only; cases C2 0 i <;> cases L4 T t t' <;> cases B7 i y.els.length <;> rfl
   | a id t1 path l0 m =>
    simp only
    cases D4 T t1 with
    | none => cases C2 0 i <;> rfl
    | some k1 =>
     cases k1 with
     | arr n' el' => simp only; cases C2 0 i <;> cases Nat.beq el el' <;> cases B7 i m <;> rfl
     | _ => cases C2 0 i <;> rfl
   | _ => cases C2 0 i <;> rfl
 | _ => rfl
def B1A (T : TT) (t : Nat) (i : Int) (u : A) (k : A → Option R) : Option R :=
 match u with
 | .s l => match D4 T t with
  | some .str => bif C2 0 i && B7 i l.length then k (.i .u8 (l.getD i.toNat .n).int) else none
  | _ => none
 | .v t' y => match D4 T t with
  | some (.arr n el) => bif L4 T t t' && (T el).isSome then (bif C2 0 i && B7 i n then k (mkA T el (y.nth i.toNat)) else none) else none
  | _ => none
 | _ => none
theorem B45 (t : Nat) (i : Int) (u : A) (k : A → Option R) : B1A T t i u k = ob (A5p T t i u) k := by
 unfold B1A A5p
 cases u with
 | s l =>
  simp only
  cases D4 T t with
  | none => rfl
  | some k1 => cases k1 with
   | str => simp only; cases (C2 0 i && B7 i l.length) <;> rfl
   | _ => rfl
 | v t' y =>
  simp only
  cases D4 T t with
  | none => rfl
  | some k1 => cases k1 with
   | arr n el => simp only; cases L4 T t t' <;> cases (T el).isSome <;> cases C2 0 i <;> cases B7 i n <;> rfl
   | _ => rfl
 | _ => rfl
def C67 (op : BinOp) (kd : IntKind) (a b : Int) (k : A → Option R) : Option R :=
 match op with
 | .quo => bif G5 b 0 then none else k (.i kd (kd.wrap (a.tdiv b)))
 | .rem => bif G5 b 0 then none else k (.i kd (a.tmod b))
 | .shl => bif C2 0 b then k (.i kd (kd.wrap (a * 2 ^ min b.toNat kd.bits))) else none
 | .shr => bif C2 0 b then k (.i kd (a.fdiv (2 ^ min b.toNat kd.bits))) else none
 | op => ob (A7Z op kd a b) k
theorem C2L (op : BinOp) (kd : IntKind) (a b : Int) (k : A → Option R) : C67 op kd a b k = ob (A7Z op kd a b) k := by
 cases op <;> simp only [C67, A7Z]
 ·cases G5 b 0 <;> rfl
 ·cases G5 b 0 <;> rfl
 ·cases C2 0 b <;> rfl
 ·cases C2 0 b <;> rfl
def C68 (op : BinOp) (x y : List V) (k : A → Option R) : Option R :=
 match op with
 | .add => bif Nat.ble (x.length + y.length) LIM then k (.s (x ++ y)) else none
 | op => ob (B0w op x y) k
theorem C2M (op : BinOp) (x y : List V) (k : A → Option R) : C68 op x y k = ob (B0w op x y) k := by
 cases op <;> simp only [C68, B0w]
 cases Nat.ble (x.length + y.length) LIM <;> rfl
def C69 (T : TT) (of : Nat → Option Ob) (op : BinOp) (xt : Nat) (u v : A) (k : A × List Nat → Option R) : Option R :=
 match u, v with
 | .i kd a, .i k' b => bif A4H op || A69 kd k' then C67 op kd a b fun r => k (r, []) else none
 | .s a, .s b => C68 op a b fun r => k (r, [])
 | u, v => ob (B0x T of op xt u v) k
theorem C2N (of : Nat → Option Ob) (op : BinOp) (xt : Nat) (u v : A) (k : A × List Nat → Option R) : C69 T of op xt u v k = ob (B0x T of op xt u v) k := by
 unfold C69
 split
 ·rename_i kd a k' b
  simp only [B0x]
  cases (A4H op || A69 kd k')
  ·rfl
  ·simp only [cond_true, if_true, C2L]
   cases A7Z op kd a b <;> rfl
 ·rename_i a b
  simp only [B0x, C2M]
  cases B0w op a b <;> rfl
 ·rfl
def unC (op : UnOp) (u : A) (k : A → Option R) : Option R :=
 match op, u with
 | .xor, .i kd n => k (.i kd (J3 .xor kd (if kd.signed then -1 else kd.max) n))
 | op, u => ob (unA op u) k
theorem A95 (op : BinOp) (kd : IntKind) (x y : Int) : B0C kd (J3 op kd x y) = true := by
 have := P3 kd (match op with
  | .and => (BitVec.ofInt kd.bits x &&& BitVec.ofInt kd.bits y).toNat
  | .or => (BitVec.ofInt kd.bits x ||| BitVec.ofInt kd.bits y).toNat
  | .xor => (BitVec.ofInt kd.bits x ^^^ BitVec.ofInt kd.bits y).toNat
  | _ => (BitVec.ofInt kd.bits x &&& ~~~BitVec.ofInt kd.bits y).toNat : Nat)
 unfold B0C
 rw [D02, L5, L5]
 exact this
theorem C7a (op : UnOp) (u : A) (k : A → Option R) : unC op u k = ob (unA op u) k := by
 unfold unC
 split
 ·rename_i kd n
  simp only [unA, chk, A95, if_true]
  rfl
 ·rfl
def C2O (T : TT) (of : Nat → Option Ob) (t : Nat) (u : A) (k : A × List Nat → Option R) : Option R :=
 match D4 T t with
 | some .str => match u with
  | .s l => bif Nat.ble l.length 9223372036854775807 then k (.i .i64 (l.length : Nat), []) else none
  | _ => none
 | some (.slice el) => match u with
  | .s _ => none
  | u => B1z T of el u fun p => bif Nat.ble p.1.length 9223372036854775807 then k (.i .i64 (p.1.length : Nat), p.2) else none
 | some (.map _ _) => match u with
  | .m id => match of id with
   | some (.map _ _ es) => bif Nat.ble es.length 9223372036854775807 then k (.i .i64 (es.length : Nat), [id]) else none
   | some (.vm _ _ es) => bif Nat.ble es.length 9223372036854775807 then k (.i .i64 (es.length : Nat), [id]) else none
   | _ => none
  | _ => none
 | _ => none
theorem C2P (of : Nat → Option Ob) (t : Nat) (u : A) (k : A × List Nat → Option R) : C2O T of t u k = ob (B75 T of t u) k := by
 unfold B75
 cases hq : A6d of u with
 | some q =>
  obtain ⟨id, kt', et', es⟩ := q
  obtain ⟨rfl, hof⟩ := Y8 hq
  unfold C2O
  simp only
  cases hk : D4 T t with
  | none => rfl
  | some kk => cases kk with
   | map kt et => simp only [hof]; cases Nat.ble es.length 9223372036854775807 <;> rfl
   | slice el => simp only [B1z, X0]; rfl
   | _ => rfl
 | none =>
 simp only
 unfold C2O B3K
 cases D4 T t with
 | none => rfl
 | some kk =>
  cases kk with
  | str => cases u with
   | s l => simp only; cases Nat.ble l.length 9223372036854775807 <;> rfl
   | _ => rfl
  | slice el =>
   have gen : ∀ o : Option (List V × List Nat), ob o (fun p => bif Nat.ble p.1.length 9223372036854775807 then k (A.i .i64 (p.1.length : Nat), p.2) else none) = ob (match o with | some (xs, ro) => (if Nat.ble xs.length 9223372036854775807 = true then some (A.i .i64 (xs.length : Nat), ro) else none) | none => none) k := by
    intro o
    cases o with
    | none => rfl
    | some p => simp only [ob]; cases Nat.ble p.1.length 9223372036854775807 <;> rfl
   cases u with
   | s l => simp only; cases X0 T of el (.s l) <;> rfl
   | _ => simp only [A4W]; exact gen _
  | map kt et => cases u with
   | m id =>
    simp only
    cases A2 : of id with
    | none => rfl
    | some o => cases o with
     | map kt' et' es => simp only; cases Nat.ble es.length 9223372036854775807 <;> rfl
     | vm kt' et' es => exfalso; unfold A6d at hq; simp only [A2] at hq; cases hq
     | _ => rfl
   | _ => rfl
  | _ => rfl
def A8K (T : TT) (of : Nat → Option Ob) (nx t : Nat) (x y : A) (k : Out → Option R) : Option R :=
 match D4 T t with
 | some (.slice el) => match T el with
  | some te => B1z T of el y fun p => bif Nat.ble te.bytes 131072 && TK.notOther te.k && Nat.blt 0 te.size then
    (match x with
    | .o id ver => match of id with
     | some (.row el' v xs nl sh) => bif Nat.beq el el' && Nat.beq v ver then (bif Nat.ble (xs.length + p.1.length) LIM then
       k ⟨.o id (ver + 1), [(id, .row el (ver + 1) (xs ++ p.1) (nl && p.1.isEmpty) sh)], id :: p.2, []⟩ else none) else none
     | _ => none
    | .w id ver off n => match of id with
     | some (.row el' v xs false sh) => bif Nat.beq el el' && Nat.beq v ver then (bif Nat.ble (off + n) xs.length then (bif Nat.beq (off + n) xs.length || !sh then (bif Nat.ble (n + p.1.length) LIM then
       k ⟨.o id (ver + 1), [(id, .row el (ver + 1) ((xs.drop off).take n ++ p.1) false sh)], id :: p.2, []⟩ else none) else none) else none) else none
     | _ => none
    | .v t' .n => bif L4 T t t' then (bif Nat.ble p.1.length LIM then k ⟨.o nx 1, [(nx, .row el 1 p.1 p.1.isEmpty false)], p.2, [nx]⟩ else none) else none
    | .z v => bif A5z v then (bif Nat.ble p.1.length LIM then k ⟨.o nx 1, [(nx, .row el 1 p.1 p.1.isEmpty false)], p.2, [nx]⟩ else none) else none
    | .q t' x => bif L4 T t t' then (bif !p.1.isEmpty then (bif Nat.ble (x.els.length + p.1.length) LIM then k ⟨.o nx 1, [(nx, .row el 1 (x.els ++ p.1) p.1.isEmpty false)], p.2, [nx]⟩ else none) else none) else none
    | _ => none)
   else none
  | none => none
 | _ => none
theorem B1B (of : Nat → Option Ob) (nx t : Nat) (x y : A) (k : Out → Option R) : A8K T of nx t x y k = ob (A28 T of nx t x y) k := by
 unfold A8K A28
 cases D4 T t with
 | none => rfl
 | some kk =>
 cases kk with
 | slice el =>
  simp only
  cases T el with
  | none => rfl
  | some te =>
   simp only [A4W]
   cases X0 T of el y with
   | none => rfl
   | some p =>
    obtain ⟨ns, ro⟩ := p
    simp only [ob]
    cases (Nat.ble te.bytes 131072 && TK.notOther te.k && Nat.blt 0 te.size)
    ·rfl
    ·simp only [cond_true, if_true]
     cases x with
     | o id ver =>
      simp only
      cases of id with
      | none => rfl
      | some o => cases o with
       | row el' v xs nl sh => simp only; cases (Nat.beq el el' && Nat.beq v ver) <;> cases Nat.ble (xs.length + ns.length) LIM <;> rfl
       | _ => rfl
     | w id ver off n =>
      simp only
      cases of id with
      | none => rfl
      | some o => cases o with
       | row el' v xs nl sh => cases nl <;> simp only <;> cases (Nat.beq el el' && Nat.beq v ver) <;> cases Nat.ble (off + n) xs.length <;> cases (Nat.beq (off + n) xs.length || !sh) <;> cases Nat.ble (n + ns.length) LIM <;> rfl
       | _ => rfl
     | v t' y => cases y with
      | n => simp only; cases L4 T t t' <;> cases Nat.ble ns.length LIM <;> rfl
      | _ => rfl
     | z v => simp only; cases A5z v <;> cases Nat.ble ns.length LIM <;> rfl
     | q t' x' => simp only; cases L4 T t t' <;> cases ns.isEmpty <;> cases Nat.ble (x'.els.length + ns.length) LIM <;> rfl
     | _ => rfl
 | _ => rfl
variable {T : TT} {R : Type}
def A0r (n : Nat) (lo hi : Option A) (k : Nat × Nat → Option R) : Option R :=
 match L6 (0 : Nat) lo, L6 n hi with
 | some l, some h => bif C2 0 l && C2 l h && C2 h n then k (l.toNat, (h - l).toNat) else none
 | _, _ => none
theorem Z1 (n : Nat) (lo hi : Option A) (k : Nat × Nat → Option R) : A0r n lo hi k = ob (T4 n lo hi) k := by
 unfold A0r T4
 cases L6 (0 : Nat) lo with
 | none => rfl
 | some l => cases L6 n hi with
  | none => rfl
  | some h => simp only; cases (C2 0 l && C2 l h && C2 h n) <;> rfl
def B1C (T : TT) (of : Nat → Option Ob) (t : Nat) (u : A) (lo hi mx : Option A) (k : A × List (Nat × Ob) × List Nat → Option R) : Option R :=
 match mx with
 | some mx => (match D4 T t with
  | some (.slice el) => bif (T el).isSome && isQ T u then
    (match L6 (0 : Nat) lo, hi, mx with
    | some l, some (.i _ h), .i _ h' => bif G5 h h' then (match N5 T DEP of t u with
     | some (x, wo) => bif C2 0 l && C2 l h && C2 h x.els.length then k (.q t (A5B x l.toNat (h - l).toNat), wo, V3 wo) else none
     | none => none) else none
    | _, _, _ => none) else none
  | _ => none)
 | none =>
 match D4 T t with
 | some .str => match u with
  | .s l => A0r l.length lo hi fun p => k (.s ((l.drop p.1).take p.2), [], [])
  | _ => none
 | some (.slice el) => bif (T el).isSome && isQ T u then
   (match zV T t u with
    | .v t' y => bif L4 T t t' then A0r y.els.length lo hi fun p => k (.v t' (A5B y p.1 p.2), [], []) else none
    | .w id ver off n => match of id with
     | some (.row el' v xs _ _) => bif Nat.beq el el' && Nat.beq v ver then A0r n lo hi fun p => k (.w id ver (off + p.1) p.2, [], [id]) else none
     | _ => none
    | .o id ver => match of id with
     | some (.row el' v xs false _) => bif Nat.beq el el' && Nat.beq v ver then A0r xs.length lo hi fun p => k (.w id ver (0 + p.1) p.2, [], [id]) else none
     | some (.row el' v xs true _) => bif Nat.beq el el' && Nat.beq v ver && V5 T t then A0r 0 lo hi fun p => k (.v t (A5B .n p.1 p.2), [], [id]) else none
     | _ => none
    | .a id t1 path lo0 m => match D4 T t1 with
     | some (.arr _ el') => bif Nat.beq el el' then A0r m lo hi fun p => k (.a id t1 path (lo0 + p.1) p.2, [], []) else none
     | _ => none
    | _ => none)
  else none
 | some (.arr n el) => match u with
  | .p id t1 path => bif L4 T t t1 && (T el).isSome then A0r n lo hi fun p => k (.a id t1 path p.1 p.2, [], []) else none
  | _ => none
 | _ => none
theorem N4 {α : Type} (q : Bool) (a : Option α) (k : α → Option R) : ob (if q = true then a else none) k = bif q then ob a k else none := by cases q <;> rfl
theorem B46 (of : Nat → Option Ob) (t : Nat) (u : A) (lo hi mx : Option A) (k : A × List (Nat × Ob) × List Nat → Option R) : B1C T of t u lo hi mx k = ob (A3P T of t u lo hi mx) k := by
 unfold B1C
 cases mx with
 | some m =>
  unfold A3P
  simp only
  cases D4 T t with
  | none => rfl
  | some kk =>
  cases kk with
  | str => cases u <;> rfl
  | slice el =>
   simp only [N4]
   cases ((T el).isSome && isQ T u)
   ·rfl
   ·simp only [cond_true]
    cases L6 (0 : Nat) lo with
    | none => rfl
    | some l => cases hi with
     | none => rfl
     | some a => cases a with
      | i k1 h => cases m with
       | i k2 h' =>
        simp only [N4]
        cases G5 h h'
        ·rfl
        ·simp only [cond_true]
         cases N5 T DEP of t u with
         | none => rfl
         | some p => obtain ⟨x, wo⟩ := p; simp only [N4]; cases (C2 0 l && C2 l h && C2 h x.els.length) <;> rfl
       | _ => rfl
      | _ => rfl
  | arr n el => cases u <;> rfl
  | _ => rfl
 | none =>
 unfold A3P
 simp only
 cases D4 T t with
 | none => rfl
 | some kk =>
 cases kk with
 | str => cases u with
  | s l => simp only [Z1]; cases T4 l.length lo hi <;> rfl
  | _ => rfl
 | slice el =>
  simp only [N4]
  cases ((T el).isSome && isQ T u)
  ·rfl
  ·simp only [cond_true]
   cases zV T t u with
   | v t' y => simp only [N4, Z1]; cases T4 y.els.length lo hi <;> rfl
   | w id ver off n =>
    simp only
    cases of id with
    | none => rfl
    | some o => cases o with
     | row el' v xs nl sh => simp only [N4, Z1]; cases T4 n lo hi <;> rfl
     | _ => rfl
   | o id ver =>
    simp only
    cases of id with
    | none => rfl
    | some o => cases o with
     | row el' v xs nl sh => cases nl <;> simp only [N4, Z1]
                             ·cases T4 xs.length lo hi <;> rfl
                             ·cases T4 0 lo hi <;> rfl
     | _ => rfl
   | a id t1 path lo0 m =>
    simp only
    cases D4 T t1 with
    | none => rfl
    | some k1 => cases k1 with
     | arr n' el' => simp only [N4, Z1]; cases T4 m lo hi <;> rfl
     | _ => rfl
   | _ => rfl
 | arr n el => cases u with
  | p id t1 path => simp only [N4, Z1]; cases T4 n lo hi <;> rfl
  | _ => rfl
 | _ => rfl
def A2Z (T : TT) (nx t : Nat) (u v : A) (k : V9 → Option R) : Option R :=
 match D4 T t, u, v with
 | some (.slice el), .i _ a, .i _ b => match T el with
  | some te => bif Nat.blt 0 te.size && TK.notOther te.k && Nat.ble te.bytes 131072 then (bif C2 0 a && C2 a b && C2 b LIM then k ⟨.o nx 1, [(nx, .row el 1 (List.replicate a.toNat te.zero) false false)], [], nx + 1⟩ else none) else none
  | none => none
 | _, _, _ => none
theorem A7c (nx t : Nat) (u v : A) (k : V9 → Option R) : A2Z T nx t u v k = ob (A1C T nx t u v) k := by
 unfold A2Z A1C
 cases D4 T t with
 | none => rfl
 | some kk => cases kk with
  | slice el => cases u with
   | i k1 a => cases v with
    | i k2 b =>
     simp only
     cases T el with
     | none => rfl
     | some te =>
      simp only
      cases Nat.blt 0 te.size <;> cases TK.notOther te.k <;> cases Nat.ble te.bytes 131072 <;> cases C2 0 a <;> cases C2 a b <;> cases C2 b LIM <;> rfl
    | _ => rfl
   | _ => rfl
  | _ => rfl
def C7b (T : TT) (of : Nat → Option Ob) (t : Nat) (u : A) (k : A × List (Nat × Ob) × List Nat → Option R) : Option R :=
 match u with
 | .v t' y => match D4 T t with
  | some (.arr n el) => bif Nat.blt 0 n && Nat.beq (B8 T t) (n * B8 T el) then
   (match D4 T t' with
    | some (.slice el') => bif Nat.beq el el' then (bif Nat.ble n y.els.length then k (.c t (.l (y.els.take n)), [], []) else none) else none
    | _ => none) else none
  | _ => none
 | .o id ver => match D4 T t with
  | some (.arr n el) => bif Nat.blt 0 n && Nat.beq (B8 T t) (n * B8 T el) then
   (match of id with
    | some (.row el' v xs false _) => bif Nat.beq el el' && Nat.beq v ver then (bif Nat.ble n xs.length then k (.c t (.l (xs.take n)), [(id, .row el' ver xs false true)], [id]) else none) else none
    | _ => none) else none
  | _ => none
 | u => ob (B0D T of t u) k
theorem C2Q (of : Nat → Option Ob) (t : Nat) (u : A) (k : A × List (Nat × Ob) × List Nat → Option R) : C7b T of t u k = ob (B0D T of t u) k := by
 unfold C7b
 cases u with
 | v t' y =>
  simp only [B0D]
  cases D4 T t with
  | none => rfl
  | some kk => cases kk with
   | arr n el =>
    simp only [N4]
    cases D4 T t' with
    | none => rfl
    | some k1 => cases k1 with
     | slice el' => simp only [N4]; cases (Nat.blt 0 n && Nat.beq (B8 T t) (n * B8 T el)) <;> cases Nat.beq el el' <;> cases Nat.ble n y.els.length <;> rfl
     | _ => rfl
   | _ => rfl
 | o id ver =>
  simp only [B0D]
  cases D4 T t with
  | none => rfl
  | some kk => cases kk with
   | arr n el =>
    simp only [N4]
    cases of id with
    | none => rfl
    | some o => cases o with
     | row el' v xs nl sh => cases nl
                             ·simp only [N4]; cases (Nat.blt 0 n && Nat.beq (B8 T t) (n * B8 T el)) <;> cases (Nat.beq el el' && Nat.beq v ver) <;> cases Nat.ble n xs.length <;> rfl
                             ·rfl
     | _ => rfl
   | _ => rfl
 | _ => rfl
def oc {α β : Type} (o : Option α) (s : α → β) (n : β) : β :=
 match o with
 | some a => s a
 | none => n
def B2Z (T : TT) (of : Nat → Option Ob) (t : Nat) (m k : A) (okk : Bool) (kk : A × List Nat → Option R) : Option R :=
 match D4 T t with
 | some (.map kt et) => match T et, A03 T kt k with
  | some te, some kv => bif TK.notOther te.k then
    (bif A1K T t m then kk (okA okk (mkA T et te.zero) false, []) else
    match m with
    | .m id => match of id with
     | some (.map kt' et' es) => bif Nat.beq kt kt' && Nat.beq et et' then oc (A3q kv es) (fun a => kk (okA okk (norm T a) true, [id])) (kk (okA okk (mkA T et te.zero) false, [id])) else none
     | some (.vm kt' et' es) => bif Nat.beq kt kt' && Nat.beq et et' then (bif B1s kv es then kk (okA okk (mkA T et (B7Y kv es)) true, [id]) else kk (okA okk (mkA T et te.zero) false, [id])) else none
     | _ => none
    | _ => none)
   else none
  | _, _ => none
 | _ => none
theorem B8t (of : Nat → Option Ob) (t : Nat) (m k : A) (okk : Bool) (kk : A × List Nat → Option R) : B2Z T of t m k okk kk = ob (A7O T of t m k okk) kk := by
 unfold A7O
 cases hq : A6d of m with
 | some q =>
  obtain ⟨id, kt', et', es⟩ := q
  obtain ⟨rfl, hof⟩ := Y8 hq
  unfold B2Z B70
  simp only
  cases D4 T t with
  | none => rfl
  | some k1 => cases k1 with
   | map kt et =>
    simp only
    cases T et with
    | none => rfl
    | some te => cases A03 T kt k with
     | none => rfl
     | some kv =>
      simp only [N4, show A1K T t (.m id) = false from rfl, cond_false, hof]
      cases TK.notOther te.k
      ·rfl
      ·simp only [cond_true]
       cases (Nat.beq kt kt' && Nat.beq et et')
       ·rfl
       ·simp only [cond_true]
        cases B1s kv es <;> rfl
   | _ => rfl
 | none =>
 simp only
 unfold B2Z A7K
 cases D4 T t with
 | none => rfl
 | some k1 => cases k1 with
  | map kt et =>
   simp only
   cases T et with
   | none => rfl
   | some te => cases A03 T kt k with
    | none => rfl
    | some kv =>
     simp only [N4]
     cases TK.notOther te.k
     ·rfl
     ·simp only [cond_true]
      cases A1K T t m
      ·simp only [cond_false]
       cases m with
       | m id =>
        simp only
        cases A2 : of id with
        | none => rfl
        | some o => cases o with
         | map kt' et' es =>
          simp only [N4]
          cases (Nat.beq kt kt' && Nat.beq et et')
          ·rfl
          ·simp only [cond_true]
           cases A3q kv es <;> rfl
         | vm kt' et' es => exfalso; unfold A6d at hq; simp only [A2] at hq; cases hq
         | _ => rfl
       | _ => rfl
      ·rfl
  | _ => rfl
def B8u (T : TT) (of : Nat → Option Ob) (nx s t : Nat) (u : A) (k : Out → Option R) : Option R :=
 match u with
 | .w id ver off n => match D4 T t with
  | some .str => match D4 T s with
   | some (.slice el) => match D4 T el with
    | some (.int .u8) => bif Nat.beq (B8 T el) 1 then B1z T of el (.w id ver off n) fun p => k ⟨.s p.1, [], p.2, []⟩ else none
    | _ => none
   | _ => none
  | _ => ob (A5q T of nx s t (.w id ver off n)) k
 | u => ob (A5q T of nx s t u) k
theorem B8v (of : Nat → Option Ob) (nx s t : Nat) (u : A) (k : Out → Option R) : B8u T of nx s t u k = ob (A5q T of nx s t u) k := by
 unfold B8u
 cases u with
 | w id ver off n =>
  simp only
  cases hk : D4 T t with
  | none => rfl
  | some kk => cases kk with
   | str =>
    simp only [A5q, hk, A72]
    cases D4 T s with
    | none => rfl
    | some k1 => cases k1 with
     | slice el =>
      simp only
      cases D4 T el with
      | none => rfl
      | some k2 => cases k2 with
       | int ki => cases ki <;> try rfl
                   simp only [A4W]
                   cases Nat.beq (B8 T el) 1
                   ·rfl
                   ·simp only [cond_true, if_true]; cases X0 T of el (.w id ver off n) <;> rfl
       | _ => rfl
     | _ => rfl
   | _ => rfl
 | _ => rfl
def B8w (T : TT) (of : Nat → Option Ob) (t xt : Nat) (u v : A) (k : A × List (Nat × Ob) × List Nat → Option R) : Option R :=
 match D4 T t with
 | some (.slice el) => bif A29 T xt v && (T el).isSome then
   B1z T of el v fun p => bif Nat.ble p.1.length LIM then
    (match u with
    | .a id t1 path lo m => match D4 T t1, of id with
     | some (.arr N el'), some (.box t0 a false) => match atA T a path with
      | some (.v t2 y) => bif Nat.beq el el' && Nat.beq t1 t2 then
        (bif p.1.isEmpty then (match X0 T of el (.a id t1 path lo m) with
         | some q => k (.i .i64 0, [], p.2 ++ q.2)
         | none => none) else
         bif Nat.ble p.1.length m && Nat.ble (lo + m) N then (match A2E T a path (.v t1 (.l (Y6 y.els lo p.1))) with
          | some a' => k (.i .i64 (p.1.length : Nat), [(id, .box t0 a' false)], id :: p.2)
          | none => none) else none) else ob (A0i T of t xt u v) k
      | _ => ob (A0i T of t xt u v) k
     | _, _ => ob (A0i T of t xt u v) k
    | u => ob (A0i T of t xt u v) k)
    else none
  else none
 | _ => none
theorem B8x (of : Nat → Option Ob) (t xt : Nat) (u v : A) (k : A × List (Nat × Ob) × List Nat → Option R) : B8w T of t xt u v k = ob (A0i T of t xt u v) k := by
 unfold B8w
 cases hk : D4 T t with
 | none => simp only [A0i, hk]; rfl
 | some kk => cases kk with
  | slice el =>
   simp only [A4W]
   cases hq : (A29 T xt v && (T el).isSome) with
   | false => simp only [A0i, hk, hq]; rfl
   | true =>
    simp only [cond_true]
    cases hs : X0 T of el v with
    | none => simp only [A0i, hk, hq, hs]; rfl
    | some p =>
     obtain ⟨ns, ro⟩ := p
     simp only [ob]
     cases hl : Nat.ble ns.length LIM with
     | false => simp only [A0i, hk, hq, hs, hl]; rfl
     | true =>
      simp only [cond_true]
      cases u with
      | a id t1 path lo m =>
       simp only
       cases hk1 : D4 T t1 with
       | none => rfl
       | some k1 => cases k1 with
        | arr N el' =>
         cases ho : of id with
         | none => rfl
         | some o => cases o with
          | box t0 a sh => cases sh
                           ·simp only
                            cases ha : atA T a path with
                            | none => rfl
                            | some a1 => cases a1 with
                             | v t2 y =>
                              simp only
                              cases hb : (Nat.beq el el' && Nat.beq t1 t2) with
                              | false => rfl
                              | true =>
                               simp only [cond_true]
                               cases ns with
                               | nil =>
                                simp only [List.isEmpty_nil, cond_true, A0i, hk, hq, hs, hl, if_true]
                                cases X0 T of el (.a id t1 path lo m) <;> rfl
                               | cons n0 nr =>
                                simp only [List.isEmpty_cons, cond_false, A0i, hk, hq, hs, hl, hk1, ho, ha, hb, if_true, Bool.true_and]
                                cases Nat.ble (n0 :: nr).length m <;> cases Nat.ble (lo + m) N <;> try rfl
                                simp only [Bool.true_and, cond_true, if_true]
                                cases A2E T a path (.v t1 (.l (Y6 y.els lo (n0 :: nr)))) <;> rfl
                             | _ => rfl
                           ·rfl
          | _ => rfl
        | _ => rfl
      | _ => rfl
  | _ => simp only [A0i, hk]; rfl
end Go.Vm
end