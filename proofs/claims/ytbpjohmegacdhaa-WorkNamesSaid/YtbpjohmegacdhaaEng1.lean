/- What the steps of a program do, shown once for all programs; and numbers. -/
import Derived.Orders
import Derived.Tactics
import Derived.Below
namespace Go.Eng
open Go.RowKit

/-- What the engine knows of a value. -/
inductive AV where
  | junk
  | pl (v : Value)
  | ar (n : Nat) (l : List AV)
  | ag (l : List AV)
  | tu (l : List AV)
  | sl (d : List AV) (rows : List (List AV))
  | ow (id ver off n z : Nat)
  | pt (id off : Nat)
  | pe (id off n : Nat) (i : Int)
  | re (id ver z : Nat) (i : Int) (off : Nat)
  | bs (id off n lo m : Nat)
  | rp (l : List AV)
  | em
  deriving Inhabited

def one : Value → Bool
  | .agg _ | .tuple _ => false
  | _ => true

/-- How many cells a piece takes. -/
def wid1 : AV → Nat
  | .ar n _ => n
  | _ => 1
def wid : List AV → Nat
  | [] => 0
  | c :: r => wid1 c + wid r
theorem wid_append (a b : List AV) : wid (a ++ b) = wid a + wid b := by
  induction a with
  | nil => simp [wid]
  | cons c r ih => simp only [List.cons_append, wid, ih]; omega

/-- Behind so many cells (they end where a piece ends). -/
def dropW : Nat → List AV → Option (List AV)
  | 0, l => some l
  | _ + 1, [] => none
  | k + 1, c :: r => if wid1 c ≤ k + 1 then dropW (k + 1 - wid1 c) r else none
/-- The first so many cells (likewise). -/
def takeW : Nat → List AV → Option (List AV)
  | 0, _ => some []
  | _ + 1, [] => none
  | k + 1, c :: r => if wid1 c ≤ k + 1 then (takeW (k + 1 - wid1 c) r).map (c :: ·) else none
/-- Written over. -/
def setW : Nat → List AV → List AV → Option (List AV)
  | 0, new, l => (dropW (wid new) l).map (new ++ ·)
  | _ + 1, _, [] => none
  | k + 1, new, c :: r => if wid1 c ≤ k + 1 then (setW (k + 1 - wid1 c) new r).map (c :: ·) else none

theorem dropW_spec : ∀ (k : Nat) (l l' : List AV), dropW k l = some l' → ∃ a, l = a ++ l' ∧ wid a = k := by
  intro k l
  induction l generalizing k with
  | nil =>
    intro l' h
    cases k with
    | zero => simp [dropW] at h; exact ⟨[], by simp [h], rfl⟩
    | succ k => simp [dropW] at h
  | cons c r ih =>
    intro l' h
    cases k with
    | zero => simp [dropW] at h; exact ⟨[], by simp [h], rfl⟩
    | succ k =>
      simp only [dropW] at h
      split at h
      · rename_i hw
        obtain ⟨a, ha, hk⟩ := ih _ _ h
        exact ⟨c :: a, by simp [ha], by simp only [wid]; omega⟩
      · cases h
theorem takeW_spec : ∀ (k : Nat) (l l' : List AV), takeW k l = some l' → ∃ b, l = l' ++ b ∧ wid l' = k := by
  intro k l
  induction l generalizing k with
  | nil =>
    intro l' h
    cases k with
    | zero => simp [takeW] at h; subst h; exact ⟨[], rfl, rfl⟩
    | succ k => simp [takeW] at h
  | cons c r ih =>
    intro l' h
    cases k with
    | zero => simp [takeW] at h; subst h; exact ⟨_, rfl, rfl⟩
    | succ k =>
      simp only [takeW] at h
      split at h
      · rename_i hw
        cases hr : takeW (k + 1 - wid1 c) r with
        | none => simp [hr] at h
        | some q =>
          simp [hr] at h
          obtain ⟨b, hb, hk⟩ := ih _ _ hr
          subst h
          exact ⟨b, by simp [hb], by simp only [wid]; omega⟩
      · cases h
theorem setW_spec : ∀ (l : List AV) (off : Nat) (new l' : List AV), setW off new l = some l' → ∃ a m b, l = a ++ m ++ b ∧ wid a = off ∧ wid m = wid new ∧ l' = a ++ new ++ b := by
  intro l
  induction l with
  | nil =>
    intro off new l' h
    cases off with
    | zero =>
      simp only [setW, Option.map_eq_some_iff] at h
      obtain ⟨b, hb, rfl⟩ := h
      obtain ⟨m, hm, hw⟩ := dropW_spec _ _ _ hb
      exact ⟨[], m, b, by simpa using hm, rfl, hw, by simp⟩
    | succ k => simp [setW] at h
  | cons c r ih =>
    intro off new l' h
    cases off with
    | zero =>
      simp only [setW, Option.map_eq_some_iff] at h
      obtain ⟨b, hb, rfl⟩ := h
      obtain ⟨m, hm, hw⟩ := dropW_spec _ _ _ hb
      exact ⟨[], m, b, by simpa using hm, rfl, hw, by simp⟩
    | succ k =>
      simp only [setW] at h
      split at h
      · rename_i hle
        simp only [Option.map_eq_some_iff] at h
        obtain ⟨q, hq, rfl⟩ := h
        obtain ⟨a, m, b, h1, h2, h3, h4⟩ := ih _ _ _ hq
        exact ⟨c :: a, m, b, by simp [h1], by simp only [wid]; omega, h3, by simp [h4]⟩
      · cases h

/-- Where things lie; what may not be written any more; which version of an object is the newest (a box has version 0, a row has later ones); which numbers of objects are in use. -/
structure Env where
  w : World
  ι : Nat → Option (Nat × Nat)
  S : Nat → Nat → Prop
  bn : Nat → Nat
  U : Nat → Prop
def World.len (w : World) (b : Nat) : Nat :=
  match w.heap[b]? with
  | some (.cells cs _ _) => cs.size
  | _ => 0

/-- A piece of one cell. -/
def scalar : AV → Bool
  | .ar _ _ | .ag _ | .tu _ => false
  | _ => true

/-- Cells xs are what the pieces say. -/
inductive RepL (e : Env) : List AV → List Value → Prop
  | nil : RepL e [] []
  | junk {r xs} (x : Value) : one x = true → RepL e r xs → RepL e (.junk :: r) (x :: xs)
  | pl {r xs v} : one v = true → RepL e r xs → RepL e (.pl v :: r) (v :: xs)
  | ar {r xs n l ys} : RepL e l ys → ys.length = n ∧ (∀ v ∈ l, scalar v = true) → RepL e r xs → RepL e (.ar n l :: r) (ys ++ xs)
  | sl {r xs d rows ys a cap} : 0 < wid d → RepL e rows.flatten ys → (∀ ro ∈ rows, wid ro = wid d) → a.spot = none → rows.length ≤ cap →
      (∀ j y, ys[j]? = some y → e.w.cell? (a.add j) = some y ∧ e.S a.block (a.off + j)) → RepL e r xs → RepL e (.sl d rows :: r) (.slice (some a) rows.length cap :: xs)
  | sl0 {r xs d A cap} : RepL e r xs → RepL e (.sl d [] :: r) (.slice A 0 cap :: xs)
  | ow {r xs id ver off n z cap b o k} : e.U id → 0 < ver → e.bn id = ver → e.ι id = some (b, o) → o + (off + cap) * z = World.len e.w b → n ≤ cap → 0 < z → (0 < cap → k = o + off * z) → RepL e r xs → RepL e (.ow id ver off n z :: r) (.slice (some ⟨b, k, none⟩) n cap :: xs)
  | ow0 {r xs id ver z} : e.U id → 0 < ver → e.bn id = ver → e.ι id = none → RepL e r xs → RepL e (.ow id ver 0 0 z :: r) (.slice none 0 0 :: xs)
  | owStale {r xs id ver off n z} (x : Value) : one x = true → e.U id → ver < e.bn id → RepL e r xs → RepL e (.ow id ver off n z :: r) (x :: xs)
  | pt {r xs id off b o} : e.U id → e.bn id = 0 → e.ι id = some (b, o) → RepL e r xs → RepL e (.pt id off :: r) (.pointer (some ⟨b, o + off, none⟩) :: xs)
  | pe {r xs id off} {n : Nat} {i : Int} {b o} : e.U id → e.bn id = 0 → e.ι id = some (b, o) → 0 ≤ i → i < (n : Int) → RepL e r xs → RepL e (.pe id off n i :: r) (.pointer (some ⟨b, o + off + i.toNat, none⟩) :: xs)
  | re {r xs id ver z} {i : Int} {off b o} : e.U id → 0 < ver → e.bn id = ver → e.ι id = some (b, o) → 0 ≤ i → RepL e r xs → RepL e (.re id ver z i off :: r) (.pointer (some ⟨b, o + i.toNat * z + off, none⟩) :: xs)
  | reStale {r xs id ver z} {i : Int} {off} (x : Value) : one x = true → e.U id → ver < e.bn id → RepL e r xs → RepL e (.re id ver z i off :: r) (x :: xs)
  | bs {r xs id off n lo m cap b o k} : e.U id → e.bn id = 0 → e.ι id = some (b, o) → lo + m ≤ n → m ≤ cap → (0 < cap → k = o + off + lo) → RepL e r xs → RepL e (.bs id off n lo m :: r) (.slice (some ⟨b, k, none⟩) m cap :: xs)
  | rp {r xs l ys a} : RepL e l ys → a.spot = none → (∀ j y, ys[j]? = some y → e.w.cell? (a.add j) = some y ∧ e.S a.block (a.off + j)) → RepL e r xs → RepL e (.rp l :: r) (.pointer (some a) :: xs)
  | em {r xs A} : RepL e r xs → RepL e (.em :: r) (.slice A 0 0 :: xs)

theorem RepL.length {e : Env} {l : List AV} {xs : List Value} (h : RepL e l xs) : xs.length = wid l := by
  induction h with
  | ar h1 h2 h3 ih1 ih2 => simp only [List.length_append, wid, wid1]; omega
  | _ => simp_all [wid, wid1] <;> omega

theorem RepL.append {e : Env} {l m : List AV} {xs ys : List Value} (h : RepL e l xs) (k : RepL e m ys) : RepL e (l ++ m) (xs ++ ys) := by
  induction h with
  | nil => exact k
  | ar h1 h2 h3 ih1 ih2 => rw [List.append_assoc]; exact .ar h1 h2 ih2
  | junk x hx _ ih => exact .junk x hx ih
  | pl h1 _ ih => exact .pl h1 ih
  | sl h1 h2 h3 h4 h5 h6 _ _ ih => exact .sl h1 h2 h3 h4 h5 h6 ih
  | sl0 _ ih => exact .sl0 ih
  | ow h0 h00 h1 h2 h3 h4 h5 h6 _ ih => exact .ow h0 h00 h1 h2 h3 h4 h5 h6 ih
  | ow0 h0 h00 h1 h2 _ ih => exact .ow0 h0 h00 h1 h2 ih
  | owStale x hx h0 h1 _ ih => exact .owStale x hx h0 h1 ih
  | pt h0 h00 h1 _ ih => exact .pt h0 h00 h1 ih
  | pe h0 h00 h1 h2 h3 _ ih => exact .pe h0 h00 h1 h2 h3 ih
  | re h0 h00 h1 h2 h3 _ ih => exact .re h0 h00 h1 h2 h3 ih
  | reStale x hx h0 h1 _ ih => exact .reStale x hx h0 h1 ih
  | bs h0 h00 h1 h2 h3 h4 _ ih => exact .bs h0 h00 h1 h2 h3 h4 ih
  | rp h1 h2 h3 _ _ ih => exact .rp h1 h2 h3 ih
  | em _ ih => exact .em ih

theorem RepL.split {e : Env} {m : List AV} : ∀ (l : List AV) {zs : List Value}, RepL e (l ++ m) zs → ∃ xs ys, zs = xs ++ ys ∧ RepL e l xs ∧ RepL e m ys := by
  intro l
  induction l with
  | nil => intro zs h; exact ⟨[], zs, rfl, .nil, h⟩
  | cons c r ih =>
    intro zs h
    rw [List.cons_append] at h
    cases h with
    | ar h1 h2 h3 => obtain ⟨xs, ys, rfl, a, b⟩ := ih h3; exact ⟨_ ++ xs, ys, by rw [List.append_assoc], .ar h1 h2 a, b⟩
    | junk x hx h3 => obtain ⟨xs, ys, rfl, a, b⟩ := ih h3; exact ⟨x :: xs, ys, rfl, .junk x hx a, b⟩
    | pl h1 h3 => obtain ⟨xs, ys, rfl, a, b⟩ := ih h3; exact ⟨_ :: xs, ys, rfl, .pl h1 a, b⟩
    | sl h1 h2 h4 h5 h6 h7 h3 => obtain ⟨xs, ys, rfl, a, b⟩ := ih h3; exact ⟨_ :: xs, ys, rfl, .sl h1 h2 h4 h5 h6 h7 a, b⟩
    | sl0 h3 => obtain ⟨xs, ys, rfl, a, b⟩ := ih h3; exact ⟨_ :: xs, ys, rfl, .sl0 a, b⟩
    | ow h0 h00 h1 h2 h4 h5 h6 h7 h3 => obtain ⟨xs, ys, rfl, a, b⟩ := ih h3; exact ⟨_ :: xs, ys, rfl, .ow h0 h00 h1 h2 h4 h5 h6 h7 a, b⟩
    | ow0 h0 h00 h1 h2 h3 => obtain ⟨xs, ys, rfl, a, b⟩ := ih h3; exact ⟨_ :: xs, ys, rfl, .ow0 h0 h00 h1 h2 a, b⟩
    | owStale x hx h0 h1 h3 => obtain ⟨xs, ys, rfl, a, b⟩ := ih h3; exact ⟨_ :: xs, ys, rfl, .owStale x hx h0 h1 a, b⟩
    | pt h0 h00 h1 h3 => obtain ⟨xs, ys, rfl, a, b⟩ := ih h3; exact ⟨_ :: xs, ys, rfl, .pt h0 h00 h1 a, b⟩
    | pe h0 h00 h1 h2 h4 h3 => obtain ⟨xs, ys, rfl, a, b⟩ := ih h3; exact ⟨_ :: xs, ys, rfl, .pe h0 h00 h1 h2 h4 a, b⟩
    | re h0 h00 h1 h2 h4 h3 => obtain ⟨xs, ys, rfl, a, b⟩ := ih h3; exact ⟨_ :: xs, ys, rfl, .re h0 h00 h1 h2 h4 a, b⟩
    | reStale x hx h0 h1 h3 => obtain ⟨xs, ys, rfl, a, b⟩ := ih h3; exact ⟨_ :: xs, ys, rfl, .reStale x hx h0 h1 a, b⟩
    | bs h0 h00 h1 h2 h4 h5 h3 => obtain ⟨xs, ys, rfl, a, b⟩ := ih h3; exact ⟨_ :: xs, ys, rfl, .bs h0 h00 h1 h2 h4 h5 a, b⟩
    | rp h1 h2 h4 h3 => obtain ⟨xs, ys, rfl, a, b⟩ := ih h3; exact ⟨_ :: xs, ys, rfl, .rp h1 h2 h4 a, b⟩
    | em h3 => obtain ⟨xs, ys, rfl, a, b⟩ := ih h3; exact ⟨_ :: xs, ys, rfl, .em a, b⟩

theorem RepL.drop {e : Env} {k : Nat} {l l' : List AV} {xs : List Value} (h : RepL e l xs) (hd : dropW k l = some l') : RepL e l' (xs.drop k) := by
  obtain ⟨a, rfl, hw⟩ := dropW_spec _ _ _ hd
  obtain ⟨ys, zs, rfl, h1, h2⟩ := h.split
  have : k = ys.length := by rw [h1.length]; exact hw.symm
  subst this
  simpa using h2
theorem RepL.take {e : Env} {k : Nat} {l l' : List AV} {xs : List Value} (h : RepL e l xs) (hd : takeW k l = some l') : RepL e l' (xs.take k) := by
  obtain ⟨a, rfl, hw⟩ := takeW_spec _ _ _ hd
  obtain ⟨ys, zs, rfl, h1, h2⟩ := h.split
  have : k = ys.length := by rw [h1.length]; exact hw.symm
  subst this
  simpa using h1
theorem RepL.set {e : Env} {k : Nat} {l new l' : List AV} {xs ns : List Value} (h : RepL e l xs) (hn : RepL e new ns) (hd : setW k new l = some l') :
    RepL e l' (xs.take k ++ ns ++ xs.drop (k + ns.length)) ∧ k + ns.length ≤ xs.length := by
  obtain ⟨a, m, b, rfl, h1, h2, rfl⟩ := setW_spec _ _ _ _ hd
  rw [List.append_assoc] at h
  obtain ⟨ys, zs, rfl, ha, hmb⟩ := h.split
  obtain ⟨us, vs, rfl, hm, hb⟩ := hmb.split
  have e1 : k = ys.length := by rw [ha.length]; exact h1.symm
  have e2 : ns.length = us.length := by rw [hn.length, hm.length]; exact h2.symm
  subst e1
  refine ⟨?_, by simp; omega⟩
  have : (ys ++ (us ++ vs)).drop (ys.length + ns.length) = vs := by rw [e2, ← List.append_assoc, ← List.length_append, List.drop_left]
  rw [this, List.take_left]
  exact (ha.append hn).append hb

/-- What was there is there still: nothing that must not be written was, and an object that has turned has a new version. -/
structure Env.le (e e' : Env) : Prop where
  S : ∀ b i, e.S b i → e'.S b i ∧ ∀ x, e.w.cell? ⟨b, i, none⟩ = some x → e'.w.cell? ⟨b, i, none⟩ = some x
  use : ∀ id, e.U id → e'.U id
  obj : ∀ id, e.U id → e'.bn id = e.bn id → e'.ι id = e.ι id ∧ ∀ b o, e.ι id = some (b, o) → World.len e'.w b = World.len e.w b
  box : ∀ id, e.U id → e.bn id = 0 → e'.bn id = 0
  up : ∀ id, e.U id → e.bn id ≤ e'.bn id
  grow : e.w.heap.size ≤ e'.w.heap.size
  keep : ∀ b, b < e.w.heap.size → World.len e'.w b = World.len e.w b
theorem Env.le.refl (e : Env) : e.le e := ⟨fun _ _ h => ⟨h, fun _ h => h⟩, fun _ h => h, fun _ _ _ => ⟨rfl, fun _ _ _ => rfl⟩, fun _ _ h => h, fun _ _ => Nat.le_refl _, Nat.le_refl _, fun _ _ => rfl⟩
theorem Env.le.trans {a b c : Env} (h : a.le b) (k : b.le c) : a.le c := by
  refine ⟨fun q i hs => ⟨(k.S _ _ (h.S _ _ hs).1).1, fun x hx => (k.S _ _ (h.S _ _ hs).1).2 _ ((h.S _ _ hs).2 _ hx)⟩, fun id hu => k.use _ (h.use _ hu), fun id hu he => ?_, fun id hu h0 => k.box _ (h.use _ hu) (h.box _ hu h0), fun id hu => Nat.le_trans (h.up _ hu) (k.up _ (h.use _ hu)), Nat.le_trans h.grow k.grow, fun b hb => (k.keep b (Nat.lt_of_lt_of_le hb h.grow)).trans (h.keep b hb)⟩
  have h1 := h.up id hu
  have h2 := k.up id (h.use _ hu)
  have e1 : b.bn id = a.bn id := by omega
  obtain ⟨p1, p2⟩ := h.obj id hu e1
  obtain ⟨q1, q2⟩ := k.obj id (h.use _ hu) (by omega)
  exact ⟨q1.trans p1, fun q o h0 => (q2 q o (by rw [p1]; exact h0)).trans (p2 q o h0)⟩
theorem cell_add {w : World} {a : Addr} {j : Nat} (h : a.spot = none) : w.cell? (a.add j) = w.cell? ⟨a.block, a.off + j, none⟩ := by
  obtain ⟨b, o, s⟩ := a
  simp only at h
  subst h
  unfold Addr.add
  split <;> simp_all
theorem RepL.mono {e e' : Env} (he : e.le e') {l : List AV} {xs : List Value} (h : RepL e l xs) : RepL e' l xs := by
  induction h with
  | nil => exact .nil
  | junk x hx _ ih => exact .junk x hx ih
  | pl h1 _ ih => exact .pl h1 ih
  | ar h1 h2 h3 ih1 ih2 => exact .ar ih1 h2 ih2
  | sl h1 h2 h3 h4 h5 h6 _ ih1 ih2 =>
    refine .sl h1 ih1 h3 h4 h5 (fun j y hj => ?_) ih2
    obtain ⟨p, q⟩ := h6 j y hj
    rw [cell_add h4] at p ⊢
    exact ⟨(he.S _ _ q).2 _ p, (he.S _ _ q).1⟩
  | sl0 _ ih => exact .sl0 ih
  | @ow r xs id ver off n z cap b o k h0 h00 h1 h2 h3 h4 h5 h6 _ ih =>
    by_cases hv : e'.bn id = e.bn id
    · obtain ⟨p, q⟩ := he.obj id h0 hv
      exact .ow (he.use _ h0) h00 (by omega) (by rw [p]; exact h2) (by rw [h3]; exact (q _ _ h2).symm) h4 h5 h6 ih
    · have := he.up id h0
      exact .owStale _ rfl (he.use _ h0) (by omega) ih
  | @ow0 r xs id ver z h0 h00 h1 h2 _ ih =>
    by_cases hv : e'.bn id = e.bn id
    · exact .ow0 (he.use _ h0) h00 (by omega) (by rw [(he.obj id h0 hv).1]; exact h2) ih
    · have := he.up id h0
      exact .owStale _ rfl (he.use _ h0) (by omega) ih
  | owStale x hx h0 h1 _ ih => exact .owStale x hx (he.use _ h0) (by have := he.up _ h0; omega) ih
  | pt h0 h00 h1 _ ih => exact .pt (he.use _ h0) (he.box _ h0 h00) (by rw [(he.obj _ h0 (by rw [he.box _ h0 h00, h00])).1]; exact h1) ih
  | pe h0 h00 h1 h2 h3 _ ih => exact .pe (he.use _ h0) (he.box _ h0 h00) (by rw [(he.obj _ h0 (by rw [he.box _ h0 h00, h00])).1]; exact h1) h2 h3 ih
  | bs h0 h00 h1 h2 h3 h4 _ ih => exact .bs (he.use _ h0) (he.box _ h0 h00) (by rw [(he.obj _ h0 (by rw [he.box _ h0 h00, h00])).1]; exact h1) h2 h3 h4 ih
  | @re r xs id ver z i off b o h0 h00 h1 h2 h3 _ ih =>
    by_cases hv : e'.bn id = e.bn id
    · exact .re (he.use _ h0) h00 (by omega) (by rw [(he.obj id h0 hv).1]; exact h2) h3 ih
    · have := he.up id h0
      exact .reStale _ rfl (he.use _ h0) (by omega) ih
  | reStale x hx h0 h1 _ ih => exact .reStale x hx (he.use _ h0) (by have := he.up _ h0; omega) ih
  | em _ ih => exact .em ih
  | rp h1 h2 h3 _ ih1 ih2 =>
    refine .rp ih1 h2 (fun j y hj => ?_) ih2
    obtain ⟨p, q⟩ := h3 j y hj
    rw [cell_add h2] at p ⊢
    exact ⟨(he.S _ _ q).2 _ p, (he.S _ _ q).1⟩

/-- A value. -/
def Rep1 (e : Env) : AV → Value → Prop
  | .junk, _ => True
  | .ag l, x => ∃ xs : Array Value, x = .agg xs ∧ RepL e l xs.toList
  | .tu _, _ => False
  | .ar _ _, _ => False
  | v, x => RepL e [v] [x]
def Rep (e : Env) : AV → Value → Prop
  | .tu l, x => ∃ xs : Array Value, x = .tuple xs ∧ xs.size = l.length ∧ ∀ (i : Nat) v x, l[i]? = some v → xs[i]? = some x → Rep1 e v x
  | v, x => Rep1 e v x
theorem Rep1.mono {e e' : Env} (he : e.le e') {v : AV} {x : Value} (h : Rep1 e v x) : Rep1 e' v x := by
  cases v <;> simp only [Rep1] at h ⊢ <;> first | exact h.mono he | (obtain ⟨xs, h1, h2⟩ := h; exact ⟨xs, h1, h2.mono he⟩)
theorem Rep.mono {e e' : Env} (he : e.le e') {v : AV} {x : Value} (h : Rep e v x) : Rep e' v x := by
  cases v <;> simp only [Rep] at h ⊢ <;> first | exact h.mono he | skip
  obtain ⟨xs, h1, h2, h3⟩ := h
  exact ⟨xs, h1, h2, fun i v x a b => (h3 i v x a b).mono he⟩
theorem RepL.one {e : Env} {l : List AV} {xs : List Value} (h : RepL e l xs) : ∀ x ∈ xs, one x = true := by
  induction h with
  | nil => intro x hx; cases hx
  | ar h1 h2 h3 ih1 ih2 => intro x hx; rcases List.mem_append.1 hx with hx | hx; exact ih1 x hx; exact ih2 x hx
  | junk y hy _ ih => intro x hx; rcases List.mem_cons.1 hx with rfl | hx; exact hy; exact ih x hx
  | pl h1 _ ih => intro x hx; rcases List.mem_cons.1 hx with rfl | hx; exact h1; exact ih x hx
  | sl _ _ _ _ _ _ _ _ ih => intro x hx; rcases List.mem_cons.1 hx with rfl | hx; rfl; exact ih x hx
  | sl0 _ ih => intro x hx; rcases List.mem_cons.1 hx with rfl | hx; rfl; exact ih x hx
  | ow _ _ _ _ _ _ _ _ _ ih => intro x hx; rcases List.mem_cons.1 hx with rfl | hx; rfl; exact ih x hx
  | ow0 _ _ _ _ _ ih => intro x hx; rcases List.mem_cons.1 hx with rfl | hx; rfl; exact ih x hx
  | owStale y hy _ _ _ ih => intro x hx; rcases List.mem_cons.1 hx with rfl | hx; exact hy; exact ih x hx
  | pt _ _ _ _ ih => intro x hx; rcases List.mem_cons.1 hx with rfl | hx; rfl; exact ih x hx
  | pe _ _ _ _ _ _ ih => intro x hx; rcases List.mem_cons.1 hx with rfl | hx; rfl; exact ih x hx
  | re _ _ _ _ _ _ ih => intro x hx; rcases List.mem_cons.1 hx with rfl | hx; rfl; exact ih x hx
  | reStale y hy _ _ _ ih => intro x hx; rcases List.mem_cons.1 hx with rfl | hx; exact hy; exact ih x hx
  | bs _ _ _ _ _ _ _ ih => intro x hx; rcases List.mem_cons.1 hx with rfl | hx; rfl; exact ih x hx
  | rp _ _ _ _ _ ih => intro x hx; rcases List.mem_cons.1 hx with rfl | hx; rfl; exact ih x hx
  | em _ ih => intro x hx; rcases List.mem_cons.1 hx with rfl | hx; rfl; exact ih x hx
end Go.Eng

namespace Go.Eng
open Go.RowKit

/-- What the engine knows of an object of the call's own: a box (a variable, all its cells), or a row behind slices (its first cells; there may be more of them). 'sh': may somebody else read it? -/
inductive Obj where
  | box (l : List AV) (sh : Bool)
  | row (d : List AV) (ver : Nat) (rows : List (List AV)) (sh : Bool)
  deriving Inhabited

def free (w : World) (b : Nat) (cs : Array Value) : Prop := ∀ i, i < cs.size → w.frozen? ⟨b, i, none⟩ = false

def OK (e : Env) (id : Nat) : Obj → Prop
  | .box l sh => e.U id ∧ e.bn id = 0 ∧ ∃ b cs t fz, e.ι id = some (b, 0) ∧ e.w.heap[b]? = some (.cells cs t fz) ∧ free e.w b cs ∧ RepL e l cs.toList ∧ (sh = false → ∀ i, ¬ e.S b i)
  | .row d ver rows sh => e.U id ∧ 0 < ver ∧ e.bn id = ver ∧ 0 < wid d ∧ (∀ r ∈ rows, wid r = wid d) ∧
      ((e.ι id = none ∧ rows = []) ∨
       ∃ b o cs t fz pre ys post, e.ι id = some (b, o) ∧ e.w.heap[b]? = some (.cells cs t fz) ∧ free e.w b cs ∧ cs.toList = pre ++ ys ++ post ∧ pre.length = o ∧ RepL e rows.flatten ys ∧
         (∀ i, o + ys.length ≤ i → ¬ e.S b i) ∧ (sh = false → ∀ i, o ≤ i → ¬ e.S b i))

/-- How the call began: the world; which of its blocks may be written (those of objects that were handed in). -/
structure Ctx where
  w0 : World
  M : Nat → Prop
  S0 : Nat → Nat → Prop

structure OSim (c : Ctx) (e : Env) (ob : Nat → Option Obj) : Prop where
  ok : ∀ id o, ob id = some o → OK e id o
  sep : ∀ id id' b o b' o', (ob id).isSome → (ob id').isSome → e.ι id = some (b, o) → e.ι id' = some (b', o') → id ≠ id' → b ≠ b'
  own : ∀ id b o, (ob id).isSome → e.ι id = some (b, o) → c.w0.heap.size ≤ b ∨ c.M b
  lt : ∀ id b o, e.U id → e.ι id = some (b, o) → b < e.w.heap.size
  slt : ∀ b i, e.S b i → b < e.w.heap.size
  s0 : ∀ b i, c.S0 b i → e.S b i
  snew : ∀ b i, e.S b i → c.S0 b i ∨ c.w0.heap.size ≤ b ∨ c.M b
  os : e.w.os = c.w0.os
  tape : e.w.tape = c.w0.tape
  output : e.w.output = c.w0.output
  size : c.w0.heap.size ≤ e.w.heap.size
  block : ∀ k, k < c.w0.heap.size → ¬ c.M k → e.w.heap[k]? = c.w0.heap[k]?

theorem frozen_of_heap {w w' : World} {b i : Nat} {s : Option Nat} (h : w'.heap[b]? = w.heap[b]?) : w'.frozen? ⟨b, i, s⟩ = w.frozen? ⟨b, i, s⟩ := by
  simp [World.frozen?, h]
theorem cell_of_heap {w w' : World} {b i : Nat} {s : Option Nat} (h : w'.heap[b]? = w.heap[b]?) : w'.cell? ⟨b, i, s⟩ = w.cell? ⟨b, i, s⟩ := by
  simp [World.cell?, h]
theorem len_of_heap {w w' : World} {b : Nat} (h : w'.heap[b]? = w.heap[b]?) : World.len w' b = World.len w b := by
  simp [World.len, h]

/-- An object whose block has not turned, and of whose cells no more are shared, is as it was. -/
theorem OK.keep {e e' : Env} {id : Nat} {o : Obj} (h : OK e id o) (he : e.le e') (hb : e'.bn id = e.bn id)
    (hk : ∀ b o', e.ι id = some (b, o') → e'.w.heap[b]? = e.w.heap[b]?) (hs : ∀ b o' i, e.ι id = some (b, o') → e'.S b i → e.S b i) : OK e' id o := by
  cases o with
  | box l sh =>
    obtain ⟨h1, h2, b, cs, t, fz, h3, h4, h5, h6, h7⟩ := h
    refine ⟨he.use _ h1, by omega, b, cs, t, fz, by rw [(he.obj _ h1 hb).1]; exact h3, by rw [hk _ _ h3]; exact h4, fun i hi => by rw [frozen_of_heap (hk _ _ h3)]; exact h5 i hi, h6.mono he, fun hh i hc => h7 hh i (hs _ _ _ h3 hc)⟩
  | row d ver rows sh =>
    obtain ⟨h1, h2, h3, h4, h5, h6⟩ := h
    refine ⟨he.use _ h1, h2, by omega, h4, h5, ?_⟩
    rcases h6 with ⟨p, q⟩ | ⟨b, o, cs, t, fz, pre, ys, post, g1, g2, g3, g4, g5, g6, g7, g8⟩
    · exact .inl ⟨by rw [(he.obj _ h1 hb).1]; exact p, q⟩
    · exact .inr ⟨b, o, cs, t, fz, pre, ys, post, by rw [(he.obj _ h1 hb).1]; exact g1, by rw [hk _ _ g1]; exact g2, fun i hi => by rw [frozen_of_heap (hk _ _ g1)]; exact g3 i hi, g4, g5, g6.mono he, fun i hi hc => g7 i hi (hs _ _ _ g1 hc), fun hh i hi hc => g8 hh i hi (hs _ _ _ g1 hc)⟩
theorem OK.use {e : Env} {id : Nat} {o : Obj} (h : OK e id o) : e.U id := by cases o <;> exact h.1

def upd {α : Type} (f : Nat → α) (i : Nat) (x : α) : Nat → α := fun j => if j = i then x else f j
@[simp] theorem upd_same {α : Type} (f : Nat → α) (i : Nat) (x : α) : upd f i x i = x := by simp [upd]
theorem upd_ne {α : Type} (f : Nat → α) {i j : Nat} (x : α) (h : j ≠ i) : upd f i x j = f j := by simp [upd, h]

/-! ### A new block, as a new object -/
section
variable {c : Ctx} {e : Env} {ob : Nat → Option Obj}
def Env.new (e : Env) (id ver : Nat) (cs : Array Value) (t : TypeId) (fz : Nat × Nat) : Env :=
  { w := e.w.alloc (.cells cs t fz), ι := upd e.ι id (some (e.w.heap.size, 0)), S := e.S, bn := upd e.bn id ver, U := fun j => j = id ∨ e.U j }
theorem alloc_old (w : World) (o : Go.Obj) {k : Nat} (h : k < w.heap.size) : (w.alloc o).heap[k]? = w.heap[k]? := Below.heap_alloc w o k h
theorem alloc_new (w : World) (o : Go.Obj) : (w.alloc o).heap[w.heap.size]? = some o := by show (w.heap.push o)[_]? = _; simp
theorem size_alloc (w : World) (o : Go.Obj) : (w.alloc o).heap.size = w.heap.size + 1 := by show (w.heap.push o).size = _; simp

theorem OSim.le_new (h : OSim c e ob) {id : Nat} (hu : ¬ e.U id) (ver : Nat) (cs : Array Value) (t : TypeId) (fz : Nat × Nat) : e.le (e.new id ver cs t fz) := by
  refine ⟨fun b i hs => ⟨hs, fun x hx => ?_⟩, fun _ hj => .inr hj, fun j hj _ => ?_, fun j hj h0 => ?_, fun j hj => ?_, by show _ ≤ (e.w.alloc _).heap.size; rw [size_alloc]; omega, fun b hb => len_of_heap (alloc_old _ _ hb)⟩
  · rw [← hx]; exact cell_of_heap (alloc_old _ _ (h.slt _ _ hs))
  · have hne : j ≠ id := fun e => hu (e ▸ hj)
    exact ⟨upd_ne _ _ hne, fun b o hb => len_of_heap (alloc_old _ _ (h.lt _ _ _ hj hb))⟩
  · have hne : j ≠ id := fun e => hu (e ▸ hj)
    show upd e.bn id ver j = 0
    rw [upd_ne _ _ hne]; exact h0
  · have hne : j ≠ id := fun e => hu (e ▸ hj)
    show _ ≤ upd e.bn id ver j
    rw [upd_ne _ _ hne]; exact Nat.le_refl _

theorem OSim.new (h : OSim c e ob) {id : Nat} (hu : ¬ e.U id) {ver : Nat} {cs : Array Value} {t : TypeId} {fz : Nat × Nat} {o : Obj} (ho : OK (e.new id ver cs t fz) id o) :
    OSim c (e.new id ver cs t fz) (upd ob id (some o)) := by
  have hle := h.le_new hu ver cs t fz
  have hnone : ob id = none := by
    cases hob : ob id with
    | none => rfl
    | some x => exact absurd (h.ok _ _ hob).use hu
  have ιne : ∀ j, j ≠ id → (e.new id ver cs t fz).ι j = e.ι j := fun j hj => upd_ne _ _ hj
  have obne : ∀ j, j ≠ id → upd ob id (some o) j = ob j := fun j hj => upd_ne _ _ hj
  have old : ∀ j b q, (ob j).isSome → e.ι j = some (b, q) → b < e.w.heap.size := fun j b q hj hb => by
    obtain ⟨x, hx⟩ := Option.isSome_iff_exists.1 hj
    exact h.lt _ _ _ (h.ok _ _ hx).use hb
  refine ⟨fun j x hj => ?_, fun j k b q b' q' hj hk hb hb' hne => ?_, fun j b q hj hb => ?_, fun j b q hj hb => ?_, fun b i hs => ?_, h.s0, h.snew, h.os, h.tape, h.output, ?_, fun k hk hm => ?_⟩
  · by_cases he : j = id
    · subst he; rw [upd_same] at hj; cases hj; exact ho
    · rw [obne _ he] at hj
      exact (h.ok _ _ hj).keep hle (upd_ne _ _ he) (fun b q hb => alloc_old _ _ (old _ _ _ (by rw [hj]; rfl) hb)) (fun _ _ _ _ hs => hs)
  · by_cases h1 : j = id
    · subst h1
      have hk' : k ≠ j := Ne.symm hne
      rw [obne _ hk'] at hk; rw [ιne _ hk'] at hb'
      have := old _ _ _ hk hb'
      have hb1 : (e.w.heap.size, 0) = (b, q) := by simpa [Env.new] using hb
      cases hb1; omega
    · by_cases h2 : k = id
      · subst h2
        rw [obne _ h1] at hj; rw [ιne _ h1] at hb
        have := old _ _ _ hj hb
        have hb1 : (e.w.heap.size, 0) = (b', q') := by simpa [Env.new] using hb'
        cases hb1; omega
      · rw [obne _ h1] at hj; rw [obne _ h2] at hk; rw [ιne _ h1] at hb; rw [ιne _ h2] at hb'
        exact h.sep _ _ _ _ _ _ hj hk hb hb' hne
  · by_cases h1 : j = id
    · subst h1
      have hb1 : (e.w.heap.size, 0) = (b, q) := by simpa [Env.new] using hb
      cases hb1; exact .inl h.size
    · rw [obne _ h1] at hj; rw [ιne _ h1] at hb
      exact h.own _ _ _ hj hb
  · have hsz : (e.new id ver cs t fz).w.heap.size = e.w.heap.size + 1 := size_alloc _ _
    rw [hsz]
    by_cases h1 : j = id
    · subst h1
      have hb1 : (e.w.heap.size, 0) = (b, q) := by simpa [Env.new] using hb
      cases hb1; omega
    · rw [ιne _ h1] at hb
      rcases hj with hj | hj
      · exact absurd hj h1
      · have := h.lt _ _ _ hj hb; omega
  · have := h.slt _ _ hs
    show b < (e.w.alloc _).heap.size
    rw [size_alloc]; omega
  · show _ ≤ (e.w.alloc _).heap.size
    rw [size_alloc]; have := h.size; omega
  · exact (alloc_old _ _ (by have := h.size; omega)).trans (h.block k hk hm)
end

/-! ### An object turns -/
section
variable {c : Ctx} {e e' : Env} {ob : Nat → Option Obj} {id : Nat} {o o' : Obj}
theorem OSim.turn (h : OSim c e ob) (hob : ob id = some o) (hle : e.le e')
    (hι : ∀ j, j ≠ id → e'.ι j = e.ι j) (hbn : ∀ j, j ≠ id → e'.bn j = e.bn j) (hU : ∀ j, e'.U j → e.U j)
    (hb : ∀ k, k < e.w.heap.size → (∀ q, e.ι id ≠ some (k, q)) → e'.w.heap[k]? = e.w.heap[k]?)
    (hsz : e.w.heap.size ≤ e'.w.heap.size)
    (hS : ∀ k i, e'.S k i → e.S k i ∨ ∃ q, e.ι id = some (k, q))
    (hnew : ∀ b q, e'.ι id = some (b, q) → (∃ q0, e.ι id = some (b, q0)) ∨ (e.w.heap.size ≤ b ∧ b < e'.w.heap.size))
    (hos : e'.w.os = e.w.os) (htape : e'.w.tape = e.w.tape) (hout : e'.w.output = e.w.output)
    (ho : OK e' id o') : OSim c e' (upd ob id (some o')) := by
  have hsome : (ob id).isSome := by rw [hob]; rfl
  have hu : e.U id := (h.ok _ _ hob).use
  have obne : ∀ j, j ≠ id → upd ob id (some o') j = ob j := fun j hj => upd_ne _ _ hj
  have old : ∀ j b q, (ob j).isSome → e.ι j = some (b, q) → b < e.w.heap.size := fun j b q hj hb => by
    obtain ⟨x, hx⟩ := Option.isSome_iff_exists.1 hj
    exact h.lt _ _ _ (h.ok _ _ hx).use hb
  refine ⟨fun j x hj => ?_, fun j k b q b' q' hj hk hb1 hb2 hne => ?_, fun j b q hj hb1 => ?_, fun j b q hj hb1 => ?_, fun b i hs => ?_, fun b i hs => (hle.S _ _ (h.s0 _ _ hs)).1, fun b i hs => ?_, hos.trans h.os, htape.trans h.tape, hout.trans h.output, Nat.le_trans h.size hsz, fun k hk hm => ?_⟩
  · by_cases he : j = id
    · subst he; rw [upd_same] at hj; cases hj; exact ho
    · rw [obne _ he] at hj
      have hj' : (ob j).isSome := by rw [hj]; rfl
      refine (h.ok _ _ hj).keep hle (hbn _ he) (fun b q hq => hb _ (old _ _ _ hj' hq) (fun q' hq' => ?_)) (fun b q i hq hs => ?_)
      · exact absurd rfl (h.sep _ _ _ _ _ _ hj' hsome hq hq' he)
      · rcases hS _ _ hs with hs | ⟨q', hq'⟩
        · exact hs
        · exact absurd rfl (h.sep _ _ _ _ _ _ hj' hsome hq hq' he)
  · by_cases h1 : j = id
    · subst h1
      have hk' : k ≠ j := Ne.symm hne
      rw [obne _ hk'] at hk; rw [hι _ hk'] at hb2
      rcases hnew _ _ hb1 with ⟨q0, h0⟩ | ⟨h0, _⟩
      · exact h.sep _ _ _ _ _ _ hsome hk h0 hb2 hne
      · have := old _ _ _ hk hb2; omega
    · by_cases h2 : k = id
      · subst h2
        rw [obne _ h1] at hj; rw [hι _ h1] at hb1
        rcases hnew _ _ hb2 with ⟨q0, h0⟩ | ⟨h0, _⟩
        · exact h.sep _ _ _ _ _ _ hj hsome hb1 h0 hne
        · have := old _ _ _ hj hb1; omega
      · rw [obne _ h1] at hj; rw [obne _ h2] at hk; rw [hι _ h1] at hb1; rw [hι _ h2] at hb2
        exact h.sep _ _ _ _ _ _ hj hk hb1 hb2 hne
  · by_cases h1 : j = id
    · subst h1
      rcases hnew _ _ hb1 with ⟨q0, h0⟩ | ⟨h0, _⟩
      · exact h.own _ _ _ hsome h0
      · have := h.size; exact .inl (by omega)
    · rw [obne _ h1] at hj; rw [hι _ h1] at hb1
      exact h.own _ _ _ hj hb1
  · by_cases h1 : j = id
    · subst h1
      rcases hnew _ _ hb1 with ⟨q0, h0⟩ | ⟨_, h0⟩
      · have := h.lt _ _ _ hu h0; omega
      · exact h0
    · rw [hι _ h1] at hb1
      have := h.lt _ _ _ (hU _ hj) hb1; omega
  · rcases hS _ _ hs with hs | ⟨q, hq⟩
    · have := h.slt _ _ hs; omega
    · have := h.lt _ _ _ hu hq; omega
  · rcases hS _ _ hs with hs | ⟨q, hq⟩
    · exact h.snew _ _ hs
    · exact .inr (h.own _ _ _ hsome hq)
  · refine (hb k (by have := h.size; omega) (fun q hq => ?_)).trans (h.block k hk hm)
    rcases h.own _ _ _ hsome hq with h0 | h0
    · omega
    · exact hm h0
end

/-! ### Stores -/
theorem setCell_heap_ne (w : World) (p : Addr) (u : Value) {k : Nat} (h : k ≠ p.block) : (w.setCell p u).heap[k]? = w.heap[k]? := Below.heap_setCell w p u k h
theorem setCell_size (w : World) (p : Addr) (u : Value) : (w.setCell p u).heap.size = w.heap.size := by simp [World.setCell]
theorem setCell_heap_eq {w : World} {b i : Nat} {cs : Array Value} {t : TypeId} {fz : Nat × Nat} (u : Value) (h : w.heap[b]? = some (.cells cs t fz)) :
    (w.setCell ⟨b, i, none⟩ u).heap[b]? = some (.cells (cs.setIfInBounds i u) t fz) := by
  simp [World.setCell, Array.getElem?_modify, h]
/-- Several cells, one behind the other. -/
def setCells (w : World) (b : Nat) : Nat → List Value → World
  | _, [] => w
  | i, u :: us => setCells (w.setCell ⟨b, i, none⟩ u) b (i + 1) us
theorem setCells_heap_ne (us : List Value) : ∀ (w : World) (b i : Nat) {k : Nat}, k ≠ b → (setCells w b i us).heap[k]? = w.heap[k]? := by
  induction us with
  | nil => intro w b i k _; rfl
  | cons u us ih => intro w b i k h; exact (ih _ _ _ h).trans (setCell_heap_ne _ _ _ h)
theorem setCells_size (us : List Value) : ∀ (w : World) (b i : Nat), (setCells w b i us).heap.size = w.heap.size := by
  induction us with
  | nil => intro w b i; rfl
  | cons u us ih => intro w b i; exact (ih _ _ _).trans (setCell_size _ _ _)
theorem setCells_os (us : List Value) : ∀ (w : World) (b i : Nat), (setCells w b i us).os = w.os ∧ (setCells w b i us).tape = w.tape ∧ (setCells w b i us).output = w.output := by
  induction us with
  | nil => intro w b i; exact ⟨rfl, rfl, rfl⟩
  | cons u us ih => intro w b i; exact ih (w.setCell ⟨b, i, none⟩ u) b (i + 1)
theorem setCells_heap_eq (us : List Value) : ∀ {w : World} {b i : Nat} {cs : Array Value} {t : TypeId} {fz : Nat × Nat}, w.heap[b]? = some (.cells cs t fz) → i + us.length ≤ cs.size →
    ∃ cs' : Array Value, (setCells w b i us).heap[b]? = some (.cells cs' t fz) ∧ cs'.toList = cs.toList.take i ++ us ++ cs.toList.drop (i + us.length) := by
  induction us with
  | nil => intro w b i cs t fz h _; exact ⟨cs, h, by simp⟩
  | cons u us ih =>
    intro w b i cs t fz h hl
    simp only [List.length_cons] at hl
    obtain ⟨cs', h1, h2⟩ := ih (i := i + 1) (setCell_heap_eq (i := i) u h) (by simp; omega)
    refine ⟨cs', h1, h2.trans ?_⟩
    have hlt : i < cs.toList.length := by simp; omega
    have hti : (cs.toList.take i).length = i := by rw [List.length_take]; omega
    have e1 : (cs.toList.take i ++ u :: cs.toList.drop (i + 1)).take (i + 1) = cs.toList.take i ++ [u] := by
      rw [List.take_append, hti, List.take_of_length_le (by omega), show i + 1 - i = 1 from by omega]; rfl
    have e2 : (cs.toList.take i ++ u :: cs.toList.drop (i + 1)).drop (i + 1 + us.length) = cs.toList.drop (i + (us.length + 1)) := by
      rw [List.drop_append, hti, List.drop_of_length_le (by omega), show i + 1 + us.length - i = us.length + 1 from by omega, List.drop_succ_cons, List.drop_drop, List.nil_append]
      congr 1
      omega
    rw [Array.toList_setIfInBounds, List.set_eq_take_append_cons_drop, if_pos hlt, e1, e2]
    simp
end Go.Eng

namespace Go.Eng
open Go.RowKit

/-! ### Types -/
inductive TK where
  | int (k : IntKind) | bool | str | ptr (e : Nat) | slice (e : Nat) | arr (n e : Nat) | struct (fs : List (Nat × Nat)) | map (k e : Nat) | other
structure TE where
  k : TK
  size : Nat
  bytes : Nat
  zero : List AV
  eq : Bool := false
def TK.agg : TK → Bool
  | .arr _ _ | .struct _ => true
  | _ => false
def TK.fits : TK → TypeDesc → Prop
  | .int k, .int k' => k = k'
  | .bool, .bool => True
  | .str, .string => True
  | .ptr e, .pointer e' => e = e'
  | .slice e, .slice e' => e = e'
  | .arr n e, .array n' e' => n = n' ∧ e = e'
  | .struct fs, .struct gs => gs.toList.map (fun f => (f.offset, f.type)) = fs
  | .map k e, .map k' e' => k = k' ∧ e = e'
  | .other, d => (∀ gs, d ≠ .struct gs) ∧ ∀ n e, d ≠ .array n e
  | _, _ => False
abbrev TT := Nat → Option TE
/-- Pieces without objects: their cells. -/
def flat1 : AV → Option (List Value)
  | .pl v => if one v then some [v] else none
  | _ => none
def flatS : List AV → Option (List Value)
  | [] => some []
  | c :: r => match flat1 c, flatS r with
    | some a, some b => some (a ++ b)
    | _, _ => none
def flat : List AV → Option (List Value)
  | [] => some []
  | .ar n l :: r => match flatS l, flat r with
    | some a, some b => if a.length = n then some (a ++ b) else none
    | _, _ => none
  | c :: r => match flat1 c, flat r with
    | some a, some b => some (a ++ b)
    | _, _ => none
theorem flatS_scalar : ∀ (l : List AV) (xs : List Value), flatS l = some xs → ∀ v ∈ l, scalar v = true := by
  intro l
  induction l with
  | nil => intro xs _ v hv; cases hv
  | cons c r ih =>
    intro xs h v hv
    simp only [flatS] at h
    split at h
    · rename_i a b ha hb
      rcases List.mem_cons.1 hv with rfl | hv
      · cases v <;> first | rfl | (simp [flat1] at ha; done)
      · exact ih _ hb v hv
    · cases h
theorem flatS_spec (e : Env) : ∀ (l : List AV) (xs : List Value), flatS l = some xs → RepL e l xs := by
  intro l
  induction l with
  | nil => intro xs h; simp [flatS] at h; subst h; exact .nil
  | cons c r ih =>
    intro xs h
    simp only [flatS] at h
    split at h
    · rename_i a b ha hb
      injection h with h
      subst h
      cases c <;> simp only [flat1] at ha <;> try (cases ha)
      split at ha
      · rename_i ho; injection ha with ha; subst ha; exact .pl ho (ih _ hb)
      · cases ha
    · cases h
theorem flat_spec (e : Env) : ∀ (l : List AV) (xs : List Value), flat l = some xs → RepL e l xs := by
  intro l
  induction l with
  | nil => intro xs h; simp [flat] at h; subst h; exact .nil
  | cons c r ih =>
    intro xs h
    cases c with
    | ar n m =>
      simp only [flat] at h
      split at h
      · rename_i a b ha hb
        split at h
        · rename_i hn; injection h with h; subst h; exact .ar (flatS_spec e _ _ ha) ⟨hn, flatS_scalar _ _ ha⟩ (ih _ hb)
        · cases h
      · cases h
    | pl v =>
      simp only [flat, flat1] at h
      by_cases ho : one v = true
      · simp only [ho, if_true] at h
        split at h
        · rename_i a b ha hb; injection ha with ha; injection h with h; subst ha; subst h; exact .pl ho (ih _ hb)
        · cases h
      · simp only [ho] at h; simp at h
    | _ => simp [flat, flat1] at h

structure TEok (P : Program) (t : Nat) (te : TE) : Prop where
  fits : ∃ i d z, P.info? t = some i ∧ P.underlying t = some d ∧ i.size = te.size ∧ i.bytes = te.bytes ∧ te.k.fits d ∧ i.zero = some z ∧ flat te.zero = some z.cells.toList ∧ (te.k.agg = true ↔ ∃ cs, z = .agg cs)
  wide : wid te.zero = te.size
  eqok : te.eq = true → P.eqGuardType P.depth t = false ∧ P.stoodInHeld t = false ∧ ∀ gs, P.underlying t = some (.struct gs) → ∀ f ∈ gs.toList, f.name ≠ "_"
def TT.OK (T : TT) (P : Program) : Prop := ∀ t te, T t = some te → TEok P t te

variable {P : Program} {T : TT}
theorem run_info {t : Nat} {i : TypeInfo} (h : P.info? t = some i) (w : World) : (typeInfo t).run P w = .ok i w := by
  simp [typeInfo, h]
theorem run_under {t : Nat} {d : TypeDesc} (h : P.underlying t = some d) (w : World) : (underlying t).run P w = .ok d w := by
  simp [underlying, h]
theorem run_size {t : Nat} {te : TE} (h : TEok P t te) (w : World) : (sizeOf t).run P w = .ok te.size w := by
  obtain ⟨i, d, z, h1, h2, h3, h4, h5, h6, h7, h8⟩ := h.fits
  simp [sizeOf, run_info h1, h3]
theorem run_agg {t : Nat} {te : TE} (h : TEok P t te) (w : World) : (isAgg t).run P w = .ok te.k.agg w := by
  obtain ⟨i, d, z, h1, h2, h3, h4, h5, h6, h7, h8⟩ := h.fits
  simp only [isAgg, Sem.run_bind, run_under h2, Result.andThen_ok]
  cases hk : te.k <;> cases d <;> simp only [hk, TK.fits, TK.agg] at h5 ⊢ <;> first | rfl | (cases h5; done) | skip
  all_goals first | exact absurd rfl (h5.1 _) | exact absurd rfl (h5.2 _ _)
theorem run_zero {t : Nat} {te : TE} (h : TEok P t te) (w : World) : ∃ z, (zeroValue t).run P w = .ok z w ∧ flat te.zero = some z.cells.toList ∧ (te.k.agg = true ↔ ∃ cs, z = .agg cs) := by
  obtain ⟨i, d, z, h1, h2, h3, h4, h5, h6, h7, h8⟩ := h.fits
  exact ⟨z, by simp [zeroValue, run_info h1, h6], h7, h8⟩

/-! ### Cells, read and written -/
theorem run_loadFrom (w : World) (a : Addr) : ∀ (ys : List Value) (i : Nat) (acc : Array Value), (∀ j y, ys[j]? = some y → w.cell? (a.add (i + j)) = some y) →
    (loadCellsFrom a i ys.length acc).run P w = .ok (acc ++ ys.toArray) w := by
  intro ys
  induction ys with
  | nil => intro i acc _; simp [loadCellsFrom]
  | cons y ys ih =>
    intro i acc h
    have h0 := h 0 y (by simp)
    simp only [List.length_cons, loadCellsFrom, Sem.run_bind]
    have hl : (load (a.add i)).run P w = .ok y w := by simp only [Nat.add_zero] at h0; simp [load, Sem.run, h0]
    rw [hl, Result.andThen_ok, ih (i + 1) (acc.push y) (fun j z hj => by rw [show i + 1 + j = i + (j + 1) from by omega]; exact h (j + 1) z (by simpa using hj))]
    simp
theorem run_loadCells (w : World) (a : Addr) (ys : List Value) (h : ∀ j y, ys[j]? = some y → w.cell? (a.add j) = some y) : (loadCells a ys.length).run P w = .ok ys.toArray w := by
  simp [loadCells, run_loadFrom w a ys 0 #[] (by simpa using h)]
theorem run_storeFrom (b o : Nat) : ∀ (us : List Value) (i : Nat) (w : World) (cs : Array Value) (t : TypeId) (fz : Nat × Nat), w.heap[b]? = some (.cells cs t fz) → free w b cs → (∀ u ∈ us, one u = true) →
    o + i + us.length ≤ cs.size → (storeCells ⟨b, o, none⟩ us i).run P w = .ok () (setCells w b (o + i) us) := by
  intro us
  induction us with
  | nil => intro i w cs t fz _ _ _ _; simp [storeCells, setCells]
  | cons u us ih =>
    intro i w cs t fz h hf h1 hl
    simp only [List.length_cons] at hl
    have ha : (⟨b, o, none⟩ : Addr).add i = ⟨b, o + i, none⟩ := by unfold Addr.add; split <;> simp_all
    have hc : w.cell? ⟨b, o + i, none⟩ = some (cs[o + i]'(by omega)) := by simp [World.cell?, h]
    have hs : (store ((⟨b, o, none⟩ : Addr).add i) u).run P w = .ok () (w.setCell ⟨b, o + i, none⟩ u) := by
      have hu := h1 u (by simp)
      rw [ha]
      cases u <;> first | (simp [one] at hu; done) | simp [store, Sem.run, hc, hf _ (show o + i < cs.size by omega)]
    simp only [storeCells, Sem.run_bind, hs, Result.andThen_ok]
    have hfr : free (w.setCell ⟨b, o + i, none⟩ u) b (cs.setIfInBounds (o + i) u) := by
      intro j hj
      have := hf j (by simpa using hj)
      simp only [World.frozen?, h, setCell_heap_eq u h] at this ⊢
      exact this
    have := ih (i + 1) (w.setCell ⟨b, o + i, none⟩ u) (cs.setIfInBounds (o + i) u) t fz (setCell_heap_eq u h) hfr (fun u hu => h1 u (by simp [hu])) (by simp; omega)
    rw [this]
    rfl
theorem run_storeCells {b o : Nat} {us : List Value} {w : World} {cs : Array Value} {t : TypeId} {fz : Nat × Nat} (h : w.heap[b]? = some (.cells cs t fz)) (hf : free w b cs) (h1 : ∀ u ∈ us, one u = true)
    (hl : o + us.length ≤ cs.size) : (storeCells ⟨b, o, none⟩ us).run P w = .ok () (setCells w b o us) := run_storeFrom b o us 0 w cs t fz h hf h1 hl

/-! ### What an operation does -/
def Does (P : Program) (s : Sem Next) (w : World) (R : Value → World → Prop) : Prop :=
  (∃ x w', s.run P w = .ok (.value x) w' ∧ R x w') ∨ (∃ w', s.run P w = .ok .skip w' ∧ R undef w') ∨
    ∃ f args w1, s.run P w = .ok (.enter f args) w1 ∧ Calls P f args w1 fun en w' => ∃ x, en = .returned x ∧ R x w'
theorem wp_of_does {o : Oper} {a : Act} {w : World} {next : Act → World → Prop} {Q : Exit → Act → World → Prop} {R : Value → World → Prop}
    (h : Does P (execOp a.eval o) w R) (hn : ∀ x w', R x w' → next (a.put o.dst x) w') : o.wp P a w next Q := by
  unfold Oper.wp
  rcases h with ⟨x, w', h, hr⟩ | ⟨w', h, hr⟩ | ⟨f, args, w1, h, hc⟩
  · rw [h]; exact hn _ _ hr
  · rw [h]; exact hn _ _ hr
  · rw [h]
    refine Calls.mono hc fun en w' he => ?_
    obtain ⟨x, rfl, hr⟩ := he
    exact hn _ _ hr

/-- What an operation leaves: its value; objects that are new or have turned; those that it has read; new numbers; what must hold for it. -/
structure Out where
  val : AV
  wo : List (Nat × Obj)
  ro : List Nat
  nw : List Nat
  pre : Prop
def Out.pure (v : AV) : Out := ⟨v, [], [], [], True⟩
def Out.when (v : AV) (p : Prop) : Out := ⟨v, [], [], [], p⟩
def put (of : Nat → Option Obj) : List (Nat × Obj) → Nat → Option Obj
  | [] => of
  | (id, o) :: r => put (upd of id (some o)) r

/-- Behind it. -/
def Left (c : Ctx) (e : Env) (of : Nat → Option Obj) (out : Out) (x : Value) (w' : World) : Prop :=
  ∃ e' : Env, e'.w = w' ∧ OSim c e' (put of out.wo) ∧ e.le e' ∧ (∀ id, e'.U id → e.U id ∨ id ∈ out.nw) ∧ Rep e' out.val x
theorem left_same {c : Ctx} {e : Env} {of : Nat → Option Obj} {v : AV} {p : Prop} {x : Value} (h : OSim c e of) (hv : Rep e v x) {ro : List Nat} : Left c e of ⟨v, [], ro, [], p⟩ x e.w :=
  ⟨e, rfl, h, Env.le.refl e, fun _ hu => .inl hu, hv⟩
theorem does_value {s : Sem Value} {w : World} {x : Value} {w' : World} {R : Value → World → Prop} (h : s.run P w = .ok x w') (hr : R x w') :
    Does P (do pure (.value (← s))) w R := .inl ⟨x, w', by simp [h], hr⟩

/-- A value's pieces. -/
def pieces : AV → Option (List AV)
  | .ag l => some l
  | .tu _ | .junk | .ar _ _ => none
  | v => some [v]
theorem pieces_spec {e : Env} {v : AV} {x : Value} {l : List AV} (h : Rep e v x) (hp : pieces v = some l) : RepL e l x.cells.toList := by
  cases v <;> simp only [pieces] at hp <;> first | (cases hp; done) | skip
  all_goals injection hp with hp; subst hp
  case ag l => simp only [Rep, Rep1] at h; obtain ⟨xs, rfl, h⟩ := h; exact h
  all_goals
    simp only [Rep, Rep1] at h
    have h1 := h.one x (by simp)
    have : x.cells = #[x] := by cases x <;> first | (simp [one] at h1; done) | rfl
    rw [this]; exact h
/-- The value of pieces. -/
def value (agg : Bool) (l : List AV) : Option AV :=
  if agg then some (.ag l) else
  match l with
  | [.ar _ _] | [.ag _] | [.tu _] => none
  | [v] => some v
  | _ => none
theorem value_spec {e : Env} {agg : Bool} {l : List AV} {xs : List Value} {v : AV} (h : RepL e l xs) (hv : value agg l = some v) :
    (agg = true ∧ Rep e v (.agg xs.toArray)) ∨ (agg = false ∧ ∃ x, xs = [x] ∧ Rep e v x) := by
  unfold value at hv
  split at hv
  · rename_i ha
    injection hv with hv
    subst hv
    exact .inl ⟨ha, xs.toArray, rfl, by simpa using h⟩
  · rename_i ha
    refine .inr ⟨by simpa using ha, ?_⟩
    split at hv <;> first | (cases hv; done) | skip
    rename_i v' hn1 hn2 hn3
    injection hv with hv
    subst hv
    have hlen := h.length
    have hw : wid [v'] = 1 := by
      simp only [wid, wid1]
    rw [hw] at hlen
    match xs, hlen with
    | [x], _ =>
      refine ⟨x, rfl, ?_⟩
      cases v' <;> first | exact absurd rfl (hn1 _ _) | exact absurd rfl (hn2 _) | exact absurd rfl (hn3 _) | exact h | trivial
end Go.Eng

namespace Go.Eng
open Go.RowKit
variable {P : Program} {T : TT} {c : Ctx} {e : Env} {of : Nat → Option Obj}

theorem heap_new (e : Env) (id ver : Nat) (cs : Array Value) (t : TypeId) (fz : Nat × Nat) : (e.new id ver cs t fz).w.heap[e.w.heap.size]? = some (.cells cs t fz) := alloc_new _ _
theorem free_zero {w : World} {b : Nat} {cs : Array Value} {t : TypeId} (h : w.heap[b]? = some (.cells cs t (0, 0))) : free w b cs := fun i _ => by simp [World.frozen?, h]
theorem OK_box {id : Nat} {l : List AV} {cs : Array Value} {t : TypeId} (h : OSim c e of) (hu : ¬ e.U id) (hr : RepL e l cs.toList) : OK (e.new id 0 cs t (0, 0)) id (.box l false) :=
  ⟨.inl rfl, upd_same _ _ _, e.w.heap.size, cs, t, (0, 0), upd_same _ _ _, heap_new _ _ _ _ _ _, free_zero (heap_new _ _ _ _ _ _), hr.mono (h.le_new hu 0 cs t (0, 0)), fun _ i hs => absurd (h.slt _ _ hs) (by omega)⟩
theorem rep_pt {id : Nat} {cs : Array Value} {t : TypeId} : Rep (e.new id 0 cs t (0, 0)) (.pt id 0) (.pointer (some ⟨e.w.heap.size, 0, none⟩)) :=
  .pt (.inl rfl) (upd_same _ _ _) (upd_same _ _ _) .nil
theorem left_new {id : Nat} {ver : Nat} {cs : Array Value} {t : TypeId} {fz : Nat × Nat} {o : Obj} {v : AV} {x : Value} {p : Prop} {ro : List Nat} (h : OSim c e of) (hu : ¬ e.U id) (ho : OK (e.new id ver cs t fz) id o)
    (hv : Rep (e.new id ver cs t fz) v x) : Left c e of ⟨v, [(id, o)], ro, [id], p⟩ x (e.w.alloc (.cells cs t fz)) :=
  ⟨e.new id ver cs t fz, rfl, h.new hu ho, h.le_new hu _ _ _ _, fun j hj => hj.elim (fun q => .inr (by simp [q])) .inl, hv⟩

theorem law_alloc {id t : Nat} {te : TE} (h : OSim c e of) (ht : TEok P t te) (hu : ¬ e.U id) :
    Does P (do pure (.value (← Instr.alloc t true (.tuple #[])))) e.w (Left c e of ⟨.pt id 0, [(id, .box te.zero false)], [], [id], True⟩) := by
  obtain ⟨z, h1, h2, h3⟩ := run_zero ht e.w
  refine does_value (x := .pointer (some ⟨e.w.heap.size, 0, none⟩)) (w' := e.w.alloc (.cells z.cells t (0, 0))) ?_ (left_new h hu (OK_box h hu (flat_spec _ _ _ h2)) rep_pt)
  simp [Instr.alloc, h1, newVar, newRow]
theorem law_box {id t : Nat} {v : AV} {x : Value} {l : List AV} (h : OSim c e of) (hu : ¬ e.U id) (hv : Rep e v x) (hp : pieces v = some l) :
    Does P (do pure (.value (← Instr.box t x))) e.w (Left c e of ⟨.pt id 0, [(id, .box l false)], [], [id], True⟩) := by
  refine does_value (x := .pointer (some ⟨e.w.heap.size, 0, none⟩)) (w' := e.w.alloc (.cells x.cells t (0, 0))) ?_ (left_new h hu (OK_box h hu (pieces_spec hv hp)) rep_pt)
  simp [Instr.box, newVar, newRow]

/-! ### Loads -/
theorem run_loadVar {t : Nat} {te : TE} (ht : TEok P t te) {w : World} {a : Addr} {ys : List Value} (hl : ys.length = te.size) (hc : ∀ j y, ys[j]? = some y → w.cell? (a.add j) = some y) :
    (loadVar t a).run P w = if te.k.agg then .ok (.agg ys.toArray) w else (load a).run P w := by
  simp only [loadVar, Sem.run_bind, run_agg ht, Result.andThen_ok]
  split
  · simp only [Sem.run_bind, run_size ht, Result.andThen_ok]
    rw [← hl, run_loadCells w a ys hc]
    rfl
  · rfl
/-- Cells that are known are loaded. -/
theorem law_load_cells {t : Nat} {te : TE} (h : OSim c e of) (ht : TEok P t te) {a : Addr} {l : List AV} {ys : List Value} {v : AV} (hr : RepL e l ys) (hw : wid l = te.size) (hv : value te.k.agg l = some v)
    (hc : ∀ j y, ys[j]? = some y → e.w.cell? (a.add j) = some y) {ro : List Nat} {p : Prop} :
    Does P (do pure (.value (← Instr.loadAt t (.pointer (some a))))) e.w (Left c e of ⟨v, [], ro, [], p⟩) := by
  have hlen := hr.length
  have hrun := run_loadVar (P := P) ht (w := e.w) (a := a) (ys := ys) (by omega) hc
  rcases value_spec hr hv with ⟨ha, hx⟩ | ⟨ha, x, rfl, hx⟩
  · refine does_value ?_ (left_same h hx)
    simp [Instr.loadAt, Instr.sureAddr, hrun, ha]
  · refine does_value ?_ (left_same h hx)
    have := hc 0 x (by simp)
    have e0 : a.add 0 = a := by unfold Addr.add; simp
    rw [e0] at this
    simp [Instr.loadAt, Instr.sureAddr, hrun, ha, load, Sem.run, this]
theorem add_none (b o j : Nat) : (⟨b, o, none⟩ : Addr).add j = ⟨b, o + j, none⟩ := by unfold Addr.add; split <;> simp_all
/-- A box's cells. -/
theorem box_cells {id : Nat} {l : List AV} {sh : Bool} (h : OSim c e of) (ho : of id = some (.box l sh)) : ∃ b cs t fz, e.ι id = some (b, 0) ∧ e.w.heap[b]? = some (.cells cs t fz) ∧ free e.w b cs ∧ RepL e l cs.toList ∧ (sh = false → ∀ i, ¬ e.S b i) :=
  (h.ok _ _ ho).2.2
theorem cell_heap {w : World} {b : Nat} {cs : Array Value} {t : TypeId} {fz : Nat × Nat} (h : w.heap[b]? = some (.cells cs t fz)) (i : Nat) : w.cell? ⟨b, i, none⟩ = cs.toList[i]? := by
  simp [World.cell?, h]
theorem law_load_pt {t : Nat} {te : TE} (h : OSim c e of) (ht : TEok P t te) {id off : Nat} {l m q : List AV} {sh : Bool} {v : AV} {x : Value} (ho : of id = some (.box l sh)) (hd : dropW off l = some m) (hk : takeW te.size m = some q)
    (hv : value te.k.agg q = some v) (hx : Rep e (.pt id off) x) {p : Prop} :
    Does P (do pure (.value (← Instr.loadAt t x))) e.w (Left c e of ⟨v, [], [id], [], p⟩) := by
  obtain ⟨b, cs, ty, fz, h1, h2, h3, h4, h5⟩ := box_cells h ho
  cases hx with | pt u0 u1 u2 _ =>
  rw [h1] at u2; cases u2
  obtain ⟨_, _, hwq⟩ := takeW_spec _ _ _ hk
  have hq := (h4.drop hd).take hk
  refine law_load_cells h ht hq hwq hv (fun j y hj => ?_)
  rw [add_none, Nat.zero_add, cell_heap h2, ← hj]
  have hj' : j < te.size := by
    have := hq.length
    have h6 : j < (List.take te.size (List.drop off cs.toList)).length := (List.getElem?_eq_some_iff.1 hj).1
    rw [List.length_take] at h6; omega
  rw [List.getElem?_take_of_lt hj', List.getElem?_drop]

/-- An element of an array within a box. -/
theorem ar_head {n : Nat} {es r : List AV} {xs : List Value} (h : RepL e (.ar n es :: r) xs) : ∃ ys zs, xs = ys ++ zs ∧ RepL e es ys ∧ ys.length = n ∧ RepL e r zs ∧ ∀ v ∈ es, scalar v = true := by
  cases h with | ar h1 h2 h3 => exact ⟨_, _, rfl, h1, h2.1, h3, h2.2⟩
/-- Each of a row of scalars has its own cell. -/
theorem RepL.nth : ∀ {es : List AV} {ys : List Value}, RepL e es ys → (∀ v ∈ es, scalar v = true) → ∀ (i : Nat) (v : AV), es[i]? = some v → ∃ y, ys[i]? = some y ∧ RepL e [v] [y] := by
  intro es
  induction es with
  | nil => intro ys _ _ i v hv; simp at hv
  | cons c r ih =>
    intro ys h hs i v hv
    have hsp := RepL.split (l := [c]) (m := r) h
    obtain ⟨as, bs, rfl, ha, hb⟩ := hsp
    have hc := hs c (by simp)
    have hlen := ha.length
    have hw : wid [c] = 1 := by cases c <;> simp_all [wid, wid1, scalar]
    rw [hw] at hlen
    match as, hlen with
    | [y], _ =>
      cases i with
      | zero => simp at hv; subst hv; exact ⟨y, by simp, ha⟩
      | succ i =>
        simp at hv
        obtain ⟨z, h1, h2⟩ := ih hb (fun v hv => hs v (by simp [hv])) i v hv
        exact ⟨z, by simpa using h1, h2⟩
theorem wid_scalars : ∀ (es : List AV), (∀ v ∈ es, scalar v = true) → wid es = es.length := by
  intro es
  induction es with
  | nil => intro _; rfl
  | cons v q ih =>
    intro hs
    have hv := hs v (by simp)
    have h1 : wid1 v = 1 := by cases v <;> simp_all [wid1, scalar]
    simp only [wid, h1, ih (fun v hv => hs v (by simp [hv])), List.length_cons]; omega
theorem rep_scalar {v : AV} {x : Value} (hs : scalar v = true) (h : RepL e [v] [x]) : Rep e v x := by
  cases v <;> first | (simp [scalar] at hs; done) | exact h | exact True.intro
theorem law_load_pe {t : Nat} {te : TE} (h : OSim c e of) (ht : TEok P t te) (hagg : te.k.agg = false) {id off n : Nat} {i : Int} {l m es r : List AV} {sh : Bool} {x : Value} (ho : of id = some (.box l sh)) (hd : dropW off l = some m)
    (hm : m = .ar n es :: r) (hx : Rep e (.pe id off n i) x) {p : Prop} (d : AV) :
    Does P (do pure (.value (← Instr.loadAt t x))) e.w (Left c e of ⟨es.getD i.toNat d, [], [id], [], p⟩) := by
  obtain ⟨b, cs, ty, fz, h1, h2, h3, h4, h5⟩ := box_cells h ho
  cases hx with | pe u0 u1 u2 u3 u4 _ =>
  rw [h1] at u2; cases u2
  have hq := h4.drop hd
  rw [hm] at hq
  obtain ⟨ys, zs, hyz, hes, hyl, _, hs⟩ := ar_head hq
  have hlen : es.length = n := by rw [← wid_scalars es hs, ← hes.length]; exact hyl
  have hi : i.toNat < es.length := by omega
  have hget : es[i.toNat]? = some es[i.toNat] := List.getElem?_eq_getElem hi
  obtain ⟨y, hy, hry⟩ := hes.nth hs _ _ hget
  have hgd : es.getD i.toNat d = es[i.toNat] := by simp [List.getD, hget]
  rw [hgd]
  refine does_value ?_ (left_same h (rep_scalar (hs _ (List.getElem_mem hi)) hry))
  have hcell : e.w.cell? ⟨b, off + i.toNat, none⟩ = some y := by
    rw [cell_heap h2, ← List.getElem?_drop, hyz, List.getElem?_append_left (by omega)]
    exact hy
  simp [Instr.loadAt, Instr.sureAddr, loadVar, run_agg ht, hagg, load, Sem.run, hcell]

/-! ### Stores -/
theorem run_storeVar {t : Nat} {te : TE} (ht : TEok P t te) {b o : Nat} {v : Value} {w : World} {cs : Array Value} {ty : TypeId} {fz : Nat × Nat} (h : w.heap[b]? = some (.cells cs ty fz)) (hf : free w b cs) (h1 : ∀ u ∈ v.cells.toList, one u = true)
    (hs : v.cells.size = te.size) (hl : o + te.size ≤ cs.size) : (storeVar t ⟨b, o, none⟩ v).run P w = .ok () (setCells w b o v.cells.toList) := by
  simp only [storeVar, Sem.run_bind, run_size ht, Result.andThen_ok]
  rw [if_neg (by omega)]
  exact run_storeCells h hf h1 (by rw [Array.length_toList]; omega)
theorem len_heap {w : World} {b : Nat} {cs : Array Value} {t : TypeId} {fz : Nat × Nat} (h : w.heap[b]? = some (.cells cs t fz)) : World.len w b = cs.size := by simp [World.len, h]
/-- Cells of an object's own block are written. -/
theorem OSim.write (h : OSim c e of) {id : Nat} {o o' : Obj} (ho : of id = some o) {b q : Nat} (hι : e.ι id = some (b, q)) {w' : World} {cs cs' : Array Value} {t : TypeId} {fz : Nat × Nat}
    (h0 : e.w.heap[b]? = some (.cells cs t fz)) (h1 : w'.heap[b]? = some (.cells cs' t fz)) (hsz : cs'.size = cs.size) (hne : ∀ k, k ≠ b → w'.heap[k]? = e.w.heap[k]?) (hhs : w'.heap.size = e.w.heap.size)
    (hos : w'.os = e.w.os ∧ w'.tape = e.w.tape ∧ w'.output = e.w.output) (hS : ∀ i, e.S b i → cs'[i]? = cs[i]?) (hok : e.le { e with w := w' } → OK { e with w := w' } id o') :
    OSim c { e with w := w' } (upd of id (some o')) ∧ e.le { e with w := w' } := by
  have hle : e.le { e with w := w' } := by
    have hln : ∀ k, World.len w' k = World.len e.w k := fun k => by
      by_cases hk' : k = b
      · subst hk'; rw [len_heap h0, len_heap h1, hsz]
      · exact len_of_heap (hne _ hk')
    refine ⟨fun k i hs => ⟨hs, fun x hx => ?_⟩, fun _ hu => hu, fun j hu _ => ⟨rfl, fun k q' hk => hln k⟩, fun _ _ h => h, fun _ _ => Nat.le_refl _, by show _ ≤ w'.heap.size; omega, fun k _ => hln k⟩
    · by_cases hk : k = b
      · subst hk
        rw [cell_heap h0] at hx
        show w'.cell? _ = _
        rw [cell_heap h1, Array.getElem?_toList, hS _ hs, ← Array.getElem?_toList]; exact hx
      · rw [← hx]; exact cell_of_heap (hne _ hk)
  refine ⟨h.turn ho hle (fun _ _ => rfl) (fun _ _ => rfl) (fun _ hu => hu) (fun k _ hk => hne k (fun hkb => hk q (by rw [hkb]; exact hι))) (by show _ ≤ w'.heap.size; omega) (fun _ _ hs => .inl hs) (fun k q' hk => .inl ⟨q', hk⟩) hos.1 hos.2.1 hos.2.2 (hok hle), hle⟩
theorem free_of {w w' : World} {b : Nat} {cs cs' : Array Value} {t : TypeId} {fz : Nat × Nat} (h : free w b cs) (h0 : w.heap[b]? = some (.cells cs t fz)) (h1 : w'.heap[b]? = some (.cells cs' t fz)) (hs : cs'.size = cs.size) : free w' b cs' := by
  intro i hi
  have := h i (by omega)
  simp only [World.frozen?, h0, h1] at this ⊢
  exact this
theorem law_store_pt {t : Nat} {te : TE} (h : OSim c e of) (ht : TEok P t te) {id off : Nat} {l l' q : List AV} {v : AV} {x y : Value} (ho : of id = some (.box l false)) (hq : pieces v = some q) (hw : wid q = te.size) (hl : setW off q l = some l')
    (hx : Rep e (.pt id off) x) (hy : Rep e v y) {p : Prop} :
    Does P (do Instr.storeAt t x y; pure .skip) e.w (Left c e of ⟨.junk, [(id, .box l' false)], [id], [], p⟩) := by
  obtain ⟨b, cs, ty, fz, h1, h2, h3, h4, h5⟩ := box_cells h ho
  cases hx with | pt u0 u1 u2 _ =>
  rw [h1] at u2; cases u2
  have hr := pieces_spec hy hq
  obtain ⟨hset, hle⟩ := h4.set hr hl
  have hcl := hr.length
  rw [Array.length_toList] at hcl hle
  have hlen4 : cs.toList.length = cs.size := Array.length_toList ..
  obtain ⟨cs', g1, g2⟩ := setCells_heap_eq y.cells.toList h2 (i := off) (by rw [Array.length_toList]; omega)
  have hsz : cs'.size = cs.size := by
    have := congrArg List.length g2
    simp only [Array.length_toList, List.length_append, List.length_take, List.length_drop] at this
    omega
  obtain ⟨hos, hll⟩ := h.write ho h1 h2 g1 hsz (fun k hk => setCells_heap_ne _ _ _ _ hk) (setCells_size _ _ _ _) (setCells_os _ _ _ _) (fun i hs => absurd hs (h5 rfl i))
    (o' := .box l' false) (fun hle => ⟨u0, u1, b, cs', ty, fz, h1, g1, free_of h3 h2 g1 hsz, by rw [g2]; exact hset.mono hle, fun _ i => h5 rfl i⟩)
  refine .inr (.inl ⟨setCells e.w b off y.cells.toList, ?_, _, rfl, hos, hll, fun _ hu => .inl hu, True.intro⟩)
  have hrun := run_storeVar (P := P) ht (o := off) (v := y) h2 h3 hr.one (by omega) (by omega)
  simp [Instr.storeAt, Instr.sureAddr, hrun]

theorem ar_elem {l m es es' r : List AV} {off n k : Nat} {cs : List Value} {v : AV} {y : Value} (h4 : RepL e l cs) (hd : dropW off l = some m) (hm : m = .ar n es :: r) (hk : k < n) (hv : RepL e [v] [y]) (hsv : scalar v = true) (hes : es' = es.set k v) :
    ∃ l', setW off [.ar n es'] l = some l' ∧ RepL e l' (cs.set (off + k) y) ∧ off + k < cs.length := by
  obtain ⟨a, rfl, ha⟩ := dropW_spec _ _ _ hd
  subst hm
  obtain ⟨us, vs, rfl, h1, h2⟩ := h4.split
  obtain ⟨ys, zs, rfl, h3, h5, h6, hs⟩ := ar_head h2
  have hsl := h1.length
  refine ⟨a ++ .ar n es' :: r, ?_, ?_, by simp; omega⟩
  · have key : ∀ (a : List AV), dropW (wid a) (a ++ .ar n es :: r) = some (.ar n es :: r) → setW (wid a) [.ar n es'] (a ++ .ar n es :: r) = some (a ++ .ar n es' :: r) := by
      intro a
      induction a with
      | nil =>
        intro _
        have hn : n ≠ 0 := by omega
        obtain ⟨n', rfl⟩ := Nat.exists_eq_succ_of_ne_zero hn
        simp [setW, wid, wid1, dropW]
      | cons c q ih =>
        intro hq
        by_cases hz : wid (c :: q) = 0
        · have hq' := hq
          rw [hz] at hq'
          simp only [dropW, List.cons_append, Option.some.injEq] at hq'
          have := congrArg List.length hq'
          simp at this
          omega
        · obtain ⟨k', hk'⟩ := Nat.exists_eq_succ_of_ne_zero hz
          have hw : wid1 c + wid q = k' + 1 := hk'
          rw [hk'] at hq ⊢
          simp only [List.cons_append, dropW, setW] at hq ⊢
          rw [if_pos (by omega)] at hq ⊢
          rw [show k' + 1 - wid1 c = wid q from by omega] at hq ⊢
          rw [ih hq]
          rfl
    rw [← ha]; exact key a (by rw [ha]; exact hd)
  · have e1 : (us ++ (ys ++ zs)).set (off + k) y = us ++ (ys.set k y ++ zs) := by
      rw [List.set_append_right _ _ (by omega), show off + k - us.length = k from by omega, List.set_append_left _ _ (by omega)]
    rw [e1]
    subst hes
    refine h1.append (.ar ?_ ⟨by simp; omega, fun u hu => by rcases List.mem_or_eq_of_mem_set hu with hu | rfl; exact hs _ hu; exact hsv⟩ h6)
    have key : ∀ (es : List AV) (ys : List Value) (k : Nat), RepL e es ys → (∀ v ∈ es, scalar v = true) → RepL e (es.set k v) (ys.set k y) := by
      intro es
      induction es with
      | nil => intro ys k h _; cases h; exact .nil
      | cons c q ih =>
        intro ys k h hsc
        obtain ⟨as, bs, rfl, g1, g2⟩ := RepL.split (l := [c]) (m := q) h
        have hw : wid [c] = 1 := by have := hsc c (by simp); cases c <;> simp_all [wid, wid1, scalar]
        have hlen := g1.length
        rw [hw] at hlen
        match as, hlen with
        | [u], _ =>
          cases k with
          | zero => exact RepL.append hv g2
          | succ k => exact RepL.append g1 (ih _ k g2 (fun v hv => hsc v (by simp [hv])))
    exact key es ys k h3 hs
theorem setCell_os (w : World) (p : Addr) (u : Value) : (w.setCell p u).os = w.os ∧ (w.setCell p u).tape = w.tape ∧ (w.setCell p u).output = w.output := ⟨rfl, rfl, rfl⟩
theorem law_store_pe {t : Nat} {te : TE} (h : OSim c e of) (ht : TEok P t te) (hsz1 : te.size = 1) {id off n : Nat} {i : Int} {l l' m es r : List AV} {v : AV} {x y : Value} (ho : of id = some (.box l false)) (hd : dropW off l = some m)
    (hm : m = .ar n es :: r) (hsv : scalar v = true) (hv : pieces v = some [v]) (hl : setW off [.ar n (es.set i.toNat v)] l = some l') (hx : Rep e (.pe id off n i) x) (hy : Rep e v y) {p : Prop} :
    Does P (do Instr.storeAt t x y; pure .skip) e.w (Left c e of ⟨.junk, [(id, .box l' false)], [id], [], p⟩) := by
  obtain ⟨b, cs, ty, fz, h1, h2, h3, h4, h5⟩ := box_cells h ho
  cases hx with | pe u0 u1 u2 u3 u4 _ =>
  rw [h1] at u2; cases u2
  have hr := pieces_spec hy hv
  have hc1 : y.cells.toList.length = 1 := by
    have := hr.length
    rw [this]
    cases v <;> first | rfl | (simp [pieces] at hv; done) | skip
  obtain ⟨y', hy'⟩ : ∃ y', y.cells.toList = [y'] := by
    match hq : y.cells.toList, hc1 with
    | [y'], _ => exact ⟨y', rfl⟩
  rw [hy'] at hr
  obtain ⟨l'', g1, g2, g3⟩ := ar_elem h4 hd hm (k := i.toNat) (by omega) hr hsv rfl
  rw [hl] at g1; cases g1
  rw [Array.length_toList] at g3
  have hcell := setCell_heap_eq (i := off + i.toNat) y' h2
  obtain ⟨hos, hll⟩ := h.write ho h1 h2 hcell (by simp) (fun k hk => setCell_heap_ne _ _ _ hk) (setCell_size _ _ _) (setCell_os _ _ _) (fun i hs => absurd hs (h5 rfl i))
    (o' := .box l' false) (fun hle => ⟨u0, u1, b, _, ty, fz, h1, hcell, free_of h3 h2 hcell (by simp), by rw [Array.toList_setIfInBounds]; exact g2.mono hle, fun _ i => h5 rfl i⟩)
  refine .inr (.inl ⟨e.w.setCell ⟨b, off + i.toNat, none⟩ y', ?_, _, rfl, hos, hll, fun _ hu => .inl hu, True.intro⟩)
  have hrun := run_storeVar (P := P) ht (o := off + i.toNat) (v := y) h2 h3 (by rw [hy']; exact hr.one) (by rw [← Array.length_toList, hc1, hsz1]) (by omega)
  rw [hy'] at hrun
  simp only [Nat.zero_add]
  simp [Instr.storeAt, Instr.sureAddr, hrun, setCells]

/-! ### Rows -/
theorem row_cells {id : Nat} {d : List AV} {ver : Nat} {rows : List (List AV)} {sh : Bool} (h : OSim c e of) (ho : of id = some (.row d ver rows sh)) (hn : rows ≠ []) :
    ∃ b o cs t fz pre ys post, e.ι id = some (b, o) ∧ e.w.heap[b]? = some (.cells cs t fz) ∧ free e.w b cs ∧ cs.toList = pre ++ ys ++ post ∧ pre.length = o ∧ RepL e rows.flatten ys ∧
      (∀ i, o + ys.length ≤ i → ¬ e.S b i) ∧ (sh = false → ∀ i, o ≤ i → ¬ e.S b i) := by
  obtain ⟨_, _, _, _, _, h6⟩ := h.ok _ _ ho
  rcases h6 with ⟨_, h6⟩ | h6
  · exact absurd h6 hn
  · exact h6
theorem wid_flatten {z : Nat} : ∀ (rows : List (List AV)), (∀ r ∈ rows, wid r = z) → wid rows.flatten = rows.length * z := by
  intro rows
  induction rows with
  | nil => intro _; simp [wid]
  | cons r q ih => intro h; rw [List.flatten_cons, wid_append, ih (fun r hr => h r (by simp [hr])), h r (by simp), List.length_cons, Nat.add_mul]; omega
theorem flatten_at (rows : List (List AV)) (i : Nat) (h : i < rows.length) : rows.flatten = (rows.take i).flatten ++ (rows[i] ++ (rows.drop (i + 1)).flatten) := by
  have e : rows = rows.take i ++ rows[i] :: rows.drop (i + 1) := by rw [← List.drop_eq_getElem_cons h, List.take_append_drop]
  have e2 := congrArg List.flatten e
  rw [List.flatten_append, List.flatten_cons] at e2
  exact e2
theorem row_at {rows : List (List AV)} {ys : List Value} {z : Nat} (h : RepL e rows.flatten ys) (hw : ∀ r ∈ rows, wid r = z) {i : Nat} (hi : i < rows.length) :
    ∃ as bs cs, ys = as ++ (bs ++ cs) ∧ as.length = i * z ∧ bs.length = z ∧ RepL e (rows.take i).flatten as ∧ RepL e rows[i] bs ∧ RepL e (rows.drop (i + 1)).flatten cs := by
  rw [flatten_at rows i hi] at h
  obtain ⟨as, q, rfl, h1, h2⟩ := h.split
  obtain ⟨bs, cs, rfl, h3, h4⟩ := h2.split
  refine ⟨as, bs, cs, rfl, ?_, ?_, h1, h3, h4⟩
  · rw [h1.length, wid_flatten _ (fun r hr => hw r (List.mem_of_mem_take hr)), List.length_take]
    congr 1; omega
  · rw [h3.length]; exact hw _ (List.getElem_mem hi)
theorem law_load_re {t : Nat} {te : TE} (h : OSim c e of) (ht : TEok P t te) {id ver off : Nat} {i : Int} {d m q : List AV} {rows : List (List AV)} {sh : Bool} {v : AV} {x : Value} (ho : of id = some (.row d ver rows sh)) (hi : 0 ≤ i) (hil : i < rows.length)
    (hd : dropW off (rows.getD i.toNat d) = some m) (hk : takeW te.size m = some q) (hv : value te.k.agg q = some v) (hx : Rep e (.re id ver (wid d) i off) x) {p : Prop} :
    Does P (do pure (.value (← Instr.loadAt t x))) e.w (Left c e of ⟨v, [], [id], [], p⟩) := by
  have hin : i.toNat < rows.length := by omega
  obtain ⟨v0, v1, v2, v3, v4, _⟩ := h.ok _ _ ho
  obtain ⟨b, o, cs, ty, fz, pre, ys, post, h1, h2, h3, h4, h5, h6, h7, h8⟩ := row_cells h ho (by intro h0; subst h0; simp at hil; omega)
  cases hx with
  | reStale _ _ _ u1 _ => omega
  | re u0 u1 u2 u3 u4 _ =>
  rw [h1] at u3; cases u3
  obtain ⟨as, bs, zs, rfl, g1, g2, g3, g4, g5⟩ := row_at h6 v4 hin
  have hgd : rows.getD i.toNat d = rows[i.toNat] := by simp [List.getD, List.getElem?_eq_getElem hin]
  rw [hgd] at hd
  obtain ⟨_, _, hwq⟩ := takeW_spec _ _ _ hk
  have hq := (g4.drop hd).take hk
  refine law_load_cells h ht hq hwq hv (fun j y hj => ?_)
  have hj' : j < te.size := by
    have := hq.length
    have h6 := (List.getElem?_eq_some_iff.1 hj).1
    rw [List.length_take] at h6; omega
  have hjb : off + j < bs.length := by
    rw [List.getElem?_take_of_lt hj', List.getElem?_drop] at hj
    exact (List.getElem?_eq_some_iff.1 hj).1
  rw [add_none, cell_heap h2, h4, ← hj, List.getElem?_take_of_lt hj', List.getElem?_drop]
  rw [List.append_assoc, List.getElem?_append_right (by omega), List.append_assoc, List.getElem?_append_right (by omega), List.append_assoc, List.getElem?_append_left (by omega)]
  congr 1
  omega

theorem flatten_set (rows : List (List AV)) (i : Nat) (h : i < rows.length) (r : List AV) : (rows.set i r).flatten = (rows.take i).flatten ++ (r ++ (rows.drop (i + 1)).flatten) := by
  have e : rows.set i r = rows.take i ++ r :: rows.drop (i + 1) := by rw [List.set_eq_take_append_cons_drop, if_pos h]
  have e2 := congrArg List.flatten e
  rw [List.flatten_append, List.flatten_cons] at e2
  exact e2
theorem law_store_re {t : Nat} {te : TE} (h : OSim c e of) (ht : TEok P t te) {id ver off : Nat} {i : Int} {d q r' : List AV} {rows : List (List AV)} {v : AV} {x y : Value} (ho : of id = some (.row d ver rows false)) (hi : 0 ≤ i) (hil : i < rows.length)
    (hq : pieces v = some q) (hw : wid q = te.size) (hl : setW off q (rows.getD i.toNat d) = some r') (hx : Rep e (.re id ver (wid d) i off) x) (hy : Rep e v y) {p : Prop} :
    Does P (do Instr.storeAt t x y; pure .skip) e.w (Left c e of ⟨.junk, [(id, .row d ver (rows.set i.toNat r') false)], [id], [], p⟩) := by
  have hin : i.toNat < rows.length := by omega
  obtain ⟨v0, v1, v2, v3, v4, _⟩ := h.ok _ _ ho
  obtain ⟨b, o, cs, ty, fz, pre, ys, post, h1, h2, h3, h4, h5, h6, h7, h8⟩ := row_cells h ho (by intro h0; subst h0; simp at hil; omega)
  cases hx with
  | reStale _ _ _ u1 _ => omega
  | re u0 u1 u2 u3 u4 _ =>
  rw [h1] at u3; cases u3
  obtain ⟨as, bs, zs, rfl, g1, g2, g3, g4, g5⟩ := row_at h6 v4 hin
  have hgd : rows.getD i.toNat d = rows[i.toNat] := by simp [List.getD, List.getElem?_eq_getElem hin]
  rw [hgd] at hl
  have hr := pieces_spec hy hq
  obtain ⟨hset, hle⟩ := g4.set hr hl
  have hcl := hr.length
  have hwr' : wid r' = wid d := by
    obtain ⟨a, m, b', e1, e2, e3, e4⟩ := setW_spec _ _ _ _ hl
    have := v4 _ (List.getElem_mem hin)
    rw [e1, wid_append, wid_append] at this
    rw [e4, wid_append, wid_append]; omega
  have hlen : cs.size = pre.length + (as.length + (bs.length + zs.length)) + post.length := by
    have := congrArg List.length h4
    simp at this; omega
  have hcells : y.cells.toList.length = te.size := by omega
  obtain ⟨cs', q1, q2⟩ := setCells_heap_eq y.cells.toList h2 (i := o + i.toNat * wid d + off) (by omega)
  have hcs' : cs'.toList = pre ++ (as ++ ((bs.take off ++ y.cells.toList ++ bs.drop (off + y.cells.toList.length)) ++ zs)) ++ post := by
    rw [q2, h4]
    have e1 : (pre ++ (as ++ (bs ++ zs)) ++ post).take (o + i.toNat * wid d + off) = pre ++ (as ++ bs.take off) := by
      rw [List.append_assoc, List.take_append, List.take_of_length_le (by omega), show o + i.toNat * wid d + off - pre.length = as.length + off from by omega]
      rw [List.append_assoc, List.take_append, List.take_of_length_le (by omega), show as.length + off - as.length = off from by omega]
      rw [List.append_assoc, List.take_append, show off - bs.length = 0 from by omega]
      simp
    have e2 : (pre ++ (as ++ (bs ++ zs)) ++ post).drop (o + i.toNat * wid d + off + y.cells.toList.length) = bs.drop (off + y.cells.toList.length) ++ zs ++ post := by
      rw [List.append_assoc, List.drop_append, List.drop_of_length_le (by omega), show o + i.toNat * wid d + off + y.cells.toList.length - pre.length = as.length + (off + y.cells.toList.length) from by omega]
      rw [List.append_assoc, List.drop_append, List.drop_of_length_le (by omega), show as.length + (off + y.cells.toList.length) - as.length = off + y.cells.toList.length from by omega]
      rw [List.append_assoc, List.drop_append, show off + y.cells.toList.length - bs.length = 0 from by omega]
      simp
    rw [e1, e2]
    simp
  have hmid : (bs.take off ++ y.cells.toList ++ bs.drop (off + y.cells.toList.length)).length = bs.length := by
    simp only [List.length_append, List.length_take, List.length_drop]; omega
  have hsz : cs'.size = cs.size := by
    have := congrArg List.length hcs'
    simp only [Array.length_toList, List.length_append] at this hmid
    omega
  obtain ⟨hos, hll⟩ := h.write ho h1 h2 q1 hsz (fun k hk => setCells_heap_ne _ _ _ _ hk) (setCells_size _ _ _ _) (setCells_os _ _ _ _)
    (fun j hs => by
      have hj : j < o := Nat.lt_of_not_le (fun hoj => h8 rfl j hoj hs)
      have key : ∀ X : List Value, (pre ++ X ++ post)[j]? = pre[j]? := fun X => by rw [List.append_assoc, List.getElem?_append_left (by omega)]
      rw [← Array.getElem?_toList, ← Array.getElem?_toList, hcs', h4, key, key])
    (o' := .row d ver (rows.set i.toNat r') false)
    (fun hle => ⟨v0, v1, v2, v3, fun r hr => by rcases List.mem_or_eq_of_mem_set hr with hr | rfl; exact v4 _ hr; exact hwr', .inr ⟨b, o, cs', ty, fz, pre, as ++ ((bs.take off ++ y.cells.toList ++ bs.drop (off + y.cells.toList.length)) ++ zs), post, h1, q1, free_of h3 h2 q1 hsz, hcs', h5, by
      rw [flatten_set _ _ hin]
      exact (g3.mono hle).append ((hset.mono hle).append (g5.mono hle)), fun j hj => h7 j (by simp only [List.length_append] at hj hmid ⊢; omega), fun _ j hj => h8 rfl j hj⟩⟩)
  refine .inr (.inl ⟨setCells e.w b (o + i.toNat * wid d + off) y.cells.toList, ?_, _, rfl, hos, hll, fun _ hu => .inl hu, True.intro⟩)
  have hrun := run_storeVar (P := P) ht (o := o + i.toNat * wid d + off) (v := y) h2 h3 hr.one (by rw [← Array.length_toList]; exact hcells) (by omega)
  simp [Instr.storeAt, Instr.sureAddr, hrun]
end Go.Eng

namespace Go.Eng
open Go.RowKit
variable {P : Program} {T : TT} {c : Ctx} {e : Env} {of : Nat → Option Obj}

/-! ### What others may read too -/
def Env.share (e : Env) (b lo hi : Nat) : Env := { e with S := fun k i => e.S k i ∨ (k = b ∧ lo ≤ i ∧ i < hi) }
theorem le_share (e : Env) (b lo hi : Nat) : e.le (e.share b lo hi) :=
  ⟨fun _ _ h => ⟨.inl h, fun _ hx => hx⟩, fun _ h => h, fun _ _ _ => ⟨rfl, fun _ _ _ => rfl⟩, fun _ _ h => h, fun _ _ => Nat.le_refl _, Nat.le_refl _, fun _ _ => rfl⟩
theorem share_turn (h : OSim c e of) {id : Nat} {o o' : Obj} (ho : of id = some o) {b q lo hi : Nat} (hι : e.ι id = some (b, q)) (hok : OK (e.share b lo hi) id o') :
    OSim c (e.share b lo hi) (upd of id (some o')) :=
  h.turn ho (le_share _ _ _ _) (fun _ _ => rfl) (fun _ _ => rfl) (fun _ hu => hu) (fun _ _ _ => rfl) (Nat.le_refl _)
    (fun k i hs => hs.elim .inl (fun ⟨hk, _⟩ => .inr ⟨q, by rw [hk]; exact hι⟩)) (fun k q' hk => .inl ⟨q', hk⟩) rfl rfl rfl hok
theorem share_row (h : OSim c e of) {id : Nat} {d : List AV} {ver : Nat} {rows : List (List AV)} {sh : Bool} (ho : of id = some (.row d ver rows sh)) :
    ∃ e' : Env, e'.w = e.w ∧ OSim c e' (upd of id (some (.row d ver rows true))) ∧ e.le e' ∧ (∀ j, e'.U j → e.U j) ∧
      ∀ off n x, off + n ≤ rows.length → Rep e (.ow id ver off n (wid d)) x → Rep e' (.sl d ((rows.drop off).take n)) x := by
  obtain ⟨v0, v1, v2, v3, v4, h6⟩ := h.ok _ _ ho
  rcases h6 with ⟨g1, rfl⟩ | ⟨b, o, cs, ty, fz, pre, ys, post, h1, h2, h3, h4, h5, h6, h7, h8⟩
  · refine ⟨e, rfl, ?_, Env.le.refl e, fun _ hu => hu, fun off n x hn hx => ?_⟩
    · exact h.turn ho (Env.le.refl e) (fun _ _ => rfl) (fun _ _ => rfl) (fun _ hu => hu) (fun _ _ _ => rfl) (Nat.le_refl _) (fun _ _ hs => .inl hs) (fun k q hk => .inl ⟨q, hk⟩) rfl rfl rfl
        ⟨v0, v1, v2, v3, v4, .inl ⟨g1, rfl⟩⟩
    · have h0 : n = 0 := by simp at hn; omega
      subst h0
      rw [List.take_zero]
      cases hx with
      | owStale _ _ _ u1 _ => omega
      | ow0 _ _ _ _ _ => exact .sl0 .nil
      | ow u0 u1 u2 u3 u4 u5 u6 u7 _ => rw [g1] at u3; cases u3
  · have hok : OK (e.share b o (o + ys.length)) id (.row d ver rows true) :=
      ⟨v0, v1, v2, v3, v4, .inr ⟨b, o, cs, ty, fz, pre, ys, post, h1, h2, h3, h4, h5, h6.mono (le_share _ _ _ _), fun i hi hs => hs.elim (h7 i hi) (fun ⟨_, _, hlt⟩ => by omega), fun hh => by cases hh⟩⟩
    refine ⟨e.share b o (o + ys.length), rfl, share_turn h ho h1 hok, le_share _ _ _ _, fun _ hu => hu, fun off n x hn hx => ?_⟩
    by_cases h0 : n = 0
    · subst h0
      rw [List.take_zero]
      cases hx with
      | owStale _ _ _ u1 _ => omega
      | ow0 _ _ _ _ _ => exact .sl0 .nil
      | ow u0 u1 u2 u3 u4 u5 u6 u7 _ => exact .sl0 .nil
    · cases hx with
      | owStale _ _ _ u1 _ => omega
      | ow0 _ _ _ _ _ => omega
      | @ow _ _ _ _ _ _ _ cap b' o' k u0 u1 u2 u3 u4 u5 u6 u7 _ =>
        rw [h1] at u3; cases u3
        have hlen : ((rows.drop off).take n).length = n := by rw [List.length_take, List.length_drop]; omega
        have hsplit : rows.flatten = (rows.take off).flatten ++ (((rows.drop off).take n).flatten ++ ((rows.drop off).drop n).flatten) := by
          rw [← List.flatten_append, List.take_append_drop, ← List.flatten_append, List.take_append_drop]
        have h6' := h6
        rw [hsplit] at h6'
        obtain ⟨as, q, rfl, g1, g2⟩ := h6'.split
        obtain ⟨bs, zs, rfl, g3, g4⟩ := g2.split
        have hal : as.length = off * wid d := by
          rw [g1.length, wid_flatten _ (fun r hr => v4 r (List.mem_of_mem_take hr)), List.length_take]; congr 1; omega
        have key := RepL.sl (e := e.share b o (o + (as ++ (bs ++ zs)).length)) (r := []) (xs := []) (d := d) (rows := (rows.drop off).take n) (ys := bs) (a := ⟨b, k, none⟩) (cap := cap) v3 (g3.mono (le_share _ _ _ _))
          (fun r hr => v4 r (List.mem_of_mem_drop (List.mem_of_mem_take hr))) rfl (by omega) (fun j y hj => by
            have hjl := (List.getElem?_eq_some_iff.1 hj).1
            have hk := u7 (by omega)
            refine ⟨?_, .inr ⟨rfl, by show o ≤ k + j; omega, by show k + j < _; simp only [List.length_append]; omega⟩⟩
            show e.w.cell? _ = _
            rw [add_none, cell_heap h2, h4, hk, ← hj, List.append_assoc, List.getElem?_append_right (by omega), List.append_assoc, List.getElem?_append_right (by omega), List.append_assoc, List.getElem?_append_left (by omega)]
            congr 1; omega) .nil
        rw [hlen] at key
        exact key
theorem flatten_single (l : List AV) : (l.map fun v => [v]).flatten = l := by
  induction l with
  | nil => rfl
  | cons a q ih => rw [List.map_cons, List.flatten_cons, ih]; rfl
theorem share_box (h : OSim c e of) {id : Nat} {l : List AV} {sh : Bool} (ho : of id = some (.box l sh)) :
    ∃ e' : Env, e'.w = e.w ∧ OSim c e' (upd of id (some (.box l true))) ∧ e.le e' ∧ (∀ j, e'.U j → e.U j) ∧
      (∀ off n lo m es r x d0, dropW off l = some (.ar n es :: r) → wid [d0] = 1 → lo + m ≤ n → Rep e (.bs id off n lo m) x → Rep e' (.sl [d0] (((es.drop lo).take m).map fun v => [v])) x) ∧
      (∀ off m x, dropW off l = some m → Rep e (.pt id off) x → Rep e' (.rp m) x) := by
  obtain ⟨u0, u1, b, cs, ty, fz, h1, h2, h3, h4, h5⟩ := h.ok _ _ ho
  have hok : OK (e.share b 0 cs.size) id (.box l true) := ⟨u0, u1, b, cs, ty, fz, h1, h2, h3, h4.mono (le_share _ _ _ _), fun hh => by cases hh⟩
  refine ⟨e.share b 0 cs.size, rfl, share_turn h ho h1 hok, le_share _ _ _ _, fun _ hu => hu, fun off n lo m es r x d0 hd hd0 hm hx => ?_, fun off m x hd hx => ?_⟩
  · cases hx with | @bs _ _ _ _ _ _ _ cap b' o' k w0 w1 w2 w3 w4 w5 _ =>
    rw [h1] at w2; cases w2
    by_cases h0 : m = 0
    · subst h0; simp only [List.take_zero, List.map_nil]; exact .sl0 .nil
    · have hq := h4.drop hd
      obtain ⟨ys, zs, hyz, hes, hyl, _, hs⟩ := ar_head hq
      have hel : es.length = n := by
        rw [← wid_scalars es hs, ← hes.length]; exact hyl
      have hsplit : es = es.take lo ++ ((es.drop lo).take m ++ (es.drop lo).drop m) := by rw [List.take_append_drop, List.take_append_drop]
      rw [hsplit] at hes
      obtain ⟨as, q, rfl, g1, g2⟩ := hes.split
      obtain ⟨bs, cs2, rfl, g3, g4⟩ := g2.split
      have hal : as.length = lo := by rw [g1.length, wid_scalars _ (fun v hv => hs v (List.mem_of_mem_take hv)), List.length_take]; omega
      have hfl : ((((es.drop lo).take m).map fun v => [v])).flatten = (es.drop lo).take m := by
        exact flatten_single _
      have hlen : (((es.drop lo).take m).map fun v => [v]).length = m := by rw [List.length_map, List.length_take, List.length_drop]; omega
      have key := RepL.sl (e := e.share b 0 cs.size) (r := []) (xs := []) (d := [d0]) (rows := ((es.drop lo).take m).map fun v => [v]) (ys := bs) (a := ⟨b, k, none⟩) (cap := cap) (by omega) (by rw [hfl]; exact g3.mono (le_share _ _ _ _))
          (fun r hr => by
            obtain ⟨v, hv, rfl⟩ := List.mem_map.1 hr
            have := hs v (List.mem_of_mem_drop (List.mem_of_mem_take hv))
            rw [hd0]; exact wid_scalars [v] (fun u hu => by rw [List.mem_singleton.1 hu]; exact this)) rfl (by omega) (fun j y hj => by
            have hjl := (List.getElem?_eq_some_iff.1 hj).1
            have hk := w5 (by omega)
            have hcell : cs.toList[k + j]? = some y := by
              rw [hk, ← hj, show 0 + off + lo + j = off + (lo + j) from by omega, ← List.getElem?_drop, hyz, List.append_assoc, List.getElem?_append_right (by omega), List.append_assoc, List.getElem?_append_left (by omega)]
              congr 1; omega
            refine ⟨?_, .inr ⟨rfl, Nat.zero_le _, ?_⟩⟩
            · show e.w.cell? _ = _
              rw [add_none, cell_heap h2, hcell]
            · have := (List.getElem?_eq_some_iff.1 hcell).1
              rwa [Array.length_toList] at this) .nil
      rw [hlen] at key
      exact key
  · cases hx with | pt w0 w1 w2 _ =>
    rw [h1] at w2; cases w2
    refine .rp ((h4.drop hd).mono (le_share _ _ _ _)) rfl (fun j y hj => ?_) .nil
    rw [List.getElem?_drop] at hj
    refine ⟨?_, .inr ⟨rfl, Nat.zero_le _, ?_⟩⟩
    · show e.w.cell? _ = _
      rw [add_none, cell_heap h2, Nat.zero_add]; exact hj
    · have := (List.getElem?_eq_some_iff.1 hj).1
      rw [Array.length_toList] at this
      show 0 + off + j < _
      omega

/-! ### append -/
structure Src (P : Program) (w : World) (xt : TypeId) (y : Value) (z m : Nat) (us : List Value) : Prop where
  ty : (∃ e, P.underlying xt = some (.slice e)) ∨ P.underlying xt = some .string
  len : ∀ w', (Builtin.lenOf y).run P w' = .ok m w'
  first : ∀ w' : World, w'.heap = w.heap → (Builtin.firstCells z m y).run P w' = .ok us.toArray w'
  size : us.length = m * z
theorem run_append_in {t xt ty el : TypeId} {te : TE} {w : World} (ht : P.underlying t = some (.slice el)) (hel : TEok P el te) {A : Option Addr} {n cap m : Nat} {y : Value} {us : List Value} (hs : Src P w xt y te.size m us)
    (hroom : n + m ≤ cap) {w' : World} (hst : ∀ a, A = some a → (storeCells (a.add (n * te.size)) us).run P w = .ok () w') (hno : A = none → w' = w) :
    (Builtin.append_ #[t, xt] ty #[.slice A n cap, y]).run P w = .ok (.slice A (n + m) cap) w' := by
  have hf := hs.first w rfl
  rcases hs.ty with ⟨e, hd⟩ | hd <;> cases A with
  | none =>
    rw [hno rfl]
    simp [Builtin.append_, run_under ht, run_under hd, run_size hel, hs.len, hf, hroom]
  | some a =>
    have := hst a rfl
    simp [Builtin.append_, run_under ht, run_under hd, run_size hel, hs.len, hf, hroom, this]
theorem run_append_up {t xt ty el : TypeId} {te : TE} {w : World} (ht : P.underlying t = some (.slice el)) (hel : TEok P el te) {A : Option Addr} {n cap m : Nat} {y : Value} {us os : List Value} (hs : Src P w xt y te.size m us)
    (hold : ∀ w' : World, w'.heap = w.heap → (Builtin.firstCells te.size n (.slice A n cap)).run P w' = .ok os.toArray w')
    (hroom : cap < n + m) (hbytes : (n + m) * te.bytes ≤ 140737488355328) (h63 : n + m ≤ 4611686018427387904) :
    ∃ (z : Value) (cap2 : Nat), n + m ≤ cap2 ∧ flat te.zero = some z.cells.toList ∧ (Builtin.append_ #[t, xt] ty #[.slice A n cap, y]).run P w = .ok (.slice (some ⟨w.heap.size, 0, none⟩) (n + m) cap2)
      (w.drew.alloc (.cells ((os ++ us).toArray ++ Builtin.zeroCells z.cells (cap2 - (n + m))) el)) := by
  obtain ⟨i, d, z, h1, h2, h3, h4, h5, h6, h7, h8⟩ := hel.fits
  have hf := hs.first w.drew rfl
  have hfo := hold w.drew rfl
  have hn : ¬ (n + m ≤ cap) := by omega
  have h63' : ¬ (9223372036854775807 < ((n : Int) + (m : Int))) := by omega
  have hfit := growslice_fits (need := n + m) (old := cap) (bytes := te.bytes) (by omega) hbytes
  have h48' : ¬ (281474976710656 < Builtin.nextslicecap (n + m) cap * te.bytes) := by omega
  refine ⟨z, grownCap w (n + m) cap el, ?_, h7, ?_⟩
  · simp only [grownCap, Question.cut]; omega
  · rcases hs.ty with ⟨e, hd⟩ | hd
    · simp [Builtin.append_, run_under ht, run_under hd, sizeOf, typeInfo, zeroValue, h1, h3, h4, h6, hs.len, hn, h63', h48', Question.forced, hf, hfo, newRow, grownCap]
      congr 2; apply Array.ext'; simp
    · simp [Builtin.append_, run_under ht, run_under hd, sizeOf, typeInfo, zeroValue, h1, h3, h4, h6, hs.len, hn, h63', h48', Question.forced, hf, hfo, newRow, grownCap]
      congr 2; apply Array.ext'; simp

theorem OSim.same_heap (h : OSim c e of) {w' : World} (hh : w'.heap = e.w.heap) (hos : w'.os = e.w.os) (ht : w'.tape = e.w.tape) (ho : w'.output = e.w.output) :
    OSim c { e with w := w' } of ∧ e.le { e with w := w' } := by
  have hle : e.le { e with w := w' } :=
    ⟨fun b i hs => ⟨hs, fun x hx => by rw [← hx]; exact cell_of_heap (by show w'.heap[b]? = _; rw [hh])⟩, fun _ hu => hu, fun _ _ _ => ⟨rfl, fun b o _ => len_of_heap (by show w'.heap[b]? = _; rw [hh])⟩, fun _ _ h => h, fun _ _ => Nat.le_refl _, by show _ ≤ w'.heap.size; rw [hh]; exact Nat.le_refl _, fun b _ => len_of_heap (by show w'.heap[b]? = _; rw [hh])⟩
  refine ⟨⟨fun id o ho => (h.ok id o ho).keep hle rfl (fun b _ _ => by show w'.heap[b]? = _; rw [hh]) (fun _ _ _ _ hs => hs), h.sep, h.own, fun id b o hu hι => ?_, fun b i hs => ?_, h.s0, h.snew, hos.trans h.os, ht.trans h.tape, ho.trans h.output, ?_, fun k hk hm => ?_⟩, hle⟩
  · show b < w'.heap.size; rw [hh]; exact h.lt _ _ _ hu hι
  · show b < w'.heap.size; rw [hh]; exact h.slt _ _ hs
  · show _ ≤ w'.heap.size; rw [hh]; exact h.size
  · show w'.heap[k]? = _; rw [hh]; exact h.block k hk hm

/-- append onto a row of the call's own, at its end. -/
theorem law_append {t xt ty el : TypeId} {te : TE} (h : OSim c e of) (ht : P.underlying t = some (.slice el)) (hel : TEok P el te) {id ver off n : Nat} {d : List AV} {rows ns : List (List AV)} {sh : Bool} {x y : Value} {us : List Value}
    (ho : of id = some (.row d ver rows sh)) (hd : wid d = te.size) (hn : off + n = rows.length) (hx : Rep e (.ow id ver off n (wid d)) x) (hs : Src P e.w xt y te.size ns.length us) (hus : RepL e ns.flatten us) (hw : ∀ r ∈ ns, wid r = wid d)
    (hbytes : (n + ns.length) * te.bytes ≤ 140737488355328) (h63 : n + ns.length ≤ 4611686018427387904) {ro : List Nat} {p : Prop} :
    Does P (do pure (.value (← Builtin.append_ #[t, xt] ty #[x, y]))) e.w (Left c e of ⟨.ow id (ver + 1) 0 (n + ns.length) (wid d), [(id, .row d (ver + 1) (rows.drop off ++ ns) sh)], ro, [], p⟩) := by
  obtain ⟨v0, v1, v2, v3, v4, h6⟩ := h.ok _ _ ho
  have hwr : ∀ r ∈ rows.drop off ++ ns, wid r = wid d := fun r hr => by
    rcases List.mem_append.1 hr with hr | hr
    · exact v4 r (List.mem_of_mem_drop hr)
    · exact hw r hr
  have hfl : (rows.drop off ++ ns).flatten = (rows.drop off).flatten ++ ns.flatten := List.flatten_append
  have hsize := hs.size
  -- a new block
  have up : ∀ (A : Option Addr) (cap : Nat) (os : List Value), x = .slice A n cap → (∀ w' : World, w'.heap = e.w.heap → (Builtin.firstCells te.size n (.slice A n cap)).run P w' = .ok os.toArray w') → RepL e (rows.drop off).flatten os → cap < n + ns.length →
      Does P (do pure (.value (← Builtin.append_ #[t, xt] ty #[x, y]))) e.w (Left c e of ⟨.ow id (ver + 1) 0 (n + ns.length) (wid d), [(id, .row d (ver + 1) (rows.drop off ++ ns) sh)], ro, [], p⟩) := by
    intro A cap os hxe hold hros hcap
    obtain ⟨z, cap2, hc2, hz, hrun⟩ := run_append_up (P := P) (ty := ty) ht hel hs hold hcap hbytes h63
    have hzs : z.cells.size = te.size := by
      have := (flat_spec e _ _ hz).length
      rw [hel.wide, Array.length_toList] at this; exact this
    have hol : os.length = n * te.size := by
      rw [hros.length, wid_flatten _ (fun r hr => v4 r (List.mem_of_mem_drop hr)), List.length_drop, ← hd]; congr 1; omega
    obtain ⟨hd0, hle0⟩ := h.same_heap (w' := e.w.drew) rfl rfl rfl rfl
    let cells : Array Value := (os ++ us).toArray ++ Builtin.zeroCells z.cells (cap2 - (n + ns.length))
    have hcs : cells.size = cap2 * te.size := by
      simp only [cells, Array.size_append, List.size_toArray, List.length_append, hol, hsize, size_zeroCells, hzs, ← Nat.add_mul]
      congr 1; omega
    let e' : Env := { w := e.w.drew.alloc (.cells cells el), ι := upd e.ι id (some (e.w.heap.size, 0)), S := e.S, bn := upd e.bn id (ver + 1), U := e.U }
    have hle : e.le e' := by
      refine ⟨fun b i hs' => ⟨hs', fun x hx => ?_⟩, fun _ hj => hj, fun j hj hb => ?_, fun j hj h0 => ?_, fun j hj => ?_, by show _ ≤ (e.w.drew.alloc _).heap.size; rw [size_alloc]; exact Nat.le_succ _, fun b hb => len_of_heap (alloc_old e.w.drew _ hb)⟩
      · rw [← hx]; exact cell_of_heap (alloc_old e.w.drew _ (h.slt _ _ hs'))
      · have hne : j ≠ id := fun he => by
          subst he
          have : upd e.bn j (ver + 1) j = e.bn j := hb
          rw [upd_same] at this; omega
        exact ⟨upd_ne _ _ hne, fun b o hb => len_of_heap (alloc_old e.w.drew _ (h.lt _ _ _ hj hb))⟩
      · have hne : j ≠ id := fun he => by subst he; omega
        show upd e.bn id (ver + 1) j = 0
        rw [upd_ne _ _ hne]; exact h0
      · show _ ≤ upd e.bn id (ver + 1) j
        by_cases hne : j = id
        · subst hne; rw [upd_same]; omega
        · rw [upd_ne _ _ hne]; exact Nat.le_refl _
    have hheap : e'.w.heap[e.w.heap.size]? = some (.cells cells el (0, 0)) := alloc_new e.w.drew _
    have hsz : e'.w.heap.size = e.w.heap.size + 1 := size_alloc e.w.drew _
    have hok : OK e' id (.row d (ver + 1) (rows.drop off ++ ns) sh) := by
      refine ⟨v0, by omega, upd_same _ _ _, v3, hwr, .inr ⟨e.w.heap.size, 0, cells, el, (0, 0), [], os ++ us, (Builtin.zeroCells z.cells (cap2 - (n + ns.length))).toList, upd_same _ _ _, hheap, free_zero hheap, by simp [cells], rfl, ?_, fun i _ hs' => ?_, fun _ i _ hs' => ?_⟩⟩
      · rw [hfl]; exact (hros.mono hle).append (hus.mono hle)
      · have := h.slt _ _ hs'; omega
      · have := h.slt _ _ hs'; omega
    have hos := h.turn ho hle (o' := .row d (ver + 1) (rows.drop off ++ ns) sh) (fun j hj => upd_ne _ _ hj) (fun j hj => upd_ne _ _ hj) (fun _ hu => hu) (fun k hk _ => alloc_old e.w.drew _ hk) (by omega) (fun _ _ hs' => .inl hs')
      (fun b q hb => by
        have hb' : upd e.ι id (some (e.w.heap.size, 0)) id = some (b, q) := hb
        rw [upd_same] at hb'; cases hb'; exact .inr ⟨Nat.le_refl _, by omega⟩) rfl rfl rfl hok
    rw [hxe]
    refine does_value hrun ⟨e', rfl, hos, hle, fun _ hu => .inl hu, ?_⟩
    refine .ow v0 (by omega) (upd_same _ _ _) (upd_same _ _ _) ?_ hc2 v3 (fun _ => by omega) .nil
    rw [len_heap hheap, hcs, hd]; simp
  -- the old one
  cases hx with
  | owStale _ _ _ u1 _ => omega
  | ow0 u0 u1 u2 u3 _ =>
    by_cases hz : ns = []
    · subst hz
      have hr0 : rows = [] := by
        rcases h6 with ⟨_, h6⟩ | ⟨b, o, cs, ty, fz, pre, ys, post, h1, _⟩
        · exact h6
        · rw [u3] at h1; cases h1
      subst hr0
      let e' : Env := { e with bn := upd e.bn id (ver + 1) }
      have hle : e.le e' := by
        refine ⟨fun b i hs' => ⟨hs', fun _ hx => hx⟩, fun _ hj => hj, fun j hj hb => ?_, fun j hj h0 => ?_, fun j hj => ?_, Nat.le_refl _, fun _ _ => rfl⟩
        · exact ⟨rfl, fun _ _ _ => rfl⟩
        · have hne : j ≠ id := fun he => by subst he; omega
          show upd e.bn id (ver + 1) j = 0
          rw [upd_ne _ _ hne]; exact h0
        · show _ ≤ upd e.bn id (ver + 1) j
          by_cases hne : j = id
          · subst hne; rw [upd_same]; omega
          · rw [upd_ne _ _ hne]; exact Nat.le_refl _
      have hok : OK e' id (.row d (ver + 1) (([] : List (List AV)).drop 0 ++ []) sh) := ⟨v0, by omega, upd_same _ _ _, v3, fun r hr => by simp at hr, .inl ⟨u3, rfl⟩⟩
      have hos := h.turn ho hle (o' := .row d (ver + 1) (([] : List (List AV)).drop 0 ++ []) sh) (fun _ _ => rfl) (fun j hj => upd_ne _ _ hj) (fun _ hu => hu) (fun _ _ _ => rfl) (Nat.le_refl _) (fun _ _ hs' => .inl hs') (fun b q hb => .inl ⟨q, hb⟩) rfl rfl rfl hok
      have hrun := run_append_in (P := P) (ty := ty) (A := none) (n := 0) (cap := 0) (w' := e.w) ht hel hs (by simp) (fun a ha => by cases ha) (fun _ => rfl)
      exact does_value hrun ⟨e', rfl, hos, hle, fun _ hu => .inl hu, .ow0 v0 (by omega) (upd_same _ _ _) u3 .nil⟩
    · have : 0 < ns.length := List.length_pos_iff.2 hz
      refine up none 0 [] rfl (fun w' _ => by simp [Builtin.firstCells]) ?_ (by omega)
      have hr0 : rows = [] := by
        rcases h6 with ⟨_, h6⟩ | ⟨b, o, cs, ty, fz, pre, ys, post, h1, _⟩
        · exact h6
        · rw [u3] at h1; cases h1
      subst hr0; exact .nil
  | @ow _ _ _ _ _ _ _ cap b o k u0 u1 u2 u3 u4 u5 u6 u7 _ =>
    rcases h6 with ⟨g1, _⟩ | ⟨b', o', cs, ty', fz, pre, ys, post, h1, h2, h3, h4, h5, h6, h7, h8⟩
    · rw [g1] at u3; cases u3
    rw [h1] at u3; cases u3
    rw [len_heap h2] at u4
    have hsplit : rows.flatten = (rows.take off).flatten ++ (rows.drop off).flatten := by rw [← List.flatten_append, List.take_append_drop]
    rw [hsplit] at h6
    obtain ⟨as, bs, rfl, g1, g2⟩ := h6.split
    have hal : as.length = off * wid d := by
      rw [g1.length, wid_flatten _ (fun r hr => v4 r (List.mem_of_mem_take hr)), List.length_take]; congr 1; omega
    have hbl : bs.length = n * wid d := by
      rw [g2.length, wid_flatten _ (fun r hr => v4 r (List.mem_of_mem_drop hr)), List.length_drop]; congr 1; omega
    have hcl : cs.size = o + (off * wid d + n * wid d) + post.length := by
      have := congrArg List.length h4
      simp only [Array.length_toList, List.length_append] at this; omega
    have hcap : cs.size = o + off * wid d + cap * wid d := by rw [← u4, Nat.add_mul]; omega
    by_cases hroom : n + ns.length ≤ cap
    · -- in place
      have hmul : (n + ns.length) * wid d ≤ cap * wid d := Nat.mul_le_mul_right _ hroom
      rw [Nat.add_mul] at hmul
      rw [← hd] at hsize
      have hfit : o + off * wid d + n * wid d + us.length ≤ cs.size := by omega
      obtain ⟨cs', q1, q2⟩ := setCells_heap_eq us h2 (i := o + off * wid d + n * wid d) hfit
      have hcs' : cs'.toList = (pre ++ as) ++ (bs ++ us) ++ post.drop us.length := by
        rw [q2, h4]
        have e1 : (pre ++ (as ++ bs) ++ post).take (o + off * wid d + n * wid d) = pre ++ (as ++ bs) := by
          rw [List.take_append, List.take_of_length_le (by simp only [List.length_append]; omega), show o + off * wid d + n * wid d - (pre ++ (as ++ bs)).length = 0 from by simp only [List.length_append]; omega]
          simp
        have e2 : (pre ++ (as ++ bs) ++ post).drop (o + off * wid d + n * wid d + us.length) = post.drop us.length := by
          rw [List.drop_append, List.drop_of_length_le (by simp only [List.length_append]; omega), show o + off * wid d + n * wid d + us.length - (pre ++ (as ++ bs)).length = us.length from by simp only [List.length_append]; omega]
          simp
        rw [e1, e2]; simp
      have hsz : cs'.size = cs.size := by
        have := congrArg List.length hcs'
        simp only [Array.length_toList, List.length_append, List.length_drop] at this
        omega
      have hw' : World.len (setCells e.w b (o + off * wid d + n * wid d) us) b = cs.size := by rw [len_heap q1, hsz]
      have hln : ∀ k, World.len (setCells e.w b (o + off * wid d + n * wid d) us) k = World.len e.w k := fun k => by
        by_cases hk : k = b
        · subst hk; rw [hw', len_heap h2]
        · exact len_of_heap (setCells_heap_ne _ _ _ _ hk)
      let e' : Env := { w := setCells e.w b (o + off * wid d + n * wid d) us, ι := upd e.ι id (some (b, o + off * wid d)), S := e.S, bn := upd e.bn id (ver + 1), U := e.U }
      have hle : e.le e' := by
        refine ⟨fun k' i hs' => ⟨hs', fun x hx => ?_⟩, fun _ hj => hj, fun j hj hb => ?_, fun j hj h0 => ?_, fun j hj => ?_, by show _ ≤ (setCells _ _ _ _).heap.size; rw [setCells_size]; exact Nat.le_refl _, fun k _ => hln k⟩
        · by_cases hk : k' = b
          · subst hk
            rw [cell_heap h2] at hx
            show (setCells e.w k' _ us).cell? _ = _
            rw [cell_heap q1, hcs', ← hx, h4]
            have hi : i < o + (as ++ bs).length := Nat.lt_of_not_le (fun hoi => h7 i hoi hs')
            simp only [List.length_append] at hi
            have key : ∀ X : List Value, (pre ++ (as ++ bs) ++ X)[i]? = (pre ++ (as ++ bs))[i]? := fun X => List.getElem?_append_left (by simp only [List.length_append]; omega)
            rw [show (pre ++ as) ++ (bs ++ us) ++ post.drop us.length = (pre ++ (as ++ bs)) ++ (us ++ post.drop us.length) from by simp, key, key]
          · rw [← hx]; exact cell_of_heap (setCells_heap_ne _ _ _ _ hk)
        · have hne : j ≠ id := fun he => by
            subst he
            have : upd e.bn j (ver + 1) j = e.bn j := hb
            rw [upd_same] at this; omega
          refine ⟨upd_ne _ _ hne, fun b' o' hb' => ?_⟩
          by_cases hk : b' = b
          · subst hk; show World.len (setCells _ _ _ _) _ = _; rw [hw', len_heap h2]
          · exact len_of_heap (setCells_heap_ne _ _ _ _ hk)
        · have hne : j ≠ id := fun he => by subst he; omega
          show upd e.bn id (ver + 1) j = 0
          rw [upd_ne _ _ hne]; exact h0
        · show _ ≤ upd e.bn id (ver + 1) j
          by_cases hne : j = id
          · subst hne; rw [upd_same]; omega
          · rw [upd_ne _ _ hne]; exact Nat.le_refl _
      have hok : OK e' id (.row d (ver + 1) (rows.drop off ++ ns) sh) := by
        refine ⟨v0, by omega, upd_same _ _ _, v3, hwr, .inr ⟨b, o + off * wid d, cs', ty', fz, pre ++ as, bs ++ us, post.drop us.length, upd_same _ _ _, q1, free_of h3 h2 q1 hsz, hcs', by simp only [List.length_append]; omega, ?_, fun i hi hs' => ?_, fun hh i hi hs' => ?_⟩⟩
        · rw [hfl]; exact (g2.mono hle).append (hus.mono hle)
        · exact h7 i (by simp only [List.length_append] at hi ⊢; omega) hs'
        · exact h8 hh i (by omega) hs'
      have hos := h.turn ho hle (o' := .row d (ver + 1) (rows.drop off ++ ns) sh) (fun j hj => upd_ne _ _ hj) (fun j hj => upd_ne _ _ hj) (fun _ hu => hu)
        (fun k' _ hk => setCells_heap_ne _ _ _ _ (fun hkb => hk o (by rw [hkb]; exact h1))) (by show _ ≤ (setCells _ _ _ _).heap.size; rw [setCells_size]; exact Nat.le_refl _) (fun _ _ hs' => .inl hs')
        (fun b' q hb => by
          have hb' : upd e.ι id (some (b, o + off * wid d)) id = some (b', q) := hb
          rw [upd_same] at hb'; cases hb'; exact .inl ⟨o, h1⟩) (setCells_os _ _ _ _).1 (setCells_os _ _ _ _).2.1 (setCells_os _ _ _ _).2.2 hok
      have hst : ∀ a, some (⟨b, k, none⟩ : Addr) = some a → (storeCells (a.add (n * te.size)) us).run P e.w = .ok () (setCells e.w b (o + off * wid d + n * wid d) us) := by
        intro a ha
        cases ha
        by_cases hc0 : cap = 0
        · have : us = [] := List.eq_nil_of_length_eq_zero (by rw [hsize, show ns.length = 0 from by omega]; simp)
          subst this
          simp [storeCells, setCells]
        · rw [add_none, u7 (by omega), ← hd]
          exact run_storeCells h2 h3 hus.one hfit
      have hrun := run_append_in (P := P) (ty := ty) (A := some ⟨b, k, none⟩) (n := n) (cap := cap) ht hel hs hroom hst (fun ha => by cases ha)
      refine does_value hrun ⟨e', rfl, hos, hle, fun _ hu => .inl hu, ?_⟩
      refine .ow v0 (by omega) (upd_same _ _ _) (upd_same _ _ _) ?_ hroom v3 (fun hc => by rw [u7 hc]; omega) .nil
      show _ = World.len (setCells _ _ _ _) _
      rw [hw', hcap]; simp
    · -- a new block
      refine up _ _ bs rfl (fun w' hw' => ?_) g2 (by omega)
      have hbl' : bs.length = n * te.size := by rw [← hd]; exact hbl
      simp only [Builtin.firstCells]
      rw [← hbl']
      refine run_loadCells w' _ bs (fun j y hj => ?_)
      have hjl := (List.getElem?_eq_some_iff.1 hj).1
      have hn0 : 0 < n := by
        rcases Nat.eq_zero_or_pos n with h0 | h0
        · rw [h0] at hbl; simp at hbl; rw [hbl] at hjl; simp at hjl
        · exact h0
      rw [add_none, u7 (by omega), cell_of_heap (w := e.w) (by rw [hw']), cell_heap h2, h4, ← hj, List.append_assoc, List.getElem?_append_right (by omega), List.append_assoc, List.getElem?_append_right (by omega), List.getElem?_append_left (by omega)]
      congr 1; omega
end Go.Eng
