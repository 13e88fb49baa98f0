/- What the operations of a program do, shown once for all programs; and numbers. -/
import Derived.Test.YtoodhpoicinomaaGreatVm13
set_option linter.constructorNameAsVariable false
set_option linter.unusedVariables false
set_option linter.unusedSimpArgs false
noncomputable section
namespace Go.Vm
open Go.RowKit
variable {R : Type}
set_option linter.unusedVariables false
set_option linter.constructorNameAsVariable false
set_option linter.unusedSimpArgs false

theorem right_all : ∀ {r : List V} {i : Nat}, rightN r i = true → (∀ e ∈ r, (nmE e).length ≤ 100 ∧ (e.nth 1).els.length ≤ 300 ∧ 0 ≤ (e.nth 2).int ∧ (e.nth 2).int ≤ 1000000000) ∧ (r = [] ∨ i + r.length ≤ 41) := by
  intro r
  induction r with
  | nil => intro i _; exact ⟨fun e h => (by cases h), .inl rfl⟩
  | cons e r ih =>
    intro i h
    have e1 : rightN (e :: r) i = bif badE i e then false else rightN r (i + 1) := rfl
    rw [e1] at h
    cases hb : badE i e with
    | true => rw [hb] at h; cases h
    | false =>
      rw [hb, cond_false] at h
      obtain ⟨h1, h2⟩ := ih h
      unfold badE at hb
      simp only [Bool.or_eq_false_iff, ilt_d, decide_eq_false_iff_not] at hb
      obtain ⟨b1, b2, b3, b4, b5⟩ := hb
      refine ⟨fun x hx => ?_, .inr ?_⟩
      · rcases List.mem_cons.1 hx with rfl | hx
        · exact ⟨by omega, by omega, by omega, by omega⟩
        · exact h1 x hx
      · rcases h2 with rfl | h2
        · simp; omega
        · simp only [List.length_cons]; omega
/-- What is asked of the entries. -/
structure LOK (l : V) : Prop where
  nm : ∀ e ∈ l.els, isNm (nmE e)
  len : ∀ e ∈ l.els, (nmE e).length ≤ 100
  ht : ∀ e ∈ l.els, 0 ≤ (e.nth 2).int ∧ (e.nth 2).int ≤ 1000000000
  few : l.els.length ≤ 10000
theorem lsV_mem {xs : List V} (h : xs ≠ []) (hl : xs.length ≤ 10000) : lsV xs ∈ xs := by
  have h0 : 0 < xs.length := List.length_pos_iff.2 h
  unfold lsV
  rw [w64_in (by omega) (by omega)]
  have : (((xs.length : Nat) : Int) - 1).toNat = xs.length - 1 := by omega
  rw [this, List.getD_eq_getElem?_getD, List.getElem?_eq_getElem (by omega)]
  exact List.getElem_mem _
theorem hist_le (nm : List V) (p : List V) : (histS nm p).length ≤ p.length := List.length_filter_le _ _
theorem has_ne {l : V} {es : List (V × V × Bool)} (hi : NInv l.els es) {nm : List V} (h : hasS (.s nm) es = true) : histS nm l.els ≠ [] := by
  have := hi.has nm
  rw [h] at this
  intro q; rw [q] at this; cases this
theorem live_at {l : V} {es : List (V × V × Bool)} (hl : LOK l) (hi : NInv l.els es) {nm : List V} (h : hasS (.s nm) es = true) :
    (valS (.s nm) es).els = histS nm l.els ∧ isN (valS (.s nm) es) = false ∧ lastQ (valS (.s nm) es) = true ∧ lastE (valS (.s nm) es) = lsV (histS nm l.els) ∧
      0 ≤ ((lsV (histS nm l.els)).nth 2).int ∧ ((lsV (histS nm l.els)).nth 2).int ≤ 1000000000 ∧ ieq ((histS nm l.els).length : Nat) 0 = false := by
  have hne := has_ne hi h
  have h0 : 0 < (histS nm l.els).length := List.length_pos_iff.2 hne
  have hz : ieq ((histS nm l.els).length : Nat) 0 = false := by rw [← Bool.not_eq_true, ieq_iff]; omega
  have hle := hist_le nm l.els
  have hf := hl.few
  have hm := lsV_mem hne (by omega)
  have hm' : lsV (histS nm l.els) ∈ l.els := (List.mem_filter.1 hm).1
  obtain ⟨t1, t2⟩ := hl.ht _ hm'
  rw [hi.val nm h]
  have hq : lastQ (.l (histS nm l.els)) = true := by show (!(ieq ((histS nm l.els).length : Nat) 0)) = true; rw [hz]; rfl
  refine ⟨rfl, rfl, hq, ?_, t1, t2, hz⟩
  unfold lastE
  rw [hq, cond_true]; rfl
theorem live_eq {l : V} {es : List (V × V × Bool)} (hl : LOK l) (hi : NInv l.els es) {nm : List V} {a : Int} (ha : 0 ≤ a) (ha2 : a ≤ 1000000000) (h : hasS (.s nm) es = true) :
    ilt (W64 (a - ((lsV (histS nm l.els)).nth 2).int)) 8 = liveQ nm l a := by
  obtain ⟨_, _, _, _, t1, t2, hz⟩ := live_at hl hi h
  unfold liveQ
  rw [hz, Bool.false_or, w64_in (by omega) (by omega), w64_in (by omega) (by omega), ilt_d, ile_d]
  generalize ((lsV (histS nm l.els)).nth 2).int = q at t1 t2
  by_cases h1 : a - q < 8
  · have h2 : ¬ q + 8 ≤ a := by omega
    simp [h1, h2]
  · have h2 : q + 8 ≤ a := by omega
    simp [h1, h2]
theorem lvP_law {l : V} {es : List (V × V × Bool)} (hl : LOK l) (hi : NInv l.els es) {nm : List V} {a : Int} (ha : 0 ≤ a) (ha2 : a ≤ 1000000000) (k : V → Bool → Option R) : lvP es nm a k = k (liveE nm l a) (liveQ nm l a) := by
  unfold lvP
  cases h : hasS (.s nm) es with
  | true =>
    obtain ⟨t1, t2, t3, t4, t5, t6, hz⟩ := live_at hl hi h
    have hle := hist_le nm l.els
    have hf := hl.few
    rw [cond_true, t1, Nat.ble_eq_true_of_le (by omega), cond_true, t3, cond_true, t4, live_eq hl hi ha ha2 h]
    unfold liveE
    cases liveQ nm l a <;> rfl
  | false =>
    have hq : histS nm l.els = [] := by
      have := hi.has nm
      rw [h] at this
      cases hq : histS nm l.els with
      | nil => rfl
      | cons y s => rw [hq] at this; cases this
    have : liveQ nm l a = false := by unfold liveQ; rw [hq]; rfl
    rw [cond_false]
    unfold liveE
    rw [this]; rfl
theorem lvC_law {l : V} (hf : l.els.length ≤ 10000) {nm : List V} {a : Int} {k : Option R} : lvC l nm a (liveE nm l a) (liveQ nm l a) k = k := by
  unfold lvC
  rw [Nat.ble_eq_true_of_le hf, cond_true, veq_refl]
  cases liveQ nm l a <;> rfl
theorem smC2_law {nl : Bool} {xs ys : List V} {k : Option R} (h1 : nl = true → xs = []) (h2 : xs = ys) (h3 : ys.length ≤ 100000) : smC2 nl xs ys k = k := by
  have he : (bif nl then V.n else .l xs).els = ys := by
    cases nl with
    | true => rw [← h2, h1 rfl]; rfl
    | false => exact h2
  unfold smC2
  rw [he, Nat.ble_eq_true_of_le h3, Bool.and_self, cond_true, (veqL_iff _ _).2 rfl, cond_true]
theorem hsP_law {l : V} {es : List (V × V × Bool)} (hl : LOK l) (hi : NInv l.els es) {nm : List V} {k : Option R} : (hsP es nm fun nl xs => bif Nat.ble l.els.length 10000 then smC2 nl xs (histS nm l.els) k else none) = k := by
  have hle := hist_le nm l.els
  have hf := hl.few
  unfold hsP
  cases h : hasS (.s nm) es with
  | true =>
    obtain ⟨t1, t2, t3, t4, t5, t6, hz⟩ := live_at hl hi h
    rw [cond_true, t1, t2, Nat.ble_eq_true_of_le (by omega), cond_true, Nat.ble_eq_true_of_le hf]
    exact smC2_law (fun q => by cases q) rfl (by omega)
  | false =>
    have hq : histS nm l.els = [] := by
      have := hi.has nm
      rw [h] at this
      cases hq : histS nm l.els with
      | nil => rfl
      | cons y s => rw [hq] at this; cases this
    rw [cond_false, Nat.ble_eq_true_of_le hf, hq]
    show smC2 true [] [] k = k
    exact smC2_law (fun _ => rfl) rfl (by simp)
theorem es_len {p : List V} {es : List (V × V × Bool)} (hi : NInv p es) : es.length ≤ p.length := by
  have h1 : (sortV (es.map (·.1))).length = es.length := by rw [(sortV_permV _).length_eq, List.length_map]
  rw [hi.ks] at h1
  have := names_len p []
  simp only [List.length_nil, Nat.zero_add] at this
  omega
theorem srtC_law {l : V} {es : List (V × V × Bool)} (hl : LOK l) (hi : NInv l.els es) {st : Nat} (k : List V → Option R) : srtC st es k = k (namesN [] l.els) := by
  have hf := hl.few
  have hel := es_len hi
  have hk : (keyS es).map (·.1) = es.map (·.1) := by simp [keyS]
  have hn := names_len l.els []
  simp only [List.length_nil, Nat.zero_add] at hn
  have hok : okK (keyS es) = true := by
    have : ∀ q ∈ es, ∃ nm, q.1 = .s nm ∧ nm.length ≤ 1000000 := fun q hq => by
      have h1 : hasS q.1 es = true := hasS_iff.2 (List.mem_map_of_mem hq)
      have h2 := hi.mem.2 h1
      rcases names_mem h2 with h2 | ⟨e, he, h3⟩
      · cases h2
      · exact ⟨_, h3, by have := hl.len e he; omega⟩
    clear hk hel hi
    induction es with
    | nil => rfl
    | cons p r ih =>
      obtain ⟨nm, h1, h2⟩ := this p (by simp)
      have ih := ih (fun q hq => this q (by simp [hq]))
      show ((match p.1 with
        | .s l => Nat.ble l.length 1000000
        | _ => false) && okK (keyS r)) = true
      rw [ih, h1, Bool.and_true]
      exact Nat.ble_eq_true_of_le h2
  unfold srtC
  rw [hok, hk, hi.ks, ln_in (by omega), Nat.beq_refl]
  rw [show (keyS es).length = es.length by simp [keyS], Nat.ble_eq_true_of_le (by omega)]
  rfl
theorem scanR_stop {fr : List V} {m h : Int} {l : V} : ∀ {r xs : List V}, ilt (xs.length : Nat) m = false → scanR fr m l h r xs = xs := by
  intro r
  induction r with
  | nil => intro xs _; rfl
  | cons k r ih =>
    intro xs hx
    simp only [scanR, hx, Bool.and_false, cond_false]
    exact ih hx
theorem and_nl {nl b : Bool} {xs ys : List V} (h1 : nl = true → xs = []) (h2 : b = true → ys = []) : (nl && b) = true → xs ++ ys = [] := by
  intro h
  simp only [Bool.and_eq_true] at h
  rw [h1 h.1, h2 h.2]; rfl
theorem sw_law {l : V} {es : List (V × V × Bool)} (hl : LOK l) (hi : NInv l.els es) {fr : List V} {m h : Int} (ha : 0 ≤ h) (ha2 : h ≤ 1000000000) {nk : Bool} {ks : List V} (hks : ∀ k ∈ ks, k ∈ namesN [] l.els) {kx : QSw → Option R} {ko : List V → Option R}
    (hkx : ∀ xs nl i, (nl = true → xs = []) → kx (.o es fr m h xs nl ks nk (ks.length : Nat) i) = ko xs) : ∀ (r a xs : List V) (nl : Bool) (fuel : Nat), ks = a ++ r → ks.length ≤ 10000 → xs.length ≤ a.length → (nl = true → xs = []) → r.length < fuel →
    lpC (BSw R) fuel (.m es fr m h xs nl ks nk (ks.length : Nat) (a.length : Nat)) kx = ko (scanR fr m l h r xs) := by
  have hf := hl.few
  intro r
  induction r with
  | nil =>
    intro a xs nl fuel he hz hx hnl hfu
    obtain ⟨f, rfl⟩ : ∃ f, fuel = f + 1 := ⟨fuel - 1, by omega⟩
    rw [List.append_nil] at he
    subst he
    rw [lpC, BSw_m, il_f, cond_false, hkx _ _ _ hnl]; rfl
  | cons k r ih =>
    intro a xs nl fuel he hz hx hnl hfu
    obtain ⟨f, rfl⟩ : ∃ f, fuel = f + 1 := ⟨fuel - 1, by omega⟩
    simp only [List.length_cons] at hfu
    have hle : ks.length = a.length + (r.length + 1) := by rw [he]; simp
    have nx : ∀ (ys : List V) (nl' : Bool), ys.length ≤ a.length + 1 → (nl' = true → ys = []) → lpC (BSw R) f (.m es fr m h ys nl' ks nk (ks.length : Nat) (W64 ((a.length : Nat) + 1))) kx = ko (scanR fr m l h r ys) := by
      intro ys nl' hy hn'
      have ih := ih (a ++ [k]) ys nl' f (by rw [he]; simp) hz (by simpa using hy) hn' (by omega)
      simp only [List.length_append, List.length_singleton] at ih
      rw [i_next (by omega)]
      exact ih
    have hkm := hks k (by rw [he]; simp)
    have hhas := hi.mem.1 hkm
    obtain ⟨e, hee, rfl⟩ : ∃ e ∈ l.els, k = .s (nmE e) := by
      rcases names_mem hkm with h2 | h2
      · cases h2
      · exact h2
    obtain ⟨t1, t2, t3, t4, t5, t6, hzz⟩ := live_at hl hi hhas
    have hle2 := hist_le (nmE e) l.els
    rw [lpC, BSw_m, il_t he, cond_true, ck_in (by omega) (by omega), ln_in (by omega), gd_at he]
    rw [show (V.s (nmE e)).els = nmE e from rfl, hhas, t1, t3, t4, live_eq hl hi ha ha2 hhas, Nat.ble_eq_true_of_le (show (histS (nmE e) l.els).length ≤ 10000 by omega)]
    simp only [cond_true]
    have e1 : ile m (xs.length : Nat) = !(ilt (xs.length : Nat) m) := by
      rw [ile_d, ilt_d]
      by_cases q : m ≤ (xs.length : Nat)
      · have : ¬ ((xs.length : Nat) : Int) < m := by omega
        simp [q, this]
      · have : ((xs.length : Nat) : Int) < m := by omega
        simp [q, this]
    rw [e1]
    cases hm : ilt (xs.length : Nat) m with
    | false =>
      rw [Bool.not_false, cond_true, hkx _ _ _ hnl, scanR_stop hm]
    | true =>
      rw [Bool.not_true, cond_false]
      simp only [scanR, hm, Bool.and_true, show (V.s (nmE e)).els = nmE e from rfl]
      cases hq : liveQ (nmE e) l h with
      | false => exact nx xs nl (by omega) hnl
      | true =>
        have hE : liveE (nmE e) l h = lsV (histS (nmE e) l.els) := by unfold liveE; rw [hq]; rfl
        rw [cond_true, Bool.true_and]
        cases sLt (nmE e) fr with
        | true => exact nx xs nl (by omega) hnl
        | false =>
          rw [Bool.not_false, cond_true, cond_true, lim_in (by simp only [List.length_singleton]; omega), hE]
          exact nx _ _ (by simp; omega) (fun q => by simp at q)
theorem ew_law {l : V} {es : List (V × V × Bool)} (hl : LOK l) (hi : NInv l.els es) {h : Int} {nk : Bool} {ks : List V} (hks : ∀ k ∈ ks, k ∈ namesN [] l.els) {kx : QEw → Option R} {ko : List V → Option R}
    (hkx : ∀ xs nl i, (nl = true → xs = []) → kx (.o es h xs nl ks nk (ks.length : Nat) i) = ko xs) : ∀ (r a xs : List V) (nl : Bool) (fuel : Nat), ks = a ++ r → ks.length ≤ 10000 → xs.length ≤ a.length → (nl = true → xs = []) → r.length < fuel →
    lpC (BEw R) fuel (.m es h xs nl ks nk (ks.length : Nat) (a.length : Nat)) kx = ko (endsR l h r xs) := by
  have hf := hl.few
  intro r
  induction r with
  | nil =>
    intro a xs nl fuel he hz hx hnl hfu
    obtain ⟨f, rfl⟩ : ∃ f, fuel = f + 1 := ⟨fuel - 1, by omega⟩
    rw [List.append_nil] at he
    subst he
    rw [lpC, BEw_m, il_f, cond_false, hkx _ _ _ hnl]; rfl
  | cons k r ih =>
    intro a xs nl fuel he hz hx hnl hfu
    obtain ⟨f, rfl⟩ : ∃ f, fuel = f + 1 := ⟨fuel - 1, by omega⟩
    simp only [List.length_cons] at hfu
    have hle : ks.length = a.length + (r.length + 1) := by rw [he]; simp
    have nx : ∀ (ys : List V) (nl' : Bool), ys.length ≤ a.length + 1 → (nl' = true → ys = []) → lpC (BEw R) f (.m es h ys nl' ks nk (ks.length : Nat) (W64 ((a.length : Nat) + 1))) kx = ko (endsR l h r ys) := by
      intro ys nl' hy hn'
      have ih := ih (a ++ [k]) ys nl' f (by rw [he]; simp) hz (by simpa using hy) hn' (by omega)
      simp only [List.length_append, List.length_singleton] at ih
      rw [i_next (by omega)]
      exact ih
    have hkm := hks k (by rw [he]; simp)
    have hhas := hi.mem.1 hkm
    obtain ⟨e, hee, rfl⟩ : ∃ e ∈ l.els, k = .s (nmE e) := by
      rcases names_mem hkm with h2 | h2
      · cases h2
      · exact h2
    obtain ⟨t1, t2, t3, t4, t5, t6, hzz⟩ := live_at hl hi hhas
    have hle2 := hist_le (nmE e) l.els
    rw [lpC, BEw_m, il_t he, cond_true, ck_in (by omega) (by omega), gd_at he]
    rw [show (V.s (nmE e)).els = nmE e from rfl, hhas, t1, t3, t4, Nat.ble_eq_true_of_le (show (histS (nmE e) l.els).length ≤ 10000 by omega)]
    simp only [cond_true]
    show (bif ieq (W64 (((lsV (histS (nmE e) l.els)).nth 2).int + 8)) h then _ else _) = ko (endsR l h r (bif ieq (W64 (((lsV (histS (nmE e) l.els)).nth 2).int + 8)) h then xs ++ [.s (nmE e)] else xs))
    cases ieq (W64 (((lsV (histS (nmE e) l.els)).nth 2).int + 8)) h with
    | false => exact nx xs nl (by omega) hnl
    | true =>
      rw [cond_true, cond_true, lim_in (by simp only [List.length_singleton]; omega)]
      exact nx _ _ (by simp; omega) (fun q => by simp at q)
theorem aw_law {l : V} {es : List (V × V × Bool)} (hl : LOK l) (hi : NInv l.els es) {nk : Bool} {ks : List V} (hks : ∀ k ∈ ks, k ∈ namesN [] l.els) {kx : QAw → Option R} {ko : List V → Option R}
    (hkx : ∀ xs nl i, (nl = true → xs = []) → kx (.o es xs nl ks nk (ks.length : Nat) i) = ko xs) : ∀ (r a xs : List V) (nl : Bool) (fuel : Nat), ks = a ++ r → ks.length ≤ 10000 → xs.length ≤ a.length * 10000 → (nl = true → xs = []) → r.length < fuel →
    lpC (BAw R) fuel (.m es xs nl ks nk (ks.length : Nat) (a.length : Nat)) kx = ko (flatR l.els r xs) := by
  have hf := hl.few
  intro r
  induction r with
  | nil =>
    intro a xs nl fuel he hz hx hnl hfu
    obtain ⟨f, rfl⟩ : ∃ f, fuel = f + 1 := ⟨fuel - 1, by omega⟩
    rw [List.append_nil] at he
    subst he
    rw [lpC, BAw_m, il_f, cond_false, hkx _ _ _ hnl]; rfl
  | cons k r ih =>
    intro a xs nl fuel he hz hx hnl hfu
    obtain ⟨f, rfl⟩ : ∃ f, fuel = f + 1 := ⟨fuel - 1, by omega⟩
    simp only [List.length_cons] at hfu
    have hle : ks.length = a.length + (r.length + 1) := by rw [he]; simp
    have hkm := hks k (by rw [he]; simp)
    have hhas := hi.mem.1 hkm
    obtain ⟨e, hee, rfl⟩ : ∃ e ∈ l.els, k = .s (nmE e) := by
      rcases names_mem hkm with h2 | h2
      · cases h2
      · exact h2
    obtain ⟨t1, t2, t3, t4, t5, t6, hzz⟩ := live_at hl hi hhas
    have hle2 := hist_le (nmE e) l.els
    have ih := ih (a ++ [.s (nmE e)]) (xs ++ histS (nmE e) l.els) (nl && (histS (nmE e) l.els).isEmpty) f (by rw [he]; simp) hz (by simp only [List.length_append, List.length_singleton]; omega) (and_nl hnl (fun q => List.isEmpty_iff.1 q)) (by omega)
    simp only [List.length_append, List.length_singleton] at ih
    rw [lpC, BAw_m, il_t he, cond_true, ck_in (by omega) (by omega), gd_at he]
    rw [show (V.s (nmE e)).els = nmE e from rfl, hhas, t1, cond_true, lim_in (by omega), i_next (by omega)]
    exact ih
theorem scanR_len {fr : List V} {m h : Int} {l : V} : ∀ (r xs : List V), (scanR fr m l h r xs).length ≤ xs.length + r.length := by
  intro r
  induction r with
  | nil => intro xs; exact Nat.le_refl _
  | cons k r ih =>
    intro xs
    simp only [scanR]
    refine Nat.le_trans (ih _) ?_
    cases liveQ k.els l h && (!(sLt k.els fr) && ilt (xs.length : Nat) m) <;> simp <;> omega
theorem endsR_len {h : Int} {l : V} : ∀ (r xs : List V), (endsR l h r xs).length ≤ xs.length + r.length := by
  intro r
  induction r with
  | nil => intro xs; exact Nat.le_refl _
  | cons k r ih =>
    intro xs
    simp only [endsR]
    refine Nat.le_trans (ih _) ?_
    cases ieq (W64 (((lsV (histS k.els l.els)).nth 2).int + 8)) h <;> simp <;> omega
theorem flatR_len {l : List V} : ∀ (r xs : List V), (flatR l r xs).length ≤ xs.length + r.length * l.length := by
  intro r
  induction r with
  | nil => intro xs; show xs.length ≤ _; simp
  | cons k r ih =>
    intro xs
    simp only [flatR]
    refine Nat.le_trans (ih _) ?_
    have := hist_le k.els l
    simp only [List.length_append, List.length_cons, Nat.succ_mul]; omega
end Go.Vm


namespace Go.Vm
open Go.RowKit
variable {R : Type}
set_option linter.unusedVariables false
set_option linter.constructorNameAsVariable false
set_option linter.unusedSimpArgs false

def smX (xs ys : List V) (k : Option R) : Option R := bif Nat.ble xs.length 100000 && Nat.ble ys.length 100000 then bif veqL xs ys then k else none else none
theorem smC2_eq {nl : Bool} {xs ys : List V} {k : Option R} (h1 : nl = true → xs = []) : smC2 nl xs ys k = smX xs ys k := by
  have he : (bif nl then V.n else .l xs).els = xs := by
    cases nl with
    | true => rw [h1 rfl]; rfl
    | false => rfl
  unfold smC2 smX
  rw [he]
theorem smX_law {xs : List V} {k : Option R} (h : xs.length ≤ 100000) : smX xs xs k = k := by
  unfold smX
  rw [Nat.ble_eq_true_of_le h, Bool.and_self, cond_true, (veqL_iff _ _).2 rfl, cond_true]
theorem sw_run {l : V} {es : List (V × V × Bool)} (hl : LOK l) (h41 : l.els.length ≤ 41) (hi : NInv l.els es) {fr : List V} {m h : Int} (ha : 0 ≤ h) (ha2 : h ≤ 1000000000) {nk : Bool} {rest : Option R} {kx : QSw → Option R}
    (hkx : ∀ xs nl i, kx (.o es fr m h xs nl (namesN [] l.els) nk ((namesN [] l.els).length : Nat) i) = bif Nat.ble l.els.length 10000 then smC2 nl xs (scanR fr m l h (namesN [] l.els) []) rest else none) :
    lpC (BSw R) (hid FU) (.m es fr m h [] true (namesN [] l.els) nk ((namesN [] l.els).length : Nat) 0) kx = rest := by
  have hq := fq_big
  have hnl := names_len l.els []
  have l1 := scanR_len (fr := fr) (m := m) (h := h) (l := l) (namesN [] l.els) []
  simp only [List.length_nil, Nat.zero_add] at hnl l1
  refine (sw_law (ko := fun xs => smX xs (scanR fr m l h (namesN [] l.els) []) rest) hl hi ha ha2 (fun k hk => hk) (fun xs nl i hx => ?_) (namesN [] l.els) [] [] true (hid FU) rfl (by omega) (by simp) (fun _ => rfl) (by omega)).trans (smX_law (by omega))
  rw [hkx, Nat.ble_eq_true_of_le hl.few, cond_true]
  exact smC2_eq hx
theorem ew_run {l : V} {es : List (V × V × Bool)} (hl : LOK l) (h41 : l.els.length ≤ 41) (hi : NInv l.els es) {h : Int} {nk : Bool} {rest : Option R} {kx : QEw → Option R}
    (hkx : ∀ xs nl i, kx (.o es h xs nl (namesN [] l.els) nk ((namesN [] l.els).length : Nat) i) = bif Nat.ble l.els.length 10000 then smC2 nl xs (endsR l h (namesN [] l.els) []) rest else none) :
    lpC (BEw R) (hid FU) (.m es h [] true (namesN [] l.els) nk ((namesN [] l.els).length : Nat) 0) kx = rest := by
  have hq := fq_big
  have hnl := names_len l.els []
  have l2 := endsR_len (h := h) (l := l) (namesN [] l.els) []
  simp only [List.length_nil, Nat.zero_add] at hnl l2
  refine (ew_law (ko := fun xs => smX xs (endsR l h (namesN [] l.els) []) rest) hl hi (fun k hk => hk) (fun xs nl i hx => ?_) (namesN [] l.els) [] [] true (hid FU) rfl (by omega) (by simp) (fun _ => rfl) (by omega)).trans (smX_law (by omega))
  rw [hkx, Nat.ble_eq_true_of_le hl.few, cond_true]
  exact smC2_eq hx
theorem aw_run {l : V} {es : List (V × V × Bool)} (hl : LOK l) (h41 : l.els.length ≤ 41) (hi : NInv l.els es) {nk : Bool} {rest : Option R} {kx : QAw → Option R}
    (hkx : ∀ xs nl i, kx (.o es xs nl (namesN [] l.els) nk ((namesN [] l.els).length : Nat) i) = bif Nat.ble l.els.length 10000 then smC2 nl xs (flatR l.els (namesN [] l.els) []) rest else none) :
    lpC (BAw R) (hid FU) (.m es [] true (namesN [] l.els) nk ((namesN [] l.els).length : Nat) 0) kx = rest := by
  have hq := fq_big
  have hnl := names_len l.els []
  have l3 := flatR_len (l := l.els) (namesN [] l.els) []
  simp only [List.length_nil, Nat.zero_add] at hnl l3
  have l4 : (namesN [] l.els).length * l.els.length ≤ 41 * 41 := Nat.mul_le_mul (by omega) h41
  refine (aw_law (ko := fun xs => smX xs (flatR l.els (namesN [] l.els) []) rest) hl hi (fun k hk => hk) (fun xs nl i hx => ?_) (namesN [] l.els) [] [] true (hid FU) rfl (by omega) (by simp) (fun _ => rfl) (by omega)).trans (smX_law (by omega))
  rw [hkx, Nat.ble_eq_true_of_le hl.few, cond_true]
  exact smC2_eq hx
/-- All of naming's answers are the document's. -/
theorem tells_law {st : Nat} {l : V} {nm : List V} {a m : Int} (hd : (D.slice DEnt).has l) (hs : (D.slice DEnt).sm l) (hn : nm.length ≤ ML) : tellsG st l nm a m = some () := by
  have hq := fq_big
  have hg : rng [l] = true := by
    show (Nat.ble l.els.length MX && l.els.all fun x => Nat.ble (nmE x).length MX && Nat.ble (x.nth 1).els.length MX) = true
    obtain ⟨h1, h2⟩ := hs
    simp only [Bool.and_eq_true, Nat.ble_eq, List.all_eq_true]
    refine ⟨by simp only [ML, MX] at *; omega, fun x hx => ?_⟩
    obtain ⟨n, v, k, r, rfl, _, _⟩ := ent_v (slice_els hd x hx)
    have h3 := h2 _ hx
    obtain ⟨h4, h5, _⟩ := h3
    exact ⟨Nat.le_trans h4 (by decide), Nat.le_trans h5 (by decide)⟩
  unfold tellsG
  rw [hg, cond_true]
  cases hr : rightN l.els 0 with
  | false => rfl
  | true =>
  obtain ⟨r1, r2⟩ := right_all hr
  have hlen : l.els.length ≤ 41 := by
    rcases r2 with r2 | r2
    · rw [r2]; decide
    · omega
  have hl : LOK l := ⟨fun e he => by
      obtain ⟨ys, rfl, hy⟩ := slice_els hd e he
      obtain ⟨a, b, c, d, rfl, ⟨na, rfl, _⟩, _⟩ := hasL4 hy
      exact ⟨na, rfl⟩, fun e he => (r1 e he).1, fun e he => (r1 e he).2.2, by omega⟩
  rw [cond_true, ln_in (Nat.le_trans hn (by decide))]
  cases h1 : ilt 100 (nm.length : Nat) with
  | true => rfl
  | false =>
  rw [cond_false]
  cases h2 : ilt a 0 with
  | true => rfl
  | false =>
  rw [cond_false]
  cases h3 : ilt 1000000000 a with
  | true => rfl
  | false =>
  rw [ilt_d] at h2 h3
  simp only [decide_eq_false_iff_not] at h2 h3
  have ha : 0 ≤ a := by omega
  have ha2 : a ≤ 1000000000 := by omega
  rw [cond_false, ln_in (by omega)]
  obtain ⟨es, hi, hrun⟩ := nn_law (R := Unit) (l := l) hl.nm l.els [] [] (hid FU) rfl (by simp; omega) NInv.nil (by omega)
  refine (hrun _).trans ?_
  show (lvP es nm a fun e is => _) = _
  rw [lvP_law hl hi ha ha2, lvC_law hl.few, hsP_law hl hi, srtC_law hl hi]
  refine (sw_run hl hlen hi ha ha2 (fun xs nl i => rfl)).trans ?_
  rw [srtC_law hl hi]
  refine (ew_run hl hlen hi (fun xs nl i => rfl)).trans ?_
  rw [srtC_law hl hi]
  exact aw_run hl hlen hi (fun xs nl i => rfl)
end Go.Vm

end
