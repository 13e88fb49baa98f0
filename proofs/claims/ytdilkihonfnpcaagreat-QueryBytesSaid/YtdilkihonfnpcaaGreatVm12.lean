/- What the operations of a program do, shown once for all programs; and numbers. -/
import Derived.Test.YtdilkihonfnpcaaGreatVm11
import Derived.Test.YtdilkihonfnpcaaGreatVm10
set_option linter.constructorNameAsVariable false
set_option linter.unusedVariables false
set_option linter.unusedSimpArgs false
noncomputable section
namespace Go.Vm
open Go.RowKit
variable {P : Program} {T : TT}
set_option linter.unusedVariables false
set_option linter.constructorNameAsVariable false

/-! ### Arguments, opened: what the row's reading says, as data -/
abbrev ML : Nat := 9223372036854775807
mutual
/-- None is longer than may be. -/
def D.sm : D → V → Prop
  | .str, x => x.els.length ≤ ML
  | .slice d, x => x.els.length ≤ ML ∧ ∀ y ∈ x.els, D.sm d y
  | .arr _ d, x => ∀ y ∈ x.els, D.sm d y
  | .struct ds, x => D.smL ds x.els
  | _, _ => True
def D.smL : List D → List V → Prop
  | d :: ds, x :: xs => D.sm d x ∧ D.smL ds xs
  | _, _ => True
end
theorem TOK.zero (hT : TOK T P) {t : Nat} {k : TK} (hk : kOf T t = some k) (ho : k ≠ .other) : ∃ x cs, ∀ e, RV T e [t] [x] cs := by
  obtain ⟨te, h1, rfl⟩ := kOf_some hk
  obtain ⟨i, d, z, _, _, _, _, _, _, h7, _⟩ := (hT _ _ h1).fits
  rcases h7 with h7 | h7
  · exact ⟨_, _, h7⟩
  · exact absurd h7 ho
theorem RV.sz1 {e : Env} {t : Nat} {x : V} {cs : List Value} {k : TK} (hk : kOf T t = some k) (ha : k.agg = false) (h : RV T e [t] [x] cs) : szT T t = 1 := by
  cases h with
  | int _ h2 => exact h2
  | bool _ h2 => exact h2
  | str _ h2 => exact h2
  | ptr _ h2 => exact h2
  | nils _ h2 => exact h2
  | map _ h2 => exact h2
  | func _ h2 => exact h2
  | fn _ h2 => exact h2
  | slice _ h2 => exact h2
  | arr h1 => rw [hk] at h1; cases h1; cases ha
  | struct h1 => rw [hk] at h1; cases h1; cases ha
def e0 : Env := { w := default, ι := fun _ => none, S := fun _ _ => False, bn := fun _ => 0, U := fun _ => False, ty := fun _ => 0, ln := fun _ => 0 }
theorem TOK.sz1 (hT : TOK T P) {t : Nat} {k : TK} (hk : kOf T t = some k) (ha : k.agg = false) (ho : k ≠ .other) : szT T t = 1 := by
  obtain ⟨x, cs, h⟩ := hT.zero hk ho
  exact (h e0).sz1 hk ha
theorem TOK.szS (hT : TOK T P) {t : Nat} {fs : List Nat} (hk : kOf T t = some (.struct fs)) : szT T t = szs T fs := by
  obtain ⟨x, cs, h⟩ := hT.zero hk (by intro h; cases h)
  obtain ⟨ys, rfl, g⟩ := (h e0).struct_inv hk
  have h1 := (h e0).length.1
  have h2 := g.length.1
  simp only [szs] at h1; omega
theorem TOK.szA (hT : TOK T P) {t n el : Nat} (hk : kOf T t = some (.arr n el)) : szT T t = n * szT T el := by
  obtain ⟨x, cs, h⟩ := hT.zero hk (by intro h; cases h)
  obtain ⟨ys, rfl, _, g⟩ := (h e0).arr_inv hk
  have h1 := (h e0).length.1
  have h2 := g.length.1
  rw [szs_replicate] at h2
  simp only [szs] at h1; omega
theorem TOK.cells (hT : TOK T P) {t : Nat} {k : TK} (hk : kOf T t = some k) : P.cellsOf t = szT T t := by
  obtain ⟨te, h1, rfl⟩ := kOf_some hk
  obtain ⟨i, d, z, g1, _, g3, _⟩ := (hT _ _ h1).fits
  unfold Program.cellsOf
  rw [g1, szT_of h1, ← g3]; rfl
theorem inR_wf {k : IntKind} {n : Int} (h : (Lit.int k n).wf = true) : inR k n := by
  have : k.min ≤ n ∧ n ≤ k.max := by simpa [Lit.wf, Bool.and_eq_true, decide_eq_true_eq] using h
  cases k <;> simpa [inR, lo, hi, IntKind.min, IntKind.max, IntKind.signed, IntKind.bits] using this
theorem add_add (a : Addr) (p q : Nat) : (a.add p).add q = a.add (p + q) := by
  unfold Addr.add
  by_cases h1 : p = 0
  · subst h1; simp
  · by_cases h2 : q = 0
    · subst h2; simp [h1]
    · simp [h1, h2, show p + q ≠ 0 by omega, Nat.add_assoc]
theorem cells_get {w : World} {b0 : Nat} {a : Addr} {n : Nat} {l : List Value} (h : w.cells? b0 a n = some l) : l.length = n ∧ ∀ k, k < n → w.cell? (a.add k) = l[k]? := by
  unfold World.cells? at h
  split at h <;> try (cases h; done)
  have h1 := mapM_some_length h
  refine ⟨by simpa using h1, fun k hk => ?_⟩
  exact mapM_some_get h k k (by simp [hk])
section
variable {w : World} {H : Type} {enc : TypeId × Value → H}
theorem rv_parts {el : Nat} {e : Env} {q : V → Prop} : ∀ (n : Nat) (cs : List Value), cs.length = n * szT T el → (∀ i, i < n → ∃ y, RV T e [el] [y] ((cs.drop (i * szT T el)).take (szT T el)) ∧ q y) → ∃ ys, ys.length = n ∧ RV T e (List.replicate n el) ys cs ∧ ∀ y ∈ ys, q y := by
  intro n
  induction n with
  | zero =>
    intro cs hl _
    have : cs = [] := List.eq_nil_of_length_eq_zero (by simpa using hl)
    subst this
    exact ⟨[], rfl, .nil, fun y hy => by cases hy⟩
  | succ n ih =>
    intro cs hl hp
    rw [Nat.succ_mul] at hl
    obtain ⟨y, hy, hq⟩ := hp 0 (by omega)
    rw [Nat.zero_mul, List.drop_zero] at hy
    obtain ⟨ys, h1, h2, h3⟩ := ih (cs.drop (szT T el)) (by rw [List.length_drop]; omega) (fun i hi => by
      obtain ⟨z, hz, hqz⟩ := hp (i + 1) (by omega)
      refine ⟨z, ?_, hqz⟩
      rw [List.drop_drop, show szT T el + i * szT T el = (i + 1) * szT T el by rw [Nat.succ_mul]; omega]
      exact hz)
    refine ⟨y :: ys, by simp [h1], ?_, fun z hz => ?_⟩
    · have := RV.append hy h2
      rw [List.take_append_drop] at this
      exact this
    · rcases List.mem_cons.1 hz with rfl | hz
      · exact hq
      · exact h3 z hz
theorem rv_fields {e : Env} : ∀ (fs : List Nat) (n : Nat) (ds : List D) (cs : List Value), descL T n fs = some ds → cs.length = szs T fs → (∀ (j f m : Nat) (d : D), m ≤ n → fs[j]? = some f → descT T m f = some d → ∃ y, RV T e [f] [y] ((cs.drop (szs T (fs.take j))).take (szT T f)) ∧ d.sm y) → ∃ ys, RV T e fs ys cs ∧ D.smL ds ys := by
  intro fs
  induction fs with
  | nil =>
    intro n ds cs hd hl _
    have : cs = [] := List.eq_nil_of_length_eq_zero hl
    subst this
    rw [descL] at hd; cases hd
    exact ⟨[], .nil, trivial⟩
  | cons f r ih =>
    intro n ds cs hd hl hp
    cases n with
    | zero => rw [descL] at hd; cases hd
    | succ n =>
    rw [descL] at hd
    split at hd <;> try (cases hd; done)
    rename_i d hd1
    split at hd <;> cases hd
    rename_i ds' hds
    simp only [szs] at hl
    obtain ⟨y, hy, hq⟩ := hp 0 f n d (by omega) rfl hd1
    simp only [List.take_zero, szs, List.drop_zero] at hy
    obtain ⟨ys, h2, h3⟩ := ih n ds' (cs.drop (szT T f)) hds (by rw [List.length_drop]; omega) (fun j g m d' hm hj hd' => by
      obtain ⟨z, hz, hqz⟩ := hp (j + 1) g m d' (by omega) (by simpa using hj) hd'
      refine ⟨z, ?_, hqz⟩
      rw [List.drop_drop]
      simpa only [List.take_succ_cons, szs] using hz)
    refine ⟨y :: ys, ?_, hq, h3⟩
    have := RV.append hy h2
    rw [List.take_append_drop] at this
    exact this
theorem descL_at : ∀ {ts : List Nat} {n : Nat} {ds : List D}, descL T n ts = some ds → ∀ (j t : Nat), ts[j]? = some t → ∃ m d, m ≤ n ∧ descT T m t = some d := by
  intro ts
  induction ts with
  | nil => intro n ds _ j t hj; simp at hj
  | cons u r ih =>
    intro n ds h j t hj
    cases n with
    | zero => rw [descL] at h; cases h
    | succ n =>
      rw [descL] at h
      split at h <;> try (cases h; done)
      rename_i d hd
      split at h <;> cases h
      rename_i ds' hds
      cases j with
      | zero => simp at hj; subst hj; exact ⟨n, d, by omega, hd⟩
      | succ j => obtain ⟨m, d', h1, h2⟩ := ih hds j t (by simpa using hj); exact ⟨m, d', by omega, h2⟩
theorem trod_rv (hT : TOK T P) : ∀ (n m : Nat), m ≤ n → ∀ (t : Nat) (d : D), descT T m t = some d → ∀ (fuel : Nat) (cs : List Value) (x : DataW H × List MemPlace), DataW.trod enc P w 0 (fun _ => true) true fuel t cs = some x → ∃ y, RV T (base w) [t] [y] cs ∧ d.sm y := by
  intro n
  induction n with
  | zero => intro m hm t d h; obtain rfl : m = 0 := by omega
            rw [descT] at h; cases h
  | succ n ih =>
    intro m hm t d h fuel cs x hx
    cases m with
    | zero => rw [descT] at h; cases h
    | succ m =>
    have hm : m ≤ n := by omega
    rw [descT] at h
    split at h
    · rename_i k hk
      obtain ⟨te, h1, h2⟩ := kOf_some hk
      obtain ⟨v, rfl, _, hw⟩ := DataW.trod_int (under_int (hT _ _ h1) h2) hx
      cases h; exact ⟨.i v, .int hk (hT.sz1 hk rfl (by intro h; cases h)) (inR_wf hw) .nil, trivial⟩
    · rename_i hk
      obtain ⟨te, h1, h2⟩ := kOf_some hk
      obtain ⟨b, rfl, _⟩ := DataW.trod_bool (under_bool (hT _ _ h1) h2) hx
      cases h; exact ⟨.b b, .bool hk (hT.sz1 hk rfl (by intro h; cases h)) .nil, trivial⟩
    · rename_i hk
      obtain ⟨te, h1, h2⟩ := kOf_some hk
      obtain ⟨s, rfl, _, hsz⟩ := DataW.trod_string (under_str (hT _ _ h1) h2) hx
      cases h
      refine ⟨.s (txt s), .str hk (hT.sz1 hk rfl (by intro h; cases h)) .nil, ?_⟩
      show (txt s).length ≤ ML
      unfold txt
      rw [List.length_map, Array.length_toList]
      exact Nat.le_trans hsz (by decide)
    · rename_i el hk
      split at h <;> cases h
      rename_i d hd
      obtain ⟨te, h1, h2⟩ := kOf_some hk
      have hz1 := hT.sz1 hk rfl (by intro h; cases h)
      rcases DataW.trod_slice (under_slice (hT _ _ h1) h2) hx with ⟨rfl, _⟩ | ⟨a, len, cap, elems, rest, k, _, rfl, _, _, hcap, hmx, hel, he, _, _⟩
      · exact ⟨.n, .nils hk hz1 .nil, Nat.zero_le _, fun y hy => by cases hy⟩
      · have hsz : P.cellsOf el = szT T el := by
          cases hke : kOf T el with
          | none => cases m with
            | zero => rw [descT] at hd; cases hd
            | succ m => rw [descT, hke] at hd; cases hd
          | some ke => exact hT.cells hke
        rw [hsz] at he
        have key : ∀ i, i < len → ∃ l y, l.length = szT T el ∧ (∀ k, k < szT T el → w.cell? (a.add (i * szT T el + k)) = l[k]?) ∧ RV T (base w) [el] [y] l ∧ d.sm y := fun i hi => by
          have h3 := he i hi
          rw [List.getElem?_eq_getElem (by omega)] at h3
          obtain ⟨l, g1, g2⟩ := Option.bind_eq_some_iff.1 h3
          obtain ⟨g3, g4⟩ := cells_get g1
          obtain ⟨y, hy, hq⟩ := ih m hm el d hd _ _ _ g2
          exact ⟨l, y, g3, fun k hk => by rw [← g4 k hk, add_add], hy, hq⟩
        have hcell : ∀ j, j < len * szT T el → ∃ v, w.cell? (a.add j) = some v := fun j hj => by
          have hpos : 0 < szT T el := by
            rcases Nat.eq_zero_or_pos (szT T el) with h0 | h0
            · rw [h0] at hj; omega
            · exact h0
          have hi : j / szT T el < len := Nat.div_lt_of_lt_mul (by rw [Nat.mul_comm]; exact hj)
          obtain ⟨l, y, g1, g2, _⟩ := key _ hi
          have hk := Nat.mod_lt j hpos
          have := g2 _ hk
          rw [show j / szT T el * szT T el + j % szT T el = j by rw [Nat.mul_comm]; exact Nat.div_add_mod j _, List.getElem?_eq_getElem (by omega)] at this
          exact ⟨_, this⟩
        let ds : List Value := (List.range (len * szT T el)).map fun j => (w.cell? (a.add j)).getD undef
        have hds : ds.length = len * szT T el := by simp [ds]
        have hget : ∀ j, j < len * szT T el → ds[j]? = w.cell? (a.add j) := fun j hj => by
          obtain ⟨v, hv⟩ := hcell j hj
          simp only [ds, List.getElem?_map, List.getElem?_range hj, Option.map_some, hv, Option.getD_some]
        have hparts : ∀ i, i < len → ∃ y, RV T (base w) [el] [y] ((ds.drop (i * szT T el)).take (szT T el)) ∧ d.sm y := fun i hi => by
          obtain ⟨l, y, g1, g2, g3, g4⟩ := key i hi
          refine ⟨y, ?_, g4⟩
          have : (ds.drop (i * szT T el)).take (szT T el) = l := by
            apply List.ext_getElem?
            intro k
            rcases Nat.lt_or_ge k (szT T el) with hk | hk
            · have : (i + 1) * szT T el ≤ len * szT T el := Nat.mul_le_mul_right _ (by omega)
              rw [Nat.succ_mul] at this
              rw [List.getElem?_take_of_lt hk, List.getElem?_drop, hget _ (by omega), g2 k hk]
            · rw [List.getElem?_eq_none (by simp; omega), List.getElem?_eq_none (by omega)]
          rw [this]; exact g3
        obtain ⟨ys, h4, h5, h6⟩ := rv_parts len ds hds hparts
        refine ⟨.l ys, .slice hk hz1 h4 hcap ⟨fun hne => ?_, fun j y hj => ?_⟩ h5 .nil, ?_, h6⟩
        · have hpos : 0 < len * szT T el := by
            rcases Nat.eq_zero_or_pos (len * szT T el) with h0 | h0
            · exact absurd (List.eq_nil_of_length_eq_zero (hds.trans h0)) hne
            · exact h0
          obtain ⟨v, hv⟩ := hcell 0 hpos
          simpa [Addr.add] using World.cell?_spot hv
        · have hjl : j < len * szT T el := by rw [← hds]; exact (List.getElem?_eq_some_iff.1 hj).1
          rw [hget j hjl] at hj
          refine ⟨hj, ?_⟩
          have := cell_block hj
          rw [add_block'] at this
          exact this
        · show ys.length ≤ ML
          rw [h4]; exact Nat.le_trans hcap (Nat.le_trans hmx (by decide))
    · rename_i k el hk
      split at h <;> cases h
      rename_i d hd
      obtain ⟨te, h1, h2⟩ := kOf_some hk
      obtain ⟨xs, m', _, _, hl, hn, hi⟩ := DataW.trod_array (under_arr (hT _ _ h1) h2) hx
      have hsz : P.cellsOf el = szT T el := by
        cases hke : kOf T el with
        | none => cases m with
          | zero => rw [descT] at hd; cases hd
          | succ m => rw [descT, hke] at hd; cases hd
        | some ke => exact hT.cells hke
      rw [hT.cells hk, hT.szA hk] at hl
      obtain ⟨ys, h4, h5, h6⟩ := rv_parts (q := d.sm) k cs hl (fun i h => by
        have h3 := hi i h
        rw [hsz, List.getElem?_eq_getElem (by omega)] at h3
        exact ih m hm el d hd _ _ _ h3)
      refine ⟨.l ys, ?_, h6⟩
      have := RV.arr hk (by rw [hT.szA hk, hl]) h5 (RV.nil (T := T) (e := base w))
      rwa [List.append_nil] at this
    · rename_i fs hk
      split at h <;> cases h
      rename_i ds hd
      obtain ⟨te, h1, h2⟩ := kOf_some hk
      obtain ⟨gs, g1, g2, g3⟩ := under_struct (hT _ _ h1) h2
      obtain ⟨xs, m', _, _, hl, hn, hi⟩ := DataW.trod_struct g1 hx
      rw [hT.cells hk, hT.szS hk] at hl
      obtain ⟨ys, h5, h6⟩ := rv_fields fs m ds cs hd hl (fun j f m1 d1 hm1 hj hd1 => by
        obtain ⟨g, q1, rfl⟩ := struct_field g2 hj
        have h3 := hi j g q1
        have hlt : j < xs.length := by rw [hn]; exact (Array.getElem?_eq_some_iff.1 q1).1
        have hsz : P.cellsOf g.type = szT T g.type := by
          cases hke : kOf T g.type with
          | none => cases m1 with
            | zero => rw [descT] at hd1; cases hd1
            | succ m1 => rw [descT, hke] at hd1; cases hd1
          | some ke => exact hT.cells hke
        rw [hsz, g3 j g q1, List.getElem?_eq_getElem hlt] at h3
        exact ih m1 (by omega) _ d1 hd1 _ _ _ h3)
      refine ⟨.l ys, ?_, h6⟩
      have := RV.struct hk (by rw [hT.szS hk, hl]) h5 (RV.nil (T := T) (e := base w))
      rwa [List.append_nil] at this
    · cases h
theorem agg_wide (hT : TOK T P) {t m b : Nat} {v : Value} {d : D} (hd : descT T m t = some d) {r : Reach} (h : Value.okWide P w r b t v) : AggIff T t v := by
  cases m with
  | zero => rw [descT] at hd; cases hd
  | succ m =>
  have no : ∀ {k : TK} {u : TypeDesc}, kOf T t = some k → k.agg = false → P.underlying t = some u → (u = .bool ∨ u = .string ∨ (∃ k, u = .int k) ∨ ∃ e, u = .slice e) → AggIff T t v := fun {k u} hk ha hu hc => by
    refine ⟨fun ⟨k', hk', ha'⟩ => (by rw [hk] at hk'; cases hk'; rw [ha] at ha'; cases ha'), fun ⟨cs, hv⟩ => ?_⟩
    subst hv
    rcases hc with rfl | rfl | ⟨k', rfl⟩ | ⟨e', rfl⟩ <;> simp [Value.okWide, Cell.okWide, Cell.ok, hu] at h
  rw [descT] at hd
  split at hd
  · rename_i k hk; obtain ⟨te, h1, h2⟩ := kOf_some hk
    exact no hk rfl (under_int (hT _ _ h1) h2) (.inr (.inr (.inl ⟨_, rfl⟩)))
  · rename_i hk; obtain ⟨te, h1, h2⟩ := kOf_some hk
    exact no hk rfl (under_bool (hT _ _ h1) h2) (.inl rfl)
  · rename_i hk; obtain ⟨te, h1, h2⟩ := kOf_some hk
    exact no hk rfl (under_str (hT _ _ h1) h2) (.inr (.inl rfl))
  · rename_i el hk; obtain ⟨te, h1, h2⟩ := kOf_some hk
    exact no hk rfl (under_slice (hT _ _ h1) h2) (.inr (.inr (.inr ⟨_, rfl⟩)))
  · rename_i k el hk; obtain ⟨te, h1, h2⟩ := kOf_some hk
    have hu := under_arr (hT _ _ h1) h2
    unfold Value.okWide at h
    rw [hu] at h
    obtain ⟨cs, rfl, _⟩ := h
    exact ⟨fun _ => ⟨cs, rfl⟩, fun _ => ⟨_, hk, rfl⟩⟩
  · rename_i fs hk; obtain ⟨te, h1, h2⟩ := kOf_some hk
    obtain ⟨gs, hu, _⟩ := under_struct (hT _ _ h1) h2
    unfold Value.okWide at h
    rw [hu] at h
    obtain ⟨cs, rfl, _⟩ := h
    exact ⟨fun _ => ⟨cs, rfl⟩, fun _ => ⟨_, hk, rfl⟩⟩
  · cases hd
theorem open_args (hT : TOK T P) {r : Reach} {b : Nat} : ∀ (ts : List Nat) {n : Nat} {Ds : List D} (vs : List Value) {ds : List (DataW H)} {ps : List MemPlace}, descL T n ts = some Ds → DataW.TrodAll enc P w 0 (fun _ => true) true ts vs ds ps →
    (∀ (j : Nat) t v, ts[j]? = some t → vs[j]? = some v → Value.okWide P w r b t v) → ∃ xs, RP T (base w) ts xs vs ∧ D.smL Ds xs := by
  intro ts
  induction ts with
  | nil =>
    intro n Ds vs ds ps _ h _
    cases vs with
    | nil => exact ⟨[], .nil, by cases Ds <;> exact trivial⟩
    | cons v vs => cases ds <;> exact h.elim
  | cons t ts ih =>
    intro n Ds vs ds ps hd h hv
    cases vs with
    | nil => cases ds <;> exact h.elim
    | cons v vs =>
      cases ds with
      | nil => exact h.elim
      | cons d ds =>
        obtain ⟨p, q, ⟨fuel, h1⟩, h2, _⟩ := h
        cases n with
        | zero => rw [descL] at hd; cases hd
        | succ n =>
          rw [descL] at hd
          split at hd <;> try (cases hd; done)
          rename_i D hD
          split at hd <;> cases hd
          rename_i Ds' hDs
          obtain ⟨y, hy, hq⟩ := trod_rv hT n n (Nat.le_refl _) t D hD fuel _ _ h1
          obtain ⟨xs, hxs, hqs⟩ := ih vs hDs h2 (fun j t v h1 h2 => hv (j + 1) t v (by simpa using h1) (by simpa using h2))
          exact ⟨y :: xs, .cons hy (agg_wide hT hD (hv 0 t v rfl rfl)) hxs, hq, hqs⟩
end
/-- Does it answer true? -/
def tellT : Eff → Option Unit := fun out => bif ansB true (some out) then some () else none
theorem ans_of {s : SymC} (hn : s.nat) {args : List A} (h : s Unit args (fun _ => none) 0 tellT = some ()) : ansB true (s.dir args (fun _ => none) 0) = true := by
  rw [hn] at h
  obtain ⟨out, h1, h2⟩ := ob_some h
  rw [h1]
  unfold tellT at h2
  cases hq : ansB true (some out) with
  | true => rfl
  | false => rw [hq] at h2; cases h2
/-- A law of data, by its run. -/
theorem calls_law (hT : TOK T P) {f : FuncId} {fn : Func} {code : Code} {s : SymC} (hf : P.funcs[f]? = some fn) (hb : fn.body = some code) (hn : (fn.name == "runtime.NumGoroutine") = false) (hs : SymOK P T f s.dir) (hnat : s.nat) {ts : List Nat} (hts : ts.all (fun t => (T t).isSome) = true) (n : Nat) {Ds : List D} (hd : descL T n ts = some Ds)
    (hrun : ∀ xs, D.hasL Ds xs → D.smL Ds xs → s Unit (mkAs T ts xs) (fun _ => none) 0 tellT = some ()) {w : World} {vals : Array Value} (ha : ∃ xs, RP T (base w) ts xs vals.toList ∧ D.smL Ds xs) : Calls P f vals w fun en w' => en = .returned (.bool true) ∧ Still w w' := by
  obtain ⟨xs, hx, hq⟩ := ha
  exact calls_of_sym hf hb hn hs (ans_of hnat (hrun xs (TV.has n ⟨_, _, hx⟩ hd) hq)) (hx.reps hts)
end Go.Vm

namespace Go.Vm
open Go.RowKit
set_option linter.unusedVariables false
set_option linter.constructorNameAsVariable false

/-! ### Bytes, plainly -/
def Byt (l : List Nat) : Prop := ∀ a ∈ l, a < 256
theorem Byt.cons {a : Nat} {l : List Nat} (h : Byt (a :: l)) : a < 256 ∧ Byt l := ⟨h a (by simp), fun b hb => h b (by simp [hb])⟩
theorem Byt.app {a b : List Nat} : Byt (a ++ b) ↔ Byt a ∧ Byt b := by
  constructor
  · exact fun h => ⟨fun x hx => h x (by simp [hx]), fun x hx => h x (by simp [hx])⟩
  · rintro ⟨h, g⟩ x hx
    rcases List.mem_append.1 hx with hx | hx
    · exact h x hx
    · exact g x hx
theorem Byt.take {a : List Nat} (h : Byt a) (n : Nat) : Byt (a.take n) := fun x hx => h x (List.mem_of_mem_take hx)
theorem Byt.drop {a : List Nat} (h : Byt a) (n : Nat) : Byt (a.drop n) := fun x hx => h x (List.mem_of_mem_drop hx)
/-- A number's bytes, the lowest first; the number of bytes. -/
def leB : Nat → Nat → List Nat
  | 0, _ => []
  | m + 1, n => n % 256 :: leB m (n / 256)
def leN : List Nat → Nat
  | [] => 0
  | a :: r => a + 256 * leN r
theorem leB_len : ∀ (m n : Nat), (leB m n).length = m := by
  intro m
  induction m with
  | zero => intro n; rfl
  | succ m ih => intro n; simp [leB, ih]
theorem leB_byt : ∀ (m n : Nat), Byt (leB m n) := by
  intro m
  induction m with
  | zero => intro n a ha; cases ha
  | succ m ih =>
    intro n a ha
    rcases List.mem_cons.1 ha with rfl | ha
    · exact Nat.mod_lt _ (by decide)
    · exact ih _ a ha
theorem leN_leB : ∀ (m n : Nat), n < 256 ^ m → leN (leB m n) = n := by
  intro m
  induction m with
  | zero => intro n h; simp at h; subst h; rfl
  | succ m ih =>
    intro n h
    rw [Nat.pow_succ] at h
    simp only [leB, leN]
    rw [ih (n / 256) (Nat.div_lt_of_lt_mul (by omega))]
    omega
theorem leB_leN : ∀ (l : List Nat), Byt l → leB l.length (leN l) = l := by
  intro l
  induction l with
  | nil => intro _; rfl
  | cons a r ih =>
    intro h
    obtain ⟨h1, h2⟩ := h.cons
    simp only [List.length_cons, leB, leN]
    rw [show (a + 256 * leN r) % 256 = a by omega, show (a + 256 * leN r) / 256 = leN r by omega, ih h2]
theorem leN_lt : ∀ (l : List Nat), Byt l → leN l < 256 ^ l.length := by
  intro l
  induction l with
  | nil => intro _; simp [leN]
  | cons a r ih =>
    intro h
    obtain ⟨h1, h2⟩ := h.cons
    have := ih h2
    simp only [List.length_cons, leN, Nat.pow_succ]
    omega
theorem leV_leB : ∀ (m n : Nat), leV m (n : Int) = (leB m n).map nv := by
  intro m
  induction m with
  | zero => intro n; rfl
  | succ m ih =>
    intro n
    show V.i (IntKind.wrap .u8 (n : Int)) :: leV m ((n : Int).fdiv (2 ^ 8)) = nv (n % 256) :: (leB m (n / 256)).map nv
    rw [wrap_u8, Int.fdiv_eq_ediv_of_nonneg _ (by decide), show ((n : Int) / 2 ^ 8) = ((n / 256 : Nat) : Int) by omega, ih, show ((n : Int) % 256) = ((n % 256 : Nat) : Int) by omega]
    rfl
theorem numE_leN : ∀ (l : List Nat), Byt l → l.length ≤ 8 → numE (l.map nv) = (leN l : Nat) := by
  intro l
  induction l with
  | nil => intro _ _; rfl
  | cons a r ih =>
    intro h hl
    obtain ⟨h1, h2⟩ := h.cons
    simp only [List.length_cons] at hl
    have hr := leN_lt r h2
    have hb : 256 ^ r.length ≤ 256 ^ 7 := Nat.pow_le_pow_right (by decide) (by omega)
    have hb : leN r < 72057594037927936 := by have : (256 : Nat) ^ 7 = 72057594037927936 := by decide
                                              omega
    show bitsOf .or .u64 (WU (numE (r.map nv) * 2 ^ 8)) (WU (a : Int)) = _
    rw [ih h2 (by omega), show ((leN r : Nat) : Int) * 2 ^ 8 = ((leN r * 256 : Nat) : Int) by simp, wu64_lt (by omega), wu64_lt (by omega), bits_or64 (by omega) (by omega)]
    have : leN r * 256 ||| a = leN r * 256 + a := by
      have := Nat.two_pow_add_eq_or_of_lt (i := 8) (b := a) (by omega) (leN r)
      rw [show 2 ^ 8 * leN r = leN r * 256 by omega] at this
      exact this.symm
    rw [this]
    simp only [leN]
    rw [show leN r * 256 + a = a + 256 * leN r by omega]
/-! ### Counts -/
def cntB (n : Nat) : List Nat := if n < 253 then [n] else if n < 65536 then 253 :: leB 2 n else if n < 4294967296 then 254 :: leB 4 n else 255 :: leB 8 n
theorem ilt_nat (a b : Nat) : ilt (a : Int) (b : Int) = decide (a < b) := by
  simp only [ilt, iltN_dec]
  rw [Bool.eq_iff_iff, decide_eq_true_eq, decide_eq_true_eq]; omega
theorem cntL_cntB (n : Nat) : cntL (n : Int) = (cntB n).map nv := by
  unfold cntL cntB
  rw [show ilt (n : Int) 253 = decide (n < 253) from ilt_nat n 253, show ilt (n : Int) 65536 = decide (n < 65536) from ilt_nat n 65536, show ilt (n : Int) 4294967296 = decide (n < 4294967296) from ilt_nat n 4294967296, leV_leB, leV_leB, leV_leB, leV_leB]
  by_cases h1 : n < 253
  · simp [h1, leB, nv]; omega
  · by_cases h2 : n < 65536
    · simp [h1, h2, nv]
    · by_cases h3 : n < 4294967296
      · simp [h1, h2, h3, nv]
      · simp [h1, h2, h3, nv]
theorem cntB_byt {n : Nat} : Byt (cntB n) := by
  unfold cntB
  intro a ha
  split at ha
  · simp at ha; omega
  · split at ha
    · rcases List.mem_cons.1 ha with rfl | ha
      · decide
      · exact leB_byt _ _ a ha
    · split at ha
      · rcases List.mem_cons.1 ha with rfl | ha
        · decide
        · exact leB_byt _ _ a ha
      · rcases List.mem_cons.1 ha with rfl | ha
        · decide
        · exact leB_byt _ _ a ha
theorem cntB_len (n : Nat) : (cntB n).length = if n < 253 then 1 else if n < 65536 then 3 else if n < 4294967296 then 5 else 9 := by
  unfold cntB
  by_cases h1 : n < 253
  · simp [h1]
  · by_cases h2 : n < 65536
    · simp [h1, h2, leB_len]
    · by_cases h3 : n < 4294967296
      · simp [h1, h2, h3, leB_len]
      · simp [h1, h2, h3, leB_len]
/-! ### A reader of bytes -/
def rd (r : List Nat) : V := .l [.l (r.map nv), .i 0]
theorem rd_E (r : List Nat) : rdE (rd r) = 0 := rfl
theorem rd_L (r : List Nat) : rdL (rd r) = r.map nv := rfl
theorem sub_map (r : List Nat) (a b : Nat) : sub (r.map nv) (a : Int) (b : Int) = ((r.drop a).take (b - a)).map nv := by
  unfold sub
  rw [Int.toNat_natCast, show ((b : Int) - (a : Int)).toNat = b - a by omega, List.map_take, List.map_drop]
theorem raw_rd (r : List Nat) (n : Nat) : rawX (rd r) (n : Int) = (if r.length < n then .l [.l (r.map nv), .i 61] else rd (r.drop n)) ∧ (rawV (rd r) (n : Int)).els = (if r.length < n then [] else (r.take n).map nv) := by
  unfold rawX rawV
  rw [rd_E, rd_L, show (!ieq 0 0) = false from rfl, List.length_map]
  simp only [cond_false]
  rw [show ilt (n : Int) 1 = decide (n < 1) from ilt_nat n 1, show ilt ((r.length : Nat) : Int) (n : Int) = decide (r.length < n) from ilt_nat _ _]
  by_cases h0 : n < 1
  · obtain rfl : n = 0 := by omega
    simp [rd, V.els]
  · by_cases h1 : r.length < n
    · simp only [h0, h1, decide_false, decide_true, cond_false, cond_true, if_true, V.els]
      exact ⟨rfl, trivial⟩
    · simp only [h0, h1, decide_false, cond_false, if_false, V.els]
      constructor
      · show V.l [.l (sub (r.map nv) (n : Int) ((r.length : Nat) : Int)), .i 0] = _
        rw [sub_map, List.take_of_length_le (by simp)]; rfl
      · show sub (r.map nv) ((0 : Nat) : Int) (n : Int) = _
        rw [sub_map]; simp
theorem wiI_8 : wiI 8 = ((8 : Nat) : Int) := by decide
theorem wiI_4 : wiI 4 = ((4 : Nat) : Int) := by decide
theorem wiI_1 : wiI 1 = ((1 : Nat) : Int) := by decide
/-! What stands at the head. -/
theorem hd_rd (a : Nat) (r : List Nat) : hdI (rd (a :: r)) = (a : Int) := rfl
theorem ieq_nat (a b : Nat) : ieq (a : Int) (b : Int) = decide (a = b) := by
  rw [Bool.eq_iff_iff, ieq_iff, decide_eq_true_eq]; omega
def szOf (a : Nat) : Nat := if a = 253 then 2 else if a = 254 then 4 else if a = 255 then 8 else 0
/-- The first bytes' count. -/
def pkP (r : List Nat) (most : Nat) : Int × Int × Int :=
  match r with
  | [] => (0, 0, 61)
  | a :: r => if r.length < szOf a then (0, 0, 61) else
      let n := if szOf a = 0 then a else leN (r.take (szOf a))
      if (cntB n).length ≠ szOf a + 1 then (0, 0, 62) else if most < n then (0, 0, 62) else ((n : Int), ((szOf a + 1 : Nat) : Int), 0)
theorem pkA_nat (x : V) (most n used : Nat) : pkA x (most : Int) (n : Int) (used : Int) = if (cntB n).length ≠ used then (0, 0, 62) else if most < n then (0, 0, 62) else ((n : Int), ((used : Nat) : Int), 0) := by
  unfold pkA
  rw [cntL_cntB, List.length_map, ieq_nat, ilt_nat]
  by_cases h1 : (cntB n).length = used <;> by_cases h2 : most < n <;> simp [h1, h2]
theorem pk_rd {r : List Nat} (hb : Byt r) (most : Nat) : pkX (rd r) (most : Int) = pkP r most := by
  unfold pkX
  rw [rd_L, List.length_map]
  cases r with
  | nil => rfl
  | cons a r =>
    obtain ⟨ha, hr⟩ := hb.cons
    rw [show ieq (((a :: r).length : Nat) : Int) 0 = false by rw [show ieq (((a :: r).length : Nat) : Int) 0 = decide ((a :: r).length = 0) from ieq_nat _ 0]; simp, cond_false, hd_rd]
    rw [show ieq (a : Int) 253 = decide (a = 253) from ieq_nat a 253, show ieq (a : Int) 254 = decide (a = 254) from ieq_nat a 254, show ieq (a : Int) 255 = decide (a = 255) from ieq_nat a 255]
    have hs : ∀ k : Nat, 1 ≤ k → k ≤ 8 → pkB (rd (a :: r)) (most : Int) ((k + 1 : Nat) : Int) = if r.length < k then (0, 0, 61) else if (cntB (leN (r.take k))).length ≠ k + 1 then (0, 0, 62) else if most < leN (r.take k) then (0, 0, 62) else ((leN (r.take k) : Int), ((k + 1 : Nat) : Int), 0) := fun k h1 h8 => by
      unfold pkB
      rw [rd_L, List.length_map, ilt_nat]
      by_cases hl : r.length < k
      · rw [show decide ((a :: r).length < k + 1) = true by simp; exact hl]; simp [hl]
      · rw [show decide ((a :: r).length < k + 1) = false by simp; omega, cond_false, if_neg hl]
        have : sub ((a :: r).map nv) 1 ((k + 1 : Nat) : Int) = (r.take k).map nv := by
          rw [show (1 : Int) = ((1 : Nat) : Int) from rfl, sub_map]; simp
        rw [this, numE_leN _ (hr.take _) (by simp; omega), pkA_nat]
    by_cases h1 : a = 253
    · subst h1
      have := hs 2 (by decide) (by decide)
      simp only [decide_true, cond_true]
      rw [show (3 : Int) = ((2 + 1 : Nat) : Int) from rfl, this]
      simp [pkP, szOf]
    · by_cases h2 : a = 254
      · subst h2
        have := hs 4 (by decide) (by decide)
        simp only [h1, decide_false, decide_true, cond_false, cond_true]
        rw [show (5 : Int) = ((4 + 1 : Nat) : Int) from rfl, this]
        simp [pkP, szOf]
      · by_cases h3 : a = 255
        · subst h3
          have := hs 8 (by decide) (by decide)
          simp only [h1, h2, decide_false, decide_true, cond_false, cond_true]
          rw [show (9 : Int) = ((8 + 1 : Nat) : Int) from rfl, this]
          simp [pkP, szOf]
        · simp only [h1, h2, h3, decide_false, cond_false]
          rw [show ilt (((a :: r).length : Nat) : Int) 1 = decide ((a :: r).length < 1) from ilt_nat _ 1, show decide ((a :: r).length < 1) = false by simp, cond_false, wu64_lt (by omega), show (1 : Int) = ((1 : Nat) : Int) from rfl, pkA_nat]
          simp [pkP, szOf, h1, h2, h3]
/-- A count as it is written is read. -/
theorem pk_cnt {n most : Nat} {r : List Nat} (hn : n ≤ most) (h64 : n < 18446744073709551616) : pkP (cntB n ++ r) most = ((n : Int), (((cntB n).length : Nat) : Int), 0) := by
  have key : ∀ k : Nat, n < 256 ^ k → (cntB n).length = k + 1 → ((leB k n ++ r).take k) = leB k n ∧ leN ((leB k n ++ r).take k) = n := fun k h1 h2 => by
    have : (leB k n ++ r).take k = leB k n := List.take_left' (leB_len k n)
    rw [this]; exact ⟨rfl, leN_leB k n h1⟩
  have hlen := cntB_len n
  unfold cntB at hlen ⊢
  by_cases h1 : n < 253
  · simp only [h1, if_true]
    show pkP (n :: r) most = _
    unfold pkP
    have hz : szOf n = 0 := by unfold szOf; rw [if_neg (by omega), if_neg (by omega), if_neg (by omega)]
    simp only [hz, if_true]
    rw [if_neg (by omega), if_neg (by rw [cntB_len]; simp [h1]), if_neg (by omega)]; simp
  · by_cases h2 : n < 65536
    · simp only [h1, h2, if_false, if_true] at hlen ⊢
      obtain ⟨k1, k2⟩ := key 2 (by omega) (by rw [cntB_len]; simp [h1, h2])
      show pkP (253 :: (leB 2 n ++ r)) most = _
      unfold pkP
      simp only [show szOf 253 = 2 from rfl]
      rw [if_neg (by simp [leB_len]), if_neg (show ¬ (2 : Nat) = 0 by decide), k2, if_neg (by rw [cntB_len]; simp [h1, h2]), if_neg (by omega)]; simp [leB_len]
    · by_cases h3 : n < 4294967296
      · simp only [h1, h2, h3, if_false, if_true] at hlen ⊢
        obtain ⟨k1, k2⟩ := key 4 (by omega) (by rw [cntB_len]; simp [h1, h2, h3])
        show pkP (254 :: (leB 4 n ++ r)) most = _
        unfold pkP
        simp only [show szOf 254 = 4 from rfl]
        rw [if_neg (by simp [leB_len]), if_neg (show ¬ (4 : Nat) = 0 by decide), k2, if_neg (by rw [cntB_len]; simp [h1, h2, h3]), if_neg (by omega)]; simp [leB_len]
      · simp only [h1, h2, h3, if_false] at hlen ⊢
        obtain ⟨k1, k2⟩ := key 8 (by omega) (by rw [cntB_len]; simp [h1, h2, h3])
        show pkP (255 :: (leB 8 n ++ r)) most = _
        unfold pkP
        simp only [show szOf 255 = 8 from rfl]
        rw [if_neg (by simp [leB_len]), if_neg (show ¬ (8 : Nat) = 0 by decide), k2, if_neg (by rw [cntB_len]; simp [h1, h2, h3]), if_neg (by omega)]; simp [leB_len]
/-- A count that is read is as it is written. -/
theorem pk_can {most : Nat} {r : List Nat} (hb : Byt r) (h : (pkP r most).2.2 = 0) : ∃ n r', r = cntB n ++ r' ∧ n ≤ most ∧ pkP r most = ((n : Int), (((cntB n).length : Nat) : Int), 0) := by
  unfold pkP at h ⊢
  split at h
  · cases h
  · rename_i a r
    obtain ⟨ha, hr⟩ := hb.cons
    simp only at h ⊢
    generalize hN : (if szOf a = 0 then a else leN (r.take (szOf a))) = N at h ⊢
    by_cases h1 : r.length < szOf a
    · rw [if_pos h1] at h; exact absurd h (by decide)
    rw [if_neg h1] at h ⊢
    by_cases h2 : (cntB N).length ≠ szOf a + 1
    · rw [if_pos h2] at h; exact absurd h (by decide)
    rw [if_neg h2] at h ⊢
    by_cases h3 : most < N
    · rw [if_pos h3] at h; exact absurd h (by decide)
    rw [if_neg h3]
    have h2 : (cntB N).length = szOf a + 1 := Decidable.not_not.1 h2
    by_cases hz : szOf a = 0
    · simp only [hz, if_true] at hN h2
      subst hN
      have hc := cntB_len a
      have h253 : a < 253 := by
        rcases Nat.lt_or_ge a 253 with h | h
        · exact h
        · rw [if_neg (by omega)] at hc
          rw [h2] at hc
          split at hc
          · omega
          · split at hc <;> omega
      refine ⟨a, r, ?_, by omega, by rw [h2, hz]⟩
      unfold cntB; rw [if_pos h253]; rfl
    · simp only [hz, if_false] at hN
      subst hN
      have htl : (r.take (szOf a)).length = szOf a := by rw [List.length_take]; omega
      have hc := cntB_len (leN (r.take (szOf a)))
      have hback := leB_leN (r.take (szOf a)) (hr.take _)
      rw [htl] at hback
      refine ⟨leN (r.take (szOf a)), r.drop (szOf a), ?_, by omega, by rw [h2]⟩
      have e : cntB (leN (r.take (szOf a))) = a :: r.take (szOf a) := by
        unfold cntB
        rw [h2] at hc
        unfold szOf at hz hc hback ⊢
        by_cases q1 : a = 253
        · subst q1
          simp only [if_true] at hc hback ⊢
          split at hc
          · omega
          · rename_i c1
            rw [if_neg c1]
            split at hc
            · rename_i c2; rw [if_pos c2, hback]
            · split at hc <;> omega
        · by_cases q2 : a = 254
          · subst q2
            simp only [q1, if_false, if_true] at hc hback ⊢
            split at hc
            · omega
            · rename_i c1
              rw [if_neg c1]
              split at hc
              · omega
              · rename_i c2
                rw [if_neg c2]
                split at hc
                · rename_i c3; rw [if_pos c3, hback]
                · omega
          · by_cases q3 : a = 255
            · subst q3
              simp only [q1, q2, if_false, if_true] at hc hback ⊢
              split at hc
              · omega
              · rename_i c1
                rw [if_neg c1]
                split at hc
                · omega
                · rename_i c2
                  rw [if_neg c2]
                  split at hc
                  · omega
                  · rename_i c3; rw [if_neg c3, hback]
            · simp only [q1, q2, q3, if_false] at hz; exact absurd trivial hz
      rw [e]; simp
end Go.Vm

namespace Go.Vm
open Go.RowKit
set_option linter.unusedVariables false
set_option linter.constructorNameAsVariable false

/-! ### Counts, texts, numbers, references: as they are written they are read, and back -/
theorem ct_rd {r : List Nat} (hb : Byt r) (most n u : Nat) (e : Int) (h : pkP r most = ((n : Int), (u : Int), e)) : ctX (rd r) (most : Int) = .l [.l ((r.drop u).map nv), .i e] ∧ ctV (rd r) (most : Int) = (n : Int) := by
  unfold ctX ctV
  rw [rd_E, show (!ieq 0 0) = false from rfl, pk_rd hb, h, rd_L, List.length_map]
  simp only [cond_false]
  refine ⟨?_, trivial⟩
  show V.l [.l (sub (r.map nv) (u : Int) ((r.length : Nat) : Int)), .i e] = _
  rw [sub_map, List.take_of_length_le (by simp)]
theorem pkP_form (r : List Nat) (most : Nat) : ∃ (n u : Nat) (e : Int), pkP r most = ((n : Int), (u : Int), e) := by
  unfold pkP
  split
  · exact ⟨0, 0, 61, rfl⟩
  · rename_i a r
    simp only
    generalize (if szOf a = 0 then a else leN (r.take (szOf a))) = N
    by_cases h1 : r.length < szOf a
    · rw [if_pos h1]; exact ⟨0, 0, 61, rfl⟩
    · rw [if_neg h1]
      by_cases h2 : (cntB N).length ≠ szOf a + 1
      · rw [if_pos h2]; exact ⟨0, 0, 62, rfl⟩
      · rw [if_neg h2]
        by_cases h3 : most < N
        · rw [if_pos h3]; exact ⟨0, 0, 62, rfl⟩
        · rw [if_neg h3]; exact ⟨_, _, _, rfl⟩
theorem ct_write {n most : Nat} {r : List Nat} (hb : Byt r) (hn : n ≤ most) (h64 : n < 18446744073709551616) : ctX (rd (cntB n ++ r)) (most : Int) = rd r ∧ ctV (rd (cntB n ++ r)) (most : Int) = (n : Int) := by
  have := ct_rd (Byt.app.2 ⟨cntB_byt, hb⟩) most n (cntB n).length 0 (pk_cnt hn h64)
  rw [List.drop_left] at this
  exact this
theorem ct_read {most : Nat} {r : List Nat} (hb : Byt r) (h : rdE (ctX (rd r) (most : Int)) = 0) : ∃ n r', r = cntB n ++ r' ∧ n ≤ most ∧ ctX (rd r) (most : Int) = rd r' ∧ ctV (rd r) (most : Int) = (n : Int) := by
  obtain ⟨n, u, e, hp⟩ := pkP_form r most
  have := ct_rd hb most n u e hp
  rw [this.1] at h
  have he : e = 0 := h
  subst he
  obtain ⟨n', r', h1, h2, h3⟩ := pk_can hb (by rw [hp])
  have h4 := ct_rd hb most n' _ 0 h3
  refine ⟨n', r', h1, h2, ?_, h4.2⟩
  rw [h4.1]
  conv => lhs; rw [h1]
  rw [List.drop_left]; rfl
theorem raw_app (a r : List Nat) (n : Int) (hn : n = (a.length : Nat)) : rawX (rd (a ++ r)) n = rd r ∧ (rawV (rd (a ++ r)) n).els = a.map nv := by
  subst hn
  obtain ⟨h1, h2⟩ := raw_rd (a ++ r) a.length
  rw [h1, h2, if_neg (by simp), if_neg (by simp), List.drop_left, List.take_left]
  exact ⟨rfl, rfl⟩
theorem raw_read {r : List Nat} {n : Nat} (h : rdE (rawX (rd r) (n : Int)) = 0) : ∃ a r', r = a ++ r' ∧ a.length = n ∧ rawX (rd r) (n : Int) = rd r' ∧ (rawV (rd r) (n : Int)).els = a.map nv := by
  obtain ⟨h1, h2⟩ := raw_rd r n
  by_cases hl : r.length < n
  · rw [h1, if_pos hl] at h
    have h : (61 : Int) = 0 := h
    exact absurd h (by decide)
  · rw [h1, h2, if_neg hl, if_neg hl]
    exact ⟨r.take n, r.drop n, (List.take_append_drop n r).symm, by rw [List.length_take]; omega, rfl, rfl⟩
theorem rawX_E {x : V} {n : Int} (h : rdE (rawX x n) = 0) : rdE x = 0 := by
  unfold rawX at h
  cases h1 : ieq (rdE x) 0 with
  | true => exact ieq_iff.1 h1
  | false => rw [h1] at h; exact h
theorem mx_nat {m : Nat} (h : m < 18446744073709551616) : WU (mxI (m : Int)) = (m : Int) := by
  unfold mxI
  rw [show ilt (m : Int) 0 = decide (m < 0) from ilt_nat m 0]
  simp only [Nat.not_lt_zero, decide_false, cond_false]
  exact wu64_lt h
theorem txR_rd (r : List Nat) (n u : Nat) (e : Int) : txR (rd r) ((n : Int), (u : Int), e) = rd (r.drop u) := by
  unfold txR
  show V.l [.l (sub (rdL (rd r)) (u : Int) (((rdL (rd r)).length : Nat) : Int)), .i (rdE (rd r))] = _
  rw [rd_L, rd_E, List.length_map, sub_map, List.take_of_length_le (by simp)]; rfl
theorem txI_rd (r : List Nat) (n u : Nat) (hu : u ≤ r.length) (hl : r.length < 9223372036854775808) : txI (rd r) ((n : Int), (u : Int), 0) = if r.length - u < n then 61 else 0 := by
  unfold txI
  rw [show ieq ((n : Int), (u : Int), (0 : Int)).2.2 0 = true from rfl, cond_true]
  show (bif ilt (WU (W64 (((rdL (rd r)).length : Nat) - (u : Int)))) (n : Int) then (61 : Int) else 0) = _
  rw [rd_L, List.length_map, w64_in (by omega) (by omega), show ((r.length : Nat) : Int) - (u : Int) = ((r.length - u : Nat) : Int) by omega, wu64_lt (by omega), ilt_nat]
  by_cases h : r.length - u < n <;> simp [h]
theorem tx_write {m : Nat} {v r : List Nat} (hb : Byt (v ++ r)) (hm : m < 18446744073709551616) (hv : v.length ≤ m) (hl : (cntB v.length ++ v ++ r).length < 9223372036854775808) : txX (rd (cntB v.length ++ v ++ r)) (m : Int) = rd r ∧ (txV (rd (cntB v.length ++ v ++ r)) (m : Int)).els = v.map nv := by
  have hlv : v.length < 9223372036854775808 := by simp only [List.length_append] at hl; omega
  have hp : txP (rd (cntB v.length ++ v ++ r)) (m : Int) = ((v.length : Int), (((cntB v.length).length : Nat) : Int), 0) := by
    unfold txP
    rw [mx_nat hm, pk_rd (by rw [List.append_assoc]; exact Byt.app.2 ⟨cntB_byt, hb⟩), List.append_assoc]
    exact pk_cnt hv (by omega)
  have hi : txI (rd (cntB v.length ++ v ++ r)) (txP (rd (cntB v.length ++ v ++ r)) (m : Int)) = 0 := by
    rw [hp, txI_rd _ _ _ (by simp only [List.length_append]; omega) hl, if_neg (by simp only [List.length_append]; omega)]
  unfold txX txV
  rw [rd_E, show (!ieq 0 0) = false from rfl, hi, show (!ieq 0 0) = false from rfl]
  simp only [cond_false]
  rw [hp, txR_rd, List.append_assoc, List.drop_left]
  show rawX (rd (v ++ r)) (W64 (v.length : Int)) = rd r ∧ (rawV (rd (v ++ r)) (W64 (v.length : Int))).els = v.map nv
  rw [w64_in (by omega) (by omega)]
  exact raw_app v r _ rfl
theorem tx_eq {x : V} {m : Int} {p : Int × Int × Int} (h0 : rdE x = 0) (hp : txP x m = p) : txX x m = (bif !ieq (txI x p) 0 then .l [x.nth 0, .i (txI x p)] else rawX (txR x p) (W64 p.1)) ∧ txV x m = (bif !ieq (txI x p) 0 then .n else rawV (txR x p) (W64 p.1)) := by
  unfold txX txV
  rw [h0, hp]; exact ⟨rfl, rfl⟩
theorem tx_read {m : Nat} {r : List Nat} (hb : Byt r) (hm : m < 9223372036854775808) (hl : r.length < 9223372036854775808) (h : rdE (txX (rd r) (m : Int)) = 0) : ∃ v r', r = cntB v.length ++ v ++ r' ∧ v.length ≤ m ∧ txX (rd r) (m : Int) = rd r' ∧ (txV (rd r) (m : Int)).els = v.map nv := by
  have hp : txP (rd r) (m : Int) = pkP r m := by unfold txP; rw [mx_nat (by omega), pk_rd hb]
  have h0 : (pkP r m).2.2 = 0 := by
    unfold txX at h
    rw [rd_E, show (!ieq 0 0) = false from rfl, hp] at h
    simp only [cond_false] at h
    cases hi : ieq (txI (rd r) (pkP r m)) 0 with
    | false =>
      rw [hi] at h
      have h : txI (rd r) (pkP r m) = 0 := h
      rw [h] at hi; exact absurd hi (by decide)
    | true =>
      have hi := ieq_iff.1 hi
      unfold txI at hi
      cases hq : ieq (pkP r m).2.2 0 with
      | true => exact ieq_iff.1 hq
      | false => rw [hq] at hi; exact hi
  obtain ⟨n, r1, h1, h2, h3⟩ := pk_can hb h0
  have hlen : (cntB n).length ≤ r.length := by rw [h1]; simp
  have hi := txI_rd r n (cntB n).length hlen hl
  obtain ⟨e1, e2⟩ := tx_eq (rd_E r) (hp.trans h3)
  rw [hi] at e1 e2
  have hr1 : r.length = (cntB n).length + r1.length := by rw [h1, List.length_append]
  by_cases hs : r.length - (cntB n).length < n
  · rw [if_pos hs] at e1
    rw [e1] at h
    have h : (61 : Int) = 0 := h
    exact absurd h (by decide)
  · rw [if_neg hs] at e1 e2
    have hd : r.drop (cntB n).length = r1 := by
      conv => lhs; rw [h1]
      exact List.drop_left
    have e1 : txX (rd r) (m : Int) = rawX (rd r1) (n : Int) := by
      rw [e1, txR_rd, hd]
      show rawX (rd r1) (W64 (n : Int)) = _
      rw [w64_in (by omega) (by omega)]
    have e2 : txV (rd r) (m : Int) = rawV (rd r1) (n : Int) := by
      rw [e2, txR_rd, hd]
      show rawV (rd r1) (W64 (n : Int)) = _
      rw [w64_in (by omega) (by omega)]
    obtain ⟨g1, g2⟩ := raw_rd r1 n
    rw [if_neg (by omega)] at g1 g2
    have htl : (r1.take n).length = n := by rw [List.length_take]; omega
    refine ⟨r1.take n, r1.drop n, ?_, by omega, e1.trans g1, by rw [e2, g2]⟩
    rw [htl, List.append_assoc, List.take_append_drop]; exact h1
/-! ### Entries -/
def entN (v : List Nat) (h : Nat) (hs : List Nat) (a : Nat) : List Nat := cntB v.length ++ v ++ (leB 8 h ++ (hs ++ leB 4 a))
def entV (nm : List V) (v : List Nat) (h : Nat) (hs : List Nat) (a : Nat) : V := .l [.s nm, .s (v.map nv), .i (W64 (h : Int)), .l [.l (hs.map nv), .i (a : Int)]]
theorem w32_lt {n : Nat} (h : n < 4294967296) : IntKind.wrap .u32 (n : Int) = (n : Int) := wu32_lt h
theorem num_le (k n : Nat) (hk : k ≤ 8) (hn : n < 256 ^ k) : numE ((leB k n).map nv) = (n : Int) := by
  rw [numE_leN _ (leB_byt k n) (by rw [leB_len]; exact hk), leN_leB k n hn]
theorem ent_at {nm : List V} {y A B C : V} {v hs r : List Nat} {h a : Nat} (h8 : h < 18446744073709551616) (h4 : a < 4294967296) (hl : hs.length = 32) (hA : txX y 200 = A) (hAv : (txV y 200).els = v.map nv) (hA2 : A = rd (leB 8 h ++ (hs ++ (leB 4 a ++ r)))) : epY y = rd r ∧ epH y = W64 (h : Int) ∧ epV nm y = entV nm v h hs a := by
  obtain ⟨b1, b2⟩ := raw_app (leB 8 h) (hs ++ (leB 4 a ++ r)) 8 (by rw [leB_len]; rfl)
  obtain ⟨c1, c2⟩ := raw_app hs (leB 4 a ++ r) 32 (by rw [hl]; rfl)
  obtain ⟨d1, d2⟩ := raw_app (leB 4 a) r 4 (by rw [leB_len]; rfl)
  have e1 : epH y = W64 (h : Int) := by
    unfold epH
    rw [hA, hA2, show wiI 8 = 8 from by decide, b2, num_le 8 h (by decide) (by rw [show (256 : Nat) ^ 8 = 18446744073709551616 by decide]; exact h8)]
  have e2 : epY y = rd r := by
    unfold epY rrE
    rw [hA, hA2, show wiI 8 = 8 from by decide, b1, c1, show wiI 4 = 4 from by decide, d1]
  refine ⟨e2, e1, ?_⟩
  unfold epV entV
  rw [e1, hAv]
  unfold rrV rrE
  rw [hA, hA2, show wiI 8 = 8 from by decide, b1, c1, c2, show wiI 4 = 4 from by decide, d1, d2, rd_E, show (!ieq 0 0) = false from rfl, num_le 4 a (by decide) (by rw [show (256 : Nat) ^ 4 = 4294967296 by decide]; exact h4), w32_lt h4]
  simp only [cond_false]
  rw [List.take_of_length_le (by simp [hl])]
theorem ent_write {nm : List V} {v hs r : List Nat} {h a : Nat} (hv : Byt v) (hh : Byt hs) (hr : Byt r) (hvl : v.length ≤ 200) (h8 : h < 18446744073709551616) (h4 : a < 4294967296) (hl : hs.length = 32) (hlen : (entN v h hs a ++ r).length < 9223372036854775808) :
    epY (rd (entN v h hs a ++ r)) = rd r ∧ epH (rd (entN v h hs a ++ r)) = W64 (h : Int) ∧ epV nm (rd (entN v h hs a ++ r)) = entV nm v h hs a := by
  have e : entN v h hs a ++ r = cntB v.length ++ v ++ (leB 8 h ++ (hs ++ (leB 4 a ++ r))) := by simp [entN]
  rw [e] at hlen ⊢
  have hb : Byt (v ++ (leB 8 h ++ (hs ++ (leB 4 a ++ r)))) := Byt.app.2 ⟨hv, Byt.app.2 ⟨leB_byt _ _, Byt.app.2 ⟨hh, Byt.app.2 ⟨leB_byt _ _, hr⟩⟩⟩⟩
  obtain ⟨t1, t2⟩ := tx_write (m := 200) hb (by decide) hvl hlen
  exact ent_at (B := .n) (C := .n) h8 h4 hl t1 t2 rfl
theorem ent_read {nm : List V} {r : List Nat} (hb : Byt r) (hlen : r.length < 9223372036854775808) (h0 : rdE (epY (rd r)) = 0) : ∃ v h hs a r', r = entN v h hs a ++ r' ∧ v.length ≤ 200 ∧ hs.length = 32 ∧ h < 18446744073709551616 ∧ a < 4294967296 ∧ epY (rd r) = rd r' ∧ epH (rd r) = W64 (h : Int) ∧ epV nm (rd r) = entV nm v h hs a := by
  have hC : rdE (rawX (rawX (txX (rd r) 200) (wiI 8)) 32) = 0 := rawX_E h0
  have hB : rdE (rawX (txX (rd r) 200) (wiI 8)) = 0 := rawX_E hC
  have hA : rdE (txX (rd r) 200) = 0 := rawX_E hB
  obtain ⟨v, r1, q1, q2, q3, q4⟩ := tx_read (m := 200) hb (by decide) hlen hA
  rw [q1] at hb
  obtain ⟨hb1, hr1⟩ := Byt.app.1 hb
  have h0' : rdE (rawX (rawX (rawX (txX (rd r) 200) (wiI 8)) 32) (wiI 4)) = 0 := h0
  rw [show txX (rd r) 200 = rd r1 from q3, wiI_8] at hB hC h0'
  obtain ⟨b8, r2, p1, p2, p3, p4⟩ := raw_read hB
  rw [p3, show (32 : Int) = ((32 : Nat) : Int) from rfl] at hC h0'
  obtain ⟨hs, r3, s1, s2, s3, s4⟩ := raw_read hC
  rw [s3, wiI_4] at h0'
  obtain ⟨b4, r4, u1, u2, u3, u4⟩ := raw_read h0'
  rw [p1, s1, u1] at hr1
  obtain ⟨k8, hr2⟩ := Byt.app.1 hr1
  obtain ⟨ks, hr3⟩ := Byt.app.1 hr2
  obtain ⟨k4, hr4⟩ := Byt.app.1 hr3
  have e8 : leB 8 (leN b8) = b8 := by have := leB_leN b8 k8; rwa [p2] at this
  have e4 : leB 4 (leN b4) = b4 := by have := leB_leN b4 k4; rwa [u2] at this
  have n8 : leN b8 < 18446744073709551616 := by have := leN_lt b8 k8; rw [p2] at this; simpa using this
  have n4 : leN b4 < 4294967296 := by have := leN_lt b4 k4; rw [u2] at this; simpa using this
  have hr1e : r1 = leB 8 (leN b8) ++ (hs ++ (leB 4 (leN b4) ++ r4)) := by rw [e8, e4, p1, s1, u1]
  have := ent_at (nm := nm) (B := .n) (C := .n) n8 n4 s2 (q3 : txX (rd r) 200 = rd r1) q4 (by rw [← hr1e])
  refine ⟨v, leN b8, hs, leN b4, r4, ?_, q2, s2, n8, n4, this⟩
  rw [q1, hr1e]; simp [entN]
end Go.Vm

namespace Go.Vm
open Go.RowKit
set_option linter.unusedVariables false
set_option linter.constructorNameAsVariable false

/-! ### Entries: read as they were written, and written as they were read -/
theorem txtL_map (v : List Nat) : txtL (v.map nv) = (cntB v.length ++ v).map nv := by
  unfold txtL
  rw [List.length_map, cntL_cntB, List.map_append]
theorem w64_nn {n : Nat} (h : n < 18446744073709551616) (h0 : 0 ≤ W64 (n : Int)) : n < 9223372036854775808 ∧ W64 (n : Int) = (n : Int) := by
  rcases Nat.lt_or_ge n 9223372036854775808 with h1 | h1
  · exact ⟨h1, w64_in (by omega) (by omega)⟩
  · exfalso
    have : W64 (n : Int) = (n : Int) - 18446744073709551616 := by
      show (if (true && decide ((n : Int) % 2 ^ 64 ≥ 2 ^ (64 - 1))) = true then (n : Int) % 2 ^ 64 - 2 ^ 64 else (n : Int) % 2 ^ 64) = _
      rw [if_pos (by simp; omega)]; omega
    omega
theorem entB_entV {nm : List V} {v hs : List Nat} {h a : Nat} (h8 : h < 9223372036854775808) : entB (entV nm v h hs a) = (entN v h hs a).map nv := by
  have e1 : WU (W64 (h : Int)) = (h : Int) := by rw [w64_in (by omega) (by omega), wu64_lt (by omega)]
  show txtL (v.map nv) ++ (leV 8 (WU (W64 (h : Int))) ++ ((hs.map nv) ++ leV 4 (a : Int))) = _
  rw [e1, txtL_map, leV_leB, leV_leB]
  simp [entN]
theorem entN_len (v : List Nat) (h : Nat) (hs : List Nat) (a : Nat) : v.length < (entN v h hs a).length ∧ (entN v h hs a).length ≤ v.length + hs.length + 21 := by
  have := cntB_len v.length
  have : 1 ≤ (cntB v.length).length ∧ (cntB v.length).length ≤ 9 := by
    rw [this]; split
    · omega
    · split
      · omega
      · split <;> omega
  simp only [entN, List.length_append, leB_len]; omega
theorem eps_bad {nm : List V} {y : V} (h : rdE y ≠ 0) : ∀ m xs, epOk (epS nm m y xs) = false := by
  have h1 : ieq (rdE y) 0 = false := by
    cases hq : ieq (rdE y) 0 with
    | false => rfl
    | true => exact absurd (ieq_iff.1 hq) h
  intro m xs
  cases m with
  | zero => unfold epS epOk; rw [h1]; rfl
  | succ m => unfold epS; rw [h1]; unfold epOk; simp only [cond_false]; rw [h1]; rfl
theorem eps_read {nm : List V} : ∀ (m : Nat) (r : List Nat) (xs : List V), Byt r → r.length < 9223372036854775808 → epOk (epS nm m (rd r) xs) = true → ∃ es : List V, (epS nm m (rd r) xs).2.2 = xs ++ es ∧ es.length = m ∧ r.map nv = entsB es ∧ m ≤ r.length ∧ ∀ e ∈ es, okE e = true := by
  intro m
  induction m with
  | zero =>
    intro r xs hb hl h
    unfold epS epOk at h
    simp only [rd_E, rd_L, List.length_map, Bool.not_false, Bool.true_and, Bool.and_eq_true] at h
    have h2 := h.2
    rw [show ilt 0 ((r.length : Nat) : Int) = decide (0 < r.length) from ilt_nat 0 _] at h2
    have : r = [] := List.eq_nil_of_length_eq_zero (by simpa using h2)
    subst this
    exact ⟨[], by simp [epS], rfl, rfl, Nat.le_refl _, fun e he => by cases he⟩
  | succ m ih =>
    intro r xs hb hl h
    have hE : rdE (epY (rd r)) = 0 ∧ (ilt (epH (rd r)) 0 || ilt 1000000000 (epH (rd r))) = false ∧ epOk (epS nm m (epY (rd r)) (xs ++ [epV nm (rd r)])) = true ∧ epS nm (m + 1) (rd r) xs = epS nm m (epY (rd r)) (xs ++ [epV nm (rd r)]) := by
      have e : epS nm (m + 1) (rd r) xs = bif ilt (epH (rd r)) 0 || ilt 1000000000 (epH (rd r)) then (true, epY (rd r), xs) else epS nm m (epY (rd r)) (xs ++ [epV nm (rd r)]) := by
        conv => lhs; unfold epS
        rw [rd_E]; rfl
      rw [e] at h ⊢
      cases hq : (ilt (epH (rd r)) 0 || ilt 1000000000 (epH (rd r))) with
      | true => rw [hq] at h; exact absurd h (by simp [epOk])
      | false =>
        rw [hq] at h
        simp only [cond_false] at h ⊢
        refine ⟨?_, trivial, h, trivial⟩
        rcases Int.decEq (rdE (epY (rd r))) 0 with g | g
        · rw [eps_bad g] at h; cases h
        · exact g
    obtain ⟨h1, h2, h3, h4⟩ := hE
    obtain ⟨v, hh, hs, a, r', q1, q2, q3, q4, q5, q6, q7, q8⟩ := ent_read (nm := nm) hb hl h1
    rw [Bool.or_eq_false_iff] at h2
    have hH := not_ilt h2.1
    rw [q7] at hH
    obtain ⟨w1, w2⟩ := w64_nn q4 (by omega)
    have hn := entN_len v hh hs a
    have hlr : r.length = (entN v hh hs a).length + r'.length := by rw [q1, List.length_append]
    have hbr : Byt r' := by rw [q1] at hb; exact (Byt.app.1 hb).2
    rw [q6, q8] at h3 h4
    obtain ⟨es, g1, g2, g3, g4, g5⟩ := ih r' (xs ++ [entV nm v hh hs a]) hbr (by omega) h3
    refine ⟨entV nm v hh hs a :: es, by rw [h4, g1]; simp, by simp [g2], ?_, by omega, fun e he => ?_⟩
    · rw [q1, List.map_append, g3, ← entB_entV (nm := nm) w1]; simp [entsB]
    · rcases List.mem_cons.1 he with rfl | he
      · show Nat.ble (v.map nv).length 4000 = true
        rw [Nat.ble_eq, List.length_map]; omega
      · exact g5 e he
theorem epX_rd (nm : List V) (bs : List Nat) : epX nm (.l (bs.map nv)) = epS nm (ctV (rd bs) 100000).toNat (ctX (rd bs) 100000) [] := rfl
theorem epX_read {nm : List V} {bs : List Nat} (hb : Byt bs) (hl : bs.length ≤ 3000) (h : epOk (epX nm (.l (bs.map nv))) = true) : ∃ es, (epX nm (.l (bs.map nv))).2.2 = es ∧ cntL (es.length : Nat) ++ entsB es = bs.map nv ∧ es.length ≤ 3000 ∧ ∀ e ∈ es, okE e = true := by
  rw [epX_rd] at h ⊢
  have h0 : rdE (ctX (rd bs) ((100000 : Nat) : Int)) = 0 := by
    rcases Int.decEq (rdE (ctX (rd bs) ((100000 : Nat) : Int))) 0 with g | g
    · rw [show (100000 : Int) = ((100000 : Nat) : Int) from rfl, eps_bad g] at h; cases h
    · exact g
  obtain ⟨n, r', q1, q2, q3, q4⟩ := ct_read hb h0
  rw [show (100000 : Int) = ((100000 : Nat) : Int) from rfl, q3, q4, Int.toNat_natCast] at h ⊢
  have hbr : Byt r' := by rw [q1] at hb; exact (Byt.app.1 hb).2
  have hlr : bs.length = (cntB n).length + r'.length := by rw [q1, List.length_append]
  obtain ⟨es, g1, g2, g3, g4, g5⟩ := eps_read n r' [] hbr (by omega) h
  refine ⟨es, by rw [g1]; rfl, ?_, by omega, g5⟩
  rw [g2, ← g3, cntL_cntB, ← List.map_append, ← q1]
/-- An entry that can be written and read. -/
def GoodW (nm : List V) (e : V) : Prop := ∃ v h hs a, e = entV nm v h hs a ∧ Byt v ∧ Byt hs ∧ v.length ≤ 200 ∧ hs.length = 32 ∧ h ≤ 1000000000 ∧ a < 4294967296
theorem GoodW.len {nm : List V} {e : V} (h : GoodW nm e) : ∃ ns, entB e = ns.map nv ∧ Byt ns ∧ ns.length ≤ 260 := by
  obtain ⟨v, h, hs, a, rfl, h1, h2, h3, h4, h5, h6⟩ := h
  have := entN_len v h hs a
  refine ⟨entN v h hs a, entB_entV (by omega), ?_, by omega⟩
  unfold entN
  exact Byt.app.2 ⟨Byt.app.2 ⟨cntB_byt, h1⟩, Byt.app.2 ⟨leB_byt _ _, Byt.app.2 ⟨h2, leB_byt _ _⟩⟩⟩
theorem eps_write {nm : List V} : ∀ (es : List V), (∀ e ∈ es, GoodW nm e) → es.length ≤ 100000 → ∃ ns, entsB es = ns.map nv ∧ Byt ns ∧ ns.length ≤ 260 * es.length ∧ ∀ xs, epS nm es.length (rd ns) xs = (false, rd [], xs ++ es) := by
  intro es
  induction es with
  | nil => intro _ _; exact ⟨[], rfl, fun a ha => (by cases ha), by simp, fun xs => by simp [epS]⟩
  | cons e es ih =>
    intro hg hl
    simp only [List.length_cons] at hl
    obtain ⟨ns, n1, n2, n3, n4⟩ := ih (fun x hx => hg x (by simp [hx])) (by omega)
    obtain ⟨v, h, hs, a, rfl, h1, h2, h3, h4, h5, h6⟩ := hg e (by simp)
    have hn := entN_len v h hs a
    have hb : Byt (entN v h hs a) := by
      unfold entN
      exact Byt.app.2 ⟨Byt.app.2 ⟨cntB_byt, h1⟩, Byt.app.2 ⟨leB_byt _ _, Byt.app.2 ⟨h2, leB_byt _ _⟩⟩⟩
    refine ⟨entN v h hs a ++ ns, ?_, Byt.app.2 ⟨hb, n2⟩, by simp only [List.length_append, List.length_cons]; omega, fun xs => ?_⟩
    · have : entsB (entV nm v h hs a :: es) = entB (entV nm v h hs a) ++ entsB es := by simp [entsB]
      rw [this, entB_entV (by omega), n1, List.map_append]
    · obtain ⟨q1, q2, q3⟩ := ent_write (nm := nm) (v := v) (h := h) (hs := hs) (a := a) (r := ns) h1 h2 n2 h3 (by omega) h6 h4 (by simp only [List.length_append]; omega)
      show epS nm (es.length + 1) (rd (entN v h hs a ++ ns)) xs = _
      unfold epS
      rw [rd_E, show ieq 0 0 = true from rfl, q1, q2, q3, w64_in (by omega) (by omega)]
      rw [show ilt (h : Int) 0 = decide (h < 0) from ilt_nat h 0, show ilt 1000000000 (h : Int) = decide (1000000000 < h) from ilt_nat 1000000000 h]
      rw [show decide (h < 0) = false by simp, show decide (1000000000 < h) = false by simp; omega]
      simp only [Bool.or_false, cond_true, cond_false]
      rw [n4]; simp
theorem epX_write {nm : List V} {es : List V} (hg : ∀ e ∈ es, GoodW nm e) (hl : es.length ≤ 100000) : epX nm (.l (cntL (es.length : Nat) ++ entsB es)) = (false, rd [], es) := by
  obtain ⟨ns, n1, n2, n3, n4⟩ := eps_write es hg hl
  rw [n1, cntL_cntB, ← List.map_append, epX_rd]
  obtain ⟨c1, c2⟩ := ct_write (most := 100000) n2 hl (by omega)
  rw [show (100000 : Int) = ((100000 : Nat) : Int) from rfl, c1, c2, Int.toNat_natCast, n4]; rfl
theorem ens_ok {nm : List V} {es : List V} (hg : ∀ e ∈ es, GoodW nm e) : es.all okE = true := by
  rw [List.all_eq_true]
  intro e he
  obtain ⟨v, h, hs, a, rfl, h1, h2, h3, _⟩ := hg e he
  show Nat.ble (v.map nv).length 4000 = true
  rw [Nat.ble_eq, List.length_map]; omega

/-! ### The law LedgerEntries: its rounds, and what it computes -/
inductive PL1 where
  | m (nm ls acc : List V) (n i : Int)
inductive QL1 where
  | o (nm ls acc : List V) (n i : Int)
  | r (nm ls acc : List V) (n i : Int)
def BL1 (R : Type) (p : PL1) (K : PL1 → Option R) (kx : QL1 → Option R) : Option R :=
  match p with
  | .m nm ls acc n i =>
    bif ilt i n then ck i ls.length <| ln ((atV ls i).nth 1).els.length <|
      bif ilt 200 (((atV ls i).nth 1).els.length : Nat) then kx (.r nm ls acc n i) else
      bif ilt ((atV ls i).nth 2).int 0 then kx (.r nm ls acc n i) else
      bif ilt 1000000000 ((atV ls i).nth 2).int then kx (.r nm ls acc n i) else
      lim (acc.length + 1) <| K (.m nm ls (acc ++ [(atV ls i).put 0 (.s nm)]) n (W64 (i + 1)))
    else kx (.o nm ls acc n i)
inductive PL2 where
  | m (acc zs : List V) (n i : Int)
inductive QL2 where
  | o (acc zs : List V) (n i : Int)
  | r (acc zs : List V) (n i : Int)
def BL2 (R : Type) (p : PL2) (K : PL2 → Option R) (kx : QL2 → Option R) : Option R :=
  match p with
  | .m acc zs n i =>
    bif ilt i n then ck i zs.length <| ck i acc.length <| bif !veq (atV zs i) (acc.getD i.toNat .n) then kx (.r acc zs n i) else K (.m acc zs n (W64 (i + 1)))
    else kx (.o acc zs n i)
/-- Written: bytes. -/
def wrB (es : List V) : List V := cntL (es.length : Nat) ++ entsB es
noncomputable def leT (acc zs : List V) (k : Option Unit) : Option Unit :=
  bif ensg [.l acc] then bif !veqL (wrB acc) (wrB acc) then none else ln zs.length <| ln acc.length <| bif !ieq (zs.length : Nat) (acc.length : Nat) then none else k else none
noncomputable def leC (nm acc : List V) : Option Unit :=
  bif ensg [.l acc] then bif Nat.ble (wrB acc).length LIM then
    (bif epOk (epX nm (.l (wrB acc))) then (match (epX nm (.l (wrB acc))).2.2.isEmpty with
      | true => bif ensg [.l acc] then bif !veqL (wrB acc) (wrB acc) then none else ln acc.length <| bif !ieq 0 (acc.length : Nat) then none else some () else none
      | false => leT acc (epX nm (.l (wrB acc))).2.2 <| ln (epX nm (.l (wrB acc))).2.2.length <| lpC (BL2 Unit) (hid FU) (.m acc (epX nm (.l (wrB acc))).2.2 ((epX nm (.l (wrB acc))).2.2.length : Nat) 0) fun q => match q with
        | .o _ _ _ _ => some ()
        | .r _ _ _ _ => none)
    else (bif ensg [.l acc] then bif !veqL (wrB acc) (wrB acc) then none else none else none)) else none else none
noncomputable def leL (nm ls : List V) : Option Unit :=
  ln ls.length <| lpC (BL1 Unit) (hid FU) (.m nm ls [] (ls.length : Nat) 0) fun q => match q with
    | .o nm _ acc _ _ => leC nm acc
    | .r _ _ _ _ _ => some ()
/-- The first part: any bytes. -/
noncomputable def leP (nm bs : List V) (k : Option Unit) : Option Unit :=
  bif Nat.ble bs.length LIM then
    (bif epOk (epX nm (.l bs)) then (match (epX nm (.l bs)).2.2.isEmpty with
      | true => bif !veqL (wrB []) bs then none else k
      | false => bif ensg [.l (epX nm (.l bs)).2.2] then bif !veqL (wrB (epX nm (.l bs)).2.2) bs then none else k else none)
    else k) else none
theorem ieq_self (a : Int) : ieq a a = true := ieq_iff.2 rfl
theorem veqL_self (a : List V) : veqL a a = true := (veqL_iff a a).2 rfl
theorem leP_law {nm : List V} {bs : List Nat} {k : Option Unit} (hb : Byt bs) (hl : bs.length ≤ 3000) : leP nm (bs.map nv) k = k := by
  unfold leP
  rw [show Nat.ble (bs.map nv).length LIM = true from Nat.ble_eq_true_of_le (by rw [List.length_map]; show bs.length ≤ 1073741824; omega), cond_true]
  cases hp : epOk (epX nm (.l (bs.map nv))) with
  | false => rfl
  | true =>
    obtain ⟨es, h1, h2, h3, h4⟩ := epX_read hb hl hp
    simp only [cond_true]
    rw [h1]
    have hw : wrB es = bs.map nv := h2
    cases es with
    | nil =>
      show (bif !veqL (wrB []) (bs.map nv) then none else k) = k
      rw [hw, veqL_self]; rfl
    | cons e es =>
      show (bif ensg [.l (e :: es)] then bif !veqL (wrB (e :: es)) (bs.map nv) then none else k else none) = k
      have hg : ensg [.l (e :: es)] = true := by
        show (Nat.ble (e :: es).length 4000 && (e :: es).all okE) = true
        rw [Bool.and_eq_true, Nat.ble_eq, List.all_eq_true]
        exact ⟨by omega, h4⟩
      rw [hg, hw, veqL_self]; rfl
theorem l2_law {kx : QL2 → Option Unit} : ∀ (r a : List V) (fuel : Nat), a.length + r.length ≤ 100000 → r.length < fuel → lpC (BL2 Unit) fuel (.m (a ++ r) (a ++ r) ((a ++ r).length : Nat) (a.length : Nat)) kx = kx (.o (a ++ r) (a ++ r) ((a ++ r).length : Nat) ((a ++ r).length : Nat)) := by
  intro r
  induction r with
  | nil =>
    intro a fuel h1 h2
    obtain ⟨f, rfl⟩ : ∃ f, fuel = f + 1 := ⟨fuel - 1, by omega⟩
    rw [List.append_nil]
    show (bif ilt (a.length : Nat) (a.length : Nat) then _ else _) = _
    rw [show ilt (a.length : Nat) (a.length : Nat) = false by simp [ilt]]; rfl
  | cons x r ih =>
    intro a fuel h1 h2
    obtain ⟨f, rfl⟩ : ∃ f, fuel = f + 1 := ⟨fuel - 1, by simp at h2; omega⟩
    simp only [List.length_cons] at h1 h2
    show (bif ilt (a.length : Nat) ((a ++ x :: r).length : Nat) then _ else _) = _
    rw [show ilt (a.length : Nat) ((a ++ x :: r).length : Nat) = true by simp [ilt]; omega, cond_true, ck_in (by omega) (by simp; omega), ck_in (by omega) (by simp; omega), atV_at]
    rw [show (a ++ x :: r).getD ((a.length : Nat) : Int).toNat .n = x by simp, (veq_iff x x).2 rfl]
    simp only [Bool.not_true, cond_false]
    rw [i_next (by omega)]
    have := ih (a ++ [x]) f (by simp; omega) (by omega)
    rw [List.append_assoc, show (a ++ [x]).length = a.length + 1 by simp] at this
    exact this
theorem wrB_len {nm : List V} {es : List V} (hg : ∀ e ∈ es, GoodW nm e) (hl : es.length ≤ 100) : (wrB es).length ≤ 100000 := by
  obtain ⟨ns, n1, _, n3, _⟩ := eps_write es hg (by omega)
  have := cntL_len (es.length : Nat)
  unfold wrB
  rw [n1, List.length_append, List.length_map]; omega
theorem leC_law {nm acc : List V} (hg : ∀ e ∈ acc, GoodW nm e) (hl : acc.length ≤ 100) : leC nm acc = some () := by
  have h1 : ensg [.l acc] = true := by
    show (Nat.ble acc.length 4000 && acc.all okE) = true
    rw [Bool.and_eq_true, Nat.ble_eq]; exact ⟨by omega, ens_ok hg⟩
  have h2 := wrB_len hg hl
  have h3 : epX nm (.l (wrB acc)) = (false, rd [], acc) := epX_write hg (by omega)
  unfold leC leT
  rw [h3, h1, show Nat.ble (wrB acc).length LIM = true from Nat.ble_eq_true_of_le (by show _ ≤ 1073741824; omega), show epOk (false, rd [], acc) = true from rfl]
  simp only [cond_true, veqL_self, Bool.not_true, cond_false]
  cases acc with
  | nil => rfl
  | cons e es =>
    have hq := fq_big
    have hlen : (e :: es).length ≤ 100 := hl
    show (ln (e :: es).length <| ln (e :: es).length <| bif !ieq ((e :: es).length : Nat) ((e :: es).length : Nat) then none else ln (e :: es).length <| lpC (BL2 Unit) (hid FU) (.m (e :: es) (e :: es) ((e :: es).length : Nat) 0) _) = _
    rw [ln_in (by omega), ln_in (by omega), ln_in (by omega), ieq_self]
    simp only [Bool.not_true, cond_false]
    exact l2_law (e :: es) [] (hid FU) (by simp only [List.length_nil]; omega) (by omega)
theorem l1_law {nm : List V} : ∀ (r a acc : List V) (fuel : Nat), (∀ e ∈ r, DEnt.has e) → (∀ e ∈ r, DEnt.sm e) → (∀ e ∈ acc, GoodW nm e) → acc.length = a.length → a.length + r.length ≤ 40 → r.length < fuel → lpC (BL1 Unit) fuel (.m nm (a ++ r) acc ((a ++ r).length : Nat) (a.length : Nat)) (fun q => match q with
    | .o nm _ acc _ _ => leC nm acc
    | .r _ _ _ _ _ => some ()) = some () := by
  intro r
  induction r with
  | nil =>
    intro a acc fuel _ _ hg ha h1 h2
    obtain ⟨f, rfl⟩ : ∃ f, fuel = f + 1 := ⟨fuel - 1, by omega⟩
    rw [List.append_nil]
    show (bif ilt (a.length : Nat) (a.length : Nat) then _ else leC nm acc) = _
    rw [show ilt (a.length : Nat) (a.length : Nat) = false by simp [ilt]]
    simp only [List.length_nil] at h1
    exact leC_law hg (by omega)
  | cons x r ih =>
    intro a acc fuel hd hm hg ha h1 h2
    obtain ⟨f, rfl⟩ : ∃ f, fuel = f + 1 := ⟨fuel - 1, by simp at h2; omega⟩
    simp only [List.length_cons] at h1 h2
    obtain ⟨ys, rfl, hy⟩ := hd x (by simp)
    obtain ⟨na, nb, nc, ndd, rfl, ⟨n1, rfl, _⟩, ⟨v, rfl, hv⟩, ⟨h, rfl, hh⟩, hr⟩ := hasL4 hy
    obtain ⟨zs, rfl, hz⟩ := hr
    obtain ⟨za, zb, rfl, ⟨hs, rfl, hsl, hsb⟩, ⟨at_, rfl, hat⟩⟩ := hasL2 hz
    obtain ⟨hn, rfl, hnb⟩ := u8s hsb
    simp only [inR, lo, hi] at hat
    have hvl : (v.map nv).length ≤ 9223372036854775807 := (hm _ (List.mem_cons_self ..)).2.1
    rw [List.length_map] at hvl
    show (bif ilt (a.length : Nat) ((a ++ _ :: r).length : Nat) then _ else _) = _
    rw [show ilt (a.length : Nat) ((a ++ V.l [.s (n1.map nv), .s (v.map nv), .i h, .l [.l (hn.map nv), .i at_]] :: r).length : Nat) = true by simp [ilt]; omega, cond_true, ck_in (by omega) (by simp; omega), atV_at]
    show (ln (v.map nv).length <| bif ilt 200 ((v.map nv).length : Nat) then some () else bif ilt h 0 then some () else bif ilt 1000000000 h then some () else lim (acc.length + 1) <| lpC (BL1 Unit) f (.m nm (a ++ _ :: r) (acc ++ [.l [.s nm, .s (v.map nv), .i h, .l [.l (hn.map nv), .i at_]]]) _ (W64 ((a.length : Nat) + 1))) _) = _
    rw [List.length_map]
    cases c1 : ilt 200 (v.length : Nat) with
    | true =>
      rw [ln_in hvl]; rfl
    | false =>
      have c1 := not_ilt c1
      rw [ln_in (by omega)]
      cases c2 : ilt h 0 with
      | true => rfl
      | false =>
        have c2 := not_ilt c2
        cases c3 : ilt 1000000000 h with
        | true => rfl
        | false =>
          have c3 := not_ilt c3
          obtain ⟨hN, rfl⟩ := Int.eq_ofNat_of_zero_le (show 0 ≤ h by omega)
          obtain ⟨aN, rfl⟩ := Int.eq_ofNat_of_zero_le hat.1
          simp only [cond_false]
          rw [lim_in (by omega), i_next (by omega)]
          have ge : V.l [.s nm, .s (v.map nv), .i (hN : Int), .l [.l (hn.map nv), .i (aN : Int)]] = entV nm v hN hn aN := by unfold entV; rw [w64_in (by omega) (by omega)]
          have := ih (a ++ [V.l [.s (n1.map nv), .s (v.map nv), .i (hN : Int), .l [.l (hn.map nv), .i (aN : Int)]]]) (acc ++ [entV nm v hN hn aN]) f (fun e he => hd e (by simp [he])) (fun e he => hm e (by simp [he])) (fun e he => by
            rcases List.mem_append.1 he with he | he
            · exact hg e he
            · rw [List.mem_singleton] at he; subst he
              exact ⟨v, hN, hn, aN, rfl, hv, hnb, by omega, by simpa using hsl, by omega, by omega⟩) (by simp [ha]) (by simp; omega) (by omega)
          rw [List.append_assoc, show ∀ q : V, (a ++ [q]).length = a.length + 1 from fun q => by simp] at this
          rw [ge]
          exact this
/-! ### Two answers -/
/-- Two answers. -/
def ynF (b : Nat) (g f : List V → Bool) : FC := fun R xs k => bif g xs then bif f xs then k [.d b (.b true)] else k [.d b (.b false)] else none
theorem ynF_nat (b : Nat) (g f : List V → Bool) : FC.nat (ynF b g f) := by
  intro R xs k
  unfold ynF
  cases g xs <;> cases f xs <;> rfl
theorem ynF_at {b : Nat} {g f : List V → Bool} {xs : List V} {rs : List Rs} (h : ynF b g f (List Rs) xs some = some rs) : g xs = true ∧ rs = [.d b (.b (f xs))] := by
  unfold ynF at h
  cases hg : g xs with
  | false => rw [hg] at h; cases h
  | true =>
    rw [hg] at h
    cases hf : f xs <;> (rw [hf] at h; simp only [cond_true, cond_false, Option.some.injEq] at h; exact ⟨rfl, h.symm⟩)
def two (f : V → V → Bool) : List V → Bool
  | [a, b] => f a b
  | _ => false
end Go.Vm

namespace Go.Vm
open Go.RowKit
set_option linter.unusedVariables false
set_option linter.constructorNameAsVariable false

/-! ### Requests: whether they can be, and their bytes -/
def on1 (f : V → Bool) : List V → Bool
  | [a] => f a
  | _ => false
def zHash : V := .l (List.replicate 32 (.i 0))
def zReq : V := .l [.i 0, zHash, .l [zHash, .i 0], .s [], .i 0]
def rqv (k : Int) (h r : V) (nm : List V) (m : Int) : V := .l [.i k, h, r, .s nm, .i m]
def smN (x : V) : Bool := match x with
  | .l [_, _, _, .s nm, _] => Nat.ble nm.length 9223372036854775807
  | _ => false
def rtB (x out : V) (k m : Int) (nm : List V) : Bool := veq x out && (ile 1 k && (ile k 7 && (ile (nm.length : Nat) 64 && (ile 0 m && ile m 100))))
def rtT (b : Nat) (x out : V) (k m : Int) (nm : List V) : Option (List Rs) :=
  bif veq x out then bif ile 1 k then bif ile k 7 then ln nm.length <| bif ile (nm.length : Nat) 64 then bif ile 0 m then bif ile m 100 then some [.d b (.b true)]
    else some [.d b (.b false)] else some [.d b (.b false)] else some [.d b (.b false)] else some [.d b (.b false)] else some [.d b (.b false)] else some [.d b (.b false)]
theorem rtT_law {b : Nat} {x out : V} {k m : Int} {nm : List V} (h : nm.length ≤ 9223372036854775807) : rtT b x out k m nm = some [.d b (.b (rtB x out k m nm))] := by
  unfold rtT rtB
  rw [ln_in h]
  cases veq x out <;> cases ile 1 k <;> cases ile k 7 <;> cases ile (nm.length : Nat) 64 <;> cases ile 0 m <;> cases ile m 100 <;> rfl
def rt6 (b : Nat) (x out : V) (k m : Int) (nm : List V) : Option (List Rs) := bif ieq k 6 then rtT b x (out.put 4 (.i m)) k m nm else rtT b x out k m nm
def rtG (b : Nat) (k n m : Int) (hs rh nm : List V) : Option (List Rs) :=
  bif ieq k 2 then rt6 b (rqv k (.l hs) (.l [.l rh, .i n]) nm m) ((zReq.put 0 (.i k)).put 1 (.l hs)) k m nm else
  bif ieq k 3 then rt6 b (rqv k (.l hs) (.l [.l rh, .i n]) nm m) ((zReq.put 0 (.i k)).put 2 (.l [.l rh, .i n])) k m nm else
  bif ieq k 4 then rt6 b (rqv k (.l hs) (.l [.l rh, .i n]) nm m) ((zReq.put 0 (.i k)).put 3 (.s nm)) k m nm else
  bif ieq k 5 then rt6 b (rqv k (.l hs) (.l [.l rh, .i n]) nm m) ((zReq.put 0 (.i k)).put 3 (.s nm)) k m nm else
  bif ieq k 6 then rt6 b (rqv k (.l hs) (.l [.l rh, .i n]) nm m) ((zReq.put 0 (.i k)).put 3 (.s nm)) k m nm else
  bif ieq k 7 then rt6 b (rqv k (.l hs) (.l [.l rh, .i n]) nm m) ((zReq.put 0 (.i k)).put 3 (.s nm)) k m nm else
  rt6 b (rqv k (.l hs) (.l [.l rh, .i n]) nm m) (zReq.put 0 (.i k)) k m nm
def bareO (k : Int) (h r : V) (nm : List V) : V :=
  bif ieq k 2 then (zReq.put 0 (.i k)).put 1 h else bif ieq k 3 then (zReq.put 0 (.i k)).put 2 r else
  bif ieq k 4 then (zReq.put 0 (.i k)).put 3 (.s nm) else bif ieq k 5 then (zReq.put 0 (.i k)).put 3 (.s nm) else
  bif ieq k 6 then (zReq.put 0 (.i k)).put 3 (.s nm) else bif ieq k 7 then (zReq.put 0 (.i k)).put 3 (.s nm) else zReq.put 0 (.i k)
def bareV (k m : Int) (h r : V) (nm : List V) : V := bif ieq k 6 then (bareO k h r nm).put 4 (.i m) else bareO k h r nm
def rqR (x : V) : Bool := match x with
  | .l [.i k, h, r, .s nm, .i m] => rtB x (bareV k m h r nm) k m nm
  | _ => false
theorem rtG_law {b : Nat} {k n m : Int} {hs rh nm : List V} (h : smN (rqv k (.l hs) (.l [.l rh, .i n]) nm m) = true) : rtG b k n m hs rh nm = some [.d b (.b (rqR (rqv k (.l hs) (.l [.l rh, .i n]) nm m)))] := by
  have h : nm.length ≤ 9223372036854775807 := Nat.le_of_ble_eq_true h
  show _ = some [Rs.d b (.b (rtB (rqv k (.l hs) (.l [.l rh, .i n]) nm m) (bareV k m (.l hs) (.l [.l rh, .i n]) nm) k m nm))]
  unfold rtG rt6 bareV bareO
  simp only [rtT_law h]
  cases ieq k 6 <;> cases ieq k 2 <;> cases ieq k 3 <;> cases ieq k 4 <;> cases ieq k 5 <;> cases ieq k 7 <;> rfl
def DReq : D := .struct [.int .i64, .arr 32 (.int .u8), DRef, .str, .int .i64]
theorem req_v {x : V} (h : DReq.has x) : ∃ k hs rh n nm m, x = rqv k (.l hs) (.l [.l rh, .i n]) nm m ∧ (∃ ns : List Nat, hs = ns.map nv ∧ Byt ns ∧ ns.length = 32) ∧ (∃ ns : List Nat, rh = ns.map nv ∧ Byt ns ∧ ns.length = 32) ∧ (∃ a : Nat, n = a ∧ a < 4294967296) ∧ (∃ ns : List Nat, nm = ns.map nv ∧ Byt ns) ∧ inR .i64 m := by
  obtain ⟨ys, rfl, hy⟩ := h
  obtain ⟨a, b, c, d, e, rfl, ha, hb, hc, hd, he⟩ := hasL5 hy
  obtain ⟨k, rfl, _⟩ := ha
  obtain ⟨hs, rfl, hl, hh⟩ := hb
  obtain ⟨rh, n, rfl, rl, n0, n1⟩ := ref_v hc
  obtain ⟨nm, rfl, hn⟩ := hd
  obtain ⟨m, rfl, hm⟩ := he
  obtain ⟨ns, rfl, hns⟩ := u8s hh
  have hrh : ∃ ns : List Nat, rh = ns.map nv ∧ Byt ns ∧ ns.length = 32 := by
    obtain ⟨zs, q, hz⟩ := hc
    cases q
    obtain ⟨u, v, q2, hu, hv⟩ := hasL2 hz
    cases q2
    obtain ⟨us, q3, _, hu3⟩ := hu
    cases q3
    obtain ⟨ws, rfl, hw⟩ := u8s hu3
    exact ⟨ws, rfl, hw, by simpa using rl⟩
  obtain ⟨a, rfl⟩ := Int.eq_ofNat_of_zero_le n0
  exact ⟨k, _, rh, _, _, m, rfl, ⟨ns, rfl, hns, by simpa using hl⟩, hrh, ⟨a, rfl, by omega⟩, ⟨nm, rfl, hn⟩, hm⟩
/-- A request that can be, and its bytes. -/
inductive Rq : V → List Nat → Prop
  | tip : Rq (rqv 1 zHash (.l [zHash, .i 0]) [] 0) [1]
  | blk (hs : List Nat) : Byt hs → hs.length = 32 → Rq (rqv 2 (.l (hs.map nv)) (.l [zHash, .i 0]) [] 0) (2 :: hs)
  | coin (hs : List Nat) (a : Nat) : Byt hs → hs.length = 32 → a < 4294967296 → Rq (rqv 3 zHash (.l [.l (hs.map nv), .i (a : Int)]) [] 0) (3 :: (hs ++ leB 4 a))
  | name (k : Nat) (v : List Nat) : k = 4 ∨ k = 5 ∨ k = 7 → Byt v → v.length ≤ 64 → Rq (rqv (k : Int) zHash (.l [zHash, .i 0]) (v.map nv) 0) (k :: (cntB v.length ++ v))
  | scan (v : List Nat) (m : Nat) : Byt v → v.length ≤ 64 → m ≤ 100 → Rq (rqv 6 zHash (.l [zHash, .i 0]) (v.map nv) (m : Int)) (6 :: (cntB v.length ++ (v ++ cntB m)))
theorem rq_of {x : V} (hd : DReq.has x) (h : rqR x = true) : ∃ p, Rq x p := by
  obtain ⟨k, hs, rh, n, nm, m, rfl, ⟨hs', rfl, hb, hl⟩, ⟨rh', hrh, rb, rl⟩, ⟨a, rfl, ha⟩, ⟨v, hv, hvb⟩, hm⟩ := req_v hd
  have h : rtB (rqv k (.l (hs'.map nv)) (.l [.l rh, .i (a : Int)]) nm m) (bareV k m (.l (hs'.map nv)) (.l [.l rh, .i (a : Int)]) nm) k m nm = true := h
  unfold rtB at h
  simp only [Bool.and_eq_true, veq_iff, ile_iff] at h
  obtain ⟨he, h1, h7, hn, m0, m1⟩ := h
  have hvl : v.length ≤ 64 := by rw [hv, List.length_map] at hn; omega
  have hk : k = 1 ∨ k = 2 ∨ k = 3 ∨ k = 4 ∨ k = 5 ∨ k = 6 ∨ k = 7 := by omega
  generalize hH : V.l (hs'.map nv) = H at he ⊢
  rcases hk with rfl | rfl | rfl | rfl | rfl | rfl | rfl
  · have he : rqv 1 H (.l [.l rh, .i (a : Int)]) nm m = rqv 1 zHash (.l [zHash, .i 0]) [] 0 := he
    exact ⟨_, by rw [he]; exact .tip⟩
  · have he : rqv 2 H (.l [.l rh, .i (a : Int)]) nm m = rqv 2 H (.l [zHash, .i 0]) [] 0 := he
    exact ⟨_, by rw [he, ← hH]; exact .blk hs' hb hl⟩
  · have he : rqv 3 H (.l [.l rh, .i (a : Int)]) nm m = rqv 3 zHash (.l [.l rh, .i (a : Int)]) [] 0 := he
    exact ⟨_, by rw [he, hrh]; exact .coin rh' a rb rl ha⟩
  · have he : rqv 4 H (.l [.l rh, .i (a : Int)]) nm m = rqv 4 zHash (.l [zHash, .i 0]) nm 0 := he
    exact ⟨_, by rw [he, hv]; exact .name 4 v (by simp) hvb hvl⟩
  · have he : rqv 5 H (.l [.l rh, .i (a : Int)]) nm m = rqv 5 zHash (.l [zHash, .i 0]) nm 0 := he
    exact ⟨_, by rw [he, hv]; exact .name 5 v (by simp) hvb hvl⟩
  · have he : rqv 6 H (.l [.l rh, .i (a : Int)]) nm m = rqv 6 zHash (.l [zHash, .i 0]) nm m := he
    obtain ⟨m', rfl⟩ := Int.eq_ofNat_of_zero_le m0
    exact ⟨_, by rw [he, hv]; exact .scan v m' hvb hvl (by omega)⟩
  · have he : rqv 7 H (.l [.l rh, .i (a : Int)]) nm m = rqv 7 zHash (.l [zHash, .i 0]) nm 0 := he
    exact ⟨_, by rw [he, hv]; exact .name 7 v (by simp) hvb hvl⟩
/-- The bytes. -/
def rqB (x : V) : List V := match x with
  | .l [.i k, h, r, .s nm, .i m] => .i k :: (bif ieq k 1 then [] else bif ieq k 2 then h.els else bif ieq k 3 then refB r else bif ieq k 6 then txtL nm ++ cntL m else txtL nm)
  | _ => []
theorem txtL_nv (v : List Nat) : txtL (v.map nv) = (cntB v.length ++ v).map nv := by
  unfold txtL; rw [List.length_map, cntL_cntB, List.map_append]
theorem rq_bytes {x : V} {p : List Nat} (h : Rq x p) : rqB x = p.map nv := by
  cases h with
  | tip => rfl
  | blk hs _ _ => rfl
  | coin hs a _ _ _ =>
    show V.i 3 :: refB (.l [.l (hs.map nv), .i (a : Int)]) = _
    rw [show refB (.l [.l (hs.map nv), .i (a : Int)]) = hs.map nv ++ leV 4 (a : Int) from rfl, leV_leB]
    simp [nv]
  | name k v hk _ _ =>
    rcases hk with rfl | rfl | rfl
    all_goals
      show V.i _ :: txtL (v.map nv) = _
      rw [txtL_nv]; rfl
  | scan v m _ _ _ =>
    show V.i 6 :: (txtL (v.map nv) ++ cntL (m : Int)) = _
    rw [txtL_nv, cntL_cntB, ← List.map_append, List.append_assoc]; rfl
end Go.Vm

namespace Go.Vm
open Go.RowKit
set_option linter.unusedVariables false
set_option linter.constructorNameAsVariable false

/-! ### A request of bytes -/
def pqK (y : V) : Int := W64 (numE (rawV y (wiI 1)).els)
def z32r : List V := List.replicate 32 (.i 0)
def pqA (y : V) : V × V :=
  bif ieq (pqK y) 2 then (rawX (rawX y (wiI 1)) 32, bif (rawV (rawX y (wiI 1)) 32).els.isEmpty then zReq.put 0 (.i (pqK y)) else (zReq.put 0 (.i (pqK y))).put 1 (.l (splice z32r 0 (rawV (rawX y (wiI 1)) 32).els))) else
  bif ieq (pqK y) 3 then (rrE (rawX y (wiI 1)), (zReq.put 0 (.i (pqK y))).put 2 (rrV (rawX y (wiI 1)))) else
  bif ieq (pqK y) 4 || (ieq (pqK y) 5 || (ieq (pqK y) 6 || ieq (pqK y) 7)) then (txX (rawX y (wiI 1)) 64, (zReq.put 0 (.i (pqK y))).put 3 (.s (txV (rawX y (wiI 1)) 64).els)) else
  (rawX y (wiI 1), zReq.put 0 (.i (pqK y)))
def pqB (k : Int) (p : V × V) : V × V := bif ieq k 6 then (ctX p.1 100, p.2.put 4 (.i (W64 (ctV p.1 100)))) else p
def pqP (b : V) : V × V := pqB (pqK (.l [b, .i 0])) (pqA (.l [b, .i 0]))
def pqEq (p : V × V) : Int := bif !ieq (rdE p.1) 0 then rdE p.1 else bif ilt 0 ((rdL p.1).length : Nat) then 62 else bif rqR p.2 then 0 else 62
def pqVq (p : V × V) : V := bif !ieq (rdE p.1) 0 then zReq else bif ilt 0 ((rdL p.1).length : Nat) then zReq else bif rqR p.2 then p.2 else zReq
def pqE (b : V) : Int := pqEq (pqP b)
def pqV (b : V) : V := pqVq (pqP b)
def cE (t e : Nat) (y out : V) : Option (List Rs) :=
  bif !ieq (rdE y) 0 then some [.d t zReq, .d e (.i (rdE y))] else ln (rdL y).length <| bif ilt 0 ((rdL y).length : Nat) then some [.d t zReq, .d e (.i 62)] else
  bif smN out then bif rqR out then some [.d t out, .d e (.i 0)] else some [.d t zReq, .d e (.i 62)] else none
def c6 (t e : Nat) (k : Int) (y out : V) : Option (List Rs) := bif ieq k 6 then bif rdO y then cE t e (ctX y 100) (out.put 4 (.i (W64 (ctV y 100)))) else none else cE t e y out
def qpG (t e : Nat) (bs : List V) : Option (List Rs) :=
  lim (0 + bs.length) <| (fun y => bif rdO y then (fun k y1 o =>
    bif ieq k 2 then bif rdO y1 then lim (rawV y1 32).els.length <| bif (rawV y1 32).els.isEmpty then c6 t e k (rawX y1 32) o else bif Nat.ble (rawV y1 32).els.length 32 && Nat.ble (0 + 32) 32 then c6 t e k (rawX y1 32) (o.put 1 (.l (splice z32r 0 (rawV y1 32).els))) else none else none else
    bif ieq k 3 then bif rdO y1 then c6 t e k (rrE y1) (o.put 2 (rrV y1)) else none else
    bif ieq k 4 then bif rdO y1 then c6 t e k (txX y1 64) (o.put 3 (.s (txV y1 64).els)) else none else
    bif ieq k 5 then bif rdO y1 then c6 t e k (txX y1 64) (o.put 3 (.s (txV y1 64).els)) else none else
    bif ieq k 6 then bif rdO y1 then c6 t e k (txX y1 64) (o.put 3 (.s (txV y1 64).els)) else none else
    bif ieq k 7 then bif rdO y1 then c6 t e k (txX y1 64) (o.put 3 (.s (txV y1 64).els)) else none else
    c6 t e k y1 o) (pqK y) (rawX y (wiI 1)) (zReq.put 0 (.i (pqK y))) else none) (.l [.l bs, .i 0])
theorem cE_law {t e : Nat} {y out : V} (hy : rdO y = true) (hs : smN out = true) : cE t e y out = some [.d t (pqVq (y, out)), .d e (.i (pqEq (y, out)))] := by
  have hl : (rdL y).length ≤ LIM := Nat.le_of_ble_eq_true hy
  have hl : (rdL y).length ≤ 1073741824 := hl
  unfold cE pqVq pqEq
  rw [ln_in (by omega), hs]
  cases ieq (rdE y) 0 <;> cases ilt 0 ((rdL y).length : Nat) <;> cases rqR out <;> rfl
theorem c6_law {t e : Nat} {k : Int} {y out : V} (hy : rdO y = true) (hs : smN out = true) (hs' : ∀ v, smN (out.put 4 v) = true) : c6 t e k y out = some [.d t (pqVq (pqB k (y, out))), .d e (.i (pqEq (pqB k (y, out))))] := by
  unfold c6 pqB
  cases ieq k 6
  · exact cE_law hy hs
  · rw [hy]; exact cE_law (ctX_ok hy) (hs' _)
theorem els_rawV (x : V) (n : Int) (h : ieq (rdE x) 0 = true) : (rawV x n).els.length ≤ n.toNat := by
  unfold rawV
  rw [h]
  cases h1 : ilt n 1
  · cases h2 : ilt ((rdL x).length : Nat) n
    · have := sub_len2 (rdL x) (lo := 0) (hi := n) (by have := not_ilt h1; omega)
      show (sub (rdL x) 0 n).length ≤ _
      omega
    · exact Nat.zero_le _
  · exact Nat.zero_le _
theorem rawV_le (x : V) (n : Int) : (rawV x n).els.length ≤ n.toNat := by
  cases h : ieq (rdE x) 0 with
  | true => exact els_rawV x n h
  | false => unfold rawV; rw [h]; exact Nat.zero_le _
theorem rawV_short (x : V) (n : Int) : (rawV x n).els.length ≤ (rdL x).length := by
  unfold rawV
  cases (!ieq (rdE x) 0)
  · cases ilt n 1
    · cases ilt ((rdL x).length : Nat) n
      · exact sub_len _ _ _
      · exact Nat.zero_le _
    · exact Nat.zero_le _
  · exact Nat.zero_le _
theorem txV_short (x : V) (m : Int) : (txV x m).els.length ≤ (rdL x).length := by
  unfold txV
  cases (!ieq (rdE x) 0)
  · cases (!ieq (txI x (txP x m)) 0)
    · exact Nat.le_trans (rawV_short _ _) (sub_len _ _ _)
    · exact Nat.zero_le _
  · exact Nat.zero_le _
theorem rr_ok {y : V} (h : rdO y = true) : rdO (rrE y) = true := rawX_ok (rawX_ok h)
theorem qpG_law {t e : Nat} {bs : List V} (h : bs.length ≤ 268435456) : qpG t e bs = some [.d t (pqV (.l bs)), .d e (.i (pqE (.l bs)))] := by
  unfold qpG pqV pqE pqP pqA
  have hy : rdO (.l [.l bs, .i 0]) = true := Nat.ble_eq_true_of_le (by show bs.length ≤ 1073741824; omega)
  generalize (V.l [.l bs, .i 0]) = y at hy ⊢
  rw [lim_in (by omega)]
  simp only [hy, cond_true]
  have hy1 : rdO (rawX y (wiI 1)) = true := rawX_ok hy
  generalize rawX y (wiI 1) = y1 at hy1 ⊢
  generalize pqK y = k
  have hl1 : (rdL y1).length ≤ 1073741824 := Nat.le_of_ble_eq_true hy1
  have hr : (rawV y1 32).els.length ≤ 32 := rawV_le y1 32
  have ht : Nat.ble (txV y1 64).els.length 9223372036854775807 = true := Nat.ble_eq_true_of_le (by have := txV_short y1 64; omega)
  simp only [hy1, cond_true]
  rw [lim_in (by omega), show Nat.ble (rawV y1 32).els.length 32 = true from Nat.ble_eq_true_of_le hr]
  cases ieq k 2
  · cases ieq k 3
    · have hT := c6_law (t := t) (e := e) (k := k) (y := txX y1 64) (out := (zReq.put 0 (.i k)).put 3 (.s (txV y1 64).els)) (txX_ok hy1) ht (fun v => ht)
      cases ieq k 4
      · cases ieq k 5
        · cases h6 : ieq k 6
          · cases ieq k 7
            · exact c6_law hy1 rfl (fun _ => rfl)
            · exact hT
          · exact hT
        · exact hT
      · exact hT
    · exact c6_law (rr_ok hy1) rfl (fun _ => rfl)
  · cases (rawV y1 32).els.isEmpty
    · exact c6_law (rawX_ok hy1) rfl (fun _ => rfl)
    · exact c6_law (rawX_ok hy1) rfl (fun _ => rfl)
theorem pq_nil : pqV .n = zReq ∧ pqE .n = 61 := ⟨rfl, rfl⟩
end Go.Vm

namespace Go.Vm
open Go.RowKit
set_option linter.unusedVariables false
set_option linter.constructorNameAsVariable false

/-! ### Requests are read as they were written -/
theorem cntB_one {n : Nat} (h : n ≤ 100) : cntB n = [n] := by unfold cntB; rw [if_pos (by omega)]
/-- What is read behind the kind. -/
theorem pq_kind (a : Nat) (r : List Nat) (ha : a < 256) : pqK (rd (a :: r)) = (a : Int) ∧ rawX (rd (a :: r)) (wiI 1) = rd r := by
  obtain ⟨h1, h2⟩ := raw_app [a] r 1 rfl
  unfold pqK
  rw [wiI_1]
  have e : numE ([a].map nv) = (a : Int) := by
    have := numE_leN [a] (fun x hx => by simp at hx; omega) (by simp)
    rw [this]; simp [leN]
  refine ⟨?_, h1⟩
  rw [show ((1 : Nat) : Int) = 1 from rfl, show rawV (rd (a :: r)) 1 = rawV (rd ([a] ++ r)) 1 from rfl, h2, e]
  exact w64_in (by omega) (by omega)
theorem rr_write {hs r : List Nat} {a : Nat} (hl : hs.length = 32) (h4 : a < 4294967296) : rrE (rd (hs ++ (leB 4 a ++ r))) = rd r ∧ rrV (rd (hs ++ (leB 4 a ++ r))) = .l [.l (hs.map nv), .i (a : Int)] := by
  obtain ⟨c1, c2⟩ := raw_app hs (leB 4 a ++ r) 32 (by rw [hl]; rfl)
  obtain ⟨d1, d2⟩ := raw_app (leB 4 a) r 4 (by rw [leB_len]; rfl)
  have e : rrE (rd (hs ++ (leB 4 a ++ r))) = rd r := by
    unfold rrE; rw [c1, wiI_4]; exact d1
  refine ⟨e, ?_⟩
  unfold rrV
  rw [e, rd_E, show (!ieq 0 0) = false from rfl, c1, c2, wiI_4, show ((4 : Nat) : Int) = 4 from rfl, d2, num_le 4 a (by decide) (by rw [show (256 : Nat) ^ 4 = 4294967296 by decide]; exact h4), w32_lt h4]
  simp only [cond_false]
  rw [List.take_of_length_le (by simp [hl])]
theorem rq_parse {x : V} {p : List Nat} (h : Rq x p) {r : List Nat} (hr : Byt r) (hl : r.length ≤ 100) : pqP (.l ((p ++ r).map nv)) = (rd r, x) := by
  unfold pqP
  rw [show V.l [.l ((p ++ r).map nv), .i 0] = rd (p ++ r) from rfl]
  cases h with
  | tip =>
    obtain ⟨h1, h2⟩ := pq_kind 1 r (by decide)
    unfold pqA
    rw [show [1] ++ r = 1 :: r from rfl, h1, h2]
    rfl
  | blk hs hb h32 =>
    obtain ⟨h1, h2⟩ := pq_kind 2 (hs ++ r) (by decide)
    obtain ⟨c1, c2⟩ := raw_app hs r 32 (by rw [h32]; rfl)
    unfold pqA
    rw [show 2 :: hs ++ r = 2 :: (hs ++ r) from rfl, h1, h2, c1, c2]
    have e : splice z32r 0 (hs.map nv) = hs.map nv := by
      unfold splice
      rw [List.take_zero, List.nil_append, List.drop_eq_nil_of_le (by simp [z32r, h32]), List.append_nil]
    have e2 : (hs.map nv).isEmpty = false := by
      cases hs with
      | nil => cases h32
      | cons _ _ => rfl
    rw [e, e2]
    rfl
  | coin hs a hb h32 ha =>
    obtain ⟨h1, h2⟩ := pq_kind 3 (hs ++ (leB 4 a ++ r)) (by decide)
    obtain ⟨c1, c2⟩ := rr_write (r := r) h32 ha
    unfold pqA
    rw [show 3 :: (hs ++ leB 4 a) ++ r = 3 :: (hs ++ (leB 4 a ++ r)) by simp, h1, h2, c1, c2]
    rfl
  | name k v hk hb h64 =>
    obtain ⟨h1, h2⟩ := pq_kind k (cntB v.length ++ v ++ r) (by omega)
    obtain ⟨c1, c2⟩ := tx_write (m := 64) (v := v) (r := r) (Byt.app.2 ⟨hb, hr⟩) (by decide) h64 (by
      rw [List.length_append, List.length_append, cntB_one (by omega)]; simp; omega)
    unfold pqA
    rw [show k :: (cntB v.length ++ v) ++ r = k :: (cntB v.length ++ v ++ r) by simp, h1, h2, show (64 : Int) = ((64 : Nat) : Int) from rfl, c1, c2]
    rcases hk with rfl | rfl | rfl <;> rfl
  | scan v m hb h64 hm =>
    obtain ⟨h1, h2⟩ := pq_kind 6 (cntB v.length ++ v ++ (cntB m ++ r)) (by decide)
    obtain ⟨c1, c2⟩ := tx_write (m := 64) (v := v) (r := cntB m ++ r) (Byt.app.2 ⟨hb, Byt.app.2 ⟨cntB_byt, hr⟩⟩) (by decide) h64 (by
      rw [List.length_append, List.length_append, List.length_append, cntB_one (by omega), cntB_one hm]; simp; omega)
    obtain ⟨g1, g2⟩ := ct_write (n := m) (most := 100) (r := r) hr hm (by omega)
    unfold pqA
    rw [show 6 :: (cntB v.length ++ (v ++ cntB m)) ++ r = 6 :: (cntB v.length ++ v ++ (cntB m ++ r)) by simp, h1, h2, show (64 : Int) = ((64 : Nat) : Int) from rfl, c1, c2]
    show (ctX (rd (cntB m ++ r)) 100, (rqv 6 zHash (.l [zHash, .i 0]) (v.map nv) 0).put 4 (.i (W64 (ctV (rd (cntB m ++ r)) 100)))) = _
    rw [show (100 : Int) = ((100 : Nat) : Int) from rfl, g1, g2, w64_in (by omega) (by omega)]
    rfl
/-! ### Cut off -/
theorem raw_cut {l : List Nat} {n : Nat} (h : l.length < n) : rawX (rd l) (n : Int) = .l [.l (l.map nv), .i 61] := by
  rw [(raw_rd l n).1, if_pos h]
theorem rawX_bad {x : V} {n : Int} (h : ieq (rdE x) 0 = false) : rawX x n = x := by
  unfold rawX; rw [h]; rfl
theorem rr_cut {l : List Nat} (h : l.length < 36) : rdE (rrE (rd l)) = 61 := by
  unfold rrE
  by_cases h1 : l.length < 32
  · rw [show (32 : Int) = ((32 : Nat) : Int) from rfl, raw_cut h1, rawX_bad rfl]; rfl
  · rw [show (32 : Int) = ((32 : Nat) : Int) from rfl, (raw_rd l 32).1, if_neg h1, wiI_4, raw_cut (by rw [List.length_drop]; omega)]; rfl
theorem tx_cut {v : List Nat} (hb : Byt v) (h64 : v.length ≤ 64) {m : Nat} (hm : m < v.length + 1) : rdE (txX (rd ((cntB v.length ++ v).take m)) 64) = 61 := by
  rw [cntB_one (by omega)]
  cases m with
  | zero => rfl
  | succ m =>
    rw [show ([v.length] ++ v).take (m + 1) = cntB v.length ++ v.take m by rw [cntB_one (by omega)]; rfl]
    have hlen : (cntB v.length ++ v.take m).length = 1 + m := by
      rw [cntB_one (by omega), List.length_append, List.length_take]; simp; omega
    have hp : txP (rd (cntB v.length ++ v.take m)) ((64 : Nat) : Int) = ((v.length : Int), (((cntB v.length).length : Nat) : Int), 0) := by
      unfold txP
      rw [mx_nat (by decide), pk_rd (Byt.app.2 ⟨cntB_byt, hb.take m⟩)]
      exact pk_cnt h64 (by omega)
    have hi := txI_rd (cntB v.length ++ v.take m) v.length (cntB v.length).length (by simp) (by omega)
    rw [if_pos (by rw [hlen, cntB_one (by omega)]; simp; omega)] at hi
    rw [show (64 : Int) = ((64 : Nat) : Int) from rfl, (tx_eq (rd_E _) hp).1, hi]
    rfl
theorem ctX_bad {x : V} {m : Int} (h : rdE x = 61) : ctX x m = x := by
  unfold ctX; rw [h]; rfl
theorem pqB_fst {k : Int} {p : V × V} (h : rdE p.1 = 61) : rdE (pqB k p).1 = 61 := by
  unfold pqB
  cases ieq k 6
  · exact h
  · show rdE (ctX p.1 100) = 61
    rw [ctX_bad h]; exact h
theorem rq_cut {x : V} {p : List Nat} (h : Rq x p) {n : Nat} (hn : n < p.length) : rdE (pqP (.l ((p.take n).map nv))).1 = 61 := by
  cases n with
  | zero => rw [List.take_zero]; rfl
  | succ n =>
    unfold pqP
    cases h with
    | tip => simp at hn
    | blk hs hb h32 =>
      refine pqB_fst ?_
      rw [show V.l [.l (((2 :: hs).take (n + 1)).map nv), .i 0] = rd (2 :: hs.take n) from rfl]
      obtain ⟨h1, h2⟩ := pq_kind 2 (hs.take n) (by decide)
      unfold pqA
      rw [h1, h2]
      show rdE (rawX (rd (hs.take n)) 32) = 61
      rw [show (32 : Int) = ((32 : Nat) : Int) from rfl, raw_cut (by rw [List.length_take]; simp at hn; omega)]; rfl
    | coin hs a hb h32 ha =>
      refine pqB_fst ?_
      rw [show V.l [.l (((3 :: (hs ++ leB 4 a)).take (n + 1)).map nv), .i 0] = rd (3 :: (hs ++ leB 4 a).take n) from rfl]
      obtain ⟨h1, h2⟩ := pq_kind 3 ((hs ++ leB 4 a).take n) (by decide)
      unfold pqA
      rw [h1, h2]
      exact rr_cut (by rw [List.length_take]; simp [leB_len] at hn ⊢; omega)
    | name k v hk hb h64 =>
      refine pqB_fst ?_
      rw [show V.l [.l (((k :: (cntB v.length ++ v)).take (n + 1)).map nv), .i 0] = rd (k :: (cntB v.length ++ v).take n) from rfl]
      obtain ⟨h1, h2⟩ := pq_kind k ((cntB v.length ++ v).take n) (by omega)
      have := tx_cut hb h64 (m := n) (by rw [List.length_cons, List.length_append, cntB_one (by omega)] at hn; simp at hn; omega)
      unfold pqA
      rw [h1, h2]
      rcases hk with rfl | rfl | rfl <;> exact this
    | scan v m hb h64 hm =>
      rw [show V.l [.l (((6 :: (cntB v.length ++ (v ++ cntB m))).take (n + 1)).map nv), .i 0] = rd (6 :: (cntB v.length ++ (v ++ cntB m)).take n) from rfl]
      obtain ⟨h1, h2⟩ := pq_kind 6 ((cntB v.length ++ (v ++ cntB m)).take n) (by decide)
      rw [h1]
      have hn : n < 1 + v.length + 1 := by
        rw [List.length_cons, List.length_append, List.length_append, cntB_one (by omega), cntB_one hm] at hn; simp at hn; omega
      unfold pqA
      rw [h1, h2]
      by_cases hc : n < v.length + 1
      · refine pqB_fst ?_
        have e : (cntB v.length ++ (v ++ cntB m)).take n = (cntB v.length ++ v).take n := by
          rw [← List.append_assoc, List.take_append_of_le_length (by rw [List.length_append, cntB_one (by omega)]; simp; omega)]
        rw [e]
        exact tx_cut hb h64 hc
      · have e : (cntB v.length ++ (v ++ cntB m)).take n = cntB v.length ++ v ++ [] := by
          rw [← List.append_assoc, List.append_nil, List.take_append_of_le_length (by rw [List.length_append, cntB_one (by omega)]; simp; omega), List.take_of_length_le (by rw [List.length_append, cntB_one (by omega)]; simp; omega)]
        rw [e]
        obtain ⟨c1, c2⟩ := tx_write (m := 64) (v := v) (r := []) (Byt.app.2 ⟨hb, fun _ h => by cases h⟩) (by decide) h64 (by
          rw [List.length_append, List.length_append, cntB_one (by omega)]; simp; omega)
        show rdE (ctX (txX (rd (cntB v.length ++ v ++ [])) ((64 : Nat) : Int)) 100) = 61
        rw [c1]; rfl
/-! ### The law -/
theorem pq_right {x : V} {p : List Nat} (h : Rq x p) (hR : rqR x = true) : pqV (.l (p.map nv)) = x ∧ pqE (.l (p.map nv)) = 0 := by
  have := rq_parse h (r := []) (fun _ h => by cases h) (by simp)
  rw [List.append_nil] at this
  unfold pqV pqE
  rw [this]
  unfold pqVq pqEq
  simp only
  rw [rd_E, rd_L, hR]
  exact ⟨rfl, rfl⟩
theorem pq_more {x : V} {p : List Nat} (h : Rq x p) : pqE (.l ((p ++ [0]).map nv)) = 62 := by
  unfold pqE
  rw [rq_parse h (r := [0]) (fun a h => by simp at h; omega) (by simp)]
  rfl
theorem pq_cut {x : V} {p : List Nat} (h : Rq x p) {n : Nat} (hn : n < p.length) : pqE (.l ((p.take n).map nv)) = 61 ∧ pqV (.l ((p.take n).map nv)) = zReq := by
  unfold pqV pqE pqVq pqEq
  rw [rq_cut h hn]
  exact ⟨rfl, rfl⟩
theorem rq_len {x : V} {p : List Nat} (h : Rq x p) : p.length ≤ 200 := by
  cases h with
  | tip => decide
  | blk hs hb h32 => simp; omega
  | coin hs a hb h32 ha => simp [leB_len]; omega
  | name k v hk hb h64 => rw [List.length_cons, List.length_append, cntB_one (by omega)]; simp; omega
  | scan v m hb h64 hm => rw [List.length_cons, List.length_append, List.length_append, cntB_one (by omega), cntB_one hm]; simp; omega
end Go.Vm

namespace Go.Vm
open Go.RowKit
set_option linter.unusedVariables false
set_option linter.constructorNameAsVariable false

/-! ### The document's reader: what its functions compute -/
def dnum : List V → Int → Int → Int
  | [], n, _ => n
  | a :: r, n, w => dnum r (WU (n + WU (WU a.int * w))) (WU (w * 256))
theorem wu_nat {n : Nat} (h : n < 18446744073709551616) : WU (n : Int) = (n : Int) := wu64_lt (by omega)
theorem dnum_at : ∀ (l : List Nat) (k n : Nat), Byt l → k + l.length ≤ 8 → n < 256 ^ k → dnum (l.map nv) (n : Int) (IntKind.wrap .u64 ((256 ^ k : Nat) : Int)) = ((n + 256 ^ k * leN l : Nat) : Int) := by
  intro l
  induction l with
  | nil => intro k n _ _ _; simp [dnum, leN]
  | cons a r ih =>
    intro k n hb hk hn
    obtain ⟨ha, hr⟩ := hb.cons
    rw [List.length_cons] at hk
    have hp : 256 ^ (k + 1) ≤ 256 ^ 8 := Nat.pow_le_pow_right (by decide) (by omega)
    have hp8 : (256 : Nat) ^ 8 = 18446744073709551616 := by decide
    have hs : 256 ^ (k + 1) = 256 * 256 ^ k := by rw [Nat.pow_succ, Nat.mul_comm]
    have hm : a * 256 ^ k ≤ 255 * 256 ^ k := Nat.mul_le_mul_right _ (by omega)
    show dnum (r.map nv) (WU ((n : Int) + WU (WU (a : Int) * WU ((256 ^ k : Nat) : Int)))) (WU (WU ((256 ^ k : Nat) : Int) * 256)) = _
    have e1 : WU ((256 ^ k : Nat) : Int) = ((256 ^ k : Nat) : Int) := wu_nat (by omega)
    have e2 : WU (a : Int) = (a : Int) := wu_nat (by omega)
    have e3 : WU ((a : Int) * ((256 ^ k : Nat) : Int)) = ((a * 256 ^ k : Nat) : Int) := by
      rw [← Int.natCast_mul]; exact wu_nat (by omega)
    have e4 : WU ((n : Int) + ((a * 256 ^ k : Nat) : Int)) = ((n + a * 256 ^ k : Nat) : Int) := by
      rw [← Int.natCast_add]; exact wu_nat (by omega)
    have e5 : ((256 ^ k : Nat) : Int) * 256 = ((256 ^ (k + 1) : Nat) : Int) := by
      rw [hs]; generalize 256 ^ k = p; omega
    rw [e1, e2, e3, e4, e5]
    refine (ih (k + 1) _ hr (by omega) (by omega)).trans ?_
    rw [hs, leN]
    generalize 256 ^ k = p
    have : n + a * p + 256 * p * leN r = n + p * (a + 256 * leN r) := by
      rw [Nat.mul_add, Nat.mul_comm a p, Nat.mul_left_comm p 256 (leN r), Nat.mul_assoc, Nat.add_assoc]
    rw [this]
theorem dnum_numE {l : List Nat} (hb : Byt l) (hl : l.length ≤ 8) : dnum (l.map nv) 0 1 = numE (l.map nv) := by
  rw [numE_leN l hb hl]
  have := dnum_at l 0 0 hb (by omega) (by decide)
  rw [show IntKind.wrap .u64 ((256 ^ 0 : Nat) : Int) = 1 from by decide] at this
  simpa using this
/-- The next bytes. -/
def drF (t s : Nat) : FC := fun R xs k => match xs with
  | [x, n] => bif rdO x then k [.d t (rawX x n.int), .d s (.l (rawV x n.int).els)] else none
  | _ => none
theorem drF_nat (t s : Nat) : FC.nat (drF t s) := by
  intro R xs k
  unfold drF
  split
  · rename_i x n; cases rdO x <;> rfl
  · rfl
def drG {R : Type} (t s : Nat) (xs : List V) (err n : Int) (k : List Rs → Option R) : Option R :=
  bif !ieq err 0 then k [.d t (.l [.l xs, .i err]), .d s (.l [])] else
  bif ilt n 1 then k [.d t (.l [.l xs, .i err]), .d s (.l [])] else
  ln xs.length <| bif ilt (xs.length : Nat) n then k [.d t (.l [.l xs, .i 61]), .d s (.l [])] else
  bnds (0 : Nat) n xs.length <| lim (0 + (sub xs (0 : Nat) n).length) <| bnds n (xs.length : Nat) xs.length <|
  k [.d t (.l [.l (sub xs n (xs.length : Nat)), .i err]), .d s (.l (sub xs (0 : Nat) n))]
def drN {R : Type} (t s : Nat) (err n : Int) (k : List Rs → Option R) : Option R :=
  bif !ieq err 0 then k [.d t (.l [.n, .i err]), .d s (.l [])] else
  bif ilt n 1 then k [.d t (.l [.n, .i err]), .d s (.l [])] else
  bif ilt (0 : Nat) n then k [.d t (.l [.n, .i 61]), .d s (.l [])] else
  bnds (0 : Nat) n 0 <| bnds n (0 : Nat) 0 <| k [.d t (.l [.n, .i err]), .d s (.l [])]
theorem dr_law (t s : Nat) {xs : List V} {err n : Int} {rs : List Rs} (h : drF t s (List Rs) [.l [.l xs, .i err], .i n] some = some rs) : drG t s xs err n some = some rs := by
  unfold drF at h
  simp only at h
  cases ho : rdO (.l [.l xs, .i err]) with
  | false => rw [ho] at h; cases h
  | true =>
  rw [ho] at h
  have hlen : xs.length ≤ 1073741824 := Nat.le_of_ble_eq_true ho
  simp only [cond_true, Option.some.injEq] at h
  subst h
  have e0 : rdE (.l [.l xs, .i err]) = err := rfl
  have e1 : rdL (.l [.l xs, .i err]) = xs := rfl
  have e2 : (V.l [.l xs, .i err]).nth 0 = .l xs := rfl
  have e3 : (V.i n).int = n := rfl
  simp only [drG, rawX, rawV, e0, e1, e2, e3]
  cases h1 : (!ieq err 0)
  · cases h2 : ilt n 1
    · rw [ln_in (by omega)]
      cases h3 : ilt (xs.length : Nat) n
      · have h2 : ¬ n < 1 := fun q => by rw [show ilt n 1 = true by simp [ilt, q]] at h2; cases h2
        have h3 : ¬ (xs.length : Int) < n := fun q => by rw [show ilt (xs.length : Nat) n = true by simp [ilt, q]] at h3; cases h3
        have := sub_len xs (0 : Nat) n
        simp only [cond_false]
        rw [bnds_in (by omega) (by omega) (by omega), lim_in (by omega), bnds_in (by omega) (by omega) (by omega)]
        rfl
      · rfl
    · rfl
  · rfl
theorem dr_lawN (t s : Nat) {err n : Int} {rs : List Rs} (h : drF t s (List Rs) [.l [.n, .i err], .i n] some = some rs) : drN t s err n some = some rs := by
  unfold drF at h
  simp only at h
  cases ho : rdO (.l [.n, .i err]) with
  | false => rw [ho] at h; cases h
  | true =>
  rw [ho] at h
  simp only [cond_true, Option.some.injEq] at h
  subst h
  have e0 : rdE (.l [.n, .i err]) = err := rfl
  have e1 : rdL (.l [.n, .i err]) = [] := rfl
  have e2 : (V.l [.n, .i err]).nth 0 = .n := rfl
  have e3 : (V.i n).int = n := rfl
  simp only [drN, rawX, rawV, e0, e1, e2, e3]
  cases h1 : (!ieq err 0)
  · cases h2 : ilt n 1
    · have h2 : ¬ n < 1 := fun q => by rw [show ilt n 1 = true by simp [ilt, q]] at h2; cases h2
      have h3 : ilt (0 : Nat) n = true := by simp [ilt]; omega
      simp only [List.length_nil, h3, cond_false, cond_true]; rfl
    · rfl
  · rfl
end Go.Vm

namespace Go.Vm
open Go.RowKit
set_option linter.unusedVariables false
set_option linter.constructorNameAsVariable false

/-! ### The document's counts and texts -/
def dcD {R : Type} (t u : Nat) (xs : List V) (err most n : Int) (sz : Int) (k : List Rs → Option R) : Option R :=
  ln (cntL n).length <| bif !ieq ((cntL n).length : Nat) (W64 (sz + 1)) then k [.d t (.l [.l xs, .i 62]), .d u (.i 0)] else
  bif ilt most n then k [.d t (.l [.l xs, .i 62]), .d u (.i 0)] else
  bnds (0 : Nat) (W64 (sz + 1)) xs.length <| lim (0 + (sub xs (0 : Nat) (W64 (sz + 1))).length) <| bnds (W64 (sz + 1)) (xs.length : Nat) xs.length <|
  k [.d t (.l [.l (sub xs (W64 (sz + 1)) (xs.length : Nat)), .i err]), .d u (.i n)]
def dcS {R : Type} (t u : Nat) (xs : List V) (err most : Int) (sz : Int) (k : List Rs → Option R) : Option R :=
  ln xs.length <| bif ilt (xs.length : Nat) (W64 (sz + 1)) then k [.d t (.l [.l xs, .i 61]), .d u (.i 0)] else
  bnds 1 (W64 (1 + sz)) xs.length <| bif Nat.ble (sub xs 1 (W64 (1 + sz))).length 8 then dcD t u xs err most (numE (sub xs 1 (W64 (1 + sz)))) sz k else none
def dc0 {R : Type} (t u : Nat) (xs : List V) (err most : Int) (k : List Rs → Option R) : Option R :=
  ln xs.length <| bif ilt (xs.length : Nat) (W64 (0 + 1)) then k [.d t (.l [.l xs, .i 61]), .d u (.i 0)] else dcD t u xs err most (WU (elV (.l xs) 0)) 0 k
def dcG {R : Type} (t u : Nat) (xs : List V) (err most : Int) (k : List Rs → Option R) : Option R :=
  bif !ieq err 0 then k [.d t (.l [.l xs, .i err]), .d u (.i 0)] else
  ln xs.length <| bif ieq (xs.length : Nat) 0 then k [.d t (.l [.l xs, .i 61]), .d u (.i 0)] else
  bif ile 0 0 && ilt 0 (xs.length : Nat) then
  (bif ilt 252 (elV (.l xs) 0) then
    (bif ilt 253 (elV (.l xs) 0) then bif ilt 254 (elV (.l xs) 0) then dcS t u xs err most 8 k else dcS t u xs err most 4 k
     else bif ilt 254 (elV (.l xs) 0) then dcS t u xs err most 8 k else dcS t u xs err most 2 k)
   else (bif ilt 253 (elV (.l xs) 0) then bif ilt 254 (elV (.l xs) 0) then dcS t u xs err most 8 k else dcS t u xs err most 4 k
     else bif ilt 254 (elV (.l xs) 0) then dcS t u xs err most 8 k else dc0 t u xs err most k)) else none
def dcN {R : Type} (t u : Nat) (err most : Int) (k : List Rs → Option R) : Option R :=
  bif !ieq err 0 then k [.d t (.l [.n, .i err]), .d u (.i 0)] else k [.d t (.l [.n, .i 61]), .d u (.i 0)]
theorem dcD_law (t u : Nat) {xs : List V} {err most n : Int} (sz : Nat) (hs : sz ≤ 8) (hl : xs.length ≤ 1073741824) (hz : sz + 1 ≤ xs.length) (he : ieq err 0 = true) :
    dcD t u xs err most n (sz : Int) some = some [.d t (.l [.l (sub xs (pkA (.l [.l xs, .i err]) most n ((sz + 1 : Nat) : Int)).2.1 (xs.length : Nat)), .i (pkA (.l [.l xs, .i err]) most n ((sz + 1 : Nat) : Int)).2.2]), .d u (.i (pkA (.l [.l xs, .i err]) most n ((sz + 1 : Nat) : Int)).1)] := by
  have he : err = 0 := ieq_iff.1 he
  subst he
  have hc := cntL_len n
  have e0 : sub xs 0 (xs.length : Nat) = xs := by unfold sub; simp
  unfold dcD pkA
  rw [ln_in (by omega), w64_in (by omega) (by omega), show ((sz : Int) + 1) = ((sz + 1 : Nat) : Int) by omega]
  cases (!ieq ((cntL n).length : Nat) ((sz + 1 : Nat) : Int))
  · cases ilt most n
    · have := sub_len xs (0 : Nat) ((sz + 1 : Nat) : Int)
      simp only [cond_false]
      rw [bnds_in (by omega) (by omega) (by omega), lim_in (by omega), bnds_in (by omega) (by omega) (by omega)]
    · simp only [cond_true, cond_false]; rw [e0]
  · simp only [cond_true]; rw [e0]
theorem dcS_law (t u : Nat) {xs : List V} {err most : Int} (sz : Nat) (hs : sz ≤ 8) (hl : xs.length ≤ 1073741824) (he : ieq err 0 = true) :
    dcS t u xs err most (sz : Int) some = some [.d t (.l [.l (sub xs (pkB (.l [.l xs, .i err]) most ((sz + 1 : Nat) : Int)).2.1 (xs.length : Nat)), .i (pkB (.l [.l xs, .i err]) most ((sz + 1 : Nat) : Int)).2.2]), .d u (.i (pkB (.l [.l xs, .i err]) most ((sz + 1 : Nat) : Int)).1)] := by
  have e0 : sub xs 0 (xs.length : Nat) = xs := by unfold sub; simp
  unfold dcS pkB
  rw [ln_in (by omega), w64_in (n := (sz : Int) + 1) (by omega) (by omega), w64_in (n := 1 + (sz : Int)) (by omega) (by omega), show ((sz : Int) + 1) = ((sz + 1 : Nat) : Int) by omega, show (1 + (sz : Int)) = ((sz + 1 : Nat) : Int) by omega]
  rw [show rdL (.l [.l xs, .i err]) = xs from rfl]
  cases h : ilt (xs.length : Nat) ((sz + 1 : Nat) : Int)
  · have h := not_ilt h
    have h8 : (sub xs 1 ((sz + 1 : Nat) : Int)).length ≤ 8 := by unfold sub; rw [List.length_take]; omega
    simp only [cond_false]
    rw [bnds_in (by omega) (by omega) (by omega), show Nat.ble (sub xs 1 ((sz + 1 : Nat) : Int)).length 8 = true from Nat.ble_eq_true_of_le h8, cond_true, dcD_law t u sz hs hl (by omega) he]
  · simp only [cond_true]; rw [e0]
theorem dc_law (t u : Nat) {ys : List Nat} {err most : Int} (hb : Byt ys) (ho : rdO (.l [.l (ys.map nv), .i err]) = true) : dcG t u (ys.map nv) err most some = some [.d t (ctX (.l [.l (ys.map nv), .i err]) most), .d u (.i (ctV (.l [.l (ys.map nv), .i err]) most))] := by
  have hl : (ys.map nv).length ≤ 1073741824 := Nat.le_of_ble_eq_true ho
  have eL : rdL (.l [.l (ys.map nv), .i err]) = ys.map nv := rfl
  have eE : rdE (.l [.l (ys.map nv), .i err]) = err := rfl
  have eN : ctX.isN (.l [.l (ys.map nv), .i err]) = false := rfl
  have eH : hdI (.l [.l (ys.map nv), .i err]) = elV (.l (ys.map nv)) 0 := rfl
  unfold dcG ctX ctV
  rw [eE, eL, eN, ln_in (by omega)]
  cases he : ieq err 0
  · rfl
  simp only [Bool.not_true, cond_false]
  unfold pkX
  rw [eL, eH]
  cases ys with
  | nil => rfl
  | cons a r =>
    obtain ⟨ha, _⟩ := hb.cons
    rw [show elV (.l ((a :: r).map nv)) 0 = ((a : Nat) : Int) from rfl, show ieq (((a :: r).map nv).length : Nat) 0 = false by rw [show (0 : Int) = ((0 : Nat) : Int) from rfl, ieq_nat]; simp]
    rw [show ilt 0 (((a :: r).map nv).length : Nat) = true by rw [show (0 : Int) = ((0 : Nat) : Int) from rfl, ilt_nat]; simp, show ile 0 0 = true from rfl]
    simp only [Bool.true_and, cond_true, cond_false]
    have c : ∀ k : Nat, ilt ((k : Nat) : Int) ((a : Nat) : Int) = decide (k < a) := fun k => ilt_nat k a
    have d : ∀ k : Nat, ieq ((a : Nat) : Int) ((k : Nat) : Int) = decide (a = k) := fun k => ieq_nat a k
    rw [show ilt 252 (a : Int) = decide (252 < a) from c 252, show ilt 253 (a : Int) = decide (253 < a) from c 253, show ilt 254 (a : Int) = decide (254 < a) from c 254, show ieq (a : Int) 253 = decide (a = 253) from d 253, show ieq (a : Int) 254 = decide (a = 254) from d 254, show ieq (a : Int) 255 = decide (a = 255) from d 255]
    generalize hxs : (a :: r).map nv = xs at *
    by_cases h5 : a = 255
    · subst h5; exact dcS_law t u 8 (by omega) hl he
    by_cases h4 : a = 254
    · subst h4; exact dcS_law t u 4 (by omega) hl he
    by_cases h3 : a = 253
    · subst h3; exact dcS_law t u 2 (by omega) hl he
    rw [decide_eq_false (show ¬ 252 < a by omega), decide_eq_false (show ¬ 253 < a by omega), decide_eq_false (show ¬ 254 < a by omega), decide_eq_false h3, decide_eq_false h4, decide_eq_false h5]
    simp only [cond_false]
    have hx : 1 ≤ xs.length := by rw [← hxs]; simp
    have hn : ilt ((xs.length : Nat) : Int) 1 = false := by rw [show (1 : Int) = ((1 : Nat) : Int) from rfl, ilt_nat]; exact decide_eq_false (by omega)
    unfold dc0
    rw [ln_in (by omega), show W64 (0 + 1) = 1 from by decide, hn]
    simp only [cond_false]
    rw [show elV (.l xs) 0 = (a : Int) by rw [← hxs]; rfl]
    exact dcD_law t u 0 (by omega) hl (by omega) he
theorem dc_lawN (t u : Nat) {err most : Int} : dcN t u err most some = some [.d t (ctX (.l [.n, .i err]) most), .d u (.i (ctV (.l [.n, .i err]) most))] := by
  unfold dcN ctX ctV
  rw [show rdE (.l [.n, .i err]) = err from rfl]
  cases (!ieq err 0) <;> rfl
theorem dctF_at {t u : Nat} {x n : V} {rs : List Rs} (h : ctF t u (List Rs) [x, n] some = some rs) : rdO x = true ∧ some rs = some [.d t (ctX x n.int), .d u (.i (ctV x n.int))] := by
  unfold ctF at h; simp only at h
  cases ho : rdO x with
  | false => rw [ho] at h; cases h
  | true => rw [ho] at h; exact ⟨rfl, h.symm⟩
end Go.Vm
end
