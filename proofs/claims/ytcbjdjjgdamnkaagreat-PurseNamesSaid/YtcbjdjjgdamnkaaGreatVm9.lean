/- What the operations of a program do, shown once for all programs; and numbers. -/
import Derived.Test.YtcbjdjjgdamnkaaGreatVm8
import Derived.OpenShut
import Derived.WalkKit
import Derived.ProofKit
import Derived.JoinedOf
import Derived.ChangeShapes
set_option linter.constructorNameAsVariable false
set_option linter.unusedVariables false
set_option linter.unusedSimpArgs false
noncomputable section
namespace Go.Vm
open Go.RowKit
section
variable {P : Program} {H : Type} {enc : TypeId × Value → H} {w w' : World} {b0 : Nat} {held : Bool}
theorem mapM_imp {α β : Type} {g g' : α → Option β} : ∀ (l : List α) (xs : List β), l.mapM g = some xs → (∀ a ∈ l, ∀ x, g a = some x → g' a = some x) → l.mapM g' = some xs := by
  intro l
  induction l with
  | nil => intro xs h _; simpa using h
  | cons a r ih =>
    intro xs h hg
    simp only [List.mapM_cons] at h ⊢
    cases ha : g a with
    | none => simp [ha] at h
    | some x =>
      cases hr : r.mapM g with
      | none => simp [ha, hr] at h
      | some ys =>
        simp [ha, hr] at h
        rw [hg a (by simp) x ha, ih ys hr (fun i hi => hg i (by simp [hi]))]
        simp [h]
theorem add_block' (a : Addr) (i : Nat) : (a.add i).block = a.block := by
  unfold Addr.add; split <;> simp_all
theorem cell_block {a : Addr} {v : Value} (h : w.cell? a = some v) : a.block < w.heap.size := by
  unfold World.cell? at h
  cases hb : w.heap[a.block]? with
  | none => simp [hb] at h
  | some o => exact (Array.getElem?_eq_some_iff.1 hb).1
theorem cell_same {a : Addr} (hb : w'.heap[a.block]? = w.heap[a.block]?) : w'.cell? a = w.cell? a := by
  unfold World.cell?; rw [hb]
theorem cells_ext (hw : ∀ i, i < w.heap.size → w'.heap[i]? = w.heap[i]?) {a : Addr} {n : Nat} {l : List Value} (hn : 0 < n) (h : w.cells? b0 a n = some l) : a.block < w.heap.size ∧ w'.cells? b0 a n = some l := by
  unfold World.cells? at h ⊢
  split at h <;> try (cases h; done)
  rename_i hb
  rw [if_pos hb]
  have hblk : a.block < w.heap.size := by
    obtain ⟨m, rfl⟩ : ∃ m, n = m + 1 := ⟨n - 1, by omega⟩
    rw [List.range_succ_eq_map, List.mapM_cons] at h
    cases h0 : w.cell? (a.add 0) with
    | none => simp [h0] at h
    | some v => have := cell_block h0; rwa [add_block'] at this
  refine ⟨hblk, mapM_imp _ _ h (fun i _ x hx => ?_)⟩
  have e := cell_same (w := w) (w' := w') (a := a.add i) (by rw [add_block']; exact hw _ hblk)
  rw [e]; exact hx
/-- Types whose slices' elements and pointers' goals take cells, and what they are made of. -/
def closedB (P : Program) (R : List TypeId) : Bool := R.all fun t => match P.underlying t with
  | some (.slice e) => decide (0 < P.cellsOf e) && R.contains e
  | some (.pointer e) => decide (0 < P.cellsOf e) && R.contains e
  | some (.struct fs) => fs.toList.all fun f => R.contains f.type
  | some (.array _ e) => R.contains e
  | some (.map _ e) => R.contains e
  | _ => true
theorem trod_ext {R : List TypeId} (hR : closedB P R = true) (hw : ∀ i, i < w.heap.size → w'.heap[i]? = w.heap[i]?) :
    ∀ (fuel : Nat) (t : TypeId) (cs : List Value) (x : DataW H × List MemPlace), t ∈ R → DataW.trod enc P w b0 (fun _ => true) true fuel t cs = some x → DataW.trod enc P w' b0 (fun b => decide (b < w.heap.size)) true fuel t cs = some x := by
  intro fuel
  induction fuel with
  | zero => intro t cs x _ h; simp [DataW.trod] at h
  | succ fuel ih =>
    intro t cs x ht h
    have hRt := (List.all_eq_true.1 hR) t ht
    have bindcells : ∀ (a : Addr) (n : Nat) (e : TypeId) (y : DataW H × List MemPlace), e ∈ R → 0 < n → (w.cells? b0 a n).bind (DataW.trod enc P w b0 (fun _ => true) true fuel e) = some y →
        a.block < w.heap.size ∧ (w'.cells? b0 a n).bind (DataW.trod enc P w' b0 (fun b => decide (b < w.heap.size)) true fuel e) = some y := fun a n e y he hn h => by
      cases hc : w.cells? b0 a n with
      | none => simp [hc] at h
      | some l =>
        rw [hc] at h
        obtain ⟨h1, h2⟩ := cells_ext hw hn hc
        exact ⟨h1, by rw [h2]; exact ih _ _ _ he h⟩
    simp only [DataW.trod] at h ⊢
    split at h
    case h_6 a e hu =>
      rw [hu] at hRt
      simp only [Bool.and_eq_true, decide_eq_true_eq, List.contains_iff_mem] at hRt
      obtain ⟨y, hy, rfl⟩ := Option.map_eq_some_iff.1 h
      rw [(bindcells _ _ _ _ hRt.2 hRt.1 hy).2]; rfl
    case h_8 e a len cap hu =>
      rw [hu] at hRt
      simp only [Bool.and_eq_true, decide_eq_true_eq, List.contains_iff_mem] at hRt
      split at h <;> try (cases h; done)
      rename_i hc
      rw [if_pos hc]
      cases h1 : (List.range len).mapM (fun i => (w.cells? b0 (a.add (i * P.cellsOf e)) (P.cellsOf e)).bind (DataW.trod enc P w b0 (fun _ => true) true fuel e)) with
      | none => rw [h1] at h; cases h
      | some elems =>
        rw [h1] at h
        have g1 := mapM_imp _ _ h1 (fun i _ y hy => (bindcells _ _ _ _ hRt.2 hRt.1 hy).2)
        rw [g1]
        simp only [Option.bind_some, if_true] at h ⊢
        obtain ⟨rest, hr, rfl⟩ := Option.map_eq_some_iff.1 h
        by_cases hb : a.block < w.heap.size
        · have g2 := mapM_imp _ _ hr (fun i _ y hy => (bindcells _ _ _ _ hRt.2 hRt.1 hy).2)
          rw [if_pos (by simpa using hb), g2]; rfl
        · have hz : cap - len = 0 := by
            rcases Nat.eq_zero_or_pos (cap - len) with h0 | h0
            · exact h0
            · exfalso
              obtain ⟨m, hm⟩ : ∃ m, cap - len = m + 1 := ⟨cap - len - 1, by omega⟩
              rw [hm, List.range_succ_eq_map, List.mapM_cons] at hr
              cases h0 : (w.cells? b0 (a.add ((len + 0) * P.cellsOf e)) (P.cellsOf e)).bind (DataW.trod enc P w b0 (fun _ => true) true fuel e) with
              | none => rw [h0] at hr; simp at hr
              | some y =>
                have := (bindcells _ _ _ _ hRt.2 hRt.1 h0).1
                rw [add_block'] at this
                exact hb this
          rw [hz] at hr
          simp at hr; subst hr
          rw [if_neg (by simpa using hb)]; rfl
    case h_9 fs cs' hu =>
      rw [hu] at hRt
      simp only [List.all_eq_true, List.contains_iff_mem] at hRt
      split at h <;> try (cases h; done)
      rename_i hc
      rw [if_pos hc]
      obtain ⟨y, hy, rfl⟩ := Option.map_eq_some_iff.1 h
      rw [mapM_imp _ _ hy (fun f hf z hz => ih _ _ _ (hRt f hf) hz)]; rfl
    case h_10 n e cs' hu =>
      rw [hu] at hRt
      simp only [List.contains_iff_mem] at hRt
      split at h <;> try (cases h; done)
      rename_i hc
      rw [if_pos hc]
      obtain ⟨y, hy, rfl⟩ := Option.map_eq_some_iff.1 h
      rw [mapM_imp _ _ hy (fun i _ z hz => ih _ _ _ hRt hz)]; rfl
    case h_14 k e b hu =>
      rw [hu] at hRt
      simp only [List.contains_iff_mem] at hRt
      cases ho : w.heap[b]? with
      | none => rw [ho] at h; cases h
      | some o =>
        have hb : b < w.heap.size := (Array.getElem?_eq_some_iff.1 ho).1
        rw [ho] at h
        rw [hw b hb, ho]
        cases o with
        | map es clock =>
          simp only at h ⊢
          split at h <;> try (cases h; done)
          rename_i hc
          rw [if_pos hc]
          obtain ⟨xs, h1, h2⟩ := Option.bind_eq_some_iff.1 h
          rw [mapM_imp _ _ h1 (fun a _ y hy => by
            obtain ⟨key, k1, k2⟩ := Option.bind_eq_some_iff.1 hy
            rw [k1]
            simp only [Option.bind_some]
            split at k2 <;> try (cases k2; done)
            rename_i hf
            rw [if_pos hf]
            obtain ⟨z, hz, rfl⟩ := Option.map_eq_some_iff.1 k2
            rw [ih _ _ _ hRt hz]; rfl)]
          exact h2
        | _ => cases h
    all_goals exact h
theorem trodAll_ext {R : List TypeId} (hR : closedB P R = true) (hw : ∀ i, i < w.heap.size → w'.heap[i]? = w.heap[i]?) :
    ∀ (ts : List TypeId) (vs : List Value) (ds : List (DataW H)) (ps : List MemPlace), (∀ t ∈ ts, t ∈ R) → DataW.TrodAll enc P w b0 (fun _ => true) true ts vs ds ps → DataW.TrodAll enc P w' b0 (fun b => decide (b < w.heap.size)) true ts vs ds ps := by
  intro ts
  induction ts with
  | nil =>
    intro vs ds ps _ h
    cases vs <;> cases ds <;> first | exact h | (exact False.elim h)
  | cons t r ih =>
    intro vs ds ps hts h
    cases vs with
    | nil => exact False.elim h
    | cons v vs =>
      cases ds with
      | nil => exact False.elim h
      | cons d ds =>
        obtain ⟨p, q, ⟨fuel, h1⟩, h2, h3⟩ := h
        exact ⟨p, q, ⟨fuel, trod_ext hR hw _ _ _ _ (hts _ (by simp)) h1⟩, ih _ _ _ (fun t ht => hts t (by simp [ht])) h2, h3⟩
/-- The law answers true, and nothing has turned: what the row asks. -/
theorem post_true {f : Func} {s : ChangeSpec} {args : Array Value} {ds gs : List (DataW H)} {before : List MemPlace} {fresh : Bool} {R : List TypeId} (hR : closedB P R = true) (hpR : f.params.toList.all (fun t => R.contains t) = true)
    (hW : DataW.Whole enc P f.params.toList s.vars false w args.toList ds gs before) (hs : Still w w') (hv : s.vars = []) {t : TypeId} (hr : f.resultTypes = #[t]) (ht : P.underlying t = some .bool)
    (hfn : s.fn H (ds ++ gs) = { results := [.lit (.bool true)], args := ds }) : s.post enc P f false fresh false false w args (.bool true) w' := by
  have hW' := hW
  obtain ⟨p, q, hA, hV, hb, hz, hn⟩ := hW
  rw [hv] at hV
  have hgq : gs = [] ∧ q = [] := by cases gs <;> first | exact ⟨rfl, hV⟩ | exact False.elim hV
  obtain ⟨rfl, rfl⟩ := hgq
  refine ⟨ds, [], before, [], p, [], hW', ?_, ?_, ?_, hs.kept _, fun h => by cases h⟩
  · rw [hfn, hr]
    exact ⟨[], [], ⟨1, by simp [DataW.trod, ht, Value.cells]⟩, rfl, rfl⟩
  · rw [hfn]; exact trodAll_ext hR hs.2.2.2 _ _ _ _ (fun t ht => by have := (List.all_eq_true.1 hpR) t ht; simpa [List.contains_iff_mem] using this) hA
  · rw [hfn, hv]; rfl
end
end Go.Vm

namespace Go.Vm
open Go.RowKit
variable {T : TT} {P : Program}
set_option linter.unusedVariables false
/-! ### A closed law: run, with what is said of some functions -/
def lookS : List (Nat × Sym) → Nat → Option Sym
  | [], _ => none
  | (k, s) :: r, f => bif Nat.beq k f then some s else lookS r f
def AllS (P : Program) (T : TT) : List (Nat × Sym) → Prop
  | [] => True
  | (k, s) :: r => SymOK P T k s ∧ AllS P T r
theorem lookS_ok : ∀ {l : List (Nat × Sym)}, AllS P T l → ∀ f s, lookS l f = some s → SymOK P T f s := by
  intro l
  induction l with
  | nil => intro _ f s h; cases h
  | cons p r ih =>
    obtain ⟨k, s0⟩ := p
    intro h f s hs
    simp only [lookS] at hs
    cases hk : Nat.beq k f with
    | true =>
      rw [hk] at hs; simp only [cond_true, Option.some.injEq] at hs
      have := Nat.eq_of_beq_eq_true hk; subst this; subst hs
      exact h.1
    | false => rw [hk] at hs; exact ih h.2 f s hs
def runZ (P : Program) (T : TT) (l : List (Nat × Sym)) (fu d f : Nat) : Sym := runAll P T (lookS l) (fun _ _ _ => none) fu d f
theorem runZ_ok (hm : P.follows .mixedOrders = true) (hT : TOK T P) {l : List (Nat × Sym)} (h : AllS P T l) {fu d f : Nat} : SymOK P T f (runZ P T l fu d f) :=
  runAll_ok hm hT (lookS_ok h) (fun f n0 fn code _ _ => loopsOK_none code) d f
end Go.Vm
end
