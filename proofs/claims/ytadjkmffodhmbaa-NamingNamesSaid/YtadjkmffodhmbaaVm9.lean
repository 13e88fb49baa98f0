/- What the operations of a program do, shown once for all programs; and numbers. -/
import Derived.Test.YtadjkmffodhmbaaVm8
import Derived.OpenShut
import Derived.WalkKit
import Derived.ProofKit
import Derived.JoinedOf
import Derived.ChangeShapes
import Derived.Sort.KeysCollected
import Derived.WideShapes
import Derived.Below
import Derived.Calls
set_option linter.constructorNameAsVariable false
set_option linter.unusedVariables false
set_option linter.unusedSimpArgs false
noncomputable section
namespace Go.Vm
open Go.RowKit
section
variable {P : Program} {H : Type} {enc : TypeId × Value → H} {w w' : World} {b0 : Nat} {held : Bool}
theorem mapM_imp {α β : Type} {g g' : α → Option β} : ∀ (l : List α) (xs : List β), l.mapM g = some xs → (∀ a ∈ l, ∀ x, g a = some x → g' a = some x) → l.mapM g' = some xs := by
  intro l
  induction l with
  | nil => intro xs h _; simpa using h
  | cons a r ih =>
    intro xs h hg
    simp only [List.mapM_cons] at h ⊢
    cases ha : g a with
    | none => simp [ha] at h
    | some x =>
      cases hr : r.mapM g with
      | none => simp [ha, hr] at h
      | some ys =>
        simp [ha, hr] at h
        rw [hg a (by simp) x ha, ih ys hr (fun i hi => hg i (by simp [hi]))]
        simp [h]
theorem add_block' (a : Addr) (i : Nat) : (a.add i).block = a.block := by
  unfold Addr.add; split <;> simp_all
theorem cell_block {a : Addr} {v : Value} (h : w.cell? a = some v) : a.block < w.heap.size := by
  unfold World.cell? at h
  cases hb : w.heap[a.block]? with
  | none => simp [hb] at h
  | some o => exact (Array.getElem?_eq_some_iff.1 hb).1
theorem cell_same {a : Addr} (hb : w'.heap[a.block]? = w.heap[a.block]?) : w'.cell? a = w.cell? a := by
  unfold World.cell?; rw [hb]
theorem cells_ext (hw : ∀ i, i < w.heap.size → w'.heap[i]? = w.heap[i]?) {a : Addr} {n : Nat} {l : List Value} (hn : 0 < n) (h : w.cells? b0 a n = some l) : a.block < w.heap.size ∧ w'.cells? b0 a n = some l := by
  unfold World.cells? at h ⊢
  split at h <;> try (cases h; done)
  rename_i hb
  rw [if_pos hb]
  have hblk : a.block < w.heap.size := by
    obtain ⟨m, rfl⟩ : ∃ m, n = m + 1 := ⟨n - 1, by omega⟩
    rw [List.range_succ_eq_map, List.mapM_cons] at h
    cases h0 : w.cell? (a.add 0) with
    | none => simp [h0] at h
    | some v => have := cell_block h0; rwa [add_block'] at this
  refine ⟨hblk, mapM_imp _ _ h (fun i _ x hx => ?_)⟩
  have e := cell_same (w := w) (w' := w') (a := a.add i) (by rw [add_block']; exact hw _ hblk)
  rw [e]; exact hx
/-- Types whose slices' elements and pointers' goals take cells, and what they are made of. -/
def closedB (P : Program) (R : List TypeId) : Bool := R.all fun t => match P.underlying t with
  | some (.slice e) => decide (0 < P.cellsOf e) && R.contains e
  | some (.pointer e) => decide (0 < P.cellsOf e) && R.contains e
  | some (.struct fs) => fs.toList.all fun f => R.contains f.type
  | some (.array _ e) => R.contains e
  | some (.map _ e) => R.contains e
  | _ => true
theorem trod_ext {R : List TypeId} (hR : closedB P R = true) (hw : ∀ i, i < w.heap.size → w'.heap[i]? = w.heap[i]?) :
    ∀ (fuel : Nat) (t : TypeId) (cs : List Value) (x : DataW H × List MemPlace), t ∈ R → DataW.trod enc P w b0 (fun _ => true) true fuel t cs = some x → DataW.trod enc P w' b0 (fun b => decide (b < w.heap.size)) true fuel t cs = some x := by
  intro fuel
  induction fuel with
  | zero => intro t cs x _ h; simp [DataW.trod] at h
  | succ fuel ih =>
    intro t cs x ht h
    have hRt := (List.all_eq_true.1 hR) t ht
    have bindcells : ∀ (a : Addr) (n : Nat) (e : TypeId) (y : DataW H × List MemPlace), e ∈ R → 0 < n → (w.cells? b0 a n).bind (DataW.trod enc P w b0 (fun _ => true) true fuel e) = some y →
        a.block < w.heap.size ∧ (w'.cells? b0 a n).bind (DataW.trod enc P w' b0 (fun b => decide (b < w.heap.size)) true fuel e) = some y := fun a n e y he hn h => by
      cases hc : w.cells? b0 a n with
      | none => simp [hc] at h
      | some l =>
        rw [hc] at h
        obtain ⟨h1, h2⟩ := cells_ext hw hn hc
        exact ⟨h1, by rw [h2]; exact ih _ _ _ he h⟩
    simp only [DataW.trod] at h ⊢
    split at h
    case h_6 a e hu =>
      rw [hu] at hRt
      simp only [Bool.and_eq_true, decide_eq_true_eq, List.contains_iff_mem] at hRt
      obtain ⟨y, hy, rfl⟩ := Option.map_eq_some_iff.1 h
      rw [(bindcells _ _ _ _ hRt.2 hRt.1 hy).2]; rfl
    case h_8 e a len cap hu =>
      rw [hu] at hRt
      simp only [Bool.and_eq_true, decide_eq_true_eq, List.contains_iff_mem] at hRt
      split at h <;> try (cases h; done)
      rename_i hc
      rw [if_pos hc]
      cases h1 : (List.range len).mapM (fun i => (w.cells? b0 (a.add (i * P.cellsOf e)) (P.cellsOf e)).bind (DataW.trod enc P w b0 (fun _ => true) true fuel e)) with
      | none => rw [h1] at h; cases h
      | some elems =>
        rw [h1] at h
        have g1 := mapM_imp _ _ h1 (fun i _ y hy => (bindcells _ _ _ _ hRt.2 hRt.1 hy).2)
        rw [g1]
        simp only [Option.bind_some, if_true] at h ⊢
        obtain ⟨rest, hr, rfl⟩ := Option.map_eq_some_iff.1 h
        by_cases hb : a.block < w.heap.size
        · have g2 := mapM_imp _ _ hr (fun i _ y hy => (bindcells _ _ _ _ hRt.2 hRt.1 hy).2)
          rw [if_pos (by simpa using hb), g2]; rfl
        · have hz : cap - len = 0 := by
            rcases Nat.eq_zero_or_pos (cap - len) with h0 | h0
            · exact h0
            · exfalso
              obtain ⟨m, hm⟩ : ∃ m, cap - len = m + 1 := ⟨cap - len - 1, by omega⟩
              rw [hm, List.range_succ_eq_map, List.mapM_cons] at hr
              cases h0 : (w.cells? b0 (a.add ((len + 0) * P.cellsOf e)) (P.cellsOf e)).bind (DataW.trod enc P w b0 (fun _ => true) true fuel e) with
              | none => rw [h0] at hr; simp at hr
              | some y =>
                have := (bindcells _ _ _ _ hRt.2 hRt.1 h0).1
                rw [add_block'] at this
                exact hb this
          rw [hz] at hr
          simp at hr; subst hr
          rw [if_neg (by simpa using hb)]; rfl
    case h_9 fs cs' hu =>
      rw [hu] at hRt
      simp only [List.all_eq_true, List.contains_iff_mem] at hRt
      split at h <;> try (cases h; done)
      rename_i hc
      rw [if_pos hc]
      obtain ⟨y, hy, rfl⟩ := Option.map_eq_some_iff.1 h
      rw [mapM_imp _ _ hy (fun f hf z hz => ih _ _ _ (hRt f hf) hz)]; rfl
    case h_10 n e cs' hu =>
      rw [hu] at hRt
      simp only [List.contains_iff_mem] at hRt
      split at h <;> try (cases h; done)
      rename_i hc
      rw [if_pos hc]
      obtain ⟨y, hy, rfl⟩ := Option.map_eq_some_iff.1 h
      rw [mapM_imp _ _ hy (fun i _ z hz => ih _ _ _ hRt hz)]; rfl
    case h_14 k e b hu =>
      rw [hu] at hRt
      simp only [List.contains_iff_mem] at hRt
      cases ho : w.heap[b]? with
      | none => rw [ho] at h; cases h
      | some o =>
        have hb : b < w.heap.size := (Array.getElem?_eq_some_iff.1 ho).1
        rw [ho] at h
        rw [hw b hb, ho]
        cases o with
        | map es clock =>
          simp only at h ⊢
          split at h <;> try (cases h; done)
          rename_i hc
          rw [if_pos hc]
          obtain ⟨xs, h1, h2⟩ := Option.bind_eq_some_iff.1 h
          rw [mapM_imp _ _ h1 (fun a _ y hy => by
            obtain ⟨key, k1, k2⟩ := Option.bind_eq_some_iff.1 hy
            rw [k1]
            simp only [Option.bind_some]
            split at k2 <;> try (cases k2; done)
            rename_i hf
            rw [if_pos hf]
            obtain ⟨z, hz, rfl⟩ := Option.map_eq_some_iff.1 k2
            rw [ih _ _ _ hRt hz]; rfl)]
          exact h2
        | _ => cases h
    all_goals exact h
theorem trodAll_ext {R : List TypeId} (hR : closedB P R = true) (hw : ∀ i, i < w.heap.size → w'.heap[i]? = w.heap[i]?) :
    ∀ (ts : List TypeId) (vs : List Value) (ds : List (DataW H)) (ps : List MemPlace), (∀ t ∈ ts, t ∈ R) → DataW.TrodAll enc P w b0 (fun _ => true) true ts vs ds ps → DataW.TrodAll enc P w' b0 (fun b => decide (b < w.heap.size)) true ts vs ds ps := by
  intro ts
  induction ts with
  | nil =>
    intro vs ds ps _ h
    cases vs <;> cases ds <;> first | exact h | (exact False.elim h)
  | cons t r ih =>
    intro vs ds ps hts h
    cases vs with
    | nil => exact False.elim h
    | cons v vs =>
      cases ds with
      | nil => exact False.elim h
      | cons d ds =>
        obtain ⟨p, q, ⟨fuel, h1⟩, h2, h3⟩ := h
        exact ⟨p, q, ⟨fuel, trod_ext hR hw _ _ _ _ (hts _ (by simp)) h1⟩, ih _ _ _ (fun t ht => hts t (by simp [ht])) h2, h3⟩
/-- The law answers true, and nothing has turned: what the row asks. -/
theorem post_true {f : Func} {s : ChangeSpec} {args : Array Value} {ds gs : List (DataW H)} {before : List MemPlace} {fresh : Bool} {R : List TypeId} (hR : closedB P R = true) (hpR : f.params.toList.all (fun t => R.contains t) = true)
    (hW : DataW.Whole enc P f.params.toList s.vars false w args.toList ds gs before) (hs : Still w w') (hv : s.vars = []) {t : TypeId} (hr : f.resultTypes = #[t]) (ht : P.underlying t = some .bool)
    (hfn : s.fn H (ds ++ gs) = { results := [.lit (.bool true)], args := ds }) : s.post enc P f false fresh false false w args (.bool true) w' := by
  have hW' := hW
  obtain ⟨p, q, hA, hV, hb, hz, hn⟩ := hW
  rw [hv] at hV
  have hgq : gs = [] ∧ q = [] := by cases gs <;> first | exact ⟨rfl, hV⟩ | exact False.elim hV
  obtain ⟨rfl, rfl⟩ := hgq
  refine ⟨ds, [], before, [], p, [], hW', ?_, ?_, ?_, hs.kept _, fun h => by cases h⟩
  · rw [hfn, hr]
    exact ⟨[], [], ⟨1, by simp [DataW.trod, ht, Value.cells]⟩, rfl, rfl⟩
  · rw [hfn]; exact trodAll_ext hR hs.2.2.2 _ _ _ _ (fun t ht => by have := (List.all_eq_true.1 hpR) t ht; simpa [List.contains_iff_mem] using this) hA
  · rw [hfn, hv]; rfl
end
end Go.Vm

namespace Go.Vm
open Go.RowKit
variable {T : TT} {P : Program}
set_option linter.unusedVariables false
/-! ### A closed law: run, with what is said of some functions -/
def lookS : List (Nat × Sym) → Nat → Option Sym
  | [], _ => none
  | (k, s) :: r, f => bif Nat.beq k f then some s else lookS r f
def AllS (P : Program) (T : TT) : List (Nat × Sym) → Prop
  | [] => True
  | (k, s) :: r => SymOK P T k s ∧ AllS P T r
theorem lookS_ok : ∀ {l : List (Nat × Sym)}, AllS P T l → ∀ f s, lookS l f = some s → SymOK P T f s := by
  intro l
  induction l with
  | nil => intro _ f s h; cases h
  | cons p r ih =>
    obtain ⟨k, s0⟩ := p
    intro h f s hs
    simp only [lookS] at hs
    cases hk : Nat.beq k f with
    | true =>
      rw [hk] at hs; simp only [cond_true, Option.some.injEq] at hs
      have := Nat.eq_of_beq_eq_true hk; subst this; subst hs
      exact h.1
    | false => rw [hk] at hs; exact ih h.2 f s hs
def runZ (P : Program) (T : TT) (l : List (Nat × Sym)) (fu d f : Nat) : Sym := runAll P T (lookS l) (fun _ _ _ => none) fu d f
theorem runZ_ok (hm : P.follows .mixedOrders = true) (hT : TOK T P) {l : List (Nat × Sym)} (h : AllS P T l) {fu d f : Nat} : SymOK P T f (runZ P T l fu d f) :=
  runAll_ok hm hT (lookS_ok h) (fun f n0 fn code _ _ => loopsOK_none code) d f
end Go.Vm

namespace Go.Vm
open Go.RowKit
variable {T : TT} {P : Program} {c : Ctx} {e eb : Env} {of of' : Nat → Option Ob}
set_option linter.unusedVariables false
set_option linter.constructorNameAsVariable false

/-! ### A new slice that someone else has made -/
def Env.got (e : Env) (w' : World) (id g ty ln : Nat) : Env := { w := w', ι := upd e.ι id (some (g, 0)), S := e.S, bn := upd e.bn id 1, U := fun j => j = id ∨ e.U j, ty := upd e.ty id ty, ln := upd e.ln id ln }
theorem OSim.le_got (h : OSim T c e of) {w' : World} (hb : Below e.w.heap.size e.w w') {id : Nat} (hu : ¬ e.U id) (g ty ln : Nat) : e.le (e.got w' id g ty ln) := by
  have hne : ∀ j, e.U j → j ≠ id := fun j hj he => hu (he ▸ hj)
  refine ⟨fun b i hs => ⟨hs, fun x hx => ?_⟩, fun _ hj => .inr hj, fun j hj _ => ⟨upd_ne _ _ (hne j hj), upd_ne _ _ (hne j hj), fun b o hb' => len_of_heap (hb.block _ (h.lt _ _ _ hj hb'))⟩, fun j hj h0 => ?_, fun j hj => ?_, fun j hj => upd_ne _ _ (hne j hj), hb.size, fun b hlt => len_of_heap (hb.block _ hlt)⟩
  · rw [← hx]; exact cell_of_heap (hb.block _ (h.slt _ _ hs))
  · show upd e.bn id 1 j = 0
    rw [upd_ne _ _ (hne j hj)]; exact h0
  · show _ ≤ upd e.bn id 1 j
    rw [upd_ne _ _ (hne j hj)]; exact Nat.le_refl _
theorem OSim.got (h : OSim T c e of) {w' : World} (hb : Below e.w.heap.size e.w w') {id : Nat} (hu : ¬ e.U id) {g ty ln : Nat} (hg : e.w.heap.size ≤ g) (hg2 : g < w'.heap.size) {o : Ob} (ho : OK T (e.got w' id g ty ln) id o) :
    OSim T c (e.got w' id g ty ln) (upd of id (some o)) := by
  have hle := h.le_got hb hu g ty ln
  have ιne : ∀ j, j ≠ id → (e.got w' id g ty ln).ι j = e.ι j := fun j hj => upd_ne _ _ hj
  have ιid : (e.got w' id g ty ln).ι id = some (g, 0) := upd_same _ _ _
  have obne : ∀ j, j ≠ id → upd of id (some o) j = of j := fun j hj => upd_ne _ _ hj
  have old : ∀ j b q, (of j).isSome → e.ι j = some (b, q) → b < e.w.heap.size := fun j b q hj hb => by
    obtain ⟨x, hx⟩ := Option.isSome_iff_exists.1 hj
    exact h.lt _ _ _ (h.ok _ _ hx).use hb
  refine ⟨fun j x hj => ?_, fun j k b q b' q' hj hk hb1 hb' hne => ?_, fun j b q hj hb1 => ?_, fun j b q hj hb1 => ?_, fun b i hs => ?_, h.s0, h.snew, hb.os.trans h.os, hb.tape.trans h.tape, hb.output.trans h.output, Nat.le_trans h.size hb.size, fun k hk hm => ?_⟩
  · by_cases he : j = id
    · subst he; rw [upd_same] at hj; cases hj; exact ho
    · rw [obne _ he] at hj
      exact (h.ok _ _ hj).keep hle (upd_ne _ _ he) (fun b q hb1 => hb.block _ (old _ _ _ (by rw [hj]; rfl) hb1)) (fun _ _ _ _ hs => hs)
  · by_cases h1 : j = id
    · subst h1
      have hk' : k ≠ j := Ne.symm hne
      rw [obne _ hk'] at hk; rw [ιne _ hk'] at hb'
      have := old _ _ _ hk hb'
      rw [ιid] at hb1; cases hb1; omega
    · by_cases h2 : k = id
      · subst h2
        rw [obne _ h1] at hj; rw [ιne _ h1] at hb1
        have := old _ _ _ hj hb1
        rw [ιid] at hb'; cases hb'; omega
      · rw [obne _ h1] at hj; rw [obne _ h2] at hk; rw [ιne _ h1] at hb1; rw [ιne _ h2] at hb'
        exact h.sep _ _ _ _ _ _ hj hk hb1 hb' hne
  · by_cases h1 : j = id
    · subst h1
      rw [ιid] at hb1; cases hb1; exact .inl (Nat.le_trans h.size hg)
    · rw [obne _ h1] at hj; rw [ιne _ h1] at hb1
      exact h.own _ _ _ hj hb1
  · show b < w'.heap.size
    by_cases h1 : j = id
    · subst h1
      rw [ιid] at hb1; cases hb1; exact hg2
    · rw [ιne _ h1] at hb1
      rcases hj with hj | hj
      · exact absurd hj h1
      · exact Nat.lt_of_lt_of_le (h.lt _ _ _ hj hb1) hb.size
  · exact Nat.lt_of_lt_of_le (h.slt _ _ hs) hb.size
  · exact (hb.block _ (Nat.lt_of_lt_of_le hk h.size)).trans (h.block k hk hm)
/-- The world has grown. -/
theorem OSim.below (h : OSim T c e of) {w' : World} (hb : Below e.w.heap.size e.w w') : OSim T c { e with w := w' } of ∧ e.le { e with w := w' } := by
  have hle : e.le { e with w := w' } := ⟨fun b i hs => ⟨hs, fun x hx => by rw [← hx]; exact cell_of_heap (hb.block _ (h.slt _ _ hs))⟩, fun _ hj => hj, fun j hj _ => ⟨rfl, rfl, fun b o hb' => len_of_heap (hb.block _ (h.lt _ _ _ hj hb'))⟩, fun _ _ h0 => h0, fun _ _ => Nat.le_refl _, fun _ _ => rfl, hb.size, fun b hlt => len_of_heap (hb.block _ hlt)⟩
  refine ⟨⟨fun j x hj => (h.ok _ _ hj).keep hle rfl (fun b q hb1 => hb.block _ (h.lt _ _ _ (h.ok _ _ hj).use hb1)) (fun _ _ _ _ hs => hs), h.sep, h.own, fun j b q hj hb1 => Nat.lt_of_lt_of_le (h.lt _ _ _ hj hb1) hb.size, fun b i hs => Nat.lt_of_lt_of_le (h.slt _ _ hs) hb.size, h.s0, h.snew, hb.os.trans h.os, hb.tape.trans h.tape, hb.output.trans h.output, Nat.le_trans h.size hb.size, fun k hk hm => (hb.block _ (Nat.lt_of_lt_of_le hk h.size)).trans (h.block k hk hm)⟩, hle⟩
/-- A slice handed back: nil, or new. -/
theorem left_row (h : OSim T c e of) {el : Nat} {w' : World} {v : Value} {xs : List V} {ys : List Value} {nx : Nat} (hb : Below e.w.heap.size e.w w') (hu : ¬ e.U nx) (hsz : szT T el = 1) (hrow : w'.ownsRow e.w.heap.size el 1 v xs.length ys) (hv : ∀ e', RV T e' (List.replicate xs.length el) xs ys) (hnl : v = .slice none 0 0 ↔ xs = []) {ro : List Nat} :
    LeftN T c e of nx ⟨.o nx 1, [(nx, .row el 1 xs xs.isEmpty false)], ro, nx + 1⟩ v w' := by
  obtain ⟨hl, hc⟩ := hrow
  rcases hc with ⟨rfl, hn⟩ | ⟨g, cap, cur, rfl, hg, hgb, h1, h2, h3, h4⟩
  · have hx := hnl.1 rfl
    subst hx
    obtain ⟨q1, q2⟩ := h.below hb
    have hu' : ¬ ({ e with w := w' } : Env).U nx := hu
    have q3 := q1.nil (el := el) hu' (nl := true) rfl (by omega)
    refine ⟨Env.nil { e with w := w' } nx el, rfl, q3, q2.trans (q1.le_nil hu'), fun j hj => hj.elim (fun q => .inr (by subst q; exact ⟨Nat.le_refl _, Nat.lt_succ_self _⟩)) .inl, ?_⟩
    exact rep_o_nil (.inl rfl) (upd_same _ _ _) (by decide) (upd_same _ _ _) (upd_same _ _ _)
  · have hne : xs ≠ [] := fun q => by have := hnl.2 q; cases this
    have he : xs.isEmpty = false := by cases xs with | nil => exact absurd rfl hne | cons a r => rfl
    rw [he]
    have hglt : g < w'.heap.size := (Array.getElem?_eq_some_iff.1 hgb).1
    have hspl : cur.toList = [] ++ ys ++ cur.toList.drop (xs.length * 1) := by rw [List.nil_append, ← h4, List.take_append_drop]
    have hok : OK T (e.got w' nx g el xs.length) nx (.row el 1 xs false false) :=
      ⟨.inl rfl, by decide, upd_same _ _ _, upd_same _ _ _, upd_same _ _ _, by omega, .inr ⟨rfl, g, 0, cur, el, (0, 0), [], ys, _, upd_same _ _ _, hgb, free_zero hgb, hspl, rfl, hv _, fun i _ hs => by have := h.slt _ _ hs; omega, fun _ i _ hs => by have := h.slt _ _ hs; omega⟩⟩
    refine ⟨e.got w' nx g el xs.length, rfl, h.got hb hu hg hglt hok, h.le_got hb hu _ _ _, fun j hj => hj.elim (fun q => .inr (by subst q; exact ⟨Nat.le_refl _, Nat.lt_succ_self _⟩)) .inl, ?_⟩
    have := rep_o_mk (T := T) (e := e.got w' nx g el xs.length) (id := nx) (ver := 1) (b := g) (o := 0) (cap := cap) (k := 0) (.inl rfl) (upd_same _ _ _) (by decide) (upd_same _ _ _) (by show upd e.ln nx xs.length nx ≤ cap; rw [upd_same]; exact h1)
      (by show 0 + cap * szT T (upd e.ty nx el nx) = blen w' g; rw [upd_same, hsz]; simp [blen, hgb, h3]) (fun _ => rfl)
    have hln : (e.got w' nx g el xs.length).ln nx = xs.length := upd_same _ _ _
    rw [hln] at this
    exact this

/-! ### Strings, sorted -/
def tx (l : List UInt8) : List V := l.map fun b => V.i (b.toNat : Int)
def leVs : List V → List V → Bool
  | [], _ => true
  | _ :: _, [] => false
  | a :: x, b :: y => bif ilt a.int b.int then true else bif ilt b.int a.int then false else leVs x y
theorem leVs_eq : ∀ (a b : List UInt8), leVs (tx a) (tx b) = leB a b := by
  intro a
  induction a with
  | nil => intro b; cases b <;> simp [tx, leVs, leB]
  | cons x a ih =>
    intro b
    cases b with
    | nil => simp [tx, leVs, leB]
    | cons y b =>
      have e1 : ilt (V.i (x.toNat : Int)).int (V.i (y.toNat : Int)).int = decide (x < y) := by rw [Bool.eq_iff_iff, ilt_iff]; simp [V.int, UInt8.lt_iff_toNat_lt]
      have e2 : ilt (V.i (y.toNat : Int)).int (V.i (x.toNat : Int)).int = decide (y < x) := by rw [Bool.eq_iff_iff, ilt_iff]; simp [V.int, UInt8.lt_iff_toNat_lt]
      have e3 : leVs (tx (x :: a)) (tx (y :: b)) = bif ilt (V.i (x.toNat : Int)).int (V.i (y.toNat : Int)).int then true else bif ilt (V.i (y.toNat : Int)).int (V.i (x.toNat : Int)).int then false else leVs (tx a) (tx b) := rfl
      rw [e3, e1, e2, ih b]
      simp only [leB, List.cons_le_cons_iff]
      by_cases h1 : x < y
      · simp [h1]
      · by_cases h2 : y < x
        · have hne : x ≠ y := fun q => h1 (by rw [q] at h2; exact absurd h2 (UInt8.lt_irrefl y))
          simp [h1, h2, hne]
        · have : x = y := UInt8.le_antisymm (UInt8.not_lt.1 h2) (UInt8.not_lt.1 h1)
          subst this
          simp [h1]
def insV (a : V) : List V → List V
  | [] => [a]
  | b :: r => bif leVs a.els b.els then a :: b :: r else b :: insV a r
def sortV : List V → List V
  | [] => []
  | a :: r => insV a (sortV r)
def insB (a : List UInt8) : List (List UInt8) → List (List UInt8)
  | [] => [a]
  | b :: r => bif leB a b then a :: b :: r else b :: insB a r
def sortB : List (List UInt8) → List (List UInt8)
  | [] => []
  | a :: r => insB a (sortB r)
def sV (l : List UInt8) : V := .s (tx l)
theorem insV_eq (a : List UInt8) : ∀ l : List (List UInt8), insV (sV a) (l.map sV) = (insB a l).map sV := by
  intro l
  induction l with
  | nil => rfl
  | cons b r ih =>
    have : leVs (sV a).els (sV b).els = leB a b := leVs_eq a b
    simp only [List.map_cons, insV, insB, this, ih]
    cases leB a b <;> rfl
theorem sortV_eq : ∀ l : List (List UInt8), sortV (l.map sV) = (sortB l).map sV := by
  intro l
  induction l with
  | nil => rfl
  | cons a r ih => simp only [List.map_cons, sortV, sortB, ih, insV_eq]
theorem insB_perm (a : List UInt8) : ∀ l, (insB a l).Perm (a :: l) := by
  intro l
  induction l with
  | nil => exact .refl _
  | cons b r ih =>
    simp only [insB]
    cases leB a b
    · exact (ih.cons b).trans (List.Perm.swap a b r)
    · exact .refl _
theorem sortB_perm : ∀ l, (sortB l).Perm l := by
  intro l
  induction l with
  | nil => exact .refl _
  | cons a r ih => exact (insB_perm a _).trans (ih.cons a)
theorem leB_tr {a b c : List UInt8} (h1 : leB a b = true) (h2 : leB b c = true) : leB a c = true := by simp only [leB, decide_eq_true_eq] at *; exact List.le_trans h1 h2
theorem leB_tot {a b : List UInt8} (h : leB a b = false) : leB b a = true := by
  simp only [leB, decide_eq_true_eq, decide_eq_false_iff_not] at *
  exact (List.le_total a b).resolve_left h
theorem insB_sorted (a : List UInt8) : ∀ l, l.Pairwise (fun x y => leB x y = true) → (insB a l).Pairwise (fun x y => leB x y = true) := by
  intro l
  induction l with
  | nil => intro _; simp [insB]
  | cons b r ih =>
    intro h
    obtain ⟨h1, h2⟩ := List.pairwise_cons.1 h
    simp only [insB]
    cases hab : leB a b with
    | true =>
      refine List.pairwise_cons.2 ⟨fun x hx => ?_, h⟩
      rcases List.mem_cons.1 hx with rfl | hx
      · exact hab
      · exact leB_tr hab (h1 x hx)
    | false =>
      refine List.pairwise_cons.2 ⟨fun x hx => ?_, ih h2⟩
      rcases List.mem_cons.1 ((insB_perm a r).mem_iff.1 hx) with rfl | hx
      · exact leB_tot hab
      · exact h1 x hx
theorem sortB_sorted : ∀ l, (sortB l).Pairwise (fun x y => leB x y = true) := by
  intro l
  induction l with
  | nil => exact .nil
  | cons a r ih => exact insB_sorted a _ ih
theorem sortB_eq {l ss : List (List UInt8)} (h : ss.Perm l) : ss.mergeSort leB = sortB l := by
  have tr : ∀ a b c : List UInt8, leB a b = true → leB b c = true → leB a c = true := fun a b c => leB_tr
  have to : ∀ a b : List UInt8, (leB a b || leB b a) = true := fun a b => by simp only [leB, Bool.or_eq_true, decide_eq_true_eq]; exact List.le_total a b
  refine List.Perm.eq_of_pairwise (le := fun a b => leB a b = true) (fun a b _ _ h1 h2 => ?_) (List.pairwise_mergeSort tr to ss) (sortB_sorted l) (((List.mergeSort_perm ss leB).trans h).trans (sortB_perm l).symm)
  simp only [leB, decide_eq_true_eq] at h1 h2
  exact List.le_antisymm h1 h2
theorem rv_strs {st : Nat} (hk : kOf T st = some .str) (hz : szT T st = 1) (e : Env) : ∀ l : List (List UInt8), RV T e (List.replicate l.length st) (l.map sV) (l.map Proofs.encStr) := by
  intro l
  induction l with
  | nil => exact .nil
  | cons a r ih =>
    have := RV.str (T := T) (e := e) (s := ⟨a.toArray⟩) hk hz ih
    simpa [List.replicate_succ, sV, tx, txt, Proofs.encStr] using this
end Go.Vm

namespace Go.Vm
open Go.RowKit Go.Maps
variable {T : TT} {P : Program} {c : Ctx} {e eb : Env} {of of' : Nat → Option Ob}
set_option linter.unusedVariables false
set_option linter.constructorNameAsVariable false

/-! ### A map's keys, sorted -/
/-- What the library's functions do, at the program's types. -/
def SortedKeys (P : Program) (f g st : Nat) : Prop := ∀ (Bm b nn : Nat) (D0 : DataW Unit) (R : Value → Option (DataW Unit × List MemPlace)) (w : World), Bm < w.heap.size → w.cell? ⟨Bm, 0, none⟩ = some (.map (some b)) → w.ownsMap P st R b nn D0 → Maps.size D0 ≤ 1000000 →
  Calls P f #[.func (.func g) #[] #[.pointer (some ⟨Bm, 0, none⟩)]] w fun e w' => ∃ (v : Value) (ss : List (List UInt8)), e = .returned v ∧ ss.Perm (strKeys D0) ∧ w'.ownsRow w.heap.size st 1 v ss.length ((ss.mergeSort leB).map Proofs.encStr) ∧ (v = .slice none 0 0 ↔ ss = []) ∧ Below w.heap.size w w'
def okK : List (V × A) → Bool
  | [] => true
  | p :: r => (match p.1 with
    | .s l => Nat.ble l.length 1000000
    | _ => false) && okK r
def sortK (g st : Nat) : Sym := fun args of nx =>
  match args with
  | [.f g' [.p ib tb []]] => bif Nat.beq g g' then (match of ib with
    | some (.box tb' (.m mid) _) => match of mid with
      | some (.map kt et es) => bif Nat.beq kt st && (okK es && Nat.ble es.length 1000000) then (seeL (sortV (es.map (·.1))) fun ks => some ⟨.o nx 1, [(nx, .row st 1 ks ks.isEmpty false)], [ib, mid], nx + 1⟩) else none
      | _ => none
    | _ => none) else none
  | _ => none
def keyB (m : MapEntry) : List UInt8 :=
  match m.key with
  | .string s => s.data.toList
  | _ => []
theorem keys_of {kt et : Nat} (hk : kOf T kt = some .str) : ∀ {es : List (V × A)} {ms : List MapEntry}, MR T e kt et es ms → es.map (·.1) = (ms.map keyB).map sV ∧ ms.map (·.key) = (ms.map keyB).map Proofs.encStr := by
  intro es ms h
  induction h with
  | nil => exact ⟨rfl, rfl⟩
  | @cons k a r m ms h1 h2 h3 h4 ih =>
    obtain ⟨i1, i2⟩ := ih
    obtain ⟨h1, hag⟩ := h1
    obtain ⟨key, val, born⟩ := m
    simp only at h1 hag
    have hn : ¬ ∃ cs, key = .agg cs := fun q => by
      obtain ⟨k', g1, g2⟩ := hag.2 q
      rw [hk] at g1; cases g1; cases g2
    have hcs : key.cells = #[key] := by
      cases key with
      | agg cs => exact absurd ⟨cs, rfl⟩ hn
      | _ => rfl
    rw [hcs] at h1
    obtain ⟨s, rfl, rfl⟩ : ∃ s, k = .s (txt s) ∧ key = .string s := by
      generalize hcs : (#[key] : Array Value).toList = cs at h1
      cases h1 with
      | @str _ s _ _ cs g1 g2 g3 => cases g3; simp at hcs; exact ⟨s, rfl, hcs⟩
      | int g1 => rw [hk] at g1; cases g1
      | bool g1 => rw [hk] at g1; cases g1
      | ptr g1 => rw [hk] at g1; cases g1
      | nils g1 => rw [hk] at g1; cases g1
      | map g1 => rw [hk] at g1; cases g1
      | func g1 => rw [hk] at g1; cases g1
      | fn g1 => rw [hk] at g1; cases g1
      | slice g1 => rw [hk] at g1; cases g1
      | arr g1 => rw [hk] at g1; cases g1
      | struct g1 => rw [hk] at g1; cases g1
    refine ⟨?_, ?_⟩
    · rw [List.map_cons, i1]; rfl
    · rw [List.map_cons, i2]; simp [keyB, Proofs.encStr]
theorem okK_len : ∀ {es : List (V × A)}, okK es = true → ∀ p ∈ es, ∀ l, p.1 = .s l → l.length ≤ 1000000 := by
  intro es
  induction es with
  | nil => intro _ p hp; cases hp
  | cons q r ih =>
    intro h p hp l hl
    simp only [okK, Bool.and_eq_true] at h
    rcases List.mem_cons.1 hp with rfl | hp
    · have h1 := h.1
      rw [hl] at h1
      exact Nat.le_of_ble_eq_true h1
    · exact ih h.2 p hp l hl
theorem un_tx : ∀ l : List UInt8, (tx l).map (fun v => v.int.toNat.toUInt8) = l := by
  intro l
  induction l with
  | nil => rfl
  | cons a r ih =>
    show ((a.toNat : Int).toNat.toUInt8) :: (tx r).map _ = _
    rw [ih]
    congr 1
    simp
def R0 : Value → Option (DataW Unit × List MemPlace) := fun _ => some (.nil, [])
theorem sortK_ok (hT : TOK T P) {f g st : Nat} (hS : SortedKeys P f g st) (hk : kOf T st = some .str) (hz : szT T st = 1) (hen : ∀ args w, (callFunc f args).run P w = .ok (.enter f args) w) : SymOK P T f (sortK g st) := by
  intro c e of of' as vals nx out hos hs hro hu hvals
  unfold sortK at hs
  split at hs <;> try (cases hs; done)
  rename_i g' ib tb
  cases hg : Nat.beq g g' with
  | false => rw [hg] at hs; cases hs
  | true =>
  rw [hg] at hs
  have := Nat.eq_of_beq_eq_true hg; subst this
  simp only [cond_true] at hs
  split at hs <;> try (cases hs; done)
  rename_i tb' mid sh hob
  split at hs <;> try (cases hs; done)
  rename_i kt et es hom
  cases hc : Nat.beq kt st && (okK es && Nat.ble es.length 1000000) with
  | false => rw [hc] at hs; cases hs
  | true =>
  rw [hc, cond_true, seeL_eq] at hs
  simp only [Bool.and_eq_true] at hc
  obtain ⟨c1, c2, c3⟩ := hc
  have := Nat.eq_of_beq_eq_true c1; subst this
  have c3 := Nat.le_of_ble_eq_true c3
  injection hs with hs; subst hs
  have hob' : of' ib = some (.box tb' (.m mid) sh) := (hro ib (by simp)).trans hob
  have hom' : of' mid = some (.map kt et es) := (hro mid (by simp)).trans hom
  obtain ⟨x1, x2, x3, x4, Bm, cs, ty, fz, x5, x6, x7, x8, x9, x10⟩ := hos.ok _ _ hob'
  obtain ⟨y1, y2, b, ms, clock, y3, y4, ⟨y5, y5'⟩, es', y6, y7⟩ := hos.ok _ _ hom'
  -- the argument
  obtain ⟨v, hvs⟩ : ∃ v, vals = #[v] := by
    obtain ⟨vals⟩ := vals
    cases hvals with | cons h1 h2 => cases h2; exact ⟨_, rfl⟩
  subst hvs
  have hv : Rep T e (.f g [.p ib tb []]) v := by cases hvals with | cons h1 _ => exact h1
  obtain ⟨vs, rfl, hcap⟩ := rep_f_inv hv
  obtain ⟨v2, rfl⟩ := hcap.single rfl
  obtain ⟨Bm', off, p1, p2, p3, p4, rfl⟩ := rep_p_inv (T := T) (e := e) (id := ib) (t := tb) (path := []) hcap
  rw [x5] at p3
  cases p3
  cases p4
  obtain ⟨v3, hcs⟩ := x9.single rfl
  have hm3 : ∃ b', e.U mid ∧ e.bn mid = 0 ∧ e.ι mid = some (b', 0) ∧ v3 = .map (some b') := rep_m_inv (by rw [hcs] at x9; exact x9)
  obtain ⟨b', _, _, z3, rfl⟩ := hm3
  rw [y3] at z3; cases z3
  have hcell : e.w.cell? ⟨Bm, 0, none⟩ = some (.map (some b)) := by
    have : cs[0]? = some (.map (some b)) := by rw [← Array.getElem?_toList, hcs]; rfl
    simp [World.cell?, x6, this]
  -- the keys
  obtain ⟨k1, k2⟩ := keys_of hk y7
  have hu' : P.underlying kt = some .string := by
    obtain ⟨te, h1, h2⟩ := kOf_some hk
    exact under_str (hT _ _ h1) h2
  have hlen : es.length = ms.size := by rw [← y6.length_eq, y7.length, Array.length_toList]
  have hrd : ∀ m ∈ ms.toList, WideElems.rd P kt R0 m = some (.string (keyB m), .nil) := by
    intro m hm
    have hmk : m.key = Proofs.encStr (keyB m) := by
      obtain ⟨i, hi, rfl⟩ := List.mem_iff_getElem.1 hm
      have := congrArg (fun l => l[i]?) k2
      simp only [List.getElem?_map, List.getElem?_eq_getElem hi, Option.map_some, Option.some.injEq] at this
      exact this
    have hl : (keyB m).length ≤ 1000000 := by
      have : sV (keyB m) ∈ (ms.toList.map keyB).map sV := List.mem_map_of_mem (List.mem_map_of_mem hm)
      rw [← k1] at this
      obtain ⟨p, hp, hpe⟩ := List.mem_map.1 this
      have := okK_len c2 p (y6.mem_iff.1 hp) _ hpe
      simpa [tx] using this
    have hkey : keyOf P kt m.key = some (.string (keyB m)) := by
      rw [hmk]
      simp [keyOf, hu', mapKey, Proofs.encStr]
      exact Nat.le_trans hl (by decide)
    simp [WideElems.rd, hkey, R0]
  have hndk : (ms.toList.map keyB).Nodup := by
    have h1 : (es'.map (·.1)).Nodup := (y6.map _).nodup_iff.2 y5
    rw [k1] at h1
    exact (List.pairwise_map.1 h1).imp (fun h q => h (by rw [q]))
  have hst : MapKept.Stamped ms clock := by
    refine ⟨y5'.1, y5'.2, ?_⟩
    rw [k2]
    exact List.Pairwise.map _ (fun a b hab q => hab (Go.encStr_inj q)) hndk
  have hfit : WideElems.Fit P kt R0 ms clock := ⟨Nat.le_trans (by omega) (show 1000000 ≤ maxLen by decide), hst, fun m hm => ⟨_, hrd m hm⟩⟩
  have hown : e.w.ownsMap P kt R0 b 1000000 (.map ((ms.toList.map (WideElems.rg P kt R0)).foldr DataW.insert [])) := ⟨ms, clock, y4, hfit, by omega, rfl⟩
  have hrgs : (ms.toList.map (WideElems.rg P kt R0)).map (fun p => strOf p.1) = ms.toList.map keyB := by
    rw [List.map_map]
    refine List.map_congr_left (fun m hm => ?_)
    simp only [Function.comp]
    rw [WideElems.rg_of (hrd m hm)]
    rfl
  have hperm : (strKeys (.map ((ms.toList.map (WideElems.rg P kt R0)).foldr DataW.insert []))).Perm (ms.toList.map keyB) := by
    rw [← hrgs]
    exact (WideShapes.sorted_perm _).map _
  have hsize : Maps.size (.map ((ms.toList.map (WideElems.rg P kt R0)).foldr DataW.insert []) : DataW Unit) ≤ 1000000 := by
    rw [Maps.size_eq, (WideShapes.sorted_perm _).length_eq]
    simp; omega
  have hcall := hS Bm b 1000000 _ R0 e.w (Array.getElem?_eq_some_iff.1 x6).1 hcell hown hsize
  -- what stands in the map's data
  have hks : sortV (es.map (·.1)) = (sortB (ms.toList.map keyB)).map sV := by
    have hp : (es.map (·.1)).Perm ((ms.toList.map keyB).map sV) := by rw [← k1]; exact (y6.map _).symm
    obtain ⟨l, hl⟩ : ∃ l : List (List UInt8), es.map (·.1) = l.map sV := by
      have : ∀ x ∈ es.map (·.1), ∃ a, x = sV a := fun x hx => by
        obtain ⟨a, _, ha⟩ := List.mem_map.1 (hp.mem_iff.1 hx)
        exact ⟨a, ha.symm⟩
      clear hp
      generalize es.map (·.1) = xs at this
      induction xs with
      | nil => exact ⟨[], rfl⟩
      | cons x r ih =>
        obtain ⟨l, rfl⟩ := ih (fun y hy => this y (by simp [hy]))
        obtain ⟨a, rfl⟩ := this x (by simp)
        exact ⟨a :: l, rfl⟩
    have hpl : l.Perm (ms.toList.map keyB) := by
      rw [hl] at hp
      have hun : ∀ l : List (List UInt8), (l.map sV).map (fun v => v.els.map fun v => v.int.toNat.toUInt8) = l := by
        intro l
        rw [List.map_map]
        conv => rhs; rw [← List.map_id l]
        refine List.map_congr_left (fun a _ => ?_)
        exact un_tx a
      have := hp.map (fun v => v.els.map fun v => v.int.toNat.toUInt8)
      rwa [hun, hun] at this
    rw [hl, sortV_eq]
    congr 1
    exact (sortB_eq (List.Perm.refl l)).symm.trans (sortB_eq hpl)
  refine .inr (.inr ⟨f, _, e.w, hen _ _, hcall.mono fun en w' ⟨v, ss, h1, h2, h3, h4, h5⟩ => ⟨v, h1, ?_⟩⟩)
  rw [hks]
  rw [sortB_eq (h2.trans hperm)] at h3
  have hlss : ((sortB (ms.toList.map keyB)).map sV).length = ss.length := by rw [List.length_map, (sortB_perm _).length_eq, (h2.trans hperm).length_eq]
  refine left_row (ys := (sortB (ms.toList.map keyB)).map Proofs.encStr) hos h5 (hu nx (Nat.le_refl _) (Nat.lt_succ_self _)) hz (by rw [hlss]; exact h3) (fun e' => by rw [List.length_map]; exact rv_strs hk hz e' _) ?_
  rw [h4]
  constructor
  · intro q; rw [q] at hlss; exact List.length_eq_zero_iff.1 hlss
  · intro q; rw [q] at hlss; exact List.length_eq_zero_iff.1 hlss.symm
end Go.Vm
end
