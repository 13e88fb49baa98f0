/- What the operations of a program do, shown once for all programs; and numbers. -/
import Derived.Test.YtadjkmffodhmbaaVm5
import Derived.LoopN
import Derived.OpenShut
import Derived.WalkKit
import Derived.ProofKit
import Derived.KernelRfl
import Derived.Laws.Externs
set_option linter.constructorNameAsVariable false
set_option linter.unusedVariables false
set_option linter.unusedSimpArgs false
noncomputable section
namespace Go.Vm
open Go.RowKit
variable {P : Program} {T : TT} {c : Ctx} {e eb : Env} {of of' : Nat → Option Ob}
set_option linter.unusedVariables false
set_option linter.constructorNameAsVariable false

/-! ### A region in any order -/
def mask (o : Oper) (acc : List Nat) : Nat := o.after.toList.foldl (fun s e => if Region.binds .any e then s ||| 2 ^ e.on ||| acc.getD e.on 0 else s) 0
def masks : List Oper → List Nat → List Nat
  | [], acc => acc
  | o :: r, acc => masks r (acc ++ [mask o acc])
def hitS (t : Option Nat) (l : List Nat) : Bool :=
  match t with
  | some d => mem d l
  | none => false
def hitO (l : List (Nat × Ob)) (E : Ent) : Bool := l.any fun p => mem p.1 E.ro || mem p.1 (E.wo.map (·.1))
def sameD (a b : Option Nat) : Bool :=
  match a, b with
  | some x, some y => Nat.beq x y
  | _, _ => false
/-- Two operations that must keep their order. -/
def conf (A B : Ent) : Bool := hitS A.dst B.rs || hitS B.dst A.rs || sameD A.dst B.dst || hitO A.wo B || hitO B.wo A
def chkOne (B : Ent) (m : Nat) : List Ent → Nat → Bool
  | [], _ => true
  | A :: r, j => (!(conf A B) || m.testBit j) && chkOne B m r (j + 1)
def chkAll (Es : List Ent) (ms : List Nat) : Nat → List Ent → Bool
  | _, [] => true
  | i, B :: r => chkOne B (ms.getD i 0) (Es.take i) 0 && chkAll Es ms (i + 1) r
def backward : Nat → List Oper → Bool
  | _, [] => true
  | i, o :: r => o.after.toList.all (fun e => !(Region.binds .any e) || Nat.blt e.on i) && backward (i + 1) r
/-- So many operations, and what must come before what. -/
def sound (ops : List Oper) (Es : List Ent) : Bool := backward 0 ops && chkAll Es (masks ops []) 0 Es

theorem chkOne_spec {B : Ent} {m : Nat} : ∀ (l : List Ent) (j : Nat), chkOne B m l j = true → ∀ q A, l[q]? = some A → conf A B = true → m.testBit (j + q) = true := by
  intro l
  induction l with
  | nil => intro j _ q A h; simp at h
  | cons A0 r ih =>
    intro j h q A hq hc
    simp only [chkOne, Bool.and_eq_true, Bool.or_eq_true, Bool.not_eq_true'] at h
    cases q with
    | zero =>
      simp only [List.getElem?_cons_zero, Option.some.injEq] at hq
      subst hq
      rcases h.1 with h1 | h1
      · rw [hc] at h1; cases h1
      · exact h1
    | succ q => rw [show j + (q + 1) = j + 1 + q by omega]; exact ih (j + 1) h.2 q A (by simpa using hq) hc
theorem chkAll_spec {Es : List Ent} {ms : List Nat} : ∀ (l : List Ent) (i : Nat), (∀ q, l[q]? = Es[i + q]?) → chkAll Es ms i l = true → ∀ p q A B, i ≤ p → q < p → Es[p]? = some B → Es[q]? = some A → conf A B = true → (ms.getD p 0).testBit q = true := by
  intro l
  induction l with
  | nil =>
    intro i hl _ p q A B hip hqp hB hA _
    have := hl (p - i)
    rw [show i + (p - i) = p by omega, hB] at this
    simp at this
  | cons B0 r ih =>
    intro i hl h p q A B hip hqp hB hA hc
    simp only [chkAll, Bool.and_eq_true] at h
    by_cases hpi : p = i
    · subst hpi
      have h0 := hl 0
      rw [Nat.add_zero, hB, List.getElem?_cons_zero, Option.some.injEq] at h0
      subst h0
      have := chkOne_spec (Es.take p) 0 h.1 q A (by rw [List.getElem?_take_of_lt hqp]; exact hA) hc
      rwa [Nat.zero_add] at this
    · exact ih (i + 1) (fun q => by have := hl (q + 1); simpa [Nat.add_assoc, Nat.add_comm 1 q] using this) h.2 p q A B (by omega) hqp hB hA hc
theorem backward_spec : ∀ (l : List Oper) (i : Nat), backward i l = true → ∀ q o, l[q]? = some o → ∀ e ∈ o.after, Region.binds .any e = true → e.on < i + q := by
  intro l
  induction l with
  | nil => intro i _ q o h; simp at h
  | cons o0 r ih =>
    intro i h q o hq e he hb
    simp only [backward, Bool.and_eq_true, List.all_eq_true, Bool.or_eq_true, Bool.not_eq_true'] at h
    cases q with
    | zero =>
      simp only [List.getElem?_cons_zero, Option.some.injEq] at hq
      subst hq
      rcases h.1 e (Array.mem_toList_iff.2 he) with h1 | h1
      · rw [hb] at h1; cases h1
      · simpa [Nat.blt_eq] using h1
    | succ q => rw [show i + (q + 1) = i + 1 + q by omega]; exact ih (i + 1) h.2 q o (by simpa using hq) e he hb
theorem mask_spec {D : Nat → Bool} {G : Nat → Prop} (hDG : ∀ j, D j = true → G j) {acc : List Nat} (hacc : ∀ j, G j → ∀ p, (acc.getD j 0).testBit p = true → D p = true) {o : Oper} (ho : ∀ e ∈ o.after, Region.binds .any e = true → D e.on = true) :
    ∀ p, (mask o acc).testBit p = true → D p = true := by
  unfold mask
  have key : ∀ (l : List Edge) (s : Nat), (∀ e ∈ l, Region.binds .any e = true → D e.on = true) → (∀ p, s.testBit p = true → D p = true) →
      ∀ p, (l.foldl (fun s e => if Region.binds .any e then s ||| 2 ^ e.on ||| acc.getD e.on 0 else s) s).testBit p = true → D p = true := by
    intro l
    induction l with
    | nil => intro s _ hs p h; exact hs p h
    | cons e r ih =>
      intro s hl hs p h
      simp only [List.foldl_cons] at h
      refine ih _ (fun e' he' => hl e' (by simp [he'])) ?_ p h
      intro p hp
      split at hp
      · rename_i hb
        have hD := hl e (by simp) hb
        rw [Nat.testBit_or, Nat.testBit_or, Bool.or_eq_true, Bool.or_eq_true, Nat.testBit_two_pow] at hp
        rcases hp with (hp | hp) | hp
        · exact hs p hp
        · have : e.on = p := by simpa using hp
          rw [← this]; exact hD
        · exact hacc _ (hDG _ hD) p hp
      · exact hs p hp
  exact key o.after.toList 0 (fun e he => ho e (Array.mem_toList_iff.1 he)) (fun p hp => by simp at hp)
theorem masks_spec {D : Nat → Bool} {G : Nat → Prop} (hDG : ∀ j, D j = true → G j) : ∀ (l : List Oper) (acc : List Nat), (∀ j, G j → ∀ p, (acc.getD j 0).testBit p = true → D p = true) →
    (∀ q o, l[q]? = some o → G (acc.length + q) → ∀ e ∈ o.after, Region.binds .any e = true → D e.on = true) →
    ∀ j, G j → ∀ p, ((masks l acc).getD j 0).testBit p = true → D p = true := by
  intro l
  induction l with
  | nil => intro acc hacc _; exact hacc
  | cons o r ih =>
    intro acc hacc h
    refine ih (acc ++ [mask o acc]) (fun j hj p hp => ?_) (fun q o' hq => by have := h (q + 1) o' (by simpa using hq); rwa [List.length_append, List.length_singleton, show acc.length + 1 + q = acc.length + (q + 1) by omega])
    rcases Nat.lt_trichotomy j acc.length with hlt | heq | hgt
    · exact hacc j hj p (by rw [List.getD_eq_getElem?_getD, List.getElem?_append_left hlt, ← List.getD_eq_getElem?_getD] at hp; exact hp)
    · subst heq
      rw [List.getD_eq_getElem?_getD, List.getElem?_append_right (Nat.le_refl _), Nat.sub_self] at hp
      exact mask_spec hDG hacc (h 0 o rfl (by simpa using hj)) p (by simpa using hp)
    · rw [List.getD_eq_getElem?_getD, List.getElem?_eq_none (by simp; omega)] at hp
      simp at hp


/-! What the text's own order computes -/
theorem runOps_spec {K : Nat → Sym} {ops : Array Oper} : ∀ (l : List Oper) (σ σ' : St) (Es : List Ent), runOps T K ops of l σ = some (Es, σ') →
    σ' = Es.foldl St.app σ ∧ Es.length = l.length ∧ ∀ (p : Nat) o, l[p]? = some o → ∃ E, Es[p]? = some E ∧ entOp T K ops (getS ((Es.take p).foldl St.app σ).sl) (over ((Es.take p).foldl St.app σ).ob of) ((Es.take p).foldl St.app σ).nx o = some E ∧ (((Es.take p).foldl St.app σ).app E).le σ' := by
  intro l
  induction l with
  | nil =>
    intro σ σ' Es h
    simp only [runOps, Option.some.injEq, Prod.mk.injEq] at h
    obtain ⟨rfl, rfl⟩ := h
    exact ⟨rfl, rfl, fun p o h => by simp at h⟩
  | cons o r ih =>
    intro σ σ' Es h
    rw [runOps_cons] at h
    split at h <;> try (cases h; done)
    rename_i E hE
    split at h <;> try (cases h; done)
    rename_i Es' σ2 hrec
    simp only [Option.some.injEq, Prod.mk.injEq] at h
    obtain ⟨rfl, rfl⟩ := h
    obtain ⟨h1, h2, h3⟩ := ih _ _ _ hrec
    refine ⟨h1, by simp [h2], fun p o' hp => ?_⟩
    cases p with
    | zero =>
      simp only [List.getElem?_cons_zero, Option.some.injEq] at hp
      subst hp
      exact ⟨E, rfl, hE, runOps_le _ _ _ _ hrec⟩
    | succ p => simpa using h3 p o' (by simpa using hp)
theorem getS_fold : ∀ (Es : List Ent) (σ : St), getS (Es.foldl St.app σ).sl = (Es.map wS).foldl wr (getS σ.sl) := by
  intro Es
  induction Es with
  | nil => intro σ; rfl
  | cons E r ih => intro σ; simp only [List.foldl_cons, List.map_cons]; rw [ih, getS_app]
theorem over_fold (of : Nat → Option Ob) : ∀ (Es : List Ent) (σ : St), over (Es.foldl St.app σ).ob of = (Es.map wO).foldl wr (over σ.ob of) := by
  intro Es
  induction Es with
  | nil => intro σ; rfl
  | cons E r ih => intro σ; simp only [List.foldl_cons, List.map_cons]; rw [ih, over_app]
/-- Numbers grow with the text. -/
theorem nx_chain {K : Nat → Sym} {ops : Array Oper} {l : List Oper} {σ σ' : St} {Es : List Ent} (h : runOps T K ops of l σ = some (Es, σ')) : ∀ (p : Nat), σ.nx ≤ ((Es.take p).foldl St.app σ).nx ∧ ∀ q E, Es[q]? = some E → ((Es.take q).foldl St.app σ).nx = E.lo ∧ E.lo ≤ E.hi ∧ (q < p → E.hi ≤ ((Es.take p).foldl St.app σ).nx) := by
  obtain ⟨h1, h2, h3⟩ := runOps_spec _ _ _ _ h
  have one : ∀ q E, Es[q]? = some E → ((Es.take q).foldl St.app σ).nx = E.lo ∧ E.lo ≤ E.hi ∧ ((Es.take (q + 1)).foldl St.app σ).nx = E.hi := by
    intro q E hE
    have hq : q < l.length := by rw [← h2]; exact (List.getElem?_eq_some_iff.1 hE).1
    obtain ⟨E', g1, g2, g3⟩ := h3 q l[q] (List.getElem?_eq_getElem hq)
    rw [hE] at g1; cases g1
    obtain ⟨k1, k2, _⟩ := entOp_lo g2
    refine ⟨k1.symm, by omega, ?_⟩
    obtain ⟨hlt, hEq⟩ := List.getElem?_eq_some_iff.1 hE
    rw [List.take_succ_eq_append_getElem hlt, List.foldl_append, hEq]
    rfl
  have mono : ∀ p, ((Es.take p).foldl St.app σ).nx ≤ ((Es.take (p + 1)).foldl St.app σ).nx := by
    intro p
    cases hp : Es[p]? with
    | none =>
      have := List.getElem?_eq_none_iff.1 hp
      rw [List.take_of_length_le this, List.take_of_length_le (by omega)]
      exact Nat.le_refl _
    | some E => obtain ⟨a, b, d⟩ := one p E hp; omega
  have monos : ∀ d p, ((Es.take p).foldl St.app σ).nx ≤ ((Es.take (p + d)).foldl St.app σ).nx := by
    intro d
    induction d with
    | zero => intro p; exact Nat.le_refl _
    | succ d ih => intro p; exact Nat.le_trans (ih p) (mono (p + d))
  intro p
  refine ⟨?_, fun q E hE => ?_⟩
  · have := monos p 0
    rw [Nat.zero_add] at this
    exact this
  · obtain ⟨a, b, d⟩ := one q E hE
    refine ⟨a, b, fun hqp => ?_⟩
    have := monos (p - (q + 1)) (q + 1)
    rw [show q + 1 + (p - (q + 1)) = p by omega] at this
    omega
end Go.Vm

namespace Go.Vm
open Go.RowKit
variable {P : Program} {T : TT} {c : Ctx} {e eb : Env} {of of' : Nat → Option Ob}
set_option linter.unusedVariables false
set_option linter.constructorNameAsVariable false

theorem conf_comm (A B : Ent) : conf A B = conf B A := by
  unfold conf
  have : sameD A.dst B.dst = sameD B.dst A.dst := by
    unfold sameD
    cases A.dst <;> cases B.dst <;> first | rfl | skip
    rename_i x y
    rw [Bool.eq_iff_iff]
    show (Nat.beq x y = true) ↔ (Nat.beq y x = true)
    rw [Nat.beq_eq, Nat.beq_eq]
    exact eq_comm
  rw [this, Bool.or_comm (hitS A.dst B.rs), Bool.or_right_comm (_ || _) (hitO A.wo B)]
theorem conf_rs {A B : Ent} (h : conf A B = false) : ∀ t ∈ B.rs, t ∉ keys (wS A) := by
  intro t ht hk
  simp only [conf, Bool.or_eq_false_iff] at h
  have h1 := h.1.1.1.1
  unfold wS at hk
  unfold hitS at h1
  cases hd : A.dst with
  | none => rw [hd] at hk; simp [keys] at hk
  | some d =>
    rw [hd] at hk h1
    simp only [keys, List.map_cons, List.map_nil, List.mem_singleton] at hk
    subst hk
    simp only [] at h1
    rw [mem_iff.2 ht] at h1; cases h1
theorem conf_ws {A B : Ent} (h : conf A B = false) : ∀ t, t ∈ keys (wS A) → t ∉ keys (wS B) := by
  intro t hA hB
  simp only [conf, Bool.or_eq_false_iff] at h
  have h1 := h.1.1.2
  unfold wS at hA hB
  unfold sameD at h1
  cases hd : A.dst with
  | none => rw [hd] at hA; simp [keys] at hA
  | some d =>
    cases hd' : B.dst with
    | none => rw [hd'] at hB; simp [keys] at hB
    | some d' =>
      rw [hd] at hA h1
      rw [hd'] at hB h1
      simp only [keys, List.map_cons, List.map_nil, List.mem_singleton] at hA hB
      subst hA; subst hB
      simp at h1
theorem keys_wO (A : Ent) (t : Nat) : t ∈ keys (wO A) ↔ ∃ p ∈ A.wo, p.1 = t := by
  simp [keys, wO]
theorem conf_ro {A B : Ent} (h : conf A B = false) : ∀ t ∈ B.ro, t ∉ keys (wO A) := by
  intro t ht hk
  simp only [conf, Bool.or_eq_false_iff] at h
  have h1 := h.1.2
  obtain ⟨p, hp, rfl⟩ := (keys_wO A t).1 hk
  unfold hitO at h1
  rw [List.any_eq_false] at h1
  have := h1 p hp
  simp only [Bool.or_eq_true, mem_iff, not_or] at this
  exact this.1 ht
theorem conf_wo {A B : Ent} (h : conf A B = false) : ∀ t, t ∈ keys (wO A) → t ∉ keys (wO B) := by
  intro t hA hB
  simp only [conf, Bool.or_eq_false_iff] at h
  have h1 := h.1.2
  obtain ⟨p, hp, rfl⟩ := (keys_wO A t).1 hA
  obtain ⟨q, hq, hqp⟩ := (keys_wO B p.1).1 hB
  unfold hitO at h1
  rw [List.any_eq_false] at h1
  have := h1 p hp
  simp only [Bool.or_eq_true, mem_iff, not_or] at this
  exact this.2 (List.mem_map.2 ⟨q, hq, hqp⟩)
def left (D : Nat → Bool) (n : Nat) : Nat := ((List.range n).filter fun j => !D j).length
theorem left_lt {D : Nat → Bool} {n i : Nat} (hi : i < n) (hD : D i = false) : left (fun j => j == i || D j) n < left D n := by
  unfold left
  have key : ∀ (l : List Nat), (l.filter fun j => !(j == i || D j)).length ≤ (l.filter fun j => !D j).length ∧ (i ∈ l → (l.filter fun j => !(j == i || D j)).length < (l.filter fun j => !D j).length) := by
    intro l
    induction l with
    | nil => simp
    | cons k r ih =>
      by_cases hk : k = i
      · subst hk
        simp only [beq_self_eq_true, Bool.true_or, Bool.not_true, Bool.false_eq_true, not_false_eq_true, List.filter_cons_of_neg, hD, Bool.not_false, List.filter_cons_of_pos, List.length_cons]
        refine ⟨by omega, fun _ => by omega⟩
      · have hb : (k == i) = false := by simpa using hk
        cases hDk : D k
        · simp only [List.filter_cons, hb, hDk, Bool.false_or, Bool.not_false, if_true, List.length_cons]
          refine ⟨by omega, fun h => ?_⟩
          rcases List.mem_cons.1 h with h | h
          · exact absurd h.symm hk
          · have := ih.2 h; omega
        · simp only [List.filter_cons, hb, hDk, Bool.or_true, Bool.not_true, Bool.false_eq_true, if_false]
          refine ⟨ih.1, fun h => ?_⟩
          rcases List.mem_cons.1 h with h | h
          · exact absurd h.symm hk
          · exact ih.2 h
  exact (key _).2 (List.mem_range.2 hi)
theorem getD_any {listed : Array Bool} {i : Nat} (h : i < listed.size) : listed.getD i true = listed.getD i false := by simp [h]
theorem drawn_ok (hT : TOK T P) {K : Nat → Sym} (hK : ∀ f, SymOK P T f (K f)) {ops : Array Oper} {Q : Exit → Act → World → Prop} {n0 nt : Nat} {σ σ' : St} {Es : List Ent} (hd : ∀ o ∈ ops.toList, okDst nt o = true) (hr : runOps T K ops of ops.toList σ = some (Es, σ')) (hn : n0 ≤ σ.nx) (hfit : Fits of of' eb n0 σ') (hcb : backward 0 ops.toList = true) (hchk : ∀ (p q : Nat) (A B : Ent), q < p → Es[p]? = some B → Es[q]? = some A → conf A B = true → ((masks ops.toList []).getD p 0).testBit q = true)
    (hQ : ∀ a' w', Sim T c eb of' n0 nt σ' a' w' → Q .normal a' w') : ∀ (fuel : Nat) (listed : Array Bool) (D : Nat → Bool) (a : Act) (e : Env), listed.size = ops.size → (∀ j, j < ops.size → D j = listed.getD j false) → (∀ j, ops.size ≤ j → D j = false) → left D ops.size ≤ fuel →
      (∀ j o, D j = true → ops[j]? = some o → ∀ e ∈ o.after, Region.binds .any e = true → D e.on = true) →
      Stands T c eb (foldW D 0 (Es.map wS) (getS σ.sl)) (foldW D 0 (Es.map wO) (over σ.ob of')) (fun id => eb.U id ∨ (n0 ≤ id ∧ id < σ.nx) ∨ ∃ j E, D j = true ∧ Es[j]? = some E ∧ E.lo ≤ id ∧ id < E.hi) nt a e →
      wpAny P .any ops Q fuel listed a e.w := by
  obtain ⟨hσ, hlen0, hent⟩ := runOps_spec _ _ _ _ hr
  have hnx := nx_chain hr
  have hlen : Es.length = ops.size := by rw [hlen0, Array.length_toList]
  have hback := backward_spec _ _ hcb
  have hopl : ∀ j : Nat, ops.toList[j]? = ops[j]? := fun j => Array.getElem?_toList
  -- all done
  have fin : ∀ (D : Nat → Bool) (a : Act) (e : Env), (∀ j, j < ops.size → D j = true) → Stands T c eb (foldW D 0 (Es.map wS) (getS σ.sl)) (foldW D 0 (Es.map wO) (over σ.ob of')) (fun id => eb.U id ∨ (n0 ≤ id ∧ id < σ.nx) ∨ ∃ j E, D j = true ∧ Es[j]? = some E ∧ E.lo ≤ id ∧ id < E.hi) nt a e → Q .normal a e.w := by
    intro D a e hall hst
    refine hQ _ _ ⟨e, rfl, ?_⟩
    have e1 : foldW D 0 (Es.map wS) (getS σ.sl) = getS σ'.sl := by
      rw [hσ, getS_fold, foldW_congr (D' := fun j => decide (j < 0 + Es.length)) _ _ _ (fun q hq => by
        rw [List.length_map] at hq
        rw [Nat.zero_add, hall q (by omega)]; simp; omega), foldW_prefix, List.take_of_length_le (by simp)]
    have e2 : foldW D 0 (Es.map wO) (over σ.ob of') = over σ'.ob of' := by
      rw [hσ, over_fold, foldW_congr (D' := fun j => decide (j < 0 + Es.length)) _ _ _ (fun q hq => by
        rw [List.length_map] at hq
        rw [Nat.zero_add, hall q (by omega)]; simp; omega), foldW_prefix, List.take_of_length_le (by simp)]
    rw [e1, e2] at hst
    refine ⟨hst.os, hst.le, fun id hid => ?_, hst.sl, hst.def_, hst.nt⟩
    rw [hσ]
    have hlast := hnx Es.length
    rw [List.take_length] at hlast
    rcases hst.U id hid with h1 | h1 | ⟨j, E, -, hE, hid', hid2⟩
    · exact .inl h1
    · exact .inr ⟨h1.1, Nat.lt_of_lt_of_le h1.2 hlast.1⟩
    · obtain ⟨q1, q2, q3⟩ := hlast.2 j E hE
      have := q3 (List.getElem?_eq_some_iff.1 hE).1
      have q4 := ((hnx j).1)
      exact .inr ⟨by omega, by omega⟩
  have ready_nil : ∀ (listed : Array Bool) (D : Nat → Bool), listed.size = ops.size → (∀ j, j < ops.size → D j = listed.getD j false) → Region.ready .any ops listed = [] → ∀ j, j < ops.size → D j = true := by
    intro listed D hsz hD hnil j
    induction j using Nat.strongRecOn with
    | ind j ih =>
      intro hj
      cases hDj : D j with
      | true => rfl
      | false =>
        have hmem : j ∈ Region.ready .any ops listed := by
          rw [mem_ready]
          refine ⟨?_, ops[j], Array.getElem?_eq_getElem hj, fun e he hb => ?_⟩
          · rw [getD_any (by rw [hsz]; exact hj), ← hD j hj]; exact hDj
          · have hlt := hback j ops[j] (by rw [hopl]; exact Array.getElem?_eq_getElem hj) e he hb
            rw [Nat.zero_add] at hlt
            rw [← hD _ (by omega)]
            exact ih _ hlt (by omega)
        rw [hnil] at hmem; cases hmem
  intro fuel
  induction fuel with
  | zero =>
    intro listed D a e hsz hD hDout hleft hdown hst
    have hall : ∀ j, j < ops.size → D j = true := by
      intro j hj
      cases hDj : D j with
      | true => rfl
      | false => have := left_lt hj hDj; omega
    refine ⟨?_, fin D a e hall hst⟩
    cases hrd : Region.ready .any ops listed with
    | nil => rfl
    | cons i r =>
      have hi : i ∈ Region.ready .any ops listed := by rw [hrd]; simp
      rw [mem_ready] at hi
      obtain ⟨h0, o, ho, -⟩ := hi
      have hlt := (Array.getElem?_eq_some_iff.1 ho).1
      have := hD i hlt
      rw [hall i hlt, ← getD_any (by rw [hsz]; exact hlt), h0] at this
      cases this
  | succ fuel ih =>
    intro listed D a e hsz hD hDout hleft hdown hst
    refine ⟨fun hnil => fin D a e (ready_nil listed D hsz hD hnil) hst, fun i hi => ?_⟩
    rw [mem_ready] at hi
    obtain ⟨h0, o, ho, hedges⟩ := hi
    have hlt := (Array.getElem?_eq_some_iff.1 ho).1
    have hDi : D i = false := by
      rw [hD i hlt, ← getD_any (by rw [hsz]; exact hlt)]; exact h0
    have hpreds : ∀ e ∈ o.after, Region.binds .any e = true → D e.on = true := fun e he hb => by
      have hl := hback i o (by rw [hopl]; exact ho) e he hb
      rw [hD _ (by omega)]; exact hedges e he hb
    obtain ⟨E, hE, hentE, hleE⟩ := hent i o (by rw [hopl]; exact ho)
    obtain ⟨k1, k2, k3, k4⟩ := entOp_lo hentE
    -- what conflicts with i is done exactly if it stands before i
    have hG := masks_spec (D := D) (G := fun j => ∀ o, ops[j]? = some o → ∀ e ∈ o.after, Region.binds .any e = true → D e.on = true) (fun j hj o ho => hdown j o hj ho) ops.toList []
      (fun j _ p hp => by simp at hp) (fun q o' hq hGq => hGq o' (by simpa using hq))
    have hord : ∀ q A, Es[q]? = some A → conf A E = true → q ≠ i → D q = decide (q < i) := by
      intro q A hA hcf hqi
      rcases Nat.lt_or_gt_of_ne hqi with hlt' | hgt
      · have := hchk i q A E hlt' hE hA hcf
        rw [hG i (fun o' ho' => by rw [ho] at ho'; cases ho'; exact hpreds) q this]; simp [hlt']
      · cases hDq : D q with
        | false => simp; omega
        | true =>
          have := hchk q i E A hgt hA hE (by rw [conf_comm]; exact hcf)
          have hq : q < ops.size := by rw [← hlen]; exact (List.getElem?_eq_some_iff.1 hA).1
          have := hG q (fun o' ho' => hdown q o' hDq ho') i this
          rw [hDi] at this; cases this
    have hreadS : ∀ t ∈ E.rs, foldW D 0 (Es.map wS) (getS σ.sl) t = getS ((Es.take i).foldl St.app σ).sl t := by
      intro t ht
      rw [getS_fold, List.map_take, ← foldW_prefix _ 0]
      refine foldW_read _ 0 _ _ rfl (fun q l hq htl => ?_)
      rw [List.getElem?_map, Option.map_eq_some_iff] at hq
      obtain ⟨A, hA, rfl⟩ := hq
      rw [Nat.zero_add, Nat.zero_add]
      by_cases hqi : q = i
      · subst hqi; rw [hDi]; simp
      · refine hord q A hA ?_ hqi
        cases hcf : conf A E with
        | true => rfl
        | false => exact absurd htl (conf_rs hcf t ht)
    have hreadO : ∀ t ∈ E.ro, foldW D 0 (Es.map wO) (over σ.ob of') t = over ((Es.take i).foldl St.app σ).ob of' t := by
      intro t ht
      rw [over_fold, List.map_take, ← foldW_prefix _ 0]
      refine foldW_read _ 0 _ _ rfl (fun q l hq htl => ?_)
      rw [List.getElem?_map, Option.map_eq_some_iff] at hq
      obtain ⟨A, hA, rfl⟩ := hq
      rw [Nat.zero_add, Nat.zero_add]
      by_cases hqi : q = i
      · subst hqi; rw [hDi]; simp
      · refine hord q A hA ?_ hqi
        cases hcf : conf A E with
        | true => rfl
        | false => exact absurd htl (conf_ro hcf t ht)
    have hlater : ∀ q A, i < q → Es[q]? = some A → D q = true → conf E A = false := by
      intro q A hq hA hDq
      cases hcf : conf E A with
      | false => rfl
      | true =>
        have := hord q A hA (by rw [conf_comm]; exact hcf) (by omega)
        rw [hDq] at this; simp at this; omega
    have hagree : ∀ id ∈ E.ro, over ((Es.take i).foldl St.app σ).ob of' id = over ((Es.take i).foldl St.app σ).ob of id := over_agree hfit.rd hleE.1
    refine entOp_ok hT hK ho hst.os hentE (fun id hid => (hreadO id hid).trans (hagree id hid)) (fun id h1 h2 hu => ?_) (fun t ht => by rw [← hreadS t ht]; exact hst.sl t) (fun x w' hl => ?_)
    · have hge := (hnx i).1
      have hhi : id < σ'.nx := Nat.lt_of_lt_of_le h2 hleE.2
      rcases hst.U id hu with h3 | h3 | ⟨j, A, hDj, hA, hid1, hid2⟩
      · exact hfit.fr id (by omega) hhi h3
      · omega
      · rcases Nat.lt_trichotomy j i with hji | hji | hji
        · have := ((hnx i).2 j A hA).2.2 hji; omega
        · subst hji; rw [hDi] at hDj; cases hDj
        · have q1 := ((hnx j).2 j A hA).1
          have q2 := ((hnx j).2 i E hE).2.2 hji
          omega
    · obtain ⟨e', rfl, hst'⟩ := hst.step hl (fun d hd' => by
        have := hd o (List.mem_of_getElem? (by rw [hopl]; exact ho))
        unfold okDst at this
        rw [← k3, hd'] at this
        simpa [Nat.blt_eq] using this)
      refine ih (listed.setIfInBounds i true) (fun j => j == i || D j) _ e' (by simp [hsz]) (fun j hj => ?_) (fun j hj => ?_) (by have := left_lt hlt hDi; omega) (fun j o' hj ho' e he hb => ?_) ?_
      · by_cases hji : j = i
        · subst hji; simp [Array.getD, hsz, hj]
        · rw [getD_set_ne false (Ne.symm hji), ← hD j hj]; simp [hji]
      · have : j ≠ i := by omega
        simp [this, hDout j hj]
      · simp only [Bool.or_eq_true, beq_iff_eq] at hj ⊢
        right
        rcases hj with rfl | hj
        · rw [ho] at ho'; cases ho'; exact hpreds e he hb
        · exact hdown j o' hj ho' e he hb
      · have f1 := foldW_insert (D := D) (Es.map wS) 0 i (getS σ.sl) (wS E) (by rw [List.getElem?_map, hE]; rfl) (by rw [Nat.zero_add]; exact hDi) (fun q l' hq hl' hDq => by
          rw [List.getElem?_map, Option.map_eq_some_iff] at hl'
          obtain ⟨A, hA, rfl⟩ := hl'
          rw [Nat.zero_add] at hDq
          exact conf_ws (hlater q A hq hA hDq))
        have f2 := foldW_insert (D := D) (Es.map wO) 0 i (over σ.ob of') (wO E) (by rw [List.getElem?_map, hE]; rfl) (by rw [Nat.zero_add]; exact hDi) (fun q l' hq hl' hDq => by
          rw [List.getElem?_map, Option.map_eq_some_iff] at hl'
          obtain ⟨A, hA, rfl⟩ := hl'
          rw [Nat.zero_add] at hDq
          exact conf_wo (hlater q A hq hA hDq))
        simp only [Nat.zero_add] at f1 f2
        rw [f1, f2]
        refine ⟨hst'.os, hst'.le, fun id hid => ?_, hst'.sl, hst'.def_, hst'.nt⟩
        rcases hst'.U id hid with (h1 | h1 | ⟨j, A, hDj, hA, hid'⟩) | h1
        · exact .inl h1
        · exact .inr (.inl h1)
        · exact .inr (.inr ⟨j, A, by simp [hDj], hA, hid'⟩)
        · exact .inr (.inr ⟨i, E, by simp, hE, h1⟩)
end Go.Vm

namespace Go.Vm
open Go.RowKit
variable {P : Program} {T : TT} {c : Ctx} {e eb : Env} {of of' : Nat → Option Ob}
set_option linter.unusedVariables false
set_option linter.constructorNameAsVariable false

/-! ### What must keep its order, quickly -/
def one1 {α : Type} (cf : α → α → Bool) (B : α) (m : Nat) : List α → Nat → Bool
  | [], _ => true
  | A :: r, j => (!(cf A B) || m.testBit j) && one1 cf B m r (j + 1)
def all1 {α : Type} (cf : α → α → Bool) (Es : List α) (ms : List Nat) : Nat → List α → Bool
  | _, [] => true
  | i, B :: r => one1 cf B (ms.getD i 0) (Es.take i) 0 && all1 cf Es ms (i + 1) r
theorem one1_spec {α : Type} {cf : α → α → Bool} {B : α} {m : Nat} : ∀ (l : List α) (j : Nat), one1 cf B m l j = true → ∀ (q : Nat) A, l[q]? = some A → cf A B = true → m.testBit (j + q) = true := by
  intro l
  induction l with
  | nil => intro j _ q A h; simp at h
  | cons A0 r ih =>
    intro j h q A hq hc
    simp only [one1, Bool.and_eq_true, Bool.or_eq_true, Bool.not_eq_true'] at h
    cases q with
    | zero =>
      simp only [List.getElem?_cons_zero, Option.some.injEq] at hq
      subst hq
      rcases h.1 with h1 | h1
      · rw [hc] at h1; cases h1
      · exact h1
    | succ q => rw [show j + (q + 1) = j + 1 + q by omega]; exact ih (j + 1) h.2 q A (by simpa using hq) hc
theorem all1_spec {α : Type} {cf : α → α → Bool} {Es : List α} {ms : List Nat} : ∀ (l : List α) (i : Nat), (∀ q : Nat, l[q]? = Es[i + q]?) → all1 cf Es ms i l = true → ∀ (p q : Nat) A B, i ≤ p → q < p → Es[p]? = some B → Es[q]? = some A → cf A B = true → (ms.getD p 0).testBit q = true := by
  intro l
  induction l with
  | nil =>
    intro i hl _ p q A B hip hqp hB hA _
    have := hl (p - i)
    rw [show i + (p - i) = p by omega, hB] at this
    simp at this
  | cons B0 r ih =>
    intro i hl h p q A B hip hqp hB hA hc
    simp only [all1, Bool.and_eq_true] at h
    by_cases hpi : p = i
    · subst hpi
      have h0 := hl 0
      rw [Nat.add_zero, hB, List.getElem?_cons_zero, Option.some.injEq] at h0
      subst h0
      have := one1_spec (Es.take p) 0 h.1 q A (by rw [List.getElem?_take_of_lt hqp]; exact hA) hc
      rwa [Nat.zero_add] at this
    · exact ih (i + 1) (fun q => by have := hl (q + 1); simpa [Nat.add_assoc, Nat.add_comm 1 q] using this) h.2 p q A B (by omega) hqp hB hA hc
def slotC (ops : Array Oper) (x y : Oper) : Bool := hitS x.dst (y.looksAt ops) || hitS y.dst (x.looksAt ops) || sameD x.dst y.dst
def statB (nt : Nat) (ops : Array Oper) : Bool := ops.toList.all (okDst nt) && backward 0 ops.toList && all1 (slotC ops) ops.toList (masks ops.toList []) 0 ops.toList
def ordB (ms : List Nat) (i j : Nat) : Bool := bif Nat.blt i j then (ms.getD j 0).testBit i else (ms.getD i 0).testBit j
def dyn1 (wo : List (Nat × Ob)) (i : Nat) (ms : List Nat) : Nat → List Ent → Bool
  | _, [] => true
  | j, B :: r => (Nat.beq i j || !(hitO wo B) || ordB ms i j) && dyn1 wo i ms (j + 1) r
def dynA (ms : List Nat) (Es : List Ent) : Nat → List Ent → Bool
  | _, [] => true
  | i, E :: r => (match E.wo with
    | [] => true
    | q :: l => dyn1 (q :: l) i ms 0 Es) && dynA ms Es (i + 1) r
theorem dyn1_spec {wo : List (Nat × Ob)} {i : Nat} {ms : List Nat} : ∀ (l : List Ent) (j : Nat), dyn1 wo i ms j l = true → ∀ (q : Nat) B, l[q]? = some B → hitO wo B = true → i ≠ j + q → ordB ms i (j + q) = true := by
  intro l
  induction l with
  | nil => intro j _ q B h; simp at h
  | cons A0 r ih =>
    intro j h q B hq hc hne
    simp only [dyn1, Bool.and_eq_true, Bool.or_eq_true, Bool.not_eq_true'] at h
    cases q with
    | zero =>
      simp only [List.getElem?_cons_zero, Option.some.injEq] at hq
      subst hq
      rcases h.1 with (h1 | h1) | h1
      · exact absurd (Nat.eq_of_beq_eq_true h1) hne
      · rw [hc] at h1; cases h1
      · exact h1
    | succ q => rw [show j + (q + 1) = j + 1 + q by omega]; exact ih (j + 1) h.2 q B (by simpa using hq) hc (by omega)
theorem dynA_spec {Es : List Ent} {ms : List Nat} : ∀ (l : List Ent) (i : Nat), (∀ q : Nat, l[q]? = Es[i + q]?) → dynA ms Es i l = true → ∀ (p q : Nat) A B, i ≤ p → p ≠ q → Es[p]? = some A → Es[q]? = some B → hitO A.wo B = true → ordB ms p q = true := by
  intro l
  induction l with
  | nil =>
    intro i hl _ p q A B hip hpq hA hB _
    have := hl (p - i)
    rw [show i + (p - i) = p by omega, hA] at this
    simp at this
  | cons A0 r ih =>
    intro i hl h p q A B hip hpq hA hB hc
    simp only [dynA, Bool.and_eq_true] at h
    by_cases hpi : p = i
    · subst hpi
      have h0 := hl 0
      rw [Nat.add_zero, hA, List.getElem?_cons_zero, Option.some.injEq] at h0
      subst h0
      have h1 := h.1
      cases hw : A0.wo with
      | nil => rw [hw] at hc; simp [hitO] at hc
      | cons x y =>
        rw [hw] at h1 hc
        have := dyn1_spec Es 0 h1 q B hB hc (by omega)
        rwa [Nat.zero_add] at this
    · exact ih (i + 1) (fun q => by have := hl (q + 1); simpa [Nat.add_assoc, Nat.add_comm 1 q] using this) h.2 p q A B (by omega) hpq hA hB hc
theorem wp_drawn (hm : P.follows .mixedOrders = true) (hT : TOK T P) {K : Nat → Sym} (hK : ∀ f, SymOK P T f (K f)) {id : Nat} {ops : Array Oper} {Q : Exit → Act → World → Prop} {n0 nt : Nat} {σ σ' : St} {Es : List Ent} {a : Act} {w : World} (hs1 : statB nt ops = true) (hr : runOps T K ops of ops.toList σ = some (Es, σ')) (hs2 : dynA (masks ops.toList []) Es 0 Es = true)
    (hn : n0 ≤ σ.nx) (hfit : Fits of of' eb n0 σ') (hs : Sim T c eb of' n0 nt σ a w) (hQ : ∀ a' w', Sim T c eb of' n0 nt σ' a' w' → Q .normal a' w') : (Code.region id ops true).wp P Q a w := by
  simp only [statB, Bool.and_eq_true] at hs1
  obtain ⟨⟨hd, hb⟩, hsl⟩ := hs1
  obtain ⟨hσ, hlen0, hent⟩ := runOps_spec _ _ _ _ hr
  have hord : ∀ (p q : Nat) (A B : Ent), q < p → Es[p]? = some B → Es[q]? = some A → conf A B = true → ((masks ops.toList []).getD p 0).testBit q = true := by
    intro p q A B hqp hB hA hc
    have hp' : p < ops.toList.length := by rw [← hlen0]; exact (List.getElem?_eq_some_iff.1 hB).1
    have hq' : q < ops.toList.length := by omega
    obtain ⟨A', gA, kA, _⟩ := hent q ops.toList[q] (List.getElem?_eq_getElem hq')
    obtain ⟨B', gB, kB, _⟩ := hent p ops.toList[p] (List.getElem?_eq_getElem hp')
    rw [hA] at gA; cases gA
    rw [hB] at gB; cases gB
    obtain ⟨_, _, a3, a4⟩ := entOp_lo kA
    obtain ⟨_, _, b3, b4⟩ := entOp_lo kB
    unfold conf at hc
    rw [Bool.or_eq_true, Bool.or_eq_true] at hc
    rcases hc with (hc | hc) | hc
    · refine all1_spec ops.toList 0 (fun q => by rw [Nat.zero_add]) hsl p q _ _ (Nat.zero_le _) hqp (List.getElem?_eq_getElem hp') (List.getElem?_eq_getElem hq') ?_
      unfold slotC
      rw [← a3, ← b3, ← a4, ← b4]; exact hc
    · have := dynA_spec Es 0 (fun q => by rw [Nat.zero_add]) hs2 q p A B (Nat.zero_le _) (by omega) hA hB hc
      unfold ordB at this
      rw [show Nat.blt q p = true from by simpa [Nat.blt_eq] using hqp] at this
      exact this
    · have := dynA_spec Es 0 (fun q => by rw [Nat.zero_add]) hs2 p q B A (Nat.zero_le _) (by omega) hB hA hc
      unfold ordB at this
      rw [show Nat.blt p q = false from by rw [← Bool.not_eq_true, Nat.blt_eq]; omega] at this
      exact this
  obtain ⟨e, rfl, hst⟩ := hs
  refine wp_region_any hm ?_
  obtain ⟨h1, h2⟩ := hst.os.same_heap (w' := { e.w with drawn := e.w.drawn + 1 }) rfl rfl rfl rfl
  refine drawn_ok hT hK (List.all_eq_true.1 hd) hr hn hfit hb hord hQ ops.size (Array.replicate ops.size false) (fun _ => false) a { e with w := { e.w with drawn := e.w.drawn + 1 } } (by simp) (fun j hj => ?_) (fun _ _ => rfl) ?_ (fun j o hj => by cases hj) ?_
  · simp [Array.getD, hj]
  · unfold left
    have := List.length_filter_le (fun j => !(fun _ => false : Nat → Bool) j) (List.range ops.size)
    rwa [List.length_range] at this
  · rw [foldW_none _ 0 _ (fun _ _ => rfl), foldW_none _ 0 _ (fun _ _ => rfl)]
    exact ⟨h1, hst.le.trans h2, fun id hid => (hst.U id hid).imp (fun q => q) .inl, fun t => (hst.sl t).mono h2, hst.def_, hst.nt⟩

/-! ### Code -/
/-- What a region makes shared of what was there. -/
def shIds (f : Nat → Option Ob) : List (Nat × Ob) → List Nat
  | [] => []
  | (id, o) :: r => bif isSh o then (match f id with
    | some o0 => bif isSh o0 then shIds f r else id :: shIds f r
    | none => shIds f r) else shIds f r
def shEs (f : Nat → Option Ob) : List Ent → List Nat
  | [] => []
  | E :: r => shIds f E.wo ++ shEs f r
def St.pre (of : Nat → Option Ob) (σ : St) (l : List Nat) : St := { σ with ob := setL σ.ob (shW (over σ.ob of) l), rd := addR σ.ob l σ.rd }
theorem St.pre_le (σ : St) (l : List Nat) : σ.le (σ.pre of l) := ⟨addR_mono _ _ _, Nat.le_refl _⟩
theorem shW_congr {f g : Nat → Option Ob} : ∀ l : List Nat, (∀ id ∈ l, f id = g id) → shW f l = shW g l := by
  intro l
  induction l with
  | nil => intro _; rfl
  | cons k r ih =>
    intro h
    simp only [shW]
    rw [h k (List.mem_cons_self ..), ih (fun id hid => h id (List.mem_cons_of_mem _ hid))]
theorem Sim.pre {n0 nt : Nat} {σ : St} {a : Act} {w : World} (h : Sim T c eb of' n0 nt σ a w) {l : List Nat} (ho : ∀ id ∈ (σ.pre of l).rd, of' id = of id) : Sim T c eb of' n0 nt (σ.pre of l) a w := by
  obtain ⟨e, rfl, hst⟩ := h
  have hag : ∀ id ∈ l, over σ.ob of' id = over σ.ob of id := over_agree (ob := σ.ob) (l := σ.rd) ho (fun _ h => h)
  refine ⟨e, rfl, ?_, hst.le, hst.U, hst.sl, hst.def_, hst.nt⟩
  show OSim T c e (over (setL σ.ob (shW (over σ.ob of) l)) of')
  rw [over_setL, ← shW_congr l hag]
  exact hst.os.weak (shW_all l).1
abbrev LTab := Code → Option ((Nat → Option Ob) → St → Option (Exit × St))
def keysS : List (Nat × A) → List Nat → List Nat
  | [], ks => ks
  | (k, _) :: r, ks => bif mem k ks then keysS r ks else keysS r (k :: ks)
def pickS (l : List (Nat × A)) : List Nat → List (Nat × A)
  | [] => []
  | k :: r => (k, getS l k) :: pickS l r
def St.tidy (σ : St) (ks : List Nat) : St := { σ with sl := pickS σ.sl ks }
theorem pickS_get (l : List (Nat × A)) : ∀ (ks : List Nat) (t : Nat), getS (pickS l ks) t = .x ∨ getS (pickS l ks) t = getS l t := by
  intro ks
  induction ks with
  | nil => intro t; exact .inl rfl
  | cons k r ih =>
    intro t
    rw [pickS, getS_cons]
    by_cases h : t = k
    · subst h; rw [upd_same]; exact .inr rfl
    · rw [upd_ne _ _ h]; exact ih t
theorem Sim.tidy {n0 nt : Nat} {σ : St} {a : Act} {w : World} (h : Sim T c eb of n0 nt σ a w) (ks : List Nat) : Sim T c eb of n0 nt (σ.tidy ks) a w := by
  obtain ⟨e, rfl, hst⟩ := h
  refine ⟨e, rfl, hst.os, hst.le, hst.U, fun t => ?_, hst.def_, hst.nt⟩
  rcases pickS_get σ.sl ks t with h | h
  · show Rep T e (getS (pickS σ.sl ks) t) _
    rw [h]; trivial
  · show Rep T e (getS (pickS σ.sl ks) t) _
    rw [h]; exact hst.sl t
/-- A loop whose rounds are run one by one. -/
def unroll (ks : List Nat) (f : St → Option (Exit × St)) : Nat → St → Option (Exit × St)
  | 0, _ => none
  | n + 1, σ => match f (σ.tidy ks) with
    | some (.normal, σ1) => unroll ks f n σ1
    | r => r
def exec (T : TT) (K : Nat → Sym) (Lo : LTab) (fu nt : Nat) (of : Nat → Option Ob) : Code → St → Option (Exit × St)
  | .skip, σ => some (.normal, σ)
  | .ret, σ => some (.ret, σ)
  | .exit id, σ => some (.exit id, σ)
  | .region _ ops draw, σ =>
    match draw with
    | false => if ops.toList.all (okDst nt) then (match runOps T K ops of ops.toList σ with
      | some (_, σ') => some (.normal, σ')
      | none => none) else none
    | true => if statB nt ops then (match runOps T K ops of ops.toList σ with
      | some (Es, σ') => if dynA (masks ops.toList []) Es 0 Es then some (.normal, σ') else
        (match runOps T K ops of ops.toList (σ.pre of (shEs (over σ.ob of) Es)) with
        | some (Es2, σ2) => if dynA (masks ops.toList []) Es2 0 Es2 then some (.normal, σ2) else none
        | none => none)
      | none => none) else none
  | .seq x y, σ =>
    match exec T K Lo fu nt of x σ with
    | some (.normal, σ1) => exec T K Lo fu nt of y σ1
    | r => r
  | .cond q x y, σ =>
    match evO (getS σ.sl) q with
    | .b true => exec T K Lo fu nt of x σ
    | .b false => exec T K Lo fu nt of y σ
    | _ => none
  | .block id body, σ =>
    match exec T K Lo fu nt of body σ with
    | some (.exit id', σ') => some (if Nat.beq id' id then .normal else .exit id', σ')
    | r => r
  | .loop body, σ =>
    match Lo body with
    | some s => s of σ
    | none => unroll (keysS σ.sl []) (fun σ => exec T K Lo fu nt of body σ) fu σ
  | _, _ => none
/-- What was there ahead of all was what is told of it. -/
def Base (T : TT) (eb : Env) (of' : Nat → Option Ob) : Prop := ∀ id o, of' id = some o → OK T eb id o
/-- A piece of code takes one state to another. -/
def Takes (P : Program) (T : TT) (nt n0 : Nat) (of : Nat → Option Ob) (code : Code) (σ : St) (ex : Exit) (σ' : St) : Prop :=
  σ.le σ' ∧ ∀ (of' : Nat → Option Ob) (c : Ctx) (eb : Env) (a : Act) (w : World), n0 ≤ σ.nx → Fits of of' eb n0 σ' → Base T eb of' → Sim T c eb of' n0 nt σ a w → code.wp P (fun e a' w' => e = ex ∧ Sim T c eb of' n0 nt σ' a' w') a w
def LoopsOK (P : Program) (T : TT) (nt n0 : Nat) (Lo : LTab) : Code → Prop
  | .seq x y => LoopsOK P T nt n0 Lo x ∧ LoopsOK P T nt n0 Lo y
  | .cond _ x y => LoopsOK P T nt n0 Lo x ∧ LoopsOK P T nt n0 Lo y
  | .block _ b => LoopsOK P T nt n0 Lo b
  | .loop b => (∀ s, Lo b = some s → ∀ of σ ex σ', s of σ = some (ex, σ') → Takes P T nt n0 of (.loop b) σ ex σ') ∧ LoopsOK P T nt n0 Lo b
  | _ => True
theorem loopsOK_none {nt n0 : Nat} : ∀ code, LoopsOK P T nt n0 (fun _ => none) code := by
  intro code
  induction code with
  | seq x y ihx ihy => exact ⟨ihx, ihy⟩
  | cond q x y ihx ihy => exact ⟨ihx, ihy⟩
  | block id b ih => exact ih
  | loop b ih => exact ⟨fun s h => (by cases h), ih⟩
  | _ => trivial
theorem Sim.cond {n0 nt : Nat} {σ : St} {a : Act} {w : World} (h : Sim T c eb of n0 nt σ a w) {q : Operand} {t : Bool} (hq : evO (getS σ.sl) q = .b t) : a.eval q = .bool t := by
  obtain ⟨e, rfl, hst⟩ := h
  have := evO_ok (T := T) (e := e) (sl := getS σ.sl) (a := a) (x := q) (fun t _ => hst.sl t)
  rw [hq] at this
  exact rep_b_inv this
theorem unroll_ok {nt n0 : Nat} {ks : List Nat} {body : Code} {f : St → Option (Exit × St)} (hf : ∀ σ ex σ', f σ = some (ex, σ') → Takes P T nt n0 of body σ ex σ') : ∀ (n : Nat) (σ : St) (ex : Exit) (σ' : St), unroll ks f n σ = some (ex, σ') →
    σ.le σ' ∧ ∀ (of' : Nat → Option Ob) (c : Ctx) (eb : Env) (a : Act) (w : World), n0 ≤ σ.nx → Fits of of' eb n0 σ' → Base T eb of' → Sim T c eb of' n0 nt σ a w → Code.rounds P body (fun e a' w' => e = ex ∧ Sim T c eb of' n0 nt σ' a' w') n a w := by
  intro n
  induction n with
  | zero => intro σ ex σ' h; cases h
  | succ n ih =>
    intro σ ex σ' h
    simp only [unroll] at h
    split at h
    · rename_i σ1 hx
      obtain ⟨l1, k1⟩ := hf _ _ _ hx
      obtain ⟨l2, k2⟩ := ih _ _ _ h
      refine ⟨St.le.trans l1 l2, fun of' c eb a w hn hfit hbs hs => ?_⟩
      refine Code.wp_mono ?_ (k1 of' c eb a w hn (hfit.mono l2) hbs (hs.tidy ks))
      rintro e' a' w' ⟨rfl, hs'⟩
      exact k2 of' c eb a' w' (Nat.le_trans hn l1.2) hfit hbs hs'
    · rename_i r0 hne
      obtain ⟨l1, k1⟩ := hf _ _ _ h
      refine ⟨l1, fun of' c eb a w hn hfit hbs hs => ?_⟩
      have hex : ex ≠ .normal := by
        intro he; subst he; exact hne _ h
      refine Code.wp_mono ?_ (k1 of' c eb a w hn hfit hbs (hs.tidy ks))
      rintro e' a' w' ⟨rfl, hs'⟩
      cases e' with
      | normal => exact absurd rfl hex
      | _ => exact ⟨rfl, hs'⟩
/-- What the execution says is so. -/
theorem exec_ok (hm : P.follows .mixedOrders = true) (hT : TOK T P) {K : Nat → Sym} (hK : ∀ f, SymOK P T f (K f)) {Lo : LTab} {fu nt n0 : Nat} : ∀ (code : Code), LoopsOK P T nt n0 Lo code → ∀ (σ : St) (ex : Exit) (σ' : St), exec T K Lo fu nt of code σ = some (ex, σ') → Takes P T nt n0 of code σ ex σ' := by
  intro code
  induction code with
  | skip =>
    intro _ σ ex σ' h
    simp only [exec, Option.some.injEq, Prod.mk.injEq] at h
    obtain ⟨rfl, rfl⟩ := h
    exact ⟨St.le.refl _, fun of' c eb a w _ _ _ hs => wp_skip ⟨rfl, hs⟩⟩
  | ret =>
    intro _ σ ex σ' h
    simp only [exec, Option.some.injEq, Prod.mk.injEq] at h
    obtain ⟨rfl, rfl⟩ := h
    exact ⟨St.le.refl _, fun of' c eb a w _ _ _ hs => wp_ret ⟨rfl, hs⟩⟩
  | exit id =>
    intro _ σ ex σ' h
    simp only [exec, Option.some.injEq, Prod.mk.injEq] at h
    obtain ⟨rfl, rfl⟩ := h
    exact ⟨St.le.refl _, fun of' c eb a w _ _ _ hs => wp_exit ⟨rfl, hs⟩⟩
  | region id ops draw =>
    intro _ σ ex σ' h
    simp only [exec] at h
    cases draw with
    | false =>
      simp only at h
      split at h <;> try (cases h; done)
      rename_i hd
      split at h <;> try (cases h; done)
      rename_i Es σ2 hr
      simp only [Option.some.injEq, Prod.mk.injEq] at h
      obtain ⟨rfl, rfl⟩ := h
      exact ⟨runOps_le _ _ _ _ hr, fun of' c eb a w hn hfit hbs hs => wp_plain hT hK hd hr hn hfit hs (fun a' w' h' => ⟨rfl, h'⟩)⟩
    | true =>
      simp only at h
      split at h <;> try (cases h; done)
      rename_i hd
      split at h <;> try (cases h; done)
      rename_i Es σ2 hr
      split at h
      · rename_i hdy
        simp only [Option.some.injEq, Prod.mk.injEq] at h
        obtain ⟨rfl, rfl⟩ := h
        exact ⟨runOps_le _ _ _ _ hr, fun of' c eb a w hn hfit hbs hs => wp_drawn hm hT hK hd hr hdy hn hfit hs (fun a' w' h' => ⟨rfl, h'⟩)⟩
      · split at h <;> try (cases h; done)
        rename_i Es2 σ3 hr2
        split at h <;> try (cases h; done)
        rename_i hdy
        simp only [Option.some.injEq, Prod.mk.injEq] at h
        obtain ⟨rfl, rfl⟩ := h
        have l2 := runOps_le _ _ _ _ hr2
        exact ⟨(St.pre_le _ _).trans l2, fun of' c eb a w hn hfit hbs hs => wp_drawn hm hT hK hd hr2 hdy hn hfit (hs.pre (fun id hid => hfit.rd id (l2.1 id hid))) (fun a' w' h' => ⟨rfl, h'⟩)⟩
  | seq x y ihx ihy =>
    intro hl σ ex σ' h
    simp only [exec] at h
    split at h
    · rename_i σ1 hx
      obtain ⟨l1, k1⟩ := ihx hl.1 _ _ _ hx
      obtain ⟨l2, k2⟩ := ihy hl.2 _ _ _ h
      refine ⟨l1.trans l2, fun of' c eb a w hn hfit hbs hs => wp_seq (Code.wp_mono ?_ (k1 of' c eb a w hn (hfit.mono l2) hbs hs))⟩
      rintro e' a' w' ⟨rfl, hs'⟩
      exact k2 of' c eb a' w' (Nat.le_trans hn l1.2) hfit hbs hs'
    · rename_i r0 hne
      obtain ⟨l1, k1⟩ := ihx hl.1 _ _ _ h
      have hex : ex ≠ .normal := by intro he; subst he; exact hne _ h
      refine ⟨l1, fun of' c eb a w hn hfit hbs hs => wp_seq (Code.wp_mono ?_ (k1 of' c eb a w hn hfit hbs hs))⟩
      rintro e' a' w' ⟨rfl, hs'⟩
      cases e' with
      | normal => exact absurd rfl hex
      | _ => exact ⟨rfl, hs'⟩
  | cond q x y ihx ihy =>
    intro hl σ ex σ' h
    simp only [exec] at h
    split at h <;> try (cases h; done)
    · rename_i hq
      obtain ⟨l1, k1⟩ := ihx hl.1 _ _ _ h
      exact ⟨l1, fun of' c eb a w hn hfit hbs hs => wp_cond (hs.cond hq) (k1 of' c eb a w hn hfit hbs hs)⟩
    · rename_i hq
      obtain ⟨l1, k1⟩ := ihy hl.2 _ _ _ h
      exact ⟨l1, fun of' c eb a w hn hfit hbs hs => wp_cond (hs.cond hq) (k1 of' c eb a w hn hfit hbs hs)⟩
  | block id body ih =>
    intro hl σ ex σ' h
    simp only [exec] at h
    split at h
    · rename_i id' σ1 hb
      obtain ⟨l1, k1⟩ := ih hl _ _ _ hb
      injection h with h; injection h with h1 h2
      subst h2
      refine ⟨l1, fun of' c eb a w hn hfit hbs hs => wp_block (Code.wp_mono ?_ (k1 of' c eb a w hn hfit hbs hs))⟩
      rintro e' a' w' ⟨rfl, hs'⟩
      by_cases hid : id' = id
      · subst hid
        rw [if_pos (Nat.beq_refl _)] at h1
        subst h1
        simp only [Exit.inBlock, if_true]
        exact ⟨trivial, hs'⟩
      · rw [if_neg (fun q => hid (Nat.eq_of_beq_eq_true q))] at h1
        subst h1
        simp only [Exit.inBlock, if_neg hid]
        exact ⟨trivial, hs'⟩
    · rename_i r0 hne
      obtain ⟨l1, k1⟩ := ih hl _ _ _ h
      have hex : ∀ id', ex ≠ .exit id' := by intro id' he; subst he; exact hne _ _ h
      refine ⟨l1, fun of' c eb a w hn hfit hbs hs => wp_block (Code.wp_mono ?_ (k1 of' c eb a w hn hfit hbs hs))⟩
      rintro e' a' w' ⟨rfl, hs'⟩
      cases e' with
      | exit id' => exact absurd rfl (hex id')
      | _ => exact ⟨rfl, hs'⟩
  | loop body ih =>
    intro hl σ ex σ' h
    simp only [exec] at h
    split at h
    · rename_i s hs
      exact hl.1 s hs of σ ex σ' h
    · obtain ⟨l1, k1⟩ := unroll_ok (fun σ ex σ' h => ih hl.2 σ ex σ' h) fu σ ex σ' h
      exact ⟨l1, fun of' c eb a w hn hfit hbs hs => wp_loop_rounds fu (k1 of' c eb a w hn hfit hbs hs)⟩
  | _ => intro _ σ ex σ' h; simp only [exec] at h; cases h
end Go.Vm

namespace Go.Vm
open Go.RowKit
variable {P : Program} {T : TT} {c : Ctx} {e eb : Env} {of of' : Nat → Option Ob}
set_option linter.unusedVariables false
set_option linter.constructorNameAsVariable false

/-! ### What a function gives back -/
def notT : A → Bool
  | .t _ => false
  | _ => true
def oneRes (T : TT) (sl : Nat → A) (of : Nat → Option Ob) : ResultVar → Option (A × List Nat)
  | .tmp t => match sl t with
    | .t _ => none
    | v => some (v, [])
  | .cell a t => match T t, sl a with
    | some te, .p id _ path => match of id with
      | some (.box _ b _) => match atA T b path with
        | some a1 => match asT T t a1 with
          | some a2 => some (norm T a2, [id])
          | none => none
        | none => none
      | _ => none
    | _, _ => none
def manyRes (T : TT) (sl : Nat → A) (of : Nat → Option Ob) : List ResultVar → Option (List A × List Nat)
  | [] => some ([], [])
  | r :: rs => match oneRes T sl of r with
    | some (v, p) => match manyRes T sl of rs with
      | some (l, q) => some (v :: l, p ++ q)
      | none => none
    | none => none
def resA (T : TT) (sl : Nat → A) (of : Nat → Option Ob) (rs : List ResultVar) : Option (A × List Nat) :=
  match manyRes T sl of rs with
  | some (l, p) => match l with
    | [v] => some (v, p)
    | l => some (.t l, p)
  | none => none
def getRes (tmps : Array Value) : ResultVar → Sem Value
  | .tmp t => pure (tmps.getD t undef)
  | .cell a t => do loadVar t (← asAddr (tmps.getD a undef))
theorem results_eq (fn : Func) (tmps : Array Value) : results fn tmps = (do let vs ← fn.results.mapM (getRes tmps); pure (if h : vs.size = 1 then vs[0] else .tuple vs)) := by
  unfold results
  congr 2
theorem norm_not {t : Nat} {a b : A} (h : asT T t a = some b) : ∀ l, norm T b ≠ .t l := by
  intro l hl
  cases b with
  | v t' y => simp only [norm, mkA] at hl; repeat' split at hl
              all_goals cases hl
  | t l' => 
    have := asT_fit h
    simp [fitA] at this
  | _ => cases hl
theorem oneRes_ok (hT : TOK T P) {U : Nat → Prop} {nt : Nat} {sl : Nat → A} {a : Act} (h : Stands T c eb sl of' U nt a e) {r : ResultVar} {v : A} {ro : List Nat} (hr : oneRes T sl of r = some (v, ro)) (ho : ∀ id ∈ ro, of' id = of id) :
    ∃ x, (getRes a.tmps r).run P e.w = .ok x e.w ∧ Rep T e v x ∧ ∀ l, v ≠ .t l := by
  cases r with
  | tmp t =>
    simp only [oneRes] at hr
    split at hr <;> try (cases hr; done)
    rename_i hne
    simp only [Option.some.injEq, Prod.mk.injEq] at hr
    obtain ⟨rfl, -⟩ := hr
    exact ⟨_, rfl, h.sl t, hne⟩
  | cell ad t =>
    simp only [oneRes] at hr
    split at hr <;> try (cases hr; done)
    rename_i te id t' path hte hsl
    split at hr <;> try (cases hr; done)
    rename_i t0 b sh hof
    split at hr <;> try (cases hr; done)
    rename_i a1 h1
    split at hr <;> try (cases hr; done)
    rename_i a2 h2
    simp only [Option.some.injEq, Prod.mk.injEq] at hr
    obtain ⟨rfl, rfl⟩ := hr
    have hx := h.sl ad
    rw [hsl] at hx
    obtain ⟨u1, u2, u3, u4, bb, cs, ty, fz, g1, g2, g3, g4, g5, g6⟩ := box_cells h.os ((ho id (by simp)).trans hof)
    obtain ⟨b', off, _, _, k1, k2, hv⟩ := rep_p_inv hx
    rw [g1] at k1; cases k1
    rw [u3] at k2
    obtain ⟨pre, d, post, q1, q2, q3, q4, q5⟩ := atA_spec path g5 u4 k2 h1
    obtain ⟨r1, r2⟩ := asT_RA q4 h2
    obtain ⟨x, y1, y2⟩ := run_load (P := P) hT hte r1 r2 (ad := ⟨bb, off, none⟩) (fun j y hj => by
      rw [add_none, cell_heap g2, q1, ← q2]; exact mid_get hj)
    exact ⟨x, by simp only [getRes, hv, asAddr]; exact y1, norm_rep hte y2 r2, norm_not h2⟩
theorem manyRes_ok (hT : TOK T P) {U : Nat → Prop} {nt : Nat} {sl : Nat → A} {a : Act} (h : Stands T c eb sl of' U nt a e) : ∀ (rs : List ResultVar) (l : List A) (ro : List Nat), manyRes T sl of rs = some (l, ro) → (∀ id ∈ ro, of' id = of id) →
    ∃ xs, (rs.mapM (getRes a.tmps)).run P e.w = .ok xs e.w ∧ Reps T e l xs ∧ ∀ v ∈ l, ∀ m, v ≠ .t m := by
  intro rs
  induction rs with
  | nil =>
    intro l p hr _
    simp only [manyRes, Option.some.injEq, Prod.mk.injEq] at hr
    obtain ⟨rfl, -⟩ := hr
    exact ⟨[], by simp, .nil, fun v hv => by cases hv⟩
  | cons r rs ih =>
    intro l p hr ho
    simp only [manyRes] at hr
    split at hr <;> try (cases hr; done)
    rename_i v p1 h1
    split at hr <;> try (cases hr; done)
    rename_i l1 q1 h2
    simp only [Option.some.injEq, Prod.mk.injEq] at hr
    obtain ⟨rfl, rfl⟩ := hr
    obtain ⟨x, g1, g4, g5⟩ := oneRes_ok hT h h1 (fun id hid => ho id (by simp [hid]))
    obtain ⟨xs, k1, k4, k5⟩ := ih _ _ h2 (fun id hid => ho id (by simp [hid]))
    refine ⟨x :: xs, by simp [List.mapM_cons, g1, k1], .cons g4 k4, fun u hu => ?_⟩
    rcases List.mem_cons.1 hu with rfl | hu
    · exact g5
    · exact k5 u hu
theorem rep1_of {v : A} {x : Value} (h : Rep T e v x) (hv : ∀ l, v ≠ .t l) : Rep1 T e v x := by
  cases v with
  | t l => exact absurd rfl (hv l)
  | _ => exact h
theorem resA_ok (hT : TOK T P) {U : Nat → Prop} {nt : Nat} {sl : Nat → A} {a : Act} (fn : Func) (h : Stands T c eb sl of' U nt a e) {v : A} {ro : List Nat} (hr : resA T sl of fn.results.toList = some (v, ro)) (ho : ∀ id ∈ ro, of' id = of id) :
    ∃ x, (results fn a.tmps).run P e.w = .ok x e.w ∧ Rep T e v x := by
  unfold resA at hr
  split at hr <;> try (cases hr; done)
  rename_i l p hm
  split at hr
  · rename_i v'
    simp only [Option.some.injEq, Prod.mk.injEq] at hr
    obtain ⟨rfl, rfl⟩ := hr
    obtain ⟨xs, h1, h4, h5⟩ := manyRes_ok hT h _ _ _ hm ho
    cases h4 with
    | @cons _ x _ s hx hs =>
    cases hs
    refine ⟨x, ?_, hx⟩
    rw [results_eq]
    simp [Array.mapM_eq_mapM_toList, h1]
  · rename_i hne
    simp only [Option.some.injEq, Prod.mk.injEq] at hr
    obtain ⟨rfl, rfl⟩ := hr
    obtain ⟨xs, h1, h4, h5⟩ := manyRes_ok hT h _ _ _ hm ho
    obtain ⟨g1, g2⟩ := h4.get
    have hl1 : l.length ≠ 1 := by
      intro hl
      obtain ⟨v, rfl⟩ := List.length_eq_one_iff.1 hl
      exact hne v rfl
    refine ⟨.tuple xs.toArray, ?_, ⟨xs.toArray, rfl, by simpa using g1, fun i v x hv hx => rep1_of (g2 i v x hv (by simpa using hx)) (h5 v (List.mem_of_getElem? hv))⟩⟩
    rw [results_eq]
    have hx1 : ¬ xs.length = 1 := by omega
    simp [Array.mapM_eq_mapM_toList, h1, hx1]

/-! ### A function, run -/
mutual
def hasN (n : Nat) : A → Bool
  | .p id _ _ => Nat.ble n id
  | .e id _ _ _ _ => Nat.ble n id
  | .o id _ => Nat.ble n id
  | .w id _ _ _ => Nat.ble n id
  | .a id _ _ _ _ => Nat.ble n id
  | .m id => Nat.ble n id
  | .f _ l => hasNL n l
  | .g _ l => hasNL n l
  | .t l => hasNL n l
  | _ => false
def hasNL (n : Nat) : List A → Bool
  | [] => false
  | a :: r => hasN n a || hasNL n r
end
def hasNO (n : Nat) : Ob → Bool
  | .box _ a _ => hasN n a
  | .row _ _ _ _ _ => false
  | .map _ _ es => es.any fun p => hasN n p.2
/-- Does anything that stays name what is new? -/
def stays (n : Nat) (v : A) (l : List (Nat × Ob)) : Bool := hasN n v || l.any fun p => Nat.blt p.1 n && hasNO n p.2
def pack (n : Nat) (v : A) (σ : St) (ro : List Nat) : Eff :=
  match σ.ob.toL fun j => j with
  | [] => ⟨v, [], addR σ.ob ro σ.rd, σ.nx⟩
  | l => ⟨v, bif stays n v l then l else l.filter fun p => Nat.blt p.1 n || Nat.ble σ.nx p.1, addR σ.ob ro σ.rd, σ.nx⟩
def argS : Nat → List A → List (Nat × A)
  | _, [] => []
  | k, v :: r => (k, v) :: argS (k + 1) r
def endB : Exit → Bool
  | .ret | .normal => true
  | _ => false
def runF (P : Program) (T : TT) (K : Nat → Sym) (Lo : Nat → LTab) (fu f : Nat) : Sym := fun args of nx =>
  match P.funcs[f]? with
  | some fn => match fn.body with
    | some code => if !(fn.name == "runtime.NumGoroutine") && Nat.ble args.length fn.ntmps then
        (match exec T K (Lo nx) fu fn.ntmps of code ⟨argS 0 args, .e, [], nx⟩ with
        | some (ex, σ) => if endB ex then
            (match resA T (getS σ.sl) (over σ.ob of) fn.results.toList with
            | some (v, ro) => some (pack nx v σ ro)
            | none => none) else none
        | none => none) else none
    | none => none
  | none => none
theorem getS_argS : ∀ (l : List A) (k t : Nat), getS (argS k l) t = if t < k then .x else l.getD (t - k) .x := by
  intro l
  induction l with
  | nil => intro k t; simp [argS, getS]
  | cons v r ih =>
    intro k t
    rw [argS, getS_cons, upd]
    by_cases h : t = k
    · subst h; simp
    · rw [if_neg h, ih (k + 1) t]
      by_cases hlt : t < k
      · rw [if_pos (by omega), if_pos hlt]
      · rw [if_neg (by omega), if_neg hlt, show t - k = t - (k + 1) + 1 by omega]
        simp
theorem put_filter (keep : Nat → Bool) : ∀ (l : List (Nat × Ob)) (f g : Nat → Option Ob) (id : Nat), f id = g id → put f (l.filter fun p => keep p.1) id = if keep id then put g l id else f id := by
  intro l
  induction l with
  | nil => intro f g id h; simp only [List.filter_nil, put]; split; exact h; rfl
  | cons p r ih =>
    intro f g id h
    obtain ⟨k, o⟩ := p
    by_cases hk : keep k = true
    · rw [List.filter_cons_of_pos (by exact hk)]
      simp only [put]
      by_cases hid : id = k
      · subst hid
        rw [ih _ (upd g id (some o)) id (by rw [upd_same, upd_same]), if_pos hk, if_pos hk]
      · rw [ih _ (upd g k (some o)) id (by rw [upd_ne _ _ hid, upd_ne _ _ hid]; exact h), upd_ne _ _ hid]
    · rw [List.filter_cons_of_neg (by exact hk)]
      simp only [put]
      by_cases hid : id = k
      · subst hid
        rw [ih f f id rfl, if_neg hk, if_neg hk]
      · exact ih f _ id (by rw [upd_ne _ _ hid]; exact h)
theorem OSim.sub {of2 : Nat → Option Ob} (h : OSim T c e of) (hs : ∀ id o, of2 id = some o → of id = some o) : OSim T c e of2 := by
  have hs' : ∀ id, (of2 id).isSome → (of id).isSome := fun id h => by
    obtain ⟨o, ho⟩ := Option.isSome_iff_exists.1 h
    rw [hs _ _ ho]; rfl
  exact ⟨fun id o ho => h.ok id o (hs _ _ ho), fun i j b o b' o' hi hj => h.sep i j b o b' o' (hs' _ hi) (hs' _ hj), fun i b o hi => h.own i b o (hs' _ hi), h.lt, h.slt, h.s0, h.snew, h.os, h.tape, h.output, h.size, h.block⟩
theorem pack_spec (n : Nat) (v : A) (σ : St) (ro : List Nat) : (pack n v σ ro).val = v ∧ (pack n v σ ro).ro = addR σ.ob ro σ.rd ∧ (pack n v σ ro).nx = σ.nx ∧
    ((pack n v σ ro).wo = (σ.ob.toL fun j => j) ∨ (pack n v σ ro).wo = (σ.ob.toL fun j => j).filter fun p => Nat.blt p.1 n || Nat.ble σ.nx p.1) := by
  unfold pack
  split
  · rename_i h; rw [h]; exact ⟨rfl, rfl, rfl, .inl rfl⟩
  · cases stays n v (σ.ob.toL fun j => j)
    · exact ⟨rfl, rfl, rfl, .inr rfl⟩
    · exact ⟨rfl, rfl, rfl, .inl rfl⟩
theorem runF_ok (hm : P.follows .mixedOrders = true) (hT : TOK T P) {K : Nat → Sym} (hK : ∀ f, SymOK P T f (K f)) {Lo : Nat → LTab} {fu f : Nat} (hL : ∀ n0 fn code, P.funcs[f]? = some fn → fn.body = some code → LoopsOK P T fn.ntmps n0 (Lo n0) code) : SymOK P T f (runF P T K Lo fu f) := by
  intro c e of of' args vals nx out hos hr hro hu hvals
  unfold runF at hr
  split at hr <;> try (cases hr; done)
  rename_i fn hf
  split at hr <;> try (cases hr; done)
  rename_i code hb
  split at hr <;> try (cases hr; done)
  rename_i hcc
  simp only [Bool.and_eq_true, Bool.not_eq_true'] at hcc
  obtain ⟨hn, hargs⟩ := hcc
  have hargs := Nat.le_of_ble_eq_true hargs
  split at hr <;> try (cases hr; done)
  rename_i ex σ hx
  split at hr <;> try (cases hr; done)
  rename_i hend
  split at hr <;> try (cases hr; done)
  rename_i v ro hres
  injection hr with hr
  obtain ⟨o1, o2, o3, o4⟩ := pack_spec nx v σ ro
  rw [hr] at o1 o2 o3 o4
  have hcall : (callFunc f vals).run P e.w = .ok (.enter f vals) e.w := by
    have hn' : ¬ fn.name = "runtime.NumGoroutine" := by simpa using hn
    simp [callFunc, hf, hn', hb]
  refine .inr (.inr ⟨f, vals, e.w, hcall, ?_⟩)
  refine calls_of_wp hf hb ?_
  have hlen := hvals.get.1
  rw [Array.length_toList] at hlen
  have hsim : Sim T c e of' nx fn.ntmps ⟨argS 0 args, .e, [], nx⟩ { tmps := vals ++ Array.replicate (fn.ntmps - vals.size) undef, defers := [] } e.w := by
    refine ⟨e, rfl, ?_, Env.le.refl e, fun id hid => .inl hid, fun t => ?_, rfl, by simp; omega⟩
    · have : over Tr.e of' = of' := by funext id; unfold over; rw [Tr.get_e]
      rw [this]; exact hos
    · show Rep T e (getS (argS 0 args) t) _
      rw [getS_argS, if_neg (by omega), Nat.sub_zero]
      by_cases ht : t < args.length
      · have h1 : args[t]? = some args[t] := List.getElem?_eq_getElem ht
        have h2 : vals.toList[t]? = some vals[t] := by rw [Array.getElem?_toList]; exact Array.getElem?_eq_getElem (by omega)
        have := hvals.get.2 t _ _ h1 h2
        have e1 : args.getD t .x = args[t] := by simp [List.getD, h1]
        have e2 : (vals ++ Array.replicate (fn.ntmps - vals.size) undef).getD t undef = vals[t] := by
          have : t < vals.size := by omega
          simp [Array.getD, Array.getElem_append_left this]
          omega
        rw [e1]
        show Rep T e _ ((vals ++ Array.replicate (fn.ntmps - vals.size) undef).getD t undef)
        rw [e2]; exact this
      · rw [show args.getD t .x = .x by simp [List.getD, List.getElem?_eq_none (by omega : args.length ≤ t)]]
        trivial
  obtain ⟨l1, k1⟩ := exec_ok (of := of) (n0 := nx) hm hT hK code (hL nx fn code hf hb) _ _ _ hx
  have hfit : Fits of of' e nx σ := ⟨fun id hid => hro id (by rw [o2]; exact addR_mono _ _ _ _ hid), fun id h1 h2 => hu id h1 (by rw [o3]; exact h2)⟩
  refine Code.wp_mono ?_ (k1 of' c e _ _ (Nat.le_refl _) hfit hos.ok hsim)
  rintro ex' a w ⟨rfl, e', rfl, hst⟩
  obtain ⟨x, g1, g2⟩ := resA_ok hT fn hst hres (over_agree (fun id hid => hro id hid) (by rw [o2]; exact fun _ h => h))
  have hsub : ∀ id o, put of' out.wo id = some o → over σ.ob of' id = some o := by
    intro id o ho
    rcases o4 with h4 | h4
    · rw [h4, put_toL_id] at ho; exact ho
    · rw [h4, put_filter (fun k => Nat.blt k nx || Nat.ble σ.nx k) _ of' of' id rfl] at ho
      split at ho
      · rw [put_toL_id] at ho; exact ho
      · rename_i hk
        simp only [Bool.or_eq_true, Nat.blt_eq, Nat.ble_eq, not_or, Nat.not_lt, Nat.not_le] at hk
        exact absurd (hos.ok _ _ ho).use (hfit.fr id hk.1 hk.2)
  have fin : a.defers = [] ∧ ∃ v, (results fn a.tmps).run P e'.w = .ok v e'.w ∧ ∃ x, Ending.returned v = .returned x ∧ LeftN T c e of' nx out x e'.w :=
    ⟨hst.def_, x, g1, x, rfl, e', rfl, hst.os.sub hsub, hst.le, fun id hid => by rw [o3]; exact hst.U id hid, by rw [o1]; exact g2⟩
  cases ex' with
  | ret => exact fin
  | normal => exact fin
  | _ => cases hend
/-- Functions that call each other, so deep: by what is said of them, or run. -/
def runAll (P : Program) (T : TT) (C : Nat → Option Sym) (L : Nat → Nat → LTab) (fu : Nat) : Nat → Nat → Sym
  | 0, _ => fun _ _ _ => none
  | d + 1, f => match C f with
    | some s => s
    | none => runF P T (runAll P T C L fu d) (L f) fu f
theorem runAll_ok (hm : P.follows .mixedOrders = true) (hT : TOK T P) {C : Nat → Option Sym} (hC : ∀ f s, C f = some s → SymOK P T f s) {L : Nat → Nat → LTab} (hL : ∀ f n0 fn code, P.funcs[f]? = some fn → fn.body = some code → LoopsOK P T fn.ntmps n0 (L f n0) code) {fu : Nat} : ∀ d f, SymOK P T f (runAll P T C L fu d f) := by
  intro d
  induction d with
  | zero => intro f c e of of' args vals nx out _ h; cases h
  | succ d ih =>
    intro f
    rw [runAll]
    split
    · rename_i s hs; exact hC f s hs
    · exact runF_ok hm hT (fun f => ih f) (hL f)
end Go.Vm

namespace Go.Vm
open Go.RowKit
variable {P : Program} {T : TT} {c : Ctx} {e eb : Env} {of of' : Nat → Option Ob}
set_option linter.unusedVariables false
set_option linter.constructorNameAsVariable false

/-! ### A table of types, held against the program -/
def fitsB (T : TT) : TK → TypeDesc → Bool
  | .int k, .int k' => kbeq k k'
  | .bool, .bool => true
  | .str, .string => true
  | .ptr e, .pointer e' => Nat.beq e e'
  | .slice e, .slice e' => Nat.beq e e'
  | .arr n e, .array n' e' => Nat.beq n n' && Nat.beq e e'
  | .struct fs, .struct gs => lbeq (gs.toList.map (·.type)) fs && offB T fs 0 gs.toList
  | .map k e, .map k' e' => Nat.beq k k' && Nat.beq e e'
  | .func, .func _ _ _ => true
  | .other, .struct _ => false
  | .other, .array _ _ => false
  | .other, _ => true
  | _, _ => false
where
  offB (T : TT) : List Nat → Nat → List Field → Bool
  | f :: fs, off, g :: gs => Nat.beq g.offset off && offB T fs (off + szT T f) gs
  | [], _, [] => true
  | _, _, _ => false
theorem offB_spec : ∀ (fs : List Nat) (off : Nat) (gs : List Field), fitsB.offB T fs off gs = true → ∀ (j : Nat) g, gs[j]? = some g → g.offset = off + szs T (fs.take j) := by
  intro fs
  induction fs with
  | nil =>
    intro off gs h j g hg
    cases gs with
    | nil => simp at hg
    | cons g gs => simp [fitsB.offB] at h
  | cons f fs ih =>
    intro off gs h j g hg
    cases gs with
    | nil => simp [fitsB.offB] at h
    | cons g0 gs =>
      simp only [fitsB.offB, Bool.and_eq_true] at h
      cases j with
      | zero => simp only [List.getElem?_cons_zero, Option.some.injEq] at hg; subst hg; simp [szs, Nat.eq_of_beq_eq_true h.1]
      | succ j => have := ih _ _ h.2 j g (by simpa using hg); rw [this, List.take_succ_cons, szs]; omega
theorem fitsB_spec {k : TK} {d : TypeDesc} (h : fitsB T k d = true) : k.fits T d := by
  cases k <;> cases d <;> simp only [fitsB, TK.fits] at h ⊢ <;> first | (cases h; done) | trivial | skip
  · exact kbeq_eq h
  · exact Nat.eq_of_beq_eq_true h
  · exact Nat.eq_of_beq_eq_true h
  · simp only [Bool.and_eq_true] at h; exact ⟨Nat.eq_of_beq_eq_true h.1, Nat.eq_of_beq_eq_true h.2⟩
  · simp only [Bool.and_eq_true] at h
    refine ⟨lbeq_eq h.1, fun j g hg => ?_⟩
    have := offB_spec _ _ _ h.2 j g (by simpa using hg)
    simpa using this
  · simp only [Bool.and_eq_true] at h; exact ⟨Nat.eq_of_beq_eq_true h.1, Nat.eq_of_beq_eq_true h.2⟩
  all_goals (constructor <;> intro _ <;> intros <;> first | (intro q; cases q; done) | skip)
def rvB (T : TT) : Nat → List Nat → List V → List Value → Bool
  | 0, _, _, _ => false
  | _ + 1, [], [], [] => true
  | f + 1, t :: ts, x :: xs, cs => match kOf T t, x, cs with
    | some (.int k), .i n, .int k' m :: r => kbeq k k' && ieq n m && inRb k n && Nat.beq (szT T t) 1 && rvB T f ts xs r
    | some .bool, .b q, .bool q' :: r => (q == q') && Nat.beq (szT T t) 1 && rvB T f ts xs r
    | some .str, .s l, .string s :: r => Nat.beq l.length 0 && Nat.beq s.data.toList.length 0 && Nat.beq (szT T t) 1 && rvB T f ts xs r
    | some (.ptr _), .n, .pointer none :: r => Nat.beq (szT T t) 1 && rvB T f ts xs r
    | some (.slice _), .n, .slice none 0 0 :: r => Nat.beq (szT T t) 1 && rvB T f ts xs r
    | some (.map _ _), .n, .map none :: r => Nat.beq (szT T t) 1 && rvB T f ts xs r
    | some .func, .n, .nilFunc :: r => Nat.beq (szT T t) 1 && rvB T f ts xs r
    | some (.arr n el), .l ys, cs => Nat.ble (szT T t) cs.length && rvB T f (List.replicate n el) ys (cs.take (szT T t)) && rvB T f ts xs (cs.drop (szT T t))
    | some (.struct fs), .l ys, cs => Nat.ble (szT T t) cs.length && rvB T f fs ys (cs.take (szT T t)) && rvB T f ts xs (cs.drop (szT T t))
    | _, _, _ => false
  | _ + 1, _, _, _ => false
theorem rvB_spec (e : Env) : ∀ (f : Nat) (ts : List Nat) (xs : List V) (cs : List Value), rvB T f ts xs cs = true → RV T e ts xs cs := by
  intro f
  induction f with
  | zero => intro ts xs cs h; cases h
  | succ f ih =>
    intro ts xs cs h
    cases ts with
    | nil =>
      cases xs with
      | nil => cases cs with
        | nil => exact .nil
        | cons c cs => simp [rvB] at h
      | cons x xs => cases cs <;> simp [rvB] at h
    | cons t ts =>
      cases xs with
      | nil => cases cs <;> simp [rvB] at h
      | cons x xs =>
        simp only [rvB] at h
        split at h <;> try (cases h; done)
        all_goals simp only [Bool.and_eq_true] at h
        · rename_i hk
          obtain ⟨⟨⟨⟨h1, h2⟩, h3⟩, h4⟩, h5⟩ := h
          have := kbeq_eq h1; subst this
          have := ieq_iff.1 h2; subst this
          exact .int hk (Nat.eq_of_beq_eq_true h4) (inRb_iff h3) (ih _ _ _ h5)
        · rename_i hk
          obtain ⟨⟨h1, h2⟩, h3⟩ := h
          have h1 := eq_of_beq h1
          subst h1
          exact .bool hk (Nat.eq_of_beq_eq_true h2) (ih _ _ _ h3)
        · rename_i l s r hk
          obtain ⟨⟨⟨h1, h2⟩, h3⟩, h4⟩ := h
          have e1 : l = [] := List.eq_nil_of_length_eq_zero (Nat.eq_of_beq_eq_true h1)
          have e2 : txt s = [] := by unfold txt; rw [List.eq_nil_of_length_eq_zero (Nat.eq_of_beq_eq_true h2)]; rfl
          rw [e1, ← e2]
          exact .str hk (Nat.eq_of_beq_eq_true h3) (ih _ _ _ h4)
        · rename_i hk; exact .ptr hk (Nat.eq_of_beq_eq_true h.1) (ih _ _ _ h.2)
        · rename_i hk; exact .nils hk (Nat.eq_of_beq_eq_true h.1) (ih _ _ _ h.2)
        · rename_i hk; exact .map hk (Nat.eq_of_beq_eq_true h.1) (ih _ _ _ h.2)
        · rename_i hk; exact .func hk (Nat.eq_of_beq_eq_true h.1) (ih _ _ _ h.2)
        · rename_i n el ys hk
          obtain ⟨⟨h1, h2⟩, h3⟩ := h
          have hl := Nat.le_of_ble_eq_true h1
          have := RV.arr hk (by rw [List.length_take]; omega) (ih _ _ _ h2) (ih _ _ _ h3)
          rwa [List.take_append_drop] at this
        · rename_i fs ys hk
          obtain ⟨⟨h1, h2⟩, h3⟩ := h
          have hl := Nat.le_of_ble_eq_true h1
          have := RV.struct hk (by rw [List.length_take]; omega) (ih _ _ _ h2) (ih _ _ _ h3)
          rwa [List.take_append_drop] at this
def aggB : Value → Bool
  | .agg _ => true
  | _ => false
def eqB (P : Program) (t : Nat) (d : TypeDesc) : Bool :=
  !(P.eqGuardType P.depth t) && !(P.stoodInHeld t) && (match d with | .struct gs => gs.toList.all fun f => f.name != "_" | _ => true)
def teB (P : Program) (T : TT) (t : Nat) (te : TE) : Bool :=
  match P.info? t, P.underlying t with
  | some i, some d => match i.zero with
    | some z => Nat.beq i.size te.size && Nat.beq i.bytes te.bytes && fitsB T te.k d && (rvB T 1000 [t] [te.zero] z.cells.toList || !(TK.notOther te.k)) && (te.k.agg == aggB z) && (!te.eq || eqB P t d)
    | none => false
  | _, _ => false
theorem teB_spec {t : Nat} {te : TE} (h : teB P T t te = true) : TEok P T t te := by
  unfold teB at h
  split at h <;> try (cases h; done)
  rename_i i d h1 h2
  split at h <;> try (cases h; done)
  rename_i z h3
  simp only [Bool.and_eq_true] at h
  obtain ⟨⟨⟨⟨⟨a1, a2⟩, a3⟩, a4⟩, a5⟩, a6⟩ := h
  refine ⟨⟨i, d, z, h1, h2, Nat.eq_of_beq_eq_true a1, Nat.eq_of_beq_eq_true a2, fitsB_spec a3, h3, ?_, ?_⟩, fun he => ?_⟩
  · rw [Bool.or_eq_true] at a4
    rcases a4 with a4 | a4
    · exact .inl fun e => rvB_spec e _ _ _ _ a4
    · right; cases hk : te.k <;> rw [hk] at a4 <;> first | rfl | (cases a4; done)
  · have a5' : te.k.agg = aggB z := by simpa using a5
    rw [a5']
    cases z <;> simp [aggB]
  · rw [he] at a6
    simp only [Bool.not_true, Bool.false_or, eqB, Bool.and_eq_true, Bool.not_eq_true'] at a6
    obtain ⟨⟨b1, b2⟩, b3⟩ := a6
    refine ⟨b1, b2, fun gs hg f hf => ?_⟩
    rw [h2] at hg
    injection hg with hg; subst hg
    simpa using List.all_eq_true.1 b3 f hf
def ttOf : List (Nat × TE) → TT
  | [], _ => none
  | (k, v) :: r, t => bif Nat.beq k t then some v else ttOf r t
theorem ttOf_mem : ∀ (l : List (Nat × TE)) (t : Nat) (te : TE), ttOf l t = some te → (t, te) ∈ l := by
  intro l
  induction l with
  | nil => intro t te h; cases h
  | cons p r ih =>
    intro t te h
    obtain ⟨k, v⟩ := p
    simp only [ttOf] at h
    cases hk : Nat.beq k t with
    | true => rw [hk] at h; have := Nat.eq_of_beq_eq_true hk; subst this; injection h with h; subst h; simp
    | false => rw [hk] at h; exact List.mem_cons_of_mem _ (ih _ _ h)
theorem tok {l : List (Nat × TE)} (h : (l.all fun p => teB P (ttOf l) p.1 p.2) = true) : TOK (ttOf l) P := fun t te ht => teB_spec (List.all_eq_true.1 h (t, te) (ttOf_mem l t te ht))

/-! ### From a run to what the machine does -/
def base (w : World) : Env := { w := w, ι := fun _ => none, S := fun b _ => b < w.heap.size, bn := fun _ => 0, U := fun _ => False, ty := fun _ => 0, ln := fun _ => 0 }
def baseC (w : World) : Ctx := { w0 := w, M := fun _ => False, S0 := fun b _ => b < w.heap.size }
theorem base_sim (w : World) : OSim T (baseC w) (base w) (fun _ => none) :=
  ⟨fun _ _ h => (by cases h), fun _ _ _ _ _ _ h => (by cases h), fun _ _ _ h => (by cases h), fun _ _ _ h => False.elim h, fun _ _ h => h, fun _ _ h => h, fun _ _ h => .inl h, rfl, rfl, rfl, Nat.le_refl _, fun _ _ _ => rfl⟩
/-- Nothing that was there has turned. -/
def Still (w w' : World) : Prop := w'.os = w.os ∧ w'.output = w.output ∧ w.heap.size ≤ w'.heap.size ∧ ∀ i, i < w.heap.size → w'.heap[i]? = w.heap[i]?
theorem Still.kept {w w' : World} (h : Still w w') (may : MemPlace → Prop) : w.keptBut w' may := by
  refine ⟨h.1, h.2.1, fun i hi => ?_⟩
  rw [h.2.2.2 i hi]
  cases hw : w.heap[i]? with
  | none => rfl
  | some o =>
    cases o with
    | cells c t fr => exact ⟨rfl, rfl, rfl, fun _ _ => rfl⟩
    | map es clock => exact .inr ⟨rfl, rfl⟩
    | _ => rfl
def ansB (b : Bool) (o : Option Eff) : Bool :=
  match o with
  | some f => match f.val with
    | .b q => q == b
    | _ => false
  | none => false
theorem calls_of_sym {f : FuncId} {fn : Func} {code : Code} {args : List A} {b : Bool} {s : Sym} (hf : P.funcs[f]? = some fn) (hb : fn.body = some code) (hn : (fn.name == "runtime.NumGoroutine") = false)
    (h : SymOK P T f s) (ha : ansB b (s args (fun _ => none) 0) = true) {w : World} {vals : Array Value} (hv : Reps T (base w) args vals.toList) : Calls P f vals w fun en w' => en = .returned (.bool b) ∧ Still w w' := by
  have hcall : (callFunc f vals).run P w = .ok (.enter f vals) w := by
    have hn' : ¬ fn.name = "runtime.NumGoroutine" := by simpa using hn
    simp [callFunc, hf, hn', hb]
  unfold ansB at ha
  split at ha <;> try (cases ha; done)
  rename_i out hout
  split at ha <;> try (cases ha; done)
  rename_i q hval
  have hq : q = b := by simpa using ha
  subst hq
  have := h (baseC w) (base w) (fun _ => none) (fun _ => none) args vals 0 _ (base_sim w) hout (fun _ _ => rfl) (fun _ _ _ h => h) hv
  unfold Does at this
  rcases this with ⟨x, w', g1, g2⟩ | ⟨w', g1, g2⟩ | ⟨f', args', w1, g1, g2⟩
  · rw [show (base w).w = w from rfl, hcall] at g1; cases g1
  · rw [show (base w).w = w from rfl, hcall] at g1; cases g1
  · rw [show (base w).w = w from rfl, hcall] at g1
    cases g1
    refine g2.mono fun en w' ⟨x, h1, e', h2, h3, h4, h5, h6⟩ => ?_
    subst h2
    rw [hval] at h6
    have hx := rep_b_inv h6
    subst hx
    exact ⟨h1, h3.os, h3.output, h3.size, fun i hi => h3.block i hi (fun h => h)⟩
end Go.Vm

namespace Go.Vm
open Go.RowKit
variable {P : Program} {T : TT} {c : Ctx} {e eb : Env} {of of' : Nat → Option Ob}
set_option linter.unusedVariables false
set_option linter.constructorNameAsVariable false

/-! ### Functions of the machine -/
theorem sym_value {f : FuncId} {s : Sym} (h : ∀ (e : Env) (args : List A) (of : Nat → Option Ob) (nx : Nat) (out : Eff) (vals : List Value), s args of nx = some out → Reps T e args vals → ∃ v, out = .pv nx v [] ∧ ∀ w, ∃ x, (callFunc f vals.toArray).run P w = .ok (.value x) w ∧ Rep T e v x) : SymOK P T f s := by
  intro c e of of' as vals nx out hos hs hro hu hvals
  obtain ⟨v, rfl, hx⟩ := h e _ _ _ _ _ hs hvals
  obtain ⟨x, hx, hr⟩ := hx e.w
  exact does_pv (.inl ⟨x, e.w, by simpa using hx, left_same hos hr⟩)
def sub64Entry : Array Value → Sem Value := fun args => do
  let (x, y, b) ← Extern.MathBitsCarry.three "Sub64" args
  pure (Extern.MathBitsCarry.pair ((x + Extern.MathBitsCarry.m64 - y - b) % Extern.MathBitsCarry.m64) (if x < y + b then 1 else 0))
theorem run_sub64 (x y b : Nat) (hb : b ≤ 1) (w : World) :
    (sub64Entry #[.int .u64 x, .int .u64 y, .int .u64 b]).run P w =
      .ok (.tuple #[.int .u64 (((x + 18446744073709551616 - y - b) % 18446744073709551616 : Nat) : Int), .int .u64 ((if x < y + b then 1 else 0 : Nat) : Int)]) w := by
  have : b = 0 ∨ b = 1 := by omega
  rcases this with rfl | rfl <;> rfl
def carry64 : Sym := fun args of nx =>
  match args with
  | [.i .u64 x, .i .u64 y, .i .u64 c] => if ile 0 c && ile c 1 then some (.pv nx (.t [.i .u64 ((x + y + c) % 18446744073709551616), .i .u64 ((x + y + c) / 18446744073709551616)]) []) else none
  | _ => none
def borrow64 : Sym := fun args of nx =>
  match args with
  | [.i .u64 x, .i .u64 y, .i .u64 c] => if ile 0 c && ile c 1 then some (.pv nx (.t [.i .u64 ((x - y - c) % 18446744073709551616), .i .u64 (bif ilt x (y + c) then 1 else 0)]) []) else none
  | _ => none
theorem reps3 {a b d : A} {vals : List Value} (h : Reps T e [a, b, d] vals) : ∃ x y z, vals = [x, y, z] ∧ Rep T e a x ∧ Rep T e b y ∧ Rep T e d z := by
  cases h with | cons h1 h => cases h with | cons h2 h => cases h with | cons h3 h =>
  cases h
  exact ⟨_, _, _, rfl, h1, h2, h3⟩
theorem rep_t2 {a b : A} {x y : Value} (ha : Rep1 T e a x) (hb : Rep1 T e b y) : Rep T e (.t [a, b]) (.tuple #[x, y]) := by
  refine ⟨#[x, y], rfl, rfl, fun i v z hv hz => ?_⟩
  match i, hv, hz with
  | 0, hv, hz => simp at hv hz; subst hv; subst hz; exact ha
  | 1, hv, hz => simp at hv hz; subst hv; subst hz; exact hb
  | i + 2, hv, hz => simp at hv
theorem carry64_ok {f : FuncId} {fn : Func} (hf : P.funcs[f]? = some fn) (hname : (fn.name == "runtime.NumGoroutine") = false) (hb : fn.body.isNone = true) (hn : Extern.findNext fn = none) (he : Extern.find fn = some add64Entry) : SymOK P T f carry64 := by
  refine sym_value fun e args of nx out vals hs hv => ?_
  unfold carry64 at hs
  split at hs <;> try (cases hs; done)
  rename_i x y c
  split at hs <;> try (cases hs; done)
  rename_i hc
  simp only [Bool.and_eq_true, ile_iff] at hc
  injection hs with hs; subst hs
  obtain ⟨a, b, d, rfl, h1, h2, h3⟩ := reps3 hv
  have r1 := rep_i_rng h1
  have r2 := rep_i_rng h2
  simp only [inR, lo, hi] at r1 r2
  rw [rep_i_inv h1, rep_i_inv h2, rep_i_inv h3]
  refine ⟨_, rfl, fun w => ⟨_, ?_, rep_t2 (rep_i ?_) (rep_i ?_)⟩⟩
  · rw [run_callFunc_extern hf hname hb hn he]
    rw [run_add64 x y c r1.1 r2.1 hc.1 hc.2]
    rfl
  · constructor <;> simp only [lo, hi] <;> omega
  · constructor <;> simp only [lo, hi] <;> omega
theorem borrow64_ok {f : FuncId} {fn : Func} (hf : P.funcs[f]? = some fn) (hname : (fn.name == "runtime.NumGoroutine") = false) (hb : fn.body.isNone = true) (hn : Extern.findNext fn = none) (he : Extern.find fn = some sub64Entry) : SymOK P T f borrow64 := by
  refine sym_value fun e args of nx out vals hs hv => ?_
  unfold borrow64 at hs
  split at hs <;> try (cases hs; done)
  rename_i x y c
  split at hs <;> try (cases hs; done)
  rename_i hc
  simp only [Bool.and_eq_true, ile_iff] at hc
  injection hs with hs; subst hs
  obtain ⟨a, b, d, rfl, h1, h2, h3⟩ := reps3 hv
  have r1 := rep_i_rng h1
  have r2 := rep_i_rng h2
  simp only [inR, lo, hi] at r1 r2
  rw [rep_i_inv h1, rep_i_inv h2, rep_i_inv h3]
  have e2 : (bif ilt x (y + c) then (1 : Int) else 0) = if x < y + c then 1 else 0 := by
    by_cases hlt : x < y + c
    · rw [ilt_iff.2 hlt, if_pos hlt]; rfl
    · have : ilt x (y + c) = false := by rw [← Bool.not_eq_true, ilt_iff]; exact hlt
      rw [this, if_neg hlt]; rfl
  refine ⟨_, rfl, fun w => ?_⟩
  obtain ⟨x, rfl⟩ := Int.eq_ofNat_of_zero_le r1.1
  obtain ⟨y, rfl⟩ := Int.eq_ofNat_of_zero_le r2.1
  obtain ⟨c, rfl⟩ := Int.eq_ofNat_of_zero_le hc.1
  have e1 : (((x + 18446744073709551616 - y - c) % 18446744073709551616 : Nat) : Int) = ((x : Int) - y - c) % 18446744073709551616 := by omega
  have e3 : (((if x < y + c then 1 else 0 : Nat)) : Int) = if (x : Int) < y + c then 1 else 0 := by
    by_cases hlt : x < y + c
    · rw [if_pos hlt, if_pos (by omega)]; rfl
    · rw [if_neg hlt, if_neg (by omega)]; rfl
  refine ⟨_, ?_, rep_t2 (rep_i (n := ((x : Int) - y - c) % 18446744073709551616) ?_) (rep_i (n := bif ilt (x : Int) (y + c) then (1 : Int) else 0) ?_)⟩
  · rw [run_callFunc_extern hf hname hb hn he]
    rw [run_sub64 x y c (by omega), e2, e1, e3]
    rfl
  · constructor <;> simp only [lo, hi] <;> omega
  · rw [e2]; split <;> constructor <;> simp [lo, hi]
end Go.Vm

namespace Go.Vm
open Go.RowKit
variable {P : Program} {T : TT} {c : Ctx} {e eb : Env} {of of' : Nat → Option Ob}
set_option linter.unusedVariables false
set_option linter.constructorNameAsVariable false

/-- Data hold where what must not be written is the same. -/
theorem RV.change {e e' : Env} (hf : ∀ a ds, Fz e a ds → Fz e' a ds) {ts : List Nat} {xs : List V} {cs : List Value} (h : RV T e ts xs cs) : RV T e' ts xs cs := by
  induction h with
  | nil => exact .nil
  | int h1 h2 hr _ ih => exact .int h1 h2 hr ih
  | bool h1 h2 _ ih => exact .bool h1 h2 ih
  | str h1 h2 _ ih => exact .str h1 h2 ih
  | ptr h1 h2 _ ih => exact .ptr h1 h2 ih
  | nils h1 h2 _ ih => exact .nils h1 h2 ih
  | map h1 h2 _ ih => exact .map h1 h2 ih
  | func h1 h2 _ ih => exact .func h1 h2 ih
  | fn h1 h2 _ ih => exact .fn h1 h2 ih
  | slice h1 h2 h3 h4 h5 _ _ ih1 ih => exact .slice h1 h2 h3 h4 (hf _ _ h5) ih1 ih
  | arr h1 h2 _ _ ih1 ih => exact .arr h1 h2 ih1 ih
  | struct h1 h2 _ _ ih1 ih => exact .struct h1 h2 ih1 ih

/-! ### What a value names -/
mutual
def refA : A → List Nat
  | .p id _ _ => [id]
  | .e id _ _ _ _ => [id]
  | .o id _ => [id]
  | .w id _ _ _ => [id]
  | .a id _ _ _ _ => [id]
  | .m id => [id]
  | .f _ l => refL l
  | .g _ l => refL l
  | .t l => refL l
  | _ => []
def refL : List A → List Nat
  | [] => []
  | a :: r => refA a ++ refL r
end
def refE : List (V × A) → List Nat
  | [] => []
  | p :: r => refA p.2 ++ refE r
def refO : Ob → List Nat
  | .box _ a _ => refA a
  | .row _ _ _ _ _ => []
  | .map _ _ es => refE es
theorem R1.use {a : A} {v : Value} (h : R1 T e a v) : ∀ id ∈ refA a, e.U id := by
  cases a <;> simp only [refA, List.mem_singleton] <;> intro id hid
  case p => subst hid; obtain ⟨b, off, h1, _⟩ := h; exact h1
  case e => subst hid; exact h.2.1
  case o => subst hid; exact h.2.1
  case w => subst hid; exact h.2.1
  case a => subst hid; obtain ⟨b, off, n, el, k, cap, h1, _⟩ := h; exact h1
  case m => subst hid; obtain ⟨b, h1, _⟩ := h; exact h1
  case f => exact h.elim
  case g => exact h.elim
  case t => exact h.elim
  all_goals cases hid
theorem RA.use {l : List A} {cs : List Value} (h : RA T e l cs) : ∀ id ∈ refL l, e.U id := by
  induction h with
  | nil => intro id h; cases h
  | f _ _ ih1 ih => intro id h; simp only [refL, refA, List.mem_append] at h; exact h.elim (ih1 id) (ih id)
  | g _ _ _ _ _ ih1 ih => intro id h; simp only [refL, refA, List.mem_append] at h; exact h.elim (ih1 id) (ih id)
  | r h1 _ _ ih => intro id h; simp only [refL, List.mem_append] at h; exact h.elim (h1.use id) (ih id)
  | _ => rename_i ih; intro id h; simp only [refL, refA, List.nil_append] at h; exact ih id h

/-! ### The same, told anew: what is not named any more is forgotten, rows that are new begin again -/
def isNew (n0 nx id : Nat) : Bool := Nat.ble n0 id && Nat.blt id nx
/-- The version of a row that is new. -/
def newV (ob : Tr) (n0 nx id : Nat) : Option Nat :=
  bif isNew n0 nx id then (match ob.get id with
    | some (.row _ v _ _ _) => some v
    | _ => none) else none
def fixR (ob : Tr) (n0 nx id ver : Nat) (k : Nat → A) : A :=
  match newV ob n0 nx id with
  | some v => bif Nat.beq v ver then k 1 else .x
  | none => k ver
mutual
def fixA (ob : Tr) (n0 nx : Nat) : A → A
  | .e id ver i t path => fixR ob n0 nx id ver fun v => .e id v i t path
  | .o id ver => fixR ob n0 nx id ver fun v => .o id v
  | .w id ver off n => fixR ob n0 nx id ver fun v => .w id v off n
  | .f fn l => .f fn (fixL ob n0 nx l)
  | .g t l => .g t (fixL ob n0 nx l)
  | .t l => .t (fixL ob n0 nx l)
  | a => a
def fixL (ob : Tr) (n0 nx : Nat) : List A → List A
  | [] => []
  | a :: r => fixA ob n0 nx a :: fixL ob n0 nx r
end
def fixO (ob : Tr) (n0 nx id : Nat) : Ob → Ob
  | .box t a sh => .box t (fixA ob n0 nx a) sh
  | .row el ver xs nl sh => .row el (bif isNew n0 nx id then 1 else ver) xs nl sh
  | .map kt et es => .map kt et es
def fixS (ob : Tr) (n0 nx : Nat) : List (Nat × A) → List (Nat × A)
  | [] => []
  | p :: r => (p.1, fixA ob n0 nx p.2) :: fixS ob n0 nx r
/-- The environment that it is told of. -/
def Env.anew (e : Env) (ob : Tr) (n0 nx : Nat) (keep : List Nat) : Env :=
  { e with U := fun j => e.U j ∧ (isNew n0 nx j = true → j ∈ keep), bn := fun j => match newV ob n0 nx j with
    | some _ => 1
    | none => e.bn j }
structure Anew (T : TT) (c : Ctx) (e eb : Env) (of' : Nat → Option Ob) (ob : Tr) (n0 nx : Nat) : Prop where
  os : OSim T c e (over ob of')
  new : ∀ id, isNew n0 nx id = true → ¬ eb.U id
theorem newV_row {ob : Tr} {n0 nx id v : Nat} (h : newV ob n0 nx id = some v) : isNew n0 nx id = true ∧ ∃ el xs nl sh, ob.get id = some (.row el v xs nl sh) := by
  unfold newV at h
  cases hn : isNew n0 nx id with
  | false => rw [hn] at h; cases h
  | true =>
    rw [hn] at h
    simp only [cond_true] at h
    split at h
    · rename_i el v' xs nl sh hg
      injection h with h; subst h
      exact ⟨rfl, el, xs, nl, sh, hg⟩
    · cases h
theorem Anew.ver {ob : Tr} {n0 nx : Nat} (h : Anew T c e eb of' ob n0 nx) {id v : Nat} (hv : newV ob n0 nx id = some v) : e.bn id = v ∧ 0 < v := by
  obtain ⟨_, el, xs, nl, sh, hg⟩ := newV_row hv
  have := h.os.ok id (.row el v xs nl sh) (by unfold over; rw [hg])
  exact ⟨this.2.2.1, this.2.1⟩
theorem fz_anew {ob : Tr} {n0 nx : Nat} {keep : List Nat} {a : Addr} {ds : List Value} (h : Fz e a ds) : Fz (e.anew ob n0 nx keep) a ds := h
theorem bn_none {ob : Tr} {n0 nx j : Nat} {keep : List Nat} (h : newV ob n0 nx j = none) : (e.anew ob n0 nx keep).bn j = e.bn j := by
  show (match newV ob n0 nx j with | some _ => 1 | none => e.bn j) = e.bn j
  rw [h]
theorem bn_some {ob : Tr} {n0 nx j v : Nat} {keep : List Nat} (h : newV ob n0 nx j = some v) : (e.anew ob n0 nx keep).bn j = 1 := by
  show (match newV ob n0 nx j with | some _ => 1 | none => e.bn j) = 1
  rw [h]
theorem Anew.box0 {ob : Tr} {n0 nx j : Nat} {keep : List Nat} (h : Anew T c e eb of' ob n0 nx) (h0 : e.bn j = 0) : (e.anew ob n0 nx keep).bn j = 0 := by
  cases hv : newV ob n0 nx j with
  | none => rw [bn_none hv]; exact h0
  | some v => have := h.ver hv; omega
theorem fixR_ref {ob : Tr} {n0 nx id ver : Nat} {k : Nat → A} (hk : ∀ v, refA (k v) = [id]) : fixR ob n0 nx id ver k = .x ∨ refA (fixR ob n0 nx id ver k) = [id] := by
  unfold fixR
  split
  · rename_i v _; cases Nat.beq v ver
    · exact .inl rfl
    · exact .inr (hk _)
  · exact .inr (hk _)
theorem R1.fix {ob : Tr} {n0 nx : Nat} {keep : List Nat} (hA : Anew T c e eb of' ob n0 nx) {a : A} {v : Value} (h : R1 T e a v) (ho : one v = true) (hk : ∀ id ∈ refA (fixA ob n0 nx a), isNew n0 nx id = true → id ∈ keep) : R1 T (e.anew ob n0 nx keep) (fixA ob n0 nx a) v := by
  cases a with
  | x => exact h
  | p id t path =>
    obtain ⟨b, off, h1, h2, h3, h4, h5⟩ := h
    exact ⟨b, off, ⟨h1, hk id (by simp [fixA, refA])⟩, hA.box0 h2, h3, h4, h5⟩
  | a id t path lo m =>
    obtain ⟨b, off, n, el, k, cap, h1, h2, h3⟩ := h
    exact ⟨b, off, n, el, k, cap, ⟨h1, hk id (by simp [fixA, refA])⟩, hA.box0 h2, h3⟩
  | m id =>
    obtain ⟨b, h1, h2, h3⟩ := h
    exact ⟨b, ⟨h1, hk id (by simp [fixA, refA])⟩, hA.box0 h2, h3⟩
  | e id ver i t path =>
    obtain ⟨h0, h1, h2, h3, h4⟩ := h
    simp only [fixA] at hk ⊢
    unfold fixR at hk ⊢
    cases hv : newV ob n0 nx id with
    | none =>
      rw [hv] at hk
      exact ⟨h0, ⟨h1, hk id (by simp [refA])⟩, by rw [bn_none hv]; exact h2, h3, fun hb => h4 (by rw [bn_none hv] at hb; exact hb)⟩
    | some v' =>
      rw [hv] at hk
      simp only at hk ⊢
      cases hq : Nat.beq v' ver with
      | false => exact ho
      | true =>
        rw [hq] at hk
        have := Nat.eq_of_beq_eq_true hq; subst this
        exact ⟨h0, ⟨h1, hk id (by simp [refA])⟩, by rw [bn_some hv]; exact Nat.le_refl _, by omega, fun _ => h4 (hA.ver hv).1⟩
  | o id ver =>
    obtain ⟨h0, h1, h2, h3, h4⟩ := h
    simp only [fixA] at hk ⊢
    unfold fixR at hk ⊢
    cases hv : newV ob n0 nx id with
    | none =>
      rw [hv] at hk
      exact ⟨h0, ⟨h1, hk id (by simp [refA])⟩, by rw [bn_none hv]; exact h2, h3, fun hb => h4 (by rw [bn_none hv] at hb; exact hb)⟩
    | some v' =>
      rw [hv] at hk
      simp only at hk ⊢
      cases hq : Nat.beq v' ver with
      | false => exact ho
      | true =>
        rw [hq] at hk
        have := Nat.eq_of_beq_eq_true hq; subst this
        exact ⟨h0, ⟨h1, hk id (by simp [refA])⟩, by rw [bn_some hv]; exact Nat.le_refl _, by omega, fun _ => h4 (hA.ver hv).1⟩
  | w id ver off n =>
    obtain ⟨h0, h1, h2, h3, h4⟩ := h
    simp only [fixA] at hk ⊢
    unfold fixR at hk ⊢
    cases hv : newV ob n0 nx id with
    | none =>
      rw [hv] at hk
      exact ⟨h0, ⟨h1, hk id (by simp [refA])⟩, by rw [bn_none hv]; exact h2, h3, fun hb => h4 (by rw [bn_none hv] at hb; exact hb)⟩
    | some v' =>
      rw [hv] at hk
      simp only at hk ⊢
      cases hq : Nat.beq v' ver with
      | false => exact ho
      | true =>
        rw [hq] at hk
        have := Nat.eq_of_beq_eq_true hq; subst this
        exact ⟨h0, ⟨h1, hk id (by simp [refA])⟩, by rw [bn_some hv]; exact Nat.le_refl _, by omega, fun _ => h4 (hA.ver hv).1⟩
  | _ => exact h.elim
theorem fitA_x {ob : Tr} {n0 nx t : Nat} : ∀ {a : A}, fitA T t a = true → fitA T t (fixA ob n0 nx a) = true := by
  have r : ∀ {id ver : Nat} {k : Nat → A}, (∀ v, fitA T t (k v) = scal T t) → fitA T t (k ver) = true → fitA T t (fixR ob n0 nx id ver k) = true := by
    intro id ver k hk h
    rw [hk] at h
    unfold fixR
    split
    · rename_i v _; cases Nat.beq v ver
      · exact h
      · exact (hk _).trans h
    · exact (hk _).trans h
  intro a h
  cases a with
  | e id ver i t path => exact r (k := fun v => .e id v i t path) (fun _ => rfl) h
  | o id ver => exact r (k := fun v => .o id v) (fun _ => rfl) h
  | w id ver off n => exact r (k := fun v => .w id v off n) (fun _ => rfl) h
  | f fn l => exact h
  | g t' l => exact h
  | t l => cases h
  | _ => exact h
theorem fitL_x {ob : Tr} {n0 nx : Nat} : ∀ {ts : List Nat} {l : List A}, fitL T ts l = true → fitL T ts (fixL ob n0 nx l) = true := by
  intro ts
  induction ts with
  | nil => intro l h; cases l with
    | nil => rfl
    | cons a l => cases h
  | cons t ts ih => intro l h; cases l with
    | nil => cases h
    | cons a l =>
      simp only [fitL, Bool.and_eq_true] at h
      simp only [fixL, fitL, Bool.and_eq_true]
      exact ⟨fitA_x h.1, ih h.2⟩
theorem RV.anew {ob : Tr} {n0 nx : Nat} {keep : List Nat} {ts : List Nat} {xs : List V} {cs : List Value} (h : RV T e ts xs cs) : RV T (e.anew ob n0 nx keep) ts xs cs := RV.change (e := e) (e' := e.anew ob n0 nx keep) (fun a ds q => fz_anew q) h
theorem RA.fix {ob : Tr} {n0 nx : Nat} {keep : List Nat} (hA : Anew T c e eb of' ob n0 nx) {l : List A} {cs : List Value} (h : RA T e l cs) : (∀ id ∈ refL (fixL ob n0 nx l), isNew n0 nx id = true → id ∈ keep) → RA T (e.anew ob n0 nx keep) (fixL ob n0 nx l) cs := by
  induction h with
  | nil => intro _; exact .nil
  | i hr _ ih => intro hk; exact .i hr (ih (fun id hid => hk id (by simp only [fixL, refL, List.mem_append]; exact .inr hid)))
  | b _ ih => intro hk; exact .b (ih (fun id hid => hk id (by simp only [fixL, refL, List.mem_append]; exact .inr hid)))
  | s _ ih => intro hk; exact .s (ih (fun id hid => hk id (by simp only [fixL, refL, List.mem_append]; exact .inr hid)))
  | z h1 _ ih => intro hk; exact .z h1 (ih (fun id hid => hk id (by simp only [fixL, refL, List.mem_append]; exact .inr hid)))
  | v h1 _ ih => intro hk; exact .v h1.anew (ih (fun id hid => hk id (by simp only [fixL, refL, List.mem_append]; exact .inr hid)))
  | c h1 h2 _ ih => intro hk; exact .c h1.anew h2 (ih (fun id hid => hk id (by simp only [fixL, refL, List.mem_append]; exact .inr hid)))
  | q h1 _ ih => intro hk; exact .q h1.anew (ih (fun id hid => hk id (by simp only [fixL, refL, List.mem_append]; exact .inr hid)))
  | f _ _ ih1 ih =>
    intro hk
    exact .f (ih1 (fun id hid => hk id (by simp only [fixL, fixA, refL, refA, List.mem_append]; exact .inl hid))) (ih (fun id hid => hk id (by simp only [fixL, refL, List.mem_append]; exact .inr hid)))
  | g h1 h2 h3 _ _ ih1 ih =>
    intro hk
    exact .g h1 (fitL_x h2) h3 (ih1 (fun id hid => hk id (by simp only [fixL, fixA, refL, refA, List.mem_append]; exact .inl hid))) (ih (fun id hid => hk id (by simp only [fixL, refL, List.mem_append]; exact .inr hid)))
  | r h1 h2 _ ih =>
    intro hk
    exact .r (h1.fix hA h2 (fun id hid => hk id (by simp only [fixL, refL, List.mem_append]; exact .inl hid))) h2 (ih (fun id hid => hk id (by simp only [fixL, refL, List.mem_append]; exact .inr hid)))
/-- What was there ahead of all names nothing that is new. -/
theorem fixR_old {ob : Tr} {n0 nx id ver : Nat} {k : Nat → A} (h : isNew n0 nx id = false) : fixR ob n0 nx id ver k = k ver := by
  unfold fixR newV
  rw [h]; rfl
theorem newV_old {ob : Tr} {n0 nx id : Nat} (h : isNew n0 nx id = false) : newV ob n0 nx id = none := by unfold newV; rw [h]; rfl
theorem R1.old {ob : Tr} {n0 nx : Nat} {keep : List Nat} (hA : Anew T c e eb of' ob n0 nx) {a : A} {v : Value} (h : R1 T e a v) (hn : ∀ id ∈ refA a, isNew n0 nx id = false) : R1 T (e.anew ob n0 nx keep) a v := by
  have nk : ∀ {id : Nat}, isNew n0 nx id = false → (isNew n0 nx id = true → id ∈ keep) := fun hf ht => by rw [hf] at ht; cases ht
  cases a with
  | x => exact h
  | p id t path =>
    obtain ⟨b, off, h1, h2, h3, h4, h5⟩ := h
    exact ⟨b, off, ⟨h1, nk (hn id (by simp [refA]))⟩, hA.box0 h2, h3, h4, h5⟩
  | a id t path lo m =>
    obtain ⟨b, off, n, el, k, cap, h1, h2, h3⟩ := h
    exact ⟨b, off, n, el, k, cap, ⟨h1, nk (hn id (by simp [refA]))⟩, hA.box0 h2, h3⟩
  | m id =>
    obtain ⟨b, h1, h2, h3⟩ := h
    exact ⟨b, ⟨h1, nk (hn id (by simp [refA]))⟩, hA.box0 h2, h3⟩
  | e id ver i t path =>
    obtain ⟨h0, h1, h2, h3, h4⟩ := h
    have hv := newV_old (ob := ob) (hn id (by simp [refA]))
    exact ⟨h0, ⟨h1, nk (hn id (by simp [refA]))⟩, by rw [bn_none hv]; exact h2, h3, fun hb => h4 (by rw [bn_none hv] at hb; exact hb)⟩
  | o id ver =>
    obtain ⟨h0, h1, h2, h3, h4⟩ := h
    have hv := newV_old (ob := ob) (hn id (by simp [refA]))
    exact ⟨h0, ⟨h1, nk (hn id (by simp [refA]))⟩, by rw [bn_none hv]; exact h2, h3, fun hb => h4 (by rw [bn_none hv] at hb; exact hb)⟩
  | w id ver off n =>
    obtain ⟨h0, h1, h2, h3, h4⟩ := h
    have hv := newV_old (ob := ob) (hn id (by simp [refA]))
    exact ⟨h0, ⟨h1, nk (hn id (by simp [refA]))⟩, by rw [bn_none hv]; exact h2, h3, fun hb => h4 (by rw [bn_none hv] at hb; exact hb)⟩
  | _ => exact h.elim
theorem RA.old {ob : Tr} {n0 nx : Nat} {keep : List Nat} (hA : Anew T c e eb of' ob n0 nx) {l : List A} {cs : List Value} (h : RA T e l cs) : (∀ id ∈ refL l, isNew n0 nx id = false) → RA T (e.anew ob n0 nx keep) l cs := by
  induction h with
  | nil => intro _; exact .nil
  | i hr _ ih => intro hk; exact .i hr (ih (fun id hid => hk id (by simp only [refL, List.mem_append]; exact .inr hid)))
  | b _ ih => intro hk; exact .b (ih (fun id hid => hk id (by simp only [refL, List.mem_append]; exact .inr hid)))
  | s _ ih => intro hk; exact .s (ih (fun id hid => hk id (by simp only [refL, List.mem_append]; exact .inr hid)))
  | z h1 _ ih => intro hk; exact .z h1 (ih (fun id hid => hk id (by simp only [refL, List.mem_append]; exact .inr hid)))
  | v h1 _ ih => intro hk; exact .v h1.anew (ih (fun id hid => hk id (by simp only [refL, List.mem_append]; exact .inr hid)))
  | c h1 h2 _ ih => intro hk; exact .c h1.anew h2 (ih (fun id hid => hk id (by simp only [refL, List.mem_append]; exact .inr hid)))
  | q h1 _ ih => intro hk; exact .q h1.anew (ih (fun id hid => hk id (by simp only [refL, List.mem_append]; exact .inr hid)))
  | f _ _ ih1 ih =>
    intro hk
    exact .f (ih1 (fun id hid => hk id (by simp only [refL, refA, List.mem_append]; exact .inl hid))) (ih (fun id hid => hk id (by simp only [refL, List.mem_append]; exact .inr hid)))
  | g h1 h2 h3 _ _ ih1 ih =>
    intro hk
    exact .g h1 h2 h3 (ih1 (fun id hid => hk id (by simp only [refL, refA, List.mem_append]; exact .inl hid))) (ih (fun id hid => hk id (by simp only [refL, List.mem_append]; exact .inr hid)))
  | r h1 h2 _ ih =>
    intro hk
    exact .r (h1.old hA (fun id hid => hk id (by simp only [refL, List.mem_append]; exact .inl hid))) h2 (ih (fun id hid => hk id (by simp only [refL, List.mem_append]; exact .inr hid)))
theorem Rep1.use {a : A} {v : Value} (h : Rep1 T e a v) : ∀ id ∈ refA a, e.U id := by
  have one : ∀ {a : A} {cs : List Value}, RA T e [a] cs → ∀ id ∈ refA a, e.U id := fun g id hid => g.use id (by simp only [refL, List.append_nil]; exact hid)
  cases a with
  | x => intro id h; cases h
  | t l => exact h.elim
  | v t y => intro id h; cases h
  | g t l => exact one h.1
  | _ => exact one h
theorem Rep1.old {ob : Tr} {n0 nx : Nat} {keep : List Nat} (hA : Anew T c e eb of' ob n0 nx) {a : A} {v : Value} (h : Rep1 T e a v) (hn : ∀ id ∈ refA a, isNew n0 nx id = false) : Rep1 T (e.anew ob n0 nx keep) a v := by
  have one : ∀ {a : A} {cs : List Value}, RA T e [a] cs → (∀ id ∈ refA a, isNew n0 nx id = false) → RA T (e.anew ob n0 nx keep) [a] cs := fun g hk => g.old hA (fun id hid => hk id (by simpa [refL] using hid))
  cases a with
  | x => trivial
  | t l => exact h.elim
  | v t y => exact ⟨h.1.anew, h.2⟩
  | g t l => exact ⟨one h.1 hn, h.2⟩
  | _ => exact one h hn
theorem MR.use {kt et : Nat} {es : List (V × A)} {ms : List MapEntry} (h : MR T e kt et es ms) : ∀ p ∈ es, ∀ id ∈ refA p.2, e.U id := by
  induction h with
  | nil => intro p hp; cases hp
  | cons _ h2 _ _ ih =>
    intro p hp
    rcases List.mem_cons.1 hp with rfl | hp
    · exact h2.use
    · exact ih p hp
theorem MR.old {ob : Tr} {n0 nx : Nat} {keep : List Nat} (hA : Anew T c e eb of' ob n0 nx) {kt et : Nat} {es : List (V × A)} {ms : List MapEntry} (h : MR T e kt et es ms) : (∀ p ∈ es, ∀ id ∈ refA p.2, isNew n0 nx id = false) → MR T (e.anew ob n0 nx keep) kt et es ms := by
  induction h with
  | nil => intro _; exact .nil
  | cons h1 h2 h3 _ ih => intro hk; exact .cons (h1.old hA (fun id hid => by cases hid)) (h2.old hA (hk _ (List.mem_cons_self ..))) h3 (ih (fun p hp => hk p (List.mem_cons_of_mem _ hp)))
/-- An object of old that was not touched. -/
theorem OK.old {ob : Tr} {n0 nx id : Nat} {keep : List Nat} {o : Ob} (hA : Anew T c e eb of' ob n0 nx) (h : OK T e id o) (hb : OK T eb id o) : OK T (e.anew ob n0 nx keep) id o := by
  have nn : ∀ {j : Nat}, eb.U j → isNew n0 nx j = false := fun {j} hj => by
    cases hq : isNew n0 nx j with
    | false => rfl
    | true => exact absurd hj (hA.new j hq)
  have hid := nn hb.use
  have hU : (e.anew ob n0 nx keep).U id := ⟨h.use, fun ht => by rw [hid] at ht; cases ht⟩
  cases o with
  | box t a sh =>
    obtain ⟨h1, h2, h2', h2'', b, cs, ty, fz, h3, h4, h5, h5', h6, h7⟩ := h
    obtain ⟨_, _, _, _, _, cs0, _, _, _, _, _, _, g6, _⟩ := hb
    exact ⟨hU, hA.box0 h2, h2', h2'', b, cs, ty, fz, h3, h4, h5, h5', h6.old hA (fun j hj => nn (g6.use j hj)), h7⟩
  | row el ver xs nl sh =>
    obtain ⟨h1, h2, h3, h4, h4', h5, h6⟩ := h
    refine ⟨hU, h2, by rw [bn_none (newV_old hid)]; exact h3, h4, h4', h5, ?_⟩
    rcases h6 with h6 | ⟨nn', b, o, cs, t, fz, pre, ys, post, g1, g2, g3, g4, g5, g6, g7, g8⟩
    · exact .inl h6
    · exact .inr ⟨nn', b, o, cs, t, fz, pre, ys, post, g1, g2, g3, g4, g5, g6.anew, g7, g8⟩
  | map kt et es =>
    obtain ⟨h1, h2, b, ms, clock, h3, h4, h5, es', h6, h7⟩ := h
    obtain ⟨_, _, _, ms0, _, _, _, _, es0, k6, k7⟩ := hb
    have hes : ∀ p ∈ es, ∀ j ∈ refA p.2, isNew n0 nx j = false := fun p hp j hj => nn (k7.use p (k6.mem_iff.2 hp) j hj)
    exact ⟨hU, hA.box0 h2, b, ms, clock, h3, h4, h5, es', h6, h7.old hA (fun p hp => hes p (h6.mem_iff.1 hp))⟩
/-- An object that is known, told anew. -/
theorem OK.fix {ob : Tr} {n0 nx id : Nat} {keep : List Nat} {o : Ob} (hA : Anew T c e eb of' ob n0 nx) (hg : ob.get id = some o) (h : OK T e id o) (hkeep : isNew n0 nx id = true → id ∈ keep) (hk : ∀ j ∈ refO (fixO ob n0 nx id o), isNew n0 nx j = true → j ∈ keep) (hmap : ∀ kt et es, o = .map kt et es → ∀ p ∈ es, refA p.2 = []) : OK T (e.anew ob n0 nx keep) id (fixO ob n0 nx id o) := by
  have hU : (e.anew ob n0 nx keep).U id := ⟨h.use, hkeep⟩
  cases o with
  | box t a sh =>
    obtain ⟨h1, h2, h2', h2'', b, cs, ty, fz, h3, h4, h5, h5', h6, h7⟩ := h
    refine ⟨hU, hA.box0 h2, h2', fitA_x h2'', b, cs, ty, fz, h3, h4, h5, h5', ?_, h7⟩
    have := h6.fix (keep := keep) hA (fun j hj => hk j (by simpa [fixL, refL, fixO, refO] using hj))
    simpa [fixL] using this
  | row el ver xs nl sh =>
    obtain ⟨h1, h2, h3, h4, h4', h5, h6⟩ := h
    have rest : 0 < szT T el ∧ ((nl = true ∧ (e.anew ob n0 nx keep).ι id = none ∧ xs = []) ∨ (nl = false ∧ ∃ b o cs t fz pre ys post, (e.anew ob n0 nx keep).ι id = some (b, o) ∧ (e.anew ob n0 nx keep).w.heap[b]? = some (.cells cs t fz) ∧ free (e.anew ob n0 nx keep).w b cs ∧ cs.toList = pre ++ ys ++ post ∧ pre.length = o ∧ RV T (e.anew ob n0 nx keep) (List.replicate xs.length el) xs ys ∧
         (∀ i, o + ys.length ≤ i → ¬ (e.anew ob n0 nx keep).S b i) ∧ (sh = false → ∀ i, o ≤ i → ¬ (e.anew ob n0 nx keep).S b i))) := by
      refine ⟨h5, ?_⟩
      rcases h6 with h6 | ⟨nn', b, o, cs, t, fz, pre, ys, post, g1, g2, g3, g4, g5, g6, g7, g8⟩
      · exact .inl h6
      · exact .inr ⟨nn', b, o, cs, t, fz, pre, ys, post, g1, g2, g3, g4, g5, g6.anew, g7, g8⟩
    cases hn : isNew n0 nx id with
    | false =>
      have hf : fixO ob n0 nx id (.row el ver xs nl sh) = .row el ver xs nl sh := by simp [fixO, hn]
      rw [hf]
      exact ⟨hU, h2, by rw [bn_none (newV_old hn)]; exact h3, h4, h4', rest⟩
    | true =>
      have hf : fixO ob n0 nx id (.row el ver xs nl sh) = .row el 1 xs nl sh := by simp [fixO, hn]
      rw [hf]
      have hv : newV ob n0 nx id = some ver := by unfold newV; rw [hn, hg]; rfl
      exact ⟨hU, by omega, bn_some hv, h4, h4', rest⟩
  | map kt et es =>
    obtain ⟨h1, h2, b, ms, clock, h3, h4, h5, es', h6, h7⟩ := h
    exact ⟨hU, hA.box0 h2, b, ms, clock, h3, h4, h5, es', h6, h7.old hA (fun p hp j hj => by rw [hmap kt et es rfl p (h6.mem_iff.1 hp)] at hj; cases hj)⟩
theorem Rep1.fix {ob : Tr} {n0 nx : Nat} {keep : List Nat} (hA : Anew T c e eb of' ob n0 nx) {a : A} {v : Value} (h : Rep1 T e a v) (hk : ∀ id ∈ refA (fixA ob n0 nx a), isNew n0 nx id = true → id ∈ keep) : Rep1 T (e.anew ob n0 nx keep) (fixA ob n0 nx a) v := by
  have one : ∀ {a : A} {cs : List Value}, RA T e [a] cs → (∀ id ∈ refA (fixA ob n0 nx a), isNew n0 nx id = true → id ∈ keep) → RA T (e.anew ob n0 nx keep) [fixA ob n0 nx a] cs := fun {a cs} g hk => by
    have := g.fix (keep := keep) hA (fun id hid => hk id (by simpa [fixL, refL] using hid))
    simpa [fixL] using this
  have sc : ∀ {a : A}, RA T e [a] [v] → (∀ id ∈ refA (fixA ob n0 nx a), isNew n0 nx id = true → id ∈ keep) → (fixA ob n0 nx a = .x ∨ ((∀ t y, fixA ob n0 nx a ≠ .v t y) ∧ (∀ t l, fixA ob n0 nx a ≠ .g t l) ∧ (∀ l, fixA ob n0 nx a ≠ .t l))) → Rep1 T (e.anew ob n0 nx keep) (fixA ob n0 nx a) v := fun {a} g hk hs => by
    have r := one g hk
    rcases hs with hs | ⟨s1, s2, s3⟩
    · rw [hs]; trivial
    · cases hf : fixA ob n0 nx a with
      | v t y => exact absurd hf (s1 _ _)
      | g t l => exact absurd hf (s2 _ _)
      | t l => exact absurd hf (s3 _)
      | x => trivial
      | _ => rw [hf] at r; exact r
  have fr : ∀ {id ver : Nat} {k : Nat → A}, (∀ v, (∀ t y, k v ≠ .v t y) ∧ (∀ t l, k v ≠ .g t l) ∧ (∀ l, k v ≠ .t l)) → (fixR ob n0 nx id ver k = .x ∨ ((∀ t y, fixR ob n0 nx id ver k ≠ .v t y) ∧ (∀ t l, fixR ob n0 nx id ver k ≠ .g t l) ∧ (∀ l, fixR ob n0 nx id ver k ≠ .t l))) := by
    intro id ver k hk
    unfold fixR
    split
    · rename_i v _; cases Nat.beq v ver
      · exact .inl rfl
      · exact .inr (hk _)
    · exact .inr (hk _)
  cases a with
  | x => trivial
  | t l => exact h.elim
  | v t y => exact ⟨h.1.anew, h.2⟩
  | g t l => exact ⟨one h.1 hk, h.2⟩
  | e id ver i t path => exact sc h hk (fr (k := fun v => .e id v i t path) (fun v => ⟨by simp, by simp, by simp⟩))
  | o id ver => exact sc h hk (fr (k := fun v => .o id v) (fun v => ⟨by simp, by simp, by simp⟩))
  | w id ver off n => exact sc h hk (fr (k := fun v => .w id v off n) (fun v => ⟨by simp, by simp, by simp⟩))
  | _ => exact one h hk
theorem fixL_get {ob : Tr} {n0 nx : Nat} : ∀ {l : List A} {i : Nat} {v : A}, (fixL ob n0 nx l)[i]? = some v → ∃ a, l[i]? = some a ∧ v = fixA ob n0 nx a := by
  intro l
  induction l with
  | nil => intro i v h; simp [fixL] at h
  | cons a l ih =>
    intro i v h
    cases i with
    | zero => simp [fixL] at h; exact ⟨a, rfl, h.symm⟩
    | succ i => exact ih (by simpa [fixL] using h)
theorem fixL_len {ob : Tr} {n0 nx : Nat} : ∀ {l : List A}, (fixL ob n0 nx l).length = l.length := by
  intro l
  induction l with
  | nil => rfl
  | cons a l ih => simp [fixL, ih]
theorem refL_mem : ∀ {l : List A} {i : Nat} {a : A}, l[i]? = some a → ∀ id ∈ refA a, id ∈ refL l := by
  intro l
  induction l with
  | nil => intro i a h; simp at h
  | cons b l ih =>
    intro i a h id hid
    simp only [refL, List.mem_append]
    cases i with
    | zero => simp at h; subst h; exact .inl hid
    | succ i => exact .inr (ih (by simpa using h) id hid)
theorem Rep.fix {ob : Tr} {n0 nx : Nat} {keep : List Nat} (hA : Anew T c e eb of' ob n0 nx) {a : A} {v : Value} (h : Rep T e a v) (hk : ∀ id ∈ refA (fixA ob n0 nx a), isNew n0 nx id = true → id ∈ keep) : Rep T (e.anew ob n0 nx keep) (fixA ob n0 nx a) v := by
  have lift : ∀ {a : A}, (∀ l, a ≠ .t l) → Rep1 T e a v → (∀ id ∈ refA (fixA ob n0 nx a), isNew n0 nx id = true → id ∈ keep) → Rep T (e.anew ob n0 nx keep) (fixA ob n0 nx a) v := fun {a} ht g hk => by
    have r := g.fix (keep := keep) hA hk
    cases hf : fixA ob n0 nx a with
    | t l =>
      rw [hf] at r; exact r.elim
    | _ => rw [hf] at r; exact r
  cases a with
  | t l =>
    obtain ⟨xs, rfl, h2, h3⟩ := h
    refine ⟨xs, rfl, by rw [fixL_len]; exact h2, fun i v x hv hx => ?_⟩
    obtain ⟨a, ha, rfl⟩ := fixL_get hv
    exact (h3 i a x ha hx).fix hA (fun id hid => hk id (refL_mem hv id hid))
  | _ => exact lift (by intro l hl; cases hl) h hk
end Go.Vm
end
