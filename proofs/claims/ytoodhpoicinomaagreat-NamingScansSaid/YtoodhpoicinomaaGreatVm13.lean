/- What the operations of a program do, shown once for all programs; and numbers. -/
import Derived.Test.YtoodhpoicinomaaGreatVm12
import Derived.Test.YtoodhpoicinomaaGreatVm11
set_option linter.constructorNameAsVariable false
set_option linter.unusedVariables false
set_option linter.unusedSimpArgs false
noncomputable section
namespace Go.Vm
open Go.RowKit
end Go.Vm

namespace Go.Vm
open Go.RowKit
end Go.Vm

namespace Go.Vm
open Go.RowKit
inductive PRn where
  | m (l : V) (n : Int) (i : Int)
inductive QRn where
  | o (l : V) (n : Int) (i : Int)
  | r (l : V) (n : Int) (i : Int)
def BRn (R : Type) (p : PRn) (K : PRn → Option R) (kx : QRn → Option R) : Option R :=
  match p with
  | .m l n i =>
    bif ilt i n then
      ck i ((l.els).length) <|
      bif ilt 40 i then
      kx (.r l n i)
      else
      ln ((((V.nth (V.nth l i.toNat) 0)).els).length) <|
      bif ilt 100 ((((V.nth (V.nth l i.toNat) 0)).els).length : Nat) then
      kx (.r l n i)
      else
      ln ((((V.nth (V.nth l i.toNat) 1)).els).length) <|
      bif ilt 300 ((((V.nth (V.nth l i.toNat) 1)).els).length : Nat) then
      kx (.r l n i)
      else
      bif ilt (((V.nth (V.nth l i.toNat) 2)).int) 0 then
      kx (.r l n i)
      else
      bif ilt 1000000000 (((V.nth (V.nth l i.toNat) 2)).int) then
      kx (.r l n i)
      else
      K (.m l n (W64 (i + 1)))
      else
      kx (.o l n i)
abbrev BRn_m := @BRn.eq_1
inductive PSa where
  | m (a : V) (b : V) (n : Int) (i : Int)
inductive QSa where
  | o (a : V) (b : V) (n : Int) (i : Int)
  | r (a : V) (b : V) (n : Int) (i : Int)
def BSa (R : Type) (p : PSa) (K : PSa → Option R) (kx : QSa → Option R) : Option R :=
  match p with
  | .m a b n i =>
    bif ilt i n then
      ck i ((a.els).length) <|
      ck i ((b.els).length) <|
      bif !(veq (V.nth a i.toNat) (V.nth b i.toNat)) then
      kx (.r a b n i)
      else
      K (.m a b n (W64 (i + 1)))
      else
      kx (.o a b n i)
abbrev BSa_m := @BSa.eq_1
inductive PSx where
  | m (a : V) (b : V) (n : Int) (i : Int)
inductive QSx where
  | o (a : V) (b : V) (n : Int) (i : Int)
  | r (a : V) (b : V) (n : Int) (i : Int)
def BSx (R : Type) (p : PSx) (K : PSx → Option R) (kx : QSx → Option R) : Option R :=
  match p with
  | .m a b n i =>
    bif ilt i n then
      ck i ((a.els).length) <|
      ck i ((b.els).length) <|
      bif !(veqL (((V.nth a i.toNat)).els) (((V.nth b i.toNat)).els)) then
      kx (.r a b n i)
      else
      K (.m a b n (W64 (i + 1)))
      else
      kx (.o a b n i)
abbrev BSx_m := @BSx.eq_1
inductive PNn where
  | m (l : V) (es : List (V × V × Bool)) (n : Int) (i : Int)
inductive QNn where
  | o (l : V) (es : List (V × V × Bool)) (n : Int) (i : Int)
def BNn (R : Type) (p : PNn) (K : PNn → Option R) (kx : QNn → Option R) : Option R :=
  match p with
  | .m l es n i =>
    bif ilt i n then
      ck i ((l.els).length) <|
      bif hasS (.s (((V.nth (V.nth l i.toNat) 0)).els)) es then
      bif ownS (.s (((V.nth (V.nth l i.toNat) 0)).els)) es then
      lim ((((valS (.s (((V.nth (V.nth l i.toNat) 0)).els)) es)).els).length + ([(V.nth l i.toNat)]).length) <|
      bif veq (.s (((V.nth (V.nth l i.toNat) 0)).els)) (.s (((V.nth (V.nth l i.toNat) 0)).els)) then
      K (.m l (setS (.s (((V.nth (V.nth l i.toNat) 0)).els)) (.l (((valS (.s (((V.nth (V.nth l i.toNat) 0)).els)) es)).els ++ [(V.nth l i.toNat)])) true es) n (W64 (i + 1)))
      else
      none
      else
      none
      else
      K (.m l (setS (.s (((V.nth (V.nth l i.toNat) 0)).els)) (.l [(V.nth l i.toNat)]) true es) n (W64 (i + 1)))
      else
      kx (.o l es n i)
abbrev BNn_m := @BNn.eq_1
inductive PHn where
  | m (nm : List V) (l : V) (xs : List V) (n : Int) (i : Int)
inductive QHn where
  | o (nm : List V) (l : V) (xs : List V) (n : Int) (i : Int)
def BHn (R : Type) (p : PHn) (K : PHn → Option R) (kx : QHn → Option R) : Option R :=
  match p with
  | .m nm l xs n i =>
    bif ilt i n then
      ck i ((l.els).length) <|
      bif veqL (((V.nth (V.nth l i.toNat) 0)).els) nm then
      lim (xs.length + ([(V.nth l i.toNat)]).length) <|
      K (.m nm l (xs ++ [(V.nth l i.toNat)]) n (W64 (i + 1)))
      else
      K (.m nm l xs n (W64 (i + 1)))
      else
      kx (.o nm l xs n i)
abbrev BHn_m := @BHn.eq_1
inductive PNi where
  | m (xs : List V) (e : V) (a : Int) (l : V) (n : Int) (i : Int)
inductive QNi where
  | o (xs : List V) (e : V) (a : Int) (l : V) (n : Int) (i : Int)
def BNi (R : Type) (p : PNi) (K : PNi → Option R) (kx : QNi → Option R) : Option R :=
  match p with
  | .m xs e a l n i =>
    ln xs.length <|
      bif ilt a (xs.length : Nat) then
      ck a xs.length <|
      bif sLt (((List.getD xs a.toNat .n)).els) (((V.nth e 0)).els) then
      K (.m xs e (W64 (a + 1)) l n i)
      else
      kx (.o xs e a l n i)
      else
      kx (.o xs e a l n i)
abbrev BNi_m := @BNi.eq_1
end Go.Vm

namespace Go.Vm
open Go.RowKit
inductive PNo where
  | m (xs : List V) (l : V) (n : Int) (i : Int)
inductive QNo where
  | o (xs : List V) (l : V) (n : Int) (i : Int)
noncomputable def BNo (R : Type) (p : PNo) (K : PNo → Option R) (kx : QNo → Option R) : Option R :=
  match p with
  | .m xs l n i =>
    bif ilt i n then
      ck i ((l.els).length) <|
      (lpC (BNi R) (hid FU) (.m xs (V.nth l i.toNat) 0 l n i) fun q => match q with
      | .o xs1 e1 a1 l1 n1 i1 =>
      ln xs1.length <|
      bif ieq a1 (xs1.length : Nat) then
      bif ((ile 0 a1) && (ile a1 (xs1.length : Nat))) && (ile (xs1.length : Nat) (xs1.length : Nat)) then
      bif Nat.ble ((0 + a1.toNat) + (((xs1.length : Nat) - a1)).toNat) xs1.length then
      lim (((List.replicate 0 (V.s []))).length + ((List.take ((((xs1.length : Nat) - a1)).toNat) (List.drop (0 + a1.toNat) xs1))).length) <|
      bif ieq a1 a1 then
      bif ((ile 0 (0 : Nat)) && (ile (0 : Nat) a1)) && (ile a1 (xs1.length : Nat)) then
      lim (((List.take (((a1 - (0 : Nat))).toNat) (List.drop 0 xs1))).length + ([(V.s (((V.nth e1 0)).els))]).length) <|
      lim ((((List.take (((a1 - (0 : Nat))).toNat) (List.drop 0 xs1)) ++ [(V.s (((V.nth e1 0)).els))])).length + (((List.replicate 0 (V.s [])) ++ (List.take ((((xs1.length : Nat) - a1)).toNat) (List.drop (0 + a1.toNat) xs1)))).length) <|
      K (.m (((List.take (((a1 - (0 : Nat))).toNat) (List.drop 0 xs1)) ++ [(V.s (((V.nth e1 0)).els))]) ++ ((List.replicate 0 (V.s [])) ++ (List.take ((((xs1.length : Nat) - a1)).toNat) (List.drop (0 + a1.toNat) xs1)))) l1 n1 (W64 (i1 + 1)))
      else
      none
      else
      none
      else
      none
      else
      none
      else
      ck a1 xs1.length <|
      bif !(veqL (((List.getD xs1 a1.toNat .n)).els) (((V.nth e1 0)).els)) then
      bif ((ile 0 a1) && (ile a1 (xs1.length : Nat))) && (ile (xs1.length : Nat) (xs1.length : Nat)) then
      bif Nat.ble ((0 + a1.toNat) + (((xs1.length : Nat) - a1)).toNat) xs1.length then
      lim (((List.replicate 0 (V.s []))).length + ((List.take ((((xs1.length : Nat) - a1)).toNat) (List.drop (0 + a1.toNat) xs1))).length) <|
      bif ieq a1 a1 then
      bif ((ile 0 (0 : Nat)) && (ile (0 : Nat) a1)) && (ile a1 (xs1.length : Nat)) then
      lim (((List.take (((a1 - (0 : Nat))).toNat) (List.drop 0 xs1))).length + ([(V.s (((V.nth e1 0)).els))]).length) <|
      lim ((((List.take (((a1 - (0 : Nat))).toNat) (List.drop 0 xs1)) ++ [(V.s (((V.nth e1 0)).els))])).length + (((List.replicate 0 (V.s [])) ++ (List.take ((((xs1.length : Nat) - a1)).toNat) (List.drop (0 + a1.toNat) xs1)))).length) <|
      K (.m (((List.take (((a1 - (0 : Nat))).toNat) (List.drop 0 xs1)) ++ [(V.s (((V.nth e1 0)).els))]) ++ ((List.replicate 0 (V.s [])) ++ (List.take ((((xs1.length : Nat) - a1)).toNat) (List.drop (0 + a1.toNat) xs1)))) l1 n1 (W64 (i1 + 1)))
      else
      none
      else
      none
      else
      none
      else
      none
      else
      K (.m xs1 l1 n1 (W64 (i1 + 1))))
      else
      kx (.o xs l n i)
abbrev BNo_m := @BNo.eq_1
end Go.Vm

namespace Go.Vm
open Go.RowKit
variable {R : Type}
theorem sLt_le : ∀ (x y : List V), sLt x y = !leVs y x := by
  intro x
  induction x with
  | nil => intro y; cases y <;> rfl
  | cons a x ih =>
    intro y
    cases y with
    | nil => rfl
    | cons b y =>
      simp only [sLt, leVs, ih]
      by_cases h1 : b.int < a.int
      · have e1 : ilt b.int a.int = true := by simp [ilt, h1]
        have e2 : ilt a.int b.int = false := by simp [ilt]; omega
        have e3 : ieq a.int b.int = false := by rw [← Bool.not_eq_true, ieq_iff]; omega
        simp [e1, e2, e3]
      · have e1 : ilt b.int a.int = false := by simp [ilt]; omega
        by_cases h2 : a.int < b.int
        · have e2 : ilt a.int b.int = true := by simp [ilt, h2]
          simp [e1, e2]
        · have e2 : ilt a.int b.int = false := by simp [ilt]; omega
          have e3 : ieq a.int b.int = true := by rw [ieq_iff]; omega
          simp [e1, e2, e3]
theorem leVs_refl : ∀ x : List V, leVs x x = true := by
  intro x
  induction x with
  | nil => rfl
  | cons a x ih =>
    have e1 : ilt a.int a.int = false := by simp [ilt]
    simp only [leVs, e1, cond_false, ih]
theorem leVs_tot : ∀ x y : List V, leVs x y = true ∨ leVs y x = true := by
  intro x
  induction x with
  | nil => intro y; exact .inl rfl
  | cons a x ih =>
    intro y
    cases y with
    | nil => exact .inr rfl
    | cons b y =>
      simp only [leVs]
      by_cases h1 : a.int < b.int
      · left; have : ilt a.int b.int = true := by simp [ilt, h1]
        rw [this]; rfl
      · have e1 : ilt a.int b.int = false := by simp [ilt]; omega
        by_cases h2 : b.int < a.int
        · right; have : ilt b.int a.int = true := by simp [ilt, h2]
          rw [this]; rfl
        · have e2 : ilt b.int a.int = false := by simp [ilt]; omega
          simp only [e1, e2, cond_false]
          exact ih y
theorem leVs_tr : ∀ {x y z : List V}, leVs x y = true → leVs y z = true → leVs x z = true := by
  intro x
  induction x with
  | nil => intro y z _ _; rfl
  | cons a x ih =>
    intro y z h1 h2
    cases y with
    | nil => cases h1
    | cons b y => cases z with
      | nil => cases h2
      | cons c z =>
        simp only [leVs] at h1 h2 ⊢
        simp only [ilt_d] at h1 h2 ⊢
        by_cases a1 : a.int < b.int
        · by_cases b1 : b.int < c.int
          · have : a.int < c.int := by omega
            simp [this]
          · by_cases b2 : c.int < b.int
            · simp [b1, b2] at h2
            · have : a.int < c.int := by omega
              simp [this]
        · by_cases a2 : b.int < a.int
          · simp [a1, a2] at h1
          · simp only [a1, a2, decide_false, cond_false] at h1
            by_cases b1 : b.int < c.int
            · have : a.int < c.int := by omega
              simp [this]
            · by_cases b2 : c.int < b.int
              · simp [b1, b2] at h2
              · simp only [b1, b2, decide_false, cond_false] at h2
                have c1 : ¬ a.int < c.int := by omega
                have c2 : ¬ c.int < a.int := by omega
                simp only [c1, c2, decide_false, cond_false]
                exact ih h1 h2
def isNm (x : List V) : Prop := ∃ ns : List Nat, x = ns.map nv
theorem leVs_anti {x y : List V} (hx : isNm x) (hy : isNm y) (h1 : leVs x y = true) (h2 : leVs y x = true) : x = y := by
  obtain ⟨ns, rfl⟩ := hx
  obtain ⟨ms, rfl⟩ := hy
  induction ns generalizing ms with
  | nil => cases ms with
    | nil => rfl
    | cons b ms => cases h2
  | cons a ns ih => cases ms with
    | nil => cases h1
    | cons b ms =>
      simp only [List.map_cons, leVs, nv, V.int, ilt_d] at h1 h2
      by_cases a1 : (a : Int) < b
      · have : ¬ (b : Int) < a := by omega
        simp [a1, this] at h2
      · by_cases a2 : (b : Int) < a
        · simp [a1, a2] at h1
        · simp only [a1, a2, decide_false, cond_false] at h1 h2
          have : a = b := by omega
          subst this
          rw [List.map_cons, List.map_cons, ih ms h1 h2]
def NmV (x : V) : Prop := ∃ nm, x = .s nm ∧ isNm nm
def StS (xs : List V) : Prop := xs.Pairwise (fun a b => sLt a.els b.els = true) ∧ ∀ x ∈ xs, NmV x
def insN (nm : List V) : List V → List V
  | [] => [.s nm]
  | x :: r => bif sLt x.els nm then x :: insN nm r else bif veqL x.els nm then x :: r else .s nm :: x :: r
theorem insN_has {nm : List V} : ∀ {xs : List V}, StS xs → V.s nm ∈ xs → insN nm xs = xs := by
  intro xs
  induction xs with
  | nil => intro _ h; cases h
  | cons x r ih =>
    intro hs h
    obtain ⟨h1, h2⟩ := hs
    rw [List.pairwise_cons] at h1
    rcases List.mem_cons.1 h with rfl | h
    · have : sLt (V.s nm).els nm = false := by rw [sLt_le, show (V.s nm).els = nm from rfl, leVs_refl]; rfl
      have e2 : veqL (V.s nm).els nm = true := (veqL_iff _ _).2 rfl
      simp only [insN, this, cond_false, e2, cond_true]
    · have : sLt x.els nm = true := h1.1 _ h
      simp only [insN, this, cond_true]
      rw [ih ⟨h1.2, fun y hy => h2 y (by simp [hy])⟩ h]
theorem insN_new {nm : List V} : ∀ {xs : List V}, (∀ x ∈ xs, NmV x) → V.s nm ∉ xs → insN nm xs = insV (.s nm) xs := by
  intro xs
  induction xs with
  | nil => intro _ _; rfl
  | cons x r ih =>
    intro hs h
    simp only [List.mem_cons, not_or] at h
    obtain ⟨nx, rfl, _⟩ := hs x (by simp)
    have hne : veqL (V.s nx).els nm = false := by
      rw [← Bool.not_eq_true, veqL_iff]
      intro q; exact h.1 (by rw [← show nx = nm from q])
    simp only [insN, insV, sLt_le, hne, cond_false, show (V.s nm).els = nm from rfl]
    cases leVs nm (V.s nx).els
    · simp only [Bool.not_false, cond_true, cond_false]
      rw [ih (fun y hy => hs y (by simp [hy])) h.2]
    · rfl
theorem insV_mem {a x : V} : ∀ {l : List V}, x ∈ insV a l ↔ x = a ∨ x ∈ l := by
  intro l
  induction l with
  | nil => simp [insV]
  | cons b r ih =>
    simp only [insV]
    cases leVs a.els b.els
    · simp only [cond_false, List.mem_cons, ih]
      constructor
      · rintro (h | h | h) <;> simp [h]
      · rintro (h | h | h) <;> simp [h]
    · simp
theorem insV_perm (a : V) : ∀ l : List V, (insV a l).Perm (a :: l) := by
  intro l
  induction l with
  | nil => exact List.Perm.refl _
  | cons b r ih =>
    simp only [insV]
    cases leVs a.els b.els
    · exact (ih.cons b).trans (List.Perm.swap _ _ _)
    · exact List.Perm.refl _
theorem sortV_permV : ∀ l : List V, (sortV l).Perm l := by
  intro l
  induction l with
  | nil => exact List.Perm.refl _
  | cons a r ih => exact (insV_perm a _).trans (ih.cons a)
theorem insV_sorted (a : V) : ∀ l : List V, l.Pairwise (fun x y => leVs x.els y.els = true) → (insV a l).Pairwise (fun x y => leVs x.els y.els = true) := by
  intro l
  induction l with
  | nil => intro _; exact List.pairwise_singleton _ _
  | cons b r ih =>
    intro h
    rw [List.pairwise_cons] at h
    simp only [insV]
    cases hab : leVs a.els b.els
    · rw [cond_false, List.pairwise_cons]
      refine ⟨fun x hx => ?_, ih h.2⟩
      rcases insV_mem.1 hx with rfl | hx
      · rcases leVs_tot x.els b.els with q | q
        · rw [q] at hab; cases hab
        · exact q
      · exact h.1 x hx
    · rw [cond_true, List.pairwise_cons]
      refine ⟨fun x hx => ?_, List.pairwise_cons.2 h⟩
      rcases List.mem_cons.1 hx with rfl | hx
      · exact hab
      · exact leVs_tr hab (h.1 x hx)
theorem sortV_sorted : ∀ l : List V, (sortV l).Pairwise (fun x y => leVs x.els y.els = true) := by
  intro l
  induction l with
  | nil => exact List.Pairwise.nil
  | cons a r ih => exact insV_sorted a _ ih
theorem sortV_cong {l m : List V} (h : l.Perm m) (hn : ∀ x ∈ l, NmV x) : sortV l = sortV m := by
  have hp : (sortV l).Perm (sortV m) := ((sortV_permV l).trans h).trans (sortV_permV m).symm
  refine List.Perm.eq_of_pairwise (le := fun a b => leVs a.els b.els = true) (fun a b ha hb h1 h2 => ?_) (sortV_sorted l) (sortV_sorted m) hp
  obtain ⟨na, rfl, h3⟩ := hn a ((sortV_permV l).mem_iff.1 ha)
  obtain ⟨nb, rfl, h4⟩ := hn b (h.mem_iff.2 ((sortV_permV m).mem_iff.1 hb))
  rw [leVs_anti h3 h4 h1 h2]
theorem insN_mem {nm : List V} {x : V} : ∀ {xs : List V}, x ∈ insN nm xs → x = .s nm ∨ x ∈ xs := by
  intro xs
  induction xs with
  | nil => intro h; simpa [insN] using h
  | cons y r ih =>
    intro h
    simp only [insN] at h
    cases c1 : sLt y.els nm with
    | true =>
      rw [c1, cond_true] at h
      rcases List.mem_cons.1 h with rfl | h
      · exact .inr (by simp)
      · exact (ih h).imp id (fun q => by simp [q])
    | false =>
      rw [c1, cond_false] at h
      cases c2 : veqL y.els nm with
      | true => rw [c2, cond_true] at h; exact .inr h
      | false =>
        rw [c2, cond_false] at h
        rcases List.mem_cons.1 h with rfl | h
        · exact .inl rfl
        · exact .inr h
theorem sLt_of {x y : List V} (hx : isNm x) (hy : isNm y) (h1 : leVs x y = true) (h2 : x ≠ y) : sLt x y = true := by
  rw [sLt_le]
  cases h : leVs y x with
  | false => rfl
  | true => exact absurd (leVs_anti hx hy h1 h) h2
theorem sLt_tr {x y z : List V} (h1 : sLt x y = true) (h2 : sLt y z = true) : sLt x z = true := by
  rw [sLt_le] at *
  simp only [Bool.not_eq_true'] at *
  cases h : leVs z x with
  | false => rfl
  | true =>
    rcases leVs_tot y z with q | q
    · have := leVs_tr q h
      rw [this] at h1; cases h1
    · rw [q] at h2; cases h2
theorem insN_st {nm : List V} (hn : isNm nm) : ∀ {xs : List V}, StS xs → StS (insN nm xs) := by
  intro xs
  induction xs with
  | nil => intro _; exact ⟨List.pairwise_singleton _ _, fun x hx => by simp only [insN, List.mem_singleton] at hx; subst hx; exact ⟨nm, rfl, hn⟩⟩
  | cons y r ih =>
    intro hs
    have hm : ∀ x ∈ insN nm (y :: r), NmV x := fun x hx => by
      rcases insN_mem hx with rfl | hx
      · exact ⟨nm, rfl, hn⟩
      · exact hs.2 x hx
    refine ⟨?_, hm⟩
    obtain ⟨h1, h2⟩ := hs
    have h1' := h1
    rw [List.pairwise_cons] at h1
    simp only [insN]
    obtain ⟨ny, rfl, hny⟩ := h2 y (by simp)
    cases c1 : sLt (V.s ny).els nm with
    | true =>
      rw [cond_true, List.pairwise_cons]
      refine ⟨fun x hx => ?_, (ih ⟨h1.2, fun z hz => h2 z (by simp [hz])⟩).1⟩
      rcases insN_mem hx with rfl | hx
      · exact c1
      · exact h1.1 x hx
    | false =>
      rw [cond_false]
      cases c2 : veqL (V.s ny).els nm with
      | true => exact h1'
      | false =>
        rw [cond_false, List.pairwise_cons]
        have hlt : sLt nm (V.s ny).els = true := by
          rw [sLt_le] at c1
          simp only [Bool.not_eq_false'] at c1
          exact sLt_of hn hny c1 (fun q => by
            have : veqL (V.s ny).els nm = true := (veqL_iff _ _).2 q.symm
            rw [this] at c2; cases c2)
        refine ⟨fun x hx => ?_, h1'⟩
        rcases List.mem_cons.1 hx with rfl | hx
        · exact hlt
        · exact sLt_tr hlt (h1.1 x hx)
abbrev nmE (e : V) : List V := (e.nth 0).els
def namesN (xs l : List V) : List V := l.foldl (fun xs e => insN (nmE e) xs) xs
def histS (nm : List V) (l : List V) : List V := l.filter fun e => veqL (nmE e) nm
end Go.Vm

namespace Go.Vm
open Go.RowKit
variable {R : Type}
def badE (i : Nat) (e : V) : Bool := ilt 40 (i : Int) || (ilt 100 ((nmE e).length : Nat) || (ilt 300 ((e.nth 1).els.length : Nat) || (ilt (e.nth 2).int 0 || ilt 1000000000 (e.nth 2).int)))
def rightN : List V → Nat → Bool
  | [], _ => true
  | e :: r, i => bif badE i e then false else rightN r (i + 1)
theorem rn_law {l : V} {ko kr : Option R} {kx : QRn → Option R} (h1 : ∀ n i, kx (.o l n i) = ko) (h2 : ∀ n i, kx (.r l n i) = kr) : ∀ (r a : List V) (fuel : Nat), l.els = a ++ r → (∀ x ∈ r, (nmE x).length ≤ MX ∧ (x.nth 1).els.length ≤ MX) → a.length ≤ 41 → l.els.length ≤ MX → 50 ≤ fuel + a.length →
    lpC (BRn R) fuel (.m l (l.els.length : Nat) (a.length : Nat)) kx = bif rightN r a.length then ko else kr := by
  intro r
  induction r with
  | nil =>
    intro a fuel he hg ha hz hf
    obtain ⟨f, rfl⟩ : ∃ f, fuel = f + 1 := ⟨fuel - 1, by omega⟩
    rw [List.append_nil] at he
    rw [lpC, BRn_m, ix_f he, cond_false, h1]; rfl
  | cons x r ih =>
    intro a fuel he hg ha hz hf
    obtain ⟨f, rfl⟩ : ∃ f, fuel = f + 1 := ⟨fuel - 1, by omega⟩
    have hle : l.els.length = a.length + (r.length + 1) := by rw [he]; simp
    have hat : l.nth ((a.length : Nat) : Int).toNat = x := nth_at he
    obtain ⟨x1, x2⟩ := hg x (by simp)
    have ih := ih (a ++ [x]) f (by rw [he]; simp) (fun y hy => hg y (by simp [hy]))
    simp only [List.length_append, List.length_singleton] at ih
    rw [lpC, BRn_m, ix_t he, cond_true, ck_in (by omega) (by omega), hat]
    have e1 : rightN (x :: r) a.length = bif badE a.length x then false else rightN r (a.length + 1) := rfl
    rw [e1]
    unfold badE
    cases b1 : ilt 40 ((a.length : Nat) : Int) with
    | true => rw [cond_true, h2]; rfl
    | false =>
    rw [cond_false, ln_in x1]
    cases b2 : ilt 100 ((nmE x).length : Nat) with
    | true => rw [cond_true, h2]; rfl
    | false =>
    rw [cond_false, ln_in x2]
    cases b3 : ilt 300 ((x.nth 1).els.length : Nat) with
    | true => rw [cond_true, h2]; rfl
    | false =>
    rw [cond_false]
    cases b4 : ilt (x.nth 2).int 0 with
    | true => rw [cond_true, h2]; rfl
    | false =>
    rw [cond_false]
    cases b5 : ilt 1000000000 (x.nth 2).int with
    | true => rw [cond_true, h2]; rfl
    | false =>
    rw [cond_false]
    have : ((a.length : Nat) : Int) ≤ 40 := by rw [ilt_d] at b1; simpa using b1
    rw [i_next (by omega)]
    exact ih (by omega) hz (by omega)
noncomputable def rnG (b : Nat) (l : V) : Option (List Rs) := ln l.els.length <| lpC (BRn (List Rs)) (hid FU) (.m l (l.els.length : Nat) 0) fun q => match q with
  | .o l1 n1 i1 => some [.d b (.b true)]
  | .r l1 n1 i1 => some [.d b (.b false)]
def rng : List V → Bool
  | [l] => Nat.ble l.els.length MX && l.els.all fun x => Nat.ble (nmE x).length MX && Nat.ble (x.nth 1).els.length MX
  | _ => false
def rnr (b : Nat) : List V → List Rs
  | [l] => [.d b (.b (rightN l.els 0))]
  | _ => []
theorem rnG_law {b : Nat} {l : V} (hg : rng [l] = true) : rnG b l = some (rnr b [l]) := by
  have hg : (Nat.ble l.els.length MX && l.els.all fun x => Nat.ble (nmE x).length MX && Nat.ble (x.nth 1).els.length MX) = true := hg
  simp only [Bool.and_eq_true, Nat.ble_eq, List.all_eq_true] at hg
  obtain ⟨g1, g2⟩ := hg
  unfold rnG
  have hq := fq_big
  rw [ln_in g1]
  have := rn_law (l := l) (ko := some [Rs.d b (.b true)]) (kr := some [Rs.d b (.b false)]) (kx := fun q => match q with
    | .o l1 n1 i1 => some [.d b (.b true)]
    | .r l1 n1 i1 => some [.d b (.b false)]) (fun _ _ => rfl) (fun _ _ => rfl) l.els [] (hid FU) rfl (fun x hx => g2 x hx) (by decide) g1 (by omega)
  refine this.trans ?_
  show _ = some [Rs.d b (.b (rightN l.els 0))]
  show (bif rightN l.els 0 then _ else _) = _
  cases rightN l.els 0 <;> rfl
theorem sa_law {a b : V} {ko kr : Option R} {kx : QSa → Option R} (h1 : ∀ n i, kx (.o a b n i) = ko) (h2 : ∀ n i, kx (.r a b n i) = kr) : ∀ (r s p q : List V) (fuel : Nat), a.els = p ++ r → b.els = q ++ s → p.length = q.length → r.length = s.length → p.length + r.length ≤ 100000 → r.length < fuel →
    lpC (BSa R) fuel (.m a b (a.els.length : Nat) (p.length : Nat)) kx = bif veqL r s then ko else kr := by
  intro r
  induction r with
  | nil =>
    intro s p q fuel he he2 hpq hrs hz hf
    obtain ⟨f, rfl⟩ : ∃ f, fuel = f + 1 := ⟨fuel - 1, by omega⟩
    cases s with
    | cons y s => simp at hrs
    | nil =>
      rw [List.append_nil] at he
      rw [lpC, BSa_m, ix_f he, cond_false, h1]; rfl
  | cons x r ih =>
    intro s p q fuel he he2 hpq hrs hz hf
    obtain ⟨f, rfl⟩ : ∃ f, fuel = f + 1 := ⟨fuel - 1, by omega⟩
    cases s with
    | nil => simp at hrs
    | cons y s =>
      simp only [List.length_cons] at hrs hz hf
      have l1 : a.els.length = p.length + (r.length + 1) := by rw [he]; simp
      have l2 : b.els.length = q.length + (s.length + 1) := by rw [he2]; simp
      have ha : a.nth ((p.length : Nat) : Int).toNat = x := nth_at he
      have hb : b.nth ((p.length : Nat) : Int).toNat = y := by rw [hpq]; exact nth_at he2
      have ih := ih s (p ++ [x]) (q ++ [y]) f (by rw [he]; simp) (by rw [he2]; simp) (by simp [hpq]) (by omega) (by simp only [List.length_append, List.length_singleton]; omega) (by omega)
      simp only [List.length_append, List.length_singleton] at ih
      rw [lpC, BSa_m, ix_t he, cond_true, ck_in (by omega) (by omega), ck_in (by omega) (by omega), ha, hb]
      show _ = bif veq x y && veqL r s then ko else kr
      cases veq x y with
      | false => rw [Bool.not_false, cond_true, h2]; rfl
      | true =>
        rw [Bool.not_true, cond_false, Bool.true_and, i_next (by omega)]
        exact ih
theorem sx_law {a b : V} {ko kr : Option R} {kx : QSx → Option R} (h1 : ∀ n i, kx (.o a b n i) = ko) (h2 : ∀ n i, kx (.r a b n i) = kr) : ∀ (r s p q : List V) (fuel : Nat), a.els = p ++ r → b.els = q ++ s → p.length = q.length → r.length = s.length → p.length + r.length ≤ 100000 → r.length < fuel → (∀ x ∈ r, ∃ n, x = .s n) → (∀ x ∈ s, ∃ n, x = .s n) →
    lpC (BSx R) fuel (.m a b (a.els.length : Nat) (p.length : Nat)) kx = bif veqL r s then ko else kr := by
  intro r
  induction r with
  | nil =>
    intro s p q fuel he he2 hpq hrs hz hf _ _
    obtain ⟨f, rfl⟩ : ∃ f, fuel = f + 1 := ⟨fuel - 1, by omega⟩
    cases s with
    | cons y s => simp at hrs
    | nil =>
      rw [List.append_nil] at he
      rw [lpC, BSx_m, ix_f he, cond_false, h1]; rfl
  | cons x r ih =>
    intro s p q fuel he he2 hpq hrs hz hf hx hy
    obtain ⟨f, rfl⟩ : ∃ f, fuel = f + 1 := ⟨fuel - 1, by omega⟩
    cases s with
    | nil => simp at hrs
    | cons y s =>
      simp only [List.length_cons] at hrs hz hf
      have l1 : a.els.length = p.length + (r.length + 1) := by rw [he]; simp
      have l2 : b.els.length = q.length + (s.length + 1) := by rw [he2]; simp
      have ha : a.nth ((p.length : Nat) : Int).toNat = x := nth_at he
      have hb : b.nth ((p.length : Nat) : Int).toNat = y := by rw [hpq]; exact nth_at he2
      have ih := ih s (p ++ [x]) (q ++ [y]) f (by rw [he]; simp) (by rw [he2]; simp) (by simp [hpq]) (by omega) (by simp only [List.length_append, List.length_singleton]; omega) (by omega) (fun z hz => hx z (by simp [hz])) (fun z hz => hy z (by simp [hz]))
      simp only [List.length_append, List.length_singleton] at ih
      rw [lpC, BSx_m, ix_t he, cond_true, ck_in (by omega) (by omega), ck_in (by omega) (by omega), ha, hb]
      obtain ⟨nx, rfl⟩ := hx x (by simp)
      obtain ⟨ny, rfl⟩ := hy y (by simp)
      show (bif !(veqL nx ny) then _ else _) = bif veqL nx ny && veqL r s then ko else kr
      cases veqL nx ny with
      | false => rw [Bool.not_false, cond_true, h2]; rfl
      | true =>
        rw [Bool.not_true, cond_false, Bool.true_and, i_next (by omega)]
        exact ih
theorem veqL_len {a b : List V} (h : a.length ≠ b.length) : veqL a b = false := by
  rw [← Bool.not_eq_true, veqL_iff]; intro q; exact h (by rw [q])
def sag : List V → Bool
  | [a, b] => Nat.ble a.els.length 100000 && Nat.ble b.els.length 100000
  | _ => false
def sar (t : Nat) : List V → List Rs
  | [a, b] => [.d t (.b (veqL a.els b.els))]
  | _ => []
noncomputable def saG (t : Nat) (a b : V) : Option (List Rs) :=
  ln a.els.length <| ln b.els.length <| bif !(ieq (a.els.length : Nat) (b.els.length : Nat)) then some [.d t (.b false)] else ln a.els.length <| lpC (BSa (List Rs)) (hid FU) (.m a b (a.els.length : Nat) 0) fun q => match q with
  | .o a1 b1 n1 i1 => some [.d t (.b true)]
  | .r a1 b1 n1 i1 => some [.d t (.b false)]
noncomputable def sxG (t : Nat) (a b : V) : Option (List Rs) :=
  ln a.els.length <| ln b.els.length <| bif !(ieq (a.els.length : Nat) (b.els.length : Nat)) then some [.d t (.b false)] else ln a.els.length <| lpC (BSx (List Rs)) (hid FU) (.m a b (a.els.length : Nat) 0) fun q => match q with
  | .o a1 b1 n1 i1 => some [.d t (.b true)]
  | .r a1 b1 n1 i1 => some [.d t (.b false)]
theorem saG_law {t : Nat} {a b : V} (hg : sag [a, b] = true) : saG t a b = some (sar t [a, b]) := by
  have hg : (Nat.ble a.els.length 100000 && Nat.ble b.els.length 100000) = true := hg
  simp only [Bool.and_eq_true, Nat.ble_eq] at hg
  obtain ⟨g1, g2⟩ := hg
  have hq := fq_big
  unfold saG
  rw [ln_in (by omega), ln_in (by omega), ln_in (by omega)]
  show _ = some [Rs.d t (.b (veqL a.els b.els))]
  by_cases hl : a.els.length = b.els.length
  · rw [show ieq (a.els.length : Nat) (b.els.length : Nat) = true by rw [ieq_iff, hl], Bool.not_true, cond_false]
    have := sa_law (a := a) (b := b) (ko := some [Rs.d t (.b true)]) (kr := some [Rs.d t (.b false)]) (kx := fun q => match q with
      | .o a1 b1 n1 i1 => some [.d t (.b true)]
      | .r a1 b1 n1 i1 => some [.d t (.b false)]) (fun _ _ => rfl) (fun _ _ => rfl) a.els b.els [] [] (hid FU) rfl rfl rfl hl (by simpa using g1) (by omega)
    refine this.trans ?_
    cases veqL a.els b.els <;> rfl
  · rw [show ieq (a.els.length : Nat) (b.els.length : Nat) = false by rw [← Bool.not_eq_true, ieq_iff]; omega, Bool.not_false, cond_true, veqL_len hl]
theorem sxG_law {t : Nat} {a b : V} (ha : (D.slice .str).has a) (hb : (D.slice .str).has b) (hg : sag [a, b] = true) : sxG t a b = some (sar t [a, b]) := by
  have hg : (Nat.ble a.els.length 100000 && Nat.ble b.els.length 100000) = true := hg
  simp only [Bool.and_eq_true, Nat.ble_eq] at hg
  obtain ⟨g1, g2⟩ := hg
  have hq := fq_big
  unfold sxG
  rw [ln_in (by omega), ln_in (by omega), ln_in (by omega)]
  show _ = some [Rs.d t (.b (veqL a.els b.els))]
  by_cases hl : a.els.length = b.els.length
  · rw [show ieq (a.els.length : Nat) (b.els.length : Nat) = true by rw [ieq_iff, hl], Bool.not_true, cond_false]
    have := sx_law (a := a) (b := b) (ko := some [Rs.d t (.b true)]) (kr := some [Rs.d t (.b false)]) (kx := fun q => match q with
      | .o a1 b1 n1 i1 => some [.d t (.b true)]
      | .r a1 b1 n1 i1 => some [.d t (.b false)]) (fun _ _ => rfl) (fun _ _ => rfl) a.els b.els [] [] (hid FU) rfl rfl rfl hl (by simpa using g1) (by omega) (fun x hx => by obtain ⟨ns, rfl, _⟩ := slice_els ha x hx; exact ⟨_, rfl⟩) (fun x hx => by obtain ⟨ns, rfl, _⟩ := slice_els hb x hx; exact ⟨_, rfl⟩)
    refine this.trans ?_
    cases veqL a.els b.els <;> rfl
  · rw [show ieq (a.els.length : Nat) (b.els.length : Nat) = false by rw [← Bool.not_eq_true, ieq_iff]; omega, Bool.not_false, cond_true, veqL_len hl]
theorem hn_law {nm : List V} {l : V} {kx : QHn → Option R} : ∀ (r a xs : List V) (fuel : Nat), l.els = a ++ r → a.length + r.length ≤ 100000 → xs.length ≤ a.length → r.length < fuel →
    lpC (BHn R) fuel (.m nm l xs (l.els.length : Nat) (a.length : Nat)) kx = kx (.o nm l (xs ++ histS nm r) (l.els.length : Nat) (l.els.length : Nat)) := by
  intro r
  induction r with
  | nil =>
    intro a xs fuel he hz hx hf
    obtain ⟨f, rfl⟩ : ∃ f, fuel = f + 1 := ⟨fuel - 1, by omega⟩
    rw [List.append_nil] at he
    rw [lpC, BHn_m, ix_f he, cond_false]
    simp only [histS, List.filter_nil, List.append_nil, he]
  | cons x r ih =>
    intro a xs fuel he hz hx hf
    obtain ⟨f, rfl⟩ : ∃ f, fuel = f + 1 := ⟨fuel - 1, by omega⟩
    simp only [List.length_cons] at hz hf
    have hle : l.els.length = a.length + (r.length + 1) := by rw [he]; simp
    have hat : l.nth ((a.length : Nat) : Int).toNat = x := nth_at he
    rw [lpC, BHn_m, ix_t he, cond_true, ck_in (by omega) (by omega), hat]
    have e1 : histS nm (x :: r) = bif veqL (nmE x) nm then x :: histS nm r else histS nm r := by
      simp only [histS, List.filter_cons]; cases veqL (nmE x) nm <;> rfl
    rw [e1]
    cases veqL (nmE x) nm with
    | true =>
      have ih := ih (a ++ [x]) (xs ++ [x]) f (by rw [he]; simp) (by simp only [List.length_append, List.length_singleton]; omega) (by simp only [List.length_append, List.length_singleton]; omega) (by omega)
      simp only [List.length_append, List.length_singleton, List.append_assoc, List.singleton_append] at ih
      rw [cond_true, cond_true, lim_in (by simp only [List.length_singleton]; omega), i_next (by omega)]
      exact ih
    | false =>
      have ih := ih (a ++ [x]) xs f (by rw [he]; simp) (by simp only [List.length_append, List.length_singleton]; omega) (by simp only [List.length_append, List.length_singleton]; omega) (by omega)
      simp only [List.length_append, List.length_singleton] at ih
      rw [cond_false, cond_false, i_next (by omega)]
      exact ih
def beN (nm : List V) (xs : List V) : Nat := (xs.takeWhile fun x => sLt x.els nm).length
theorem ni_law {e l : V} {n i : Int} {xs : List V} {kx : QNi → Option R} : ∀ (r p : List V) (fuel : Nat), xs = p ++ r → xs.length ≤ 100000 → r.length < fuel →
    lpC (BNi R) fuel (.m xs e (p.length : Nat) l n i) kx = kx (.o xs e ((p.length + beN (nmE e) r : Nat) : Int) l n i) := by
  intro r
  induction r with
  | nil =>
    intro p fuel he hz hf
    obtain ⟨f, rfl⟩ : ∃ f, fuel = f + 1 := ⟨fuel - 1, by omega⟩
    rw [List.append_nil] at he
    subst he
    rw [lpC, BNi_m, ln_in (by omega)]
    rw [show ilt ((xs.length : Nat) : Int) ((xs.length : Nat) : Int) = false by rw [ilt_d]; simp, cond_false]
    rfl
  | cons x r ih =>
    intro p fuel he hz hf
    obtain ⟨f, rfl⟩ : ∃ f, fuel = f + 1 := ⟨fuel - 1, by omega⟩
    simp only [List.length_cons] at hf
    have hle : xs.length = p.length + (r.length + 1) := by rw [he]; simp
    have hat : xs.getD ((p.length : Nat) : Int).toNat .n = x := by
      rw [he, Int.toNat_natCast, List.getD_eq_getElem?_getD, List.getElem?_append_right (Nat.le_refl _), Nat.sub_self]; rfl
    rw [lpC, BNi_m, ln_in (by omega), show ilt ((p.length : Nat) : Int) ((xs.length : Nat) : Int) = true by rw [ilt_d]; simp; omega, cond_true, ck_in (by omega) (by omega), hat]
    have e1 : beN (nmE e) (x :: r) = bif sLt x.els (nmE e) then 1 + beN (nmE e) r else 0 := by
      simp only [beN, List.takeWhile_cons]
      cases sLt x.els (nmE e) with
      | true => simp; omega
      | false => rfl
    rw [e1]
    have ih := ih (p ++ [x]) f (by rw [he]; simp) hz (by omega)
    simp only [List.length_append, List.length_singleton] at ih
    show (bif sLt x.els (nmE e) then _ else _) = _
    cases sLt x.els (nmE e) with
    | true =>
      rw [cond_true, cond_true, i_next (by omega), ih, Nat.add_assoc]
    | false => rfl
theorem beN_le (nm : List V) (xs : List V) : beN nm xs ≤ xs.length := (List.takeWhile_sublist _).length_le
theorem insN_be (nm : List V) : ∀ xs : List V, insN nm xs = if h : beN nm xs < xs.length then (bif veqL (xs[beN nm xs]).els nm then xs else xs.take (beN nm xs) ++ .s nm :: xs.drop (beN nm xs)) else xs ++ [.s nm] := by
  intro xs
  induction xs with
  | nil => rfl
  | cons x r ih =>
    have e1 : beN nm (x :: r) = bif sLt x.els nm then beN nm r + 1 else 0 := by
      simp only [beN, List.takeWhile_cons]
      cases sLt x.els nm <;> rfl
    simp only [insN]
    cases h : sLt x.els nm with
    | true =>
      rw [cond_true, ih]
      rw [h, cond_true] at e1
      simp only [e1, List.length_cons, Nat.add_lt_add_iff_right]
      by_cases hl : beN nm r < r.length
      · rw [dif_pos hl, dif_pos hl]
        simp only [List.getElem_cons_succ, List.take_succ_cons, List.drop_succ_cons, List.cons_append]
        cases veqL (r[beN nm r]).els nm <;> rfl
      · rw [dif_neg hl, dif_neg hl]; rfl
    | false =>
      rw [h, cond_false] at e1
      rw [cond_false]
      simp only [e1, List.length_cons, Nat.zero_lt_succ, dif_pos, List.getElem_cons_zero, List.take_zero, List.drop_zero, List.nil_append]
theorem insN_len (nm : List V) (xs : List V) : (insN nm xs).length ≤ xs.length + 1 := by
  have h1 := beN_le nm xs
  rw [insN_be]
  split
  · cases veqL (xs[beN nm xs]).els nm
    · simp only [cond_false, List.length_append, List.length_take, List.length_cons, List.length_drop]; omega
    · simp
  · simp
end Go.Vm

namespace Go.Vm
open Go.RowKit
variable {R : Type}
theorem no_law {l : V} {kx : QNo → Option R} : ∀ (r a xs : List V) (fuel : Nat), l.els = a ++ r → a.length + r.length ≤ 10000 → xs.length ≤ a.length → r.length < fuel →
    lpC (BNo R) fuel (.m xs l (l.els.length : Nat) (a.length : Nat)) kx = kx (.o (namesN xs r) l (l.els.length : Nat) (l.els.length : Nat)) := by
  intro r
  induction r with
  | nil =>
    intro a xs fuel he hz hx hf
    obtain ⟨f, rfl⟩ : ∃ f, fuel = f + 1 := ⟨fuel - 1, by omega⟩
    rw [List.append_nil] at he
    rw [lpC, BNo_m, ix_f he, cond_false]
    simp only [namesN, List.foldl_nil, he]
  | cons x r ih =>
    intro a xs fuel he hz hx hf
    obtain ⟨f, rfl⟩ : ∃ f, fuel = f + 1 := ⟨fuel - 1, by omega⟩
    simp only [List.length_cons] at hz hf
    have hle : l.els.length = a.length + (r.length + 1) := by rw [he]; simp
    have hat : l.nth ((a.length : Nat) : Int).toNat = x := nth_at he
    have hq := fq_big
    have hin := insN_len (nmE x) xs
    have ih := ih (a ++ [x]) (insN (nmE x) xs) f (by rw [he]; simp) (by simp only [List.length_append, List.length_singleton]; omega) (by simp only [List.length_append, List.length_singleton]; omega) (by omega)
    simp only [List.length_append, List.length_singleton] at ih
    rw [lpC, BNo_m, ix_t he, cond_true, ck_in (by omega) (by omega), hat]
    have hni := ni_law (R := R) (e := x) (l := l) (n := (l.els.length : Nat)) (i := (a.length : Nat)) (xs := xs) (kx := fun q => match q with
      | .o xs1 e1 a1 l1 n1 i1 =>
      ln xs1.length <|
      bif ieq a1 (xs1.length : Nat) then
      bif ((ile 0 a1) && (ile a1 (xs1.length : Nat))) && (ile (xs1.length : Nat) (xs1.length : Nat)) then
      bif Nat.ble ((0 + a1.toNat) + (((xs1.length : Nat) - a1)).toNat) xs1.length then
      lim (((List.replicate 0 (V.s []))).length + ((List.take ((((xs1.length : Nat) - a1)).toNat) (List.drop (0 + a1.toNat) xs1))).length) <|
      bif ieq a1 a1 then
      bif ((ile 0 (0 : Nat)) && (ile (0 : Nat) a1)) && (ile a1 (xs1.length : Nat)) then
      lim (((List.take (((a1 - (0 : Nat))).toNat) (List.drop 0 xs1))).length + ([(V.s (((V.nth e1 0)).els))]).length) <|
      lim ((((List.take (((a1 - (0 : Nat))).toNat) (List.drop 0 xs1)) ++ [(V.s (((V.nth e1 0)).els))])).length + (((List.replicate 0 (V.s [])) ++ (List.take ((((xs1.length : Nat) - a1)).toNat) (List.drop (0 + a1.toNat) xs1)))).length) <|
      lpC (BNo R) f (.m (((List.take (((a1 - (0 : Nat))).toNat) (List.drop 0 xs1)) ++ [(V.s (((V.nth e1 0)).els))]) ++ ((List.replicate 0 (V.s [])) ++ (List.take ((((xs1.length : Nat) - a1)).toNat) (List.drop (0 + a1.toNat) xs1)))) l1 n1 (W64 (i1 + 1))) kx
      else
      none
      else
      none
      else
      none
      else
      none
      else
      ck a1 xs1.length <|
      bif !(veqL (((List.getD xs1 a1.toNat .n)).els) (((V.nth e1 0)).els)) then
      bif ((ile 0 a1) && (ile a1 (xs1.length : Nat))) && (ile (xs1.length : Nat) (xs1.length : Nat)) then
      bif Nat.ble ((0 + a1.toNat) + (((xs1.length : Nat) - a1)).toNat) xs1.length then
      lim (((List.replicate 0 (V.s []))).length + ((List.take ((((xs1.length : Nat) - a1)).toNat) (List.drop (0 + a1.toNat) xs1))).length) <|
      bif ieq a1 a1 then
      bif ((ile 0 (0 : Nat)) && (ile (0 : Nat) a1)) && (ile a1 (xs1.length : Nat)) then
      lim (((List.take (((a1 - (0 : Nat))).toNat) (List.drop 0 xs1))).length + ([(V.s (((V.nth e1 0)).els))]).length) <|
      lim ((((List.take (((a1 - (0 : Nat))).toNat) (List.drop 0 xs1)) ++ [(V.s (((V.nth e1 0)).els))])).length + (((List.replicate 0 (V.s [])) ++ (List.take ((((xs1.length : Nat) - a1)).toNat) (List.drop (0 + a1.toNat) xs1)))).length) <|
      lpC (BNo R) f (.m (((List.take (((a1 - (0 : Nat))).toNat) (List.drop 0 xs1)) ++ [(V.s (((V.nth e1 0)).els))]) ++ ((List.replicate 0 (V.s [])) ++ (List.take ((((xs1.length : Nat) - a1)).toNat) (List.drop (0 + a1.toNat) xs1)))) l1 n1 (W64 (i1 + 1))) kx
      else
      none
      else
      none
      else
      none
      else
      none
      else
      lpC (BNo R) f (.m xs1 l1 n1 (W64 (i1 + 1))) kx) xs [] (hid FU) rfl (by omega) (by omega)
    refine hni.trans ?_
    clear hni
    simp only [List.length_nil, Nat.zero_add]
    have hb := beN_le (nmE x) xs
    have e1 : namesN xs (x :: r) = namesN (insN (nmE x) xs) r := rfl
    rw [e1]
    refine Eq.trans ?_ ih
    clear ih
    have hio := insN_be (nmE x) xs
    generalize hbe : beN (nmE x) xs = b at hb hio
    have c1 : ((b : Nat) : Int).toNat = b := by omega
    have c2 : (((xs.length : Nat) : Int) - ((b : Nat) : Int)).toNat = xs.length - b := by omega
    have c3 : ((((b : Nat) : Int) - ((0 : Nat) : Int))).toNat = b := by omega
    have d1 : ((ile 0 ((b : Nat) : Int) && ile ((b : Nat) : Int) ((xs.length : Nat) : Int)) && ile ((xs.length : Nat) : Int) ((xs.length : Nat) : Int)) = true := by simp only [ile_d, Bool.and_eq_true, decide_eq_true_eq]; omega
    have d2 : ((ile 0 ((0 : Nat) : Int) && ile ((0 : Nat) : Int) ((b : Nat) : Int)) && ile ((b : Nat) : Int) ((xs.length : Nat) : Int)) = true := by simp only [ile_d, Bool.and_eq_true, decide_eq_true_eq]; omega
    have d3 : Nat.ble (b + (xs.length - b)) xs.length = true := Nat.ble_eq_true_of_le (by omega)
    have d4 : ieq ((b : Nat) : Int) ((b : Nat) : Int) = true := by rw [ieq_iff]
    have tk : List.take (xs.length - b) (List.drop b xs) = List.drop b xs := List.take_of_length_le (by simp)
    have fin : (((List.take b (List.drop 0 xs)) ++ [V.s (nmE x)]) ++ ((List.replicate 0 (V.s [])) ++ List.drop b xs)) = List.take b xs ++ .s (nmE x) :: List.drop b xs := by simp
    simp only [c1, c2, c3, d1, d2, d3, d4, tk, cond_true]
    rw [ln_in (by omega)]
    have l1 : ((List.replicate 0 (V.s [])).length + (List.drop b xs).length) ≤ 1073741824 := by simp; omega
    have l2 : ((List.take b (List.drop 0 xs)).length + [V.s (nmE x)].length) ≤ 1073741824 := by simp; omega
    have l3 : (((List.take b (List.drop 0 xs) ++ [V.s (nmE x)])).length + ((List.replicate 0 (V.s []) ++ List.drop b xs)).length) ≤ 1073741824 := by simp; omega
    rw [lim_in l1, lim_in l2, lim_in l3, fin, i_next (by omega)]
    by_cases hbl : b < xs.length
    · rw [dif_pos hbl] at hio
      rw [show ieq ((b : Nat) : Int) ((xs.length : Nat) : Int) = false by rw [← Bool.not_eq_true, ieq_iff]; omega, cond_false, ck_in (by omega) (by omega)]
      have hg : List.getD xs b .n = xs[b] := by
        rw [List.getD_eq_getElem?_getD, List.getElem?_eq_getElem hbl]; rfl
      rw [hg]
      rw [hio]
      cases veqL (xs[b]).els (nmE x) <;> rfl
    · rw [dif_neg hbl] at hio
      have hbe : b = xs.length := by omega
      subst hbe
      rw [show ieq ((xs.length : Nat) : Int) ((xs.length : Nat) : Int) = true by rw [ieq_iff], cond_true, hio]
      simp
def nmg : List V → Bool
  | [l] => Nat.ble l.els.length 10000
  | _ => false
def nmr (t : Nat) : List V → List Rs
  | [l] => [.r t (namesN [] l.els) false]
  | _ => []
noncomputable def noG (t : Nat) (l : V) : Option (List Rs) := ln l.els.length <| lpC (BNo (List Rs)) (hid FU) (.m (List.replicate 0 (V.s [])) l (l.els.length : Nat) 0) fun q => match q with
  | .o xs1 l1 n1 i1 => some [.r t xs1 false]
theorem noG_law {t : Nat} {l : V} (hg : nmg [l] = true) : noG t l = some (nmr t [l]) := by
  have hg : Nat.ble l.els.length 10000 = true := hg
  simp only [Nat.ble_eq] at hg
  have hq := fq_big
  unfold noG
  rw [ln_in (by omega)]
  exact no_law (l := l) (kx := fun q => match q with | .o xs1 l1 n1 i1 => some [Rs.r t xs1 false]) l.els [] [] (hid FU) rfl (by simpa using hg) (by simp) (by omega)
def hig : List V → Bool
  | [l, n] => Nat.ble l.els.length 10000
  | _ => false
def hir (t : Nat) : List V → List Rs
  | [l, n] => [.r t (histS n.els l.els) false]
  | _ => []
noncomputable def hiG (t : Nat) (z l : V) (n : List V) : Option (List Rs) := ln l.els.length <| lpC (BHn (List Rs)) (hid FU) (.m n l (List.replicate 0 z) (l.els.length : Nat) 0) fun q => match q with
  | .o nm1 l1 xs1 n1 i1 => some [.r t xs1 false]
theorem hiG_law {t : Nat} {z l : V} {n : List V} (hg : hig [l, .s n] = true) : hiG t z l n = some (hir t [l, .s n]) := by
  have hg : Nat.ble l.els.length 10000 = true := hg
  simp only [Nat.ble_eq] at hg
  have hq := fq_big
  unfold hiG
  rw [ln_in (by omega)]
  exact hn_law (l := l) (kx := fun q => match q with | .o nm1 l1 xs1 n1 i1 => some [Rs.r t xs1 false]) l.els [] [] (hid FU) rfl (by simp; omega) (by simp) (by omega)
def noE : V := .l [.s [], .s [], .i 0, .l [.l (List.replicate 32 (.i 0)), .i 0]]
def lsV (xs : List V) : V := xs.getD (W64 ((xs.length : Nat) - 1)).toNat .n
def liveQ (n : List V) (l : V) (h : Int) : Bool := !(ieq ((histS n l.els).length : Nat) 0 || ile (W64 (((lsV (histS n l.els)).nth 2).int + 8)) h)
def liveE (n : List V) (l : V) (h : Int) : V := bif liveQ n l h then lsV (histS n l.els) else noE
def lig : List V → Bool
  | [l, n, h] => Nat.ble l.els.length 10000
  | _ => false
def lir (t b : Nat) : List V → List Rs
  | [l, n, h] => [.d t (liveE n.els l h.int), .d b (.b (liveQ n.els l h.int))]
  | _ => []
def liG (t b : Nat) (l : V) (n : List V) (h : Int) : Option (List Rs) :=
  bif Nat.ble l.els.length 10000 then ln (histS n l.els).length <|
    bif ieq ((histS n l.els).length : Nat) 0 then some [.d t noE, .d b (.b false)] else
    ln (histS n l.els).length <| ck (W64 ((histS n l.els).length - 1)) (histS n l.els).length <|
    bif ile (W64 (((lsV (histS n l.els)).nth 2).int + 8)) h then some [.d t noE, .d b (.b false)] else
    ln (histS n l.els).length <| ck (W64 ((histS n l.els).length - 1)) (histS n l.els).length <| some [.d t (lsV (histS n l.els)), .d b (.b true)] else none
theorem liG_law {t b : Nat} {l : V} {n : List V} {h : Int} (hg : lig [l, .s n, .i h] = true) : liG t b l n h = some (lir t b [l, .s n, .i h]) := by
  have hg : Nat.ble l.els.length 10000 = true := hg
  have hl : (histS n l.els).length ≤ l.els.length := List.length_filter_le _ _
  have g := Nat.le_of_ble_eq_true hg
  unfold liG
  rw [hg, cond_true, ln_in (by omega), ln_in (by omega), ln_in (by omega)]
  show _ = some [Rs.d t (liveE n l h), .d b (.b (liveQ n l h))]
  unfold liveE liveQ
  cases h1 : ieq ((histS n l.els).length : Nat) 0 with
  | true => rfl
  | false =>
    have : (histS n l.els).length ≠ 0 := fun q => by
      have : ieq ((histS n l.els).length : Nat) 0 = true := by rw [ieq_iff, q]; rfl
      rw [this] at h1; cases h1
    rw [cond_false, w64_in (by omega) (by omega), ck_in (by omega) (by omega), ck_in (by omega) (by omega)]
    cases ile (W64 (((lsV (histS n l.els)).nth 2).int + 8)) h <;> rfl
def lastQ (l : V) : Bool := !(ieq (l.els.length : Nat) 0)
def lastE (l : V) : V := bif lastQ l then V.nth l (W64 ((l.els.length : Nat) - 1)).toNat else noE
def leg : List V → Bool
  | [l] => Nat.ble l.els.length 10000
  | _ => false
def ler (t b : Nat) : List V → List Rs
  | [l] => [.d t (lastE l), .d b (.b (lastQ l))]
  | _ => []
def leG (t b : Nat) (l : V) : Option (List Rs) := ln l.els.length <| bif ieq (l.els.length : Nat) 0 then some [.d t noE, .d b (.b false)] else ln l.els.length <| ck (W64 ((l.els.length : Nat) - 1)) l.els.length <| some [.d t (V.nth l (W64 ((l.els.length : Nat) - 1)).toNat), .d b (.b true)]
theorem leG_law {t b : Nat} {l : V} (hg : leg [l] = true) : leG t b l = some (ler t b [l]) := by
  have hg : Nat.ble l.els.length 10000 = true := hg
  simp only [Nat.ble_eq] at hg
  unfold leG
  rw [ln_in (by omega), ln_in (by omega)]
  show _ = some [Rs.d t (lastE l), .d b (.b (lastQ l))]
  unfold lastE lastQ
  cases h : ieq (l.els.length : Nat) 0 with
  | true => rfl
  | false =>
    have : l.els.length ≠ 0 := fun q => by
      have : ieq (l.els.length : Nat) 0 = true := by rw [ieq_iff, q]; rfl
      rw [this] at h; cases h
    rw [cond_false, w64_in (by omega) (by omega), ck_in (by omega) (by omega)]; rfl
def lvr (b : Nat) : List V → List Rs
  | [e, h] => [.d b (.b (ilt (W64 (h.int - (e.nth 2).int)) 8))]
  | _ => []
def clg : List V → Bool
  | [l] => Nat.ble l.els.length 10000
  | _ => false
def clr (t : Nat) : List V → List Rs
  | [l] => [.r t l.els (isN l)]
  | _ => []
end Go.Vm

namespace Go.Vm
open Go.RowKit
variable {T : TT} {P : Program}
def sortKC (g st : Nat) : SymC := fun R args of nx k =>
  match args with
  | [.f g' [.p ib tb []]] => bif Nat.beq g g' then (match of ib with
    | some (.box tb' (.m mid) _) => match of mid with
      | some o => match mapKs o with
        | some (kt, es) => bif Nat.beq kt st && (okK es && Nat.ble es.length 1000000) then k ⟨.o nx 1, [(nx, .row st 1 (sortV (es.map (·.1))) (sortV (es.map (·.1))).isEmpty false)], [ib, mid], nx + 1⟩ else none
        | none => none
      | _ => none
    | _ => none) else none
  | _ => none
theorem sortKC_eq (g st : Nat) (R : Type) (args : List A) (of : Nat → Option Ob) (nx : Nat) (k : Eff → Option R) : sortKC g st R args of nx k = ob (sortK g st args of nx) k := by
  unfold sortKC
  split
  · rename_i g' ib tb
    simp only [sortK]
    cases Nat.beq g g' with
    | false => rfl
    | true =>
      simp only [cond_true]
      cases of ib with
      | none => rfl
      | some o => cases o with
        | box tb' a sh => cases a with
          | m mid =>
            simp only
            cases of mid with
            | none => rfl
            | some o =>
              simp only
              cases mapKs o with
              | none => rfl
              | some p =>
                obtain ⟨kt, es⟩ := p
                simp only [seeL_eq]
                cases (Nat.beq kt st && (okK es && Nat.ble es.length 1000000)) <;> rfl
          | _ => rfl
        | _ => rfl
  · rename_i h
    unfold sortK
    split
    · rename_i g' ib tb; exact absurd rfl (h _ _ _)
    · rfl
theorem sortKC_dir (g st : Nat) : (sortKC g st).dir = sortK g st := by
  funext args of nx
  show sortKC g st Eff args of nx some = _
  rw [sortKC_eq]
  cases sortK g st args of nx <;> rfl
theorem sortKC_nat (g st : Nat) : (sortKC g st).nat := by
  intro R args of nx k
  rw [sortKC_dir, sortKC_eq]
end Go.Vm

namespace Go.Vm
open Go.RowKit
inductive PSr where
  | m (l : V) (fr : List V) (m : Int) (h : Int) (xs : List V) (ks : List V) (nk : Bool) (n : Int) (i : Int)
inductive QSr where
  | o (l : V) (fr : List V) (m : Int) (h : Int) (xs : List V) (ks : List V) (nk : Bool) (n : Int) (i : Int)
def BSr (R : Type) (p : PSr) (K : PSr → Option R) (kx : QSr → Option R) : Option R :=
  match p with
  | .m l fr m h xs ks nk n i =>
    bif ilt i n then
      ck i ks.length <|
      bif Nat.ble ((l.els).length) 10000 then
      bif liveQ (((List.getD ks i.toNat .n)).els) l h then
      bif sLt (((List.getD ks i.toNat .n)).els) fr then
      K (.m l fr m h xs ks nk n (W64 (i + 1)))
      else
      ln xs.length <|
      bif ilt (xs.length : Nat) m then
      lim (xs.length + ([(liveE (((List.getD ks i.toNat .n)).els) l h)]).length) <|
      K (.m l fr m h (xs ++ [(liveE (((List.getD ks i.toNat .n)).els) l h)]) ks nk n (W64 (i + 1)))
      else
      K (.m l fr m h xs ks nk n (W64 (i + 1)))
      else
      K (.m l fr m h xs ks nk n (W64 (i + 1)))
      else
      none
      else
      kx (.o l fr m h xs ks nk n i)
abbrev BSr_m := @BSr.eq_1
inductive PEr where
  | m (l : V) (h : Int) (xs : List V) (ks : List V) (nk : Bool) (n : Int) (i : Int)
inductive QEr where
  | o (l : V) (h : Int) (xs : List V) (ks : List V) (nk : Bool) (n : Int) (i : Int)
def BEr (R : Type) (p : PEr) (K : PEr → Option R) (kx : QEr → Option R) : Option R :=
  match p with
  | .m l h xs ks nk n i =>
    bif ilt i n then
      ck i ks.length <|
      bif Nat.ble ((l.els).length) 10000 then
      ln (((histS (((List.getD ks i.toNat .n)).els) l.els)).length) <|
      ck (W64 ((((histS (((List.getD ks i.toNat .n)).els) l.els)).length : Nat) - 1)) (((histS (((List.getD ks i.toNat .n)).els) l.els)).length) <|
      bif ieq (W64 (((V.nth (List.getD (histS (((List.getD ks i.toNat .n)).els) l.els) (((W64 ((((histS (((List.getD ks i.toNat .n)).els) l.els)).length : Nat) - 1))).toNat) .n) 2)).int + 8)) h then
      lim (xs.length + ([(V.s (((List.getD ks i.toNat .n)).els))]).length) <|
      K (.m l h (xs ++ [(V.s (((List.getD ks i.toNat .n)).els))]) ks nk n (W64 (i + 1)))
      else
      K (.m l h xs ks nk n (W64 (i + 1)))
      else
      none
      else
      kx (.o l h xs ks nk n i)
abbrev BEr_m := @BEr.eq_1
inductive PAr where
  | m (l : V) (xs : List V) (ks : List V) (nk : Bool) (n : Int) (i : Int)
inductive QAr where
  | o (l : V) (xs : List V) (ks : List V) (nk : Bool) (n : Int) (i : Int)
def BAr (R : Type) (p : PAr) (K : PAr → Option R) (kx : QAr → Option R) : Option R :=
  match p with
  | .m l xs ks nk n i =>
    bif ilt i n then
      ck i ks.length <|
      bif Nat.ble ((l.els).length) 10000 then
      lim (xs.length + ((histS (((List.getD ks i.toNat .n)).els) l.els)).length) <|
      K (.m l (xs ++ (histS (((List.getD ks i.toNat .n)).els) l.els)) ks nk n (W64 (i + 1)))
      else
      none
      else
      kx (.o l xs ks nk n i)
abbrev BAr_m := @BAr.eq_1
inductive PSw where
  | m (es : List (V × V × Bool)) (fr : List V) (m : Int) (h : Int) (xs : List V) (nl : Bool) (ks : List V) (nk : Bool) (n : Int) (i : Int)
inductive QSw where
  | o (es : List (V × V × Bool)) (fr : List V) (m : Int) (h : Int) (xs : List V) (nl : Bool) (ks : List V) (nk : Bool) (n : Int) (i : Int)
def BSw (R : Type) (p : PSw) (K : PSw → Option R) (kx : QSw → Option R) : Option R :=
  match p with
  | .m es fr m h xs nl ks nk n i =>
    bif ilt i n then
      ck i ks.length <|
      ln xs.length <|
      bif ile m (xs.length : Nat) then
      kx (.o es fr m h xs nl ks nk n i)
      else
      bif hasS (.s (((List.getD ks i.toNat .n)).els)) es then
      bif Nat.ble ((((valS (.s (((List.getD ks i.toNat .n)).els)) es)).els).length) 10000 then
      bif lastQ (valS (.s (((List.getD ks i.toNat .n)).els)) es) then
      bif ilt (W64 (h - ((V.nth (lastE (valS (.s (((List.getD ks i.toNat .n)).els)) es)) 2)).int)) 8 then
      bif !(sLt (((List.getD ks i.toNat .n)).els) fr) then
      lim (xs.length + ([(lastE (valS (.s (((List.getD ks i.toNat .n)).els)) es))]).length) <|
      K (.m es fr m h (xs ++ [(lastE (valS (.s (((List.getD ks i.toNat .n)).els)) es))]) (nl && ([(lastE (valS (.s (((List.getD ks i.toNat .n)).els)) es))]).isEmpty) ks nk n (W64 (i + 1)))
      else
      K (.m es fr m h xs nl ks nk n (W64 (i + 1)))
      else
      K (.m es fr m h xs nl ks nk n (W64 (i + 1)))
      else
      K (.m es fr m h xs nl ks nk n (W64 (i + 1)))
      else
      none
      else
      K (.m es fr m h xs nl ks nk n (W64 (i + 1)))
      else
      kx (.o es fr m h xs nl ks nk n i)
abbrev BSw_m := @BSw.eq_1
inductive PEw where
  | m (es : List (V × V × Bool)) (h : Int) (xs : List V) (nl : Bool) (ks : List V) (nk : Bool) (n : Int) (i : Int)
inductive QEw where
  | o (es : List (V × V × Bool)) (h : Int) (xs : List V) (nl : Bool) (ks : List V) (nk : Bool) (n : Int) (i : Int)
def BEw (R : Type) (p : PEw) (K : PEw → Option R) (kx : QEw → Option R) : Option R :=
  match p with
  | .m es h xs nl ks nk n i =>
    bif ilt i n then
      ck i ks.length <|
      bif hasS (.s (((List.getD ks i.toNat .n)).els)) es then
      bif Nat.ble ((((valS (.s (((List.getD ks i.toNat .n)).els)) es)).els).length) 10000 then
      bif lastQ (valS (.s (((List.getD ks i.toNat .n)).els)) es) then
      bif ieq (W64 (((V.nth (lastE (valS (.s (((List.getD ks i.toNat .n)).els)) es)) 2)).int + 8)) h then
      lim (xs.length + ([(V.s (((List.getD ks i.toNat .n)).els))]).length) <|
      K (.m es h (xs ++ [(V.s (((List.getD ks i.toNat .n)).els))]) (nl && ([(V.s (((List.getD ks i.toNat .n)).els))]).isEmpty) ks nk n (W64 (i + 1)))
      else
      K (.m es h xs nl ks nk n (W64 (i + 1)))
      else
      K (.m es h xs nl ks nk n (W64 (i + 1)))
      else
      none
      else
      K (.m es h xs nl ks nk n (W64 (i + 1)))
      else
      kx (.o es h xs nl ks nk n i)
inductive PAw where
  | m (es : List (V × V × Bool)) (xs : List V) (nl : Bool) (ks : List V) (nk : Bool) (n : Int) (i : Int)
inductive QAw where
  | o (es : List (V × V × Bool)) (xs : List V) (nl : Bool) (ks : List V) (nk : Bool) (n : Int) (i : Int)
def BAw (R : Type) (p : PAw) (K : PAw → Option R) (kx : QAw → Option R) : Option R :=
  match p with
  | .m es xs nl ks nk n i =>
    bif ilt i n then
      ck i ks.length <|
      bif hasS (.s (((List.getD ks i.toNat .n)).els)) es then
      lim (xs.length + (((valS (.s (((List.getD ks i.toNat .n)).els)) es)).els).length) <|
      K (.m es (xs ++ ((valS (.s (((List.getD ks i.toNat .n)).els)) es)).els) (nl && (((valS (.s (((List.getD ks i.toNat .n)).els)) es)).els).isEmpty) ks nk n (W64 (i + 1)))
      else
      lim (xs.length + (([] : List V)).length) <|
      K (.m es (xs ++ ([] : List V)) (nl && (([] : List V)).isEmpty) ks nk n (W64 (i + 1)))
      else
      kx (.o es xs nl ks nk n i)
abbrev BAw_m := @BAw.eq_1
end Go.Vm

namespace Go.Vm
open Go.RowKit
variable {R : Type}
theorem names_len : ∀ (l xs : List V), (namesN xs l).length ≤ xs.length + l.length := by
  intro l
  induction l with
  | nil => intro xs; exact Nat.le_refl _
  | cons e r ih =>
    intro xs
    have h1 := ih (insN (nmE e) xs)
    have h2 := insN_len (nmE e) xs
    show (namesN (insN (nmE e) xs) r).length ≤ _
    simp only [List.length_cons]; omega
theorem names_mem {x : V} : ∀ {l xs : List V}, x ∈ namesN xs l → x ∈ xs ∨ ∃ e ∈ l, x = .s (nmE e) := by
  intro l
  induction l with
  | nil => intro xs h; exact .inl h
  | cons e r ih =>
    intro xs h
    rcases ih (show x ∈ namesN (insN (nmE e) xs) r from h) with h | ⟨e', h1, h2⟩
    · rcases insN_mem h with rfl | h
      · exact .inr ⟨e, by simp, rfl⟩
      · exact .inl h
    · exact .inr ⟨e', by simp [h1], h2⟩
theorem names_st : ∀ {l xs : List V}, StS xs → (∀ e ∈ l, isNm (nmE e)) → StS (namesN xs l) := by
  intro l
  induction l with
  | nil => intro xs h _; exact h
  | cons e r ih => intro xs h hn; exact ih (xs := insN (nmE e) xs) (insN_st (hn e (by simp)) h) (fun x hx => hn x (by simp [hx]))
theorem names_hist {k : V} {l : List V} (h : k ∈ namesN [] l) : histS k.els l ≠ [] := by
  rcases names_mem h with h | ⟨e, he, rfl⟩
  · cases h
  · intro q
    have : e ∈ histS (nmE e) l := List.mem_filter.2 ⟨he, (veqL_iff _ _).2 rfl⟩
    rw [show (V.s (nmE e)).els = nmE e from rfl] at q
    rw [q] at this; cases this
theorem gd_at {ks a r : List V} {k : V} (h : ks = a ++ k :: r) : List.getD ks ((a.length : Nat) : Int).toNat .n = k := by
  rw [h, Int.toNat_natCast, List.getD_eq_getElem?_getD, List.getElem?_append_right (Nat.le_refl _), Nat.sub_self]; rfl
theorem il_t {ks a r : List V} {k : V} (h : ks = a ++ k :: r) : ilt ((a.length : Nat) : Int) ((ks.length : Nat) : Int) = true := by rw [h, ilt_d]; simp; omega
theorem il_f (n : Nat) : ilt (n : Int) (n : Int) = false := by rw [ilt_d]; simp
def scanR (fr : List V) (m : Int) (l : V) (h : Int) : List V → List V → List V
  | [], xs => xs
  | k :: r, xs => scanR fr m l h r (bif liveQ k.els l h && (!(sLt k.els fr) && ilt (xs.length : Nat) m) then xs ++ [liveE k.els l h] else xs)
theorem sr_law {l : V} {fr : List V} {m h : Int} {nk : Bool} {ks : List V} {kx : QSr → Option R} (hl : l.els.length ≤ 10000) : ∀ (r a xs : List V) (fuel : Nat), ks = a ++ r → ks.length ≤ 10000 → xs.length ≤ a.length → r.length < fuel →
    lpC (BSr R) fuel (.m l fr m h xs ks nk (ks.length : Nat) (a.length : Nat)) kx = kx (.o l fr m h (scanR fr m l h r xs) ks nk (ks.length : Nat) (ks.length : Nat)) := by
  have hlb : Nat.ble l.els.length 10000 = true := Nat.ble_eq_true_of_le hl
  intro r
  induction r with
  | nil =>
    intro a xs fuel he hz hx hf
    obtain ⟨f, rfl⟩ : ∃ f, fuel = f + 1 := ⟨fuel - 1, by omega⟩
    rw [List.append_nil] at he
    subst he
    rw [lpC, BSr_m, il_f, cond_false]; rfl
  | cons k r ih =>
    intro a xs fuel he hz hx hf
    obtain ⟨f, rfl⟩ : ∃ f, fuel = f + 1 := ⟨fuel - 1, by omega⟩
    simp only [List.length_cons] at hf
    have hle : ks.length = a.length + (r.length + 1) := by rw [he]; simp
    have nx : ∀ ys : List V, ys.length ≤ a.length + 1 → lpC (BSr R) f (.m l fr m h ys ks nk (ks.length : Nat) (W64 ((a.length : Nat) + 1))) kx = kx (.o l fr m h (scanR fr m l h r ys) ks nk (ks.length : Nat) (ks.length : Nat)) := by
      intro ys hy
      have ih := ih (a ++ [k]) ys f (by rw [he]; simp) hz (by simpa using hy) (by omega)
      simp only [List.length_append, List.length_singleton] at ih
      rw [i_next (by omega)]
      exact ih
    rw [lpC, BSr_m, il_t he, cond_true, ck_in (by omega) (by omega), hlb, cond_true, gd_at he]
    simp only [scanR]
    cases liveQ k.els l h with
    | false => exact nx xs (by omega)
    | true =>
      rw [cond_true, Bool.true_and]
      cases sLt k.els fr with
      | true => exact nx xs (by omega)
      | false =>
        rw [cond_false, Bool.not_false, Bool.true_and, ln_in (by omega)]
        cases ilt (xs.length : Nat) m with
        | false => exact nx xs (by omega)
        | true =>
          rw [cond_true, cond_true, lim_in (by simp only [List.length_singleton]; omega)]
          exact nx _ (by simp; omega)
def endsR (l : V) (h : Int) : List V → List V → List V
  | [], xs => xs
  | k :: r, xs => endsR l h r (bif ieq (W64 (((lsV (histS k.els l.els)).nth 2).int + 8)) h then xs ++ [.s k.els] else xs)
theorem er_law {l : V} {h : Int} {nk : Bool} {ks : List V} {kx : QEr → Option R} (hl : l.els.length ≤ 10000) (hk : ∀ k ∈ ks, histS k.els l.els ≠ []) : ∀ (r a xs : List V) (fuel : Nat), ks = a ++ r → ks.length ≤ 10000 → xs.length ≤ a.length → r.length < fuel →
    lpC (BEr R) fuel (.m l h xs ks nk (ks.length : Nat) (a.length : Nat)) kx = kx (.o l h (endsR l h r xs) ks nk (ks.length : Nat) (ks.length : Nat)) := by
  have hlb : Nat.ble l.els.length 10000 = true := Nat.ble_eq_true_of_le hl
  intro r
  induction r with
  | nil =>
    intro a xs fuel he hz hx hf
    obtain ⟨f, rfl⟩ : ∃ f, fuel = f + 1 := ⟨fuel - 1, by omega⟩
    rw [List.append_nil] at he
    subst he
    rw [lpC, BEr_m, il_f, cond_false]; rfl
  | cons k r ih =>
    intro a xs fuel he hz hx hf
    obtain ⟨f, rfl⟩ : ∃ f, fuel = f + 1 := ⟨fuel - 1, by omega⟩
    simp only [List.length_cons] at hf
    have hle : ks.length = a.length + (r.length + 1) := by rw [he]; simp
    have nx : ∀ ys : List V, ys.length ≤ a.length + 1 → lpC (BEr R) f (.m l h ys ks nk (ks.length : Nat) (W64 ((a.length : Nat) + 1))) kx = kx (.o l h (endsR l h r ys) ks nk (ks.length : Nat) (ks.length : Nat)) := by
      intro ys hy
      have ih := ih (a ++ [k]) ys f (by rw [he]; simp) hz (by simpa using hy) (by omega)
      simp only [List.length_append, List.length_singleton] at ih
      rw [i_next (by omega)]
      exact ih
    have hh : (histS k.els l.els).length ≤ l.els.length := List.length_filter_le _ _
    have h0 : 0 < (histS k.els l.els).length := List.length_pos_iff.2 (hk k (by rw [he]; simp))
    have hw : W64 (((histS k.els l.els).length : Nat) - 1) = (((histS k.els l.els).length : Nat) : Int) - 1 := w64_in (by omega) (by omega)
    rw [lpC, BEr_m, il_t he, cond_true, ck_in (by omega) (by omega), hlb, cond_true, gd_at he, ln_in (by omega), ck_in (by rw [hw]; omega) (by rw [hw]; omega)]
    show (bif ieq (W64 (((lsV (histS k.els l.els)).nth 2).int + 8)) h then _ else _) = kx (.o l h (endsR l h r (bif ieq (W64 (((lsV (histS k.els l.els)).nth 2).int + 8)) h then xs ++ [.s k.els] else xs)) ks nk (ks.length : Nat) (ks.length : Nat))
    cases ieq (W64 (((lsV (histS k.els l.els)).nth 2).int + 8)) h with
    | false => exact nx xs (by omega)
    | true =>
      rw [cond_true, cond_true, lim_in (by simp only [List.length_singleton]; omega)]
      exact nx _ (by simp; omega)
def flatR (l : List V) : List V → List V → List V
  | [], xs => xs
  | k :: r, xs => flatR l r (xs ++ histS k.els l)
theorem ar_law {l : V} {nk : Bool} {ks : List V} {kx : QAr → Option R} (hl : l.els.length ≤ 10000) : ∀ (r a xs : List V) (fuel : Nat), ks = a ++ r → ks.length ≤ 10000 → xs.length ≤ a.length * 10000 → r.length < fuel →
    lpC (BAr R) fuel (.m l xs ks nk (ks.length : Nat) (a.length : Nat)) kx = kx (.o l (flatR l.els r xs) ks nk (ks.length : Nat) (ks.length : Nat)) := by
  have hlb : Nat.ble l.els.length 10000 = true := Nat.ble_eq_true_of_le hl
  intro r
  induction r with
  | nil =>
    intro a xs fuel he hz hx hf
    obtain ⟨f, rfl⟩ : ∃ f, fuel = f + 1 := ⟨fuel - 1, by omega⟩
    rw [List.append_nil] at he
    subst he
    rw [lpC, BAr_m, il_f, cond_false]; rfl
  | cons k r ih =>
    intro a xs fuel he hz hx hf
    obtain ⟨f, rfl⟩ : ∃ f, fuel = f + 1 := ⟨fuel - 1, by omega⟩
    simp only [List.length_cons] at hf
    have hle : ks.length = a.length + (r.length + 1) := by rw [he]; simp
    have hh : (histS k.els l.els).length ≤ l.els.length := List.length_filter_le _ _
    have ih := ih (a ++ [k]) (xs ++ histS k.els l.els) f (by rw [he]; simp) hz (by simp only [List.length_append, List.length_singleton]; omega) (by omega)
    simp only [List.length_append, List.length_singleton] at ih
    rw [lpC, BAr_m, il_t he, cond_true, ck_in (by omega) (by omega), hlb, cond_true, gd_at he, lim_in (by omega), i_next (by omega)]
    exact ih
def scg : List V → Bool
  | [l, f, m, h] => Nat.ble l.els.length 10000
  | _ => false
def scr (t : Nat) : List V → List Rs
  | [l, f, m, h] => [.r t (scanR f.els m.int l h.int (namesN [] l.els) []) false]
  | _ => []
noncomputable def scG (t : Nat) (z l : V) (fr : List V) (m h : Int) : Option (List Rs) := bif Nat.ble l.els.length 10000 then ln (namesN [] l.els).length <| lpC (BSr (List Rs)) (hid FU) (.m l fr m h (List.replicate 0 z) (namesN [] l.els) false ((namesN [] l.els).length : Nat) 0) fun q => match q with
  | .o l1 fr1 m1 h1 xs1 ks1 nk1 n1 i1 => some [.r t xs1 false] else none
theorem scG_law {t : Nat} {z l : V} {fr : List V} {m h : Int} (hg : scg [l, .s fr, .i m, .i h] = true) : scG t z l fr m h = some (scr t [l, .s fr, .i m, .i h]) := by
  have hg : Nat.ble l.els.length 10000 = true := hg
  have g := Nat.le_of_ble_eq_true hg
  have hq := fq_big
  have hn := names_len l.els []
  simp only [List.length_nil, Nat.zero_add] at hn
  unfold scG
  rw [hg, cond_true, ln_in (by omega)]
  exact sr_law (kx := fun q => match q with | .o l1 fr1 m1 h1 xs1 ks1 nk1 n1 i1 => some [Rs.r t xs1 false]) g (namesN [] l.els) [] [] (hid FU) rfl (by omega) (by simp) (by omega)
def edg : List V → Bool
  | [l, h] => Nat.ble l.els.length 10000
  | _ => false
def edr (t : Nat) : List V → List Rs
  | [l, h] => [.r t (endsR l h.int (namesN [] l.els) []) false]
  | _ => []
noncomputable def edG (t : Nat) (l : V) (h : Int) : Option (List Rs) := bif Nat.ble l.els.length 10000 then ln (namesN [] l.els).length <| lpC (BEr (List Rs)) (hid FU) (.m l h (List.replicate 0 (V.s [])) (namesN [] l.els) false ((namesN [] l.els).length : Nat) 0) fun q => match q with
  | .o l1 h1 xs1 ks1 nk1 n1 i1 => some [.r t xs1 false] else none
theorem edG_law {t : Nat} {l : V} {h : Int} (hg : edg [l, .i h] = true) : edG t l h = some (edr t [l, .i h]) := by
  have hg : Nat.ble l.els.length 10000 = true := hg
  have g := Nat.le_of_ble_eq_true hg
  have hq := fq_big
  have hn := names_len l.els []
  simp only [List.length_nil, Nat.zero_add] at hn
  unfold edG
  rw [hg, cond_true, ln_in (by omega)]
  exact er_law (kx := fun q => match q with | .o l1 h1 xs1 ks1 nk1 n1 i1 => some [Rs.r t xs1 false]) g (fun k hk => names_hist hk) (namesN [] l.els) [] [] (hid FU) rfl (by omega) (by simp) (by omega)
def alg : List V → Bool
  | [l] => Nat.ble l.els.length 10000
  | _ => false
def alr (t : Nat) : List V → List Rs
  | [l] => [.r t (flatR l.els (namesN [] l.els) []) false]
  | _ => []
noncomputable def alG (t : Nat) (z l : V) : Option (List Rs) := bif Nat.ble l.els.length 10000 then ln (namesN [] l.els).length <| lpC (BAr (List Rs)) (hid FU) (.m l (List.replicate 0 z) (namesN [] l.els) false ((namesN [] l.els).length : Nat) 0) fun q => match q with
  | .o l1 xs1 ks1 nk1 n1 i1 => some [.r t xs1 false] else none
theorem alG_law {t : Nat} {z l : V} (hg : alg [l] = true) : alG t z l = some (alr t [l]) := by
  have hg : Nat.ble l.els.length 10000 = true := hg
  have g := Nat.le_of_ble_eq_true hg
  have hq := fq_big
  have hn := names_len l.els []
  simp only [List.length_nil, Nat.zero_add] at hn
  unfold alG
  rw [hg, cond_true, ln_in (by omega)]
  exact ar_law (kx := fun q => match q with | .o l1 xs1 ks1 nk1 n1 i1 => some [Rs.r t xs1 false]) g (namesN [] l.els) [] [] (hid FU) rfl (by omega) (by simp) (by omega)
end Go.Vm

namespace Go.Vm
open Go.RowKit
variable {R : Type}
def smC2 (nl : Bool) (xs ys : List V) (k : Option R) : Option R :=
  bif Nat.ble (bif nl then V.n else .l xs).els.length 100000 && Nat.ble ys.length 100000 then
    bif veqL (bif nl then V.n else .l xs).els ys then k else none
  else none
def srtC (st : Nat) (es : List (V × V × Bool)) (k : List V → Option R) : Option R :=
  bif Nat.beq st st && (okK (keyS es) && Nat.ble (keyS es).length 1000000) then
    ln (sortV ((keyS es).map (·.1))).length <| k (sortV ((keyS es).map (·.1)))
  else none
end Go.Vm

namespace Go.Vm
open Go.RowKit
variable {R : Type}
theorem sdel_has {k kv : V} (hne : veq k kv = false) : ∀ es : List (V × V × Bool), hasS kv (delS k es) = hasS kv es := by
  have hk : k ≠ kv := fun q => by rw [(veq_iff _ _).2 q] at hne; cases hne
  intro es
  induction es with
  | nil => rfl
  | cons p r ih =>
    simp only [delS, hasS]
    cases h : veq p.1 k with
    | true =>
      have : p.1 = k := (veq_iff _ _).1 h
      rw [cond_true, ih, this, hne, Bool.false_or]
    | false => simp only [cond_false, hasS, ih]
theorem sdel_val {k kv : V} (hne : veq k kv = false) : ∀ es : List (V × V × Bool), valS kv (delS k es) = valS kv es ∧ ownS kv (delS k es) = ownS kv es := by
  intro es
  induction es with
  | nil => exact ⟨rfl, rfl⟩
  | cons p r ih =>
    simp only [delS, valS, ownS]
    cases h : veq p.1 k with
    | true =>
      have : p.1 = k := (veq_iff _ _).1 h
      rw [cond_true, ih.1, ih.2, this, hne]; exact ⟨rfl, rfl⟩
    | false => simp only [cond_false, valS, ownS, ih.1, ih.2, and_self]
theorem sset_has {k kv x : V} {q : Bool} {es : List (V × V × Bool)} : hasS kv (setS k x q es) = (veq k kv || hasS kv es) := by
  show (veq k kv || hasS kv (delS k es)) = _
  cases h : veq k kv with
  | true => rfl
  | false => rw [sdel_has h]
theorem sset_val {k kv x : V} {q : Bool} {es : List (V × V × Bool)} : valS kv (setS k x q es) = (bif veq k kv then x else valS kv es) := by
  show (bif veq k kv then x else valS kv (delS k es)) = _
  cases h : veq k kv with
  | true => rfl
  | false => rw [(sdel_val h es).1]
theorem sset_own {k kv x : V} {q : Bool} {es : List (V × V × Bool)} : ownS kv (setS k x q es) = (bif veq k kv then q else ownS kv es) := by
  show (bif veq k kv then q else ownS kv (delS k es)) = _
  cases h : veq k kv with
  | true => rfl
  | false => rw [(sdel_val h es).2]
theorem hasS_iff {kv : V} : ∀ {es : List (V × V × Bool)}, hasS kv es = true ↔ kv ∈ es.map (·.1) := by
  intro es
  induction es with
  | nil => simp [hasS]
  | cons p r ih =>
    simp only [hasS, Bool.or_eq_true, veq_iff, ih, List.map_cons, List.mem_cons]
    exact ⟨fun h => h.imp (fun q => q.symm) id, fun h => h.imp (fun q => q.symm) id⟩
theorem sdel_none {kv : V} {es : List (V × V × Bool)} (h : hasS kv es = false) : delS kv es = es := by
  rw [delS_filter]
  refine filterS_none (fun p hp q => ?_)
  have : hasS kv es = true := hasS_iff.2 (List.mem_map.2 ⟨p, hp, q⟩)
  rw [this] at h; cases h
theorem sdel_perm {kv : V} : ∀ {es : List (V × V × Bool)}, (es.map (·.1)).Nodup → hasS kv es = true → (kv :: (delS kv es).map (·.1)).Perm (es.map (·.1)) := by
  intro es
  induction es with
  | nil => intro _ h; cases h
  | cons p r ih =>
    intro hn h
    simp only [List.map_cons, List.nodup_cons] at hn
    simp only [delS]
    cases hb : veq p.1 kv with
    | true =>
      have hp : p.1 = kv := (veq_iff _ _).1 hb
      have : hasS kv r = false := by
        cases hh : hasS kv r with
        | false => rfl
        | true => exact absurd (hp ▸ hasS_iff.1 hh) hn.1
      rw [cond_true, sdel_none this, List.map_cons, hp]
    | false =>
      simp only [hasS, hb, Bool.false_or] at h
      rw [cond_false, List.map_cons, List.map_cons]
      exact (List.Perm.swap _ _ _).trans ((ih hn.2 h).cons _)
structure NInv (p : List V) (es : List (V × V × Bool)) : Prop where
  nd : (es.map (·.1)).Nodup
  ks : sortV (es.map (·.1)) = namesN [] p
  gd : ∀ q ∈ es, NmV q.1
  has : ∀ nm, hasS (.s nm) es = !(histS nm p).isEmpty
  val : ∀ nm, hasS (.s nm) es = true → valS (.s nm) es = .l (histS nm p)
  own : ∀ kv, ownS kv es = true
theorem hist_snoc (nm : List V) (p : List V) (x : V) : histS nm (p ++ [x]) = bif veqL (nmE x) nm then histS nm p ++ [x] else histS nm p := by
  simp only [histS, List.filter_append, List.filter_cons, List.filter_nil]
  cases veqL (nmE x) nm <;> simp
theorem NInv.nil : NInv [] [] := ⟨List.nodup_nil, rfl, fun q h => (by cases h), fun nm => rfl, fun nm h => (by cases h), fun kv => rfl⟩
theorem veq_s (a b : List V) : veq (.s a) (.s b) = veqL a b := rfl
theorem NInv.mem {p : List V} {es : List (V × V × Bool)} (h : NInv p es) {k : V} : k ∈ namesN [] p ↔ hasS k es = true := by
  rw [← h.ks, hasS_iff]
  exact (sortV_permV _).mem_iff
theorem NInv.snoc {p : List V} {es : List (V × V × Bool)} (h : NInv p es) {x : V} (hx : isNm (nmE x)) (hp : ∀ e ∈ p, isNm (nmE e)) : NInv (p ++ [x]) (setS (.s (nmE x)) (.l (histS (nmE x) p ++ [x])) true es) := by
  have hst : StS (namesN [] p) := names_st ⟨List.Pairwise.nil, fun _ h => by cases h⟩ hp
  have hnames : namesN [] (p ++ [x]) = insN (nmE x) (namesN [] p) := by simp [namesN, List.foldl_append]
  have hkeys : ∀ q ∈ (setS (.s (nmE x)) (.l (histS (nmE x) p ++ [x])) true es).map (·.1), NmV q := by
    intro q hq
    simp only [setS, List.map_cons, List.mem_cons] at hq
    rcases hq with rfl | hq
    · exact ⟨_, rfl, hx⟩
    · obtain ⟨y, hy, rfl⟩ := List.mem_map.1 hq
      rw [delS_filter] at hy
      exact h.gd y (List.mem_filter.1 hy).1
  refine ⟨setS_nodup h.nd, ?_, fun q hq => hkeys q.1 (List.mem_map_of_mem hq), fun nm => ?_, fun nm hh => ?_, fun kv => ?_⟩
  · rw [hnames]
    cases hh : hasS (.s (nmE x)) es with
    | true =>
      rw [insN_has hst (h.mem.2 hh), ← h.ks]
      exact sortV_cong (sdel_perm h.nd hh) hkeys
    | false =>
      rw [insN_new hst.2 (fun q => by rw [h.mem.1 q] at hh; cases hh)]
      show insV (.s (nmE x)) (sortV ((delS (.s (nmE x)) es).map (·.1))) = _
      rw [sdel_none hh, h.ks]
  · rw [sset_has, h.has, hist_snoc, veq_s]
    cases veqL (nmE x) nm with
    | true => simp
    | false => rfl
  · rw [sset_val, hist_snoc, veq_s]
    rw [sset_has, veq_s] at hh
    cases hq : veqL (nmE x) nm with
    | true => rw [cond_true, cond_true, (veqL_iff _ _).1 hq]
    | false =>
      rw [hq, Bool.false_or] at hh
      rw [cond_false, cond_false, h.val nm hh]
  · rw [sset_own, h.own]
    cases veq (.s (nmE x)) kv <;> rfl
theorem nn_law {l : V} (hnm : ∀ e ∈ l.els, isNm (nmE e)) : ∀ (r a : List V) (es : List (V × V × Bool)) (fuel : Nat), l.els = a ++ r → a.length + r.length ≤ 10000 → NInv a es → r.length < fuel →
    ∃ es', NInv l.els es' ∧ ∀ kx : QNn → Option R, lpC (BNn R) fuel (.m l es (l.els.length : Nat) (a.length : Nat)) kx = kx (.o l es' (l.els.length : Nat) (l.els.length : Nat)) := by
  intro r
  induction r with
  | nil =>
    intro a es fuel he hz hi hf
    obtain ⟨f, rfl⟩ : ∃ f, fuel = f + 1 := ⟨fuel - 1, by omega⟩
    rw [List.append_nil] at he
    refine ⟨es, he ▸ hi, fun kx => ?_⟩
    rw [lpC, BNn_m, ix_f he, cond_false, he]
  | cons x r ih =>
    intro a es fuel he hz hi hf
    obtain ⟨f, rfl⟩ : ∃ f, fuel = f + 1 := ⟨fuel - 1, by omega⟩
    simp only [List.length_cons] at hz hf
    have hle : l.els.length = a.length + (r.length + 1) := by rw [he]; simp
    have hat : l.nth ((a.length : Nat) : Int).toNat = x := nth_at he
    have hxn : isNm (nmE x) := hnm x (by rw [he]; simp)
    obtain ⟨es', g1, g2⟩ := ih (a ++ [x]) _ f (by rw [he]; simp) (by simp only [List.length_append, List.length_singleton]; omega) (hi.snoc hxn (fun e h => hnm e (by rw [he]; simp [h]))) (by omega)
    simp only [List.length_append, List.length_singleton] at g2
    refine ⟨es', g1, fun kx => ?_⟩
    rw [← g2 kx, lpC, BNn_m, ix_t he, cond_true, ck_in (by omega) (by omega), hat, i_next (by omega)]
    have hhl : (histS (nmE x) a).length ≤ a.length := List.length_filter_le _ _
    cases hh : hasS (.s (nmE x)) es with
    | true =>
      rw [cond_true, hi.own, cond_true, hi.val _ hh, lim_in (by show (histS (nmE x) a).length + 1 ≤ _; omega), veq_refl, cond_true]
      rfl
    | false =>
      have : histS (nmE x) a = [] := by
        have := hi.has (nmE x)
        rw [hh] at this
        cases hq : histS (nmE x) a with
        | nil => rfl
        | cons y s => rw [hq] at this; cases this
      rw [cond_false, this]; rfl
end Go.Vm

namespace Go.Vm
open Go.RowKit
variable {R : Type}
theorem right_all : ∀ {r : List V} {i : Nat}, rightN r i = true → (∀ e ∈ r, (nmE e).length ≤ 100 ∧ (e.nth 1).els.length ≤ 300 ∧ 0 ≤ (e.nth 2).int ∧ (e.nth 2).int ≤ 1000000000) ∧ (r = [] ∨ i + r.length ≤ 41) := by
  intro r
  induction r with
  | nil => intro i _; exact ⟨fun e h => (by cases h), .inl rfl⟩
  | cons e r ih =>
    intro i h
    have e1 : rightN (e :: r) i = bif badE i e then false else rightN r (i + 1) := rfl
    rw [e1] at h
    cases hb : badE i e with
    | true => rw [hb] at h; cases h
    | false =>
      rw [hb, cond_false] at h
      obtain ⟨h1, h2⟩ := ih h
      unfold badE at hb
      simp only [Bool.or_eq_false_iff, ilt_d, decide_eq_false_iff_not] at hb
      obtain ⟨b1, b2, b3, b4, b5⟩ := hb
      refine ⟨fun x hx => ?_, .inr ?_⟩
      · rcases List.mem_cons.1 hx with rfl | hx
        · exact ⟨by omega, by omega, by omega, by omega⟩
        · exact h1 x hx
      · rcases h2 with rfl | h2
        · simp; omega
        · simp only [List.length_cons]; omega
structure LOK (l : V) : Prop where
  nm : ∀ e ∈ l.els, isNm (nmE e)
  len : ∀ e ∈ l.els, (nmE e).length ≤ 100
  ht : ∀ e ∈ l.els, 0 ≤ (e.nth 2).int ∧ (e.nth 2).int ≤ 1000000000
  few : l.els.length ≤ 10000
theorem lsV_mem {xs : List V} (h : xs ≠ []) (hl : xs.length ≤ 10000) : lsV xs ∈ xs := by
  have h0 : 0 < xs.length := List.length_pos_iff.2 h
  unfold lsV
  rw [w64_in (by omega) (by omega)]
  have : (((xs.length : Nat) : Int) - 1).toNat = xs.length - 1 := by omega
  rw [this, List.getD_eq_getElem?_getD, List.getElem?_eq_getElem (by omega)]
  exact List.getElem_mem _
theorem hist_le (nm : List V) (p : List V) : (histS nm p).length ≤ p.length := List.length_filter_le _ _
theorem has_ne {l : V} {es : List (V × V × Bool)} (hi : NInv l.els es) {nm : List V} (h : hasS (.s nm) es = true) : histS nm l.els ≠ [] := by
  have := hi.has nm
  rw [h] at this
  intro q; rw [q] at this; cases this
theorem live_at {l : V} {es : List (V × V × Bool)} (hl : LOK l) (hi : NInv l.els es) {nm : List V} (h : hasS (.s nm) es = true) :
    (valS (.s nm) es).els = histS nm l.els ∧ isN (valS (.s nm) es) = false ∧ lastQ (valS (.s nm) es) = true ∧ lastE (valS (.s nm) es) = lsV (histS nm l.els) ∧
      0 ≤ ((lsV (histS nm l.els)).nth 2).int ∧ ((lsV (histS nm l.els)).nth 2).int ≤ 1000000000 ∧ ieq ((histS nm l.els).length : Nat) 0 = false := by
  have hne := has_ne hi h
  have h0 : 0 < (histS nm l.els).length := List.length_pos_iff.2 hne
  have hz : ieq ((histS nm l.els).length : Nat) 0 = false := by rw [← Bool.not_eq_true, ieq_iff]; omega
  have hle := hist_le nm l.els
  have hf := hl.few
  have hm := lsV_mem hne (by omega)
  have hm' : lsV (histS nm l.els) ∈ l.els := (List.mem_filter.1 hm).1
  obtain ⟨t1, t2⟩ := hl.ht _ hm'
  rw [hi.val nm h]
  have hq : lastQ (.l (histS nm l.els)) = true := by show (!(ieq ((histS nm l.els).length : Nat) 0)) = true; rw [hz]; rfl
  refine ⟨rfl, rfl, hq, ?_, t1, t2, hz⟩
  unfold lastE
  rw [hq, cond_true]; rfl
theorem live_eq {l : V} {es : List (V × V × Bool)} (hl : LOK l) (hi : NInv l.els es) {nm : List V} {a : Int} (ha : 0 ≤ a) (ha2 : a ≤ 1000000000) (h : hasS (.s nm) es = true) :
    ilt (W64 (a - ((lsV (histS nm l.els)).nth 2).int)) 8 = liveQ nm l a := by
  obtain ⟨_, _, _, _, t1, t2, hz⟩ := live_at hl hi h
  unfold liveQ
  rw [hz, Bool.false_or, w64_in (by omega) (by omega), w64_in (by omega) (by omega), ilt_d, ile_d]
  generalize ((lsV (histS nm l.els)).nth 2).int = q at t1 t2
  by_cases h1 : a - q < 8
  · have h2 : ¬ q + 8 ≤ a := by omega
    simp [h1, h2]
  · have h2 : q + 8 ≤ a := by omega
    simp [h1, h2]
theorem es_len {p : List V} {es : List (V × V × Bool)} (hi : NInv p es) : es.length ≤ p.length := by
  have h1 : (sortV (es.map (·.1))).length = es.length := by rw [(sortV_permV _).length_eq, List.length_map]
  rw [hi.ks] at h1
  have := names_len p []
  simp only [List.length_nil, Nat.zero_add] at this
  omega
theorem srtC_law {l : V} {es : List (V × V × Bool)} (hl : LOK l) (hi : NInv l.els es) {st : Nat} (k : List V → Option R) : srtC st es k = k (namesN [] l.els) := by
  have hf := hl.few
  have hel := es_len hi
  have hk : (keyS es).map (·.1) = es.map (·.1) := by simp [keyS]
  have hn := names_len l.els []
  simp only [List.length_nil, Nat.zero_add] at hn
  have hok : okK (keyS es) = true := by
    have : ∀ q ∈ es, ∃ nm, q.1 = .s nm ∧ nm.length ≤ 1000000 := fun q hq => by
      have h1 : hasS q.1 es = true := hasS_iff.2 (List.mem_map_of_mem hq)
      have h2 := hi.mem.2 h1
      rcases names_mem h2 with h2 | ⟨e, he, h3⟩
      · cases h2
      · exact ⟨_, h3, by have := hl.len e he; omega⟩
    clear hk hel hi
    induction es with
    | nil => rfl
    | cons p r ih =>
      obtain ⟨nm, h1, h2⟩ := this p (by simp)
      have ih := ih (fun q hq => this q (by simp [hq]))
      show ((match p.1 with
        | .s l => Nat.ble l.length 1000000
        | _ => false) && okK (keyS r)) = true
      rw [ih, h1, Bool.and_true]
      exact Nat.ble_eq_true_of_le h2
  unfold srtC
  rw [hok, hk, hi.ks, ln_in (by omega), Nat.beq_refl]
  rw [show (keyS es).length = es.length by simp [keyS], Nat.ble_eq_true_of_le (by omega)]
  rfl
theorem scanR_stop {fr : List V} {m h : Int} {l : V} : ∀ {r xs : List V}, ilt (xs.length : Nat) m = false → scanR fr m l h r xs = xs := by
  intro r
  induction r with
  | nil => intro xs _; rfl
  | cons k r ih =>
    intro xs hx
    simp only [scanR, hx, Bool.and_false, cond_false]
    exact ih hx
theorem and_nl {nl b : Bool} {xs ys : List V} (h1 : nl = true → xs = []) (h2 : b = true → ys = []) : (nl && b) = true → xs ++ ys = [] := by
  intro h
  simp only [Bool.and_eq_true] at h
  rw [h1 h.1, h2 h.2]; rfl
theorem sw_law {l : V} {es : List (V × V × Bool)} (hl : LOK l) (hi : NInv l.els es) {fr : List V} {m h : Int} (ha : 0 ≤ h) (ha2 : h ≤ 1000000000) {nk : Bool} {ks : List V} (hks : ∀ k ∈ ks, k ∈ namesN [] l.els) {kx : QSw → Option R} {ko : List V → Option R}
    (hkx : ∀ xs nl i, (nl = true → xs = []) → kx (.o es fr m h xs nl ks nk (ks.length : Nat) i) = ko xs) : ∀ (r a xs : List V) (nl : Bool) (fuel : Nat), ks = a ++ r → ks.length ≤ 10000 → xs.length ≤ a.length → (nl = true → xs = []) → r.length < fuel →
    lpC (BSw R) fuel (.m es fr m h xs nl ks nk (ks.length : Nat) (a.length : Nat)) kx = ko (scanR fr m l h r xs) := by
  have hf := hl.few
  intro r
  induction r with
  | nil =>
    intro a xs nl fuel he hz hx hnl hfu
    obtain ⟨f, rfl⟩ : ∃ f, fuel = f + 1 := ⟨fuel - 1, by omega⟩
    rw [List.append_nil] at he
    subst he
    rw [lpC, BSw_m, il_f, cond_false, hkx _ _ _ hnl]; rfl
  | cons k r ih =>
    intro a xs nl fuel he hz hx hnl hfu
    obtain ⟨f, rfl⟩ : ∃ f, fuel = f + 1 := ⟨fuel - 1, by omega⟩
    simp only [List.length_cons] at hfu
    have hle : ks.length = a.length + (r.length + 1) := by rw [he]; simp
    have nx : ∀ (ys : List V) (nl' : Bool), ys.length ≤ a.length + 1 → (nl' = true → ys = []) → lpC (BSw R) f (.m es fr m h ys nl' ks nk (ks.length : Nat) (W64 ((a.length : Nat) + 1))) kx = ko (scanR fr m l h r ys) := by
      intro ys nl' hy hn'
      have ih := ih (a ++ [k]) ys nl' f (by rw [he]; simp) hz (by simpa using hy) hn' (by omega)
      simp only [List.length_append, List.length_singleton] at ih
      rw [i_next (by omega)]
      exact ih
    have hkm := hks k (by rw [he]; simp)
    have hhas := hi.mem.1 hkm
    obtain ⟨e, hee, rfl⟩ : ∃ e ∈ l.els, k = .s (nmE e) := by
      rcases names_mem hkm with h2 | h2
      · cases h2
      · exact h2
    obtain ⟨t1, t2, t3, t4, t5, t6, hzz⟩ := live_at hl hi hhas
    have hle2 := hist_le (nmE e) l.els
    rw [lpC, BSw_m, il_t he, cond_true, ck_in (by omega) (by omega), ln_in (by omega), gd_at he]
    rw [show (V.s (nmE e)).els = nmE e from rfl, hhas, t1, t3, t4, live_eq hl hi ha ha2 hhas, Nat.ble_eq_true_of_le (show (histS (nmE e) l.els).length ≤ 10000 by omega)]
    simp only [cond_true]
    have e1 : ile m (xs.length : Nat) = !(ilt (xs.length : Nat) m) := by
      rw [ile_d, ilt_d]
      by_cases q : m ≤ (xs.length : Nat)
      · have : ¬ ((xs.length : Nat) : Int) < m := by omega
        simp [q, this]
      · have : ((xs.length : Nat) : Int) < m := by omega
        simp [q, this]
    rw [e1]
    cases hm : ilt (xs.length : Nat) m with
    | false =>
      rw [Bool.not_false, cond_true, hkx _ _ _ hnl, scanR_stop hm]
    | true =>
      rw [Bool.not_true, cond_false]
      simp only [scanR, hm, Bool.and_true, show (V.s (nmE e)).els = nmE e from rfl]
      cases hq : liveQ (nmE e) l h with
      | false => exact nx xs nl (by omega) hnl
      | true =>
        have hE : liveE (nmE e) l h = lsV (histS (nmE e) l.els) := by unfold liveE; rw [hq]; rfl
        rw [cond_true, Bool.true_and]
        cases sLt (nmE e) fr with
        | true => exact nx xs nl (by omega) hnl
        | false =>
          rw [Bool.not_false, cond_true, cond_true, lim_in (by simp only [List.length_singleton]; omega), hE]
          exact nx _ _ (by simp; omega) (fun q => by simp at q)
theorem aw_law {l : V} {es : List (V × V × Bool)} (hl : LOK l) (hi : NInv l.els es) {nk : Bool} {ks : List V} (hks : ∀ k ∈ ks, k ∈ namesN [] l.els) {kx : QAw → Option R} {ko : List V → Option R}
    (hkx : ∀ xs nl i, (nl = true → xs = []) → kx (.o es xs nl ks nk (ks.length : Nat) i) = ko xs) : ∀ (r a xs : List V) (nl : Bool) (fuel : Nat), ks = a ++ r → ks.length ≤ 10000 → xs.length ≤ a.length * 10000 → (nl = true → xs = []) → r.length < fuel →
    lpC (BAw R) fuel (.m es xs nl ks nk (ks.length : Nat) (a.length : Nat)) kx = ko (flatR l.els r xs) := by
  have hf := hl.few
  intro r
  induction r with
  | nil =>
    intro a xs nl fuel he hz hx hnl hfu
    obtain ⟨f, rfl⟩ : ∃ f, fuel = f + 1 := ⟨fuel - 1, by omega⟩
    rw [List.append_nil] at he
    subst he
    rw [lpC, BAw_m, il_f, cond_false, hkx _ _ _ hnl]; rfl
  | cons k r ih =>
    intro a xs nl fuel he hz hx hnl hfu
    obtain ⟨f, rfl⟩ : ∃ f, fuel = f + 1 := ⟨fuel - 1, by omega⟩
    simp only [List.length_cons] at hfu
    have hle : ks.length = a.length + (r.length + 1) := by rw [he]; simp
    have hkm := hks k (by rw [he]; simp)
    have hhas := hi.mem.1 hkm
    obtain ⟨e, hee, rfl⟩ : ∃ e ∈ l.els, k = .s (nmE e) := by
      rcases names_mem hkm with h2 | h2
      · cases h2
      · exact h2
    obtain ⟨t1, t2, t3, t4, t5, t6, hzz⟩ := live_at hl hi hhas
    have hle2 := hist_le (nmE e) l.els
    have ih := ih (a ++ [.s (nmE e)]) (xs ++ histS (nmE e) l.els) (nl && (histS (nmE e) l.els).isEmpty) f (by rw [he]; simp) hz (by simp only [List.length_append, List.length_singleton]; omega) (and_nl hnl (fun q => List.isEmpty_iff.1 q)) (by omega)
    simp only [List.length_append, List.length_singleton] at ih
    rw [lpC, BAw_m, il_t he, cond_true, ck_in (by omega) (by omega), gd_at he]
    rw [show (V.s (nmE e)).els = nmE e from rfl, hhas, t1, cond_true, lim_in (by omega), i_next (by omega)]
    exact ih
theorem scanR_len {fr : List V} {m h : Int} {l : V} : ∀ (r xs : List V), (scanR fr m l h r xs).length ≤ xs.length + r.length := by
  intro r
  induction r with
  | nil => intro xs; exact Nat.le_refl _
  | cons k r ih =>
    intro xs
    simp only [scanR]
    refine Nat.le_trans (ih _) ?_
    cases liveQ k.els l h && (!(sLt k.els fr) && ilt (xs.length : Nat) m) <;> simp <;> omega
end Go.Vm

namespace Go.Vm
open Go.RowKit
variable {R : Type}
def smX (xs ys : List V) (k : Option R) : Option R := bif Nat.ble xs.length 100000 && Nat.ble ys.length 100000 then bif veqL xs ys then k else none else none
theorem smC2_eq {nl : Bool} {xs ys : List V} {k : Option R} (h1 : nl = true → xs = []) : smC2 nl xs ys k = smX xs ys k := by
  have he : (bif nl then V.n else .l xs).els = xs := by
    cases nl with
    | true => rw [h1 rfl]; rfl
    | false => rfl
  unfold smC2 smX
  rw [he]
theorem smX_law {xs : List V} {k : Option R} (h : xs.length ≤ 100000) : smX xs xs k = k := by
  unfold smX
  rw [Nat.ble_eq_true_of_le h, Bool.and_self, cond_true, (veqL_iff _ _).2 rfl, cond_true]
end Go.Vm

namespace Go.Vm
open Go.RowKit
variable {P : Program} {T : TT} {c : Ctx} {e : Env} {of : Nat → Option Ob}
variable {a kt st el : Nat} {es es' : List (V × V × Bool)} {bs : List Nat}
theorem share_at (h : OSim T c e of) {id b clock : Nat} {ms : Array MapEntry} (hof : of id = some (.sm kt st el es none)) (v3 : e.ι id = some (b, 0)) (v4 : e.w.heap[b]? = some (.map ms clock)) (vb : StB ms clock) (v6 : es'.Perm es) (v5 : (es.map (·.1)).Nodup) (v7 : SR T e b kt st el none es' ms.toList bs)
    {i : Nat} {k x : V} {q : Bool} {m : MapEntry} (hm2 : es'[i]? = some (k, x, q)) (hm1 : ms.toList[i]? = some m) :
    ∃ S' : Nat → Nat → Prop, OSim T c { e with S := S' } of ∧ e.le { e with S := S' } ∧ RV T { e with S := S' } [st] [x] [m.val] ∧ ∃ bs', SR T { e with S := S' } b kt st el none es' ms.toList bs' := by
  obtain ⟨u1, u2, hks, hz, hz3, _⟩ := sm_ok h hof
  obtain ⟨bs0, cs, k1, k2, k3, k4⟩ := v7.pull hm2 hm1
  cases k1 with
  | lent _ _ h3 => cases h3
  | data j1 j2 => exact ⟨e.S, h, Env.le.refl e, j2, bs, v7⟩
  | @own _ xs _ bb o j cap cells t' fz pre ys post j1 j2 j0 j3 j5 j6 j7 j8 j9 j10 j11 j12 =>
    have hle := le_share e bb o (o + ys.length)
    have hne' : ∀ b' ∈ cs, e.G b b' → (e.share bb o (o + ys.length)).G b b' ∧ (e.share bb o (o + ys.length)).w.heap[b']? = e.w.heap[b']? ∧ ∀ i, (e.share bb o (o + ys.length)).S b' i → e.S b' i := fun b' hb' hG' => ⟨hG', rfl, fun i hs => hs.elim (fun q => q) (fun ⟨q', _⟩ => absurd (q' ▸ hb') (k3 bb (by simp)))⟩
    have hent : EntS T (e.share bb o (o + ys.length)) b kt st el none (k, .l xs, true) m [bb] := .own (j1.mono hle) j2 j0 j3 j5 j6 j7 j8 (j9.mono hle) j10 j11 (fun i hi hs => hs.elim (j12 i hi) (fun ⟨_, _, q⟩ => by omega))
    obtain ⟨bs', q1, _⟩ := SR.putAt hm2 hm1 (k2.keep' hle hne') hent k3
    rw [show es'.set i (k, .l xs, true) = es' from set_self hm2, show ms.toList.set i m = ms.toList from set_self hm1] at q1
    have hok : OK T (e.share bb o (o + ys.length)) id (.sm kt st el es none) := ⟨u1, u2, hks, hz, hz3, b, ms, clock, v3, v4, ⟨v5, vb⟩, es', bs', v6, q1⟩
    refine ⟨(e.share bb o (o + ys.length)).S, h.shareG hof v3 j3 hok, hle, ?_, bs', q1⟩
    rw [j2]
    refine .slice hks hz rfl j10 ⟨fun _ => rfl, fun jj y' hj => ?_⟩ (j9.mono hle) .nil
    have hjl := (List.getElem?_eq_some_iff.1 hj).1
    have hcap : 0 < cap := by
      rcases Nat.eq_zero_or_pos cap with h0 | h0
      · have : xs = [] := List.eq_nil_of_length_eq_zero (by omega)
        subst this
        have := j9.length.1
        simp [szs] at this
        subst this; simp at hjl
      · exact h0
    have := j0 hcap
    subst this
    refine ⟨?_, .inr ⟨rfl, by show j ≤ j + jj; omega, by show j + jj < _; omega⟩⟩
    show e.w.cell? _ = _
    rw [add_none, cell_heap j5, j7, ← j8, List.append_assoc]
    exact mid_get hj
def Ents (T : TT) (e : Env) (kt st : Nat) (es : List (V × V × Bool)) (ms : List MapEntry) : Prop :=
  es.length = ms.length ∧ ∀ (i : Nat) k x q (m : MapEntry), es[i]? = some (k, x, q) → ms[i]? = some m → Rep1 T e (.v kt k) m.key ∧ RV T e [st] [x] [m.val]
theorem share_all (h : OSim T c e of) {id b clock : Nat} {ms : Array MapEntry} (hof : of id = some (.sm kt st el es none)) (v3 : e.ι id = some (b, 0)) (v4 : e.w.heap[b]? = some (.map ms clock)) (vb : StB ms clock) (v6 : es'.Perm es) (v5 : (es.map (·.1)).Nodup) (v7 : SR T e b kt st el none es' ms.toList bs) :
    ∃ S' : Nat → Nat → Prop, OSim T c { e with S := S' } of ∧ e.le { e with S := S' } ∧ Ents T { e with S := S' } kt st es' ms.toList := by
  have key : ∀ n, ∃ S' : Nat → Nat → Prop, OSim T c { e with S := S' } of ∧ e.le { e with S := S' } ∧ (∃ bs', SR T { e with S := S' } b kt st el none es' ms.toList bs') ∧ ∀ (i : Nat), i < n → ∀ k x q (m : MapEntry), es'[i]? = some (k, x, q) → ms.toList[i]? = some m → RV T { e with S := S' } [st] [x] [m.val] := by
    intro n
    induction n with
    | zero => exact ⟨e.S, h, Env.le.refl e, ⟨bs, v7⟩, fun i hi => absurd hi (Nat.not_lt_zero _)⟩
    | succ n ih =>
      obtain ⟨S', h1, h2, ⟨bs', h3⟩, h4⟩ := ih
      by_cases hn : ∃ k x q m, es'[n]? = some (k, x, q) ∧ ms.toList[n]? = some m
      · obtain ⟨k, x, q, m, g1, g2⟩ := hn
        obtain ⟨S2, k1, k2, k3, bs2, k4⟩ := share_at h1 hof v3 v4 vb v6 v5 h3 g1 g2
        refine ⟨S2, k1, h2.trans k2, ⟨bs2, k4⟩, fun i hi k' x' q' m' p1 p2 => ?_⟩
        by_cases he : i = n
        · subst he
          rw [g1] at p1; rw [g2] at p2
          cases p1; cases p2
          exact k3
        · exact (h4 i (by omega) k' x' q' m' p1 p2).mono k2
      · refine ⟨S', h1, h2, ⟨bs', h3⟩, fun i hi k' x' q' m' p1 p2 => ?_⟩
        by_cases he : i = n
        · subst he; exact absurd ⟨k', x', q', m', p1, p2⟩ hn
        · exact h4 i (by omega) k' x' q' m' p1 p2
  obtain ⟨S', h1, h2, ⟨bs', h3⟩, h4⟩ := key (es'.length)
  refine ⟨S', h1, h2, h3.length, fun i k x q m p1 p2 => ?_⟩
  obtain ⟨b0, cs, g1, _⟩ := h3.pull p1 p2
  exact ⟨g1.key, h4 i (List.getElem?_eq_some_iff.1 p1).1 k x q m p1 p2⟩
end Go.Vm

namespace Go.Vm
open Go.RowKit
variable {P : Program} {T : TT} {c : Ctx} {e : Env} {of : Nat → Option Ob}
def Ctx.here (e : Env) (of : Nat → Option Ob) (rd : Option Nat) : Ctx := { w0 := e.w, M := fun b => (∃ id o, (of id).isSome ∧ e.ι id = some (b, o)) ∨ ∃ a, e.G a b, S0 := e.S, rd := rd }
theorem OSim.here (h : OSim T c e of) (rd : Option Nat) : OSim T (Ctx.here e of rd) e of :=
  ⟨h.ok, h.sep, fun id b o hi hb => .inr (.inl ⟨id, o, hi, hb⟩), h.lt, h.slt, fun _ _ q => q, fun _ _ q => .inl q, rfl, rfl, rfl, Nat.le_refl _, fun _ _ _ => rfl, ⟨h.g.sep, h.g.uniq, fun a b hG => .inr (.inr ⟨a, hG⟩), h.g.lt⟩⟩
theorem OSim.back_here (h : OSim T c e of) {rd : Option Nat} {e' : Env} {of' : Nat → Option Ob} (h' : OSim T (Ctx.here e of rd) e' of') : OSim T c e' of' := by
  have hM : ∀ b, (Ctx.here e of rd).M b → c.w0.heap.size ≤ b ∨ c.M b := fun b hb => by
    rcases hb with ⟨id, o, hi, hb⟩ | ⟨a, hG⟩
    · exact h.own _ _ _ hi hb
    · exact h.g.own _ _ hG
  have hsz : c.w0.heap.size ≤ e.w.heap.size := h.size
  have hown : ∀ b, ((Ctx.here e of rd).w0.heap.size ≤ b ∨ (Ctx.here e of rd).M b) → c.w0.heap.size ≤ b ∨ c.M b := fun b hb => hb.elim (fun q => .inl (Nat.le_trans hsz q)) (hM b)
  refine ⟨h'.ok, h'.sep, fun id b o hi hb => hown b (h'.own id b o hi hb), h'.lt, h'.slt, fun b i hs => h'.s0 b i (h.s0 b i hs), fun b i hs => ?_, h'.os.trans h.os, h'.tape.trans h.tape, h'.output.trans h.output, Nat.le_trans hsz h'.size, fun k hk hm => ?_, ⟨h'.g.sep, h'.g.uniq, fun a b hG => hown b (h'.g.own a b hG), h'.g.lt⟩⟩
  · rcases h'.snew b i hs with hs | hs
    · exact h.snew b i hs
    · exact .inr (hown b hs)
  · have hnm : ¬ (Ctx.here e of rd).M k := fun q => by
      rcases hM k q with h1 | h1
      · omega
      · exact hm h1
    exact (h'.block k (Nat.lt_of_lt_of_le hk hsz) hnm).trans (h.block k hk hm)
theorem OSim.alloc (h : OSim T c e of) (g : Go.Obj) : OSim T c { e with w := e.w.alloc g } of ∧ e.le { e with w := e.w.alloc g } := by
  have hsz : (e.w.alloc g).heap.size = e.w.heap.size + 1 := size_alloc _ _
  have old : ∀ j b q, (of j).isSome → e.ι j = some (b, q) → b < e.w.heap.size := fun j b q hj hb => by
    obtain ⟨x, hx⟩ := Option.isSome_iff_exists.1 hj
    exact h.lt _ _ _ (h.ok _ _ hx).use hb
  have hle : e.le { e with w := e.w.alloc g } := by
    refine ⟨fun b i hs => ⟨hs, fun x hx => ?_⟩, fun _ hj => hj, fun j hj _ => ⟨rfl, rfl, fun b o hb => len_of_heap (alloc_old _ _ (h.lt _ _ _ hj hb))⟩, fun _ _ q => q, fun _ _ => Nat.le_refl _, fun _ _ => rfl, by show _ ≤ (e.w.alloc g).heap.size; omega, fun b hb => len_of_heap (alloc_old _ _ hb)⟩
    rw [← hx]; exact cell_of_heap (alloc_old _ _ (h.slt _ _ hs))
  refine ⟨⟨fun j x hj => (h.ok _ _ hj).keep hle rfl (fun b q hb => alloc_old _ _ (old _ _ _ (by rw [hj]; rfl) hb)) (fun _ _ _ _ hs => hs) (fun a o' b _ hG => ⟨hG, alloc_old _ _ (h.g.lt _ _ hG), fun i hs => hs⟩), h.sep, h.own, fun id b o hu hb => ?_, fun b i hs => ?_, h.s0, h.snew, h.os, h.tape, h.output, ?_, fun k hk hm => ?_, ⟨h.g.sep, h.g.uniq, h.g.own, fun a b hG => ?_⟩⟩, hle⟩
  · show b < (e.w.alloc g).heap.size
    have := h.lt _ _ _ hu hb; omega
  · show b < (e.w.alloc g).heap.size
    have := h.slt _ _ hs; omega
  · show _ ≤ (e.w.alloc g).heap.size
    have := h.size; omega
  · exact (alloc_old _ _ (by have := h.size; omega)).trans (h.block k hk hm)
  · show b < (e.w.alloc g).heap.size
    have := h.g.lt _ _ hG; omega
def Env.bare (w : World) (S : Nat → Nat → Prop) : Env := { w := w, ι := fun _ => none, S := S, bn := fun _ => 0, U := fun _ => False, ty := fun _ => 0, ln := fun _ => 0, G := fun _ _ => False }
def Ctx.bare (w : World) (S : Nat → Nat → Prop) : Ctx := { w0 := w, M := fun _ => False, S0 := S }
theorem OSim.bare {w : World} {S : Nat → Nat → Prop} (hS : ∀ b i, S b i → b < w.heap.size) : OSim T (Ctx.bare w S) (Env.bare w S) (fun _ => none) :=
  ⟨fun _ _ q => (by cases q), fun _ _ _ _ _ _ q => (by cases q), fun _ _ _ q => (by cases q), fun _ _ _ q => q.elim, hS, fun _ _ q => q, fun _ _ q => .inl q, rfl, rfl, rfl, Nat.le_refl _, fun _ _ _ => rfl, ⟨fun _ _ q => q.elim, fun _ _ _ q => q.elim, fun _ _ q => q.elim, fun _ _ q => q.elim⟩⟩
open Classical in
noncomputable def Env.join (e e2 : Env) : Env :=
  { w := e2.w, ι := fun id => if e.U id then e.ι id else e2.ι id, S := e2.S, bn := fun id => if e.U id then e.bn id else e2.bn id, U := fun id => e.U id ∨ e2.U id, ty := fun id => if e.U id then e.ty id else e2.ty id, ln := fun id => if e.U id then e.ln id else e2.ln id, G := fun a b => e.G a b ∨ e2.G a b }
def both (of of2 : Nat → Option Ob) (id : Nat) : Option Ob :=
  match of2 id with
  | some o => some o
  | none => of id
theorem OSim.join (h : OSim T c e of) {e2 : Env} {of2 : Nat → Option Ob} (h2 : OSim T (Ctx.bare e.w e.S) e2 of2) (hle : (Env.bare e.w e.S).le e2) (hd : ∀ id, e2.U id → ¬ e.U id) : OSim T c (e.join e2) (both of of2) ∧ e.le (e.join e2) ∧ e2.le (e.join e2) := by
  have p : ∀ {id}, e.U id → (e.join e2).ι id = e.ι id ∧ (e.join e2).bn id = e.bn id ∧ (e.join e2).ty id = e.ty id ∧ (e.join e2).ln id = e.ln id := fun hu => ⟨if_pos hu, if_pos hu, if_pos hu, if_pos hu⟩
  have q : ∀ {id}, ¬ e.U id → (e.join e2).ι id = e2.ι id ∧ (e.join e2).bn id = e2.bn id ∧ (e.join e2).ty id = e2.ty id ∧ (e.join e2).ln id = e2.ln id := fun hu => ⟨if_neg hu, if_neg hu, if_neg hu, if_neg hu⟩
  have hbl : ∀ k, k < e.w.heap.size → e2.w.heap[k]? = e.w.heap[k]? := fun k hk => h2.block k hk (fun q => q)
  have hsz : e.w.heap.size ≤ e2.w.heap.size := h2.size
  have hSo : ∀ b i, e2.S b i → b < e.w.heap.size → e.S b i := fun b i hs hb => by
    rcases h2.snew b i hs with q | q | q
    · exact q
    · have q : e.w.heap.size ≤ b := q
      omega
    · exact q.elim
  have l1 : e.le (e.join e2) := by
    refine ⟨fun b i hs => hle.S b i hs, fun _ hu => .inl hu, fun id hu _ => ⟨(p hu).1, (p hu).2.2.2, fun b o hb => hle.keep b (h.lt _ _ _ hu hb)⟩, fun id hu h0 => (p hu).2.1.trans h0, fun id hu => Nat.le_of_eq (p hu).2.1.symm, fun id hu => (p hu).2.2.1, hsz, fun b hb => hle.keep b hb⟩
  have l2 : e2.le (e.join e2) :=
    ⟨fun b i hs => ⟨hs, fun _ hx => hx⟩, fun _ hu => .inr hu, fun id hu _ => ⟨(q (hd id hu)).1, (q (hd id hu)).2.2.2, fun _ _ _ => rfl⟩, fun id hu h0 => (q (hd id hu)).2.1.trans h0, fun id hu => Nat.le_of_eq (q (hd id hu)).2.1.symm, fun id hu => (q (hd id hu)).2.2.1, Nat.le_refl _, fun _ _ => rfl⟩
  have side : ∀ id, (both of of2 id).isSome → ((of2 id).isSome ∧ ¬ e.U id ∧ (e.join e2).ι id = e2.ι id) ∨ ((of id).isSome ∧ e.U id ∧ (e.join e2).ι id = e.ι id) := fun id hi => by
    unfold both at hi
    cases ho : of2 id with
    | some o =>
      have hu := hd id (h2.ok id o ho).use
      exact .inl ⟨rfl, hu, (q hu).1⟩
    | none =>
      rw [ho] at hi
      obtain ⟨o, ho⟩ := Option.isSome_iff_exists.1 hi
      have hu := (h.ok id o ho).use
      exact .inr ⟨hi, hu, (p hu).1⟩
  have b2 : ∀ id b o, (of2 id).isSome → e2.ι id = some (b, o) → e.w.heap.size ≤ b := fun id b o hi hb => by
    rcases h2.own id b o hi hb with q | q
    · exact q
    · exact q.elim
  have b1 : ∀ id b o, e.U id → e.ι id = some (b, o) → b < e.w.heap.size := fun id b o hu hb => h.lt _ _ _ hu hb
  have g2 : ∀ a b, e2.G a b → e.w.heap.size ≤ b := fun a b hG => by
    rcases h2.g.own a b hG with q | q
    · exact q
    · exact q.elim
  refine ⟨⟨fun id o ho => ?_, fun i j b o b' o' hi hj hb hb' hne => ?_, fun id b o hi hb => ?_, fun id b o hu hb => ?_, h2.slt, fun b i hs => (hle.S b i (h.s0 b i hs)).1, fun b i hs => ?_, h2.os.trans h.os, h2.tape.trans h.tape, h2.output.trans h.output, Nat.le_trans h.size hsz, fun k hk hm => ?_, ⟨fun a b hG j b' o hj hb => ?_, fun a a' b h1 h3 => ?_, fun a b hG => ?_, fun a b hG => ?_⟩⟩, l1, l2⟩
  · unfold both at ho
    cases ho2 : of2 id with
    | some o2 =>
      rw [ho2] at ho
      injection ho with ho; subst ho
      have hok := h2.ok id o2 ho2
      have hu := hd id hok.use
      exact hok.keep l2 (q hu).2.1 (fun _ _ _ => rfl) (fun _ _ _ _ hs => hs) (fun a o' b _ hG => ⟨.inr hG, rfl, fun _ hs => hs⟩)
    | none =>
      rw [ho2] at ho
      have hok := h.ok id o ho
      have hu := hok.use
      exact hok.keep l1 (p hu).2.1 (fun b o' hb => hbl b (b1 _ _ _ hu hb)) (fun b o' i hb hs => hSo b i hs (b1 _ _ _ hu hb)) (fun a o' b _ hG => ⟨.inl hG, hbl b (h.g.lt _ _ hG), fun i hs => hSo b i hs (h.g.lt _ _ hG)⟩)
  · rcases side i hi with ⟨s1, s2, s3⟩ | ⟨s1, s2, s3⟩ <;> rcases side j hj with ⟨t1, t2, t3⟩ | ⟨t1, t2, t3⟩ <;> rw [s3] at hb <;> rw [t3] at hb'
    · exact h2.sep _ _ _ _ _ _ s1 t1 hb hb' hne
    · have := b2 _ _ _ s1 hb; have := b1 _ _ _ t2 hb'; omega
    · have := b1 _ _ _ s2 hb; have := b2 _ _ _ t1 hb'; omega
    · exact h.sep _ _ _ _ _ _ s1 t1 hb hb' hne
  · rcases side id hi with ⟨s1, s2, s3⟩ | ⟨s1, s2, s3⟩ <;> rw [s3] at hb
    · have := b2 _ _ _ s1 hb; have := h.size; exact .inl (by omega)
    · exact h.own _ _ _ s1 hb
  · by_cases he : e.U id
    · rw [(p he).1] at hb
      exact Nat.lt_of_lt_of_le (b1 _ _ _ he hb) hsz
    · rw [(q he).1] at hb
      exact h2.lt _ _ _ (hu.resolve_left he) hb
  · rcases h2.snew b i hs with r | r | r
    · exact h.snew b i r
    · have r : e.w.heap.size ≤ b := r
      have := h.size; exact .inr (.inl (by omega))
    · exact r.elim
  · exact (hbl k (by have := h.size; omega)).trans (h.block k hk hm)
  · rcases side j hj with ⟨s1, s2, s3⟩ | ⟨s1, s2, s3⟩ <;> rw [s3] at hb <;> rcases hG with hG | hG
    · have := b2 _ _ _ s1 hb; have := h.g.lt _ _ hG; omega
    · exact h2.g.sep _ _ hG _ _ _ s1 hb
    · exact h.g.sep _ _ hG _ _ _ s1 hb
    · have := b1 _ _ _ s2 hb; have := g2 _ _ hG; omega
  · rcases h1 with h1 | h1 <;> rcases h3 with h3 | h3
    · exact h.g.uniq _ _ _ h1 h3
    · have := h.g.lt _ _ h1; have := g2 _ _ h3; omega
    · have := g2 _ _ h1; have := h.g.lt _ _ h3; omega
    · exact h2.g.uniq _ _ _ h1 h3
  · rcases hG with hG | hG
    · exact h.g.own _ _ hG
    · have := g2 _ _ hG; have := h.size; exact .inl (by omega)
  · show b < e2.w.heap.size
    rcases hG with hG | hG
    · have := h.g.lt _ _ hG; omega
    · exact h2.g.lt _ _ hG
end Go.Vm

namespace Go.Vm
open Go.RowKit
variable {P : Program} {T : TT} {c : Ctx} {e : Env} {of : Nat → Option Ob}
def mbx (a b t kt st el : Nat) (done : List (V × V × Bool)) (id : Nat) : Option Ob :=
  if id = a then some (.box t (.g t [.m b]) false) else if id = b then some (.sm kt st el done none) else none
def Env.mbx (w : World) (S G : Nat → Nat → Prop) (a b bx bo t : Nat) : Env :=
  { w := w, ι := fun id => if id = a then some (bx, 0) else if id = b then some (bo, 0) else none, S := S, bn := fun _ => 0, U := fun id => id = a ∨ id = b, ty := fun id => if id = a then t else 0, ln := fun _ => 0, G := G }
structure MapBox (T : TT) (t mt : Nat) : Prop where
  ch : chT T t = some [mt]
  sc : scal T mt = true
  sz : szT T t = 1
theorem mbx_norm {a0 b0 a b t mt kt st el bx bo : Nat} {done : List (V × V × Bool)} (hk : MapBox T t mt) (hab0 : a0 ≠ b0) (hab : a ≠ b) (h : OSim T c e (mbx a0 b0 t kt st el done)) (h0 : e.ι a0 = some (bx, 0)) (h1 : e.ι b0 = some (bo, 0)) :
    OSim T c (Env.mbx e.w e.S e.G a b bx bo t) (mbx a b t kt st el done) := by
  have oa0 : mbx a0 b0 t kt st el done a0 = some (.box t (.g t [.m b0]) false) := if_pos rfl
  have ob0 : mbx a0 b0 t kt st el done b0 = some (.sm kt st el done none) := by unfold mbx; rw [if_neg (Ne.symm hab0), if_pos rfl]
  have oa : mbx a b t kt st el done a = some (.box t (.g t [.m b]) false) := if_pos rfl
  have ob : mbx a b t kt st el done b = some (.sm kt st el done none) := by unfold mbx; rw [if_neg (Ne.symm hab), if_pos rfl]
  have sa0 : (mbx a0 b0 t kt st el done a0).isSome := by rw [oa0]; rfl
  have sb0 : (mbx a0 b0 t kt st el done b0).isSome := by rw [ob0]; rfl
  have ia : (Env.mbx e.w e.S e.G a b bx bo t).ι a = some (bx, 0) := if_pos rfl
  have ib : (Env.mbx e.w e.S e.G a b bx bo t).ι b = some (bo, 0) := by show (if b = a then _ else _) = _; rw [if_neg (Ne.symm hab), if_pos rfl]
  have cas : ∀ id b' o, (Env.mbx e.w e.S e.G a b bx bo t).ι id = some (b', o) → (id = a ∧ b' = bx ∧ o = 0) ∨ (id = b ∧ b' = bo ∧ o = 0) := fun id b' o hb => by
    have hb : (if id = a then some (bx, 0) else if id = b then some (bo, 0) else none) = some (b', o) := hb
    split at hb
    · injection hb with hb; injection hb with h1 h2; exact .inl ⟨by assumption, h1.symm, h2.symm⟩
    · split at hb
      · injection hb with hb; injection hb with h1 h2; exact .inr ⟨by assumption, h1.symm, h2.symm⟩
      · cases hb
  have hne : bx ≠ bo := h.sep _ _ _ _ _ _ sa0 sb0 h0 h1 hab0
  have hoka := h.ok _ _ oa0
  have hokb := h.ok _ _ ob0
  have hown : ∀ id b' o, (Env.mbx e.w e.S e.G a b bx bo t).ι id = some (b', o) → c.w0.heap.size ≤ b' ∨ c.M b' := fun id b' o hb => by
    rcases cas id b' o hb with ⟨_, rfl, _⟩ | ⟨_, rfl, _⟩
    · exact h.own _ _ _ sa0 h0
    · exact h.own _ _ _ sb0 h1
  refine ⟨fun id o ho => ?_, fun i j b1 o1 b2 o2 _ _ hb1 hb2 hij => ?_, fun id b' o _ hb => hown id b' o hb, fun id b' o _ hb => ?_, h.slt, h.s0, h.snew, h.os, h.tape, h.output, h.size, h.block, ⟨fun a' b' hG j b2 o hj hb => ?_, h.g.uniq, h.g.own, h.g.lt⟩⟩
  · unfold mbx at ho
    split at ho
    · rename_i hid; subst hid
      injection ho with ho; subst ho
      obtain ⟨_, u2, u3, u4, bb, cs, ty, fz, g1, g2, g3, g4, g5, g6⟩ := hoka
      rw [h0] at g1; cases g1
      refine ⟨.inl rfl, rfl, if_pos rfl, by simp [fitA], bx, cs, ty, fz, ia, g2, g3, g4, ?_, g6⟩
      have hcs : ∃ v, cs.toList = [v] ∧ v = .map (some bo) := by
        generalize hl : cs.toList = l at g5
        cases g5 with
        | @g _ _ ts ds _ cs' k1 k2 k3 k4 k5 =>
          cases k5
          rw [List.append_nil]
          cases k4 with
          | r m1 m2 m3 =>
            cases m3
            obtain ⟨b', _, _, n3, rfl⟩ := m1
            rw [h1] at n3; cases n3
            exact ⟨_, rfl, rfl⟩
        | r k1 _ _ => exact k1.elim
      obtain ⟨v, hv, rfl⟩ := hcs
      rw [hv]
      have := RA.g (e := Env.mbx e.w e.S e.G id b bx bo t) (ds := [.map (some bo)]) (l := [.m b]) hk.ch (by simp [fitL, fitA, hk.sc]) (by rw [hk.sz]; rfl) (RA.r ⟨bo, .inr rfl, rfl, ib, rfl⟩ rfl .nil) .nil
      rwa [List.append_nil] at this
    · split at ho
      · rename_i hid; subst hid
        injection ho with ho; subst ho
        obtain ⟨_, u2, u3, u4, u5, bb, ms, clock, g1, g2, g3, es', bs, g4, g5⟩ := hokb
        rw [h1] at g1; cases g1
        exact ⟨.inr rfl, rfl, u3, u4, u5, bo, ms, clock, ib, g2, g3, es', bs, g4, SR.move (e := e) (e' := Env.mbx e.w e.S e.G a id bx bo t) (fun _ _ q => q) rfl (fun _ _ q => q) (fun _ q => q) g5⟩
      · cases ho
  · rcases cas _ _ _ hb1 with ⟨rfl, rfl, _⟩ | ⟨rfl, rfl, _⟩ <;> rcases cas _ _ _ hb2 with ⟨rfl, rfl, _⟩ | ⟨rfl, rfl, _⟩
    · exact absurd rfl hij
    · exact hne
    · exact Ne.symm hne
    · exact absurd rfl hij
  · rcases cas _ _ _ hb with ⟨_, rfl, _⟩ | ⟨_, rfl, _⟩
    · exact h.lt _ _ _ hoka.use h0
    · exact h.lt _ _ _ hokb.use h1
  · rcases cas _ _ _ hb with ⟨_, rfl, _⟩ | ⟨_, rfl, _⟩
    · exact h.g.sep _ _ hG _ _ _ sa0 h0
    · exact h.g.sep _ _ hG _ _ _ sb0 h1
end Go.Vm
end
