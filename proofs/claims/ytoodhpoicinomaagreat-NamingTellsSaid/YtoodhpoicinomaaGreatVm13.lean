/- What the operations of a program do, shown once for all programs; and numbers. -/
import Derived.Test.YtoodhpoicinomaaGreatVm12
import Derived.Test.YtoodhpoicinomaaGreatVm11
import Derived.Maps.RangeRun
import Derived.WalkKit
set_option linter.constructorNameAsVariable false
set_option linter.unusedVariables false
set_option linter.unusedSimpArgs false
noncomputable section
namespace Go.Vm
open Go.RowKit
variable {R : Type}
set_option linter.unusedVariables false
set_option linter.constructorNameAsVariable false

/-! ### The hasher makes SHA-256 of all that it took in -/
theorem mixes_succ {d : Nat} {S : S8} {L : List Nat} (h : L ≠ []) : mixesN (d + 1) S L = mixesN d (mixN S (L.take 64)) (L.drop 64) := by
  cases L with
  | nil => exact absurd rfl h
  | cons a r => rfl
theorem mixes_app : ∀ (a b : Nat) (S : S8) (X Y : List Nat), X.length = 64 * a → mixesN (a + b) S (X ++ Y) = mixesN b (mixesN a S X) Y := by
  intro a
  induction a with
  | zero =>
    intro b S X Y h
    have : X = [] := List.length_eq_zero_iff.1 (by omega)
    subst this
    rw [Nat.zero_add]; rfl
  | succ a ih =>
    intro b S X Y h
    have hne : X ≠ [] := by intro q; subst q; simp at h
    have hne2 : X ++ Y ≠ [] := by intro q; exact hne (List.append_eq_nil_iff.1 q).1
    rw [show a + 1 + b = (a + b) + 1 by omega, mixes_succ hne2, mixes_succ hne, List.take_append_of_le_length (by omega), List.drop_append_of_le_length (by omega)]
    exact ih b _ _ _ (by rw [List.length_drop]; omega)
theorem mixes_take : ∀ (a : Nat) (S : S8) (X Y : List Nat), X.length = 64 * a → mixesN a S (X ++ Y) = mixesN a S X := by
  intro a S X Y h
  have := mixes_app a 0 S X Y h
  rw [Nat.add_zero] at this
  rw [this]; rfl
theorem drop_app {X Y : List Nat} {a : Nat} (b : Nat) (h : X.length = a) : (X ++ Y).drop (a + b) = Y.drop b := by
  subst h
  rw [List.drop_append, List.drop_eq_nil_of_le (by omega)]; simp
theorem take_app {X Y : List Nat} {a : Nat} (b : Nat) (h : X.length = a) : (X ++ Y).take (a + b) = X ++ Y.take b := by
  subst h
  rw [List.take_append, List.take_of_length_le (by omega)]; simp
/-- What is taken in: whole pieces are mixed, the rest waits. -/
structure Took (C : List Nat) (S : S8) (B : List Nat) : Prop where
  s : S = mixesN (C.length / 64) s0N (C.take (64 * (C.length / 64)))
  r : B = C.drop (64 * (C.length / 64))
theorem Took.len {C B : List Nat} {S : S8} (h : Took C S B) : B.length = C.length % 64 := by
  rw [h.r, List.length_drop]; omega
theorem Took.add {C B D : List Nat} {S : S8} (h : Took C S B) : Took (C ++ D) (mixesN ((B ++ D).length / 64) S (B ++ D)) ((B ++ D).drop (64 * ((B ++ D).length / 64))) := by
  have hl := h.len
  have hC : C.take (64 * (C.length / 64)) ++ B = C := by rw [h.r, List.take_append_drop]
  have hX : (C.take (64 * (C.length / 64))).length = 64 * (C.length / 64) := by rw [List.length_take]; omega
  have hn : (C ++ D).length / 64 = C.length / 64 + (B ++ D).length / 64 := by
    rw [List.length_append, List.length_append, hl]; omega
  have hCD : C ++ D = C.take (64 * (C.length / 64)) ++ (B ++ D) := by rw [← List.append_assoc, hC]
  have hq : (B ++ D).take (64 * ((B ++ D).length / 64)) ++ (B ++ D).drop (64 * ((B ++ D).length / 64)) = B ++ D := List.take_append_drop _ _
  have hql : ((B ++ D).take (64 * ((B ++ D).length / 64))).length = 64 * ((B ++ D).length / 64) := by rw [List.length_take]; omega
  refine ⟨?_, ?_⟩
  · have e1 : (C ++ D).take (64 * ((C ++ D).length / 64)) = C.take (64 * (C.length / 64)) ++ (B ++ D).take (64 * ((B ++ D).length / 64)) := by
      rw [hn, Nat.mul_add]
      conv => lhs; rw [hCD]
      exact take_app _ hX
    rw [e1, hn, mixes_app _ _ _ _ _ hX, ← h.s]
    have := mixes_take _ S _ ((B ++ D).drop (64 * ((B ++ D).length / 64))) hql
    rw [hq] at this
    exact this
  · rw [hn, Nat.mul_add]
    conv => rhs; rw [hCD]
    exact (drop_app _ hX).symm
/-! One slice more. -/
end Go.Vm


namespace Go.Vm
open Go.RowKit
variable {R : Type}
set_option linter.unusedVariables false
set_option linter.constructorNameAsVariable false

/-! The end. -/
end Go.Vm


namespace Go.Vm
open Go.RowKit
variable {R : Type}
set_option linter.unusedVariables false
/-! digest.Sum, Twice as functions of their arguments. -/
end Go.Vm


namespace Go.Vm
open Go.RowKit
variable {R : Type}
set_option linter.unusedVariables false
set_option linter.constructorNameAsVariable false
/-! A head's bytes and its name. -/
end Go.Vm


namespace Go.Vm
open Go.RowKit
variable {R : Type}
set_option linter.unusedVariables false
set_option linter.constructorNameAsVariable false
end Go.Vm


namespace Go.Vm
open Go.RowKit
variable {T : TT} {P : Program} {c : Ctx} {e eb : Env} {of of' : Nat → Option Ob}
set_option linter.unusedVariables false
set_option linter.constructorNameAsVariable false

/-! ### The sum over a map of coins, in whatever order -/
end Go.Vm


namespace Go.Vm
open Go.RowKit
variable {R : Type}
set_option linter.unusedVariables false
set_option linter.constructorNameAsVariable false

/-! ### A transaction as bytes -/
theorem slice_els {d : D} {x : V} (h : (D.slice d).has x) : ∀ y ∈ x.els, d.has y := by
  rcases h with rfl | ⟨ys, rfl, hy⟩
  · intro y hy; cases hy
  · exact hy
end Go.Vm


namespace Go.Vm
open Go.RowKit
variable {R : Type}
set_option linter.unusedVariables false
/-! A transaction's name. -/
end Go.Vm


namespace Go.Vm
open Go.RowKit
variable {R : Type}
set_option linter.unusedVariables false
set_option linter.constructorNameAsVariable false
set_option linter.unusedSimpArgs false

/-! ### Sums of outputs; what can be; what is too great -/
theorem ile_d (a b : Int) : ile a b = decide (a ≤ b) := by simp [ile]
theorem ilt_d (a b : Int) : ilt a b = decide (a < b) := by simp [ilt]
theorem ix_t {a r : List V} {x : V} {l : V} (he : l.els = a ++ x :: r) : ilt (a.length : Nat) (l.els.length : Nat) = true := by rw [he]; simp [ilt]; omega
theorem ix_f {a : List V} {l : V} (he : l.els = a) : ilt (a.length : Nat) (l.els.length : Nat) = false := by rw [he]; simp [ilt]
/-! What can be. -/
/-! What is too great. -/
def longB (x : V) : Bool := decide (300 < (x.nth 1).els.length)
def greatS (t : V) : Bool := decide (12 < (t.nth 1).els.length) || decide (12 < (t.nth 2).els.length) || (t.nth 1).els.any longB || (t.nth 2).els.any longB
/-! Where these hold. -/
abbrev MX : Nat := 9223372036854775807
def gtr (b : Nat) : List V → List Rs
  | [t] => [.d b (.b (greatS t))]
  | _ => []
end Go.Vm


namespace Go.Vm
open Go.RowKit
variable {T : TT} {P : Program} {c : Ctx} {e : Env} {of of' : Nat → Option Ob}
set_option linter.unusedVariables false
set_option linter.constructorNameAsVariable false

/-! ### The sum over a map of coins: the function's contract -/
end Go.Vm


namespace Go.Vm
open Go.RowKit
variable {R : Type}
set_option linter.unusedVariables false
set_option linter.constructorNameAsVariable false
set_option linter.unusedSimpArgs false

/-! ### The purse's functions, loop by loop -/
/-! Twice the same reference? -/
/-! A purse of coins. -/
/-! What is left. -/
/-! What is done. -/
end Go.Vm


namespace Go.Vm
open Go.RowKit
variable {R : Type}
set_option linter.unusedVariables false
set_option linter.constructorNameAsVariable false
set_option linter.unusedSimpArgs false
/-! ### Can a transaction be? -/
end Go.Vm


namespace Go.Vm
open Go.RowKit
variable {R : Type}
set_option linter.unusedVariables false
set_option linter.constructorNameAsVariable false
set_option linter.unusedSimpArgs false
/-! ### PurseSums -/
end Go.Vm


namespace Go.Vm
open Go.RowKit
set_option linter.unusedVariables false
set_option linter.constructorNameAsVariable false
set_option linter.unusedSimpArgs false

/-! ### Maps of data -/
end Go.Vm


namespace Go.Vm
open Go.RowKit
set_option linter.unusedVariables false
set_option linter.constructorNameAsVariable false
set_option linter.unusedSimpArgs false

/-! ### PurseSums, told -/
end Go.Vm


namespace Go.Vm
open Go.RowKit
set_option linter.unusedVariables false
set_option linter.constructorNameAsVariable false

/-! ### Naming's loops, as they are -/
inductive PRn where
  | m (l : V) (n : Int) (i : Int)
inductive QRn where
  | o (l : V) (n : Int) (i : Int)
  | r (l : V) (n : Int) (i : Int)
def BRn (R : Type) (p : PRn) (K : PRn → Option R) (kx : QRn → Option R) : Option R :=
  match p with
  | .m l n i =>
    bif ilt i n then
      ck i ((l.els).length) <|
      bif ilt 40 i then
      kx (.r l n i)
      else
      ln ((((V.nth (V.nth l i.toNat) 0)).els).length) <|
      bif ilt 100 ((((V.nth (V.nth l i.toNat) 0)).els).length : Nat) then
      kx (.r l n i)
      else
      ln ((((V.nth (V.nth l i.toNat) 1)).els).length) <|
      bif ilt 300 ((((V.nth (V.nth l i.toNat) 1)).els).length : Nat) then
      kx (.r l n i)
      else
      bif ilt (((V.nth (V.nth l i.toNat) 2)).int) 0 then
      kx (.r l n i)
      else
      bif ilt 1000000000 (((V.nth (V.nth l i.toNat) 2)).int) then
      kx (.r l n i)
      else
      K (.m l n (W64 (i + 1)))
      else
      kx (.o l n i)
theorem BRn_m {R : Type} (l : V) (n : Int) (i : Int) (K : PRn → Option R) (kx : QRn → Option R) : BRn R (.m l n i) K kx =
    (bif ilt i n then
      ck i ((l.els).length) <|
      bif ilt 40 i then
      kx (.r l n i)
      else
      ln ((((V.nth (V.nth l i.toNat) 0)).els).length) <|
      bif ilt 100 ((((V.nth (V.nth l i.toNat) 0)).els).length : Nat) then
      kx (.r l n i)
      else
      ln ((((V.nth (V.nth l i.toNat) 1)).els).length) <|
      bif ilt 300 ((((V.nth (V.nth l i.toNat) 1)).els).length : Nat) then
      kx (.r l n i)
      else
      bif ilt (((V.nth (V.nth l i.toNat) 2)).int) 0 then
      kx (.r l n i)
      else
      bif ilt 1000000000 (((V.nth (V.nth l i.toNat) 2)).int) then
      kx (.r l n i)
      else
      K (.m l n (W64 (i + 1)))
      else
      kx (.o l n i)) := rfl
inductive PSa where
  | m (a : V) (b : V) (n : Int) (i : Int)
inductive QSa where
  | o (a : V) (b : V) (n : Int) (i : Int)
  | r (a : V) (b : V) (n : Int) (i : Int)
def BSa (R : Type) (p : PSa) (K : PSa → Option R) (kx : QSa → Option R) : Option R :=
  match p with
  | .m a b n i =>
    bif ilt i n then
      ck i ((a.els).length) <|
      ck i ((b.els).length) <|
      bif !(veq (V.nth a i.toNat) (V.nth b i.toNat)) then
      kx (.r a b n i)
      else
      K (.m a b n (W64 (i + 1)))
      else
      kx (.o a b n i)
theorem BSa_m {R : Type} (a : V) (b : V) (n : Int) (i : Int) (K : PSa → Option R) (kx : QSa → Option R) : BSa R (.m a b n i) K kx =
    (bif ilt i n then
      ck i ((a.els).length) <|
      ck i ((b.els).length) <|
      bif !(veq (V.nth a i.toNat) (V.nth b i.toNat)) then
      kx (.r a b n i)
      else
      K (.m a b n (W64 (i + 1)))
      else
      kx (.o a b n i)) := rfl
inductive PSx where
  | m (a : V) (b : V) (n : Int) (i : Int)
inductive QSx where
  | o (a : V) (b : V) (n : Int) (i : Int)
  | r (a : V) (b : V) (n : Int) (i : Int)
def BSx (R : Type) (p : PSx) (K : PSx → Option R) (kx : QSx → Option R) : Option R :=
  match p with
  | .m a b n i =>
    bif ilt i n then
      ck i ((a.els).length) <|
      ck i ((b.els).length) <|
      bif !(veqL (((V.nth a i.toNat)).els) (((V.nth b i.toNat)).els)) then
      kx (.r a b n i)
      else
      K (.m a b n (W64 (i + 1)))
      else
      kx (.o a b n i)
theorem BSx_m {R : Type} (a : V) (b : V) (n : Int) (i : Int) (K : PSx → Option R) (kx : QSx → Option R) : BSx R (.m a b n i) K kx =
    (bif ilt i n then
      ck i ((a.els).length) <|
      ck i ((b.els).length) <|
      bif !(veqL (((V.nth a i.toNat)).els) (((V.nth b i.toNat)).els)) then
      kx (.r a b n i)
      else
      K (.m a b n (W64 (i + 1)))
      else
      kx (.o a b n i)) := rfl
inductive PNn where
  | m (l : V) (es : List (V × V × Bool)) (n : Int) (i : Int)
inductive QNn where
  | o (l : V) (es : List (V × V × Bool)) (n : Int) (i : Int)
def BNn (R : Type) (p : PNn) (K : PNn → Option R) (kx : QNn → Option R) : Option R :=
  match p with
  | .m l es n i =>
    bif ilt i n then
      ck i ((l.els).length) <|
      bif hasS (.s (((V.nth (V.nth l i.toNat) 0)).els)) es then
      bif ownS (.s (((V.nth (V.nth l i.toNat) 0)).els)) es then
      lim ((((valS (.s (((V.nth (V.nth l i.toNat) 0)).els)) es)).els).length + ([(V.nth l i.toNat)]).length) <|
      bif veq (.s (((V.nth (V.nth l i.toNat) 0)).els)) (.s (((V.nth (V.nth l i.toNat) 0)).els)) then
      K (.m l (setS (.s (((V.nth (V.nth l i.toNat) 0)).els)) (.l (((valS (.s (((V.nth (V.nth l i.toNat) 0)).els)) es)).els ++ [(V.nth l i.toNat)])) true es) n (W64 (i + 1)))
      else
      none
      else
      none
      else
      K (.m l (setS (.s (((V.nth (V.nth l i.toNat) 0)).els)) (.l [(V.nth l i.toNat)]) true es) n (W64 (i + 1)))
      else
      kx (.o l es n i)
theorem BNn_m {R : Type} (l : V) (es : List (V × V × Bool)) (n : Int) (i : Int) (K : PNn → Option R) (kx : QNn → Option R) : BNn R (.m l es n i) K kx =
    (bif ilt i n then
      ck i ((l.els).length) <|
      bif hasS (.s (((V.nth (V.nth l i.toNat) 0)).els)) es then
      bif ownS (.s (((V.nth (V.nth l i.toNat) 0)).els)) es then
      lim ((((valS (.s (((V.nth (V.nth l i.toNat) 0)).els)) es)).els).length + ([(V.nth l i.toNat)]).length) <|
      bif veq (.s (((V.nth (V.nth l i.toNat) 0)).els)) (.s (((V.nth (V.nth l i.toNat) 0)).els)) then
      K (.m l (setS (.s (((V.nth (V.nth l i.toNat) 0)).els)) (.l (((valS (.s (((V.nth (V.nth l i.toNat) 0)).els)) es)).els ++ [(V.nth l i.toNat)])) true es) n (W64 (i + 1)))
      else
      none
      else
      none
      else
      K (.m l (setS (.s (((V.nth (V.nth l i.toNat) 0)).els)) (.l [(V.nth l i.toNat)]) true es) n (W64 (i + 1)))
      else
      kx (.o l es n i)) := rfl
inductive PHn where
  | m (nm : List V) (l : V) (xs : List V) (n : Int) (i : Int)
inductive QHn where
  | o (nm : List V) (l : V) (xs : List V) (n : Int) (i : Int)
def BHn (R : Type) (p : PHn) (K : PHn → Option R) (kx : QHn → Option R) : Option R :=
  match p with
  | .m nm l xs n i =>
    bif ilt i n then
      ck i ((l.els).length) <|
      bif veqL (((V.nth (V.nth l i.toNat) 0)).els) nm then
      lim (xs.length + ([(V.nth l i.toNat)]).length) <|
      K (.m nm l (xs ++ [(V.nth l i.toNat)]) n (W64 (i + 1)))
      else
      K (.m nm l xs n (W64 (i + 1)))
      else
      kx (.o nm l xs n i)
theorem BHn_m {R : Type} (nm : List V) (l : V) (xs : List V) (n : Int) (i : Int) (K : PHn → Option R) (kx : QHn → Option R) : BHn R (.m nm l xs n i) K kx =
    (bif ilt i n then
      ck i ((l.els).length) <|
      bif veqL (((V.nth (V.nth l i.toNat) 0)).els) nm then
      lim (xs.length + ([(V.nth l i.toNat)]).length) <|
      K (.m nm l (xs ++ [(V.nth l i.toNat)]) n (W64 (i + 1)))
      else
      K (.m nm l xs n (W64 (i + 1)))
      else
      kx (.o nm l xs n i)) := rfl
inductive PNi where
  | m (xs : List V) (e : V) (a : Int) (l : V) (n : Int) (i : Int)
inductive QNi where
  | o (xs : List V) (e : V) (a : Int) (l : V) (n : Int) (i : Int)
def BNi (R : Type) (p : PNi) (K : PNi → Option R) (kx : QNi → Option R) : Option R :=
  match p with
  | .m xs e a l n i =>
    ln xs.length <|
      bif ilt a (xs.length : Nat) then
      ck a xs.length <|
      bif sLt (((List.getD xs a.toNat .n)).els) (((V.nth e 0)).els) then
      K (.m xs e (W64 (a + 1)) l n i)
      else
      kx (.o xs e a l n i)
      else
      kx (.o xs e a l n i)
theorem BNi_m {R : Type} (xs : List V) (e : V) (a : Int) (l : V) (n : Int) (i : Int) (K : PNi → Option R) (kx : QNi → Option R) : BNi R (.m xs e a l n i) K kx =
    (ln xs.length <|
      bif ilt a (xs.length : Nat) then
      ck a xs.length <|
      bif sLt (((List.getD xs a.toNat .n)).els) (((V.nth e 0)).els) then
      K (.m xs e (W64 (a + 1)) l n i)
      else
      kx (.o xs e a l n i)
      else
      kx (.o xs e a l n i)) := rfl
end Go.Vm


namespace Go.Vm
open Go.RowKit
set_option linter.unusedVariables false
set_option linter.constructorNameAsVariable false

/-! ### The document's names: the loop as it is -/
inductive PNo where
  | m (xs : List V) (l : V) (n : Int) (i : Int)
inductive QNo where
  | o (xs : List V) (l : V) (n : Int) (i : Int)
noncomputable def BNo (R : Type) (p : PNo) (K : PNo → Option R) (kx : QNo → Option R) : Option R :=
  match p with
  | .m xs l n i =>
    bif ilt i n then
      ck i ((l.els).length) <|
      (lpC (BNi R) (hid FU) (.m xs (V.nth l i.toNat) 0 l n i) fun q => match q with
      | .o xs1 e1 a1 l1 n1 i1 =>
      ln xs1.length <|
      bif ieq a1 (xs1.length : Nat) then
      bif ((ile 0 a1) && (ile a1 (xs1.length : Nat))) && (ile (xs1.length : Nat) (xs1.length : Nat)) then
      bif Nat.ble ((0 + a1.toNat) + (((xs1.length : Nat) - a1)).toNat) xs1.length then
      lim (((List.replicate 0 (V.s []))).length + ((List.take ((((xs1.length : Nat) - a1)).toNat) (List.drop (0 + a1.toNat) xs1))).length) <|
      bif ieq a1 a1 then
      bif ((ile 0 (0 : Nat)) && (ile (0 : Nat) a1)) && (ile a1 (xs1.length : Nat)) then
      lim (((List.take (((a1 - (0 : Nat))).toNat) (List.drop 0 xs1))).length + ([(V.s (((V.nth e1 0)).els))]).length) <|
      lim ((((List.take (((a1 - (0 : Nat))).toNat) (List.drop 0 xs1)) ++ [(V.s (((V.nth e1 0)).els))])).length + (((List.replicate 0 (V.s [])) ++ (List.take ((((xs1.length : Nat) - a1)).toNat) (List.drop (0 + a1.toNat) xs1)))).length) <|
      K (.m (((List.take (((a1 - (0 : Nat))).toNat) (List.drop 0 xs1)) ++ [(V.s (((V.nth e1 0)).els))]) ++ ((List.replicate 0 (V.s [])) ++ (List.take ((((xs1.length : Nat) - a1)).toNat) (List.drop (0 + a1.toNat) xs1)))) l1 n1 (W64 (i1 + 1)))
      else
      none
      else
      none
      else
      none
      else
      none
      else
      ck a1 xs1.length <|
      bif !(veqL (((List.getD xs1 a1.toNat .n)).els) (((V.nth e1 0)).els)) then
      bif ((ile 0 a1) && (ile a1 (xs1.length : Nat))) && (ile (xs1.length : Nat) (xs1.length : Nat)) then
      bif Nat.ble ((0 + a1.toNat) + (((xs1.length : Nat) - a1)).toNat) xs1.length then
      lim (((List.replicate 0 (V.s []))).length + ((List.take ((((xs1.length : Nat) - a1)).toNat) (List.drop (0 + a1.toNat) xs1))).length) <|
      bif ieq a1 a1 then
      bif ((ile 0 (0 : Nat)) && (ile (0 : Nat) a1)) && (ile a1 (xs1.length : Nat)) then
      lim (((List.take (((a1 - (0 : Nat))).toNat) (List.drop 0 xs1))).length + ([(V.s (((V.nth e1 0)).els))]).length) <|
      lim ((((List.take (((a1 - (0 : Nat))).toNat) (List.drop 0 xs1)) ++ [(V.s (((V.nth e1 0)).els))])).length + (((List.replicate 0 (V.s [])) ++ (List.take ((((xs1.length : Nat) - a1)).toNat) (List.drop (0 + a1.toNat) xs1)))).length) <|
      K (.m (((List.take (((a1 - (0 : Nat))).toNat) (List.drop 0 xs1)) ++ [(V.s (((V.nth e1 0)).els))]) ++ ((List.replicate 0 (V.s [])) ++ (List.take ((((xs1.length : Nat) - a1)).toNat) (List.drop (0 + a1.toNat) xs1)))) l1 n1 (W64 (i1 + 1)))
      else
      none
      else
      none
      else
      none
      else
      none
      else
      K (.m xs1 l1 n1 (W64 (i1 + 1))))
      else
      kx (.o xs l n i)
theorem BNo_m {R : Type} (xs : List V) (l : V) (n : Int) (i : Int) (K : PNo → Option R) (kx : QNo → Option R) : BNo R (.m xs l n i) K kx =
    (bif ilt i n then
      ck i ((l.els).length) <|
      (lpC (BNi R) (hid FU) (.m xs (V.nth l i.toNat) 0 l n i) fun q => match q with
      | .o xs1 e1 a1 l1 n1 i1 =>
      ln xs1.length <|
      bif ieq a1 (xs1.length : Nat) then
      bif ((ile 0 a1) && (ile a1 (xs1.length : Nat))) && (ile (xs1.length : Nat) (xs1.length : Nat)) then
      bif Nat.ble ((0 + a1.toNat) + (((xs1.length : Nat) - a1)).toNat) xs1.length then
      lim (((List.replicate 0 (V.s []))).length + ((List.take ((((xs1.length : Nat) - a1)).toNat) (List.drop (0 + a1.toNat) xs1))).length) <|
      bif ieq a1 a1 then
      bif ((ile 0 (0 : Nat)) && (ile (0 : Nat) a1)) && (ile a1 (xs1.length : Nat)) then
      lim (((List.take (((a1 - (0 : Nat))).toNat) (List.drop 0 xs1))).length + ([(V.s (((V.nth e1 0)).els))]).length) <|
      lim ((((List.take (((a1 - (0 : Nat))).toNat) (List.drop 0 xs1)) ++ [(V.s (((V.nth e1 0)).els))])).length + (((List.replicate 0 (V.s [])) ++ (List.take ((((xs1.length : Nat) - a1)).toNat) (List.drop (0 + a1.toNat) xs1)))).length) <|
      K (.m (((List.take (((a1 - (0 : Nat))).toNat) (List.drop 0 xs1)) ++ [(V.s (((V.nth e1 0)).els))]) ++ ((List.replicate 0 (V.s [])) ++ (List.take ((((xs1.length : Nat) - a1)).toNat) (List.drop (0 + a1.toNat) xs1)))) l1 n1 (W64 (i1 + 1)))
      else
      none
      else
      none
      else
      none
      else
      none
      else
      ck a1 xs1.length <|
      bif !(veqL (((List.getD xs1 a1.toNat .n)).els) (((V.nth e1 0)).els)) then
      bif ((ile 0 a1) && (ile a1 (xs1.length : Nat))) && (ile (xs1.length : Nat) (xs1.length : Nat)) then
      bif Nat.ble ((0 + a1.toNat) + (((xs1.length : Nat) - a1)).toNat) xs1.length then
      lim (((List.replicate 0 (V.s []))).length + ((List.take ((((xs1.length : Nat) - a1)).toNat) (List.drop (0 + a1.toNat) xs1))).length) <|
      bif ieq a1 a1 then
      bif ((ile 0 (0 : Nat)) && (ile (0 : Nat) a1)) && (ile a1 (xs1.length : Nat)) then
      lim (((List.take (((a1 - (0 : Nat))).toNat) (List.drop 0 xs1))).length + ([(V.s (((V.nth e1 0)).els))]).length) <|
      lim ((((List.take (((a1 - (0 : Nat))).toNat) (List.drop 0 xs1)) ++ [(V.s (((V.nth e1 0)).els))])).length + (((List.replicate 0 (V.s [])) ++ (List.take ((((xs1.length : Nat) - a1)).toNat) (List.drop (0 + a1.toNat) xs1)))).length) <|
      K (.m (((List.take (((a1 - (0 : Nat))).toNat) (List.drop 0 xs1)) ++ [(V.s (((V.nth e1 0)).els))]) ++ ((List.replicate 0 (V.s [])) ++ (List.take ((((xs1.length : Nat) - a1)).toNat) (List.drop (0 + a1.toNat) xs1)))) l1 n1 (W64 (i1 + 1)))
      else
      none
      else
      none
      else
      none
      else
      none
      else
      K (.m xs1 l1 n1 (W64 (i1 + 1))))
      else
      kx (.o xs l n i)) := rfl

end Go.Vm


namespace Go.Vm
open Go.RowKit
variable {R : Type}
set_option linter.unusedVariables false
set_option linter.constructorNameAsVariable false
set_option linter.unusedSimpArgs false

/-! ### The order of texts -/
theorem sLt_le : ∀ (x y : List V), sLt x y = !leVs y x := by
  intro x
  induction x with
  | nil => intro y; cases y <;> rfl
  | cons a x ih =>
    intro y
    cases y with
    | nil => rfl
    | cons b y =>
      simp only [sLt, leVs, ih]
      by_cases h1 : b.int < a.int
      · have e1 : ilt b.int a.int = true := by simp [ilt, h1]
        have e2 : ilt a.int b.int = false := by simp [ilt]; omega
        have e3 : ieq a.int b.int = false := by rw [← Bool.not_eq_true, ieq_iff]; omega
        simp [e1, e2, e3]
      · have e1 : ilt b.int a.int = false := by simp [ilt]; omega
        by_cases h2 : a.int < b.int
        · have e2 : ilt a.int b.int = true := by simp [ilt, h2]
          simp [e1, e2]
        · have e2 : ilt a.int b.int = false := by simp [ilt]; omega
          have e3 : ieq a.int b.int = true := by rw [ieq_iff]; omega
          simp [e1, e2, e3]
theorem leVs_refl : ∀ x : List V, leVs x x = true := by
  intro x
  induction x with
  | nil => rfl
  | cons a x ih =>
    have e1 : ilt a.int a.int = false := by simp [ilt]
    simp only [leVs, e1, cond_false, ih]
theorem leVs_tot : ∀ x y : List V, leVs x y = true ∨ leVs y x = true := by
  intro x
  induction x with
  | nil => intro y; exact .inl rfl
  | cons a x ih =>
    intro y
    cases y with
    | nil => exact .inr rfl
    | cons b y =>
      simp only [leVs]
      by_cases h1 : a.int < b.int
      · left; have : ilt a.int b.int = true := by simp [ilt, h1]
        rw [this]; rfl
      · have e1 : ilt a.int b.int = false := by simp [ilt]; omega
        by_cases h2 : b.int < a.int
        · right; have : ilt b.int a.int = true := by simp [ilt, h2]
          rw [this]; rfl
        · have e2 : ilt b.int a.int = false := by simp [ilt]; omega
          simp only [e1, e2, cond_false]
          exact ih y
theorem leVs_tr : ∀ {x y z : List V}, leVs x y = true → leVs y z = true → leVs x z = true := by
  intro x
  induction x with
  | nil => intro y z _ _; rfl
  | cons a x ih =>
    intro y z h1 h2
    cases y with
    | nil => cases h1
    | cons b y => cases z with
      | nil => cases h2
      | cons c z =>
        simp only [leVs] at h1 h2 ⊢
        simp only [ilt_d] at h1 h2 ⊢
        by_cases a1 : a.int < b.int
        · by_cases b1 : b.int < c.int
          · have : a.int < c.int := by omega
            simp [this]
          · by_cases b2 : c.int < b.int
            · simp [b1, b2] at h2
            · have : a.int < c.int := by omega
              simp [this]
        · by_cases a2 : b.int < a.int
          · simp [a1, a2] at h1
          · simp only [a1, a2, decide_false, cond_false] at h1
            by_cases b1 : b.int < c.int
            · have : a.int < c.int := by omega
              simp [this]
            · by_cases b2 : c.int < b.int
              · simp [b1, b2] at h2
              · simp only [b1, b2, decide_false, cond_false] at h2
                have c1 : ¬ a.int < c.int := by omega
                have c2 : ¬ c.int < a.int := by omega
                simp only [c1, c2, decide_false, cond_false]
                exact ih h1 h2
/-- A text's bytes. -/
def isNm (x : List V) : Prop := ∃ ns : List Nat, x = ns.map nv
theorem leVs_anti {x y : List V} (hx : isNm x) (hy : isNm y) (h1 : leVs x y = true) (h2 : leVs y x = true) : x = y := by
  obtain ⟨ns, rfl⟩ := hx
  obtain ⟨ms, rfl⟩ := hy
  induction ns generalizing ms with
  | nil => cases ms with
    | nil => rfl
    | cons b ms => cases h2
  | cons a ns ih => cases ms with
    | nil => cases h1
    | cons b ms =>
      simp only [List.map_cons, leVs, nv, V.int, ilt_d] at h1 h2
      by_cases a1 : (a : Int) < b
      · have : ¬ (b : Int) < a := by omega
        simp [a1, this] at h2
      · by_cases a2 : (b : Int) < a
        · simp [a1, a2] at h1
        · simp only [a1, a2, decide_false, cond_false] at h1 h2
          have : a = b := by omega
          subst this
          rw [List.map_cons, List.map_cons, ih ms h1 h2]
/-- Names: texts, in order, each once. -/
def NmV (x : V) : Prop := ∃ nm, x = .s nm ∧ isNm nm
def StS (xs : List V) : Prop := xs.Pairwise (fun a b => sLt a.els b.els = true) ∧ ∀ x ∈ xs, NmV x
def insN (nm : List V) : List V → List V
  | [] => [.s nm]
  | x :: r => bif sLt x.els nm then x :: insN nm r else bif veqL x.els nm then x :: r else .s nm :: x :: r
theorem insN_has {nm : List V} : ∀ {xs : List V}, StS xs → V.s nm ∈ xs → insN nm xs = xs := by
  intro xs
  induction xs with
  | nil => intro _ h; cases h
  | cons x r ih =>
    intro hs h
    obtain ⟨h1, h2⟩ := hs
    rw [List.pairwise_cons] at h1
    rcases List.mem_cons.1 h with rfl | h
    · have : sLt (V.s nm).els nm = false := by rw [sLt_le, show (V.s nm).els = nm from rfl, leVs_refl]; rfl
      have e2 : veqL (V.s nm).els nm = true := (veqL_iff _ _).2 rfl
      simp only [insN, this, cond_false, e2, cond_true]
    · have : sLt x.els nm = true := h1.1 _ h
      simp only [insN, this, cond_true]
      rw [ih ⟨h1.2, fun y hy => h2 y (by simp [hy])⟩ h]
theorem insN_new {nm : List V} : ∀ {xs : List V}, (∀ x ∈ xs, NmV x) → V.s nm ∉ xs → insN nm xs = insV (.s nm) xs := by
  intro xs
  induction xs with
  | nil => intro _ _; rfl
  | cons x r ih =>
    intro hs h
    simp only [List.mem_cons, not_or] at h
    obtain ⟨nx, rfl, _⟩ := hs x (by simp)
    have hne : veqL (V.s nx).els nm = false := by
      rw [← Bool.not_eq_true, veqL_iff]
      intro q; exact h.1 (by rw [← show nx = nm from q])
    simp only [insN, insV, sLt_le, hne, cond_false, show (V.s nm).els = nm from rfl]
    cases leVs nm (V.s nx).els
    · simp only [Bool.not_false, cond_true, cond_false]
      rw [ih (fun y hy => hs y (by simp [hy])) h.2]
    · rfl
theorem insV_mem {a x : V} : ∀ {l : List V}, x ∈ insV a l ↔ x = a ∨ x ∈ l := by
  intro l
  induction l with
  | nil => simp [insV]
  | cons b r ih =>
    simp only [insV]
    cases leVs a.els b.els
    · simp only [cond_false, List.mem_cons, ih]
      constructor
      · rintro (h | h | h) <;> simp [h]
      · rintro (h | h | h) <;> simp [h]
    · simp
theorem insV_perm (a : V) : ∀ l : List V, (insV a l).Perm (a :: l) := by
  intro l
  induction l with
  | nil => exact List.Perm.refl _
  | cons b r ih =>
    simp only [insV]
    cases leVs a.els b.els
    · exact (ih.cons b).trans (List.Perm.swap _ _ _)
    · exact List.Perm.refl _
theorem sortV_permV : ∀ l : List V, (sortV l).Perm l := by
  intro l
  induction l with
  | nil => exact List.Perm.refl _
  | cons a r ih => exact (insV_perm a _).trans (ih.cons a)
theorem insV_sorted (a : V) : ∀ l : List V, l.Pairwise (fun x y => leVs x.els y.els = true) → (insV a l).Pairwise (fun x y => leVs x.els y.els = true) := by
  intro l
  induction l with
  | nil => intro _; exact List.pairwise_singleton _ _
  | cons b r ih =>
    intro h
    rw [List.pairwise_cons] at h
    simp only [insV]
    cases hab : leVs a.els b.els
    · rw [cond_false, List.pairwise_cons]
      refine ⟨fun x hx => ?_, ih h.2⟩
      rcases insV_mem.1 hx with rfl | hx
      · rcases leVs_tot x.els b.els with q | q
        · rw [q] at hab; cases hab
        · exact q
      · exact h.1 x hx
    · rw [cond_true, List.pairwise_cons]
      refine ⟨fun x hx => ?_, List.pairwise_cons.2 h⟩
      rcases List.mem_cons.1 hx with rfl | hx
      · exact hab
      · exact leVs_tr hab (h.1 x hx)
theorem sortV_sorted : ∀ l : List V, (sortV l).Pairwise (fun x y => leVs x.els y.els = true) := by
  intro l
  induction l with
  | nil => exact List.Pairwise.nil
  | cons a r ih => exact insV_sorted a _ ih
theorem sortV_cong {l m : List V} (h : l.Perm m) (hn : ∀ x ∈ l, NmV x) : sortV l = sortV m := by
  have hp : (sortV l).Perm (sortV m) := ((sortV_permV l).trans h).trans (sortV_permV m).symm
  refine List.Perm.eq_of_pairwise (le := fun a b => leVs a.els b.els = true) (fun a b ha hb h1 h2 => ?_) (sortV_sorted l) (sortV_sorted m) hp
  obtain ⟨na, rfl, h3⟩ := hn a ((sortV_permV l).mem_iff.1 ha)
  obtain ⟨nb, rfl, h4⟩ := hn b (h.mem_iff.2 ((sortV_permV m).mem_iff.1 hb))
  rw [leVs_anti h3 h4 h1 h2]
/-- An insertion keeps order. -/
theorem insN_mem {nm : List V} {x : V} : ∀ {xs : List V}, x ∈ insN nm xs → x = .s nm ∨ x ∈ xs := by
  intro xs
  induction xs with
  | nil => intro h; simpa [insN] using h
  | cons y r ih =>
    intro h
    simp only [insN] at h
    cases c1 : sLt y.els nm with
    | true =>
      rw [c1, cond_true] at h
      rcases List.mem_cons.1 h with rfl | h
      · exact .inr (by simp)
      · exact (ih h).imp id (fun q => by simp [q])
    | false =>
      rw [c1, cond_false] at h
      cases c2 : veqL y.els nm with
      | true => rw [c2, cond_true] at h; exact .inr h
      | false =>
        rw [c2, cond_false] at h
        rcases List.mem_cons.1 h with rfl | h
        · exact .inl rfl
        · exact .inr h
theorem sLt_of {x y : List V} (hx : isNm x) (hy : isNm y) (h1 : leVs x y = true) (h2 : x ≠ y) : sLt x y = true := by
  rw [sLt_le]
  cases h : leVs y x with
  | false => rfl
  | true => exact absurd (leVs_anti hx hy h1 h) h2
theorem sLt_tr {x y z : List V} (h1 : sLt x y = true) (h2 : sLt y z = true) : sLt x z = true := by
  rw [sLt_le] at *
  simp only [Bool.not_eq_true'] at *
  cases h : leVs z x with
  | false => rfl
  | true =>
    rcases leVs_tot y z with q | q
    · have := leVs_tr q h
      rw [this] at h1; cases h1
    · rw [q] at h2; cases h2
theorem insN_st {nm : List V} (hn : isNm nm) : ∀ {xs : List V}, StS xs → StS (insN nm xs) := by
  intro xs
  induction xs with
  | nil => intro _; exact ⟨List.pairwise_singleton _ _, fun x hx => by simp only [insN, List.mem_singleton] at hx; subst hx; exact ⟨nm, rfl, hn⟩⟩
  | cons y r ih =>
    intro hs
    have hm : ∀ x ∈ insN nm (y :: r), NmV x := fun x hx => by
      rcases insN_mem hx with rfl | hx
      · exact ⟨nm, rfl, hn⟩
      · exact hs.2 x hx
    refine ⟨?_, hm⟩
    obtain ⟨h1, h2⟩ := hs
    have h1' := h1
    rw [List.pairwise_cons] at h1
    simp only [insN]
    obtain ⟨ny, rfl, hny⟩ := h2 y (by simp)
    cases c1 : sLt (V.s ny).els nm with
    | true =>
      rw [cond_true, List.pairwise_cons]
      refine ⟨fun x hx => ?_, (ih ⟨h1.2, fun z hz => h2 z (by simp [hz])⟩).1⟩
      rcases insN_mem hx with rfl | hx
      · exact c1
      · exact h1.1 x hx
    | false =>
      rw [cond_false]
      cases c2 : veqL (V.s ny).els nm with
      | true => exact h1'
      | false =>
        rw [cond_false, List.pairwise_cons]
        have hlt : sLt nm (V.s ny).els = true := by
          rw [sLt_le] at c1
          simp only [Bool.not_eq_false'] at c1
          exact sLt_of hn hny c1 (fun q => by
            have : veqL (V.s ny).els nm = true := (veqL_iff _ _).2 q.symm
            rw [this] at c2; cases c2)
        refine ⟨fun x hx => ?_, h1'⟩
        rcases List.mem_cons.1 hx with rfl | hx
        · exact hlt
        · exact sLt_tr hlt (h1.1 x hx)
abbrev nmE (e : V) : List V := (e.nth 0).els
def namesN (xs l : List V) : List V := l.foldl (fun xs e => insN (nmE e) xs) xs
def histS (nm : List V) (l : List V) : List V := l.filter fun e => veqL (nmE e) nm
end Go.Vm


namespace Go.Vm
open Go.RowKit
variable {R : Type}
set_option linter.unusedVariables false
set_option linter.constructorNameAsVariable false
set_option linter.unusedSimpArgs false

/-! ### right -/
def badE (i : Nat) (e : V) : Bool := ilt 40 (i : Int) || (ilt 100 ((nmE e).length : Nat) || (ilt 300 ((e.nth 1).els.length : Nat) || (ilt (e.nth 2).int 0 || ilt 1000000000 (e.nth 2).int)))
def rightN : List V → Nat → Bool
  | [], _ => true
  | e :: r, i => bif badE i e then false else rightN r (i + 1)
theorem rn_law {l : V} {ko kr : Option R} {kx : QRn → Option R} (h1 : ∀ n i, kx (.o l n i) = ko) (h2 : ∀ n i, kx (.r l n i) = kr) : ∀ (r a : List V) (fuel : Nat), l.els = a ++ r → (∀ x ∈ r, (nmE x).length ≤ MX ∧ (x.nth 1).els.length ≤ MX) → a.length ≤ 41 → l.els.length ≤ MX → 50 ≤ fuel + a.length →
    lpC (BRn R) fuel (.m l (l.els.length : Nat) (a.length : Nat)) kx = bif rightN r a.length then ko else kr := by
  intro r
  induction r with
  | nil =>
    intro a fuel he hg ha hz hf
    obtain ⟨f, rfl⟩ : ∃ f, fuel = f + 1 := ⟨fuel - 1, by omega⟩
    rw [List.append_nil] at he
    rw [lpC, BRn_m, ix_f he, cond_false, h1]; rfl
  | cons x r ih =>
    intro a fuel he hg ha hz hf
    obtain ⟨f, rfl⟩ : ∃ f, fuel = f + 1 := ⟨fuel - 1, by omega⟩
    have hle : l.els.length = a.length + (r.length + 1) := by rw [he]; simp
    have hat : l.nth ((a.length : Nat) : Int).toNat = x := nth_at he
    obtain ⟨x1, x2⟩ := hg x (by simp)
    have ih := ih (a ++ [x]) f (by rw [he]; simp) (fun y hy => hg y (by simp [hy]))
    simp only [List.length_append, List.length_singleton] at ih
    rw [lpC, BRn_m, ix_t he, cond_true, ck_in (by omega) (by omega), hat]
    have e1 : rightN (x :: r) a.length = bif badE a.length x then false else rightN r (a.length + 1) := rfl
    rw [e1]
    unfold badE
    cases b1 : ilt 40 ((a.length : Nat) : Int) with
    | true => rw [cond_true, h2]; rfl
    | false =>
    rw [cond_false, ln_in x1]
    cases b2 : ilt 100 ((nmE x).length : Nat) with
    | true => rw [cond_true, h2]; rfl
    | false =>
    rw [cond_false, ln_in x2]
    cases b3 : ilt 300 ((x.nth 1).els.length : Nat) with
    | true => rw [cond_true, h2]; rfl
    | false =>
    rw [cond_false]
    cases b4 : ilt (x.nth 2).int 0 with
    | true => rw [cond_true, h2]; rfl
    | false =>
    rw [cond_false]
    cases b5 : ilt 1000000000 (x.nth 2).int with
    | true => rw [cond_true, h2]; rfl
    | false =>
    rw [cond_false]
    have : ((a.length : Nat) : Int) ≤ 40 := by rw [ilt_d] at b1; simpa using b1
    rw [i_next (by omega)]
    exact ih (by omega) hz (by omega)
noncomputable def rnG (b : Nat) (l : V) : Option (List Rs) := ln l.els.length <| lpC (BRn (List Rs)) (hid FU) (.m l (l.els.length : Nat) 0) fun q => match q with
  | .o l1 n1 i1 => some [.d b (.b true)]
  | .r l1 n1 i1 => some [.d b (.b false)]
def rng : List V → Bool
  | [l] => Nat.ble l.els.length MX && l.els.all fun x => Nat.ble (nmE x).length MX && Nat.ble (x.nth 1).els.length MX
  | _ => false
def rnr (b : Nat) : List V → List Rs
  | [l] => [.d b (.b (rightN l.els 0))]
  | _ => []
theorem rnG_law {b : Nat} {l : V} (hg : rng [l] = true) : rnG b l = some (rnr b [l]) := by
  have hg : (Nat.ble l.els.length MX && l.els.all fun x => Nat.ble (nmE x).length MX && Nat.ble (x.nth 1).els.length MX) = true := hg
  simp only [Bool.and_eq_true, Nat.ble_eq, List.all_eq_true] at hg
  obtain ⟨g1, g2⟩ := hg
  unfold rnG
  have hq := fq_big
  rw [ln_in g1]
  have := rn_law (l := l) (ko := some [Rs.d b (.b true)]) (kr := some [Rs.d b (.b false)]) (kx := fun q => match q with
    | .o l1 n1 i1 => some [.d b (.b true)]
    | .r l1 n1 i1 => some [.d b (.b false)]) (fun _ _ => rfl) (fun _ _ => rfl) l.els [] (hid FU) rfl (fun x hx => g2 x hx) (by decide) g1 (by omega)
  refine this.trans ?_
  show _ = some [Rs.d b (.b (rightN l.els 0))]
  show (bif rightN l.els 0 then _ else _) = _
  cases rightN l.els 0 <;> rfl

/-! ### The same? -/
theorem sa_law {a b : V} {ko kr : Option R} {kx : QSa → Option R} (h1 : ∀ n i, kx (.o a b n i) = ko) (h2 : ∀ n i, kx (.r a b n i) = kr) : ∀ (r s p q : List V) (fuel : Nat), a.els = p ++ r → b.els = q ++ s → p.length = q.length → r.length = s.length → p.length + r.length ≤ 100000 → r.length < fuel →
    lpC (BSa R) fuel (.m a b (a.els.length : Nat) (p.length : Nat)) kx = bif veqL r s then ko else kr := by
  intro r
  induction r with
  | nil =>
    intro s p q fuel he he2 hpq hrs hz hf
    obtain ⟨f, rfl⟩ : ∃ f, fuel = f + 1 := ⟨fuel - 1, by omega⟩
    cases s with
    | cons y s => simp at hrs
    | nil =>
      rw [List.append_nil] at he
      rw [lpC, BSa_m, ix_f he, cond_false, h1]; rfl
  | cons x r ih =>
    intro s p q fuel he he2 hpq hrs hz hf
    obtain ⟨f, rfl⟩ : ∃ f, fuel = f + 1 := ⟨fuel - 1, by omega⟩
    cases s with
    | nil => simp at hrs
    | cons y s =>
      simp only [List.length_cons] at hrs hz hf
      have l1 : a.els.length = p.length + (r.length + 1) := by rw [he]; simp
      have l2 : b.els.length = q.length + (s.length + 1) := by rw [he2]; simp
      have ha : a.nth ((p.length : Nat) : Int).toNat = x := nth_at he
      have hb : b.nth ((p.length : Nat) : Int).toNat = y := by rw [hpq]; exact nth_at he2
      have ih := ih s (p ++ [x]) (q ++ [y]) f (by rw [he]; simp) (by rw [he2]; simp) (by simp [hpq]) (by omega) (by simp only [List.length_append, List.length_singleton]; omega) (by omega)
      simp only [List.length_append, List.length_singleton] at ih
      rw [lpC, BSa_m, ix_t he, cond_true, ck_in (by omega) (by omega), ck_in (by omega) (by omega), ha, hb]
      show _ = bif veq x y && veqL r s then ko else kr
      cases veq x y with
      | false => rw [Bool.not_false, cond_true, h2]; rfl
      | true =>
        rw [Bool.not_true, cond_false, Bool.true_and, i_next (by omega)]
        exact ih
theorem sx_law {a b : V} {ko kr : Option R} {kx : QSx → Option R} (h1 : ∀ n i, kx (.o a b n i) = ko) (h2 : ∀ n i, kx (.r a b n i) = kr) : ∀ (r s p q : List V) (fuel : Nat), a.els = p ++ r → b.els = q ++ s → p.length = q.length → r.length = s.length → p.length + r.length ≤ 100000 → r.length < fuel → (∀ x ∈ r, ∃ n, x = .s n) → (∀ x ∈ s, ∃ n, x = .s n) →
    lpC (BSx R) fuel (.m a b (a.els.length : Nat) (p.length : Nat)) kx = bif veqL r s then ko else kr := by
  intro r
  induction r with
  | nil =>
    intro s p q fuel he he2 hpq hrs hz hf _ _
    obtain ⟨f, rfl⟩ : ∃ f, fuel = f + 1 := ⟨fuel - 1, by omega⟩
    cases s with
    | cons y s => simp at hrs
    | nil =>
      rw [List.append_nil] at he
      rw [lpC, BSx_m, ix_f he, cond_false, h1]; rfl
  | cons x r ih =>
    intro s p q fuel he he2 hpq hrs hz hf hx hy
    obtain ⟨f, rfl⟩ : ∃ f, fuel = f + 1 := ⟨fuel - 1, by omega⟩
    cases s with
    | nil => simp at hrs
    | cons y s =>
      simp only [List.length_cons] at hrs hz hf
      have l1 : a.els.length = p.length + (r.length + 1) := by rw [he]; simp
      have l2 : b.els.length = q.length + (s.length + 1) := by rw [he2]; simp
      have ha : a.nth ((p.length : Nat) : Int).toNat = x := nth_at he
      have hb : b.nth ((p.length : Nat) : Int).toNat = y := by rw [hpq]; exact nth_at he2
      have ih := ih s (p ++ [x]) (q ++ [y]) f (by rw [he]; simp) (by rw [he2]; simp) (by simp [hpq]) (by omega) (by simp only [List.length_append, List.length_singleton]; omega) (by omega) (fun z hz => hx z (by simp [hz])) (fun z hz => hy z (by simp [hz]))
      simp only [List.length_append, List.length_singleton] at ih
      rw [lpC, BSx_m, ix_t he, cond_true, ck_in (by omega) (by omega), ck_in (by omega) (by omega), ha, hb]
      obtain ⟨nx, rfl⟩ := hx x (by simp)
      obtain ⟨ny, rfl⟩ := hy y (by simp)
      show (bif !(veqL nx ny) then _ else _) = bif veqL nx ny && veqL r s then ko else kr
      cases veqL nx ny with
      | false => rw [Bool.not_false, cond_true, h2]; rfl
      | true =>
        rw [Bool.not_true, cond_false, Bool.true_and, i_next (by omega)]
        exact ih
theorem veqL_len {a b : List V} (h : a.length ≠ b.length) : veqL a b = false := by
  rw [← Bool.not_eq_true, veqL_iff]; intro q; exact h (by rw [q])
def sag : List V → Bool
  | [a, b] => Nat.ble a.els.length 100000 && Nat.ble b.els.length 100000
  | _ => false
def sar (t : Nat) : List V → List Rs
  | [a, b] => [.d t (.b (veqL a.els b.els))]
  | _ => []
noncomputable def saG (t : Nat) (a b : V) : Option (List Rs) :=
  ln a.els.length <| ln b.els.length <| bif !(ieq (a.els.length : Nat) (b.els.length : Nat)) then some [.d t (.b false)] else ln a.els.length <| lpC (BSa (List Rs)) (hid FU) (.m a b (a.els.length : Nat) 0) fun q => match q with
  | .o a1 b1 n1 i1 => some [.d t (.b true)]
  | .r a1 b1 n1 i1 => some [.d t (.b false)]
noncomputable def sxG (t : Nat) (a b : V) : Option (List Rs) :=
  ln a.els.length <| ln b.els.length <| bif !(ieq (a.els.length : Nat) (b.els.length : Nat)) then some [.d t (.b false)] else ln a.els.length <| lpC (BSx (List Rs)) (hid FU) (.m a b (a.els.length : Nat) 0) fun q => match q with
  | .o a1 b1 n1 i1 => some [.d t (.b true)]
  | .r a1 b1 n1 i1 => some [.d t (.b false)]
theorem saG_law {t : Nat} {a b : V} (hg : sag [a, b] = true) : saG t a b = some (sar t [a, b]) := by
  have hg : (Nat.ble a.els.length 100000 && Nat.ble b.els.length 100000) = true := hg
  simp only [Bool.and_eq_true, Nat.ble_eq] at hg
  obtain ⟨g1, g2⟩ := hg
  have hq := fq_big
  unfold saG
  rw [ln_in (by omega), ln_in (by omega), ln_in (by omega)]
  show _ = some [Rs.d t (.b (veqL a.els b.els))]
  by_cases hl : a.els.length = b.els.length
  · rw [show ieq (a.els.length : Nat) (b.els.length : Nat) = true by rw [ieq_iff, hl], Bool.not_true, cond_false]
    have := sa_law (a := a) (b := b) (ko := some [Rs.d t (.b true)]) (kr := some [Rs.d t (.b false)]) (kx := fun q => match q with
      | .o a1 b1 n1 i1 => some [.d t (.b true)]
      | .r a1 b1 n1 i1 => some [.d t (.b false)]) (fun _ _ => rfl) (fun _ _ => rfl) a.els b.els [] [] (hid FU) rfl rfl rfl hl (by simpa using g1) (by omega)
    refine this.trans ?_
    cases veqL a.els b.els <;> rfl
  · rw [show ieq (a.els.length : Nat) (b.els.length : Nat) = false by rw [← Bool.not_eq_true, ieq_iff]; omega, Bool.not_false, cond_true, veqL_len hl]
theorem sxG_law {t : Nat} {a b : V} (ha : (D.slice .str).has a) (hb : (D.slice .str).has b) (hg : sag [a, b] = true) : sxG t a b = some (sar t [a, b]) := by
  have hg : (Nat.ble a.els.length 100000 && Nat.ble b.els.length 100000) = true := hg
  simp only [Bool.and_eq_true, Nat.ble_eq] at hg
  obtain ⟨g1, g2⟩ := hg
  have hq := fq_big
  unfold sxG
  rw [ln_in (by omega), ln_in (by omega), ln_in (by omega)]
  show _ = some [Rs.d t (.b (veqL a.els b.els))]
  by_cases hl : a.els.length = b.els.length
  · rw [show ieq (a.els.length : Nat) (b.els.length : Nat) = true by rw [ieq_iff, hl], Bool.not_true, cond_false]
    have := sx_law (a := a) (b := b) (ko := some [Rs.d t (.b true)]) (kr := some [Rs.d t (.b false)]) (kx := fun q => match q with
      | .o a1 b1 n1 i1 => some [.d t (.b true)]
      | .r a1 b1 n1 i1 => some [.d t (.b false)]) (fun _ _ => rfl) (fun _ _ => rfl) a.els b.els [] [] (hid FU) rfl rfl rfl hl (by simpa using g1) (by omega) (fun x hx => by obtain ⟨ns, rfl, _⟩ := slice_els ha x hx; exact ⟨_, rfl⟩) (fun x hx => by obtain ⟨ns, rfl, _⟩ := slice_els hb x hx; exact ⟨_, rfl⟩)
    refine this.trans ?_
    cases veqL a.els b.els <;> rfl
  · rw [show ieq (a.els.length : Nat) (b.els.length : Nat) = false by rw [← Bool.not_eq_true, ieq_iff]; omega, Bool.not_false, cond_true, veqL_len hl]

/-! ### The document's History -/
theorem hn_law {nm : List V} {l : V} {kx : QHn → Option R} : ∀ (r a xs : List V) (fuel : Nat), l.els = a ++ r → a.length + r.length ≤ 100000 → xs.length ≤ a.length → r.length < fuel →
    lpC (BHn R) fuel (.m nm l xs (l.els.length : Nat) (a.length : Nat)) kx = kx (.o nm l (xs ++ histS nm r) (l.els.length : Nat) (l.els.length : Nat)) := by
  intro r
  induction r with
  | nil =>
    intro a xs fuel he hz hx hf
    obtain ⟨f, rfl⟩ : ∃ f, fuel = f + 1 := ⟨fuel - 1, by omega⟩
    rw [List.append_nil] at he
    rw [lpC, BHn_m, ix_f he, cond_false]
    simp only [histS, List.filter_nil, List.append_nil, he]
  | cons x r ih =>
    intro a xs fuel he hz hx hf
    obtain ⟨f, rfl⟩ : ∃ f, fuel = f + 1 := ⟨fuel - 1, by omega⟩
    simp only [List.length_cons] at hz hf
    have hle : l.els.length = a.length + (r.length + 1) := by rw [he]; simp
    have hat : l.nth ((a.length : Nat) : Int).toNat = x := nth_at he
    rw [lpC, BHn_m, ix_t he, cond_true, ck_in (by omega) (by omega), hat]
    have e1 : histS nm (x :: r) = bif veqL (nmE x) nm then x :: histS nm r else histS nm r := by
      simp only [histS, List.filter_cons]; cases veqL (nmE x) nm <;> rfl
    rw [e1]
    cases veqL (nmE x) nm with
    | true =>
      have ih := ih (a ++ [x]) (xs ++ [x]) f (by rw [he]; simp) (by simp only [List.length_append, List.length_singleton]; omega) (by simp only [List.length_append, List.length_singleton]; omega) (by omega)
      simp only [List.length_append, List.length_singleton, List.append_assoc, List.singleton_append] at ih
      rw [cond_true, cond_true, lim_in (by simp only [List.length_singleton]; omega), i_next (by omega)]
      exact ih
    | false =>
      have ih := ih (a ++ [x]) xs f (by rw [he]; simp) (by simp only [List.length_append, List.length_singleton]; omega) (by simp only [List.length_append, List.length_singleton]; omega) (by omega)
      simp only [List.length_append, List.length_singleton] at ih
      rw [cond_false, cond_false, i_next (by omega)]
      exact ih

/-! ### The document's Names -/
def beN (nm : List V) (xs : List V) : Nat := (xs.takeWhile fun x => sLt x.els nm).length
theorem ni_law {e l : V} {n i : Int} {xs : List V} {kx : QNi → Option R} : ∀ (r p : List V) (fuel : Nat), xs = p ++ r → xs.length ≤ 100000 → r.length < fuel →
    lpC (BNi R) fuel (.m xs e (p.length : Nat) l n i) kx = kx (.o xs e ((p.length + beN (nmE e) r : Nat) : Int) l n i) := by
  intro r
  induction r with
  | nil =>
    intro p fuel he hz hf
    obtain ⟨f, rfl⟩ : ∃ f, fuel = f + 1 := ⟨fuel - 1, by omega⟩
    rw [List.append_nil] at he
    subst he
    rw [lpC, BNi_m, ln_in (by omega)]
    rw [show ilt ((xs.length : Nat) : Int) ((xs.length : Nat) : Int) = false by rw [ilt_d]; simp, cond_false]
    rfl
  | cons x r ih =>
    intro p fuel he hz hf
    obtain ⟨f, rfl⟩ : ∃ f, fuel = f + 1 := ⟨fuel - 1, by omega⟩
    simp only [List.length_cons] at hf
    have hle : xs.length = p.length + (r.length + 1) := by rw [he]; simp
    have hat : xs.getD ((p.length : Nat) : Int).toNat .n = x := by
      rw [he, Int.toNat_natCast, List.getD_eq_getElem?_getD, List.getElem?_append_right (Nat.le_refl _), Nat.sub_self]; rfl
    rw [lpC, BNi_m, ln_in (by omega), show ilt ((p.length : Nat) : Int) ((xs.length : Nat) : Int) = true by rw [ilt_d]; simp; omega, cond_true, ck_in (by omega) (by omega), hat]
    have e1 : beN (nmE e) (x :: r) = bif sLt x.els (nmE e) then 1 + beN (nmE e) r else 0 := by
      simp only [beN, List.takeWhile_cons]
      cases sLt x.els (nmE e) with
      | true => simp; omega
      | false => rfl
    rw [e1]
    have ih := ih (p ++ [x]) f (by rw [he]; simp) hz (by omega)
    simp only [List.length_append, List.length_singleton] at ih
    show (bif sLt x.els (nmE e) then _ else _) = _
    cases sLt x.els (nmE e) with
    | true =>
      rw [cond_true, cond_true, i_next (by omega), ih, Nat.add_assoc]
    | false => rfl
theorem beN_le (nm : List V) (xs : List V) : beN nm xs ≤ xs.length := (List.takeWhile_sublist _).length_le
theorem insN_be (nm : List V) : ∀ xs : List V, insN nm xs = if h : beN nm xs < xs.length then (bif veqL (xs[beN nm xs]).els nm then xs else xs.take (beN nm xs) ++ .s nm :: xs.drop (beN nm xs)) else xs ++ [.s nm] := by
  intro xs
  induction xs with
  | nil => rfl
  | cons x r ih =>
    have e1 : beN nm (x :: r) = bif sLt x.els nm then beN nm r + 1 else 0 := by
      simp only [beN, List.takeWhile_cons]
      cases sLt x.els nm <;> rfl
    simp only [insN]
    cases h : sLt x.els nm with
    | true =>
      rw [cond_true, ih]
      rw [h, cond_true] at e1
      simp only [e1, List.length_cons, Nat.add_lt_add_iff_right]
      by_cases hl : beN nm r < r.length
      · rw [dif_pos hl, dif_pos hl]
        simp only [List.getElem_cons_succ, List.take_succ_cons, List.drop_succ_cons, List.cons_append]
        cases veqL (r[beN nm r]).els nm <;> rfl
      · rw [dif_neg hl, dif_neg hl]; rfl
    | false =>
      rw [h, cond_false] at e1
      rw [cond_false]
      simp only [e1, List.length_cons, Nat.zero_lt_succ, dif_pos, List.getElem_cons_zero, List.take_zero, List.drop_zero, List.nil_append]
theorem insN_len (nm : List V) (xs : List V) : (insN nm xs).length ≤ xs.length + 1 := by
  have h1 := beN_le nm xs
  rw [insN_be]
  split
  · cases veqL (xs[beN nm xs]).els nm
    · simp only [cond_false, List.length_append, List.length_take, List.length_cons, List.length_drop]; omega
    · simp
  · simp
end Go.Vm


namespace Go.Vm
open Go.RowKit
variable {R : Type}
set_option linter.unusedVariables false
set_option linter.constructorNameAsVariable false
set_option linter.unusedSimpArgs false

theorem no_law {l : V} {kx : QNo → Option R} : ∀ (r a xs : List V) (fuel : Nat), l.els = a ++ r → a.length + r.length ≤ 10000 → xs.length ≤ a.length → r.length < fuel →
    lpC (BNo R) fuel (.m xs l (l.els.length : Nat) (a.length : Nat)) kx = kx (.o (namesN xs r) l (l.els.length : Nat) (l.els.length : Nat)) := by
  intro r
  induction r with
  | nil =>
    intro a xs fuel he hz hx hf
    obtain ⟨f, rfl⟩ : ∃ f, fuel = f + 1 := ⟨fuel - 1, by omega⟩
    rw [List.append_nil] at he
    rw [lpC, BNo_m, ix_f he, cond_false]
    simp only [namesN, List.foldl_nil, he]
  | cons x r ih =>
    intro a xs fuel he hz hx hf
    obtain ⟨f, rfl⟩ : ∃ f, fuel = f + 1 := ⟨fuel - 1, by omega⟩
    simp only [List.length_cons] at hz hf
    have hle : l.els.length = a.length + (r.length + 1) := by rw [he]; simp
    have hat : l.nth ((a.length : Nat) : Int).toNat = x := nth_at he
    have hq := fq_big
    have hin := insN_len (nmE x) xs
    have ih := ih (a ++ [x]) (insN (nmE x) xs) f (by rw [he]; simp) (by simp only [List.length_append, List.length_singleton]; omega) (by simp only [List.length_append, List.length_singleton]; omega) (by omega)
    simp only [List.length_append, List.length_singleton] at ih
    rw [lpC, BNo_m, ix_t he, cond_true, ck_in (by omega) (by omega), hat]
    have hni := ni_law (R := R) (e := x) (l := l) (n := (l.els.length : Nat)) (i := (a.length : Nat)) (xs := xs) (kx := fun q => match q with
      | .o xs1 e1 a1 l1 n1 i1 =>
      ln xs1.length <|
      bif ieq a1 (xs1.length : Nat) then
      bif ((ile 0 a1) && (ile a1 (xs1.length : Nat))) && (ile (xs1.length : Nat) (xs1.length : Nat)) then
      bif Nat.ble ((0 + a1.toNat) + (((xs1.length : Nat) - a1)).toNat) xs1.length then
      lim (((List.replicate 0 (V.s []))).length + ((List.take ((((xs1.length : Nat) - a1)).toNat) (List.drop (0 + a1.toNat) xs1))).length) <|
      bif ieq a1 a1 then
      bif ((ile 0 (0 : Nat)) && (ile (0 : Nat) a1)) && (ile a1 (xs1.length : Nat)) then
      lim (((List.take (((a1 - (0 : Nat))).toNat) (List.drop 0 xs1))).length + ([(V.s (((V.nth e1 0)).els))]).length) <|
      lim ((((List.take (((a1 - (0 : Nat))).toNat) (List.drop 0 xs1)) ++ [(V.s (((V.nth e1 0)).els))])).length + (((List.replicate 0 (V.s [])) ++ (List.take ((((xs1.length : Nat) - a1)).toNat) (List.drop (0 + a1.toNat) xs1)))).length) <|
      lpC (BNo R) f (.m (((List.take (((a1 - (0 : Nat))).toNat) (List.drop 0 xs1)) ++ [(V.s (((V.nth e1 0)).els))]) ++ ((List.replicate 0 (V.s [])) ++ (List.take ((((xs1.length : Nat) - a1)).toNat) (List.drop (0 + a1.toNat) xs1)))) l1 n1 (W64 (i1 + 1))) kx
      else
      none
      else
      none
      else
      none
      else
      none
      else
      ck a1 xs1.length <|
      bif !(veqL (((List.getD xs1 a1.toNat .n)).els) (((V.nth e1 0)).els)) then
      bif ((ile 0 a1) && (ile a1 (xs1.length : Nat))) && (ile (xs1.length : Nat) (xs1.length : Nat)) then
      bif Nat.ble ((0 + a1.toNat) + (((xs1.length : Nat) - a1)).toNat) xs1.length then
      lim (((List.replicate 0 (V.s []))).length + ((List.take ((((xs1.length : Nat) - a1)).toNat) (List.drop (0 + a1.toNat) xs1))).length) <|
      bif ieq a1 a1 then
      bif ((ile 0 (0 : Nat)) && (ile (0 : Nat) a1)) && (ile a1 (xs1.length : Nat)) then
      lim (((List.take (((a1 - (0 : Nat))).toNat) (List.drop 0 xs1))).length + ([(V.s (((V.nth e1 0)).els))]).length) <|
      lim ((((List.take (((a1 - (0 : Nat))).toNat) (List.drop 0 xs1)) ++ [(V.s (((V.nth e1 0)).els))])).length + (((List.replicate 0 (V.s [])) ++ (List.take ((((xs1.length : Nat) - a1)).toNat) (List.drop (0 + a1.toNat) xs1)))).length) <|
      lpC (BNo R) f (.m (((List.take (((a1 - (0 : Nat))).toNat) (List.drop 0 xs1)) ++ [(V.s (((V.nth e1 0)).els))]) ++ ((List.replicate 0 (V.s [])) ++ (List.take ((((xs1.length : Nat) - a1)).toNat) (List.drop (0 + a1.toNat) xs1)))) l1 n1 (W64 (i1 + 1))) kx
      else
      none
      else
      none
      else
      none
      else
      none
      else
      lpC (BNo R) f (.m xs1 l1 n1 (W64 (i1 + 1))) kx) xs [] (hid FU) rfl (by omega) (by omega)
    refine hni.trans ?_
    clear hni
    simp only [List.length_nil, Nat.zero_add]
    have hb := beN_le (nmE x) xs
    have e1 : namesN xs (x :: r) = namesN (insN (nmE x) xs) r := rfl
    rw [e1]
    refine Eq.trans ?_ ih
    clear ih
    have hio := insN_be (nmE x) xs
    generalize hbe : beN (nmE x) xs = b at hb hio
    have c1 : ((b : Nat) : Int).toNat = b := by omega
    have c2 : (((xs.length : Nat) : Int) - ((b : Nat) : Int)).toNat = xs.length - b := by omega
    have c3 : ((((b : Nat) : Int) - ((0 : Nat) : Int))).toNat = b := by omega
    have d1 : ((ile 0 ((b : Nat) : Int) && ile ((b : Nat) : Int) ((xs.length : Nat) : Int)) && ile ((xs.length : Nat) : Int) ((xs.length : Nat) : Int)) = true := by simp only [ile_d, Bool.and_eq_true, decide_eq_true_eq]; omega
    have d2 : ((ile 0 ((0 : Nat) : Int) && ile ((0 : Nat) : Int) ((b : Nat) : Int)) && ile ((b : Nat) : Int) ((xs.length : Nat) : Int)) = true := by simp only [ile_d, Bool.and_eq_true, decide_eq_true_eq]; omega
    have d3 : Nat.ble (b + (xs.length - b)) xs.length = true := Nat.ble_eq_true_of_le (by omega)
    have d4 : ieq ((b : Nat) : Int) ((b : Nat) : Int) = true := by rw [ieq_iff]
    have tk : List.take (xs.length - b) (List.drop b xs) = List.drop b xs := List.take_of_length_le (by simp)
    have fin : (((List.take b (List.drop 0 xs)) ++ [V.s (nmE x)]) ++ ((List.replicate 0 (V.s [])) ++ List.drop b xs)) = List.take b xs ++ .s (nmE x) :: List.drop b xs := by simp
    simp only [c1, c2, c3, d1, d2, d3, d4, tk, cond_true]
    rw [ln_in (by omega)]
    have l1 : ((List.replicate 0 (V.s [])).length + (List.drop b xs).length) ≤ 1073741824 := by simp; omega
    have l2 : ((List.take b (List.drop 0 xs)).length + [V.s (nmE x)].length) ≤ 1073741824 := by simp; omega
    have l3 : (((List.take b (List.drop 0 xs) ++ [V.s (nmE x)])).length + ((List.replicate 0 (V.s []) ++ List.drop b xs)).length) ≤ 1073741824 := by simp; omega
    rw [lim_in l1, lim_in l2, lim_in l3, fin, i_next (by omega)]
    by_cases hbl : b < xs.length
    · rw [dif_pos hbl] at hio
      rw [show ieq ((b : Nat) : Int) ((xs.length : Nat) : Int) = false by rw [← Bool.not_eq_true, ieq_iff]; omega, cond_false, ck_in (by omega) (by omega)]
      have hg : List.getD xs b .n = xs[b] := by
        rw [List.getD_eq_getElem?_getD, List.getElem?_eq_getElem hbl]; rfl
      rw [hg]
      rw [hio]
      cases veqL (xs[b]).els (nmE x) <;> rfl
    · rw [dif_neg hbl] at hio
      have hbe : b = xs.length := by omega
      subst hbe
      rw [show ieq ((xs.length : Nat) : Int) ((xs.length : Nat) : Int) = true by rw [ieq_iff], cond_true, hio]
      simp
def nmg : List V → Bool
  | [l] => Nat.ble l.els.length 10000
  | _ => false
def nmr (t : Nat) : List V → List Rs
  | [l] => [.r t (namesN [] l.els) false]
  | _ => []
noncomputable def noG (t : Nat) (l : V) : Option (List Rs) := ln l.els.length <| lpC (BNo (List Rs)) (hid FU) (.m (List.replicate 0 (V.s [])) l (l.els.length : Nat) 0) fun q => match q with
  | .o xs1 l1 n1 i1 => some [.r t xs1 false]
theorem noG_law {t : Nat} {l : V} (hg : nmg [l] = true) : noG t l = some (nmr t [l]) := by
  have hg : Nat.ble l.els.length 10000 = true := hg
  simp only [Nat.ble_eq] at hg
  have hq := fq_big
  unfold noG
  rw [ln_in (by omega)]
  exact no_law (l := l) (kx := fun q => match q with | .o xs1 l1 n1 i1 => some [Rs.r t xs1 false]) l.els [] [] (hid FU) rfl (by simpa using hg) (by simp) (by omega)
def hig : List V → Bool
  | [l, n] => Nat.ble l.els.length 10000
  | _ => false
def hir (t : Nat) : List V → List Rs
  | [l, n] => [.r t (histS n.els l.els) false]
  | _ => []
noncomputable def hiG (t : Nat) (z l : V) (n : List V) : Option (List Rs) := ln l.els.length <| lpC (BHn (List Rs)) (hid FU) (.m n l (List.replicate 0 z) (l.els.length : Nat) 0) fun q => match q with
  | .o nm1 l1 xs1 n1 i1 => some [.r t xs1 false]
theorem hiG_law {t : Nat} {z l : V} {n : List V} (hg : hig [l, .s n] = true) : hiG t z l n = some (hir t [l, .s n]) := by
  have hg : Nat.ble l.els.length 10000 = true := hg
  simp only [Nat.ble_eq] at hg
  have hq := fq_big
  unfold hiG
  rw [ln_in (by omega)]
  exact hn_law (l := l) (kx := fun q => match q with | .o nm1 l1 xs1 n1 i1 => some [Rs.r t xs1 false]) l.els [] [] (hid FU) rfl (by simp; omega) (by simp) (by omega)
/-! The document's Live. -/
def noE : V := .l [.s [], .s [], .i 0, .l [.l (List.replicate 32 (.i 0)), .i 0]]
def lsV (xs : List V) : V := xs.getD (W64 ((xs.length : Nat) - 1)).toNat .n
def liveQ (n : List V) (l : V) (h : Int) : Bool := !(ieq ((histS n l.els).length : Nat) 0 || ile (W64 (((lsV (histS n l.els)).nth 2).int + 8)) h)
def liveE (n : List V) (l : V) (h : Int) : V := bif liveQ n l h then lsV (histS n l.els) else noE
def lig : List V → Bool
  | [l, n, h] => Nat.ble l.els.length 10000
  | _ => false
def lir (t b : Nat) : List V → List Rs
  | [l, n, h] => [.d t (liveE n.els l h.int), .d b (.b (liveQ n.els l h.int))]
  | _ => []
def liG (t b : Nat) (l : V) (n : List V) (h : Int) : Option (List Rs) :=
  bif Nat.ble l.els.length 10000 then ln (histS n l.els).length <|
    bif ieq ((histS n l.els).length : Nat) 0 then some [.d t noE, .d b (.b false)] else
    ln (histS n l.els).length <| ck (W64 ((histS n l.els).length - 1)) (histS n l.els).length <|
    bif ile (W64 (((lsV (histS n l.els)).nth 2).int + 8)) h then some [.d t noE, .d b (.b false)] else
    ln (histS n l.els).length <| ck (W64 ((histS n l.els).length - 1)) (histS n l.els).length <| some [.d t (lsV (histS n l.els)), .d b (.b true)] else none
theorem liG_law {t b : Nat} {l : V} {n : List V} {h : Int} (hg : lig [l, .s n, .i h] = true) : liG t b l n h = some (lir t b [l, .s n, .i h]) := by
  have hg : Nat.ble l.els.length 10000 = true := hg
  have hl : (histS n l.els).length ≤ l.els.length := List.length_filter_le _ _
  have g := Nat.le_of_ble_eq_true hg
  unfold liG
  rw [hg, cond_true, ln_in (by omega), ln_in (by omega), ln_in (by omega)]
  show _ = some [Rs.d t (liveE n l h), .d b (.b (liveQ n l h))]
  unfold liveE liveQ
  cases h1 : ieq ((histS n l.els).length : Nat) 0 with
  | true => rfl
  | false =>
    have : (histS n l.els).length ≠ 0 := fun q => by
      have : ieq ((histS n l.els).length : Nat) 0 = true := by rw [ieq_iff, q]; rfl
      rw [this] at h1; cases h1
    rw [cond_false, w64_in (by omega) (by omega), ck_in (by omega) (by omega), ck_in (by omega) (by omega)]
    cases ile (W64 (((lsV (histS n l.els)).nth 2).int + 8)) h <;> rfl
/-! The last one. -/
def lastQ (l : V) : Bool := !(ieq (l.els.length : Nat) 0)
def lastE (l : V) : V := bif lastQ l then V.nth l (W64 ((l.els.length : Nat) - 1)).toNat else noE
def leg : List V → Bool
  | [l] => Nat.ble l.els.length 10000
  | _ => false
def ler (t b : Nat) : List V → List Rs
  | [l] => [.d t (lastE l), .d b (.b (lastQ l))]
  | _ => []
def leG (t b : Nat) (l : V) : Option (List Rs) := ln l.els.length <| bif ieq (l.els.length : Nat) 0 then some [.d t noE, .d b (.b false)] else ln l.els.length <| ck (W64 ((l.els.length : Nat) - 1)) l.els.length <| some [.d t (V.nth l (W64 ((l.els.length : Nat) - 1)).toNat), .d b (.b true)]
theorem leG_law {t b : Nat} {l : V} (hg : leg [l] = true) : leG t b l = some (ler t b [l]) := by
  have hg : Nat.ble l.els.length 10000 = true := hg
  simp only [Nat.ble_eq] at hg
  unfold leG
  rw [ln_in (by omega), ln_in (by omega)]
  show _ = some [Rs.d t (lastE l), .d b (.b (lastQ l))]
  unfold lastE lastQ
  cases h : ieq (l.els.length : Nat) 0 with
  | true => rfl
  | false =>
    have : l.els.length ≠ 0 := fun q => by
      have : ieq (l.els.length : Nat) 0 = true := by rw [ieq_iff, q]; rfl
      rw [this] at h; cases h
    rw [cond_false, w64_in (by omega) (by omega), ck_in (by omega) (by omega)]; rfl
def lvr (b : Nat) : List V → List Rs
  | [e, h] => [.d b (.b (ilt (W64 (h.int - (e.nth 2).int)) 8))]
  | _ => []
def clg : List V → Bool
  | [l] => Nat.ble l.els.length 10000
  | _ => false
def clr (t : Nat) : List V → List Rs
  | [l] => [.r t l.els (isN l)]
  | _ => []
end Go.Vm


namespace Go.Vm
open Go.RowKit
variable {T : TT} {P : Program}
set_option linter.unusedVariables false
set_option linter.constructorNameAsVariable false

/-! ### A map's keys, sorted, with what comes behind handed in -/
def sortKC (g st : Nat) : SymC := fun R args of nx k =>
  match args with
  | [.f g' [.p ib tb []]] => bif Nat.beq g g' then (match of ib with
    | some (.box tb' (.m mid) _) => match of mid with
      | some o => match mapKs o with
        | some (kt, es) => bif Nat.beq kt st && (okK es && Nat.ble es.length 1000000) then k ⟨.o nx 1, [(nx, .row st 1 (sortV (es.map (·.1))) (sortV (es.map (·.1))).isEmpty false)], [ib, mid], nx + 1⟩ else none
        | none => none
      | _ => none
    | _ => none) else none
  | _ => none
theorem sortKC_eq (g st : Nat) (R : Type) (args : List A) (of : Nat → Option Ob) (nx : Nat) (k : Eff → Option R) : sortKC g st R args of nx k = ob (sortK g st args of nx) k := by
  unfold sortKC
  split
  · rename_i g' ib tb
    simp only [sortK]
    cases Nat.beq g g' with
    | false => rfl
    | true =>
      simp only [cond_true]
      cases of ib with
      | none => rfl
      | some o => cases o with
        | box tb' a sh => cases a with
          | m mid =>
            simp only
            cases of mid with
            | none => rfl
            | some o =>
              simp only
              cases mapKs o with
              | none => rfl
              | some p =>
                obtain ⟨kt, es⟩ := p
                simp only [seeL_eq]
                cases (Nat.beq kt st && (okK es && Nat.ble es.length 1000000)) <;> rfl
          | _ => rfl
        | _ => rfl
  · rename_i h
    unfold sortK
    split
    · rename_i g' ib tb; exact absurd rfl (h _ _ _)
    · rfl
theorem sortKC_dir (g st : Nat) : (sortKC g st).dir = sortK g st := by
  funext args of nx
  show sortKC g st Eff args of nx some = _
  rw [sortKC_eq]
  cases sortK g st args of nx <;> rfl
theorem sortKC_nat (g st : Nat) : (sortKC g st).nat := by
  intro R args of nx k
  rw [sortKC_dir, sortKC_eq]
end Go.Vm


namespace Go.Vm
open Go.RowKit
set_option linter.unusedVariables false
set_option linter.constructorNameAsVariable false

/-! ### Scan, Ends, All, of both texts: the loops as they are -/
inductive PSr where
  | m (l : V) (fr : List V) (m : Int) (h : Int) (xs : List V) (ks : List V) (nk : Bool) (n : Int) (i : Int)
inductive QSr where
  | o (l : V) (fr : List V) (m : Int) (h : Int) (xs : List V) (ks : List V) (nk : Bool) (n : Int) (i : Int)
def BSr (R : Type) (p : PSr) (K : PSr → Option R) (kx : QSr → Option R) : Option R :=
  match p with
  | .m l fr m h xs ks nk n i =>
    bif ilt i n then
      ck i ks.length <|
      bif Nat.ble ((l.els).length) 10000 then
      bif liveQ (((List.getD ks i.toNat .n)).els) l h then
      bif sLt (((List.getD ks i.toNat .n)).els) fr then
      K (.m l fr m h xs ks nk n (W64 (i + 1)))
      else
      ln xs.length <|
      bif ilt (xs.length : Nat) m then
      lim (xs.length + ([(liveE (((List.getD ks i.toNat .n)).els) l h)]).length) <|
      K (.m l fr m h (xs ++ [(liveE (((List.getD ks i.toNat .n)).els) l h)]) ks nk n (W64 (i + 1)))
      else
      K (.m l fr m h xs ks nk n (W64 (i + 1)))
      else
      K (.m l fr m h xs ks nk n (W64 (i + 1)))
      else
      none
      else
      kx (.o l fr m h xs ks nk n i)
theorem BSr_m {R : Type} (l : V) (fr : List V) (m : Int) (h : Int) (xs : List V) (ks : List V) (nk : Bool) (n : Int) (i : Int) (K : PSr → Option R) (kx : QSr → Option R) : BSr R (.m l fr m h xs ks nk n i) K kx =
    (bif ilt i n then
      ck i ks.length <|
      bif Nat.ble ((l.els).length) 10000 then
      bif liveQ (((List.getD ks i.toNat .n)).els) l h then
      bif sLt (((List.getD ks i.toNat .n)).els) fr then
      K (.m l fr m h xs ks nk n (W64 (i + 1)))
      else
      ln xs.length <|
      bif ilt (xs.length : Nat) m then
      lim (xs.length + ([(liveE (((List.getD ks i.toNat .n)).els) l h)]).length) <|
      K (.m l fr m h (xs ++ [(liveE (((List.getD ks i.toNat .n)).els) l h)]) ks nk n (W64 (i + 1)))
      else
      K (.m l fr m h xs ks nk n (W64 (i + 1)))
      else
      K (.m l fr m h xs ks nk n (W64 (i + 1)))
      else
      none
      else
      kx (.o l fr m h xs ks nk n i)) := rfl
inductive PEr where
  | m (l : V) (h : Int) (xs : List V) (ks : List V) (nk : Bool) (n : Int) (i : Int)
inductive QEr where
  | o (l : V) (h : Int) (xs : List V) (ks : List V) (nk : Bool) (n : Int) (i : Int)
def BEr (R : Type) (p : PEr) (K : PEr → Option R) (kx : QEr → Option R) : Option R :=
  match p with
  | .m l h xs ks nk n i =>
    bif ilt i n then
      ck i ks.length <|
      bif Nat.ble ((l.els).length) 10000 then
      ln (((histS (((List.getD ks i.toNat .n)).els) l.els)).length) <|
      ck (W64 ((((histS (((List.getD ks i.toNat .n)).els) l.els)).length : Nat) - 1)) (((histS (((List.getD ks i.toNat .n)).els) l.els)).length) <|
      bif ieq (W64 (((V.nth (List.getD (histS (((List.getD ks i.toNat .n)).els) l.els) (((W64 ((((histS (((List.getD ks i.toNat .n)).els) l.els)).length : Nat) - 1))).toNat) .n) 2)).int + 8)) h then
      lim (xs.length + ([(V.s (((List.getD ks i.toNat .n)).els))]).length) <|
      K (.m l h (xs ++ [(V.s (((List.getD ks i.toNat .n)).els))]) ks nk n (W64 (i + 1)))
      else
      K (.m l h xs ks nk n (W64 (i + 1)))
      else
      none
      else
      kx (.o l h xs ks nk n i)
theorem BEr_m {R : Type} (l : V) (h : Int) (xs : List V) (ks : List V) (nk : Bool) (n : Int) (i : Int) (K : PEr → Option R) (kx : QEr → Option R) : BEr R (.m l h xs ks nk n i) K kx =
    (bif ilt i n then
      ck i ks.length <|
      bif Nat.ble ((l.els).length) 10000 then
      ln (((histS (((List.getD ks i.toNat .n)).els) l.els)).length) <|
      ck (W64 ((((histS (((List.getD ks i.toNat .n)).els) l.els)).length : Nat) - 1)) (((histS (((List.getD ks i.toNat .n)).els) l.els)).length) <|
      bif ieq (W64 (((V.nth (List.getD (histS (((List.getD ks i.toNat .n)).els) l.els) (((W64 ((((histS (((List.getD ks i.toNat .n)).els) l.els)).length : Nat) - 1))).toNat) .n) 2)).int + 8)) h then
      lim (xs.length + ([(V.s (((List.getD ks i.toNat .n)).els))]).length) <|
      K (.m l h (xs ++ [(V.s (((List.getD ks i.toNat .n)).els))]) ks nk n (W64 (i + 1)))
      else
      K (.m l h xs ks nk n (W64 (i + 1)))
      else
      none
      else
      kx (.o l h xs ks nk n i)) := rfl
inductive PAr where
  | m (l : V) (xs : List V) (ks : List V) (nk : Bool) (n : Int) (i : Int)
inductive QAr where
  | o (l : V) (xs : List V) (ks : List V) (nk : Bool) (n : Int) (i : Int)
def BAr (R : Type) (p : PAr) (K : PAr → Option R) (kx : QAr → Option R) : Option R :=
  match p with
  | .m l xs ks nk n i =>
    bif ilt i n then
      ck i ks.length <|
      bif Nat.ble ((l.els).length) 10000 then
      lim (xs.length + ((histS (((List.getD ks i.toNat .n)).els) l.els)).length) <|
      K (.m l (xs ++ (histS (((List.getD ks i.toNat .n)).els) l.els)) ks nk n (W64 (i + 1)))
      else
      none
      else
      kx (.o l xs ks nk n i)
theorem BAr_m {R : Type} (l : V) (xs : List V) (ks : List V) (nk : Bool) (n : Int) (i : Int) (K : PAr → Option R) (kx : QAr → Option R) : BAr R (.m l xs ks nk n i) K kx =
    (bif ilt i n then
      ck i ks.length <|
      bif Nat.ble ((l.els).length) 10000 then
      lim (xs.length + ((histS (((List.getD ks i.toNat .n)).els) l.els)).length) <|
      K (.m l (xs ++ (histS (((List.getD ks i.toNat .n)).els) l.els)) ks nk n (W64 (i + 1)))
      else
      none
      else
      kx (.o l xs ks nk n i)) := rfl
inductive PSw where
  | m (es : List (V × V × Bool)) (fr : List V) (m : Int) (h : Int) (xs : List V) (nl : Bool) (ks : List V) (nk : Bool) (n : Int) (i : Int)
inductive QSw where
  | o (es : List (V × V × Bool)) (fr : List V) (m : Int) (h : Int) (xs : List V) (nl : Bool) (ks : List V) (nk : Bool) (n : Int) (i : Int)
def BSw (R : Type) (p : PSw) (K : PSw → Option R) (kx : QSw → Option R) : Option R :=
  match p with
  | .m es fr m h xs nl ks nk n i =>
    bif ilt i n then
      ck i ks.length <|
      ln xs.length <|
      bif ile m (xs.length : Nat) then
      kx (.o es fr m h xs nl ks nk n i)
      else
      bif hasS (.s (((List.getD ks i.toNat .n)).els)) es then
      bif Nat.ble ((((valS (.s (((List.getD ks i.toNat .n)).els)) es)).els).length) 10000 then
      bif lastQ (valS (.s (((List.getD ks i.toNat .n)).els)) es) then
      bif ilt (W64 (h - ((V.nth (lastE (valS (.s (((List.getD ks i.toNat .n)).els)) es)) 2)).int)) 8 then
      bif !(sLt (((List.getD ks i.toNat .n)).els) fr) then
      lim (xs.length + ([(lastE (valS (.s (((List.getD ks i.toNat .n)).els)) es))]).length) <|
      K (.m es fr m h (xs ++ [(lastE (valS (.s (((List.getD ks i.toNat .n)).els)) es))]) (nl && ([(lastE (valS (.s (((List.getD ks i.toNat .n)).els)) es))]).isEmpty) ks nk n (W64 (i + 1)))
      else
      K (.m es fr m h xs nl ks nk n (W64 (i + 1)))
      else
      K (.m es fr m h xs nl ks nk n (W64 (i + 1)))
      else
      K (.m es fr m h xs nl ks nk n (W64 (i + 1)))
      else
      none
      else
      K (.m es fr m h xs nl ks nk n (W64 (i + 1)))
      else
      kx (.o es fr m h xs nl ks nk n i)
theorem BSw_m {R : Type} (es : List (V × V × Bool)) (fr : List V) (m : Int) (h : Int) (xs : List V) (nl : Bool) (ks : List V) (nk : Bool) (n : Int) (i : Int) (K : PSw → Option R) (kx : QSw → Option R) : BSw R (.m es fr m h xs nl ks nk n i) K kx =
    (bif ilt i n then
      ck i ks.length <|
      ln xs.length <|
      bif ile m (xs.length : Nat) then
      kx (.o es fr m h xs nl ks nk n i)
      else
      bif hasS (.s (((List.getD ks i.toNat .n)).els)) es then
      bif Nat.ble ((((valS (.s (((List.getD ks i.toNat .n)).els)) es)).els).length) 10000 then
      bif lastQ (valS (.s (((List.getD ks i.toNat .n)).els)) es) then
      bif ilt (W64 (h - ((V.nth (lastE (valS (.s (((List.getD ks i.toNat .n)).els)) es)) 2)).int)) 8 then
      bif !(sLt (((List.getD ks i.toNat .n)).els) fr) then
      lim (xs.length + ([(lastE (valS (.s (((List.getD ks i.toNat .n)).els)) es))]).length) <|
      K (.m es fr m h (xs ++ [(lastE (valS (.s (((List.getD ks i.toNat .n)).els)) es))]) (nl && ([(lastE (valS (.s (((List.getD ks i.toNat .n)).els)) es))]).isEmpty) ks nk n (W64 (i + 1)))
      else
      K (.m es fr m h xs nl ks nk n (W64 (i + 1)))
      else
      K (.m es fr m h xs nl ks nk n (W64 (i + 1)))
      else
      K (.m es fr m h xs nl ks nk n (W64 (i + 1)))
      else
      none
      else
      K (.m es fr m h xs nl ks nk n (W64 (i + 1)))
      else
      kx (.o es fr m h xs nl ks nk n i)) := rfl
inductive PEw where
  | m (es : List (V × V × Bool)) (h : Int) (xs : List V) (nl : Bool) (ks : List V) (nk : Bool) (n : Int) (i : Int)
inductive QEw where
  | o (es : List (V × V × Bool)) (h : Int) (xs : List V) (nl : Bool) (ks : List V) (nk : Bool) (n : Int) (i : Int)
def BEw (R : Type) (p : PEw) (K : PEw → Option R) (kx : QEw → Option R) : Option R :=
  match p with
  | .m es h xs nl ks nk n i =>
    bif ilt i n then
      ck i ks.length <|
      bif hasS (.s (((List.getD ks i.toNat .n)).els)) es then
      bif Nat.ble ((((valS (.s (((List.getD ks i.toNat .n)).els)) es)).els).length) 10000 then
      bif lastQ (valS (.s (((List.getD ks i.toNat .n)).els)) es) then
      bif ieq (W64 (((V.nth (lastE (valS (.s (((List.getD ks i.toNat .n)).els)) es)) 2)).int + 8)) h then
      lim (xs.length + ([(V.s (((List.getD ks i.toNat .n)).els))]).length) <|
      K (.m es h (xs ++ [(V.s (((List.getD ks i.toNat .n)).els))]) (nl && ([(V.s (((List.getD ks i.toNat .n)).els))]).isEmpty) ks nk n (W64 (i + 1)))
      else
      K (.m es h xs nl ks nk n (W64 (i + 1)))
      else
      K (.m es h xs nl ks nk n (W64 (i + 1)))
      else
      none
      else
      K (.m es h xs nl ks nk n (W64 (i + 1)))
      else
      kx (.o es h xs nl ks nk n i)
theorem BEw_m {R : Type} (es : List (V × V × Bool)) (h : Int) (xs : List V) (nl : Bool) (ks : List V) (nk : Bool) (n : Int) (i : Int) (K : PEw → Option R) (kx : QEw → Option R) : BEw R (.m es h xs nl ks nk n i) K kx =
    (bif ilt i n then
      ck i ks.length <|
      bif hasS (.s (((List.getD ks i.toNat .n)).els)) es then
      bif Nat.ble ((((valS (.s (((List.getD ks i.toNat .n)).els)) es)).els).length) 10000 then
      bif lastQ (valS (.s (((List.getD ks i.toNat .n)).els)) es) then
      bif ieq (W64 (((V.nth (lastE (valS (.s (((List.getD ks i.toNat .n)).els)) es)) 2)).int + 8)) h then
      lim (xs.length + ([(V.s (((List.getD ks i.toNat .n)).els))]).length) <|
      K (.m es h (xs ++ [(V.s (((List.getD ks i.toNat .n)).els))]) (nl && ([(V.s (((List.getD ks i.toNat .n)).els))]).isEmpty) ks nk n (W64 (i + 1)))
      else
      K (.m es h xs nl ks nk n (W64 (i + 1)))
      else
      K (.m es h xs nl ks nk n (W64 (i + 1)))
      else
      none
      else
      K (.m es h xs nl ks nk n (W64 (i + 1)))
      else
      kx (.o es h xs nl ks nk n i)) := rfl
inductive PAw where
  | m (es : List (V × V × Bool)) (xs : List V) (nl : Bool) (ks : List V) (nk : Bool) (n : Int) (i : Int)
inductive QAw where
  | o (es : List (V × V × Bool)) (xs : List V) (nl : Bool) (ks : List V) (nk : Bool) (n : Int) (i : Int)
def BAw (R : Type) (p : PAw) (K : PAw → Option R) (kx : QAw → Option R) : Option R :=
  match p with
  | .m es xs nl ks nk n i =>
    bif ilt i n then
      ck i ks.length <|
      bif hasS (.s (((List.getD ks i.toNat .n)).els)) es then
      lim (xs.length + (((valS (.s (((List.getD ks i.toNat .n)).els)) es)).els).length) <|
      K (.m es (xs ++ ((valS (.s (((List.getD ks i.toNat .n)).els)) es)).els) (nl && (((valS (.s (((List.getD ks i.toNat .n)).els)) es)).els).isEmpty) ks nk n (W64 (i + 1)))
      else
      lim (xs.length + (([] : List V)).length) <|
      K (.m es (xs ++ ([] : List V)) (nl && (([] : List V)).isEmpty) ks nk n (W64 (i + 1)))
      else
      kx (.o es xs nl ks nk n i)
theorem BAw_m {R : Type} (es : List (V × V × Bool)) (xs : List V) (nl : Bool) (ks : List V) (nk : Bool) (n : Int) (i : Int) (K : PAw → Option R) (kx : QAw → Option R) : BAw R (.m es xs nl ks nk n i) K kx =
    (bif ilt i n then
      ck i ks.length <|
      bif hasS (.s (((List.getD ks i.toNat .n)).els)) es then
      lim (xs.length + (((valS (.s (((List.getD ks i.toNat .n)).els)) es)).els).length) <|
      K (.m es (xs ++ ((valS (.s (((List.getD ks i.toNat .n)).els)) es)).els) (nl && (((valS (.s (((List.getD ks i.toNat .n)).els)) es)).els).isEmpty) ks nk n (W64 (i + 1)))
      else
      lim (xs.length + (([] : List V)).length) <|
      K (.m es (xs ++ ([] : List V)) (nl && (([] : List V)).isEmpty) ks nk n (W64 (i + 1)))
      else
      kx (.o es xs nl ks nk n i)) := rfl

end Go.Vm


namespace Go.Vm
open Go.RowKit
variable {R : Type}
set_option linter.unusedVariables false
set_option linter.constructorNameAsVariable false
set_option linter.unusedSimpArgs false

theorem names_len : ∀ (l xs : List V), (namesN xs l).length ≤ xs.length + l.length := by
  intro l
  induction l with
  | nil => intro xs; exact Nat.le_refl _
  | cons e r ih =>
    intro xs
    have h1 := ih (insN (nmE e) xs)
    have h2 := insN_len (nmE e) xs
    show (namesN (insN (nmE e) xs) r).length ≤ _
    simp only [List.length_cons]; omega
theorem names_mem {x : V} : ∀ {l xs : List V}, x ∈ namesN xs l → x ∈ xs ∨ ∃ e ∈ l, x = .s (nmE e) := by
  intro l
  induction l with
  | nil => intro xs h; exact .inl h
  | cons e r ih =>
    intro xs h
    rcases ih (show x ∈ namesN (insN (nmE e) xs) r from h) with h | ⟨e', h1, h2⟩
    · rcases insN_mem h with rfl | h
      · exact .inr ⟨e, by simp, rfl⟩
      · exact .inl h
    · exact .inr ⟨e', by simp [h1], h2⟩
theorem names_st : ∀ {l xs : List V}, StS xs → (∀ e ∈ l, isNm (nmE e)) → StS (namesN xs l) := by
  intro l
  induction l with
  | nil => intro xs h _; exact h
  | cons e r ih => intro xs h hn; exact ih (xs := insN (nmE e) xs) (insN_st (hn e (by simp)) h) (fun x hx => hn x (by simp [hx]))
theorem names_hist {k : V} {l : List V} (h : k ∈ namesN [] l) : histS k.els l ≠ [] := by
  rcases names_mem h with h | ⟨e, he, rfl⟩
  · cases h
  · intro q
    have : e ∈ histS (nmE e) l := List.mem_filter.2 ⟨he, (veqL_iff _ _).2 rfl⟩
    rw [show (V.s (nmE e)).els = nmE e from rfl] at q
    rw [q] at this; cases this
theorem gd_at {ks a r : List V} {k : V} (h : ks = a ++ k :: r) : List.getD ks ((a.length : Nat) : Int).toNat .n = k := by
  rw [h, Int.toNat_natCast, List.getD_eq_getElem?_getD, List.getElem?_append_right (Nat.le_refl _), Nat.sub_self]; rfl
theorem il_t {ks a r : List V} {k : V} (h : ks = a ++ k :: r) : ilt ((a.length : Nat) : Int) ((ks.length : Nat) : Int) = true := by rw [h, ilt_d]; simp; omega
theorem il_f (n : Nat) : ilt (n : Int) (n : Int) = false := by rw [ilt_d]; simp
def scanR (fr : List V) (m : Int) (l : V) (h : Int) : List V → List V → List V
  | [], xs => xs
  | k :: r, xs => scanR fr m l h r (bif liveQ k.els l h && (!(sLt k.els fr) && ilt (xs.length : Nat) m) then xs ++ [liveE k.els l h] else xs)
theorem sr_law {l : V} {fr : List V} {m h : Int} {nk : Bool} {ks : List V} {kx : QSr → Option R} (hl : l.els.length ≤ 10000) : ∀ (r a xs : List V) (fuel : Nat), ks = a ++ r → ks.length ≤ 10000 → xs.length ≤ a.length → r.length < fuel →
    lpC (BSr R) fuel (.m l fr m h xs ks nk (ks.length : Nat) (a.length : Nat)) kx = kx (.o l fr m h (scanR fr m l h r xs) ks nk (ks.length : Nat) (ks.length : Nat)) := by
  have hlb : Nat.ble l.els.length 10000 = true := Nat.ble_eq_true_of_le hl
  intro r
  induction r with
  | nil =>
    intro a xs fuel he hz hx hf
    obtain ⟨f, rfl⟩ : ∃ f, fuel = f + 1 := ⟨fuel - 1, by omega⟩
    rw [List.append_nil] at he
    subst he
    rw [lpC, BSr_m, il_f, cond_false]; rfl
  | cons k r ih =>
    intro a xs fuel he hz hx hf
    obtain ⟨f, rfl⟩ : ∃ f, fuel = f + 1 := ⟨fuel - 1, by omega⟩
    simp only [List.length_cons] at hf
    have hle : ks.length = a.length + (r.length + 1) := by rw [he]; simp
    have nx : ∀ ys : List V, ys.length ≤ a.length + 1 → lpC (BSr R) f (.m l fr m h ys ks nk (ks.length : Nat) (W64 ((a.length : Nat) + 1))) kx = kx (.o l fr m h (scanR fr m l h r ys) ks nk (ks.length : Nat) (ks.length : Nat)) := by
      intro ys hy
      have ih := ih (a ++ [k]) ys f (by rw [he]; simp) hz (by simpa using hy) (by omega)
      simp only [List.length_append, List.length_singleton] at ih
      rw [i_next (by omega)]
      exact ih
    rw [lpC, BSr_m, il_t he, cond_true, ck_in (by omega) (by omega), hlb, cond_true, gd_at he]
    simp only [scanR]
    cases liveQ k.els l h with
    | false => exact nx xs (by omega)
    | true =>
      rw [cond_true, Bool.true_and]
      cases sLt k.els fr with
      | true => exact nx xs (by omega)
      | false =>
        rw [cond_false, Bool.not_false, Bool.true_and, ln_in (by omega)]
        cases ilt (xs.length : Nat) m with
        | false => exact nx xs (by omega)
        | true =>
          rw [cond_true, cond_true, lim_in (by simp only [List.length_singleton]; omega)]
          exact nx _ (by simp; omega)
def endsR (l : V) (h : Int) : List V → List V → List V
  | [], xs => xs
  | k :: r, xs => endsR l h r (bif ieq (W64 (((lsV (histS k.els l.els)).nth 2).int + 8)) h then xs ++ [.s k.els] else xs)
theorem er_law {l : V} {h : Int} {nk : Bool} {ks : List V} {kx : QEr → Option R} (hl : l.els.length ≤ 10000) (hk : ∀ k ∈ ks, histS k.els l.els ≠ []) : ∀ (r a xs : List V) (fuel : Nat), ks = a ++ r → ks.length ≤ 10000 → xs.length ≤ a.length → r.length < fuel →
    lpC (BEr R) fuel (.m l h xs ks nk (ks.length : Nat) (a.length : Nat)) kx = kx (.o l h (endsR l h r xs) ks nk (ks.length : Nat) (ks.length : Nat)) := by
  have hlb : Nat.ble l.els.length 10000 = true := Nat.ble_eq_true_of_le hl
  intro r
  induction r with
  | nil =>
    intro a xs fuel he hz hx hf
    obtain ⟨f, rfl⟩ : ∃ f, fuel = f + 1 := ⟨fuel - 1, by omega⟩
    rw [List.append_nil] at he
    subst he
    rw [lpC, BEr_m, il_f, cond_false]; rfl
  | cons k r ih =>
    intro a xs fuel he hz hx hf
    obtain ⟨f, rfl⟩ : ∃ f, fuel = f + 1 := ⟨fuel - 1, by omega⟩
    simp only [List.length_cons] at hf
    have hle : ks.length = a.length + (r.length + 1) := by rw [he]; simp
    have nx : ∀ ys : List V, ys.length ≤ a.length + 1 → lpC (BEr R) f (.m l h ys ks nk (ks.length : Nat) (W64 ((a.length : Nat) + 1))) kx = kx (.o l h (endsR l h r ys) ks nk (ks.length : Nat) (ks.length : Nat)) := by
      intro ys hy
      have ih := ih (a ++ [k]) ys f (by rw [he]; simp) hz (by simpa using hy) (by omega)
      simp only [List.length_append, List.length_singleton] at ih
      rw [i_next (by omega)]
      exact ih
    have hh : (histS k.els l.els).length ≤ l.els.length := List.length_filter_le _ _
    have h0 : 0 < (histS k.els l.els).length := List.length_pos_iff.2 (hk k (by rw [he]; simp))
    have hw : W64 (((histS k.els l.els).length : Nat) - 1) = (((histS k.els l.els).length : Nat) : Int) - 1 := w64_in (by omega) (by omega)
    rw [lpC, BEr_m, il_t he, cond_true, ck_in (by omega) (by omega), hlb, cond_true, gd_at he, ln_in (by omega), ck_in (by rw [hw]; omega) (by rw [hw]; omega)]
    show (bif ieq (W64 (((lsV (histS k.els l.els)).nth 2).int + 8)) h then _ else _) = kx (.o l h (endsR l h r (bif ieq (W64 (((lsV (histS k.els l.els)).nth 2).int + 8)) h then xs ++ [.s k.els] else xs)) ks nk (ks.length : Nat) (ks.length : Nat))
    cases ieq (W64 (((lsV (histS k.els l.els)).nth 2).int + 8)) h with
    | false => exact nx xs (by omega)
    | true =>
      rw [cond_true, cond_true, lim_in (by simp only [List.length_singleton]; omega)]
      exact nx _ (by simp; omega)
def flatR (l : List V) : List V → List V → List V
  | [], xs => xs
  | k :: r, xs => flatR l r (xs ++ histS k.els l)
theorem ar_law {l : V} {nk : Bool} {ks : List V} {kx : QAr → Option R} (hl : l.els.length ≤ 10000) : ∀ (r a xs : List V) (fuel : Nat), ks = a ++ r → ks.length ≤ 10000 → xs.length ≤ a.length * 10000 → r.length < fuel →
    lpC (BAr R) fuel (.m l xs ks nk (ks.length : Nat) (a.length : Nat)) kx = kx (.o l (flatR l.els r xs) ks nk (ks.length : Nat) (ks.length : Nat)) := by
  have hlb : Nat.ble l.els.length 10000 = true := Nat.ble_eq_true_of_le hl
  intro r
  induction r with
  | nil =>
    intro a xs fuel he hz hx hf
    obtain ⟨f, rfl⟩ : ∃ f, fuel = f + 1 := ⟨fuel - 1, by omega⟩
    rw [List.append_nil] at he
    subst he
    rw [lpC, BAr_m, il_f, cond_false]; rfl
  | cons k r ih =>
    intro a xs fuel he hz hx hf
    obtain ⟨f, rfl⟩ : ∃ f, fuel = f + 1 := ⟨fuel - 1, by omega⟩
    simp only [List.length_cons] at hf
    have hle : ks.length = a.length + (r.length + 1) := by rw [he]; simp
    have hh : (histS k.els l.els).length ≤ l.els.length := List.length_filter_le _ _
    have ih := ih (a ++ [k]) (xs ++ histS k.els l.els) f (by rw [he]; simp) hz (by simp only [List.length_append, List.length_singleton]; omega) (by omega)
    simp only [List.length_append, List.length_singleton] at ih
    rw [lpC, BAr_m, il_t he, cond_true, ck_in (by omega) (by omega), hlb, cond_true, gd_at he, lim_in (by omega), i_next (by omega)]
    exact ih
/-! The document's functions as a whole. -/
def scg : List V → Bool
  | [l, f, m, h] => Nat.ble l.els.length 10000
  | _ => false
def scr (t : Nat) : List V → List Rs
  | [l, f, m, h] => [.r t (scanR f.els m.int l h.int (namesN [] l.els) []) false]
  | _ => []
noncomputable def scG (t : Nat) (z l : V) (fr : List V) (m h : Int) : Option (List Rs) := bif Nat.ble l.els.length 10000 then ln (namesN [] l.els).length <| lpC (BSr (List Rs)) (hid FU) (.m l fr m h (List.replicate 0 z) (namesN [] l.els) false ((namesN [] l.els).length : Nat) 0) fun q => match q with
  | .o l1 fr1 m1 h1 xs1 ks1 nk1 n1 i1 => some [.r t xs1 false] else none
theorem scG_law {t : Nat} {z l : V} {fr : List V} {m h : Int} (hg : scg [l, .s fr, .i m, .i h] = true) : scG t z l fr m h = some (scr t [l, .s fr, .i m, .i h]) := by
  have hg : Nat.ble l.els.length 10000 = true := hg
  have g := Nat.le_of_ble_eq_true hg
  have hq := fq_big
  have hn := names_len l.els []
  simp only [List.length_nil, Nat.zero_add] at hn
  unfold scG
  rw [hg, cond_true, ln_in (by omega)]
  exact sr_law (kx := fun q => match q with | .o l1 fr1 m1 h1 xs1 ks1 nk1 n1 i1 => some [Rs.r t xs1 false]) g (namesN [] l.els) [] [] (hid FU) rfl (by omega) (by simp) (by omega)
def edg : List V → Bool
  | [l, h] => Nat.ble l.els.length 10000
  | _ => false
def edr (t : Nat) : List V → List Rs
  | [l, h] => [.r t (endsR l h.int (namesN [] l.els) []) false]
  | _ => []
noncomputable def edG (t : Nat) (l : V) (h : Int) : Option (List Rs) := bif Nat.ble l.els.length 10000 then ln (namesN [] l.els).length <| lpC (BEr (List Rs)) (hid FU) (.m l h (List.replicate 0 (V.s [])) (namesN [] l.els) false ((namesN [] l.els).length : Nat) 0) fun q => match q with
  | .o l1 h1 xs1 ks1 nk1 n1 i1 => some [.r t xs1 false] else none
theorem edG_law {t : Nat} {l : V} {h : Int} (hg : edg [l, .i h] = true) : edG t l h = some (edr t [l, .i h]) := by
  have hg : Nat.ble l.els.length 10000 = true := hg
  have g := Nat.le_of_ble_eq_true hg
  have hq := fq_big
  have hn := names_len l.els []
  simp only [List.length_nil, Nat.zero_add] at hn
  unfold edG
  rw [hg, cond_true, ln_in (by omega)]
  exact er_law (kx := fun q => match q with | .o l1 h1 xs1 ks1 nk1 n1 i1 => some [Rs.r t xs1 false]) g (fun k hk => names_hist hk) (namesN [] l.els) [] [] (hid FU) rfl (by omega) (by simp) (by omega)
def alg : List V → Bool
  | [l] => Nat.ble l.els.length 10000
  | _ => false
def alr (t : Nat) : List V → List Rs
  | [l] => [.r t (flatR l.els (namesN [] l.els) []) false]
  | _ => []
noncomputable def alG (t : Nat) (z l : V) : Option (List Rs) := bif Nat.ble l.els.length 10000 then ln (namesN [] l.els).length <| lpC (BAr (List Rs)) (hid FU) (.m l (List.replicate 0 z) (namesN [] l.els) false ((namesN [] l.els).length : Nat) 0) fun q => match q with
  | .o l1 xs1 ks1 nk1 n1 i1 => some [.r t xs1 false] else none
theorem alG_law {t : Nat} {z l : V} (hg : alg [l] = true) : alG t z l = some (alr t [l]) := by
  have hg : Nat.ble l.els.length 10000 = true := hg
  have g := Nat.le_of_ble_eq_true hg
  have hq := fq_big
  have hn := names_len l.els []
  simp only [List.length_nil, Nat.zero_add] at hn
  unfold alG
  rw [hg, cond_true, ln_in (by omega)]
  exact ar_law (kx := fun q => match q with | .o l1 xs1 ks1 nk1 n1 i1 => some [Rs.r t xs1 false]) g (namesN [] l.els) [] [] (hid FU) rfl (by omega) (by simp) (by omega)
end Go.Vm


namespace Go.Vm
open Go.RowKit
variable {R : Type}
set_option linter.unusedVariables false
set_option linter.constructorNameAsVariable false
set_option linter.unusedSimpArgs false

/-! ### The law NamingTells, step by step -/
/-- naming's Live: what it answers. -/
def lvP (es : List (V × V × Bool)) (nm : List V) (a : Int) (k : V → Bool → Option R) : Option R :=
  bif hasS (.s nm) es then
    bif Nat.ble (valS (.s nm) es).els.length 10000 then
      bif lastQ (valS (.s nm) es) then
        bif ilt (W64 (a - (V.nth (lastE (valS (.s nm) es)) 2).int)) 8 then k (lastE (valS (.s nm) es)) true else k noE false
      else k noE false
    else none
  else k noE false
def lvC (l : V) (nm : List V) (a : Int) (e : V) (is : Bool) (k : Option R) : Option R :=
  bif Nat.ble l.els.length 10000 then
    bif liveQ nm l a then (bif veq e (liveE nm l a) then (bif is then k else none) else none)
    else (bif veq e (liveE nm l a) then (bif is then none else k) else none)
  else none
def smC2 (nl : Bool) (xs ys : List V) (k : Option R) : Option R :=
  bif Nat.ble (bif nl then V.n else .l xs).els.length 100000 && Nat.ble ys.length 100000 then
    bif veqL (bif nl then V.n else .l xs).els ys then k else none
  else none
def hsP (es : List (V × V × Bool)) (nm : List V) (k : Bool → List V → Option R) : Option R :=
  bif hasS (.s nm) es then
    bif Nat.ble (valS (.s nm) es).els.length 10000 then k (isN (valS (.s nm) es)) (valS (.s nm) es).els else none
  else k true []
def srtC (st : Nat) (es : List (V × V × Bool)) (k : List V → Option R) : Option R :=
  bif Nat.beq st st && (okK (keyS es) && Nat.ble (keyS es).length 1000000) then
    ln (sortV ((keyS es).map (·.1))).length <| k (sortV ((keyS es).map (·.1)))
  else none
noncomputable def tellsG (st : Nat) (l : V) (nm : List V) (a m : Int) : Option Unit :=
  bif rng [l] then bif rightN l.els 0 then
    ln nm.length <| bif ilt 100 (nm.length : Nat) then some () else
    bif ilt a 0 then some () else bif ilt 1000000000 a then some () else
    ln l.els.length <| lpC (BNn Unit) (hid FU) (.m l [] (l.els.length : Nat) 0) fun q => match q with
    | .o l1 es1 n1 i1 =>
      lvP es1 nm a fun e is => lvC l nm a e is <|
      hsP es1 nm fun nl xs => bif Nat.ble l.els.length 10000 then smC2 nl xs (histS nm l.els) <|
      srtC st es1 fun ks => lpC (BSw Unit) (hid FU) (.m es1 nm m a [] true ks ks.isEmpty (ks.length : Nat) 0) fun q => match q with
      | .o es2 fr2 m2 h2 xs2 nl2 ks2 nk2 n2 i2 => bif Nat.ble l.els.length 10000 then smC2 nl2 xs2 (scanR nm m l a (namesN [] l.els) []) <|
        srtC st es2 fun ks => lpC (BEw Unit) (hid FU) (.m es2 a [] true ks ks.isEmpty (ks.length : Nat) 0) fun q => match q with
        | .o es3 h3 xs3 nl3 ks3 nk3 n3 i3 => bif Nat.ble l.els.length 10000 then smC2 nl3 xs3 (endsR l a (namesN [] l.els) []) <|
          srtC st es3 fun ks => lpC (BAw Unit) (hid FU) (.m es3 [] true ks ks.isEmpty (ks.length : Nat) 0) fun q => match q with
          | .o es4 xs4 nl4 ks4 nk4 n4 i4 => bif Nat.ble l.els.length 10000 then smC2 nl4 xs4 (flatR l.els (namesN [] l.els) []) (some ()) else none
          else none
        else none
      else none
    else some () else none
end Go.Vm


namespace Go.Vm
open Go.RowKit
variable {R : Type}
set_option linter.unusedVariables false
set_option linter.constructorNameAsVariable false
set_option linter.unusedSimpArgs false

/-! ### A map of slices, as data -/
theorem sdel_has {k kv : V} (hne : veq k kv = false) : ∀ es : List (V × V × Bool), hasS kv (delS k es) = hasS kv es := by
  have hk : k ≠ kv := fun q => by rw [(veq_iff _ _).2 q] at hne; cases hne
  intro es
  induction es with
  | nil => rfl
  | cons p r ih =>
    simp only [delS, hasS]
    cases h : veq p.1 k with
    | true =>
      have : p.1 = k := (veq_iff _ _).1 h
      rw [cond_true, ih, this, hne, Bool.false_or]
    | false => simp only [cond_false, hasS, ih]
theorem sdel_val {k kv : V} (hne : veq k kv = false) : ∀ es : List (V × V × Bool), valS kv (delS k es) = valS kv es ∧ ownS kv (delS k es) = ownS kv es := by
  intro es
  induction es with
  | nil => exact ⟨rfl, rfl⟩
  | cons p r ih =>
    simp only [delS, valS, ownS]
    cases h : veq p.1 k with
    | true =>
      have : p.1 = k := (veq_iff _ _).1 h
      rw [cond_true, ih.1, ih.2, this, hne]; exact ⟨rfl, rfl⟩
    | false => simp only [cond_false, valS, ownS, ih.1, ih.2, and_self]
theorem sset_has {k kv x : V} {q : Bool} {es : List (V × V × Bool)} : hasS kv (setS k x q es) = (veq k kv || hasS kv es) := by
  show (veq k kv || hasS kv (delS k es)) = _
  cases h : veq k kv with
  | true => rfl
  | false => rw [sdel_has h]
theorem sset_val {k kv x : V} {q : Bool} {es : List (V × V × Bool)} : valS kv (setS k x q es) = (bif veq k kv then x else valS kv es) := by
  show (bif veq k kv then x else valS kv (delS k es)) = _
  cases h : veq k kv with
  | true => rfl
  | false => rw [(sdel_val h es).1]
theorem sset_own {k kv x : V} {q : Bool} {es : List (V × V × Bool)} : ownS kv (setS k x q es) = (bif veq k kv then q else ownS kv es) := by
  show (bif veq k kv then q else ownS kv (delS k es)) = _
  cases h : veq k kv with
  | true => rfl
  | false => rw [(sdel_val h es).2]
theorem hasS_iff {kv : V} : ∀ {es : List (V × V × Bool)}, hasS kv es = true ↔ kv ∈ es.map (·.1) := by
  intro es
  induction es with
  | nil => simp [hasS]
  | cons p r ih =>
    simp only [hasS, Bool.or_eq_true, veq_iff, ih, List.map_cons, List.mem_cons]
    exact ⟨fun h => h.imp (fun q => q.symm) id, fun h => h.imp (fun q => q.symm) id⟩
theorem sdel_none {kv : V} {es : List (V × V × Bool)} (h : hasS kv es = false) : delS kv es = es := by
  rw [delS_filter]
  refine filterS_none (fun p hp q => ?_)
  have : hasS kv es = true := hasS_iff.2 (List.mem_map.2 ⟨p, hp, q⟩)
  rw [this] at h; cases h
theorem sdel_perm {kv : V} : ∀ {es : List (V × V × Bool)}, (es.map (·.1)).Nodup → hasS kv es = true → (kv :: (delS kv es).map (·.1)).Perm (es.map (·.1)) := by
  intro es
  induction es with
  | nil => intro _ h; cases h
  | cons p r ih =>
    intro hn h
    simp only [List.map_cons, List.nodup_cons] at hn
    simp only [delS]
    cases hb : veq p.1 kv with
    | true =>
      have hp : p.1 = kv := (veq_iff _ _).1 hb
      have : hasS kv r = false := by
        cases hh : hasS kv r with
        | false => rfl
        | true => exact absurd (hp ▸ hasS_iff.1 hh) hn.1
      rw [cond_true, sdel_none this, List.map_cons, hp]
    | false =>
      simp only [hasS, hb, Bool.false_or] at h
      rw [cond_false, List.map_cons, List.map_cons]
      exact (List.Perm.swap _ _ _).trans ((ih hn.2 h).cons _)

/-! ### What naming.New makes -/
structure NInv (p : List V) (es : List (V × V × Bool)) : Prop where
  nd : (es.map (·.1)).Nodup
  ks : sortV (es.map (·.1)) = namesN [] p
  gd : ∀ q ∈ es, NmV q.1
  has : ∀ nm, hasS (.s nm) es = !(histS nm p).isEmpty
  val : ∀ nm, hasS (.s nm) es = true → valS (.s nm) es = .l (histS nm p)
  own : ∀ kv, ownS kv es = true
theorem hist_snoc (nm : List V) (p : List V) (x : V) : histS nm (p ++ [x]) = bif veqL (nmE x) nm then histS nm p ++ [x] else histS nm p := by
  simp only [histS, List.filter_append, List.filter_cons, List.filter_nil]
  cases veqL (nmE x) nm <;> simp
theorem NInv.nil : NInv [] [] := ⟨List.nodup_nil, rfl, fun q h => (by cases h), fun nm => rfl, fun nm h => (by cases h), fun kv => rfl⟩
theorem veq_s (a b : List V) : veq (.s a) (.s b) = veqL a b := rfl
theorem NInv.mem {p : List V} {es : List (V × V × Bool)} (h : NInv p es) {k : V} : k ∈ namesN [] p ↔ hasS k es = true := by
  rw [← h.ks, hasS_iff]
  exact (sortV_permV _).mem_iff
theorem NInv.snoc {p : List V} {es : List (V × V × Bool)} (h : NInv p es) {x : V} (hx : isNm (nmE x)) (hp : ∀ e ∈ p, isNm (nmE e)) : NInv (p ++ [x]) (setS (.s (nmE x)) (.l (histS (nmE x) p ++ [x])) true es) := by
  have hst : StS (namesN [] p) := names_st ⟨List.Pairwise.nil, fun _ h => by cases h⟩ hp
  have hnames : namesN [] (p ++ [x]) = insN (nmE x) (namesN [] p) := by simp [namesN, List.foldl_append]
  have hkeys : ∀ q ∈ (setS (.s (nmE x)) (.l (histS (nmE x) p ++ [x])) true es).map (·.1), NmV q := by
    intro q hq
    simp only [setS, List.map_cons, List.mem_cons] at hq
    rcases hq with rfl | hq
    · exact ⟨_, rfl, hx⟩
    · obtain ⟨y, hy, rfl⟩ := List.mem_map.1 hq
      rw [delS_filter] at hy
      exact h.gd y (List.mem_filter.1 hy).1
  refine ⟨setS_nodup h.nd, ?_, fun q hq => hkeys q.1 (List.mem_map_of_mem hq), fun nm => ?_, fun nm hh => ?_, fun kv => ?_⟩
  · rw [hnames]
    cases hh : hasS (.s (nmE x)) es with
    | true =>
      rw [insN_has hst (h.mem.2 hh), ← h.ks]
      exact sortV_cong (sdel_perm h.nd hh) hkeys
    | false =>
      rw [insN_new hst.2 (fun q => by rw [h.mem.1 q] at hh; cases hh)]
      show insV (.s (nmE x)) (sortV ((delS (.s (nmE x)) es).map (·.1))) = _
      rw [sdel_none hh, h.ks]
  · rw [sset_has, h.has, hist_snoc, veq_s]
    cases veqL (nmE x) nm with
    | true => simp
    | false => rfl
  · rw [sset_val, hist_snoc, veq_s]
    rw [sset_has, veq_s] at hh
    cases hq : veqL (nmE x) nm with
    | true => rw [cond_true, cond_true, (veqL_iff _ _).1 hq]
    | false =>
      rw [hq, Bool.false_or] at hh
      rw [cond_false, cond_false, h.val nm hh]
  · rw [sset_own, h.own]
    cases veq (.s (nmE x)) kv <;> rfl
theorem nn_law {l : V} (hnm : ∀ e ∈ l.els, isNm (nmE e)) : ∀ (r a : List V) (es : List (V × V × Bool)) (fuel : Nat), l.els = a ++ r → a.length + r.length ≤ 10000 → NInv a es → r.length < fuel →
    ∃ es', NInv l.els es' ∧ ∀ kx : QNn → Option R, lpC (BNn R) fuel (.m l es (l.els.length : Nat) (a.length : Nat)) kx = kx (.o l es' (l.els.length : Nat) (l.els.length : Nat)) := by
  intro r
  induction r with
  | nil =>
    intro a es fuel he hz hi hf
    obtain ⟨f, rfl⟩ : ∃ f, fuel = f + 1 := ⟨fuel - 1, by omega⟩
    rw [List.append_nil] at he
    refine ⟨es, he ▸ hi, fun kx => ?_⟩
    rw [lpC, BNn_m, ix_f he, cond_false, he]
  | cons x r ih =>
    intro a es fuel he hz hi hf
    obtain ⟨f, rfl⟩ : ∃ f, fuel = f + 1 := ⟨fuel - 1, by omega⟩
    simp only [List.length_cons] at hz hf
    have hle : l.els.length = a.length + (r.length + 1) := by rw [he]; simp
    have hat : l.nth ((a.length : Nat) : Int).toNat = x := nth_at he
    have hxn : isNm (nmE x) := hnm x (by rw [he]; simp)
    obtain ⟨es', g1, g2⟩ := ih (a ++ [x]) _ f (by rw [he]; simp) (by simp only [List.length_append, List.length_singleton]; omega) (hi.snoc hxn (fun e h => hnm e (by rw [he]; simp [h]))) (by omega)
    simp only [List.length_append, List.length_singleton] at g2
    refine ⟨es', g1, fun kx => ?_⟩
    rw [← g2 kx, lpC, BNn_m, ix_t he, cond_true, ck_in (by omega) (by omega), hat, i_next (by omega)]
    have hhl : (histS (nmE x) a).length ≤ a.length := List.length_filter_le _ _
    cases hh : hasS (.s (nmE x)) es with
    | true =>
      rw [cond_true, hi.own, cond_true, hi.val _ hh, lim_in (by show (histS (nmE x) a).length + 1 ≤ _; omega), veq_refl, cond_true]
      rfl
    | false =>
      have : histS (nmE x) a = [] := by
        have := hi.has (nmE x)
        rw [hh] at this
        cases hq : histS (nmE x) a with
        | nil => rfl
        | cons y s => rw [hq] at this; cases this
      rw [cond_false, this]; rfl
end Go.Vm

end
