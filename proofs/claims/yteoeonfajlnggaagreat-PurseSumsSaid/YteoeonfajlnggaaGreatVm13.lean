/- What the operations of a program do, shown once for all programs; and numbers. -/
import Derived.Test.YteoeonfajlnggaaGreatVm12
import Derived.Test.YteoeonfajlnggaaGreatVm11
set_option linter.constructorNameAsVariable false
set_option linter.unusedVariables false
set_option linter.unusedSimpArgs false
noncomputable section
namespace Go.Vm
open Go.RowKit
variable {R : Type}
set_option linter.unusedVariables false
set_option linter.constructorNameAsVariable false
set_option linter.unusedSimpArgs false

/-! ### The purse's functions, loop by loop -/
inductive PCi where
  | m (t : V) (l : V) (n : Int) (i : Int) (a : Int) (j : Int)
inductive QCi where
  | o (t : V) (l : V) (n : Int) (i : Int) (a : Int) (j : Int)
  | r (t : V) (l : V) (n : Int) (i : Int) (a : Int) (j : Int)
def BCi (R : Type) (p : PCi) (K : PCi → Option R) (kx : QCi → Option R) : Option R :=
  match p with
  | .m t l n i a j =>
    bif ilt j a then
      ck a ((((V.nth t 1)).els).length) <|
      ck j ((((V.nth t 1)).els).length) <|
      bif veq (V.nth (V.nth (V.nth t 1) a.toNat) 0) (V.nth (V.nth (V.nth t 1) j.toNat) 0) then
      kx (.r t l n i a j)
      else
      K (.m t l n i a (W64 (j + 1)))
      else
      kx (.o t l n i a j)
theorem BCi_m {R : Type} (t : V) (l : V) (n : Int) (i : Int) (a : Int) (j : Int) (K : PCi → Option R) (kx : QCi → Option R) : BCi R (.m t l n i a j) K kx =
    bif ilt j a then
      ck a ((((V.nth t 1)).els).length) <|
      ck j ((((V.nth t 1)).els).length) <|
      bif veq (V.nth (V.nth (V.nth t 1) a.toNat) 0) (V.nth (V.nth (V.nth t 1) j.toNat) 0) then
      kx (.r t l n i a j)
      else
      K (.m t l n i a (W64 (j + 1)))
      else
      kx (.o t l n i a j) := rfl
inductive PCt where
  | m (t : V) (l : V) (n : Int) (i : Int)
inductive QCt where
  | o (t : V) (l : V) (n : Int) (i : Int)
  | r (t : V) (l : V) (n : Int) (i : Int)
def BCt (R : Type) (p : PCt) (K : PCt → Option R) (kx : QCt → Option R) : Option R :=
  match p with
  | .m t l n i =>
    bif ilt i n then
      ck i ((l.els).length) <|
      bif Nat.ble ((((V.nth t 1)).els).length) 1000 then
      bif baseB t then
      ln ((((V.nth (V.nth l i.toNat) 1)).els).length) <|
      bif ilt ((((V.nth (V.nth l i.toNat) 1)).els).length : Nat) 2 then
      kx (.r t l n i)
      else
      ln ((((V.nth (V.nth l i.toNat) 1)).els).length) <|
      bif ilt 100 ((((V.nth (V.nth l i.toNat) 1)).els).length : Nat) then
      kx (.r t l n i)
      else
      bif Nat.ble ((((V.nth t 1)).els).length) 1000 then
      bif baseB t then
      K (.m t l n (W64 (i + 1)))
      else
      bif veq (V.nth (V.nth l i.toNat) 0) (V.put (.l [(.l (List.replicate 32 (.i 0))), (.i 0)]) 1 (.i 4294967295)) then
      kx (.r t l n i)
      else
      K (.m t l n (W64 (i + 1)))
      else
      none
      else
      bif Nat.ble ((((V.nth t 1)).els).length) 1000 then
      bif baseB t then
      K (.m t l n (W64 (i + 1)))
      else
      bif veq (V.nth (V.nth l i.toNat) 0) (V.put (.l [(.l (List.replicate 32 (.i 0))), (.i 0)]) 1 (.i 4294967295)) then
      kx (.r t l n i)
      else
      K (.m t l n (W64 (i + 1)))
      else
      none
      else
      none
      else
      kx (.o t l n i)
theorem BCt_m {R : Type} (t : V) (l : V) (n : Int) (i : Int) (K : PCt → Option R) (kx : QCt → Option R) : BCt R (.m t l n i) K kx =
    bif ilt i n then
      ck i ((l.els).length) <|
      bif Nat.ble ((((V.nth t 1)).els).length) 1000 then
      bif baseB t then
      ln ((((V.nth (V.nth l i.toNat) 1)).els).length) <|
      bif ilt ((((V.nth (V.nth l i.toNat) 1)).els).length : Nat) 2 then
      kx (.r t l n i)
      else
      ln ((((V.nth (V.nth l i.toNat) 1)).els).length) <|
      bif ilt 100 ((((V.nth (V.nth l i.toNat) 1)).els).length : Nat) then
      kx (.r t l n i)
      else
      bif Nat.ble ((((V.nth t 1)).els).length) 1000 then
      bif baseB t then
      K (.m t l n (W64 (i + 1)))
      else
      bif veq (V.nth (V.nth l i.toNat) 0) (V.put (.l [(.l (List.replicate 32 (.i 0))), (.i 0)]) 1 (.i 4294967295)) then
      kx (.r t l n i)
      else
      K (.m t l n (W64 (i + 1)))
      else
      none
      else
      bif Nat.ble ((((V.nth t 1)).els).length) 1000 then
      bif baseB t then
      K (.m t l n (W64 (i + 1)))
      else
      bif veq (V.nth (V.nth l i.toNat) 0) (V.put (.l [(.l (List.replicate 32 (.i 0))), (.i 0)]) 1 (.i 4294967295)) then
      kx (.r t l n i)
      else
      K (.m t l n (W64 (i + 1)))
      else
      none
      else
      none
      else
      kx (.o t l n i) := rfl
inductive PNw where
  | m (l : V) (es : List (V × V)) (n : Int) (i : Int)
inductive QNw where
  | o (l : V) (es : List (V × V)) (n : Int) (i : Int)
def BNw (R : Type) (p : PNw) (K : PNw → Option R) (kx : QNw → Option R) : Option R :=
  match p with
  | .m l es n i =>
    bif ilt i n then
      ck i ((l.els).length) <|
      lim ((((lockOf (V.nth (V.nth l i.toNat) 1))).els).length) <|
      K (.m l (setV (V.nth (V.nth l i.toNat) 0) (V.nth (V.nth l i.toNat) 1) es) n (W64 (i + 1)))
      else
      kx (.o l es n i)
theorem BNw_m {R : Type} (l : V) (es : List (V × V)) (n : Int) (i : Int) (K : PNw → Option R) (kx : QNw → Option R) : BNw R (.m l es n i) K kx =
    bif ilt i n then
      ck i ((l.els).length) <|
      lim ((((lockOf (V.nth (V.nth l i.toNat) 1))).els).length) <|
      K (.m l (setV (V.nth (V.nth l i.toNat) 0) (V.nth (V.nth l i.toNat) 1) es) n (W64 (i + 1)))
      else
      kx (.o l es n i) := rfl
inductive PFe where
  | m (es : List (V × V)) (t : V) (l : V) (h : Int) (s : Int) (n : Int) (i : Int)
inductive QFe where
  | o (es : List (V × V)) (t : V) (l : V) (h : Int) (s : Int) (n : Int) (i : Int)
  | c (es : List (V × V)) (t : V) (l : V) (h : Int) (s : Int) (n : Int) (i : Int)
  | y (es : List (V × V)) (t : V) (l : V) (h : Int) (s : Int) (n : Int) (i : Int)
  | z (es : List (V × V)) (t : V) (l : V) (h : Int) (s : Int) (n : Int) (i : Int)
def BFe (R : Type) (p : PFe) (K : PFe → Option R) (kx : QFe → Option R) : Option R :=
  match p with
  | .m es t l h s n i =>
    bif ilt i n then
      ck i ((l.els).length) <|
      bif hasV (V.nth (V.nth l i.toNat) 0) es then
      bif ((V.nth (getV (V.nth (V.nth l i.toNat) 0) es) 2)).bl then
      bif ilt (W64 (h - ((V.nth (getV (V.nth (V.nth l i.toNat) 0) es) 1)).int)) 2 then
      kx (.y es t l h s n i)
      else
      bif ile 0 (W64 (s + ((V.nth (V.nth (getV (V.nth (V.nth l i.toNat) 0) es) 0) 0)).int)) then
      bif ile (W64 (s + ((V.nth (V.nth (getV (V.nth (V.nth l i.toNat) 0) es) 0) 0)).int)) 2000000000000 then
      K (.m es t l h (W64 (s + ((V.nth (V.nth (getV (V.nth (V.nth l i.toNat) 0) es) 0) 0)).int)) n (W64 (i + 1)))
      else
      kx (.z es t l h s n i)
      else
      kx (.z es t l h s n i)
      else
      bif ile 0 (W64 (s + ((V.nth (V.nth (getV (V.nth (V.nth l i.toNat) 0) es) 0) 0)).int)) then
      bif ile (W64 (s + ((V.nth (V.nth (getV (V.nth (V.nth l i.toNat) 0) es) 0) 0)).int)) 2000000000000 then
      K (.m es t l h (W64 (s + ((V.nth (V.nth (getV (V.nth (V.nth l i.toNat) 0) es) 0) 0)).int)) n (W64 (i + 1)))
      else
      kx (.z es t l h s n i)
      else
      kx (.z es t l h s n i)
      else
      kx (.c es t l h s n i)
      else
      kx (.o es t l h s n i)
theorem BFe_m {R : Type} (es : List (V × V)) (t : V) (l : V) (h : Int) (s : Int) (n : Int) (i : Int) (K : PFe → Option R) (kx : QFe → Option R) : BFe R (.m es t l h s n i) K kx =
    bif ilt i n then
      ck i ((l.els).length) <|
      bif hasV (V.nth (V.nth l i.toNat) 0) es then
      bif ((V.nth (getV (V.nth (V.nth l i.toNat) 0) es) 2)).bl then
      bif ilt (W64 (h - ((V.nth (getV (V.nth (V.nth l i.toNat) 0) es) 1)).int)) 2 then
      kx (.y es t l h s n i)
      else
      bif ile 0 (W64 (s + ((V.nth (V.nth (getV (V.nth (V.nth l i.toNat) 0) es) 0) 0)).int)) then
      bif ile (W64 (s + ((V.nth (V.nth (getV (V.nth (V.nth l i.toNat) 0) es) 0) 0)).int)) 2000000000000 then
      K (.m es t l h (W64 (s + ((V.nth (V.nth (getV (V.nth (V.nth l i.toNat) 0) es) 0) 0)).int)) n (W64 (i + 1)))
      else
      kx (.z es t l h s n i)
      else
      kx (.z es t l h s n i)
      else
      bif ile 0 (W64 (s + ((V.nth (V.nth (getV (V.nth (V.nth l i.toNat) 0) es) 0) 0)).int)) then
      bif ile (W64 (s + ((V.nth (V.nth (getV (V.nth (V.nth l i.toNat) 0) es) 0) 0)).int)) 2000000000000 then
      K (.m es t l h (W64 (s + ((V.nth (V.nth (getV (V.nth (V.nth l i.toNat) 0) es) 0) 0)).int)) n (W64 (i + 1)))
      else
      kx (.z es t l h s n i)
      else
      kx (.z es t l h s n i)
      else
      kx (.c es t l h s n i)
      else
      kx (.o es t l h s n i) := rfl
inductive PAi where
  | m (es : List (V × V)) (t : V) (l : V) (h : Int) (b : Bool) (xs : List V) (nl : Bool) (n : Int) (i : Int)
inductive QAi where
  | o (es : List (V × V)) (t : V) (l : V) (h : Int) (b : Bool) (xs : List V) (nl : Bool) (n : Int) (i : Int)
def BAi (R : Type) (p : PAi) (K : PAi → Option R) (kx : QAi → Option R) : Option R :=
  match p with
  | .m es t l h b xs nl n i =>
    bif ilt i n then
      ck i ((l.els).length) <|
      bif hasV (V.nth (V.nth l i.toNat) 0) es then
      bif b then
      K (.m es t l h b xs nl n (W64 (i + 1)))
      else
      lim ((((lockOf (getV (V.nth (V.nth l i.toNat) 0) es))).els).length) <|
      lim (xs.length + ([(V.put (V.put (.l [(.l [(.l (List.replicate 32 (.i 0))), (.i 0)]), (.l [(.l [(.i 0), .n]), (.i 0), (.b false)])]) 0 (V.nth (V.nth l i.toNat) 0)) 1 (getV (V.nth (V.nth l i.toNat) 0) es))]).length) <|
      K (.m (delV (V.nth (V.nth l i.toNat) 0) es) t l h b (xs ++ [(V.put (V.put (.l [(.l [(.l (List.replicate 32 (.i 0))), (.i 0)]), (.l [(.l [(.i 0), .n]), (.i 0), (.b false)])]) 0 (V.nth (V.nth l i.toNat) 0)) 1 (getV (V.nth (V.nth l i.toNat) 0) es))]) (nl && false) n (W64 (i + 1)))
      else
      K (.m es t l h b xs nl n (W64 (i + 1)))
      else
      kx (.o es t l h b xs nl n i)
theorem BAi_m {R : Type} (es : List (V × V)) (t : V) (l : V) (h : Int) (b : Bool) (xs : List V) (nl : Bool) (n : Int) (i : Int) (K : PAi → Option R) (kx : QAi → Option R) : BAi R (.m es t l h b xs nl n i) K kx =
    bif ilt i n then
      ck i ((l.els).length) <|
      bif hasV (V.nth (V.nth l i.toNat) 0) es then
      bif b then
      K (.m es t l h b xs nl n (W64 (i + 1)))
      else
      lim ((((lockOf (getV (V.nth (V.nth l i.toNat) 0) es))).els).length) <|
      lim (xs.length + ([(V.put (V.put (.l [(.l [(.l (List.replicate 32 (.i 0))), (.i 0)]), (.l [(.l [(.i 0), .n]), (.i 0), (.b false)])]) 0 (V.nth (V.nth l i.toNat) 0)) 1 (getV (V.nth (V.nth l i.toNat) 0) es))]).length) <|
      K (.m (delV (V.nth (V.nth l i.toNat) 0) es) t l h b (xs ++ [(V.put (V.put (.l [(.l [(.l (List.replicate 32 (.i 0))), (.i 0)]), (.l [(.l [(.i 0), .n]), (.i 0), (.b false)])]) 0 (V.nth (V.nth l i.toNat) 0)) 1 (getV (V.nth (V.nth l i.toNat) 0) es))]) (nl && false) n (W64 (i + 1)))
      else
      K (.m es t l h b xs nl n (W64 (i + 1)))
      else
      kx (.o es t l h b xs nl n i) := rfl
inductive PAo where
  | m (es : List (V × V)) (h : Int) (b : Bool) (xs : List V) (nl : Bool) (d : V) (l : V) (n : Int) (i : Int)
inductive QAo where
  | o (es : List (V × V)) (h : Int) (b : Bool) (xs : List V) (nl : Bool) (d : V) (l : V) (n : Int) (i : Int)
def BAo (R : Type) (p : PAo) (K : PAo → Option R) (kx : QAo → Option R) : Option R :=
  match p with
  | .m es h b xs nl d l n i =>
    bif ilt i n then
      ck i ((l.els).length) <|
      bif b then
      lim ((((lockOf (.l (List.set [(V.nth l i.toNat), (.i h), (.b false)] 2 (.b true))))).els).length) <|
      K (.m (setV (V.put (V.put (.l [(.l (List.replicate 32 (.i 0))), (.i 0)]) 0 d) 1 (.i (IntKind.wrap .u32 i))) (.l (List.set [(V.nth l i.toNat), (.i h), (.b false)] 2 (.b true))) es) h b xs nl d l n (W64 (i + 1)))
      else
      lim ((((lockOf (.l (List.set [(V.nth l i.toNat), (.i h), (.b false)] 2 (.b false))))).els).length) <|
      K (.m (setV (V.put (V.put (.l [(.l (List.replicate 32 (.i 0))), (.i 0)]) 0 d) 1 (.i (IntKind.wrap .u32 i))) (.l (List.set [(V.nth l i.toNat), (.i h), (.b false)] 2 (.b false))) es) h b xs nl d l n (W64 (i + 1)))
      else
      kx (.o es h b xs nl d l n i)
theorem BAo_m {R : Type} (es : List (V × V)) (h : Int) (b : Bool) (xs : List V) (nl : Bool) (d : V) (l : V) (n : Int) (i : Int) (K : PAo → Option R) (kx : QAo → Option R) : BAo R (.m es h b xs nl d l n i) K kx =
    bif ilt i n then
      ck i ((l.els).length) <|
      bif b then
      lim ((((lockOf (.l (List.set [(V.nth l i.toNat), (.i h), (.b false)] 2 (.b true))))).els).length) <|
      K (.m (setV (V.put (V.put (.l [(.l (List.replicate 32 (.i 0))), (.i 0)]) 0 d) 1 (.i (IntKind.wrap .u32 i))) (.l (List.set [(V.nth l i.toNat), (.i h), (.b false)] 2 (.b true))) es) h b xs nl d l n (W64 (i + 1)))
      else
      lim ((((lockOf (.l (List.set [(V.nth l i.toNat), (.i h), (.b false)] 2 (.b false))))).els).length) <|
      K (.m (setV (V.put (V.put (.l [(.l (List.replicate 32 (.i 0))), (.i 0)]) 0 d) 1 (.i (IntKind.wrap .u32 i))) (.l (List.set [(V.nth l i.toNat), (.i h), (.b false)] 2 (.b false))) es) h b xs nl d l n (W64 (i + 1)))
      else
      kx (.o es h b xs nl d l n i) := rfl
/-! Twice the same reference? -/
theorem ci_law {t l : V} {n i : Int} {pre r : List V} {x : V} (ht : (t.nth 1).els = pre ++ x :: r) {ko kr : Option R} {kx : QCi → Option R} (h1 : kx (.o t l n i (pre.length : Nat) (pre.length : Nat)) = ko) (h2 : ∀ j, kx (.r t l n i (pre.length : Nat) j) = kr) (hl : pre.length ≤ 100000) :
    ∀ (m k : List V) (fuel : Nat), pre = k ++ m → m.length < fuel → lpC (BCi R) fuel (.m t l n i (pre.length : Nat) (k.length : Nat)) kx = bif m.any (fun y => veq (x.nth 0) (y.nth 0)) then kr else ko := by
  intro m
  induction m with
  | nil =>
    intro k fuel he hf
    obtain ⟨f, rfl⟩ : ∃ f, fuel = f + 1 := ⟨fuel - 1, by omega⟩
    rw [List.append_nil] at he
    subst he
    rw [lpC, BCi_m, show ilt (pre.length : Nat) (pre.length : Nat) = false by simp [ilt], cond_false]
    exact h1
  | cons y m ih =>
    intro k fuel he hf
    obtain ⟨f, rfl⟩ : ∃ f, fuel = f + 1 := ⟨fuel - 1, by simp at hf; omega⟩
    have hlen : pre.length = k.length + (m.length + 1) := by rw [he]; simp
    have hll : (t.nth 1).els.length = pre.length + (r.length + 1) := by rw [ht]; simp
    have a1 : (t.nth 1).nth ((pre.length : Nat) : Int).toNat = x := nth_at ht
    have a2 : (t.nth 1).nth ((k.length : Nat) : Int).toNat = y := nth_at (a := k) (r := m ++ x :: r) (by rw [ht, he]; simp)
    rw [lpC, BCi_m, show ilt (k.length : Nat) (pre.length : Nat) = true by rw [ilt_nat]; simp; omega, cond_true, ck_in (by omega) (by omega), ck_in (by omega) (by omega), a1, a2]
    simp only [List.any_cons]
    cases veq (x.nth 0) (y.nth 0) with
    | true => simp only [cond_true, Bool.true_or]; exact h2 _
    | false =>
      simp only [cond_false, Bool.false_or]
      rw [i_next (by omega)]
      have := ih (k ++ [y]) f (by rw [he]; simp) (by simp only [List.length_cons] at hf; omega)
      rwa [show (k ++ [y]).length = k.length + 1 by simp] at this
def dupB : List V → List V → Bool
  | _, [] => false
  | pre, x :: r => pre.any (fun y => veq (x.nth 0) (y.nth 0)) || dupB (pre ++ [x]) r
/-- May an input not be? -/
def badI (t x : V) : Bool := bif baseB t then (ilt ((x.nth 1).els.length : Nat) 2 || ilt 100 ((x.nth 1).els.length : Nat)) else veq (x.nth 0) nullR
theorem put_null : V.put (.l [(.l (List.replicate 32 (.i 0))), (.i 0)]) 1 (.i 4294967295) = nullR := rfl
theorem ckt_law {t l : V} (ht : (t.nth 1).els.length ≤ 1000) {ko kr : Option R} {kx : QCt → Option R} (h1 : ∀ n i, kx (.o t l n i) = ko) (h2 : ∀ n i, kx (.r t l n i) = kr) :
    ∀ (r a : List V) (fuel : Nat), l.els = a ++ r → (∀ x ∈ r, (x.nth 1).els.length ≤ 100000) → a.length + r.length ≤ 100000 → r.length < fuel →
    lpC (BCt R) fuel (.m t l (l.els.length : Nat) (a.length : Nat)) kx = bif r.any (badI t) then kr else ko := by
  have hb := Nat.ble_eq_true_of_le ht
  intro r
  induction r with
  | nil =>
    intro a fuel he hg ha hf
    obtain ⟨f, rfl⟩ : ∃ f, fuel = f + 1 := ⟨fuel - 1, by omega⟩
    rw [List.append_nil] at he
    rw [lpC, BCt_m, ix_f he, cond_false]; exact h1 _ _
  | cons x r ih =>
    intro a fuel he hg ha hf
    obtain ⟨f, rfl⟩ : ∃ f, fuel = f + 1 := ⟨fuel - 1, by simp at hf; omega⟩
    simp only [List.length_cons] at ha hf
    have hle : l.els.length = a.length + (r.length + 1) := by rw [he]; simp
    have hat : l.nth ((a.length : Nat) : Int).toNat = x := nth_at he
    have hx := hg x (by simp)
    have ih := ih (a ++ [x]) f (by rw [he]; simp) (fun y hy => hg y (by simp [hy]))
    simp only [List.length_append, List.length_singleton] at ih
    rw [lpC, BCt_m, ix_t he, cond_true, ck_in (by omega) (by omega), hb, hat, ln_in (by omega), ln_in (by omega), put_null, i_next (by omega), ih (by omega) (by omega)]
    simp only [List.any_cons, badI, cond_true]
    cases baseB t with
    | true =>
      simp only [cond_true]
      cases ilt ((x.nth 1).els.length : Nat) 2 with
      | true => simp only [cond_true, Bool.true_or]; exact h2 _ _
      | false =>
        cases ilt 100 ((x.nth 1).els.length : Nat) with
        | true => simp only [cond_true, cond_false, Bool.true_or, Bool.false_or]; exact h2 _ _
        | false => simp only [cond_false, Bool.false_or]
    | false =>
      simp only [cond_false]
      cases veq (x.nth 0) nullR with
      | true => simp only [cond_true, Bool.true_or]; exact h2 _ _
      | false => simp only [cond_false, Bool.false_or]
/-! A purse of coins. -/
def newS : List V → List (V × V) → List (V × V)
  | [], es => es
  | x :: r, es => newS r (setV (x.nth 0) (x.nth 1) es)
theorem nw_law {l : V} (kx : QNw → Option R) : ∀ (r a : List V) (es : List (V × V)) (fuel : Nat), l.els = a ++ r → (∀ x ∈ r, (lockOf (x.nth 1)).els.length ≤ 1000000) → a.length + r.length ≤ 100000 → r.length < fuel →
    lpC (BNw R) fuel (.m l es (l.els.length : Nat) (a.length : Nat)) kx = kx (.o l (newS r es) (l.els.length : Nat) (l.els.length : Nat)) := by
  intro r
  induction r with
  | nil =>
    intro a es fuel he hg ha hf
    obtain ⟨f, rfl⟩ : ∃ f, fuel = f + 1 := ⟨fuel - 1, by omega⟩
    rw [List.append_nil] at he
    rw [lpC, BNw_m, ix_f he, cond_false, he]; rfl
  | cons x r ih =>
    intro a es fuel he hg ha hf
    obtain ⟨f, rfl⟩ : ∃ f, fuel = f + 1 := ⟨fuel - 1, by simp at hf; omega⟩
    simp only [List.length_cons] at ha hf
    have hle : l.els.length = a.length + (r.length + 1) := by rw [he]; simp
    have hat : l.nth ((a.length : Nat) : Int).toNat = x := nth_at he
    have hx := hg x (by simp)
    have ih := ih (a ++ [x]) (setV (x.nth 0) (x.nth 1) es) f (by rw [he]; simp) (fun y hy => hg y (by simp [hy]))
    simp only [List.length_append, List.length_singleton] at ih
    rw [lpC, BNw_m, ix_t he, cond_true, ck_in (by omega) (by omega), hat, lim_in (by omega), i_next (by omega), ih (by omega) (by omega)]; rfl
/-! What is left. -/
def hiC (c : V) : Int := (c.nth 1).int
def feeS (es : List (V × V)) (h : Int) : List V → Int → Int × Int
  | [], s => (s, 0)
  | x :: r, s => bif hasV (x.nth 0) es then
      bif ((getV (x.nth 0) es).nth 2).bl && decide (h - hiC (getV (x.nth 0) es) < 2) then (0, 162) else
      bif decide (s + valC (getV (x.nth 0) es) ≤ MM) then feeS es h r (s + valC (getV (x.nth 0) es)) else (0, 91) else (0, 161)
/-- All coins of a purse can be. -/
def okM (es : List (V × V)) : Prop := ∀ p ∈ es, 0 ≤ valC p.2 ∧ valC p.2 ≤ MM ∧ 0 ≤ hiC p.2 ∧ hiC p.2 ≤ 1000000000 ∧ (lockOf p.2).els.length ≤ 300
theorem getV_mem {k : V} : ∀ {es : List (V × V)}, hasV k es = true → (k, getV k es) ∈ es := by
  intro es
  induction es with
  | nil => intro h; cases h
  | cons p r ih =>
    intro h
    simp only [hasV, Bool.or_eq_true] at h
    simp only [getV]
    cases hp : veq p.1 k with
    | true =>
      have := (veq_iff _ _).1 hp
      subst this
      simp
    | false =>
      rw [hp] at h
      simp only [cond_false]
      exact List.mem_cons_of_mem _ (ih (h.resolve_left (by simp)))
def feQ (k : List (V × V) → V → Int → Option R) (z : List (V × V) → Int → Option R) : QFe → Option R
  | .o es t l h s n i => k es t s
  | .c es t l h s n i => z es 161
  | .y es t l h s n i => z es 162
  | .z es t l h s n i => z es 91
theorem fe_law {es : List (V × V)} {t l : V} {h : Int} (hok : okM es) (h0 : 0 ≤ h) (h1 : h ≤ 1000000000) (k : List (V × V) → V → Int → Option R) (z : List (V × V) → Int → Option R) : ∀ (r a : List V) (s : Int) (fuel : Nat), l.els = a ++ r → 0 ≤ s → s ≤ MM → a.length + r.length ≤ 100000 → r.length < fuel →
    lpC (BFe R) fuel (.m es t l h s (l.els.length : Nat) (a.length : Nat)) (feQ k z) = bif ieq (feeS es h r s).2 0 then k es t (feeS es h r s).1 else z es (feeS es h r s).2 := by
  intro r
  induction r with
  | nil =>
    intro a s fuel he s0 s1 ha hf
    obtain ⟨f, rfl⟩ : ∃ f, fuel = f + 1 := ⟨fuel - 1, by omega⟩
    rw [List.append_nil] at he
    rw [lpC, BFe_m, ix_f he, cond_false]; rfl
  | cons x r ih =>
    intro a s fuel he s0 s1 ha hf
    obtain ⟨f, rfl⟩ : ∃ f, fuel = f + 1 := ⟨fuel - 1, by simp at hf; omega⟩
    simp only [List.length_cons] at ha hf
    have hle : l.els.length = a.length + (r.length + 1) := by rw [he]; simp
    have hat : l.nth ((a.length : Nat) : Int).toNat = x := nth_at he
    rw [lpC, BFe_m, ix_t he, cond_true, ck_in (by omega) (by omega), hat]
    simp only [feeS]
    cases hh : hasV (x.nth 0) es with
    | false => rfl
    | true =>
      obtain ⟨b1, b2, b3, b4, b5⟩ := hok _ (getV_mem hh)
      generalize getV (x.nth 0) es = c at b1 b2 b3 b4 b5
      simp only at b1 b2 b3 b4
      have ih := ih (a ++ [x]) (s + valC c) f (by rw [he]; simp)
      simp only [List.length_append, List.length_singleton] at ih
      have e1 : ((c.nth 0).nth 0).int = valC c := rfl
      have e2 : (c.nth 1).int = hiC c := rfl
      simp only [MM] at s1 b2
      rw [e1, e2, w64_in (n := h - hiC c) (by omega) (by omega), w64_in (n := s + valC c) (by omega) (by omega), i_next (by omega)]
      simp only [ilt_d, ile_d, cond_true]
      have tail : (bif decide (0 ≤ s + valC c) then bif decide (s + valC c ≤ 2000000000000) then lpC (BFe R) f (.m es t l h (s + valC c) (l.els.length : Nat) ((a.length + 1 : Nat) : Int)) (feQ k z) else feQ k z (.z es t l h s (l.els.length : Nat) (a.length : Nat)) else feQ k z (.z es t l h s (l.els.length : Nat) (a.length : Nat))) =
          bif ieq (bif decide (s + valC c ≤ MM) then feeS es h r (s + valC c) else (0, 91)).2 0 then k es t (bif decide (s + valC c ≤ MM) then feeS es h r (s + valC c) else (0, 91)).1 else z es (bif decide (s + valC c ≤ MM) then feeS es h r (s + valC c) else (0, 91)).2 := by
        rw [show decide (0 ≤ s + valC c) = true by simp; omega, cond_true]
        by_cases hc : s + valC c ≤ MM
        · simp only [MM] at hc ⊢
          simp only [hc, decide_true, cond_true]
          exact ih (by omega) hc (by omega) (by omega)
        · simp only [MM] at hc ⊢
          simp only [hc, decide_false, cond_false]; rfl
      cases (c.nth 2).bl with
      | false => simp only [Bool.false_and, cond_false]; exact tail
      | true =>
        simp only [Bool.true_and, cond_true]
        by_cases hc : h - hiC c < 2
        · simp only [hc, decide_true, cond_true]; rfl
        · simp only [hc, decide_false, cond_false]; exact tail
/-! What is done. -/
def appI (b : Bool) : List V → List (V × V) → List V → List (V × V) × List V
  | [], es, xs => (es, xs)
  | x :: r, es, xs => bif hasV (x.nth 0) es && !b then appI b r (delV (x.nth 0) es) (xs ++ [.l [x.nth 0, getV (x.nth 0) es]]) else appI b r es xs
theorem okM_del {k : V} {es : List (V × V)} (h : okM es) : okM (delV k es) := by
  induction es with
  | nil => exact h
  | cons p r ih =>
    simp only [delV]
    have ihr := ih (fun q hq => h q (by simp [hq]))
    cases veq p.1 k
    · simp only [cond_false]
      intro q hq
      rcases List.mem_cons.1 hq with rfl | hq
      · exact h _ (by simp)
      · exact ihr q hq
    · exact ihr
theorem put_sp (a b : V) : V.put (V.put (.l [(.l [(.l (List.replicate 32 (.i 0))), (.i 0)]), (.l [(.l [(.i 0), .n]), (.i 0), (.b false)])]) 0 a) 1 b = .l [a, b] := rfl
theorem ai_law {t l : V} {h : Int} {b : Bool} {ko : Option R} {kx : QAi → Option R} {es0 : List (V × V)} {xs0 : List V} (h1 : ∀ nl n i, kx (.o es0 t l h b xs0 nl n i) = ko) : ∀ (r a : List V) (es : List (V × V)) (xs : List V) (nl : Bool) (fuel : Nat), appI b r es xs = (es0, xs0) → okM es → l.els = a ++ r → xs.length + r.length ≤ 100000 → a.length + r.length ≤ 100000 → r.length < fuel →
    lpC (BAi R) fuel (.m es t l h b xs nl (l.els.length : Nat) (a.length : Nat)) kx = ko := by
  intro r
  induction r with
  | nil =>
    intro a es xs nl fuel hs hok he hx ha hf
    obtain ⟨f, rfl⟩ : ∃ f, fuel = f + 1 := ⟨fuel - 1, by omega⟩
    rw [List.append_nil] at he
    cases hs
    rw [lpC, BAi_m, ix_f he, cond_false]; exact h1 _ _ _
  | cons x r ih =>
    intro a es xs nl fuel hs hok he hx ha hf
    obtain ⟨f, rfl⟩ : ∃ f, fuel = f + 1 := ⟨fuel - 1, by simp at hf; omega⟩
    simp only [List.length_cons] at ha hf hx
    have hle : l.els.length = a.length + (r.length + 1) := by rw [he]; simp
    have hat : l.nth ((a.length : Nat) : Int).toNat = x := nth_at he
    have ih := fun es' xs' nl' q1 q2 q3 => ih (a ++ [x]) es' xs' nl' f q1 q2 (by rw [he]; simp) q3 (by simp; omega) (by omega)
    simp only [List.length_append, List.length_singleton] at ih
    simp only [appI] at hs
    rw [lpC, BAi_m, ix_t he, cond_true, ck_in (by omega) (by omega), hat, i_next (by omega), put_sp]
    cases hh : hasV (x.nth 0) es with
    | false =>
      rw [hh] at hs
      exact ih es xs nl hs hok (by omega)
    | true =>
      obtain ⟨b1, b2, b3, b4, b5⟩ := hok _ (getV_mem hh)
      rw [hh] at hs
      cases b with
      | true => exact ih es xs nl hs hok (by omega)
      | false =>
        simp only [cond_true, cond_false]
        rw [lim_in (by have : (lockOf (getV (x.nth 0) es)).els.length ≤ 300 := b5; omega), lim_in (by simp; omega)]
        exact ih _ _ _ hs (okM_del hok) (by simp; omega)
/-- An output's coin, its reference. -/
def outC (h : Int) (b : Bool) (o : V) : V := .l [o, .i h, .b b]
def outR (d : V) (i : Int) : V := .l [d, .i (IntKind.wrap .u32 i)]
def appO (d : V) (h : Int) (b : Bool) : List V → Nat → List (V × V) → List (V × V)
  | [], _, es => es
  | o :: r, i, es => appO d h b r (i + 1) (setV (outR d i) (outC h b o) es)
theorem ao_law {d l : V} {h : Int} {b : Bool} {xs : List V} {nl : Bool} (kx : QAo → Option R) : ∀ (r a : List V) (es : List (V × V)) (fuel : Nat), l.els = a ++ r → (∀ o ∈ r, (o.nth 1).els.length ≤ 1000000) → a.length + r.length ≤ 100000 → r.length < fuel →
    lpC (BAo R) fuel (.m es h b xs nl d l (l.els.length : Nat) (a.length : Nat)) kx = kx (.o (appO d h b r a.length es) h b xs nl d l (l.els.length : Nat) (l.els.length : Nat)) := by
  intro r
  induction r with
  | nil =>
    intro a es fuel he hg ha hf
    obtain ⟨f, rfl⟩ : ∃ f, fuel = f + 1 := ⟨fuel - 1, by omega⟩
    rw [List.append_nil] at he
    rw [lpC, BAo_m, ix_f he, cond_false, he]; rfl
  | cons o r ih =>
    intro a es fuel he hg ha hf
    obtain ⟨f, rfl⟩ : ∃ f, fuel = f + 1 := ⟨fuel - 1, by simp at hf; omega⟩
    simp only [List.length_cons] at ha hf
    have hle : l.els.length = a.length + (r.length + 1) := by rw [he]; simp
    have hat : l.nth ((a.length : Nat) : Int).toNat = o := nth_at he
    have hx : (o.nth 1).els.length ≤ 1000000 := hg o (by simp)
    have ih := ih (a ++ [o]) (setV (outR d (a.length : Nat)) (outC h b o) es) f (by rw [he]; simp) (fun y hy => hg y (by simp [hy]))
    simp only [List.length_append, List.length_singleton] at ih
    have l1 : ∀ q : Bool, (lockOf (.l (List.set [o, .i h, .b false] 2 (.b q)))).els.length ≤ 1000000 := fun q => hx
    rw [lpC, BAo_m, ix_t he, cond_true, ck_in (by omega) (by omega), hat, lim_in (Nat.le_trans (l1 _) (by decide)), lim_in (Nat.le_trans (l1 _) (by decide)), i_next (by omega)]
    cases b
    · exact ih (by omega) (by omega)
    · exact ih (by omega) (by omega)
end Go.Vm


namespace Go.Vm
open Go.RowKit
variable {R : Type}
set_option linter.unusedVariables false
set_option linter.constructorNameAsVariable false
set_option linter.unusedSimpArgs false
/-! ### Can a transaction be? -/
inductive PCo where
  | m (t : V) (l : V) (n : Int) (i : Int)
inductive QCo where
  | o (t : V) (l : V) (n : Int) (i : Int)
  | r (t : V) (l : V) (n : Int) (i : Int)
noncomputable def BCo (R : Type) (p : PCo) (K : PCo → Option R) (kx : QCo → Option R) : Option R :=
  match p with
  | .m t l n i =>
    bif ilt i n then
      (lpC (BCi R) (hid FU) (.m t l n i i 0) fun q => match q with
      | .o t1 l1 n1 i1 a1 j1 =>
      K (.m t1 l1 n1 (W64 (i1 + 1)))
      | .r t1 l1 n1 i1 a1 j1 =>
      kx (.r t1 l1 n1 i1))
      else
      kx (.o t l n i)
theorem BCo_m {R : Type} (t : V) (l : V) (n : Int) (i : Int) (K : PCo → Option R) (kx : QCo → Option R) : BCo R (.m t l n i) K kx =
    bif ilt i n then
      (lpC (BCi R) (hid FU) (.m t l n i i 0) fun q => match q with
      | .o t1 l1 n1 i1 a1 j1 =>
      K (.m t1 l1 n1 (W64 (i1 + 1)))
      | .r t1 l1 n1 i1 a1 j1 =>
      kx (.r t1 l1 n1 i1))
      else
      kx (.o t l n i) := rfl
theorem co_law {t l : V} (htl : t.nth 1 = l) {ko kr : Option R} {kx : QCo → Option R} (h1 : ∀ n i, kx (.o t l n i) = ko) (h2 : ∀ n i, kx (.r t l n i) = kr) :
    ∀ (r a : List V) (fuel : Nat), l.els = a ++ r → a.length + r.length ≤ 100000 → r.length < fuel →
    lpC (BCo R) fuel (.m t l (l.els.length : Nat) (a.length : Nat)) kx = bif dupB a r then kr else ko := by
  intro r
  induction r with
  | nil =>
    intro a fuel he ha hf
    obtain ⟨f, rfl⟩ : ∃ f, fuel = f + 1 := ⟨fuel - 1, by omega⟩
    rw [List.append_nil] at he
    rw [lpC, BCo_m, ix_f he, cond_false]; exact h1 _ _
  | cons x r ih =>
    intro a fuel he ha hf
    obtain ⟨f, rfl⟩ : ∃ f, fuel = f + 1 := ⟨fuel - 1, by simp at hf; omega⟩
    simp only [List.length_cons] at ha hf
    have hq := fq_big
    have ih := ih (a ++ [x]) f (by rw [he]; simp)
    simp only [List.length_append, List.length_singleton] at ih
    rw [lpC, BCo_m, ix_t he, cond_true]
    refine (ci_law (t := t) (l := l) (i := (a.length : Nat)) (pre := a) (r := r) (x := x) (by rw [htl, he]) (ko := bif dupB (a ++ [x]) r then kr else ko) (kr := kr) ?_ (fun j => h2 _ _) (by omega) a [] (hid FU) rfl (by omega)).trans ?_
    · simp only
      rw [i_next (by omega)]; exact ih (by omega) (by omega)
    · simp only [dupB]
      cases a.any (fun y => veq (x.nth 0) (y.nth 0)) <;> rfl
def chkS (t : V) : Int :=
  bif ilt ((t.nth 1).els.length : Nat) 1 then 101 else bif ilt ((t.nth 2).els.length : Nat) 1 then 101 else
  bif ilt 5000 ((txL t).length : Nat) then 101 else bif !(ieq (sumS (t.nth 2).els 0).2 0) then (sumS (t.nth 2).els 0).2 else
  bif dupB [] (t.nth 1).els then 101 else bif (t.nth 1).els.any (badI t) then 101 else 0
noncomputable def ckG (v u : Int) (x y : V) (k : Int → Option R) : Option R :=
  ln x.els.length <| bif ilt (x.els.length : Nat) 1 then k 101 else ln y.els.length <| bif ilt (y.els.length : Nat) 1 then k 101 else
  bif txg [.l [.i v, x, y, .i u]] then ln (txL (.l [.i v, x, y, .i u])).length <| bif ilt 5000 ((txL (.l [.i v, x, y, .i u])).length : Nat) then k 101 else
  bif smg [y] then bif !(ieq (sumS y.els 0).2 0) then k (sumS y.els 0).2 else
  ln x.els.length <| lpC (BCo R) (hid FU) (.m (.l [.i v, x, y, .i u]) x (x.els.length : Nat) 0) fun q => match q with
    | .o t1 l1 n1 i1 => ln (t1.nth 1).els.length <| lpC (BCt R) (hid FU) (.m t1 (t1.nth 1) ((t1.nth 1).els.length : Nat) 0) fun q => match q with
      | .o t2 l2 n2 i2 => k 0
      | .r t2 l2 n2 i2 => k 101
    | .r t1 l1 n1 i1 => k 101
  else none else none
theorem ckG_law {v u : Int} {x y : V} (k : Int → Option R) (hx : (D.slice DIn).has x) (hy : (D.slice DOut).has y) (hv : inR .u32 v) (hu : inR .u32 u) (hg : txg [.l [.i v, x, y, .i u]] = true) : ckG v u x y k = k (chkS (.l [.i v, x, y, .i u])) := by
  obtain ⟨⟨g1, g2⟩, g3, g4⟩ := txg_good hx hy hg
  have hq := fq_big
  have hT : (txL (.l [.i v, x, y, .i u])).length ≤ 250000000 := by
    refine txL_len ⟨_, rfl, ⟨_, rfl, hv⟩, hx, hy, ⟨_, rfl, hu⟩, trivial⟩ hg
  have e : chkS (.l [.i v, x, y, .i u]) = (bif ilt (x.els.length : Nat) 1 then 101 else bif ilt (y.els.length : Nat) 1 then 101 else
    bif ilt 5000 ((txL (.l [.i v, x, y, .i u])).length : Nat) then 101 else bif !(ieq (sumS y.els 0).2 0) then (sumS y.els 0).2 else
    bif dupB [] x.els then 101 else bif x.els.any (badI (.l [.i v, x, y, .i u])) then 101 else 0) := rfl
  rw [e]
  unfold ckG
  rw [ln_in (by omega), ln_in (by omega), ln_in (by omega), hg, ln_in (by omega), show smg [y] = true from Nat.ble_eq_true_of_le g3, cond_true, cond_true]
  cases ilt (x.els.length : Nat) 1 with
  | true => rfl
  | false =>
  cases ilt (y.els.length : Nat) 1 with
  | true => rfl
  | false =>
  cases ilt 5000 ((txL (.l [.i v, x, y, .i u])).length : Nat) with
  | true => rfl
  | false =>
  cases (!(ieq (sumS y.els 0).2 0)) with
  | true => rfl
  | false =>
  simp only [cond_false]
  have n1 : (V.l [V.i v, x, y, V.i u]).nth 1 = x := rfl
  refine (co_law (t := .l [.i v, x, y, .i u]) (l := x) rfl (ko := bif x.els.any (badI (.l [.i v, x, y, .i u])) then k 101 else k 0) (kr := k 101) (fun n i => ?_) (fun n i => rfl) x.els [] (hid FU) rfl (by simp only [List.length_nil]; omega) (by omega)).trans ?_
  · simp only
    rw [n1, ln_in (by omega)]
    exact ckt_law (t := .l [.i v, x, y, .i u]) (l := x) g1 (fun n i => rfl) (fun n i => rfl) x.els [] (hid FU) rfl (fun z hz => (g2 z hz).1) (by simp only [List.length_nil]; omega) (by omega)
  · cases dupB [] x.els <;> cases x.els.any (badI (.l [.i v, x, y, .i u])) <;> rfl
def chr (it : Nat) : List V → List Rs
  | [t] => [.d it (.i (chkS t))]
  | _ => []
end Go.Vm


namespace Go.Vm
open Go.RowKit
variable {R : Type}
set_option linter.unusedVariables false
set_option linter.constructorNameAsVariable false
set_option linter.unusedSimpArgs false
/-! ### PurseSums -/
inductive PSu where
  | m (es : List (V × V)) (t : V) (l : V) (h : Int) (d : V) (n : Int) (i : Int)
inductive QSu where
  | o (es : List (V × V)) (t : V) (l : V) (h : Int) (d : V) (n : Int) (i : Int)
  | r (es : List (V × V)) (t : V) (l : V) (h : Int) (d : V) (n : Int) (i : Int)
def BSu (R : Type) (p : PSu) (K : PSu → Option R) (kx : QSu → Option R) : Option R :=
  match p with
  | .m es t l h d n i =>
    bif ilt i n then
      ck i ((l.els).length) <|
      bif veq (V.nth (V.nth (V.nth l i.toNat) 0) 0) d then
      kx (.r es t l h d n i)
      else
      K (.m es t l h d n (W64 (i + 1)))
      else
      kx (.o es t l h d n i)
theorem BSu_m {R : Type} (es : List (V × V)) (t : V) (l : V) (h : Int) (d : V) (n : Int) (i : Int) (K : PSu → Option R) (kx : QSu → Option R) : BSu R (.m es t l h d n i) K kx =
    bif ilt i n then
      ck i ((l.els).length) <|
      bif veq (V.nth (V.nth (V.nth l i.toNat) 0) 0) d then
      kx (.r es t l h d n i)
      else
      K (.m es t l h d n (W64 (i + 1)))
      else
      kx (.o es t l h d n i) := rfl
def hitD (d x : V) : Bool := veq ((x.nth 0).nth 0) d
theorem su_law {es : List (V × V)} {t l d : V} {h : Int} {ko kr : Option R} {kx : QSu → Option R} (h1 : ∀ n i, kx (.o es t l h d n i) = ko) (h2 : ∀ n i, kx (.r es t l h d n i) = kr) : ∀ (r a : List V) (fuel : Nat), l.els = a ++ r → a.length + r.length ≤ 100000 → r.length < fuel →
    lpC (BSu R) fuel (.m es t l h d (l.els.length : Nat) (a.length : Nat)) kx = bif r.any (hitD d) then kr else ko := by
  intro r
  induction r with
  | nil =>
    intro a fuel he ha hf
    obtain ⟨f, rfl⟩ : ∃ f, fuel = f + 1 := ⟨fuel - 1, by omega⟩
    rw [List.append_nil] at he
    rw [lpC, BSu_m, ix_f he, cond_false]; exact h1 _ _
  | cons x r ih =>
    intro a fuel he ha hf
    obtain ⟨f, rfl⟩ : ∃ f, fuel = f + 1 := ⟨fuel - 1, by simp at hf; omega⟩
    simp only [List.length_cons] at ha hf
    have hle : l.els.length = a.length + (r.length + 1) := by rw [he]; simp
    have hat : l.nth ((a.length : Nat) : Int).toNat = x := nth_at he
    have ih := ih (a ++ [x]) f (by rw [he]; simp)
    simp only [List.length_append, List.length_singleton] at ih
    rw [lpC, BSu_m, ix_t he, cond_true, ck_in (by omega) (by omega), hat, i_next (by omega), ih (by omega) (by omega)]
    simp only [List.any_cons, hitD]
    cases veq ((x.nth 0).nth 0) d with
    | true => simp only [cond_true, Bool.true_or]; exact h2 _ _
    | false => simp only [cond_false, Bool.false_or]
end Go.Vm


namespace Go.Vm
open Go.RowKit
set_option linter.unusedVariables false
set_option linter.constructorNameAsVariable false
set_option linter.unusedSimpArgs false

/-! ### Maps of data -/
def kN (es : List (V × V)) : Prop := (es.map (·.1)).Nodup
theorem hasV_iff {k : V} : ∀ {es : List (V × V)}, hasV k es = true ↔ k ∈ es.map (·.1) := by
  intro es
  induction es with
  | nil => simp [hasV]
  | cons p r ih =>
    simp only [hasV, Bool.or_eq_true, veq_iff, ih, List.map_cons, List.mem_cons]
    exact ⟨fun h => h.imp Eq.symm id, fun h => h.imp Eq.symm id⟩
theorem delV_not {k : V} : ∀ {es : List (V × V)}, hasV k es = false → delV k es = es := by
  intro es
  induction es with
  | nil => intro _; rfl
  | cons p r ih =>
    intro h
    simp only [hasV, Bool.or_eq_false_iff] at h
    simp only [delV, h.1, cond_false, ih h.2]
theorem delV_sub {k : V} : ∀ {es : List (V × V)}, (delV k es).Sublist es := by
  intro es
  induction es with
  | nil => exact .slnil
  | cons p r ih =>
    simp only [delV]
    cases veq p.1 k
    · exact ih.cons_cons p
    · exact ih.cons p
theorem kN_del {k : V} {es : List (V × V)} (h : kN es) : kN (delV k es) := h.sublist ((delV_sub).map _)
theorem not_del {k : V} : ∀ {es : List (V × V)}, hasV k (delV k es) = false := by
  intro es
  induction es with
  | nil => rfl
  | cons p r ih =>
    simp only [delV]
    cases hp : veq p.1 k with
    | true => exact ih
    | false => simp only [cond_false, hasV, hp, ih, Bool.or_self]
theorem kN_set {k x : V} {es : List (V × V)} (h : kN es) : kN (setV k x es) := by
  refine List.nodup_cons.2 ⟨fun hm => ?_, kN_del h⟩
  have := hasV_iff.2 hm
  rw [not_del] at this; cases this
theorem del_has {k : V} : ∀ {es : List (V × V)}, kN es → hasV k es = true → (delV k es).length + 1 = es.length ∧ sumE es = sumE (delV k es) + valC (getV k es) := by
  intro es
  induction es with
  | nil => intro _ h; cases h
  | cons p r ih =>
    intro hn h
    obtain ⟨h1, h2⟩ := List.nodup_cons.1 hn
    simp only [delV, getV]
    cases hp : veq p.1 k with
    | true =>
      have := (veq_iff _ _).1 hp
      subst this
      have hr : hasV p.1 r = false := by
        rw [← Bool.not_eq_true]; intro q; exact h1 (hasV_iff.1 q)
      simp only [cond_true, delV_not hr, sumE, List.length_cons, true_and]
      exact Int.add_comm _ _
    | false =>
      simp only [hasV, hp, Bool.false_or] at h
      obtain ⟨i1, i2⟩ := ih h2 h
      simp only [cond_false, sumE, List.length_cons]
      omega
theorem del_other {k j : V} (hj : j ≠ k) : ∀ {es : List (V × V)}, hasV j (delV k es) = hasV j es ∧ getV j (delV k es) = getV j es := by
  intro es
  induction es with
  | nil => exact ⟨rfl, rfl⟩
  | cons p r ih =>
    simp only [delV]
    cases hp : veq p.1 k with
    | true =>
      have := (veq_iff _ _).1 hp
      subst this
      have hn : veq p.1 j = false := by rw [← Bool.not_eq_true, veq_iff]; exact fun q => hj q.symm
      simp only [cond_true, hasV, getV, hn, Bool.false_or, cond_false]
      exact ih
    | false => simp only [cond_false, hasV, getV, ih.1, ih.2, and_self]
theorem new_facts : ∀ (r : List V) (es : List (V × V)), kN es → kN (newS r es) ∧ (newS r es).length ≤ es.length + r.length ∧ ∀ p ∈ newS r es, p ∈ es ∨ ∃ x ∈ r, p = (x.nth 0, x.nth 1) := by
  intro r
  induction r with
  | nil => intro es h; exact ⟨h, Nat.le_refl _, fun p hp => .inl hp⟩
  | cons x r ih =>
    intro es h
    obtain ⟨i1, i2, i3⟩ := ih (setV (x.nth 0) (x.nth 1) es) (kN_set h)
    have hl := (delV_sub (k := x.nth 0) (es := es)).length_le
    refine ⟨i1, ?_, fun p hp => ?_⟩
    · have : (setV (x.nth 0) (x.nth 1) es).length = (delV (x.nth 0) es).length + 1 := rfl
      simp only [List.length_cons]
      show (newS r (setV (x.nth 0) (x.nth 1) es)).length ≤ _
      omega
    · rcases i3 p hp with h1 | ⟨y, hy, rfl⟩
      · rcases List.mem_cons.1 h1 with rfl | h1
        · exact .inr ⟨x, by simp, rfl⟩
        · exact .inl (delV_sub.mem h1)
      · exact .inr ⟨y, by simp [hy], rfl⟩
theorem right_facts : ∀ (r : List V) (i : Nat) (s : Int), rightS r i s = true → (∀ x ∈ r, coinOkB (x.nth 1) = true) ∧ (i ≤ 31 → i + r.length ≤ 31) := by
  intro r
  induction r with
  | nil => intro i s _; exact ⟨fun x hx => (by cases hx), fun h => h⟩
  | cons x r ih =>
    intro i s h
    simp only [rightS] at h
    cases hc : decide (i ≤ 30) && coinOkB (x.nth 1) with
    | false => rw [hc] at h; cases h
    | true =>
      rw [hc] at h
      simp only [Bool.and_eq_true, decide_eq_true_eq] at hc
      obtain ⟨i1, i2⟩ := ih _ _ h
      refine ⟨fun y hy => ?_, fun _ => ?_⟩
      · rcases List.mem_cons.1 hy with rfl | hy
        · exact hc.2
        · exact i1 y hy
      · have := i2 (by omega)
        simp only [List.length_cons]; omega
theorem coinOk_facts {c : V} (h : coinOkB c = true) : 0 ≤ valC c ∧ valC c ≤ MM ∧ 0 ≤ hiC c ∧ hiC c ≤ 1000000000 ∧ (lockOf c).els.length ≤ 300 := by
  unfold coinOkB at h
  rw [decide_eq_true_eq] at h
  exact ⟨h.1, h.2.1, h.2.2.2.1, h.2.2.2.2, h.2.2.1⟩
theorem sumE_bound : ∀ {es : List (V × V)}, okM es → 0 ≤ sumE es ∧ sumE es ≤ es.length * MM := by
  intro es
  induction es with
  | nil => intro _; exact ⟨Int.le_refl _, by simp [sumE]⟩
  | cons p r ih =>
    intro h
    obtain ⟨h1, h2⟩ := ih (fun q hq => h q (by simp [hq]))
    obtain ⟨a, b, _⟩ := h p (by simp)
    simp only [sumE, List.length_cons, MM] at *
    omega
/-- Of some coins, by their references. -/
def sumR (es : List (V × V)) : List V → Int
  | [] => 0
  | x :: r => valC (getV (x.nth 0) es) + sumR es r
theorem fee_facts {es : List (V × V)} {h : Int} : ∀ (r : List V) (s : Int), (feeS es h r s).2 = 0 → s ≤ MM → (∀ x ∈ r, hasV (x.nth 0) es = true) ∧ (feeS es h r s).1 = s + sumR es r ∧ (feeS es h r s).1 ≤ MM := by
  intro r
  induction r with
  | nil => intro s _ hs; exact ⟨fun x hx => (by cases hx), by simp [feeS, sumR], hs⟩
  | cons x r ih =>
    intro s h2 hs
    simp only [feeS] at h2 ⊢
    cases hh : hasV (x.nth 0) es with
    | false => rw [hh] at h2; cases h2
    | true =>
      rw [hh] at h2
      simp only [cond_true] at h2 ⊢
      cases hb : ((getV (x.nth 0) es).nth 2).bl && decide (h - hiC (getV (x.nth 0) es) < 2) with
      | true => rw [hb] at h2; cases h2
      | false =>
        rw [hb] at h2
        simp only [cond_false] at h2 ⊢
        cases hc : decide (s + valC (getV (x.nth 0) es) ≤ MM) with
        | false => rw [hc] at h2; cases h2
        | true =>
          rw [hc] at h2
          simp only [cond_true] at h2 ⊢
          rw [decide_eq_true_eq] at hc
          obtain ⟨i1, i2, i3⟩ := ih _ h2 hc
          refine ⟨fun y hy => ?_, by rw [i2]; simp only [sumR]; omega, i3⟩
          rcases List.mem_cons.1 hy with rfl | hy
          · exact hh
          · exact i1 y hy
theorem dup_facts : ∀ (r pre : List V), dupB pre r = false → (∀ x ∈ r, ∀ y ∈ pre, x.nth 0 ≠ y.nth 0) ∧ (r.map (·.nth 0)).Nodup := by
  intro r
  induction r with
  | nil => intro pre _; exact ⟨fun x hx => (by cases hx), by simp⟩
  | cons x r ih =>
    intro pre h
    simp only [dupB, Bool.or_eq_false_iff] at h
    obtain ⟨h1, h2⟩ := h
    obtain ⟨i1, i2⟩ := ih _ h2
    refine ⟨fun y hy z hz => ?_, ?_⟩
    · rcases List.mem_cons.1 hy with rfl | hy
      · intro q
        have := List.any_eq_false.1 h1 z hz
        exact this (by rw [q]; exact veq_refl _)
      · exact i1 y hy z (by simp [hz])
    · rw [List.map_cons, List.nodup_cons]
      refine ⟨fun hm => ?_, i2⟩
      obtain ⟨y, hy, he⟩ := List.mem_map.1 hm
      exact i1 y hy x (by simp) he
theorem sumR_del {k : V} {es : List (V × V)} : ∀ (r : List V), (∀ x ∈ r, x.nth 0 ≠ k) → sumR (delV k es) r = sumR es r := by
  intro r
  induction r with
  | nil => intro _; rfl
  | cons x r ih => intro h; simp only [sumR]; rw [(del_other (h x (by simp))).2, ih (fun y hy => h y (by simp [hy]))]
theorem app_facts : ∀ (r : List V) (es : List (V × V)) (xs : List V), kN es → (∀ x ∈ r, hasV (x.nth 0) es = true) → (r.map (·.nth 0)).Nodup → ∀ es0 xs0, appI false r es xs = (es0, xs0) →
    kN es0 ∧ es0.length + r.length = es.length ∧ sumE es = sumE es0 + sumR es r ∧ es0.Sublist es ∧ xs0.length = xs.length + r.length := by
  intro r
  induction r with
  | nil =>
    intro es xs hn _ _ es0 xs0 h
    cases h
    exact ⟨hn, rfl, by simp [sumR], List.Sublist.refl _, rfl⟩
  | cons x r ih =>
    intro es xs hn hh hd es0 xs0 h
    simp only [appI, hh x (by simp), Bool.not_false, Bool.and_self, cond_true] at h
    rw [List.map_cons, List.nodup_cons] at hd
    have hne : ∀ y ∈ r, y.nth 0 ≠ x.nth 0 := fun y hy q => hd.1 (List.mem_map.2 ⟨y, hy, q⟩)
    obtain ⟨i1, i2, i3, i4, i5⟩ := ih (delV (x.nth 0) es) _ (kN_del hn) (fun y hy => by rw [(del_other (hne y hy)).1]; exact hh y (by simp [hy])) hd.2 es0 xs0 h
    obtain ⟨d1, d2⟩ := del_has hn (hh x (by simp))
    rw [sumR_del r hne] at i3
    refine ⟨i1, by simp only [List.length_cons]; omega, by simp only [sumR]; omega, i4.trans delV_sub, by rw [i5]; simp only [List.length_append, List.length_cons, List.length_nil]; omega⟩
def sumO : List V → Int
  | [] => 0
  | o :: r => (o.nth 0).int + sumO r
theorem sumS_facts : ∀ (r : List V) (s : Int), (sumS r s).2 = 0 → 0 ≤ s → s ≤ MM → (sumS r s).1 = s + sumO r ∧ 0 ≤ (sumS r s).1 ∧ (sumS r s).1 ≤ MM := by
  intro r
  induction r with
  | nil => intro s _ h0 h1; exact ⟨by simp [sumS, sumO], h0, h1⟩
  | cons x r ih =>
    intro s h h0 h1
    simp only [sumS] at h ⊢
    by_cases hc : 0 ≤ (x.nth 0).int ∧ (x.nth 0).int ≤ MM ∧ s + (x.nth 0).int ≤ MM
    · rw [if_pos hc] at h ⊢
      obtain ⟨i1, i2, i3⟩ := ih _ h (by omega) hc.2.2
      exact ⟨by rw [i1]; simp only [sumO]; omega, i2, i3⟩
    · rw [if_neg hc] at h; cases h
theorem wrap_u32 {i : Nat} (h : i < 4294967296) : IntKind.wrap .u32 (i : Int) = i := by
  simp [IntKind.wrap, IntKind.bits, IntKind.signed]; omega
theorem out_facts {d : V} {h : Int} {b : Bool} : ∀ (r : List V) (i : Nat) (es : List (V × V)), kN es → i + r.length < 4294967296 → (∀ p ∈ es, p.1.nth 0 ≠ d ∨ ∃ j, j < i ∧ p.1 = outR d (j : Nat)) →
    (appO d h b r i es).length = es.length + r.length ∧ sumE (appO d h b r i es) = sumE es + sumO r := by
  intro r
  induction r with
  | nil => intro i es hn _ _; exact ⟨rfl, by simp [appO, sumO]⟩
  | cons o r ih =>
    intro i es hn hi hk
    simp only [List.length_cons] at hi
    have hnot : hasV (outR d (i : Nat)) es = false := by
      rw [← Bool.not_eq_true]; intro q
      obtain ⟨p, hp, he⟩ := List.mem_map.1 (hasV_iff.1 q)
      rcases hk p hp with h1 | ⟨j, hj, h1⟩
      · exact h1 (by rw [he]; rfl)
      · rw [h1] at he
        unfold outR at he
        injection he with he
        injection he with _ he
        injection he with he
        injection he with he
        rw [wrap_u32 (by omega), wrap_u32 (by omega)] at he
        omega
    have hset : setV (outR d (i : Nat)) (outC h b o) es = (outR d (i : Nat), outC h b o) :: es := by
      show _ :: delV _ es = _
      rw [delV_not hnot]
    obtain ⟨i1, i2⟩ := ih (i + 1) (setV (outR d (i : Nat)) (outC h b o) es) (kN_set hn) (by omega) (fun p hp => by
      rw [hset] at hp
      rcases List.mem_cons.1 hp with rfl | hp
      · exact .inr ⟨i, by omega, rfl⟩
      · rcases hk p hp with h1 | ⟨j, hj, h1⟩
        · exact .inl h1
        · exact .inr ⟨j, by omega, h1⟩)
    simp only [appO]
    rw [i1, i2, hset]
    refine ⟨by simp only [List.length_cons]; omega, ?_⟩
    have : valC (outC h b o) = (o.nth 0).int := rfl
    simp only [sumE, sumO, this]; omega
end Go.Vm


namespace Go.Vm
open Go.RowKit
set_option linter.unusedVariables false
set_option linter.constructorNameAsVariable false
set_option linter.unusedSimpArgs false

/-! ### PurseSums, told -/
def suE (es2 es3 : List (V × V)) : Option Unit := bif ieq (W64 (sumE es3)) (W64 (sumE es2)) then ln es3.length <| bif ieq (es3.length : Nat) (es2.length : Nat) then some () else none else none
noncomputable def suA (b : Bool) (es2 es3 : List (V × V)) (t2 : V) (h2 s3 so : Int) : Option Unit :=
  ln (t2.nth 1).els.length <| lpC (BAi Unit) (hid FU) (.m es3 t2 (t2.nth 1) h2 b [] true ((t2.nth 1).els.length : Nat) 0) fun q => match q with
    | .o es4 t4 l4 h4 b4 xs4 nl4 n4 i4 =>
      bif txg [t4] then ln (t4.nth 2).els.length <| lpC (BAo Unit) (hid FU) (.m es4 h4 b4 xs4 nl4 (shaB (shaN (bytesN (.l (txL t4))))) (t4.nth 2) ((t4.nth 2).els.length : Nat) 0) fun q => match q with
        | .o es5 h5 b5 xs5 nl5 d5 l5 n5 i5 =>
          bif ieq (W64 (sumE es5)) (W64 (W64 (sumE es2) - W64 (s3 - so))) then ln es5.length <| ln (t2.nth 1).els.length <| ln (t2.nth 2).els.length <|
            bif ieq (es5.length : Nat) (W64 (W64 ((es2.length : Nat) - ((t2.nth 1).els.length : Nat)) + ((t2.nth 2).els.length : Nat))) then
              bif ile 0 (W64 (s3 - so)) then some () else none else none else none
      else none
noncomputable def suF (es2 : List (V × V)) (t2 : V) (h2 : Int) : Option Unit :=
  ln es2.length <| ln (t2.nth 1).els.length <| lpC (BFe Unit) (hid FU) (.m es2 t2 (t2.nth 1) h2 0 ((t2.nth 1).els.length : Nat) 0) (feQ (fun es3 t3 s3 =>
    bif smg [t3.nth 2] then bif !(ieq (sumS (t3.nth 2).els 0).2 0) then suE es2 es3 else
      bif ilt s3 (sumS (t3.nth 2).els 0).1 then suE es2 es3 else
        bif bsg [t2] then bif baseB t2 then suA true es2 es3 t2 h2 s3 (sumS (t3.nth 2).els 0).1 else suA false es2 es3 t2 h2 s3 (sumS (t3.nth 2).els 0).1 else none else none) (fun es3 _ => suE es2 es3))
noncomputable def suG (v u h : Int) (x y l : V) : Option Unit :=
  bif rgg [l] then bif rightS l.els 0 0 then bif gtg [.l [.i v, x, y, .i u]] then bif greatS (.l [.i v, x, y, .i u]) then some () else
    bif ilt h 0 then some () else bif ilt 1000000000 h then some () else
    bif txg [.l [.i v, x, y, .i u]] then bif !(ieq (chkS (.l [.i v, x, y, .i u])) 0) then some () else
    bif bsg [.l [.i v, x, y, .i u]] then bif baseB (.l [.i v, x, y, .i u]) then some () else
    ln l.els.length <| lpC (BNw Unit) (hid FU) (.m l [] (l.els.length : Nat) 0) fun q => match q with
      | .o l1 es1 n1 i1 => bif txg [.l [.i v, x, y, .i u]] then ln l.els.length <|
          lpC (BSu Unit) (hid FU) (.m es1 (.l [.i v, x, y, .i u]) l h (shaB (shaN (bytesN (.l (txL (.l [.i v, x, y, .i u])))))) (l.els.length : Nat) 0) fun q => match q with
            | .o es2 t2 l2 h2 d2 n2 i2 => suF es2 t2 h2
            | .r es2 t2 l2 h2 d2 n2 i2 => some ()
        else none
    else none else none else none else some () else none
theorem suE_ok {es : List (V × V)} (h : es.length ≤ 1000) : suE es es = some () := by
  unfold suE
  rw [ln_in (by omega), ieq_iff.2 rfl, ieq_iff.2 rfl]; rfl
theorem suA_ok {es : List (V × V)} {v u h s so : Int} {x y : V} (hx : (D.slice DIn).has x) (hy : (D.slice DOut).has y) (hn : kN es) (hok : okM es) (hl : es.length ≤ 31) (hg : txg [.l [.i v, x, y, .i u]] = true) (hle : x.els.length ≤ 12 ∧ y.els.length ≤ 12) (hlk : ∀ o ∈ y.els, (o.nth 1).els.length ≤ 300)
    (h1 : ∀ z ∈ x.els, hasV (z.nth 0) es = true) (h2 : (x.els.map (·.nth 0)).Nodup) (hs : s = sumR es x.els) (hs1 : s ≤ MM) (hso : so = sumO y.els) (hs2 : 0 ≤ so) (hs3 : so ≤ s)
    (hd : ∀ p ∈ es, p.1.nth 0 ≠ shaB (shaN (bytesN (.l (txL (.l [.i v, x, y, .i u])))))) : suA false es es (.l [.i v, x, y, .i u]) h s so = some () := by
  have n1 : (V.l [V.i v, x, y, V.i u]).nth 1 = x := rfl
  have n2 : (V.l [V.i v, x, y, V.i u]).nth 2 = y := rfl
  have hq := fq_big
  obtain ⟨es0, xs0, hap⟩ : ∃ es0 xs0, appI false x.els es [] = (es0, xs0) := ⟨_, _, rfl⟩
  obtain ⟨k1, k2, k3, k4, k5⟩ := app_facts x.els es [] hn h1 h2 es0 xs0 hap
  obtain ⟨b1, b2⟩ := sumE_bound hok
  have hok0 : okM es0 := fun p hp => hok p (k4.mem hp)
  obtain ⟨b3, b4⟩ := sumE_bound hok0
  unfold suA
  rw [n1, n2, ln_in (by omega)]
  refine ai_law (t := .l [.i v, x, y, .i u]) (l := x) (es0 := es0) (xs0 := xs0) (fun nl n i => ?_) x.els [] es [] true (hid FU) hap hok rfl (by simp; omega) (by simp; omega) (by omega)
  simp only
  rw [hg, cond_true, n2, ln_in (by omega)]
  generalize hdd : shaB (shaN (bytesN (.l (txL (.l [.i v, x, y, .i u]))))) = d at hd
  refine (ao_law (d := d) (l := y) (h := h) (b := false) (xs := xs0) (nl := nl) _ y.els [] es0 (hid FU) rfl (fun o ho => by have := hlk o ho; omega) (by simp only [List.length_nil]; omega) (by omega)).trans ?_
  obtain ⟨o1, o2⟩ := out_facts (d := d) (h := h) (b := false) y.els 0 es0 k1 (by omega) (fun p hp => .inl (hd p (k4.mem hp)))
  simp only [List.length_nil]
  rw [o1, o2]
  simp only [MM] at *
  rw [w64_in (n := s - so) (by omega) (by omega), w64_in (n := sumE es) (by omega) (by omega), w64_in (n := sumE es0 + sumO y.els) (by omega) (by omega), w64_in (n := sumE es - (s - so)) (by omega) (by omega),
    ieq_iff.2 (show sumE es0 + sumO y.els = sumE es - (s - so) by omega), cond_true, ln_in (by omega), ln_in (by omega), ln_in (by omega), w64_in (n := ((es.length : Nat) : Int) - (x.els.length : Nat)) (by omega) (by omega),
    w64_in (n := ((es.length : Nat) : Int) - (x.els.length : Nat) + (y.els.length : Nat)) (by omega) (by omega), ieq_iff.2 (show (((es0.length + y.els.length : Nat) : Nat) : Int) = ((es.length : Nat) : Int) - (x.els.length : Nat) + (y.els.length : Nat) by omega), cond_true, ile_iff.2 (by omega)]
  rfl
theorem su_sm {l t h : V} (hl : (D.slice DSpent).has l) (ht : DTx.has t) (hm : D.smL [.slice DSpent, DTx, .int .i64] [l, t, h]) : rgg [l] = true ∧ gtg [t] = true := by
  obtain ⟨m1, m2, _⟩ := hm
  constructor
  · show (Nat.ble l.els.length 9223372036854775807 && l.els.all fun x => Nat.ble (lockOf (x.nth 1)).els.length 9223372036854775807) = true
    simp only [Bool.and_eq_true, Nat.ble_eq, List.all_eq_true]
    refine ⟨m1.1, fun x hx => ?_⟩
    have hs := m1.2 x hx
    obtain ⟨r0, c, rfl, _, hc⟩ := spent_v (slice_els hl x hx)
    obtain ⟨v, kk, hh, q, rfl, _⟩ := coin_vs hc
    exact hs.2.1.1.2.1.1
  · obtain ⟨v, a, b, u, rfl, _, ha, hb, _⟩ := tx_v ht
    show ((Nat.ble a.els.length 9223372036854775807 && a.els.all fun x => Nat.ble (x.nth 1).els.length 9223372036854775807) && (Nat.ble b.els.length 9223372036854775807 && b.els.all fun x => Nat.ble (x.nth 1).els.length 9223372036854775807)) = true
    simp only [Bool.and_eq_true, Nat.ble_eq, List.all_eq_true]
    refine ⟨⟨m2.2.1.1, fun x hx => ?_⟩, m2.2.2.1.1, fun x hx => ?_⟩
    · have hs := m2.2.1.2 x hx
      obtain ⟨r, bb, n, rfl, _⟩ := in_v (slice_els ha x hx)
      exact hs.2.1.1
    · have hs := m2.2.2.1.2 x hx
      obtain ⟨w, kk, rfl, _⟩ := out_v (slice_els hb x hx)
      exact hs.2.1.1
theorem great_facts {v u : Int} {x y : V} (h : greatS (.l [.i v, x, y, .i u]) = false) : (x.els.length ≤ 12 ∧ y.els.length ≤ 12) ∧ (∀ z ∈ x.els, (z.nth 1).els.length ≤ 300) ∧ ∀ o ∈ y.els, (o.nth 1).els.length ≤ 300 := by
  have h : (decide (12 < x.els.length) || decide (12 < y.els.length) || x.els.any longB || y.els.any longB) = false := h
  simp only [Bool.or_eq_false_iff, decide_eq_false_iff_not] at h
  obtain ⟨⟨⟨h1, h2⟩, h3⟩, h4⟩ := h
  refine ⟨⟨by omega, by omega⟩, fun z hz => ?_, fun o ho => ?_⟩
  · have := List.any_eq_false.1 h3 z hz
    unfold longB at this
    simp only [decide_eq_true_eq] at this; omega
  · have := List.any_eq_false.1 h4 o ho
    unfold longB at this
    simp only [decide_eq_true_eq] at this; omega
theorem suG_law {v u h : Int} {x y l : V} (hl : (D.slice DSpent).has l) (hx : (D.slice DIn).has x) (hy : (D.slice DOut).has y) (hv : inR .u32 v) (hu : inR .u32 u) (hm : D.smL [.slice DSpent, DTx, .int .i64] [l, .l [.i v, x, y, .i u], .i h]) : suG v u h x y l = some () := by
  have hT : DTx.has (.l [.i v, x, y, .i u]) := ⟨_, rfl, ⟨_, rfl, hv⟩, hx, hy, ⟨_, rfl, hu⟩, trivial⟩
  obtain ⟨g1, g2⟩ := su_sm hl hT hm
  have hq := fq_big
  unfold suG
  rw [g1, g2]
  cases hr : rightS l.els 0 0 with
  | false => rfl
  | true =>
  cases hgr : greatS (.l [.i v, x, y, .i u]) with
  | true => rfl
  | false =>
  cases hh0 : ilt h 0 with
  | true => rfl
  | false =>
  cases hh1 : ilt 1000000000 h with
  | true => rfl
  | false =>
  have h0 : 0 ≤ h := by rw [ilt_d, decide_eq_false_iff_not] at hh0; omega
  have h1 : h ≤ 1000000000 := by rw [ilt_d, decide_eq_false_iff_not] at hh1; omega
  obtain ⟨q1, q2, q3⟩ := great_facts hgr
  have g3 : txg [.l [.i v, x, y, .i u]] = true := by
    show ((Nat.ble x.els.length 1000 && x.els.all fun z => Nat.ble (z.nth 1).els.length 100000) && (Nat.ble y.els.length 1000 && y.els.all fun z => Nat.ble (z.nth 1).els.length 100000)) = true
    simp only [Bool.and_eq_true, Nat.ble_eq, List.all_eq_true]
    exact ⟨⟨by omega, fun z hz => by have := q2 z hz; omega⟩, by omega, fun z hz => by have := q3 z hz; omega⟩
  have g4 : bsg [.l [.i v, x, y, .i u]] = true := Nat.ble_eq_true_of_le (show x.els.length ≤ 1000 by omega)
  rw [g3, g4]
  simp only [cond_true, cond_false]
  cases hck : ieq (chkS (.l [.i v, x, y, .i u])) 0 with
  | false => rfl
  | true =>
  cases hba : baseB (.l [.i v, x, y, .i u]) with
  | true => rfl
  | false =>
  simp only [Bool.not_true, cond_false]
  obtain ⟨r1, r2⟩ := right_facts _ _ _ hr
  have r2 := r2 (by omega)
  rw [ln_in (by omega)]
  refine (nw_law _ l.els [] [] (hid FU) rfl (fun z hz => by have := (coinOk_facts (r1 z hz)).2.2.2.2; omega) (by simp only [List.length_nil]; omega) (by omega)).trans ?_
  obtain ⟨f1, f2, f3⟩ := new_facts l.els [] List.nodup_nil
  simp only [List.length_nil] at f2
  have hok : okM (newS l.els []) := fun p hp => by
    rcases f3 p hp with hp | ⟨z, hz, rfl⟩
    · cases hp
    · exact coinOk_facts (r1 z hz)
  simp only
  rw [ln_in (by omega)]
  generalize hes : newS l.els [] = es at f1 f2 f3 hok
  refine (su_law (es := es) (t := .l [.i v, x, y, .i u]) (l := l) (h := h) (ko := suF es (.l [.i v, x, y, .i u]) h) (kr := some ()) (fun _ _ => rfl) (fun _ _ => rfl) l.els [] (hid FU) rfl (by simp only [List.length_nil]; omega) (by omega)).trans ?_
  cases hany : l.els.any (hitD (shaB (shaN (bytesN (.l (txL (.l [.i v, x, y, .i u]))))))) with
  | true => rfl
  | false =>
  rw [cond_false]
  unfold suF
  have n1 : (V.l [V.i v, x, y, V.i u]).nth 1 = x := rfl
  have n2 : (V.l [V.i v, x, y, V.i u]).nth 2 = y := rfl
  rw [n1, ln_in (by omega), ln_in (by omega)]
  refine (fe_law hok h0 h1 _ _ x.els [] 0 (hid FU) rfl (Int.le_refl _) (by decide) (by simp only [List.length_nil]; omega) (by omega)).trans ?_
  cases hfe : ieq (feeS es h x.els 0).2 0 with
  | false => exact suE_ok (by omega)
  | true =>
  rw [cond_true, n2, show smg [y] = true from Nat.ble_eq_true_of_le (by omega), cond_true]
  cases hsm : ieq (sumS y.els 0).2 0 with
  | false => exact suE_ok (by omega)
  | true =>
  rw [Bool.not_true, cond_false]
  cases hlt : ilt (feeS es h x.els 0).1 (sumS y.els 0).1 with
  | true => exact suE_ok (by omega)
  | false =>
  rw [cond_false, g4, cond_true, hba, cond_false]
  obtain ⟨e1, e2, e3⟩ := fee_facts x.els 0 (ieq_iff.1 hfe) (by decide)
  obtain ⟨s1, s2, s3⟩ := sumS_facts y.els 0 (ieq_iff.1 hsm) (Int.le_refl _) (by decide)
  -- no reference twice
  have hdup : dupB [] x.els = false := by
    have hck := ieq_iff.1 hck
    have e : chkS (.l [.i v, x, y, .i u]) = (bif ilt (x.els.length : Nat) 1 then 101 else bif ilt (y.els.length : Nat) 1 then 101 else
      bif ilt 5000 ((txL (.l [.i v, x, y, .i u])).length : Nat) then 101 else bif !(ieq (sumS y.els 0).2 0) then (sumS y.els 0).2 else
      bif dupB [] x.els then 101 else bif x.els.any (badI (.l [.i v, x, y, .i u])) then 101 else 0) := rfl
    rw [e, hsm] at hck
    cases hd : dupB [] x.els with
    | false => rfl
    | true =>
      rw [hd] at hck
      exfalso
      revert hck
      cases ilt (x.els.length : Nat) 1 <;> cases ilt (y.els.length : Nat) 1 <;> cases ilt 5000 ((txL (.l [.i v, x, y, .i u])).length : Nat) <;> simp
  have hnd := (dup_facts _ _ hdup).2
  rw [ilt_d, decide_eq_false_iff_not] at hlt
  refine suA_ok hx hy f1 hok (by omega) g3 q1 q3 e1 hnd (by rw [e2]; omega) e3 (by rw [s1]; omega) s2 (by omega) (fun p hp q => ?_)
  rcases f3 p hp with hp | ⟨z, hz, rfl⟩
  · cases hp
  · have := List.any_eq_false.1 hany z hz
    exact this (by unfold hitD; rw [← q]; exact veq_refl _)
end Go.Vm

end
