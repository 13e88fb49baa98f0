/- What the operations of a program do, shown once for all programs; and numbers. -/
import Derived.Test.YtckicmpddhjliaaGreatVm10
set_option linter.constructorNameAsVariable false
set_option linter.unusedVariables false
set_option linter.unusedSimpArgs false
noncomputable section
namespace Go.Vm
open Go.RowKit
variable {R : Type}
set_option linter.unusedVariables false

/-! ### Loops of data, with so much fuel -/
/-- What is there is there still. -/
def Lee (x y : Option R) : Prop := ∀ r, x = some r → y = some r
theorem Lee.rfl' (x : Option R) : Lee x x := fun _ h => h
theorem lee_if {c : Bool} {a b a' b' : Option R} (h1 : Lee a a') (h2 : Lee b b') : Lee (bif c then a else b) (bif c then a' else b') := by
  cases c
  · exact h2
  · exact h1
theorem lee_ln {n : Nat} {a a' : Option R} (h : Lee a a') : Lee (ln n a) (ln n a') := lee_if h (Lee.rfl' _)
theorem lee_lim {n : Nat} {a a' : Option R} (h : Lee a a') : Lee (lim n a) (lim n a') := lee_if h (Lee.rfl' _)
theorem lee_ck {i : Int} {n : Nat} {a a' : Option R} (h : Lee a a') : Lee (ck i n a) (ck i n a') := lee_if h (Lee.rfl' _)
theorem lpC_mono {p q : Type} {B : p → (p → Option R) → (q → Option R) → Option R} (hB : ∀ x K K' kx, (∀ y, Lee (K y) (K' y)) → Lee (B x K kx) (B x K' kx)) : ∀ (n m : Nat) (x : p) (kx : q → Option R), n ≤ m → Lee (lpC B n x kx) (lpC B m x kx) := by
  intro n
  induction n with
  | zero => intro m x kx _ r h; cases h
  | succ n ih =>
    intro m x kx hm
    cases m with
    | zero => omega
    | succ m => exact hB x _ _ kx (fun y => ih m y kx (by omega))
theorem ob_ln {S : Type} {n : Nat} {a : Option S} {k : S → Option R} : ob (ln n a) k = ln n (ob a k) := by unfold ln; cases Nat.ble n 9223372036854775807 <;> rfl
theorem ob_lim {S : Type} {n : Nat} {a : Option S} {k : S → Option R} : ob (lim n a) k = lim n (ob a k) := by unfold lim; cases Nat.ble n LIM <;> rfl
theorem ob_ck {S : Type} {i : Int} {n : Nat} {a : Option S} {k : S → Option R} : ob (ck i n a) k = ck i n (ob a k) := by unfold ck; cases (ile 0 i && ilt i n) <;> rfl
theorem ob_bif {S : Type} {c : Bool} {a b : Option S} {k : S → Option R} : ob (bif c then a else b) k = bif c then ob a k else ob b k := by cases c <;> rfl
theorem ob_none' {S : Type} {k : S → Option R} : ob (none : Option S) k = none := rfl
theorem lpC_nat {p q S : Type} {B : (R : Type) → p → (p → Option R) → (q → Option R) → Option R} (hB : ∀ (R S : Type) (k : S → Option R) (x : p) (K : p → Option S) (kx : q → Option S), ob (B S x K kx) k = B R x (fun y => ob (K y) k) (fun z => ob (kx z) k)) (k : S → Option R) : ∀ (n : Nat) (x : p) (kx : q → Option S), ob (lpC (B S) n x kx) k = lpC (B R) n x (fun z => ob (kx z) k) := by
  intro n
  induction n with
  | zero => intro x kx; rfl
  | succ n ih =>
    intro x kx
    show ob (B S x (fun x' => lpC (B S) n x' kx) kx) k = B R x (fun x' => lpC (B R) n x' (fun z => ob (kx z) k)) (fun z => ob (kx z) k)
    rw [hB R S]
    congr 1
    funext y
    exact ih y kx
abbrev FQ : Nat := 5000
theorem fq_le : FQ ≤ hid FU := by rw [hid_eq]; decide

/-! ### The document's sum and comparison of digits -/
inductive PAd where
  | m (a b : V) (xs : List V) (c i : Int)
inductive QAd where
  | o (a b : V) (xs : List V) (c i : Int)
def ad3 {R : Type} (a b : V) (xs : List V) (i : Int) (K : PAd → Option R) (c : Int) : Option R :=
  lim (xs.length + 1) <| K (.m a b (xs ++ [.i (c.tmod 65536)]) (WU (c.tdiv 65536)) (W64 (i + 1)))
def ad2 {R : Type} (a b : V) (xs : List V) (i : Int) (K : PAd → Option R) (c : Int) : Option R :=
  ln b.els.length <| bif ilt i b.els.length then ck i b.els.length (ad3 a b xs i K (WU (c + elV b i))) else ad3 a b xs i K c
def ad1 {R : Type} (a b : V) (xs : List V) (i : Int) (K : PAd → Option R) (c : Int) : Option R :=
  ln a.els.length <| bif ilt i a.els.length then ck i a.els.length (ad2 a b xs i K (WU (c + elV a i))) else ad2 a b xs i K c
def BAd (R : Type) (p : PAd) (K : PAd → Option R) (kx : QAd → Option R) : Option R :=
  match p with
  | .m a b xs c i =>
    ln a.els.length <| bif ilt i a.els.length then ad1 a b xs i K c else
      ln b.els.length <| bif ilt i b.els.length then ad1 a b xs i K c else
        bif ilt 0 c then ad1 a b xs i K c else kx (.o a b xs c i)
theorem BAd_mono (x : PAd) (K K' : PAd → Option R) (kx : QAd → Option R) (h : ∀ y, Lee (K y) (K' y)) : Lee (BAd R x K kx) (BAd R x K' kx) := by
  obtain ⟨a, b, xs, c, i⟩ := x
  have h3 : ∀ c, Lee (ad3 a b xs i K c) (ad3 a b xs i K' c) := fun c => lee_lim (h _)
  have h2 : ∀ c, Lee (ad2 a b xs i K c) (ad2 a b xs i K' c) := fun c => lee_ln (lee_if (lee_ck (h3 _)) (h3 _))
  have h1 : ∀ c, Lee (ad1 a b xs i K c) (ad1 a b xs i K' c) := fun c => lee_ln (lee_if (lee_ck (h2 _)) (h2 _))
  exact lee_ln (lee_if (h1 _) (lee_ln (lee_if (h1 _) (lee_if (h1 _) (Lee.rfl' _)))))
theorem BAd_nat (R S : Type) (k : S → Option R) (x : PAd) (K : PAd → Option S) (kx : QAd → Option S) : ob (BAd S x K kx) k = BAd R x (fun y => ob (K y) k) (fun z => ob (kx z) k) := by
  obtain ⟨a, b, xs, c, i⟩ := x
  simp only [BAd, ad1, ad2, ad3, ob_bif, ob_none']
inductive PCp where
  | m (a b : V) (r i : Int)
inductive QCp where
  | r (a b : V) (r i : Int)
  | o (a b : V) (r i : Int)
/-- A digit, or none. -/
def dgC {R : Type} (a : V) (i : Int) (k : Int → Option R) : Option R := ln a.els.length <| bif ilt i a.els.length then ck i a.els.length (k (elV a i)) else k 0
def BCp (R : Type) (p : PCp) (K : PCp → Option R) (kx : QCp → Option R) : Option R :=
  match p with
  | .m a b r i => bif ile 0 i then
      (dgC a i fun p => dgC b i fun q => bif ilt p q then kx (.r a b (-1) i) else
        dgC a i fun p => dgC b i fun q => bif ilt q p then kx (.r a b 1 i) else K (.m a b r (W64 (i - 1))))
    else kx (.o a b r i)
theorem lee_dg {a : V} {i : Int} {k k' : Int → Option R} (h : ∀ c, Lee (k c) (k' c)) : Lee (dgC a i k) (dgC a i k') := lee_ln (lee_if (lee_ck (h _)) (h _))
theorem BCp_mono (x : PCp) (K K' : PCp → Option R) (kx : QCp → Option R) (h : ∀ y, Lee (K y) (K' y)) : Lee (BCp R x K kx) (BCp R x K' kx) := by
  obtain ⟨a, b, r, i⟩ := x
  exact lee_if (lee_dg fun p => lee_dg fun q => lee_if (Lee.rfl' _) (lee_dg fun p => lee_dg fun q => lee_if (Lee.rfl' _) (h _))) (Lee.rfl' _)
theorem BCp_nat (R S : Type) (k : S → Option R) (x : PCp) (K : PCp → Option S) (kx : QCp → Option S) : ob (BCp S x K kx) k = BCp R x (fun y => ob (K y) k) (fun z => ob (kx z) k) := by
  obtain ⟨a, b, r, i⟩ := x
  simp only [BCp, dgC, ob_bif, ob_none']
def adK {R : Type} (el : Nat) (k : List Rs → Option R) : QAd → Option R
  | .o _ _ xs _ _ => k [.r el xs false]
theorem adK_nat (el : Nat) (k : List Rs → Option R) : (fun z => ob (adK el some z) k) = adK el k := by
  funext z; cases z; rfl
noncomputable def Gad (el : Nat) : FC := fun R xs k => match xs with
  | [a, b] => lpC (BAd R) (hid FU) (.m a b [] 0 0) (adK el k)
  | _ => none
def Fad (el : Nat) : FC := fun R xs k => match xs with
  | [a, b] => lpC (BAd R) FQ (.m a b [] 0 0) (adK el k)
  | _ => none
theorem Fad_nat (el : Nat) : FC.nat (Fad el) := by
  intro R xs k
  unfold Fad
  split
  · rw [lpC_nat BAd_nat, adK_nat]
  · rfl
theorem ad_law (el : Nat) {xs : List V} {rs : List Rs} (h : Fad el (List Rs) xs some = some rs) : Gad el (List Rs) xs some = some rs := by
  unfold Fad at h
  split at h
  · exact lpC_mono BAd_mono FQ (hid FU) _ _ fq_le _ h
  · cases h
def cpI (a b : V) : Int := W64 ((bif (ilt (a.els.length : Nat) (b.els.length : Nat)) then (b.els.length : Nat) else (a.els.length : Nat) : Int) - 1)
def cpK {R : Type} (t : Nat) (k : List Rs → Option R) : QCp → Option R
  | .r _ _ r _ => k [.d t (.i r)]
  | .o _ _ _ _ => k [.d t (.i 0)]
theorem cpK_nat (t : Nat) (k : List Rs → Option R) : (fun z => ob (cpK t some z) k) = cpK t k := by
  funext z; cases z <;> rfl
noncomputable def Gcp (t : Nat) : FC := fun R xs k => match xs with
  | [a, b] => ln a.els.length <| ln b.els.length <| lpC (BCp R) (hid FU) (.m a b 0 (cpI a b)) (cpK t k)
  | _ => none
def Fcp (t : Nat) : FC := fun R xs k => match xs with
  | [a, b] => ln a.els.length <| ln b.els.length <| lpC (BCp R) FQ (.m a b 0 (cpI a b)) (cpK t k)
  | _ => none
theorem Fcp_nat (t : Nat) : FC.nat (Fcp t) := by
  intro R xs k
  unfold Fcp
  split
  · rw [ob_ln, ob_ln, lpC_nat BCp_nat, cpK_nat]
  · rfl
theorem cp_law (t : Nat) {xs : List V} {rs : List Rs} (h : Fcp t (List Rs) xs some = some rs) : Gcp t (List Rs) xs some = some rs := by
  unfold Fcp at h
  split at h
  · exact lee_ln (lee_ln (lpC_mono BCp_mono FQ (hid FU) _ _ fq_le)) _ h
  · cases h
end Go.Vm
end
