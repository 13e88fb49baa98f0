/- What the operations of a program do, shown once for all programs; and numbers. -/
import Derived.Test.YtkaobamodajniaaGreatVm12
set_option linter.constructorNameAsVariable false
set_option linter.unusedVariables false
set_option linter.unusedSimpArgs false
noncomputable section
namespace Go.Vm
open Go.RowKit
set_option linter.unusedVariables false
set_option linter.constructorNameAsVariable false

/-! ### What was spent, as bytes -/
def spentL (s : V) : List V := refB (s.nth 0) ++ txtL (coinL (s.nth 1))
def spentsL (l : List V) : List V := (l.map spentL).flatten
def rowL (l : V) : List V := cntL (l.els.length : Nat) ++ spentsL l.els
def undoL (l : List V) : List V := (l.map rowL).flatten
inductive PWi where
  | m (bs xs : List V) (n i : Int) (l : V) (n2 i2 : Int)
inductive QWi where
  | o (bs xs : List V) (n i : Int) (l : V) (n2 i2 : Int)
abbrev PDi := PWi
abbrev QDi := QWi
def BWi (R : Type) (p : PWi) (K : PWi → Option R) (kx : QWi → Option R) : Option R :=
  match p with
  | .m bs xs n i l n2 i2 =>
    bif ilt i2 n2 then ck i2 l.els.length <| lim (bs.length + (refB ((l.nth i2.toNat).nth 0)).length) <|
      bif coing [(l.nth i2.toNat).nth 1] then
      bif wTxtg [.l (bs ++ refB ((l.nth i2.toNat).nth 0)), .l [.l (coinL ((l.nth i2.toNat).nth 1))]] then
      K (.m (bs ++ refB ((l.nth i2.toNat).nth 0) ++ txtL (coinL ((l.nth i2.toNat).nth 1))) xs n i l n2 (W64 (i2 + 1))) else none else none
    else kx (.o bs xs n i l n2 i2)
def BDi (R : Type) (p : PDi) (K : PDi → Option R) (kx : QDi → Option R) : Option R :=
  match p with
  | .m bs xs n i l n2 i2 =>
    bif ilt i2 n2 then ck i2 l.els.length <| lim (bs.length + (refB ((l.nth i2.toNat).nth 0)).length) <|
      bif coing [(l.nth i2.toNat).nth 1] then
      bif dTxtg [.l (coinL ((l.nth i2.toNat).nth 1))] then
      lim ((bs ++ refB ((l.nth i2.toNat).nth 0)).length + (txtL (coinL ((l.nth i2.toNat).nth 1))).length) <|
      K (.m (bs ++ refB ((l.nth i2.toNat).nth 0) ++ txtL (coinL ((l.nth i2.toNat).nth 1))) xs n i l n2 (W64 (i2 + 1))) else none else none
    else kx (.o bs xs n i l n2 i2)
inductive PWo where
  | m (bs xs : List V) (n i : Int)
inductive QWo where
  | o (bs xs : List V) (n i : Int)
abbrev PDo := PWo
abbrev QDo := QWo
noncomputable def BWo (R : Type) (p : PWo) (K : PWo → Option R) (kx : QWo → Option R) : Option R :=
  match p with
  | .m bs xs n i =>
    bif ilt i n then ck i xs.length <| ln (atV xs i).els.length <| bif shb (.l bs) then ln (atV xs i).els.length <|
      lpC (BWi R) (hid FU) (.m (bs ++ cntL (WU ((atV xs i).els.length : Nat))) xs n i (atV xs i) ((atV xs i).els.length : Nat) 0) (fun q => match q with
        | .o bs xs n i _ _ _ => K (.m bs xs n (W64 (i + 1)))) else none
    else kx (.o bs xs n i)
noncomputable def BDo (R : Type) (p : PDo) (K : PDo → Option R) (kx : QDo → Option R) : Option R :=
  match p with
  | .m bs xs n i =>
    bif ilt i n then ck i xs.length <| ln (atV xs i).els.length <| lim (bs.length + (cntL (WU ((atV xs i).els.length : Nat))).length) <| ln (atV xs i).els.length <|
      lpC (BDi R) (hid FU) (.m (bs ++ cntL (WU ((atV xs i).els.length : Nat))) xs n i (atV xs i) ((atV xs i).els.length : Nat) 0) (fun q => match q with
        | .o bs xs n i _ _ _ => K (.m bs xs n (W64 (i + 1))))
    else kx (.o bs xs n i)
def okS (s : V) : Bool := coing [s.nth 1] && Nat.ble (cK (s.nth 1)).els.length 2100
def okW (l : V) : Bool := Nat.ble l.els.length 200 && l.els.all okS
def goodS (s : V) : Prop := coing [s.nth 1] = true ∧ (refB (s.nth 0)).length = 36 ∧ (coinL (s.nth 1)).length ≤ 2140
theorem spentL_len {s : V} (h : goodS s) : (spentL s).length ≤ 2200 := by
  have := txtL_len (coinL (s.nth 1))
  unfold spentL
  rw [List.length_append, h.2.1]
  have := h.2.2
  omega
theorem coinL_len (c : V) : (coinL c).length ≤ (cK c).els.length + 26 := by
  have h1 := cntL_len (coinN c)
  have h2 := leV_len 8 (WU (cV c))
  have h3 := txtL_len (cK c).els
  unfold coinL
  simp only [List.length_append]; omega
variable {R : Type}
theorem nth_at {l : V} {a r : List V} {x : V} (h : l.els = a ++ x :: r) : l.nth ((a.length : Nat) : Int).toNat = x := by
  unfold V.nth
  rw [h]; simp
theorem wi_law {kx : QWi → Option R} {xs : List V} {n i : Int} {l : V} : ∀ (r a bs : List V) (fuel : Nat), l.els = a ++ r → (∀ s ∈ r, goodS s) → bs.length + r.length * 2200 ≤ 200000000 → a.length + r.length ≤ 1000 → r.length < fuel →
    lpC (BWi R) fuel (.m bs xs n i l (l.els.length : Nat) (a.length : Nat)) kx = kx (.o (bs ++ spentsL r) xs n i l (l.els.length : Nat) (l.els.length : Nat)) ∧
    lpC (BDi R) fuel (.m bs xs n i l (l.els.length : Nat) (a.length : Nat)) kx = kx (.o (bs ++ spentsL r) xs n i l (l.els.length : Nat) (l.els.length : Nat)) := by
  intro r
  induction r with
  | nil =>
    intro a bs fuel he hg hb ha hf
    obtain ⟨f, rfl⟩ : ∃ f, fuel = f + 1 := ⟨fuel - 1, by omega⟩
    rw [List.append_nil] at he
    have hc : ilt (a.length : Nat) (l.els.length : Nat) = false := by rw [he]; simp [ilt]
    constructor
    · show (bif ilt (a.length : Nat) (l.els.length : Nat) then _ else kx _) = _
      rw [hc, he]; simp [spentsL]
    · show (bif ilt (a.length : Nat) (l.els.length : Nat) then _ else kx _) = _
      rw [hc, he]; simp [spentsL]
  | cons x r ih =>
    intro a bs fuel he hg hb ha hf
    obtain ⟨f, rfl⟩ : ∃ f, fuel = f + 1 := ⟨fuel - 1, by simp at hf; omega⟩
    have hgx := hg x (by simp)
    obtain ⟨g1, g2, g3⟩ := hgx
    have hs := spentL_len ⟨g1, g2, g3⟩
    have ht := txtL_len (coinL (x.nth 1))
    simp only [List.length_cons] at hb ha hf
    have hc : ilt (a.length : Nat) (l.els.length : Nat) = true := by rw [he]; simp [ilt]; omega
    have hle : l.els.length = a.length + (r.length + 1) := by rw [he]; simp
    have q1 : wTxtg [.l (bs ++ refB (x.nth 0)), .l [.l (coinL (x.nth 1))]] = true := by
      show (Nat.ble (bs ++ refB (x.nth 0)).length 268435456 && Nat.ble (coinL (x.nth 1)).length 268435456) = true
      rw [Bool.and_eq_true, Nat.ble_eq, Nat.ble_eq, List.length_append]; omega
    have q2 : dTxtg [.l (coinL (x.nth 1))] = true := by
      show Nat.ble (coinL (x.nth 1)).length 268435456 = true
      rw [Nat.ble_eq]; omega
    obtain ⟨i1, i2⟩ := ih (a ++ [x]) (bs ++ refB (x.nth 0) ++ txtL (coinL (x.nth 1))) f (by rw [he]; simp) (fun s hs => hg s (by simp [hs])) (by simp only [List.length_append]; omega) (by simp; omega) (by omega)
    have e1 : bs ++ refB (x.nth 0) ++ txtL (coinL (x.nth 1)) ++ spentsL r = bs ++ spentsL (x :: r) := by simp [spentsL, spentL]
    rw [show (a ++ [x]).length = a.length + 1 by simp, e1] at i1 i2
    constructor
    · show (bif ilt (a.length : Nat) (l.els.length : Nat) then _ else kx _) = _
      rw [hc, cond_true, ck_in (by omega) (by omega), nth_at he, g1, q1, lim_in (by omega), cond_true, cond_true, i_next (by omega)]
      exact i1
    · show (bif ilt (a.length : Nat) (l.els.length : Nat) then _ else kx _) = _
      rw [hc, cond_true, ck_in (by omega) (by omega), nth_at he, g1, q2, lim_in (by omega), cond_true, cond_true, lim_in (by simp only [List.length_append]; omega), i_next (by omega)]
      exact i2
def goodR (l : V) : Prop := l.els.length ≤ 200 ∧ ∀ s ∈ l.els, goodS s
theorem spentsL_len : ∀ {l : List V}, (∀ s ∈ l, goodS s) → (spentsL l).length ≤ l.length * 2200 := by
  intro l
  induction l with
  | nil => intro _; simp [spentsL]
  | cons x r ih =>
    intro h
    have h1 := spentL_len (h x (by simp))
    have h2 := ih (fun s hs => h s (by simp [hs]))
    have : (spentsL (x :: r)).length = (spentL x).length + (spentsL r).length := by simp [spentsL]
    rw [this, List.length_cons]; omega
theorem wo_law {kx : QWo → Option R} : ∀ (r a bs : List V) (fuel : Nat), (∀ l ∈ r, goodR l) → bs.length + r.length * 441000 ≤ 150000000 → a.length + r.length ≤ 1000 → r.length < fuel →
    lpC (BWo R) fuel (.m bs (a ++ r) ((a ++ r).length : Nat) (a.length : Nat)) kx = kx (.o (bs ++ undoL r) (a ++ r) ((a ++ r).length : Nat) ((a ++ r).length : Nat)) ∧
    lpC (BDo R) fuel (.m bs (a ++ r) ((a ++ r).length : Nat) (a.length : Nat)) kx = kx (.o (bs ++ undoL r) (a ++ r) ((a ++ r).length : Nat) ((a ++ r).length : Nat)) := by
  intro r
  induction r with
  | nil =>
    intro a bs fuel hg hb ha hf
    obtain ⟨f, rfl⟩ : ∃ f, fuel = f + 1 := ⟨fuel - 1, by omega⟩
    rw [List.append_nil]
    have hc : ilt (a.length : Nat) (a.length : Nat) = false := by simp [ilt]
    constructor
    · show (bif ilt (a.length : Nat) (a.length : Nat) then _ else kx _) = _
      rw [hc]; simp [undoL]
    · show (bif ilt (a.length : Nat) (a.length : Nat) then _ else kx _) = _
      rw [hc]; simp [undoL]
  | cons x r ih =>
    intro a bs fuel hg hb ha hf
    obtain ⟨f, rfl⟩ : ∃ f, fuel = f + 1 := ⟨fuel - 1, by simp at hf; omega⟩
    obtain ⟨g1, g2⟩ := hg x (by simp)
    have hcl := cntL_len (x.els.length : Nat)
    have hsl := spentsL_len g2
    simp only [List.length_cons] at hb ha hf
    have hc : ilt (a.length : Nat) ((a ++ x :: r).length : Nat) = true := by simp [ilt]; omega
    have hrow : (rowL x).length ≤ 440009 := by unfold rowL; rw [List.length_append]; omega
    have hq := fq_big
    obtain ⟨i1, i2⟩ := ih (a ++ [x]) (bs ++ rowL x) f (fun s hs => hg s (by simp [hs])) (by simp only [List.length_append]; omega) (by simp; omega) (by omega)
    have e1 : bs ++ rowL x ++ undoL r = bs ++ undoL (x :: r) := by simp [undoL]
    rw [List.append_assoc, show (a ++ [x]).length = a.length + 1 by simp, e1] at i1 i2
    have e2 : bs ++ cntL (x.els.length : Nat) ++ spentsL x.els = bs ++ rowL x := by simp [rowL]
    constructor
    · have w := (wi_law (R := R) (kx := fun q => match q with | .o bs xs n i _ _ _ => lpC (BWo R) f (.m bs xs n (W64 (i + 1))) kx) (xs := a ++ x :: r) (n := ((a ++ x :: r).length : Nat)) (i := (a.length : Nat)) (l := x) x.els [] (bs ++ cntL (x.els.length : Nat)) (hid FU) rfl g2 (by simp only [List.length_append]; omega) (by simp only [List.length_nil]; omega) (by omega)).1
      show (bif ilt (a.length : Nat) ((a ++ x :: r).length : Nat) then _ else kx _) = _
      rw [hc, cond_true, ck_in (by omega) (by simp; omega), atV_at, ln_in (by omega), ln_in (by omega), wu64_lt (by omega), show shb (.l bs) = true from Nat.ble_eq_true_of_le (by show bs.length ≤ 268435456; omega), cond_true]
      refine w.trans ?_
      simp only
      rw [i_next (by omega), e2]
      exact i1
    · have w := (wi_law (R := R) (kx := fun q => match q with | .o bs xs n i _ _ _ => lpC (BDo R) f (.m bs xs n (W64 (i + 1))) kx) (xs := a ++ x :: r) (n := ((a ++ x :: r).length : Nat)) (i := (a.length : Nat)) (l := x) x.els [] (bs ++ cntL (x.els.length : Nat)) (hid FU) rfl g2 (by simp only [List.length_append]; omega) (by simp only [List.length_nil]; omega) (by omega)).2
      show (bif ilt (a.length : Nat) ((a ++ x :: r).length : Nat) then _ else kx _) = _
      rw [hc, cond_true, ck_in (by omega) (by simp; omega), atV_at, ln_in (by omega), ln_in (by omega), wu64_lt (by omega), lim_in (by omega)]
      refine w.trans ?_
      simp only
      rw [i_next (by omega), e2]
      exact i2
def ung : List V → Bool
  | [x] => Nat.ble x.els.length 200 && x.els.all okW
  | _ => false
def unr (el : Nat) : List V → List Rs
  | [x] => [.r el (cntL (x.els.length : Nat) ++ undoL x.els) false]
  | _ => []
theorem spent_v {s : V} (h : DSpent.has s) : ∃ r c, s = .l [r, c] ∧ DRef.has r ∧ DCoin.has c := by
  obtain ⟨ys, rfl, hy⟩ := h
  obtain ⟨a, b, rfl, ha, hb⟩ := hasL2 hy
  exact ⟨a, b, rfl, ha, hb⟩
theorem okS_good {s : V} (h : DSpent.has s) (ho : okS s = true) : goodS s := by
  obtain ⟨r, c, rfl, hr, hc⟩ := spent_v h
  unfold okS at ho
  rw [Bool.and_eq_true, Nat.ble_eq] at ho
  exact ⟨ho.1, refB_len hr, Nat.le_trans (coinL_len _) (by omega)⟩
theorem okW_good {l : V} (h : (D.slice DSpent).has l) (ho : okW l = true) : goodR l := by
  unfold okW at ho
  rw [Bool.and_eq_true, Nat.ble_eq, List.all_eq_true] at ho
  refine ⟨ho.1, fun s hs => ?_⟩
  rcases h with rfl | ⟨ys, rfl, hy⟩
  · cases hs
  · exact okS_good (hy s hs) (ho.2 s hs)
noncomputable def unG (B : (R : Type) → PWo → (PWo → Option R) → (QWo → Option R) → Option R) (el : Nat) (xs : List V) : Option (List Rs) :=
  ln xs.length <| ln xs.length <| lpC (B (List Rs)) (hid FU) (.m (cntL (WU (xs.length : Nat))) xs (xs.length : Nat) 0) fun q => match q with
    | .o bs xs n i => some [.r el bs false]
theorem unG_law {el : Nat} {xs : List V} (h : ∀ l ∈ xs, (D.slice DSpent).has l) (hg : ung [.l xs] = true) : unG BWo el xs = some (unr el [.l xs]) ∧ unG BDo el xs = some (unr el [.l xs]) := by
  have hg : (Nat.ble xs.length 200 && xs.all okW) = true := hg
  rw [Bool.and_eq_true, Nat.ble_eq, List.all_eq_true] at hg
  have hc := cntL_len (xs.length : Nat)
  have hq := fq_big
  have a := wo_law (R := List Rs) (kx := fun q => match q with | .o bs xs n i => some [Rs.r el bs false]) xs [] (cntL (xs.length : Nat)) (hid FU) (fun l hl => okW_good (h l hl) (hg.2 l hl)) (by omega) (by simp only [List.length_nil]; omega) (by omega)
  constructor
  · unfold unG
    rw [ln_in (by omega), ln_in (by omega), wu64_lt (by omega)]; exact a.1
  · unfold unG
    rw [ln_in (by omega), ln_in (by omega), wu64_lt (by omega)]; exact a.2
end Go.Vm

namespace Go.Vm
open Go.RowKit
set_option linter.unusedVariables false
set_option linter.constructorNameAsVariable false

/-! ### The same coins? -/
def sameC (a b : V) : Bool := ieq (cV a) (cV b) && (veqL (cK a).els (cK b).els && (ieq (cH a) (cH b) && (cQ a == cQ b)))
/-- Two answers. -/
def ynF (b : Nat) (g f : List V → Bool) : FC := fun R xs k => bif g xs then bif f xs then k [.d b (.b true)] else k [.d b (.b false)] else none
theorem ynF_nat (b : Nat) (g f : List V → Bool) : FC.nat (ynF b g f) := by
  intro R xs k
  unfold ynF
  cases g xs <;> cases f xs <;> rfl
theorem ynF_at {b : Nat} {g f : List V → Bool} {xs : List V} {rs : List Rs} (h : ynF b g f (List Rs) xs some = some rs) : g xs = true ∧ rs = [.d b (.b (f xs))] := by
  unfold ynF at h
  cases hg : g xs with
  | false => rw [hg] at h; cases h
  | true =>
    rw [hg] at h
    cases hf : f xs <;> (rw [hf] at h; simp only [cond_true, cond_false, Option.some.injEq] at h; exact ⟨rfl, h.symm⟩)
def two (f : V → V → Bool) : List V → Bool
  | [a, b] => f a b
  | _ => false
def scG (b : Nat) (q q' : Bool) (v v' h h' : Int) (k k' : List V) : Option (List Rs) :=
  bif ieq v v' then bif veqL k k' then bif ieq h h' then some [.d b (.b (q == q'))] else some [.d b (.b false)] else some [.d b (.b false)] else some [.d b (.b false)]
theorem scG_law {b : Nat} {q q' : Bool} {v v' h h' : Int} {k k' : V} : scG b q q' v v' h h' k.els k'.els = some [.d b (.b (sameC (.l [.l [.i v, k], .i h, .b q]) (.l [.l [.i v', k'], .i h', .b q'])))] := by
  unfold scG
  show _ = some [Rs.d b (.b (ieq v v' && (veqL k.els k'.els && (ieq h h' && (q == q')))))]
  cases ieq v v' <;> cases veqL k.els k'.els <;> cases ieq h h' <;> rfl
def sameS (a b : V) : Bool := veq (a.nth 0) (b.nth 0) && sameC (a.nth 1) (b.nth 1)
def sameL (f : V → V → Bool) : List V → List V → Bool
  | [], [] => true
  | a :: r, b :: t => f a b && sameL f r t
  | _, _ => false
def rowsSame (x y : V) : Bool := sameL sameS x.els y.els
def sameU (x y : V) : Bool := sameL rowsSame x.els y.els
theorem sameL_len {f : V → V → Bool} : ∀ {a b : List V}, a.length ≠ b.length → sameL f a b = false := by
  intro a
  induction a with
  | nil => intro b h; cases b with
    | nil => exact absurd rfl h
    | cons _ _ => rfl
  | cons x r ih => intro b h; cases b with
    | nil => rfl
    | cons y t =>
      unfold sameL
      rw [ih (fun q => h (by simp [q]))]; cases f x y <;> rfl
inductive PSm where
  | m (x y : V) (n i : Int)
inductive QSm where
  | o (x y : V) (n i : Int)
  | r (x y : V) (n i : Int)
abbrev PSu := PSm
abbrev QSu := QSm
def BSm (R : Type) (p : PSm) (K : PSm → Option R) (kx : QSm → Option R) : Option R :=
  match p with
  | .m x y n i =>
    bif ilt i n then ck i x.els.length <| ck i y.els.length <| bif !veq ((x.nth i.toNat).nth 0) ((y.nth i.toNat).nth 0) then kx (.r x y n i) else
      ck i x.els.length <| ck i y.els.length <| bif sameC ((x.nth i.toNat).nth 1) ((y.nth i.toNat).nth 1) then K (.m x y n (W64 (i + 1))) else kx (.r x y n i)
    else kx (.o x y n i)
def lenW (x y : V) : Bool := Nat.ble x.els.length 1000 && Nat.ble y.els.length 1000
def BSu (R : Type) (p : PSu) (K : PSu → Option R) (kx : QSu → Option R) : Option R :=
  match p with
  | .m x y n i =>
    bif ilt i n then ck i x.els.length <| ck i y.els.length <| bif lenW (x.nth i.toNat) (y.nth i.toNat) then
      bif rowsSame (x.nth i.toNat) (y.nth i.toNat) then K (.m x y n (W64 (i + 1))) else kx (.r x y n i) else none
    else kx (.o x y n i)
variable {R : Type}
theorem smr_law {kx : QSm → Option R} {x y : V} {c d : Option R} (hr : ∀ x y n i, kx (.r x y n i) = c) (ho : ∀ x y n i, kx (.o x y n i) = d) : ∀ (r t a b : List V) (fuel : Nat), x.els = a ++ r → y.els = b ++ t → a.length = b.length → r.length = t.length → a.length + r.length ≤ 1000 → r.length < fuel →
    lpC (BSm R) fuel (.m x y (x.els.length : Nat) (a.length : Nat)) kx = bif sameL sameS r t then d else c := by
  intro r
  induction r with
  | nil =>
    intro t a b fuel hx hy hab hrt hl hf
    obtain ⟨f, rfl⟩ : ∃ f, fuel = f + 1 := ⟨fuel - 1, by omega⟩
    cases t with
    | cons _ _ => cases hrt
    | nil =>
      show (bif ilt (a.length : Nat) (x.els.length : Nat) then _ else kx _) = _
      rw [show ilt (a.length : Nat) (x.els.length : Nat) = false by rw [hx]; simp [ilt]]
      exact ho _ _ _ _
  | cons e r ih =>
    intro t a b fuel hx hy hab hrt hl hf
    obtain ⟨f, rfl⟩ : ∃ f, fuel = f + 1 := ⟨fuel - 1, by simp at hf; omega⟩
    cases t with
    | nil => cases hrt
    | cons g t =>
      simp only [List.length_cons] at hl hf hrt
      have lx : x.els.length = a.length + (r.length + 1) := by rw [hx]; simp
      have ly : y.els.length = b.length + (t.length + 1) := by rw [hy]; simp
      show (bif ilt (a.length : Nat) (x.els.length : Nat) then _ else kx _) = _
      rw [show ilt (a.length : Nat) (x.els.length : Nat) = true by rw [hx]; simp [ilt]; omega, cond_true, ck_in (by omega) (by omega), ck_in (by omega) (by omega), ck_in (by omega) (by omega), ck_in (by omega) (by omega), nth_at hx]
      rw [hab, nth_at hy]
      unfold sameL sameS
      cases h1 : veq (e.nth 0) (g.nth 0) with
      | false => exact hr _ _ _ _
      | true =>
        cases h2 : sameC (e.nth 1) (g.nth 1) with
        | false => exact hr _ _ _ _
        | true =>
          simp only [Bool.not_true, cond_true, cond_false, Bool.and_self, Bool.true_and]
          rw [i_next (by omega)]
          have := ih t (a ++ [e]) (b ++ [g]) f (by rw [hx]; simp) (by rw [hy]; simp) (by simp [hab]) (by omega) (by simp; omega) (by omega)
          rw [show (a ++ [e]).length = b.length + 1 by simp [hab]] at this
          exact this
theorem su_law {kx : QSm → Option R} {x y : V} {c d : Option R} (hr : ∀ x y n i, kx (.r x y n i) = c) (ho : ∀ x y n i, kx (.o x y n i) = d) : ∀ (r t a b : List V) (fuel : Nat), x.els = a ++ r → y.els = b ++ t → a.length = b.length → r.length = t.length → a.length + r.length ≤ 1000 → (∀ z ∈ r, z.els.length ≤ 1000) → (∀ z ∈ t, z.els.length ≤ 1000) → r.length < fuel →
    lpC (BSu R) fuel (.m x y (x.els.length : Nat) (a.length : Nat)) kx = bif sameL rowsSame r t then d else c := by
  intro r
  induction r with
  | nil =>
    intro t a b fuel hx hy hab hrt hl _ _ hf
    obtain ⟨f, rfl⟩ : ∃ f, fuel = f + 1 := ⟨fuel - 1, by omega⟩
    cases t with
    | cons _ _ => cases hrt
    | nil =>
      show (bif ilt (a.length : Nat) (x.els.length : Nat) then _ else kx _) = _
      rw [show ilt (a.length : Nat) (x.els.length : Nat) = false by rw [hx]; simp [ilt]]
      exact ho _ _ _ _
  | cons e r ih =>
    intro t a b fuel hx hy hab hrt hl he hg hf
    obtain ⟨f, rfl⟩ : ∃ f, fuel = f + 1 := ⟨fuel - 1, by simp at hf; omega⟩
    cases t with
    | nil => cases hrt
    | cons g t =>
      simp only [List.length_cons] at hl hf hrt
      have lx : x.els.length = a.length + (r.length + 1) := by rw [hx]; simp
      have ly : y.els.length = b.length + (t.length + 1) := by rw [hy]; simp
      show (bif ilt (a.length : Nat) (x.els.length : Nat) then _ else kx _) = _
      rw [show ilt (a.length : Nat) (x.els.length : Nat) = true by rw [hx]; simp [ilt]; omega, cond_true, ck_in (by omega) (by omega), ck_in (by omega) (by omega), nth_at hx]
      rw [hab, nth_at hy]
      have hlr : lenW e g = true := by
        unfold lenW
        rw [Bool.and_eq_true, Nat.ble_eq, Nat.ble_eq]; exact ⟨he e (by simp), hg g (by simp)⟩
      rw [hlr]
      unfold sameL
      cases h1 : rowsSame e g with
      | false => exact hr _ _ _ _
      | true =>
        simp only [cond_true, Bool.true_and]
        rw [i_next (by omega)]
        have := ih t (a ++ [e]) (b ++ [g]) f (by rw [hx]; simp) (by rw [hy]; simp) (by simp [hab]) (by omega) (by simp; omega) (fun z hz => he z (by simp [hz])) (fun z hz => hg z (by simp [hz])) (by omega)
        rw [show (a ++ [e]).length = b.length + 1 by simp [hab]] at this
        exact this
/-- Ahead of the rounds: as many? -/
noncomputable def smG (B : (R : Type) → PSm → (PSm → Option R) → (QSm → Option R) → Option R) (b : Nat) (x y : V) : Option (List Rs) :=
  ln x.els.length <| ln y.els.length <| bif !ieq (x.els.length : Nat) (y.els.length : Nat) then some [.d b (.b false)] else ln x.els.length <| lpC (B (List Rs)) (hid FU) (.m x y (x.els.length : Nat) 0) fun q => match q with
    | .o _ _ _ _ => some [.d b (.b true)]
    | .r _ _ _ _ => some [.d b (.b false)]
def lenU (x y : V) : Bool := lenW x y && (x.els.all (fun z => Nat.ble z.els.length 1000) && y.els.all (fun z => Nat.ble z.els.length 1000))
theorem smG_law {b : Nat} {x y : V} (h : lenW x y = true) : smG BSm b x y = some [.d b (.b (rowsSame x y))] := by
  unfold lenW at h
  rw [Bool.and_eq_true, Nat.ble_eq, Nat.ble_eq] at h
  have hq := fq_big
  unfold smG rowsSame
  rw [ln_in (by omega), ln_in (by omega), ln_in (by omega), ieq_nat]
  by_cases he : x.els.length = y.els.length
  · rw [show decide (x.els.length = y.els.length) = true by simp [he]]
    simp only [Bool.not_true, cond_false]
    have := smr_law (R := List Rs) (x := x) (y := y) (c := some [.d b (.b false)]) (d := some [.d b (.b true)]) (kx := fun q => match q with
      | .o _ _ _ _ => some [.d b (.b true)]
      | .r _ _ _ _ => some [.d b (.b false)]) (fun _ _ _ _ => rfl) (fun _ _ _ _ => rfl) x.els y.els [] [] (hid FU) rfl rfl rfl he (by simp only [List.length_nil]; omega) (by omega)
    refine this.trans ?_
    cases sameL sameS x.els y.els <;> rfl
  · rw [show decide (x.els.length = y.els.length) = false by simp [he], sameL_len he]; rfl
theorem suG_law {b : Nat} {x y : V} (h : lenU x y = true) : smG BSu b x y = some [.d b (.b (sameU x y))] := by
  unfold lenU lenW at h
  simp only [Bool.and_eq_true, Nat.ble_eq, List.all_eq_true] at h
  have hq := fq_big
  unfold smG sameU
  rw [ln_in (by omega), ln_in (by omega), ln_in (by omega), ieq_nat]
  by_cases he : x.els.length = y.els.length
  · rw [show decide (x.els.length = y.els.length) = true by simp [he]]
    simp only [Bool.not_true, cond_false]
    have := su_law (R := List Rs) (x := x) (y := y) (c := some [.d b (.b false)]) (d := some [.d b (.b true)]) (kx := fun q => match q with
      | .o _ _ _ _ => some [.d b (.b true)]
      | .r _ _ _ _ => some [.d b (.b false)]) (fun _ _ _ _ => rfl) (fun _ _ _ _ => rfl) x.els y.els [] [] (hid FU) rfl rfl rfl he (by simp only [List.length_nil]; omega) h.2.1 h.2.2 (by omega)
    refine this.trans ?_
    cases sameL rowsSame x.els y.els <;> rfl
  · rw [show decide (x.els.length = y.els.length) = false by simp [he], sameL_len he]; rfl

/-! ### Can coins be, and are there few? -/
def keyN : List V → Nat
  | [] => 0
  | a :: r => (if a.int = 172 ∨ a.int = 173 then 1 else 0) + keyN r
theorem keyN_le : ∀ l, keyN l ≤ l.length := by
  intro l
  induction l with
  | nil => exact Nat.le_refl _
  | cons a r ih => unfold keyN; simp only [List.length_cons]; split <;> omega
inductive PRi where
  | m (xs : List V) (s kk n i : Int) (sp lk : V) (n2 j : Int)
inductive QRi where
  | o (xs : List V) (s kk n i : Int) (sp lk : V) (n2 j : Int)
def BRi (R : Type) (p : PRi) (K : PRi → Option R) (kx : QRi → Option R) : Option R :=
  match p with
  | .m xs s kk n i sp lk n2 j =>
    bif ilt j n2 then ck j lk.els.length <| bif ieq (elV lk j) 172 then K (.m xs s (W64 (kk + 1)) n i sp lk n2 (W64 (j + 1))) else bif ieq (elV lk j) 173 then K (.m xs s (W64 (kk + 1)) n i sp lk n2 (W64 (j + 1))) else K (.m xs s kk n i sp lk n2 (W64 (j + 1)))
    else kx (.o xs s kk n i sp lk n2 j)
inductive PRo where
  | m (xs : List V) (s kk n i : Int)
inductive QRo where
  | o (xs : List V) (s kk n i : Int)
  | r (xs : List V) (s kk n i : Int)
def rgC (c : V) : Bool := ile 0 (cV c) && (ile (cV c) 2000000000000 && (ile ((cK c).els.length : Nat) 2000 && (ile 0 (cH c) && (ile (cH c) 1000000000 && !ilt 300 ((cK c).els.length : Nat)))))
noncomputable def BRo (R : Type) (p : PRo) (K : PRo → Option R) (kx : QRo → Option R) : Option R :=
  match p with
  | .m xs s kk n i =>
    bif ilt i n then ck i xs.length <| bif ilt 20 i then kx (.r xs s kk n i) else
      bif ile 0 (cV ((atV xs i).nth 1)) then bif ile (cV ((atV xs i).nth 1)) 2000000000000 then ln (cK ((atV xs i).nth 1)).els.length <|
      bif ile ((cK ((atV xs i).nth 1)).els.length : Nat) 2000 then bif ile 0 (cH ((atV xs i).nth 1)) then bif ile (cH ((atV xs i).nth 1)) 1000000000 then
      ln (cK ((atV xs i).nth 1)).els.length <| bif ilt 300 ((cK ((atV xs i).nth 1)).els.length : Nat) then kx (.r xs s kk n i) else
      ln (cK ((atV xs i).nth 1)).els.length <| lpC (BRi R) (hid FU) (.m xs s kk n i (atV xs i) (cK ((atV xs i).nth 1)) ((cK ((atV xs i).nth 1)).els.length : Nat) 0) (fun q => match q with
        | .o xs s kk n i sp _ _ _ => K (.m xs (W64 (s + cV (sp.nth 1))) kk n (W64 (i + 1))))
      else kx (.r xs s kk n i) else kx (.r xs s kk n i) else kx (.r xs s kk n i) else kx (.r xs s kk n i) else kx (.r xs s kk n i)
    else kx (.o xs s kk n i)
def rgO : List V → Nat → Int → Int → Bool
  | [], _, s, k => ile s 2000000000000 && ile k 2
  | x :: r, i, s, k => bif Nat.blt 20 i then false else bif rgC (x.nth 1) then rgO r (i + 1) (W64 (s + cV (x.nth 1))) (k + (keyN (cK (x.nth 1)).els : Nat)) else false
theorem ri_law {kx : QRi → Option R} {xs : List V} {s n i : Int} {sp lk : V} : ∀ (r a : List V) (k fuel : Nat), lk.els = a ++ r → a.length + r.length ≤ 2000 → k + r.length ≤ 100000 → r.length < fuel →
    lpC (BRi R) fuel (.m xs s (k : Int) n i sp lk (lk.els.length : Nat) (a.length : Nat)) kx = kx (.o xs s ((k + keyN r : Nat) : Int) n i sp lk (lk.els.length : Nat) (lk.els.length : Nat)) := by
  intro r
  induction r with
  | nil =>
    intro a k fuel he hl hk hf
    obtain ⟨f, rfl⟩ : ∃ f, fuel = f + 1 := ⟨fuel - 1, by omega⟩
    rw [List.append_nil] at he
    show (bif ilt (a.length : Nat) (lk.els.length : Nat) then _ else kx _) = _
    rw [show ilt (a.length : Nat) (lk.els.length : Nat) = false by rw [he]; simp [ilt], he]; rfl
  | cons x r ih =>
    intro a k fuel he hl hk hf
    obtain ⟨f, rfl⟩ : ∃ f, fuel = f + 1 := ⟨fuel - 1, by simp at hf; omega⟩
    simp only [List.length_cons] at hl hk hf
    have hle : lk.els.length = a.length + (r.length + 1) := by rw [he]; simp
    have hx : elV lk (a.length : Nat) = x.int := by unfold elV; rw [nth_at he]
    show (bif ilt (a.length : Nat) (lk.els.length : Nat) then _ else kx _) = _
    rw [show ilt (a.length : Nat) (lk.els.length : Nat) = true by rw [he]; simp [ilt]; omega, cond_true, ck_in (by omega) (by omega), hx, i_next (by omega), i_next (by omega)]
    have h1 := ih (a ++ [x]) (k + 1) f (by rw [he]; simp) (by simp; omega) (by omega) (by omega)
    have h2 := ih (a ++ [x]) k f (by rw [he]; simp) (by simp; omega) (by omega) (by omega)
    rw [show (a ++ [x]).length = a.length + 1 by simp] at h1 h2
    unfold keyN
    by_cases c1 : x.int = 172
    · rw [ieq_iff.2 c1, cond_true, if_pos (.inl c1), show k + (1 + keyN r) = k + 1 + keyN r by omega]; exact h1
    · rw [show ieq x.int 172 = false by cases hq : ieq x.int 172 with | false => rfl | true => exact absurd (ieq_iff.1 hq) c1, cond_false]
      by_cases c2 : x.int = 173
      · rw [ieq_iff.2 c2, cond_true, if_pos (.inr c2), show k + (1 + keyN r) = k + 1 + keyN r by omega]; exact h1
      · rw [show ieq x.int 173 = false by cases hq : ieq x.int 173 with | false => rfl | true => exact absurd (ieq_iff.1 hq) c2, cond_false, if_neg (by rintro (h | h); exact c1 h; exact c2 h), Nat.zero_add]; exact h2
theorem ro_law {kx : QRo → Option R} {c : Option R} {fin : Int → Int → Option R} (hr : ∀ xs s kk n i, kx (.r xs s kk n i) = c) (ho : ∀ xs s kk n i, kx (.o xs s kk n i) = bif ile s 2000000000000 && ile kk 2 then fin 0 0 else c) : ∀ (r a : List V) (s : Int) (k fuel : Nat), (∀ x ∈ r, (cK (x.nth 1)).els.length ≤ 9223372036854775807) → a.length ≤ 21 → k ≤ a.length * 300 → 23 ≤ fuel + a.length →
    lpC (BRo R) fuel (.m (a ++ r) s (k : Int) ((a ++ r).length : Nat) (a.length : Nat)) kx = bif rgO r a.length s (k : Int) then fin 0 0 else c := by
  intro r
  induction r with
  | nil =>
    intro a s k fuel _ ha hk hf
    obtain ⟨f, rfl⟩ : ∃ f, fuel = f + 1 := ⟨fuel - 1, by omega⟩
    rw [List.append_nil]
    show (bif ilt (a.length : Nat) (a.length : Nat) then _ else kx _) = _
    rw [show ilt (a.length : Nat) (a.length : Nat) = false by simp [ilt]]
    exact ho _ _ _ _ _
  | cons x r ih =>
    intro a s k fuel hm ha hk hf
    obtain ⟨f, rfl⟩ : ∃ f, fuel = f + 1 := ⟨fuel - 1, by omega⟩
    have hmx := hm x (by simp)
    show (bif ilt (a.length : Nat) ((a ++ x :: r).length : Nat) then _ else kx _) = _
    rw [show ilt (a.length : Nat) ((a ++ x :: r).length : Nat) = true by simp [ilt]; omega, cond_true, ck_in (by omega) (by simp; omega), atV_at]
    unfold rgO
    rw [show ilt 20 (a.length : Nat) = Nat.blt 20 a.length by
      rw [show ilt 20 ((a.length : Nat) : Int) = decide (20 < a.length) from ilt_nat 20 _, Bool.eq_iff_iff, decide_eq_true_eq, Nat.blt_eq]]
    cases h0 : Nat.blt 20 a.length with
    | true => exact hr _ _ _ _ _
    | false =>
      have h0 : ¬ 20 < a.length := by intro q; rw [show Nat.blt 20 a.length = true by rw [Nat.blt_eq]; exact q] at h0; cases h0
      simp only [cond_false]
      unfold rgC
      rw [ln_in hmx, ln_in hmx, ln_in hmx]
      cases h1 : ile 0 (cV (x.nth 1)) with
      | false => exact hr _ _ _ _ _
      | true =>
      cases h2 : ile (cV (x.nth 1)) 2000000000000 with
      | false => exact hr _ _ _ _ _
      | true =>
      cases h3 : ile ((cK (x.nth 1)).els.length : Nat) 2000 with
      | false => exact hr _ _ _ _ _
      | true =>
      cases h4 : ile 0 (cH (x.nth 1)) with
      | false => exact hr _ _ _ _ _
      | true =>
      cases h5 : ile (cH (x.nth 1)) 1000000000 with
      | false => exact hr _ _ _ _ _
      | true =>
      cases h6 : ilt 300 ((cK (x.nth 1)).els.length : Nat) with
      | true => exact hr _ _ _ _ _
      | false =>
        have hlk := not_ilt h6
        have hkl := keyN_le (cK (x.nth 1)).els
        have hq := fq_big
        simp only [cond_true, cond_false, Bool.and_self, Bool.not_false]
        have w := ri_law (R := R) (kx := fun q => match q with
          | .o xs s kk n i sp _ _ _ => lpC (BRo R) f (.m xs (W64 (s + cV (sp.nth 1))) kk n (W64 (i + 1))) kx) (xs := a ++ x :: r) (s := s) (n := ((a ++ x :: r).length : Nat)) (i := (a.length : Nat)) (sp := x) (lk := cK (x.nth 1)) (cK (x.nth 1)).els [] k (hid FU) rfl (by simp only [List.length_nil]; omega) (by omega) (by omega)
        refine w.trans ?_
        simp only
        rw [i_next (by omega)]
        have := ih (a ++ [x]) (W64 (s + cV (x.nth 1))) (k + keyN (cK (x.nth 1)).els) f (fun y hy => hm y (by simp [hy])) (by simp; omega) (by simp; omega) (by simp; omega)
        rw [List.append_assoc, show (a ++ [x]).length = a.length + 1 by simp] at this
        rw [show ((k : Int) + ((keyN (cK (x.nth 1)).els : Nat) : Int)) = ((k + keyN (cK (x.nth 1)).els : Nat) : Int) by omega]
        exact this
def rgb (x : V) : Bool := rgO x.els 0 0 0
def rgg : List V → Bool
  | [x, .n] => Nat.ble x.els.length 9223372036854775807 && x.els.all fun s => Nat.ble (cK (s.nth 1)).els.length 9223372036854775807
  | _ => false
def rgf : List V → Bool
  | [x, .n] => rgb x
  | _ => false
noncomputable def rgG (b : Nat) (xs : List V) : Option (List Rs) :=
  ln xs.length <| lpC (BRo (List Rs)) (hid FU) (.m xs 0 0 (xs.length : Nat) 0) fun q => match q with
    | .o _ s kk _ _ => bif ile s 2000000000000 then bif ile kk 2 then some [.d b (.b true)] else some [.d b (.b false)] else some [.d b (.b false)]
    | .r _ _ _ _ _ => some [.d b (.b false)]
theorem rgG_law {b : Nat} {xs : List V} (h : rgg [.l xs, .n] = true) : rgG b xs = some [.d b (.b (rgb (.l xs)))] := by
  have h : (Nat.ble xs.length 9223372036854775807 && xs.all fun s => Nat.ble (cK (s.nth 1)).els.length 9223372036854775807) = true := h
  simp only [Bool.and_eq_true, Nat.ble_eq, List.all_eq_true] at h
  have hq := fq_big
  unfold rgG rgb
  rw [ln_in h.1]
  have := ro_law (R := List Rs) (c := some [.d b (.b false)]) (fin := fun _ _ => some [.d b (.b true)]) (kx := fun q => match q with
    | .o _ s kk _ _ => bif ile s 2000000000000 then bif ile kk 2 then some [.d b (.b true)] else some [.d b (.b false)] else some [.d b (.b false)]
    | .r _ _ _ _ _ => some [.d b (.b false)]) (fun _ _ _ _ _ => rfl) (fun _ s kk _ _ => by
      show (bif ile s 2000000000000 then bif ile kk 2 then some [Rs.d b (V.b true)] else some [Rs.d b (V.b false)] else some [Rs.d b (V.b false)]) = _
      cases ile s 2000000000000 <;> cases ile kk 2 <;> rfl) xs [] 0 0 (hid FU) h.2 (by simp) (by simp) (by simp only [List.length_nil]; omega)
  refine this.trans ?_
  show _ = some [Rs.d b (.b (rgO xs 0 0 0))]
  show (bif rgO xs 0 0 0 then _ else _) = _
  cases rgO xs 0 0 0 <;> rfl
/-- Then there are few, and each can be. -/
theorem rgO_good : ∀ (r : List V) (i : Nat) (s k : Int), rgO r i s k = true → i + r.length ≤ 21 + i ∧ (r ≠ [] → i + r.length ≤ 21) ∧ ∀ x ∈ r, rgC (x.nth 1) = true := by
  intro r
  induction r with
  | nil => intro i s k _; exact ⟨by simp, fun h => absurd rfl h, fun x hx => by cases hx⟩
  | cons x r ih =>
    intro i s k h
    unfold rgO at h
    cases h0 : Nat.blt 20 i with
    | true => rw [h0] at h; cases h
    | false =>
      have h0 : ¬ 20 < i := by intro q; rw [show Nat.blt 20 i = true by rw [Nat.blt_eq]; exact q] at h0; cases h0
      rw [show Nat.blt 20 i = false by cases hq : Nat.blt 20 i with | false => rfl | true => rw [Nat.blt_eq] at hq; exact absurd hq h0] at h
      simp only [cond_false] at h
      cases h1 : rgC (x.nth 1) with
      | false => rw [h1] at h; cases h
      | true =>
        rw [h1] at h
        obtain ⟨a, b, c⟩ := ih _ _ _ h
        have : i + (r.length + 1) ≤ 21 := by
          cases r with
          | nil => simp; omega
          | cons y t => have := b (by simp); simp only [List.length_cons] at this ⊢; omega
        refine ⟨by simp only [List.length_cons]; omega, fun _ => this, fun y hy => ?_⟩
        rcases List.mem_cons.1 hy with rfl | hy
        · exact h1
        · exact c y hy
end Go.Vm

namespace Go.Vm
open Go.RowKit
set_option linter.unusedVariables false
set_option linter.constructorNameAsVariable false

/-! ### Coins: what is read is as it is written -/
theorem txX_E {x : V} {m : Int} (h : rdE (txX x m) = 0) : rdE x = 0 := by
  unfold txX at h
  cases h1 : ieq (rdE x) 0 with
  | true => exact ieq_iff.1 h1
  | false => rw [h1] at h; exact h
theorem ctX_E {x : V} {m : Int} (h : rdE (ctX x m) = 0) : rdE x = 0 := by
  unfold ctX at h
  cases h1 : ieq (rdE x) 0 with
  | true => exact ieq_iff.1 h1
  | false => rw [h1] at h; exact h
theorem rawV_n {x : V} {n : Int} (h : rdE (rawX x n) ≠ 0) : rawV x n = .n := by
  unfold rawX at h
  unfold rawV
  cases h1 : ieq (rdE x) 0 with
  | false => rfl
  | true =>
    rw [h1] at h
    have h0 := ieq_iff.1 h1
    simp only [Bool.not_true, cond_false] at h ⊢
    cases h2 : ilt n 1 with
    | true => rw [h2] at h; exact absurd h0 h
    | false =>
      rw [h2] at h
      simp only [cond_false] at h ⊢
      cases h3 : ilt ((rdL x).length : Nat) n with
      | true => rfl
      | false => rw [h3] at h; exact absurd h0 h
theorem txV_n {x : V} {m : Int} (h : rdE (txX x m) ≠ 0) : txV x m = .n := by
  unfold txX at h
  unfold txV
  cases h1 : ieq (rdE x) 0 with
  | false => rfl
  | true =>
    rw [h1] at h
    simp only [Bool.not_true, cond_false] at h ⊢
    cases h2 : ieq (txI x (txP x m)) 0 with
    | false => rfl
    | true => rw [h2] at h; exact rawV_n h
theorem rawV_form (x : V) (n : Int) : rawV x n = .n ∨ ∃ l, rawV x n = .l l := by
  unfold rawV
  cases (!ieq (rdE x) 0)
  · cases ilt n 1
    · cases ilt ((rdL x).length : Nat) n
      · exact .inr ⟨_, rfl⟩
      · exact .inl rfl
    · exact .inl rfl
  · exact .inl rfl
theorem txV_form (x : V) (m : Int) : txV x m = .n ∨ ∃ l, txV x m = .l l := by
  unfold txV
  cases (!ieq (rdE x) 0)
  · cases (!ieq (txI x (txP x m)) 0)
    · exact rawV_form _ _
    · exact .inl rfl
  · exact .inl rfl
theorem leN_8 {b : List Nat} (hb : Byt b) (h : b.length = 8) : leB 8 (leN b) = b ∧ leN b < 18446744073709551616 := by
  have e := leB_leN b hb
  have l := leN_lt b hb
  rw [h] at e l
  exact ⟨e, by simpa using l⟩
theorem leN_4 {b : List Nat} (hb : Byt b) (h : b.length = 4) : leB 4 (leN b) = b ∧ leN b < 4294967296 := by
  have e := leB_leN b hb
  have l := leN_lt b hb
  rw [h] at e l
  exact ⟨e, by simpa using l⟩
theorem half {n : Nat} (h : n ≤ 2000000001) : W64 (WU ((n : Int).tdiv 2)) = ((n / 2 : Nat) : Int) ∧ ieq ((n : Int).tmod 2) 1 = decide (n % 2 = 1) := by
  have e1 : (n : Int).tdiv 2 = ((n / 2 : Nat) : Int) := rfl
  have e2 : (n : Int).tmod 2 = ((n % 2 : Nat) : Int) := rfl
  rw [e1, e2, wu64_lt (by omega), w64_in (by omega) (by omega)]
  exact ⟨rfl, ieq_nat _ 1⟩
theorem coin_read {v : List Nat} (hb : Byt v) (hl : v.length < 9223372036854775808) (h : (cqP (rd v)).2 = 0) : coinL (cqP (rd v)).1 = v.map nv ∧ coing [(cqP (rd v)).1] = true ∧ (cK (cqP (rd v)).1).els.length ≤ 2000 := by
  unfold cqP at h ⊢
  cases c1 : (ieq (rdE (cqB (rd v))) 0 && !(ile 0 (cqM (rd v)) && ile (cqM (rd v)) 2000000000000)) with
  | true => rw [c1] at h; exact absurd (show (62 : Int) = 0 from h) (by decide)
  | false =>
  rw [c1] at h
  simp only [cond_false] at h ⊢
  cases c2 : ieq (rdE (cqC (rd v))) 0 with
  | false =>
    rw [c2] at h
    have h : rdE (cqC (rd v)) = 0 := h
    rw [h] at c2; exact absurd c2 (by decide)
  | true =>
  rw [c2] at h
  simp only [Bool.not_true, cond_false] at h ⊢
  cases c3 : ilt 0 ((rdL (cqC (rd v))).length : Nat) with
  | true => rw [c3] at h; exact absurd (show (62 : Int) = 0 from h) (by decide)
  | false =>
  simp only [cond_false]
  have hC : rdE (cqC (rd v)) = 0 := ieq_iff.1 c2
  have hB : rdE (cqB (rd v)) = 0 := txX_E hC
  have hA : rdE (ctX (rd v) ((2000000001 : Nat) : Int)) = 0 := rawX_E hB
  obtain ⟨n, r1, a1, a2, a3, a4⟩ := ct_read hb hA
  have hb1 : Byt r1 := by rw [a1] at hb; exact (Byt.app.1 hb).2
  have eA : cqA (rd v) = rd r1 := a3
  have hB' : rdE (rawX (rd r1) ((8 : Nat) : Int)) = 0 := by
    have : cqB (rd v) = rawX (cqA (rd v)) (wiI 8) := rfl
    rw [this, eA, wiI_8] at hB; exact hB
  obtain ⟨b8, r2, b1, b2, b3, b4⟩ := raw_read hB'
  have hb2 : Byt r2 := by rw [b1] at hb1; exact (Byt.app.1 hb1).2
  have hb8 : Byt b8 := by rw [b1] at hb1; exact (Byt.app.1 hb1).1
  have eB : cqB (rd v) = rd r2 := by
    have : cqB (rd v) = rawX (cqA (rd v)) (wiI 8) := rfl
    rw [this, eA, wiI_8]; exact b3
  have lr2 : r2.length < 9223372036854775808 := by
    have : v.length = (cntB n).length + r1.length := by rw [a1, List.length_append]
    have : r1.length = b8.length + r2.length := by rw [b1, List.length_append]
    omega
  have hC' : rdE (txX (rd r2) ((2000 : Nat) : Int)) = 0 := by
    have : cqC (rd v) = txX (cqB (rd v)) 2000 := rfl
    rw [this, eB] at hC; exact hC
  obtain ⟨k, r3, d1, d2, d3, d4⟩ := tx_read hb2 (by decide) lr2 hC'
  have eC : cqC (rd v) = rd r3 := by
    have : cqC (rd v) = txX (cqB (rd v)) 2000 := rfl
    rw [this, eB]; exact d3
  have e3 : r3 = [] := by
    rw [eC, rd_L, List.length_map] at c3
    have c3 := not_ilt c3
    exact List.eq_nil_of_length_eq_zero (by omega)
  obtain ⟨e8, n8⟩ := leN_8 hb8 b2
  have eM : cqM (rd v) = W64 ((leN b8 : Nat) : Int) := by
    have : cqM (rd v) = W64 (numE (rawV (cqA (rd v)) (wiI 8)).els) := rfl
    rw [this, eA, wiI_8, b4, numE_leN b8 hb8 (by omega)]
  have hM : 0 ≤ cqM (rd v) ∧ cqM (rd v) ≤ 2000000000000 := by
    rw [show ieq (rdE (cqB (rd v))) 0 = true by rw [hB]; rfl, Bool.true_and, Bool.not_eq_false', Bool.and_eq_true] at c1
    exact ⟨ile_iff.1 c1.1, ile_iff.1 c1.2⟩
  rw [eM] at hM
  obtain ⟨_, w2⟩ := w64_nn n8 hM.1
  have eN : cqN (rd v) = (n : Int) := a4
  obtain ⟨t1, t2⟩ := half a2
  have eK : (txV (cqB (rd v)) 2000).els = k.map nv := by rw [eB]; exact d4
  unfold cqO
  rw [eM, w2, eN, t1, t2]
  refine ⟨?_, ?_, ?_⟩
  · show cntL (2 * ((n / 2 : Nat) : Int) + (bif decide (n % 2 = 1) then 1 else 0)) ++ (leV 8 (WU ((leN b8 : Nat) : Int)) ++ txtL (txV (cqB (rd v)) 2000).els) = _
    have en : 2 * ((n / 2 : Nat) : Int) + (bif decide (n % 2 = 1) then 1 else 0) = (n : Int) := by
      by_cases hp : n % 2 = 1
      · simp only [hp, decide_true, cond_true]; omega
      · simp only [hp, decide_false, cond_false]; omega
    rw [en, eK, cntL_cntB, wu64_lt n8, leV_leB, txtL_map, e8, ← List.map_append, ← List.map_append]
    congr 1
    rw [a1, b1, d1, e3]; simp
  · show ((ile 0 ((n / 2 : Nat) : Int) && ile ((n / 2 : Nat) : Int) 1000000000) && shb (txV (cqB (rd v)) 2000)) = true
    rw [ile_iff.2 (by omega), ile_iff.2 (by omega)]
    unfold shb
    rw [eK, List.length_map, Bool.and_self, Bool.true_and]
    exact Nat.ble_eq_true_of_le (by show k.length ≤ 268435456; omega)
  · show (txV (cqB (rd v)) 2000).els.length ≤ 2000
    rw [eK, List.length_map]; exact d2
theorem cq_nil : (cqP (.l [.n, .i 0])).2 = 61 := rfl
theorem rr_read {r : List Nat} (hb : Byt r) (h : rdE (rrE (rd r)) = 0) : ∃ hs a r', r = hs ++ (leB 4 a ++ r') ∧ hs.length = 32 ∧ Byt hs ∧ a < 4294967296 ∧ Byt r' ∧ rrE (rd r) = rd r' ∧ rrV (rd r) = .l [.l (hs.map nv), .i (a : Int)] := by
  have hC : rdE (rawX (rd r) ((32 : Nat) : Int)) = 0 := rawX_E h
  obtain ⟨hs, r3, s1, s2, s3, s4⟩ := raw_read hC
  have h0 : rdE (rawX (rawX (rd r) ((32 : Nat) : Int)) (wiI 4)) = 0 := h
  rw [s3, wiI_4] at h0
  obtain ⟨b4, r4, u1, u2, u3, u4⟩ := raw_read h0
  rw [s1] at hb
  obtain ⟨ks, hr3⟩ := Byt.app.1 hb
  rw [u1] at hr3
  obtain ⟨k4, hr4⟩ := Byt.app.1 hr3
  obtain ⟨e4, n4⟩ := leN_4 k4 u2
  have eE : rrE (rd r) = rd r4 := by
    show rawX (rawX (rd r) ((32 : Nat) : Int)) (wiI 4) = _
    rw [s3, wiI_4, u3]
  refine ⟨hs, leN b4, r4, by rw [e4, s1, u1], s2, ks, n4, hr4, eE, ?_⟩
  unfold rrV
  rw [h, show (!ieq 0 0) = false from rfl]
  simp only [cond_false]
  show V.l [.l ((rawV (rd r) ((32 : Nat) : Int)).els.take 32), .i (IntKind.wrap .u32 (numE (rawV (rawX (rd r) ((32 : Nat) : Int)) (wiI 4)).els))] = _
  rw [s4, s3, wiI_4, u4, numE_leN b4 k4 (by omega), w32_lt n4, List.take_of_length_le (by simp [s2])]
theorem spent_read {r : List Nat} (hb : Byt r) (hl : r.length < 9223372036854775808) (h : (spP (rd r)).2 = true) : ∃ r', spY (rd r) = rd r' ∧ r.map nv = spentL (spP (rd r)).1 ++ r'.map nv ∧ okS (spP (rd r)).1 = true ∧ Byt r' ∧ r'.length ≤ r.length := by
  have h0 : (cqP (spB (rd r))).2 = 0 := ieq_iff.1 h
  have hX : rdE (txX (rrE (rd r)) ((2016 : Nat) : Int)) = 0 := by
    rcases Int.decEq (rdE (txX (rrE (rd r)) ((2016 : Nat) : Int))) 0 with g | g
    · have : spB (rd r) = .l [.n, .i 0] := by
        show V.l [txV (rrE (rd r)) ((2016 : Nat) : Int), .i 0] = _
        rw [txV_n g]
      rw [this, cq_nil] at h0; exact absurd h0 (by decide)
    · exact g
  obtain ⟨hs, a, r1, q1, q2, q3, q4, q5, q6, q7⟩ := rr_read hb (txX_E hX)
  rw [q6] at hX
  have lr : r.length = hs.length + (4 + r1.length) := by rw [q1]; simp [leB_len]
  obtain ⟨t, r2, t1, t2, t3, t4⟩ := tx_read q5 (by decide) (by omega) hX
  have hbt : Byt t ∧ Byt r2 := by rw [t1] at q5; exact ⟨(Byt.app.1 (Byt.app.1 q5).1).2, (Byt.app.1 q5).2⟩
  have lr1 : r1.length = (cntB t.length).length + t.length + r2.length := by rw [t1]; simp only [List.length_append]
  have eB : spB (rd r) = rd t := by
    show V.l [txV (rrE (rd r)) ((2016 : Nat) : Int), .i 0] = _
    rw [q6]
    rcases txV_form (rd r1) ((2016 : Nat) : Int) with g | ⟨l, g⟩
    · rw [g] at t4
      have : t = [] := by cases t with | nil => rfl | cons x y => simp [V.els] at t4
      have e0 : spB (rd r) = .l [.n, .i 0] := by
        show V.l [txV (rrE (rd r)) ((2016 : Nat) : Int), .i 0] = _
        rw [q6, g]
      rw [e0, cq_nil] at h0; exact absurd h0 (by decide)
    · rw [g] at t4 ⊢
      have : l = t.map nv := t4
      rw [this]; rfl
  rw [eB] at h0
  obtain ⟨c1, c2, c3⟩ := coin_read hbt.1 (by omega) h0
  refine ⟨r2, ?_, ?_, ?_, hbt.2, by omega⟩
  · show txX (rrE (rd r)) ((2016 : Nat) : Int) = _
    rw [q6]; exact t3
  · show _ = (refB (rrV (rd r)) ++ txtL (coinL (cqP (spB (rd r))).1)) ++ r2.map nv
    rw [eB, c1, q7, txtL_map]
    show _ = ((hs.map nv ++ leV 4 (a : Int)) ++ _) ++ _
    rw [leV_leB, q1, t1]; simp
  · show (coing [(cqP (spB (rd r))).1] && Nat.ble (cK (cqP (spB (rd r))).1).els.length 2100) = true
    rw [eB, c2, Bool.true_and, Nat.ble_eq]; omega
theorem usI_read : ∀ (m : Nat) (r : List Nat) (ls : List V), Byt r → r.length < 9223372036854775808 → (usI m (rd r) ls).1 = false → ∃ es r', (usI m (rd r) ls).2.1 = rd r' ∧ (usI m (rd r) ls).2.2 = ls ++ es ∧ es.length = m ∧ r.map nv = spentsL es ++ r'.map nv ∧ (∀ s ∈ es, okS s = true) ∧ Byt r' ∧ r'.length ≤ r.length := by
  intro m
  induction m with
  | zero => intro r ls hb hl _; exact ⟨[], r, rfl, by simp [usI], rfl, by simp [spentsL], fun s hs => (by cases hs), hb, Nat.le_refl _⟩
  | succ m ih =>
    intro r ls hb hl h
    unfold usI at h ⊢
    cases hq : (spP (rd r)).2 with
    | false => rw [hq] at h; cases h
    | true =>
      rw [hq] at h
      simp only [cond_true] at h ⊢
      obtain ⟨r', g1, g2, g3, g4, g5⟩ := spent_read hb hl hq
      rw [g1] at h ⊢
      obtain ⟨es, r2, k1, k2, k3, k4, k5, k6, k7⟩ := ih r' (ls ++ [(spP (rd r)).1]) g4 (by omega) h
      refine ⟨(spP (rd r)).1 :: es, r2, k1, by rw [k2]; simp, by simp [k3], by rw [g2, k4]; simp [spentsL], fun s hs => ?_, k6, by omega⟩
      rcases List.mem_cons.1 hs with rfl | hs
      · exact g3
      · exact k5 s hs
theorem usO_bad : ∀ (m : Nat) (y : V) (xs : List V), rdE y ≠ 0 → epOk (usO m y xs) = false := by
  intro m
  induction m with
  | zero =>
    intro y xs h
    have h1 : ieq (rdE y) 0 = false := by
      cases hq : ieq (rdE y) 0 with
      | false => rfl
      | true => exact absurd (ieq_iff.1 hq) h
    unfold usO epOk; rw [h1]; rfl
  | succ m ih =>
    intro y xs h
    have h1 : ieq (rdE y) 0 = false := by
      cases hq : ieq (rdE y) 0 with
      | false => rfl
      | true => exact absurd (ieq_iff.1 hq) h
    have e1 : ctX y 200 = y := by unfold ctX; rw [h1]; rfl
    have e2 : ctV y 200 = 0 := by unfold ctV; rw [h1]; rfl
    unfold usO
    rw [e1, e2]
    exact ih _ _ h
theorem lV_els (es : List V) : (lV es).els = es := by cases es <;> rfl
theorem usO_read : ∀ (m : Nat) (r : List Nat) (xs : List V), Byt r → r.length < 9223372036854775808 → epOk (usO m (rd r) xs) = true → ∃ es, (usO m (rd r) xs).2.2 = xs ++ es ∧ es.length = m ∧ r.map nv = undoL es ∧ ∀ l ∈ es, okW l = true := by
  intro m
  induction m with
  | zero =>
    intro r xs hb hl h
    unfold usO epOk at h
    simp only [rd_E, rd_L, List.length_map, Bool.not_false, Bool.true_and, Bool.and_eq_true] at h
    have h2 := h.2
    rw [show ilt 0 ((r.length : Nat) : Int) = decide (0 < r.length) from ilt_nat 0 _] at h2
    have : r = [] := List.eq_nil_of_length_eq_zero (by simpa using h2)
    subst this
    exact ⟨[], by simp [usO], rfl, rfl, fun e he => by cases he⟩
  | succ m ih =>
    intro r xs hb hl h
    have h0 : rdE (ctX (rd r) ((200 : Nat) : Int)) = 0 := by
      rcases Int.decEq (rdE (ctX (rd r) ((200 : Nat) : Int))) 0 with g | g
      · exfalso
        obtain ⟨n, u, e, hp⟩ := pkP_form r 200
        have hv : ctV (rd r) 200 = 0 := by
          have g2 := ct_rd hb 200 n u e hp
          have he : e ≠ 0 := by intro q; apply g; rw [g2.1, q]; rfl
          rw [show (200 : Int) = ((200 : Nat) : Int) from rfl, g2.2]
          unfold pkP at hp
          split at hp
          · injection hp with p1 p2; exact p1.symm
          · rename_i a r'
            simp only at hp
            generalize (if szOf a = 0 then a else leN (r'.take (szOf a))) = N at hp
            split at hp
            · injection hp with p1 p2; exact p1.symm
            · split at hp
              · injection hp with p1 p2; exact p1.symm
              · split at hp
                · injection hp with p1 p2; exact p1.symm
                · injection hp with p1 p2; injection p2 with p3 p4; exact absurd p4.symm he
        unfold usO at h
        rw [hv] at h
        simp only [show (usI (0 : Int).toNat (ctX (rd r) 200) []) = (false, ctX (rd r) 200, []) from rfl, cond_false] at h
        rw [usO_bad m (ctX (rd r) 200) _ g] at h; cases h
      · exact g
    obtain ⟨n, r1, a1, a2, a3, a4⟩ := ct_read hb h0
    have hb1 : Byt r1 := by rw [a1] at hb; exact (Byt.app.1 hb).2
    have l1 : r.length = (cntB n).length + r1.length := by rw [a1, List.length_append]
    unfold usO at h ⊢
    rw [show (200 : Int) = ((200 : Nat) : Int) from rfl, a3, a4, Int.toNat_natCast] at h ⊢
    cases hq : (usI n (rd r1) []).1 with
    | true => rw [hq] at h; exact absurd h (by simp [epOk])
    | false =>
      rw [hq] at h
      simp only [cond_false] at h ⊢
      obtain ⟨es, r2, k1, k2, k3, k4, k5, k6, k7⟩ := usI_read n r1 [] hb1 (by omega) hq
      rw [k1, k2] at h ⊢
      simp only [List.nil_append] at h ⊢
      obtain ⟨rows, j1, j2, j3, j4⟩ := ih r2 (xs ++ [lV es]) k6 (by omega) h
      refine ⟨lV es :: rows, by rw [j1]; simp, by simp [j2], ?_, fun l hl => ?_⟩
      · have : undoL (lV es :: rows) = rowL (lV es) ++ undoL rows := by simp [undoL]
        rw [this, ← j3]
        unfold rowL
        rw [lV_els, k3, cntL_cntB, a1, List.map_append, k4]; simp
      · rcases List.mem_cons.1 hl with rfl | hl
        · show (Nat.ble (lV es).els.length 200 && (lV es).els.all okS) = true
          rw [lV_els, Bool.and_eq_true, Nat.ble_eq, List.all_eq_true]
          exact ⟨by omega, k5⟩
        · exact j4 l hl
def wrU (x : V) : List V := cntL (x.els.length : Nat) ++ undoL x.els
theorem upX_read {bs : List Nat} (hb : Byt bs) (hl : bs.length ≤ 3000) (h : epOk (upX (.l (bs.map nv))) = true) : wrU (.l (upX (.l (bs.map nv))).2.2) = bs.map nv ∧ ung [.l (upX (.l (bs.map nv))).2.2] = true := by
  have e : upX (.l (bs.map nv)) = usO (ctV (rd bs) ((200 : Nat) : Int)).toNat (ctX (rd bs) ((200 : Nat) : Int)) [] := rfl
  rw [e] at h ⊢
  have h0 : rdE (ctX (rd bs) ((200 : Nat) : Int)) = 0 := by
    rcases Int.decEq (rdE (ctX (rd bs) ((200 : Nat) : Int))) 0 with g | g
    · rw [usO_bad _ _ _ g] at h; cases h
    · exact g
  obtain ⟨n, r', q1, q2, q3, q4⟩ := ct_read hb h0
  rw [q3, q4, Int.toNat_natCast] at h ⊢
  have hbr : Byt r' := by rw [q1] at hb; exact (Byt.app.1 hb).2
  have hlr : bs.length = (cntB n).length + r'.length := by rw [q1, List.length_append]
  obtain ⟨es, g1, g2, g3, g4⟩ := usO_read n r' [] hbr (by omega) h
  rw [g1, List.nil_append]
  constructor
  · show cntL (es.length : Nat) ++ undoL es = _
    rw [g2, ← g3, cntL_cntB, ← List.map_append, ← q1]
  · show (Nat.ble es.length 200 && es.all okW) = true
    rw [Bool.and_eq_true, Nat.ble_eq, List.all_eq_true]
    exact ⟨by omega, g4⟩
end Go.Vm

namespace Go.Vm
open Go.RowKit
set_option linter.unusedVariables false
set_option linter.constructorNameAsVariable false

/-! ### Coins: what is written is read -/
def qN (q : Bool) : Nat := if q then 1 else 0
def coinNs (v h : Nat) (q : Bool) (k : List Nat) : List Nat := cntB (2 * h + qN q) ++ (leB 8 v ++ (cntB k.length ++ k))
theorem cntB_le (n : Nat) : 1 ≤ (cntB n).length ∧ (cntB n).length ≤ 9 := by
  rw [cntB_len]; split
  · omega
  · split
    · omega
    · split <;> omega
theorem qN_lt (q : Bool) : qN q ≤ 1 := by cases q <;> decide
theorem coinNs_map {v h : Nat} {q : Bool} {k : List Nat} {lk : V} (hk : lk.els = k.map nv) (hv : v < 18446744073709551616) : coinL (.l [.l [.i (v : Int), lk], .i (h : Int), .b q]) = (coinNs v h q k).map nv := by
  show cntL (2 * (h : Int) + (bif q then 1 else 0)) ++ (leV 8 (WU (v : Int)) ++ txtL lk.els) = _
  have en : 2 * (h : Int) + (bif q then 1 else 0) = ((2 * h + qN q : Nat) : Int) := by cases q <;> simp [qN]
  rw [en, hk, cntL_cntB, wu64_lt hv, leV_leB, txtL_map]
  simp [coinNs]
theorem coinNs_byt {v h : Nat} {q : Bool} {k : List Nat} (hk : Byt k) : Byt (coinNs v h q k) := Byt.app.2 ⟨cntB_byt, Byt.app.2 ⟨leB_byt _ _, Byt.app.2 ⟨cntB_byt, hk⟩⟩⟩
theorem coinNs_len (v h : Nat) (q : Bool) (k : List Nat) : 1 ≤ (coinNs v h q k).length ∧ (coinNs v h q k).length ≤ k.length + 26 := by
  have h1 := cntB_le (2 * h + qN q)
  have h2 := cntB_le k.length
  unfold coinNs
  simp only [List.length_append, leB_len]; omega
theorem coin_write {v h : Nat} {q : Bool} {k : List Nat} {lk : V} (hk : lk.els = k.map nv) (hkb : Byt k) (hkl : k.length ≤ 2000) (hv : v ≤ 2000000000000) (hh : h ≤ 1000000000) : (cqP (rd (coinNs v h q k))).2 = 0 ∧ sameC (cqP (rd (coinNs v h q k))).1 (.l [.l [.i (v : Int), lk], .i (h : Int), .b q]) = true := by
  have hq := qN_lt q
  have hl := coinNs_len v h q k
  obtain ⟨a1, a2⟩ := ct_write (n := 2 * h + qN q) (most := 2000000001) (r := leB 8 v ++ (cntB k.length ++ k)) (Byt.app.2 ⟨leB_byt _ _, Byt.app.2 ⟨cntB_byt, hkb⟩⟩) (by omega) (by omega)
  have eA : cqA (rd (coinNs v h q k)) = rd (leB 8 v ++ (cntB k.length ++ k)) := a1
  have eN : cqN (rd (coinNs v h q k)) = ((2 * h + qN q : Nat) : Int) := a2
  obtain ⟨b1, b2⟩ := raw_app (leB 8 v) (cntB k.length ++ k) 8 (by rw [leB_len]; rfl)
  have eB : cqB (rd (coinNs v h q k)) = rd (cntB k.length ++ k) := by
    show rawX (cqA _) (wiI 8) = _
    rw [eA, show wiI 8 = 8 from by decide, b1]
  have eM : cqM (rd (coinNs v h q k)) = (v : Int) := by
    show W64 (numE (rawV (cqA _) (wiI 8)).els) = _
    rw [eA, show wiI 8 = 8 from by decide, b2, num_le 8 v (by decide) (by rw [show (256 : Nat) ^ 8 = 18446744073709551616 by decide]; omega), w64_in (by omega) (by omega)]
  have lcb := cntB_le k.length
  obtain ⟨t1, t2⟩ := tx_write (m := 2000) (v := k) (r := []) (by simpa using hkb) (by decide) hkl (by simp only [List.length_append, List.length_nil]; omega)
  rw [List.append_nil] at t1 t2
  have eC : cqC (rd (coinNs v h q k)) = rd [] := by
    show txX (cqB _) 2000 = _
    rw [eB]; exact t1
  have eK : (txV (cqB (rd (coinNs v h q k))) 2000).els = k.map nv := by rw [eB]; exact t2
  have e : cqP (rd (coinNs v h q k)) = (cqO (rd (coinNs v h q k)) (ieq ((cqN (rd (coinNs v h q k))).tmod 2) 1), 0) := by
    unfold cqP
    rw [eB, eC, eM, rd_E, ile_iff.2 (show (0 : Int) ≤ (v : Int) by omega), ile_iff.2 (show (v : Int) ≤ 2000000000000 by omega)]
    rfl
  obtain ⟨g1, g2⟩ := half (n := 2 * h + qN q) (by omega)
  rw [e]
  refine ⟨rfl, ?_⟩
  unfold cqO
  rw [eM, eN, g1, g2]
  show (ieq (v : Int) (v : Int) && (veqL (txV (cqB (rd (coinNs v h q k))) 2000).els lk.els && (ieq (((2 * h + qN q) / 2 : Nat) : Int) (h : Int) && (decide ((2 * h + qN q) % 2 = 1) == q)))) = true
  rw [eK, hk, veqL_self, ieq_self, show (2 * h + qN q) / 2 = h by omega, ieq_self]
  cases q <;> simp [qN] <;> omega
/-- A coin and its name, that can be written and read. -/
def GoodS (s : V) : Prop := ∃ hs a v k h q lk, s = .l [.l [.l (hs.map nv), .i ((a : Nat) : Int)], .l [.l [.i ((v : Nat) : Int), lk], .i ((h : Nat) : Int), .b q]] ∧ lk.els = k.map nv ∧ Byt k ∧ k.length ≤ 300 ∧ Byt hs ∧ hs.length = 32 ∧ a < 4294967296 ∧ v ≤ 2000000000000 ∧ h ≤ 1000000000
theorem GoodS.ok {s : V} (h : GoodS s) : okS s = true := by
  obtain ⟨hs, a, v, k, h, q, lk, rfl, h1, h2, h3, _, _, _, h4, h5⟩ := h
  show (((ile 0 (h : Int) && ile (h : Int) 1000000000) && shb lk) && Nat.ble lk.els.length 2100) = true
  unfold shb
  rw [h1, List.length_map, ile_iff.2 (by omega), ile_iff.2 (by omega), Nat.ble_eq_true_of_le (show k.length ≤ LB by show k.length ≤ 268435456; omega), Nat.ble_eq_true_of_le (show k.length ≤ 2100 by omega)]; rfl
theorem spent_write {s : V} (hg : GoodS s) : ∃ ns, spentL s = ns.map nv ∧ Byt ns ∧ 1 ≤ ns.length ∧ ns.length ≤ 400 ∧ ∀ r, Byt r → r.length < 1000000000 → spY (rd (ns ++ r)) = rd r ∧ (spP (rd (ns ++ r))).2 = true ∧ sameS (spP (rd (ns ++ r))).1 s = true := by
  obtain ⟨hs, a, v, k, h, q, lk, rfl, h1, h2, h3, h4, h5, h6, h7, h8⟩ := hg
  have cl := coinNs_len v h q k
  have cb := cntB_le (coinNs v h q k).length
  refine ⟨hs ++ (leB 4 a ++ (cntB (coinNs v h q k).length ++ coinNs v h q k)), ?_, ?_, by simp only [List.length_append, leB_len]; omega, by simp only [List.length_append, leB_len]; omega, fun r hr hrl => ?_⟩
  · show (hs.map nv ++ leV 4 (a : Int)) ++ txtL (coinL (.l [.l [.i (v : Int), lk], .i (h : Int), .b q])) = _
    rw [coinNs_map h1 (by omega), leV_leB, txtL_map]; simp
  · exact Byt.app.2 ⟨h4, Byt.app.2 ⟨leB_byt _ _, Byt.app.2 ⟨cntB_byt, coinNs_byt h2⟩⟩⟩
  · have e : hs ++ (leB 4 a ++ (cntB (coinNs v h q k).length ++ coinNs v h q k)) ++ r = hs ++ (leB 4 a ++ (cntB (coinNs v h q k).length ++ coinNs v h q k ++ r)) := by simp
    rw [e]
    obtain ⟨c1, c2⟩ := raw_app hs (leB 4 a ++ (cntB (coinNs v h q k).length ++ coinNs v h q k ++ r)) 32 (by rw [h5]; rfl)
    obtain ⟨d1, d2⟩ := raw_app (leB 4 a) (cntB (coinNs v h q k).length ++ coinNs v h q k ++ r) 4 (by rw [leB_len]; rfl)
    have eE : rrE (rd (hs ++ (leB 4 a ++ (cntB (coinNs v h q k).length ++ coinNs v h q k ++ r)))) = rd (cntB (coinNs v h q k).length ++ coinNs v h q k ++ r) := by
      unfold rrE
      rw [c1, show wiI 4 = 4 from by decide, d1]
    have eV : rrV (rd (hs ++ (leB 4 a ++ (cntB (coinNs v h q k).length ++ coinNs v h q k ++ r)))) = .l [.l (hs.map nv), .i (a : Int)] := by
      unfold rrV
      rw [eE, rd_E, show (!ieq 0 0) = false from rfl, c1, c2, show wiI 4 = 4 from by decide, d2, num_le 4 a (by decide) (by rw [show (256 : Nat) ^ 4 = 4294967296 by decide]; exact h6), w32_lt h6]
      simp only [cond_false]
      rw [List.take_of_length_le (by simp [h5])]
    obtain ⟨t1, t2⟩ := tx_write (m := 2016) (v := coinNs v h q k) (r := r) (Byt.app.2 ⟨coinNs_byt h2, hr⟩) (by decide) (by omega) (by simp only [List.length_append]; omega)
    have eB : spB (rd (hs ++ (leB 4 a ++ (cntB (coinNs v h q k).length ++ coinNs v h q k ++ r)))) = rd (coinNs v h q k) := by
      show V.l [txV (rrE _) 2016, .i 0] = _
      rw [eE]
      rcases txV_form (rd (cntB (coinNs v h q k).length ++ coinNs v h q k ++ r)) ((2016 : Nat) : Int) with g | ⟨l, g⟩
      · rw [g] at t2
        have t2 : ([] : List V) = (coinNs v h q k).map nv := t2
        have := congrArg List.length t2
        simp only [List.length_nil, List.length_map] at this
        omega
      · rw [g] at t2
        have : l = (coinNs v h q k).map nv := t2
        show V.l [txV _ ((2016 : Nat) : Int), .i 0] = _
        rw [g, this]; rfl
    obtain ⟨w1, w2⟩ := coin_write (q := q) h1 h2 (by omega) h7 h8
    refine ⟨?_, ?_, ?_⟩
    · show txX (rrE _) 2016 = _
      rw [eE]; exact t1
    · show ieq (cqP (spB _)).2 0 = true
      rw [eB, w1]; rfl
    · show (veq (rrV _) (.l [.l (hs.map nv), .i (a : Int)]) && sameC (cqP (spB _)).1 (.l [.l [.i (v : Int), lk], .i (h : Int), .b q])) = true
      rw [eV, eB, w2, (veq_iff _ _).2 rfl]; rfl
theorem usI_write : ∀ (ss : List V), (∀ s ∈ ss, GoodS s) → ss.length ≤ 200 → ∃ ns, spentsL ss = ns.map nv ∧ Byt ns ∧ ns.length ≤ ss.length * 400 ∧ ∀ r ls, Byt r → r.length < 100000000 → ∃ es, usI ss.length (rd (ns ++ r)) ls = (false, rd r, ls ++ es) ∧ sameL sameS es ss = true ∧ es.length = ss.length := by
  intro ss
  induction ss with
  | nil => intro _ _; exact ⟨[], rfl, fun a ha => (by cases ha), by simp, fun r ls _ _ => ⟨[], by simp [usI], rfl, rfl⟩⟩
  | cons s ss ih =>
    intro hg hl
    simp only [List.length_cons] at hl
    obtain ⟨ns, n1, n2, n3, n4⟩ := ih (fun x hx => hg x (by simp [hx])) (by omega)
    obtain ⟨ms, m1, m2, m3, m4, m5⟩ := spent_write (hg s (by simp))
    refine ⟨ms ++ ns, ?_, Byt.app.2 ⟨m2, n2⟩, by simp only [List.length_append, List.length_cons]; omega, fun r ls hr hrl => ?_⟩
    · have : spentsL (s :: ss) = spentL s ++ spentsL ss := by simp [spentsL]
      rw [this, m1, n1, List.map_append]
    · obtain ⟨k1, k2, k3⟩ := m5 (ns ++ r) (Byt.app.2 ⟨n2, hr⟩) (by simp only [List.length_append]; omega)
      obtain ⟨es, j1, j2, j3⟩ := n4 r (ls ++ [(spP (rd (ms ++ (ns ++ r)))).1]) hr hrl
      refine ⟨(spP (rd (ms ++ (ns ++ r)))).1 :: es, ?_, ?_, by simp [j3]⟩
      · show usI (ss.length + 1) (rd (ms ++ ns ++ r)) ls = _
        rw [List.append_assoc]
        unfold usI
        rw [k1, k2, cond_true, j1]; simp
      · show (sameS _ s && sameL sameS es ss) = true
        rw [k3, j2]; rfl
def GoodR (l : V) : Prop := l.els.length ≤ 21 ∧ ∀ s ∈ l.els, GoodS s
theorem usO_write : ∀ (rows : List V), (∀ l ∈ rows, GoodR l) → rows.length ≤ 20 → ∃ ns, undoL rows = ns.map nv ∧ Byt ns ∧ ns.length ≤ rows.length * 8500 ∧ ∀ xs, ∃ es, usO rows.length (rd ns) xs = (false, rd [], xs ++ es) ∧ sameL rowsSame es rows = true ∧ es.length = rows.length ∧ ∀ z ∈ es, z.els.length ≤ 21 := by
  intro rows
  induction rows with
  | nil => intro _ _; exact ⟨[], rfl, fun a ha => (by cases ha), by simp, fun xs => ⟨[], by simp [usO], rfl, rfl, fun z hz => by cases hz⟩⟩
  | cons l rows ih =>
    intro hg hl
    simp only [List.length_cons] at hl
    obtain ⟨ns, n1, n2, n3, n4⟩ := ih (fun x hx => hg x (by simp [hx])) (by omega)
    obtain ⟨g1, g2⟩ := hg l (by simp)
    obtain ⟨ms, m1, m2, m3, m4⟩ := usI_write l.els g2 (by omega)
    have hc := cntB_le l.els.length
    refine ⟨cntB l.els.length ++ (ms ++ ns), ?_, Byt.app.2 ⟨cntB_byt, Byt.app.2 ⟨m2, n2⟩⟩, by simp only [List.length_append, List.length_cons]; omega, fun xs => ?_⟩
    · have : undoL (l :: rows) = rowL l ++ undoL rows := by simp [undoL]
      rw [this]
      unfold rowL
      rw [cntL_cntB, m1, n1]; simp
    · obtain ⟨c1, c2⟩ := ct_write (n := l.els.length) (most := 200) (r := ms ++ ns) (Byt.app.2 ⟨m2, n2⟩) (by omega) (by omega)
      obtain ⟨es, j1, j2, j3⟩ := m4 ns [] n2 (by omega)
      obtain ⟨fs, k1, k2, k3, k4⟩ := n4 (xs ++ [lV es])
      refine ⟨lV es :: fs, ?_, ?_, by simp [k3], fun z hz => ?_⟩
      · show usO (rows.length + 1) (rd (cntB l.els.length ++ (ms ++ ns))) xs = _
        unfold usO
        rw [show (200 : Int) = ((200 : Nat) : Int) from rfl, c1, c2, Int.toNat_natCast, j1]
        simp only [cond_false, List.nil_append]
        rw [k1]; simp
      · show (sameL sameS (lV es).els l.els && sameL rowsSame fs rows) = true
        rw [lV_els, j2, k2]; rfl
      · rcases List.mem_cons.1 hz with rfl | hz
        · rw [lV_els, j3]; exact g1
        · exact k4 z hz
theorem upX_write {x : V} (hg : ∀ l ∈ x.els, GoodR l) (hl : x.els.length ≤ 20) : ∃ es, upX (.l (wrU x)) = (false, rd [], es) ∧ sameL rowsSame es x.els = true ∧ es.length = x.els.length ∧ (∀ z ∈ es, z.els.length ≤ 21) ∧ (wrU x).length ≤ 200000 := by
  obtain ⟨ns, n1, n2, n3, n4⟩ := usO_write x.els hg hl
  obtain ⟨es, k1, k2, k3, k4⟩ := n4 []
  obtain ⟨c1, c2⟩ := ct_write (n := x.els.length) (most := 200) n2 (by omega) (by omega)
  have hc := cntB_le x.els.length
  have e : wrU x = (cntB x.els.length ++ ns).map nv := by
    unfold wrU
    rw [cntL_cntB, n1, List.map_append]
  refine ⟨es, ?_, k2, k3, k4, by rw [e, List.length_map, List.length_append]; omega⟩
  rw [e]
  show usO (ctV (rd _) ((200 : Nat) : Int)).toNat (ctX (rd _) ((200 : Nat) : Int)) [] = _
  rw [c1, c2, Int.toNat_natCast, k1]; simp

/-! ### The law LedgerBytes -/
inductive PLb where
  | m (x y : V) (n i : Int)
inductive QLb where
  | o (x y : V) (n i : Int)
  | r (x y : V) (n i : Int)
def BLb (R : Type) (p : PLb) (K : PLb → Option R) (kx : QLb → Option R) : Option R :=
  match p with
  | .m x y n i =>
    bif ilt i n then ck i y.els.length <| bif rgg [y.nth i.toNat, .n] then bif rgb (y.nth i.toNat) then K (.m x y n (W64 (i + 1))) else kx (.r x y n i) else none
    else kx (.o x y n i)
/-- The two are compared. -/
def lbT (x z : V) : Option Unit := bif ung [x] then bif veqL (wrU x) (wrU x) then bif lenU z x then bif sameU z x then some () else none else none else none else none
def lbC (x : V) : Option Unit :=
  bif ung [x] then bif Nat.ble (wrU x).length LIM then
    (bif epOk (upX (.l (wrU x))) then (match (upX (.l (wrU x))).2.2.isEmpty with
      | true => lbT x .n
      | false => lbT x (.l (upX (.l (wrU x))).2.2))
    else (bif ung [x] then bif veqL (wrU x) (wrU x) then none else none else none)) else none else none
noncomputable def lbL (us : List V) : Option Unit :=
  ln us.length <| lpC (BLb Unit) (hid FU) (.m (.l us) (.l us) (us.length : Nat) 0) fun q => match q with
    | .o x _ _ _ => lbC x
    | .r _ _ _ _ => some ()
noncomputable def lbP (bs : List V) (k : Option Unit) : Option Unit :=
  bif Nat.ble bs.length LIM then
    (bif epOk (upX (.l bs)) then (match (upX (.l bs)).2.2.isEmpty with
      | true => bif !veqL (wrU .n) bs then none else k
      | false => bif ung [.l (upX (.l bs)).2.2] then bif !veqL (wrU (.l (upX (.l bs)).2.2)) bs then none else k else none)
    else k) else none
theorem lbP_law {bs : List Nat} {k : Option Unit} (hb : Byt bs) (hl : bs.length ≤ 3000) : lbP (bs.map nv) k = k := by
  unfold lbP
  rw [show Nat.ble (bs.map nv).length LIM = true from Nat.ble_eq_true_of_le (by rw [List.length_map]; show bs.length ≤ 1073741824; omega), cond_true]
  cases hp : epOk (upX (.l (bs.map nv))) with
  | false => rfl
  | true =>
    obtain ⟨h2, h3⟩ := upX_read hb hl hp
    simp only [cond_true]
    cases hx : (upX (.l (bs.map nv))).2.2 with
    | nil =>
      rw [hx] at h2
      have h2 : wrU .n = bs.map nv := h2
      show (bif !veqL (wrU .n) (bs.map nv) then none else k) = k
      rw [h2, veqL_self]; rfl
    | cons e es =>
      rw [hx] at h2 h3
      show (bif ung [.l (e :: es)] then bif !veqL (wrU (.l (e :: es))) (bs.map nv) then none else k else none) = k
      rw [h3, h2, veqL_self]; rfl
theorem GoodR.ok {l : V} (h : GoodR l) : okW l = true := by
  unfold okW
  rw [Bool.and_eq_true, Nat.ble_eq, List.all_eq_true]
  exact ⟨by have := h.1; omega, fun s hs => (h.2 s hs).ok⟩
theorem lbC_law {x : V} (hg : ∀ l ∈ x.els, GoodR l) (hl : x.els.length ≤ 20) : lbC x = some () := by
  obtain ⟨es, e1, e2, e3, e4, e5⟩ := upX_write hg hl
  have h1 : ung [x] = true := by
    show (Nat.ble x.els.length 200 && x.els.all okW) = true
    rw [Bool.and_eq_true, Nat.ble_eq, List.all_eq_true]
    exact ⟨by omega, fun l hl => (hg l hl).ok⟩
  have hT : ∀ z : V, z.els = es → lbT x z = some () := fun z hz => by
    unfold lbT
    have h2 : lenU z x = true := by
      unfold lenU lenW
      simp only [Bool.and_eq_true, Nat.ble_eq, List.all_eq_true]
      rw [hz]
      exact ⟨⟨by omega, by omega⟩, fun w hw => by have := e4 w hw; omega, fun w hw => by have := (hg w hw).1; omega⟩
    have h3 : sameU z x = true := by unfold sameU; rw [hz]; exact e2
    rw [h1, veqL_self, h2, h3]; rfl
  unfold lbC
  rw [e1, h1, show Nat.ble (wrU x).length LIM = true from Nat.ble_eq_true_of_le (by show _ ≤ 1073741824; omega), show epOk (false, rd [], es) = true from rfl]
  simp only [cond_true]
  cases es with
  | nil => exact hT .n rfl
  | cons a r => exact hT _ rfl
theorem rg_good {l : V} (ht : (D.slice DSpent).has l) (h : rgb l = true) : GoodR l := by
  obtain ⟨_, h2, h3⟩ := rgO_good l.els 0 0 0 h
  have hlen : l.els.length ≤ 21 := by
    cases hl : l.els with
    | nil => simp
    | cons a r => have := h2 (by rw [hl]; simp); rw [hl] at this; omega
  refine ⟨hlen, fun s hs => ?_⟩
  have hd : DSpent.has s := by
    rcases ht with rfl | ⟨ys, rfl, hy⟩
    · cases hs
    · exact hy s hs
  obtain ⟨r, c, rfl, hr, hc⟩ := spent_v hd
  have hg := h3 _ hs
  obtain ⟨zs, rfl, hz⟩ := hr
  obtain ⟨za, zb, rfl, ⟨hs', rfl, hsl, hsb⟩, ⟨a, rfl, ha⟩⟩ := hasL2 hz
  obtain ⟨hn, rfl, hnb⟩ := u8s hsb
  obtain ⟨v, k, h, q, rfl, hk⟩ := coin_v hc
  have hg : (ile 0 v && (ile v 2000000000000 && (ile ((k.els.length : Nat) : Int) 2000 && (ile 0 h && (ile h 1000000000 && !ilt 300 ((k.els.length : Nat) : Int)))))) = true := hg
  simp only [Bool.and_eq_true, ile_iff, Bool.not_eq_true'] at hg
  obtain ⟨g1, g2, g3, g4, g5, g6⟩ := hg
  have g6 := not_ilt g6
  obtain ⟨vN, rfl⟩ := Int.eq_ofNat_of_zero_le g1
  obtain ⟨hN, rfl⟩ := Int.eq_ofNat_of_zero_le g4
  simp only [inR, lo, hi] at ha
  obtain ⟨aN, rfl⟩ := Int.eq_ofNat_of_zero_le ha.1
  obtain ⟨kn, hkn, hkb⟩ : ∃ kn : List Nat, k.els = kn.map nv ∧ Byt kn := by
    rcases hk with rfl | ⟨ys, rfl, hy⟩
    · exact ⟨[], rfl, fun a ha => by cases ha⟩
    · obtain ⟨kn, h1, h2⟩ := u8s hy; exact ⟨kn, h1, h2⟩
  rw [hkn, List.length_map] at g6
  exact ⟨hn, aN, vN, kn, hN, q, k, rfl, hkn, hkb, by omega, hnb, by simpa using hsl, by omega, by omega, by omega⟩
abbrev DUndo : D := .slice (.slice DSpent)
theorem rgg_sm {l : V} (h : (D.slice DSpent).sm l) : rgg [l, .n] = true := by
  show (Nat.ble l.els.length 9223372036854775807 && l.els.all fun s => Nat.ble (cK (s.nth 1)).els.length 9223372036854775807) = true
  rw [Bool.and_eq_true, Nat.ble_eq, List.all_eq_true]
  refine ⟨h.1, fun s hs => ?_⟩
  rw [Nat.ble_eq]
  have := h.2 s hs
  -- the coin's lock
  have h2 : D.smL [DRef, DCoin] s.els := this
  unfold cK V.nth
  cases hse : s.els with
  | nil => simp [V.els]
  | cons r t =>
    rw [hse] at h2
    cases t with
    | nil => simp [V.els]
    | cons c t =>
      have h3 : D.smL [.struct [.int .i64, .slice (.int .u8)], .int .i64, .bool] c.els := h2.2.1
      simp only [List.getD_cons_succ, List.getD_cons_zero]
      cases hce : c.els with
      | nil => simp [V.els]
      | cons o u =>
        rw [hce] at h3
        have h4 : D.smL [.int .i64, .slice (.int .u8)] o.els := h3.1
        simp only [List.getD_cons_zero]
        cases hoe : o.els with
        | nil => simp [V.els]
        | cons v w =>
          rw [hoe] at h4
          cases w with
          | nil => simp [V.els]
          | cons k w =>
            have h5 : (D.slice (.int .u8)).sm k := h4.2.1
            simpa using h5.1
theorem lb_law {x y : V} {kx : QLb → Option Unit} (hr : ∀ x y n i, kx (.r x y n i) = some ()) : ∀ (r a : List V) (fuel : Nat), y.els = a ++ r → (∀ l ∈ r, (D.slice DSpent).has l ∧ (D.slice DSpent).sm l) → (∀ l ∈ a, GoodR l) → ((∀ l ∈ y.els, GoodR l) → ∀ n i, kx (.o x y n i) = some ()) → a.length + r.length ≤ 1000 → r.length < fuel → lpC (BLb Unit) fuel (.m x y (y.els.length : Nat) (a.length : Nat)) kx = some () := by
  intro r
  induction r with
  | nil =>
    intro a fuel he hd hg hk hl hf
    obtain ⟨f, rfl⟩ : ∃ f, fuel = f + 1 := ⟨fuel - 1, by omega⟩
    rw [List.append_nil] at he
    show (bif ilt (a.length : Nat) (y.els.length : Nat) then _ else kx _) = _
    rw [show ilt (a.length : Nat) (y.els.length : Nat) = false by rw [he]; simp [ilt]]
    exact hk (fun l hl => hg l (by rw [← he]; exact hl)) _ _
  | cons e r ih =>
    intro a fuel he hd hg hk hl hf
    obtain ⟨f, rfl⟩ : ∃ f, fuel = f + 1 := ⟨fuel - 1, by simp at hf; omega⟩
    simp only [List.length_cons] at hl hf
    have hle : y.els.length = a.length + (r.length + 1) := by rw [he]; simp
    obtain ⟨d1, d2⟩ := hd e (by simp)
    show (bif ilt (a.length : Nat) (y.els.length : Nat) then _ else kx _) = _
    rw [show ilt (a.length : Nat) (y.els.length : Nat) = true by rw [he]; simp [ilt]; omega, cond_true, ck_in (by omega) (by omega), nth_at he, rgg_sm d2, cond_true, i_next (by omega)]
    cases hq : rgb e with
    | false => exact hr _ _ _ _
    | true =>
      have := ih (a ++ [e]) f (by rw [he]; simp) (fun l hl => hd l (by simp [hl])) (fun l hl => by
        rcases List.mem_append.1 hl with hl | hl
        · exact hg l hl
        · rw [List.mem_singleton] at hl; subst hl; exact rg_good d1 hq) hk (by simp; omega) (by omega)
      rw [show (a ++ [e]).length = a.length + 1 by simp] at this
      exact this
theorem lbL_law {us : List V} (hd : ∀ l ∈ us, (D.slice DSpent).has l) (hm : ∀ l ∈ us, (D.slice DSpent).sm l) (hl : us.length ≤ 20) : lbL us = some () := by
  have hq := fq_big
  unfold lbL
  rw [ln_in (by omega)]
  exact lb_law (x := .l us) (y := .l us) (kx := fun q => match q with
    | .o x _ _ _ => lbC x
    | .r _ _ _ _ => some ()) (fun _ _ _ _ => rfl) us [] (hid FU) rfl (fun l h => ⟨hd l h, hm l h⟩) (fun l h => by cases h) (fun hg n i => lbC_law hg hl) (by simp only [List.length_nil]; omega) (by omega)
end Go.Vm
namespace Go.Vm
noncomputable def lbN : Option Unit := lpC (BLb Unit) (hid FU) (.m .n .n 0 0) fun q => match q with
    | .o x _ _ _ => lbC x
    | .r _ _ _ _ => some ()
theorem lbN_law : lbN = some () := by
  have hq := fq_big
  exact lb_law (x := .n) (y := .n) (kx := fun q => match q with
    | .o x _ _ _ => lbC x
    | .r _ _ _ _ => some ()) (fun _ _ _ _ => rfl) [] [] (hid FU) rfl (fun l h => by cases h) (fun l h => by cases h) (fun hg n i => lbC_law hg (by simp [V.els])) (by simp) (by simp only [List.length_nil]; omega)
end Go.Vm
end
