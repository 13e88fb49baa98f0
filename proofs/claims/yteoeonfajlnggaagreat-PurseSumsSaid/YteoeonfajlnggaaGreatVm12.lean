/- What the operations of a program do, shown once for all programs; and numbers. -/
import Derived.Test.YteoeonfajlnggaaGreatVm11
import Derived.Test.YteoeonfajlnggaaGreatVm10
import Derived.Maps.RangeRun
import Derived.WalkKit
set_option linter.constructorNameAsVariable false
set_option linter.unusedVariables false
set_option linter.unusedSimpArgs false
noncomputable section
namespace Go.Vm
open Go.RowKit
variable {R : Type}
set_option linter.unusedVariables false
set_option linter.constructorNameAsVariable false

/-! ### The hasher: bytes taken in one by one, sums made at the end -/
def bd3 (lo hi : Int) (n : Nat) (k : Option R) : Option R := bif ile 0 lo && ile lo hi && ile hi n then k else none
theorem bd3_in {lo hi : Int} {n : Nat} {k : Option R} (h1 : 0 ≤ lo) (h2 : lo ≤ hi) (h3 : hi ≤ n) : bd3 lo hi n k = k := by
  unfold bd3
  rw [ile_iff.2 h1, ile_iff.2 h2, ile_iff.2 h3]; rfl
def mxO (s : V) (xs : List V) (K : V → Nat → Nat → Option R) : Option R :=
  bd3 (0 : Nat) 64 xs.length <| bif Nat.ble (0 + 0 + 64) xs.length then (bif Nat.ble 64 ((xs.drop (0 + 0)).take 64).length then bd3 64 (xs.length : Nat) xs.length <| K (mixV s (.l ((xs.drop (0 + 0)).take 64))) (0 + 64) (((xs.length : Nat) : Int) - 64).toNat else none) else none
def mxW (s : V) (xs : List V) (off q : Nat) (K : V → Nat → Nat → Option R) : Option R :=
  bd3 (0 : Nat) 64 q <| bif Nat.ble (off + 0 + 64) xs.length then (bif Nat.ble 64 ((xs.drop (off + 0)).take 64).length then bd3 64 (q : Nat) q <| K (mixV s (.l ((xs.drop (off + 0)).take 64))) (off + 64) (((q : Nat) : Int) - 64).toNat else none) else none
inductive PHi where
  | b (s : V) (m : Int) (l xs : List V) (n i : Int) (nl sh : Bool)
  | c (s : V) (m : Int) (l xs : List V) (n i : Int) (off q : Nat) (sh : Bool)
inductive QHi where
  | b (s : V) (m : Int) (l xs : List V) (n i : Int) (nl sh : Bool)
  | c (s : V) (m : Int) (l xs : List V) (n i : Int) (off q : Nat) (sh : Bool)
def BHi (R : Type) (p : PHi) (K : PHi → Option R) (kx : QHi → Option R) : Option R :=
  match p with
  | .b s m l xs n i nl sh => match nl with
    | false => ln xs.length <| bif ile 64 (xs.length : Nat) then mxO s xs (fun s' o q => K (.c s' m l xs n i o q sh)) else kx (.b s m l xs n i false sh)
    | true => ln xs.length <| bif ile 64 (xs.length : Nat) then none else kx (.b s m l xs n i true sh)
  | .c s m l xs n i off q sh => bif Nat.ble (off + q) xs.length then (ln ((xs.drop off).take q).length <| bif ile 64 (((xs.drop off).take q).length : Nat) then mxW s xs off q (fun s' o q' => K (.c s' m l xs n i o q' sh)) else kx (.c s m l xs n i off q sh)) else none
def elL (l : List V) (i : Int) : List V := (V.nth (.l l) i.toNat).els
def ckL (i : Int) (n : Nat) (k : Option R) : Option R := bif ile 0 i && ilt i (n : Nat) then k else none
inductive PHo where
  | a (s : V) (m : Int) (l : List V) (n i : Int)
  | b (s : V) (m : Int) (l xs : List V) (n i : Int) (nl sh : Bool)
  | c (s : V) (m : Int) (l xs : List V) (n i : Int) (off q : Nat) (sh : Bool)
inductive QHo where
  | a (s : V) (m : Int) (l : List V) (n i : Int)
  | b (s : V) (m : Int) (l xs : List V) (n i : Int) (nl sh : Bool)
  | c (s : V) (m : Int) (l xs : List V) (n i : Int) (off q : Nat) (sh : Bool)
def hiK (K : PHo → Option R) : QHi → Option R
  | .b s m l xs n i nl sh => K (.b s m l xs n (W64 (i + 1)) nl sh)
  | .c s m l xs n i off q sh => K (.c s m l xs n (W64 (i + 1)) off q sh)
noncomputable def BHo (R : Type) (p : PHo) (K : PHo → Option R) (kx : QHo → Option R) : Option R :=
  match p with
  | .a s m l n i => bif ilt i n then ckL i l.length <| ln (elL l i).length <| lim (elL l i).length <| lpC (BHi R) (hid FU) (.b s (WU (m + WU ((elL l i).length : Nat))) l (elL l i) n i (elL l i).isEmpty false) (hiK K) else kx (.a s m l n i)
  | .b s m l xs n i nl sh => bif ilt i n then ckL i l.length <| ln (elL l i).length <| lim (xs.length + (elL l i).length) <| lpC (BHi R) (hid FU) (.b s (WU (m + WU ((elL l i).length : Nat))) l (xs ++ elL l i) n i (nl && (elL l i).isEmpty) sh) (hiK K) else kx (.b s m l xs n i nl sh)
  | .c s m l xs n i off q sh => bif ilt i n then ckL i l.length <| ln (elL l i).length <| bif Nat.ble (off + q) xs.length then (bif Nat.beq (off + q) xs.length || !sh then lim (q + (elL l i).length) <| lpC (BHi R) (hid FU) (.b s (WU (m + WU ((elL l i).length : Nat))) l ((xs.drop off).take q ++ elL l i) n i false sh) (hiK K) else none) else none else kx (.c s m l xs n i off q sh)
/-! The padding. -/
inductive PHp where
  | b (s : V) (m : Int) (rs : List V) (nl sh : Bool) (z : V) (xs : List V)
  | c (s : V) (m : Int) (rs : List V) (off q : Nat) (sh : Bool) (z : V) (xs : List V)
inductive QHp where
  | b (s : V) (m : Int) (rs : List V) (nl sh : Bool) (z : V) (xs : List V)
  | c (s : V) (m : Int) (rs : List V) (off q : Nat) (sh : Bool) (z : V) (xs : List V)
def hpB (xs : List V) (K : List V → Option R) (kx : Option R) : Option R :=
  ln xs.length <| bif !(ieq ((xs.length : Int).tmod 64) 56) then lim (xs.length + 1) <| K (xs ++ [.i 0]) else kx
def BHp (R : Type) (p : PHp) (K : PHp → Option R) (kx : QHp → Option R) : Option R :=
  match p with
  | .b s m rs nl sh z xs => hpB xs (fun ys => K (.b s m rs nl sh z ys)) (kx (.b s m rs nl sh z xs))
  | .c s m rs off q sh z xs => hpB xs (fun ys => K (.c s m rs off q sh z ys)) (kx (.c s m rs off q sh z xs))
/-! The last pieces. -/
inductive PHm where
  | b0 (s : V) (m : Int) (rs : List V) (nl sh : Bool) (z st : V) (xs : List V)
  | b1 (s : V) (m : Int) (rs : List V) (nl sh : Bool) (z st : V) (xs : List V) (o2 q2 : Nat)
  | c0 (s : V) (m : Int) (rs : List V) (off q : Nat) (sh : Bool) (z st : V) (xs : List V)
  | c1 (s : V) (m : Int) (rs : List V) (off q : Nat) (sh : Bool) (z st : V) (xs : List V) (o2 q2 : Nat)
inductive QHm where
  | b0 (s : V) (m : Int) (rs : List V) (nl sh : Bool) (z st : V) (xs : List V)
  | b1 (s : V) (m : Int) (rs : List V) (nl sh : Bool) (z st : V) (xs : List V) (o2 q2 : Nat)
  | c0 (s : V) (m : Int) (rs : List V) (off q : Nat) (sh : Bool) (z st : V) (xs : List V)
  | c1 (s : V) (m : Int) (rs : List V) (off q : Nat) (sh : Bool) (z st : V) (xs : List V) (o2 q2 : Nat)
def hm0 (st : V) (xs : List V) (K : V → Nat → Nat → Option R) (kx : Option R) : Option R := ln xs.length <| bif ilt 0 (xs.length : Nat) then mxO st xs K else kx
def hm1 (st : V) (xs : List V) (o2 q2 : Nat) (K : V → Nat → Nat → Option R) (kx : Option R) : Option R :=
  bif Nat.ble (o2 + q2) xs.length then (ln ((xs.drop o2).take q2).length <| bif ilt 0 (((xs.drop o2).take q2).length : Nat) then mxW st xs o2 q2 K else kx) else none
def BHm (R : Type) (p : PHm) (K : PHm → Option R) (kx : QHm → Option R) : Option R :=
  match p with
  | .b0 s m rs nl sh z st xs => hm0 st xs (fun t o q => K (.b1 s m rs nl sh z t xs o q)) (kx (.b0 s m rs nl sh z st xs))
  | .b1 s m rs nl sh z st xs o2 q2 => hm1 st xs o2 q2 (fun t o q => K (.b1 s m rs nl sh z t xs o q)) (kx (.b1 s m rs nl sh z st xs o2 q2))
  | .c0 s m rs off q sh z st xs => hm0 st xs (fun t o q' => K (.c1 s m rs off q sh z t xs o q')) (kx (.c0 s m rs off q sh z st xs))
  | .c1 s m rs off q sh z st xs o2 q2 => hm1 st xs o2 q2 (fun t o q' => K (.c1 s m rs off q sh z t xs o q')) (kx (.c1 s m rs off q sh z st xs o2 q2))
def hbV (n : Int) (j : Nat) : V := .i (IntKind.wrap .u8 (n.fdiv (2 ^ (8 * j))))
def ap8h (n : Int) : Nat → List V → (List V → Option R) → Option R
  | 0, xs, k => k xs
  | j + 1, xs, k => lim (xs.length + 1) <| ap8h n j (xs ++ [hbV n j]) k
def hs4 (j : Nat) (n : Int) (h : V) : V := (((h.put (4 * j) (hbV n 3)).put (4 * j + 1) (hbV n 2)).put (4 * j + 2) (hbV n 1)).put (4 * j + 3) (.i (IntKind.wrap .u8 n))
def hs8 (v : V) : Nat → Nat → V → V
  | 0, _, h => h
  | m + 1, j, h => hs8 v m (j + 1) (hs4 j (elV v j) h)
def hmK (k : V → Option R) : QHm → Option R
  | .b0 _ _ _ _ _ _ st _ => k (hs8 st 8 0 z32)
  | .b1 _ _ _ _ _ _ st _ _ _ => k (hs8 st 8 0 z32)
  | .c0 _ _ _ _ _ _ _ st _ => k (hs8 st 8 0 z32)
  | .c1 _ _ _ _ _ _ _ st _ _ _ => k (hs8 st 8 0 z32)
noncomputable def hpK (k : V → Option R) : QHp → Option R
  | .b s m rs nl sh z xs => ap8h (WU (8 * m)) 8 xs fun ys => lpC (BHm R) (hid FU) (.b0 s m rs nl sh z s ys) (hmK k)
  | .c s m rs off q sh z xs => ap8h (WU (8 * m)) 8 xs fun ys => lpC (BHm R) (hid FU) (.c0 s m rs off q sh z s ys) (hmK k)
noncomputable def hoK (k : V → Option R) : QHo → Option R
  | .a s m _ _ _ => k (hs8 (mixV s (.l (.i 128 :: (List.replicate 55 (.i 0) ++ [hbV (WU (8 * m)) 7, hbV (WU (8 * m)) 6, hbV (WU (8 * m)) 5, hbV (WU (8 * m)) 4, hbV (WU (8 * m)) 3, hbV (WU (8 * m)) 2, hbV (WU (8 * m)) 1, hbV (WU (8 * m)) 0])))) 8 0 z32)
  | .b s m _ xs _ _ nl sh => lim (0 + xs.length) <| lim (xs.length + 1) <| lpC (BHp R) (hid FU) (.b s m xs nl sh z32 (xs ++ [.i 128])) (hpK k)
  | .c s m _ xs _ _ off q sh => bif Nat.ble (off + q) xs.length then (lim (0 + ((xs.drop off).take q).length) <| lim (((xs.drop off).take q).length + 1) <| lpC (BHp R) (hid FU) (.c s m xs off q sh z32 ((xs.drop off).take q ++ [.i 128])) (hpK k)) else none
noncomputable def dsG (l : List V) (k : V → Option R) : Option R :=
  ln l.length <| lpC (BHo R) (hid FU) (.a s0V 0 l (l.length : Nat) 0) (hoK k)
end Go.Vm


namespace Go.Vm
open Go.RowKit
variable {R : Type}
set_option linter.unusedVariables false
set_option linter.constructorNameAsVariable false

/-! ### The hasher makes SHA-256 of all that it took in -/
theorem s8_st (S : S8) : s8 (stV S) = S := by cases S; rfl
theorem mixV_nat (S : S8) (X : List Nat) : mixV (stV S) (.l (X.map nv)) = stV (mixN S X) := by
  unfold mixV
  rw [s8_st, bytesN_eq (x := .l (X.map nv)) rfl]
theorem mixes_succ {d : Nat} {S : S8} {L : List Nat} (h : L ≠ []) : mixesN (d + 1) S L = mixesN d (mixN S (L.take 64)) (L.drop 64) := by
  cases L with
  | nil => exact absurd rfl h
  | cons a r => rfl
theorem mixes_app : ∀ (a b : Nat) (S : S8) (X Y : List Nat), X.length = 64 * a → mixesN (a + b) S (X ++ Y) = mixesN b (mixesN a S X) Y := by
  intro a
  induction a with
  | zero =>
    intro b S X Y h
    have : X = [] := List.length_eq_zero_iff.1 (by omega)
    subst this
    rw [Nat.zero_add]; rfl
  | succ a ih =>
    intro b S X Y h
    have hne : X ≠ [] := by intro q; subst q; simp at h
    have hne2 : X ++ Y ≠ [] := by intro q; exact hne (List.append_eq_nil_iff.1 q).1
    rw [show a + 1 + b = (a + b) + 1 by omega, mixes_succ hne2, mixes_succ hne, List.take_append_of_le_length (by omega), List.drop_append_of_le_length (by omega)]
    exact ih b _ _ _ (by rw [List.length_drop]; omega)
theorem mixes_take : ∀ (a : Nat) (S : S8) (X Y : List Nat), X.length = 64 * a → mixesN a S (X ++ Y) = mixesN a S X := by
  intro a S X Y h
  have := mixes_app a 0 S X Y h
  rw [Nat.add_zero] at this
  rw [this]; rfl
theorem drop_app {X Y : List Nat} {a : Nat} (b : Nat) (h : X.length = a) : (X ++ Y).drop (a + b) = Y.drop b := by
  subst h
  rw [List.drop_append, List.drop_eq_nil_of_le (by omega)]; simp
theorem take_app {X Y : List Nat} {a : Nat} (b : Nat) (h : X.length = a) : (X ++ Y).take (a + b) = X ++ Y.take b := by
  subst h
  rw [List.take_append, List.take_of_length_le (by omega)]; simp
/-- What is taken in: whole pieces are mixed, the rest waits. -/
structure Took (C : List Nat) (S : S8) (B : List Nat) : Prop where
  s : S = mixesN (C.length / 64) s0N (C.take (64 * (C.length / 64)))
  r : B = C.drop (64 * (C.length / 64))
theorem Took.len {C B : List Nat} {S : S8} (h : Took C S B) : B.length = C.length % 64 := by
  rw [h.r, List.length_drop]; omega
theorem took_0 : Took [] s0N [] := ⟨rfl, rfl⟩
theorem Took.add {C B D : List Nat} {S : S8} (h : Took C S B) : Took (C ++ D) (mixesN ((B ++ D).length / 64) S (B ++ D)) ((B ++ D).drop (64 * ((B ++ D).length / 64))) := by
  have hl := h.len
  have hC : C.take (64 * (C.length / 64)) ++ B = C := by rw [h.r, List.take_append_drop]
  have hX : (C.take (64 * (C.length / 64))).length = 64 * (C.length / 64) := by rw [List.length_take]; omega
  have hn : (C ++ D).length / 64 = C.length / 64 + (B ++ D).length / 64 := by
    rw [List.length_append, List.length_append, hl]; omega
  have hCD : C ++ D = C.take (64 * (C.length / 64)) ++ (B ++ D) := by rw [← List.append_assoc, hC]
  have hq : (B ++ D).take (64 * ((B ++ D).length / 64)) ++ (B ++ D).drop (64 * ((B ++ D).length / 64)) = B ++ D := List.take_append_drop _ _
  have hql : ((B ++ D).take (64 * ((B ++ D).length / 64))).length = 64 * ((B ++ D).length / 64) := by rw [List.length_take]; omega
  refine ⟨?_, ?_⟩
  · have e1 : (C ++ D).take (64 * ((C ++ D).length / 64)) = C.take (64 * (C.length / 64)) ++ (B ++ D).take (64 * ((B ++ D).length / 64)) := by
      rw [hn, Nat.mul_add]
      conv => lhs; rw [hCD]
      exact take_app _ hX
    rw [e1, hn, mixes_app _ _ _ _ _ hX, ← h.s]
    have := mixes_take _ S _ ((B ++ D).drop (64 * ((B ++ D).length / 64))) hql
    rw [hq] at this
    exact this
  · rw [hn, Nat.mul_add]
    conv => rhs; rw [hCD]
    exact (drop_app _ hX).symm
theorem tooked_pad {C B : List Nat} {S : S8} (h : Took C S B) : mixesN ((B ++ padN C.length).length / 64) S (B ++ padN C.length) = mixesN (C.length / 64 + 2) s0N (C ++ padN C.length) := by
  have hl := h.len
  have hC : C.take (64 * (C.length / 64)) ++ B = C := by rw [h.r, List.take_append_drop]
  have hX : (C.take (64 * (C.length / 64))).length = 64 * (C.length / 64) := by rw [List.length_take]; omega
  have hp := padN_len C.length
  have e : (B ++ padN C.length).length / 64 ≤ 2 := by rw [List.length_append]; omega
  have e1 : (B ++ padN C.length).length % 64 = 0 := by rw [List.length_append]; omega
  have hCD : C ++ padN C.length = C.take (64 * (C.length / 64)) ++ (B ++ padN C.length) := by rw [← List.append_assoc, hC]
  rw [hCD, mixes_app _ _ _ _ _ hX, ← h.s]
  have := mixesN_more ((B ++ padN C.length).length / 64) (2 - (B ++ padN C.length).length / 64) S (B ++ padN C.length) (by omega)
  rw [← this]
  congr 1; omega
/-! One slice more. -/
theorem mxW_law {S : S8} {B : List Nat} {j : Nat} (h : 64 * (j + 1) ≤ B.length) (K : V → Nat → Nat → Option R) :
    mxW (stV S) (B.map nv) (64 * j) (B.length - 64 * j) K = K (stV (mixN S ((B.drop (64 * j)).take 64))) (64 * (j + 1)) (B.length - 64 * (j + 1)) := by
  have e : (((B.map nv).drop (64 * j + 0)).take 64) = (((B.drop (64 * j)).take 64).map nv) := by rw [Nat.add_zero, List.map_take, List.map_drop]
  have hl : ((((B.drop (64 * j)).take 64)).map nv).length = 64 := by simp; omega
  unfold mxW
  rw [bd3_in (by omega) (by omega) (by omega), e, hl, show Nat.ble (64 * j + 0 + 64) (B.map nv).length = true from Nat.ble_eq_true_of_le (by rw [List.length_map]; omega), show Nat.ble 64 64 = true from rfl, cond_true, cond_true, bd3_in (by omega) (by omega) (by omega), mixV_nat]
  congr 1; omega
theorem mxO_law {S : S8} {B : List Nat} (h : 64 ≤ B.length) (K : V → Nat → Nat → Option R) :
    mxO (stV S) (B.map nv) K = K (stV (mixN S (B.take 64))) (64 * 1) (B.length - 64 * 1) := by
  have e : (((B.map nv).drop (0 + 0)).take 64) = ((B.take 64).map nv) := by rw [List.drop_zero, List.map_take]
  have hl : ((B.take 64).map nv).length = 64 := by simp; omega
  unfold mxO
  rw [e, hl, List.length_map, bd3_in (by omega) (by omega) (by omega), show Nat.ble (0 + 0 + 64) B.length = true from Nat.ble_eq_true_of_le (by omega), show Nat.ble 64 64 = true from rfl, cond_true, cond_true, bd3_in (by omega) (by omega) (by omega), mixV_nat]
  congr 1; omega
theorem hi_c {B : List Nat} (hB : B.length ≤ 2000000000) {m n i : Int} {l : List V} {sh : Bool} (k : QHi → Option R) : ∀ (d j fuel : Nat) (S : S8), d = (B.length - 64 * j) / 64 → 64 * j ≤ B.length → d < fuel →
    lpC (BHi R) fuel (.c (stV S) m l (B.map nv) n i (64 * j) (B.length - 64 * j) sh) k = k (.c (stV (mixesN d S (B.drop (64 * j)))) m l (B.map nv) n i (64 * (j + d)) (B.length - 64 * (j + d)) sh) := by
  intro d
  induction d with
  | zero =>
    intro j fuel S hd hj hf
    obtain ⟨f, rfl⟩ : ∃ f, fuel = f + 1 := ⟨fuel - 1, by omega⟩
    show (bif Nat.ble (64 * j + (B.length - 64 * j)) (B.map nv).length then (ln (((B.map nv).drop (64 * j)).take (B.length - 64 * j)).length <| bif ile 64 ((((B.map nv).drop (64 * j)).take (B.length - 64 * j)).length : Nat) then _ else _) else none) = _
    have hl : (((B.map nv).drop (64 * j)).take (B.length - 64 * j)).length = B.length - 64 * j := by simp
    rw [hl, show Nat.ble (64 * j + (B.length - 64 * j)) (B.map nv).length = true from Nat.ble_eq_true_of_le (by rw [List.length_map]; omega), cond_true, ln_in (by omega)]
    have : ile 64 ((B.length - 64 * j : Nat) : Int) = false := by
      cases hq : ile 64 ((B.length - 64 * j : Nat) : Int) with
      | false => rfl
      | true => have := ile_iff.1 hq; omega
    rw [this]; rfl
  | succ d ih =>
    intro j fuel S hd hj hf
    obtain ⟨f, rfl⟩ : ∃ f, fuel = f + 1 := ⟨fuel - 1, by omega⟩
    show (bif Nat.ble (64 * j + (B.length - 64 * j)) (B.map nv).length then (ln (((B.map nv).drop (64 * j)).take (B.length - 64 * j)).length <| bif ile 64 ((((B.map nv).drop (64 * j)).take (B.length - 64 * j)).length : Nat) then mxW (stV S) (B.map nv) (64 * j) (B.length - 64 * j) (fun s' o q' => lpC (BHi R) f (.c s' m l (B.map nv) n i o q' sh) k) else _) else none) = _
    have hl : (((B.map nv).drop (64 * j)).take (B.length - 64 * j)).length = B.length - 64 * j := by simp
    rw [hl, show Nat.ble (64 * j + (B.length - 64 * j)) (B.map nv).length = true from Nat.ble_eq_true_of_le (by rw [List.length_map]; omega), cond_true, ln_in (by omega), ile_iff.2 (show (64 : Int) ≤ ((B.length - 64 * j : Nat) : Int) by omega), cond_true, mxW_law (by omega), ih (j + 1) f _ (by omega) (by omega) (by omega)]
    have hne : B.drop (64 * j) ≠ [] := by intro q; have := congrArg List.length q; simp at this; omega
    rw [mixes_succ hne, List.drop_drop, show 64 * j + 64 = 64 * (j + 1) by omega, show j + 1 + d = j + (d + 1) by omega]
/-- The pieces that are whole are mixed. -/
def hiEnd (S : S8) (m : Int) (l : List V) (B : List Nat) (n i : Int) (nl sh : Bool) : QHi :=
  if B.length < 64 then .b (stV S) m l (B.map nv) n i nl sh else .c (stV (mixesN (B.length / 64) S B)) m l (B.map nv) n i (64 * (B.length / 64)) (B.length - 64 * (B.length / 64)) sh
theorem hi_b {B : List Nat} (hB : B.length ≤ 2000000000) {S : S8} {m n i : Int} {l : List V} {nl sh : Bool} (hn : nl = true → B = []) (k : QHi → Option R) (fuel : Nat) (hf : B.length < fuel) :
    lpC (BHi R) fuel (.b (stV S) m l (B.map nv) n i nl sh) k = k (hiEnd S m l B n i nl sh) := by
  obtain ⟨f, rfl⟩ : ∃ f, fuel = f + 1 := ⟨fuel - 1, by omega⟩
  unfold hiEnd
  cases nl with
  | true =>
    have := hn rfl
    subst this
    rfl
  | false =>
    show (ln (B.map nv).length <| bif ile 64 ((B.map nv).length : Nat) then mxO (stV S) (B.map nv) (fun s' o q => lpC (BHi R) f (.c s' m l (B.map nv) n i o q sh) k) else _) = _
    rw [List.length_map, ln_in (by omega)]
    by_cases h : B.length < 64
    · have : ile 64 ((B.length : Nat) : Int) = false := by
        cases hq : ile 64 ((B.length : Nat) : Int) with
        | false => rfl
        | true => have := ile_iff.1 hq; omega
      rw [this, if_pos h]; rfl
    · rw [ile_iff.2 (show (64 : Int) ≤ (B.length : Nat) by omega), cond_true, mxO_law (by omega), if_neg h]
      obtain ⟨d, hd⟩ : ∃ d, B.length / 64 = d + 1 := ⟨B.length / 64 - 1, by omega⟩
      have := hi_c hB (m := m) (n := n) (i := i) (l := l) (sh := sh) k d 1 f (mixN S (B.take 64)) (by omega) (by omega) (by omega)
      rw [this]
      have hne : B ≠ [] := by intro q; subst q; simp at h
      rw [hd, mixes_succ hne, show 1 + d = d + 1 by omega]
end Go.Vm


namespace Go.Vm
open Go.RowKit
variable {R : Type}
set_option linter.unusedVariables false
set_option linter.constructorNameAsVariable false

def catB (l : List V) : List Nat := l.flatMap bytesN
def InvO (p : PHo) (l : List V) (n i : Int) (C : List Nat) : Prop :=
  (C = [] ∧ p = .a s0V 0 l n i) ∨
  (∃ (S : S8) (B : List Nat) (nl sh : Bool), Took C S B ∧ (nl = true → B = []) ∧ p = .b (stV S) (C.length : Nat) l (B.map nv) n i nl sh) ∨
  (∃ (S : S8) (B X : List Nat) (off : Nat) (sh : Bool), Took C S B ∧ X.drop off = B ∧ off + B.length = X.length ∧ p = .c (stV S) (C.length : Nat) l (X.map nv) n i off B.length sh)
def EndO (q : QHo) (C : List Nat) : Prop :=
  (C = [] ∧ ∃ l n i, q = .a s0V 0 l n i) ∨
  (∃ (S : S8) (B : List Nat) (nl sh : Bool) (l : List V) (n i : Int), Took C S B ∧ q = .b (stV S) (C.length : Nat) l (B.map nv) n i nl sh) ∨
  (∃ (S : S8) (B X : List Nat) (off : Nat) (sh : Bool) (l : List V) (n i : Int), Took C S B ∧ X.drop off = B ∧ off + B.length = X.length ∧ q = .c (stV S) (C.length : Nat) l (X.map nv) n i off B.length sh)
theorem ho_in {C B D : List Nat} {S : S8} (h : Took C S B) (hl : C.length + D.length ≤ 1000000000) {l : List V} {n i : Int} {nl sh : Bool} (hn : nl = true → B ++ D = []) (K : PHo → Option R) :
    ∃ p, InvO p l n (W64 (i + 1)) (C ++ D) ∧ lpC (BHi R) (hid FU) (.b (stV S) (WU ((C.length : Nat) + WU ((D.map nv).length : Nat))) l ((B ++ D).map nv) n i nl sh) (hiK K) = K p := by
  have hbl := h.len
  have hBD : (B ++ D).length ≤ 2000000000 := by rw [List.length_append]; omega
  have hF : (B ++ D).length < hid FU := by rw [hid_eq]; show _ < 4611686018427387904; omega
  rw [hi_b hBD hn _ _ hF, List.length_map]
  have hm : WU ((C.length : Nat) + WU ((D.length : Nat) : Int)) = (((C ++ D).length : Nat) : Int) := by
    rw [wu64_lt (by omega), ← Int.natCast_add, wu64_lt (by omega), List.length_append]
  rw [hm]
  have ha := h.add (D := D)
  unfold hiEnd
  by_cases hc : (B ++ D).length < 64
  · rw [if_pos hc]
    rw [show (B ++ D).length / 64 = 0 by omega] at ha
    exact ⟨_, .inr (.inl ⟨S, B ++ D, nl, sh, ha, hn, rfl⟩), rfl⟩
  · rw [if_neg hc]
    refine ⟨_, .inr (.inr ⟨_, _, B ++ D, 64 * ((B ++ D).length / 64), sh, ha, rfl, ?_, rfl⟩), ?_⟩
    · rw [List.length_drop]; omega
    · rw [List.length_drop]; rfl
theorem ckL_in {i : Int} {n : Nat} {k : Option R} (h0 : 0 ≤ i) (h1 : i < n) : ckL i n k = k := by
  unfold ckL
  rw [ile_iff.2 h0, show ilt i (n : Nat) = true by simp [ilt]; exact h1]; rfl
theorem ho_law (k : QHo → Option R) : ∀ (r a : List V) (C : List Nat) (p : PHo) (fuel : Nat), (∀ y ∈ r, ∃ D : List Nat, y.els = D.map nv) → InvO p (a ++ r) ((a ++ r).length : Nat) (a.length : Nat) C →
    C.length + (catB r).length ≤ 1000000000 → (a ++ r).length ≤ 100000000 → r.length < fuel → ∃ q, EndO q (C ++ catB r) ∧ lpC (BHo R) fuel p k = k q := by
  intro r
  induction r with
  | nil =>
    intro a C p fuel _ hi hl ha hf
    obtain ⟨f, rfl⟩ : ∃ f, fuel = f + 1 := ⟨fuel - 1, by omega⟩
    rw [show catB [] = [] from rfl, List.append_nil]
    have no : ilt ((a ++ []).length : Nat) (((a ++ []).length : Nat) : Int) = false := by rw [ilt_nat]; exact decide_eq_false (by omega)
    have na : ilt (a.length : Nat) (((a ++ []).length : Nat) : Int) = false := by rw [ilt_nat]; exact decide_eq_false (by simp)
    rcases hi with ⟨h1, rfl⟩ | ⟨S, B, nl, sh, h1, h2, rfl⟩ | ⟨S, B, X, off, sh, h1, h2, h3, rfl⟩
    · refine ⟨.a s0V 0 (a ++ []) ((a ++ []).length : Nat) (a.length : Nat), .inl ⟨h1, _, _, _, rfl⟩, ?_⟩
      show (bif ilt (a.length : Nat) ((a ++ []).length : Nat) then _ else _) = _
      rw [na]; rfl
    · refine ⟨.b (stV S) (C.length : Nat) (a ++ []) (B.map nv) ((a ++ []).length : Nat) (a.length : Nat) nl sh, .inr (.inl ⟨S, B, nl, sh, _, _, _, h1, rfl⟩), ?_⟩
      show (bif ilt (a.length : Nat) ((a ++ []).length : Nat) then _ else _) = _
      rw [na]; rfl
    · refine ⟨.c (stV S) (C.length : Nat) (a ++ []) (X.map nv) ((a ++ []).length : Nat) (a.length : Nat) off B.length sh, .inr (.inr ⟨S, B, X, off, sh, _, _, _, h1, h2, h3, rfl⟩), ?_⟩
      show (bif ilt (a.length : Nat) ((a ++ []).length : Nat) then _ else _) = _
      rw [na]; rfl
  | cons y r ih =>
    intro a C p fuel ht hi hl ha hf
    obtain ⟨f, rfl⟩ : ∃ f, fuel = f + 1 := ⟨fuel - 1, by omega⟩
    obtain ⟨D, hD⟩ := ht y (by simp)
    have hb : bytesN y = D := bytesN_eq hD
    have hcat : catB (y :: r) = D ++ catB r := by
      show bytesN y ++ catB r = _; rw [hb]
    rw [hcat] at hl ⊢
    rw [List.length_append] at hl
    have yes : ilt (a.length : Nat) (((a ++ y :: r).length : Nat) : Int) = true := by rw [ilt_nat]; exact decide_eq_true (by simp)
    have hel : elL (a ++ y :: r) (a.length : Nat) = D.map nv := by
      unfold elL V.nth
      show ((a ++ y :: r).getD a.length .n).els = _
      rw [List.getD_eq_getElem?_getD, List.getElem?_append_right (Nat.le_refl _), Nat.sub_self]; exact hD
    have hck : ∀ k' : Option R, ckL (a.length : Nat) (a ++ y :: r).length k' = k' := fun k' => ckL_in (by omega) (by simp; omega)
    have happ : a ++ y :: r = (a ++ [y]) ++ r := by simp
    have fin : ∀ (pn : PHo), InvO pn (a ++ y :: r) ((a ++ y :: r).length : Nat) (W64 ((a.length : Nat) + 1)) (C ++ D) → ∃ q, EndO q (C ++ (D ++ catB r)) ∧ lpC (BHo R) f pn k = k q := fun pn hp => by
      rw [i_next (by simp at ha; omega)] at hp
      have := ih (a ++ [y]) (C ++ D) pn f (fun z hz => ht z (by simp [hz])) (by rw [← happ]; simpa using hp) (by rw [List.length_append]; omega) (by rw [← happ]; exact ha) (by simp at hf; omega)
      rw [List.append_assoc] at this
      exact this
    rcases hi with ⟨h1, rfl⟩ | ⟨S, B, nl, sh, h1, h2, rfl⟩ | ⟨S, B, X, off, sh, h1, h2, h3, rfl⟩
    · subst h1
      obtain ⟨pn, g1, g2⟩ := ho_in (R := R) took_0 (D := D) (by omega) (l := a ++ y :: r) (n := ((a ++ y :: r).length : Nat)) (i := (a.length : Nat)) (nl := (D.map nv).isEmpty) (sh := false) (fun h => by
        cases D with
        | nil => rfl
        | cons _ _ => cases h) (fun x' => lpC (BHo R) f x' k)
      obtain ⟨q, q1, q2⟩ := fin pn g1
      refine ⟨q, q1, ?_⟩
      show (bif ilt (a.length : Nat) ((a ++ y :: r).length : Nat) then ckL (a.length : Nat) (a ++ y :: r).length _ else _) = _
      rw [yes, cond_true, hck, hel, List.length_map, ln_in (by omega), lim_in (by omega), ← q2, ← g2, List.length_map]; rfl
    · have hbl := h1.len
      obtain ⟨pn, g1, g2⟩ := ho_in (R := R) h1 (D := D) (by omega) (l := a ++ y :: r) (n := ((a ++ y :: r).length : Nat)) (i := (a.length : Nat)) (nl := nl && (D.map nv).isEmpty) (sh := sh) (fun h => by
        rw [Bool.and_eq_true] at h
        rw [h2 h.1]
        cases D with
        | nil => rfl
        | cons _ _ => cases h.2) (fun x' => lpC (BHo R) f x' k)
      obtain ⟨q, q1, q2⟩ := fin pn g1
      refine ⟨q, q1, ?_⟩
      show (bif ilt (a.length : Nat) ((a ++ y :: r).length : Nat) then ckL (a.length : Nat) (a ++ y :: r).length _ else _) = _
      rw [yes, cond_true, hck, hel, List.length_map, List.length_map, ln_in (by omega), lim_in (by omega), ← q2, ← g2, List.length_map, List.map_append]
    · have hbl := h1.len
      obtain ⟨pn, g1, g2⟩ := ho_in (R := R) h1 (D := D) (by omega) (l := a ++ y :: r) (n := ((a ++ y :: r).length : Nat)) (i := (a.length : Nat)) (nl := false) (sh := sh) (fun h => by cases h) (fun x' => lpC (BHo R) f x' k)
      obtain ⟨q, q1, q2⟩ := fin pn g1
      refine ⟨q, q1, ?_⟩
      show (bif ilt (a.length : Nat) ((a ++ y :: r).length : Nat) then ckL (a.length : Nat) (a ++ y :: r).length _ else _) = _
      have hx : ((X.map nv).drop off).take B.length = B.map nv := by
        rw [← List.map_drop, h2, List.take_of_length_le (by simp)]
      rw [yes, cond_true, hck, hel, List.length_map, List.length_map, ln_in (by omega), show Nat.ble (off + B.length) X.length = true from Nat.ble_eq_true_of_le (by omega), cond_true, show (Nat.beq (off + B.length) X.length || !sh) = true by rw [h3, Nat.beq_refl]; rfl, cond_true, lim_in (by omega), hx, ← q2, ← g2, List.length_map, List.map_append]
/-! The end. -/
theorem hp_loop {P Q : Type} {B : P → (P → Option R) → (Q → Option R) → Option R} (e : List V → P) (e' : List V → Q) (he : ∀ xs K kx, B (e xs) K kx = hpB xs (fun ys => K (e ys)) (kx (e' xs))) (k : Q → Option R) : ∀ (m n : Nat) (xs : List V), (xs.length + m) % 64 = 56 → m < 64 → xs.length + m ≤ 1073741824 → m < n →
    lpC B n (e xs) k = k (e' (xs ++ List.replicate m (.i 0))) := by
  intro m
  induction m with
  | zero =>
    intro n xs h1 h2 h3 h4
    obtain ⟨n, rfl⟩ : ∃ n', n = n' + 1 := ⟨n - 1, by omega⟩
    rw [lpC, he]
    show ln xs.length (bif !(ieq ((xs.length : Int).tmod 64) 56) then _ else _) = _
    rw [ln_in (by omega), show (64 : Int) = ((64 : Nat) : Int) from rfl, tmod_nat, ieq_yes (by omega)]
    simp
  | succ m ih =>
    intro n xs h1 h2 h3 h4
    obtain ⟨n, rfl⟩ : ∃ n', n = n' + 1 := ⟨n - 1, by omega⟩
    rw [lpC, he]
    show ln xs.length (bif !(ieq ((xs.length : Int).tmod 64) 56) then lim (xs.length + 1) _ else _) = _
    rw [ln_in (by omega), show (64 : Int) = ((64 : Nat) : Int) from rfl, tmod_nat, ieq_no (by omega), lim_in (by omega)]
    simp only [Bool.not_false, cond_true]
    rw [ih n (xs ++ [V.i 0]) (by simp; omega) (by omega) (by simp; omega) (by omega)]
    simp [List.replicate_succ]
theorem hbV_eq {n : Nat} (j : Nat) : hbV (n : Int) j = nv (n / 2 ^ (8 * j) % 256) := by
  unfold hbV
  rw [fdiv_pow, Nat.shiftRight_eq_div_pow]
  have : IntKind.wrap .u8 ((n / 2 ^ (8 * j) : Nat) : Int) = ((n / 2 ^ (8 * j) % 256 : Nat) : Int) := by
    unfold IntKind.wrap
    simp [IntKind.bits, IntKind.signed]
  rw [this]; rfl
theorem ap8h_eq {n : Int} : ∀ (j : Nat) (xs : List V) (k : List V → Option R), xs.length + j ≤ 1073741824 → ap8h n j xs k = k (xs ++ ((List.range j).reverse.map (hbV n))) := by
  intro j
  induction j with
  | zero => intro xs k h; simp [ap8h]
  | succ j ih =>
    intro xs k h
    rw [ap8h, lim_in (by omega), ih _ _ (by simp; omega)]
    simp [List.range_succ]
theorem hs_out {s : S8} (h : OkS s) : hs8 (stV s) 8 0 z32 = .l ((outN s).map nv) := by
  have one : ∀ (j a : Nat) (h : V), a < M32 → hs4 j (a : Int) h = (((h.put (4 * j) (nv (a / 16777216 % 256))).put (4 * j + 1) (nv (a / 65536 % 256))).put (4 * j + 2) (nv (a / 256 % 256))).put (4 * j + 3) (nv (a % 256)) := by
    intro j a h ha
    have ha : a < 4294967296 := ha
    have w : IntKind.wrap .u8 (a : Int) = ((a % 256 : Nat) : Int) := by
      unfold IntKind.wrap; simp [IntKind.bits, IntKind.signed]
    unfold hs4
    rw [hbV_eq 3, hbV_eq 2, hbV_eq 1, w]; rfl
  have e : hs8 (stV s) 8 0 z32 = hs4 7 (s.h : Int) (hs4 6 (s.g : Int) (hs4 5 (s.f : Int) (hs4 4 (s.e : Int) (hs4 3 (s.d : Int) (hs4 2 (s.c : Int) (hs4 1 (s.b : Int) (hs4 0 (s.a : Int) z32))))))) := by kernel_rfl
  rw [e, one _ _ _ h.a, one _ _ _ h.b, one _ _ _ h.c, one _ _ _ h.d, one _ _ _ h.e, one _ _ _ h.f, one _ _ _ h.g, one _ _ _ h.h]
  refine (?_ : @Eq V _ _)
  kernel_rfl
theorem hm_w {P Q : Type} {Bm : P → (P → Option R) → (Q → Option R) → Option R} {B : List Nat} (e : V → Nat → Nat → P) (e' : V → Nat → Nat → Q) (he : ∀ st o q K kx, Bm (e st o q) K kx = hm1 st (B.map nv) o q (fun t o' q' => K (e t o' q')) (kx (e' st o q)))
    (hB : B.length ≤ 2000000000) (k : Q → Option R) : ∀ (d j fuel : Nat) (S : S8), B.length = 64 * (j + d) → d < fuel → lpC Bm fuel (e (stV S) (64 * j) (B.length - 64 * j)) k = k (e' (stV (mixesN d S (B.drop (64 * j)))) (64 * (j + d)) (B.length - 64 * (j + d))) := by
  intro d
  induction d with
  | zero =>
    intro j fuel S hl hf
    obtain ⟨f, rfl⟩ : ∃ f, fuel = f + 1 := ⟨fuel - 1, by omega⟩
    rw [lpC, he]
    unfold hm1
    have h0 : (((B.map nv).drop (64 * j)).take (B.length - 64 * j)).length = 0 := by simp; omega
    rw [h0, show Nat.ble (64 * j + (B.length - 64 * j)) (B.map nv).length = true from Nat.ble_eq_true_of_le (by rw [List.length_map]; omega), cond_true, ln_in (by omega)]
    rfl
  | succ d ih =>
    intro j fuel S hl hf
    obtain ⟨f, rfl⟩ : ∃ f, fuel = f + 1 := ⟨fuel - 1, by omega⟩
    rw [lpC, he]
    unfold hm1
    have h0 : (((B.map nv).drop (64 * j)).take (B.length - 64 * j)).length = B.length - 64 * j := by simp
    rw [h0, show Nat.ble (64 * j + (B.length - 64 * j)) (B.map nv).length = true from Nat.ble_eq_true_of_le (by rw [List.length_map]; omega), cond_true, ln_in (by omega), show ilt 0 ((B.length - 64 * j : Nat) : Int) = true by rw [show (0 : Int) = ((0 : Nat) : Int) from rfl, ilt_nat]; exact decide_eq_true (by omega), cond_true, mxW_law (by omega), ih (j + 1) f _ (by omega) (by omega)]
    have hne : B.drop (64 * j) ≠ [] := by intro q; have := congrArg List.length q; simp at this; omega
    rw [mixes_succ hne, List.drop_drop, show 64 * j + 64 = 64 * (j + 1) by omega, show j + 1 + d = j + (d + 1) by omega]
theorem hm_law {P Q : Type} {Bm : P → (P → Option R) → (Q → Option R) → Option R} {B : List Nat} (e0 : V → P) (e : V → Nat → Nat → P) (e0' : V → Q) (e' : V → Nat → Nat → Q) (he0 : ∀ st K kx, Bm (e0 st) K kx = hm0 st (B.map nv) (fun t o' q' => K (e t o' q')) (kx (e0' st)))
    (he : ∀ st o q K kx, Bm (e st o q) K kx = hm1 st (B.map nv) o q (fun t o' q' => K (e t o' q')) (kx (e' st o q)))
    (hB : B.length ≤ 2000000000) (k : Q → Option R) (d fuel : Nat) (S : S8) (hl : B.length = 64 * (d + 1)) (hf : d + 1 < fuel) : ∃ o q, lpC Bm fuel (e0 (stV S)) k = k (e' (stV (mixesN (d + 1) S B)) o q) := by
  obtain ⟨f, rfl⟩ : ∃ f, fuel = f + 1 := ⟨fuel - 1, by omega⟩
  have h := hm_w e e' he hB k d 1 f (mixN S (B.take 64)) (by omega) (by omega)
  refine ⟨64 * (1 + d), B.length - 64 * (1 + d), ?_⟩
  rw [lpC, he0]
  unfold hm0
  rw [List.length_map, ln_in (by omega), show ilt 0 ((B.length : Nat) : Int) = true by rw [show (0 : Int) = ((0 : Nat) : Int) from rfl, ilt_nat]; exact decide_eq_true (by omega), cond_true, mxO_law (by omega), h]
  have hne : B ≠ [] := by intro q; subst q; simp at hl
  rw [mixes_succ hne]
theorem pad_bytes {C B : List Nat} (hl : C.length ≤ 1000000000) : (B.map nv ++ [V.i 128] ++ List.replicate ((119 - C.length % 64) % 64) (.i 0)) ++ ((List.range 8).reverse.map (hbV (WU (8 * ((C.length : Nat) : Int))))) = (B ++ padN C.length).map nv := by
  have e : WU (8 * ((C.length : Nat) : Int)) = ((8 * C.length : Nat) : Int) := by
    rw [show (8 : Int) * ((C.length : Nat) : Int) = ((8 * C.length : Nat) : Int) by omega]; exact wu64_lt (by omega)
  rw [e]
  unfold padN
  simp only [List.map_append, List.map_cons, List.map_replicate, List.append_assoc]
  congr 1
  have h8 : (List.range 8).reverse.map (hbV ((8 * C.length : Nat) : Int)) = [8 * C.length / 2 ^ 56 % 256, 8 * C.length / 2 ^ 48 % 256, 8 * C.length / 2 ^ 40 % 256, 8 * C.length / 2 ^ 32 % 256, 8 * C.length / 2 ^ 24 % 256, 8 * C.length / 2 ^ 16 % 256, 8 * C.length / 2 ^ 8 % 256, 8 * C.length % 256].map nv := by
    show [hbV _ 7, hbV _ 6, hbV _ 5, hbV _ 4, hbV _ 3, hbV _ 2, hbV _ 1, hbV _ 0] = _
    simp only [hbV_eq]
    simp [Nat.div_one]
  rw [h8]; rfl
theorem ho_end {q : QHo} {C : List Nat} (h : EndO q C) (hl : C.length ≤ 1000000000) (k : V → Option R) : hoK k q = k (.l ((shaN C).map nv)) := by
  have hF : ∀ n : Nat, n < 4000000000 → n < hid FU := fun n hn => by rw [hid_eq]; show n < 4611686018427387904; omega
  -- what is done behind the padding
  have fin : ∀ {B : List Nat} {S : S8}, Took C S B → ((B ++ padN C.length).length / 64 ≥ 1 ∧ (B ++ padN C.length).length % 64 = 0) ∧ hs8 (stV (mixesN ((B ++ padN C.length).length / 64) S (B ++ padN C.length))) 8 0 z32 = .l ((shaN C).map nv) := fun {B S} ht => by
    have hb := ht.len
    have hp := padN_len C.length
    refine ⟨by rw [List.length_append]; omega, ?_⟩
    rw [tooked_pad ht, hs_out (okS_mixes _ _ _ okS_0)]; rfl
  rcases h with ⟨rfl, l, n, i, rfl⟩ | ⟨S, B, nl, sh, l, n, i, ht, rfl⟩ | ⟨S, B, X, off, sh, l, n, i, ht, h2, h3, rfl⟩
  · have f := fin took_0
    have e : (V.i 128 :: (List.replicate 55 (V.i 0) ++ [hbV (WU (8 * 0)) 7, hbV (WU (8 * 0)) 6, hbV (WU (8 * 0)) 5, hbV (WU (8 * 0)) 4, hbV (WU (8 * 0)) 3, hbV (WU (8 * 0)) 2, hbV (WU (8 * 0)) 1, hbV (WU (8 * 0)) 0])) = ([] ++ padN ([] : List Nat).length).map nv := by
      have := pad_bytes (C := []) (B := []) (by simp)
      exact this
    have e1 : mixesN (([] ++ padN ([] : List Nat).length).length / 64) s0N ([] ++ padN ([] : List Nat).length) = mixN s0N ([] ++ padN ([] : List Nat).length) := by
      have hlen : ([] ++ padN ([] : List Nat).length).length = 64 := by rw [List.nil_append, padN_len]; rfl
      have hne : ([] ++ padN ([] : List Nat).length) ≠ [] := by intro q; rw [q] at hlen; cases hlen
      rw [hlen, show 64 / 64 = 0 + 1 from rfl, mixes_succ hne, mixN_take]; rfl
    show k (hs8 (mixV s0V (.l _)) 8 0 z32) = _
    rw [e, show s0V = stV s0N from rfl, mixV_nat, ← e1, f.2]
  · have hb := ht.len
    obtain ⟨⟨f1, f1'⟩, f2⟩ := fin ht
    show (lim (0 + (B.map nv).length) <| lim ((B.map nv).length + 1) <| lpC (BHp R) (hid FU) (.b (stV S) _ (B.map nv) nl sh z32 (B.map nv ++ [.i 128])) (hpK k)) = _
    rw [List.length_map, lim_in (by omega), lim_in (by omega)]
    have h1 := hp_loop (B := BHp R) (fun xs => .b (stV S) ((C.length : Nat) : Int) (B.map nv) nl sh z32 xs) (fun xs => .b (stV S) ((C.length : Nat) : Int) (B.map nv) nl sh z32 xs) (fun _ _ _ => rfl) (hpK k) ((119 - C.length % 64) % 64) (hid FU) (B.map nv ++ [V.i 128]) (by simp; omega) (by omega) (by simp; omega) (hF _ (by omega))
    rw [h1]
    show ap8h (WU (8 * ((C.length : Nat) : Int))) 8 _ _ = _
    rw [ap8h_eq 8 _ _ (by simp; omega), pad_bytes hl]
    obtain ⟨d, hd⟩ : ∃ d, (B ++ padN C.length).length / 64 = d + 1 := ⟨(B ++ padN C.length).length / 64 - 1, by omega⟩
    have hlen : (B ++ padN C.length).length = 64 * (d + 1) := by omega
    have hp := padN_len C.length
    obtain ⟨o, q, h3⟩ := hm_law (Bm := BHm R) (B := B ++ padN C.length) (fun st => .b0 (stV S) ((C.length : Nat) : Int) (B.map nv) nl sh z32 st ((B ++ padN C.length).map nv)) (fun st o q => .b1 (stV S) ((C.length : Nat) : Int) (B.map nv) nl sh z32 st ((B ++ padN C.length).map nv) o q)
      (fun st => .b0 (stV S) ((C.length : Nat) : Int) (B.map nv) nl sh z32 st ((B ++ padN C.length).map nv)) (fun st o q => .b1 (stV S) ((C.length : Nat) : Int) (B.map nv) nl sh z32 st ((B ++ padN C.length).map nv) o q)
      (fun _ _ _ => rfl) (fun _ _ _ _ _ => rfl) (by rw [List.length_append]; omega) (hmK k) d (hid FU) S hlen (hF _ (by rw [List.length_append] at hlen; omega))
    rw [h3]
    show k (hs8 (stV (mixesN (d + 1) S (B ++ padN C.length))) 8 0 z32) = _
    rw [← hd, f2]
  · have hb := ht.len
    obtain ⟨⟨f1, f1'⟩, f2⟩ := fin ht
    have hx : ((X.map nv).drop off).take B.length = B.map nv := by
      rw [← List.map_drop, h2, List.take_of_length_le (by simp)]
    show (bif Nat.ble (off + B.length) (X.map nv).length then (lim (0 + (((X.map nv).drop off).take B.length).length) <| lim ((((X.map nv).drop off).take B.length).length + 1) <| lpC (BHp R) (hid FU) (.c (stV S) _ (X.map nv) off B.length sh z32 (((X.map nv).drop off).take B.length ++ [.i 128])) (hpK k)) else none) = _
    rw [hx, List.length_map, List.length_map, show Nat.ble (off + B.length) X.length = true from Nat.ble_eq_true_of_le (by omega), cond_true, lim_in (by omega), lim_in (by omega)]
    have h1 := hp_loop (B := BHp R) (fun xs => .c (stV S) ((C.length : Nat) : Int) (X.map nv) off B.length sh z32 xs) (fun xs => .c (stV S) ((C.length : Nat) : Int) (X.map nv) off B.length sh z32 xs) (fun _ _ _ => rfl) (hpK k) ((119 - C.length % 64) % 64) (hid FU) (B.map nv ++ [V.i 128]) (by simp; omega) (by omega) (by simp; omega) (hF _ (by omega))
    rw [h1]
    show ap8h (WU (8 * ((C.length : Nat) : Int))) 8 _ _ = _
    rw [ap8h_eq 8 _ _ (by simp; omega), pad_bytes hl]
    obtain ⟨d, hd⟩ : ∃ d, (B ++ padN C.length).length / 64 = d + 1 := ⟨(B ++ padN C.length).length / 64 - 1, by omega⟩
    have hlen : (B ++ padN C.length).length = 64 * (d + 1) := by omega
    have hp := padN_len C.length
    obtain ⟨o, q, h4⟩ := hm_law (Bm := BHm R) (B := B ++ padN C.length) (fun st => .c0 (stV S) ((C.length : Nat) : Int) (X.map nv) off B.length sh z32 st ((B ++ padN C.length).map nv)) (fun st o q => .c1 (stV S) ((C.length : Nat) : Int) (X.map nv) off B.length sh z32 st ((B ++ padN C.length).map nv) o q)
      (fun st => .c0 (stV S) ((C.length : Nat) : Int) (X.map nv) off B.length sh z32 st ((B ++ padN C.length).map nv)) (fun st o q => .c1 (stV S) ((C.length : Nat) : Int) (X.map nv) off B.length sh z32 st ((B ++ padN C.length).map nv) o q)
      (fun _ _ _ => rfl) (fun _ _ _ _ _ => rfl) (by rw [List.length_append]; omega) (hmK k) d (hid FU) S hlen (hF _ (by rw [List.length_append] at hlen; omega))
    rw [h4]
    show k (hs8 (stV (mixesN (d + 1) S (B ++ padN C.length))) 8 0 z32) = _
    rw [← hd, f2]
theorem ds_law {l : List V} (ht : ∀ y ∈ l, ∃ D : List Nat, y.els = D.map nv) (hc : (catB l).length ≤ 1000000000) (hl : l.length ≤ 100000000) (k : V → Option R) : dsG l k = k (.l ((shaN (catB l)).map nv)) := by
  unfold dsG
  rw [ln_in (by omega)]
  obtain ⟨q, h1, h2⟩ := ho_law (R := R) (hoK k) l [] [] (.a s0V 0 l (l.length : Nat) 0) (hid FU) ht (.inl ⟨rfl, rfl⟩) (by simpa using hc) (by simpa using hl) (by rw [hid_eq]; show l.length < 4611686018427387904; omega)
  rw [h2]
  exact ho_end h1 hc k
end Go.Vm


namespace Go.Vm
open Go.RowKit
variable {R : Type}
set_option linter.unusedVariables false
/-! digest.Sum, Twice as functions of their arguments. -/
def sumL : List V → Nat
  | [] => 0
  | y :: l => y.els.length + sumL l
def dsg : List V → Bool := fun xs => match xs with
  | [.l l] => bif Nat.ble (sumL l) 1000000000 then Nat.ble l.length 100000000 else false
  | _ => false
def shaB (l : List Nat) : V := .l ((shaN l).map nv)
def dsr (h : Nat) : List V → List Rs := fun xs => match xs with
  | [x] => [.d h (shaB (catB x.els))]
  | _ => []
def dtr (h : Nat) : List V → List Rs := fun xs => match xs with
  | [x] => [.d h (shaB (shaN (catB x.els)))]
  | _ => []
theorem bytes_els {y : V} (h : (D.slice (.int .u8)).has y) : ∃ D : List Nat, y.els = D.map nv ∧ ∀ a ∈ D, a < 256 := by
  rcases h with rfl | ⟨ys, rfl, hy⟩
  · exact ⟨[], rfl, fun a ha => by cases ha⟩
  · obtain ⟨ns, rfl, hn⟩ := u8s hy
    exact ⟨ns, rfl, hn⟩
theorem catB_len {l : List V} (h : ∀ y ∈ l, ∃ D : List Nat, y.els = D.map nv) : (catB l).length = sumL l := by
  induction l with
  | nil => rfl
  | cons y l ih =>
    obtain ⟨D, hD⟩ := h y (by simp)
    show (bytesN y ++ catB l).length = y.els.length + sumL l
    rw [List.length_append, ih (fun z hz => h z (by simp [hz])), bytesN_eq hD, hD, List.length_map]
theorem ds_run {l : List V} (hd : (D.slice (.slice (.int .u8))).has (.l l)) (hg : dsg [.l l] = true) (k : V → Option R) : dsG l k = k (shaB (catB l)) := by
  have ht : ∀ y ∈ l, ∃ D : List Nat, y.els = D.map nv := fun y hy => by
    rcases hd with q | ⟨ys, q, hys⟩
    · cases q
    · cases q; obtain ⟨D, h1, _⟩ := bytes_els (hys y hy); exact ⟨D, h1⟩
  have hg' : (bif Nat.ble (sumL l) 1000000000 then Nat.ble l.length 100000000 else false) = true := hg
  cases h1 : Nat.ble (sumL l) 1000000000 with
  | false => rw [h1] at hg'; cases hg'
  | true =>
    rw [h1, cond_true] at hg'
    exact ds_law ht (by rw [catB_len ht]; exact Nat.le_of_ble_eq_true h1) (Nat.le_of_ble_eq_true hg') k
theorem dsg_l {x : V} (hg : dsg [x] = true) : ∃ l, x = .l l := by
  cases x with
  | l l => exact ⟨l, rfl⟩
  | _ => cases hg
end Go.Vm


namespace Go.Vm
open Go.RowKit
variable {R : Type}
set_option linter.unusedVariables false
set_option linter.constructorNameAsVariable false
/-! A head's bytes and its name. -/
def dwg : List V → Bool := fun xs => match xs with
  | [.l l] => Nat.ble l.length 1000000000
  | _ => false
def dwr (h : Nat) : List V → List Rs := fun xs => match xs with
  | [x] => [.d h (shaB (shaN (bytesN x)))]
  | _ => []
theorem dwg_l {x : V} (hg : dwg [x] = true) : ∃ l, x = .l l ∧ Nat.ble l.length 1000000000 = true := by
  cases x with
  | l l => exact ⟨l, rfl, hg⟩
  | _ => cases hg
end Go.Vm


namespace Go.Vm
open Go.RowKit
variable {R : Type}
set_option linter.unusedVariables false
set_option linter.constructorNameAsVariable false
end Go.Vm


namespace Go.Vm
open Go.RowKit
variable {T : TT} {P : Program} {c : Ctx} {e eb : Env} {of of' : Nat → Option Ob}
set_option linter.unusedVariables false
set_option linter.constructorNameAsVariable false

/-! ### The sum over a map of coins, in whatever order -/
def coinVal : Value → Int
  | .agg ⟨.int _ n :: _⟩ => n
  | _ => 0
def isCoin (v : Value) : Prop := ∃ n p l cp h b, v = .agg #[.int .i64 n, .slice p l cp, .int .i64 h, .bool b]
/-- The values of the entries that were handed out. -/
def sumSeen : List MapEntry → Array Nat → Int
  | [], _ => 0
  | x :: l, seen => (if seen.contains x.born then coinVal x.val else 0) + sumSeen l seen
theorem sumSeen_other (seen : Array Nat) (b : Nat) : ∀ (es : List MapEntry), b ∉ es.map (·.born) → sumSeen es (seen.push b) = sumSeen es seen
  | [], _ => rfl
  | x :: l, h => by
    have hx : (x.born == b) = false := by
      cases hc : x.born == b with
      | false => rfl
      | true => exact absurd (List.mem_cons.2 (Or.inl (beq_iff_eq.1 hc).symm)) h
    have ih := sumSeen_other seen b l (fun e => h (List.mem_cons.2 (Or.inr e)))
    simp only [sumSeen, contains_push, hx, Bool.or_false, ih]
theorem sumSeen_push (seen : Array Nat) (e : MapEntry) (hs : seen.contains e.born = false) : ∀ (es : List MapEntry), (es.map (·.born)).Nodup → e ∈ es → sumSeen es (seen.push e.born) = sumSeen es seen + coinVal e.val
  | x :: l, hn, he => by
    have hn' : x.born ∉ l.map (·.born) ∧ (l.map (·.born)).Nodup := List.nodup_cons.1 hn
    rcases List.mem_cons.1 he with rfl | h
    · simp only [sumSeen, contains_push, hs, beq_self_eq_true, Bool.or_true, if_true, Bool.false_eq_true, if_false, sumSeen_other seen e.born l hn'.1]
      omega
    · have hx : (x.born == e.born) = false := by
        cases hc : x.born == e.born with
        | false => rfl
        | true => exact absurd (by rw [beq_iff_eq.1 hc]; exact List.mem_map.2 ⟨e, h, rfl⟩) hn'.1
      simp only [sumSeen, contains_push, hx, Bool.or_false, sumSeen_push seen e hs l hn'.2 h]
      omega
theorem sumSeen_full (seen : Array Nat) : ∀ (es : List MapEntry), (∀ x ∈ es, seen.contains x.born = true) → sumSeen es seen = (es.map fun e => coinVal e.val).sum
  | [], _ => rfl
  | x :: l, h => by
    simp only [sumSeen, h x (List.mem_cons.2 (Or.inl rfl)), if_true, List.map_cons, List.sum_cons, sumSeen_full seen l (fun y hy => h y (List.mem_cons.2 (Or.inr hy)))]
theorem sumSeen_none : ∀ (es : List MapEntry), sumSeen es #[] = 0
  | [] => rfl
  | x :: l => by
    have : (#[] : Array Nat).contains x.born = false := by simp
    simp only [sumSeen, this, Bool.false_eq_true, if_false, sumSeen_none l]
    rfl
theorem wrap_i64 (n : Int) : IntKind.wrap .i64 n = wrap64 n := by
  simp only [IntKind.wrap, IntKind.bits, IntKind.signed, wrap64]
  by_cases h : n % 2 ^ 64 ≥ 2 ^ (64 - 1) <;> simp [h] <;> omega
theorem wrap64_add (m n : Int) : wrap64 (wrap64 m + n) = wrap64 (m + n) := by simp only [wrap64]; omega
/-- What the function does, at the program's types. -/
def Totals (P : Program) (f : Nat) : Prop := ∀ (Bp bm : Nat) (es : Array MapEntry) (clock : Nat) (w : World), Bp < w.heap.size → w.cell? ⟨Bp, 0, none⟩ = some (.map (some bm)) → w.heap[bm]? = some (.map es clock) → StB es clock → (∀ x ∈ es.toList, isCoin x.val) →
  Calls P f #[.pointer (some ⟨Bp, 0, none⟩)] w fun e w' => e = .returned (.int .i64 (IntKind.wrap .i64 (es.toList.map fun e => coinVal e.val).sum)) ∧ Below w.heap.size w w'
end Go.Vm


namespace Go.Vm
open Go.RowKit
variable {R : Type}
set_option linter.unusedVariables false
set_option linter.constructorNameAsVariable false

/-! ### A transaction as bytes -/
def inpL (x : V) : List V := refB (x.nth 0) ++ txtL (x.nth 1).els ++ leV 4 (WU (x.nth 2).int)
def ouL (x : V) : List V := leV 8 (WU (x.nth 0).int) ++ txtL (x.nth 1).els
def inpsL (l : List V) : List V := (l.map inpL).flatten
def ousL (l : List V) : List V := (l.map ouL).flatten
def txL (t : V) : List V := leV 4 (WU (t.nth 0).int) ++ cntL ((t.nth 1).els.length : Nat) ++ inpsL (t.nth 1).els ++ cntL ((t.nth 2).els.length : Nat) ++ ousL (t.nth 2).els ++ leV 4 (WU (t.nth 3).int)
inductive PTi where
  | m (t l : V) (bs : List V) (n i : Int)
inductive QTi where
  | o (t l : V) (bs : List V) (n i : Int)
abbrev PTo := PTi
abbrev QTo := QTi
abbrev PXi := PTi
abbrev QXi := QTi
abbrev PXo := PTi
abbrev QXo := QTi
def BTi (R : Type) (p : PTi) (K : PTi → Option R) (kx : QTi → Option R) : Option R :=
  match p with
  | .m t l bs n i =>
    bif ilt i n then ck i l.els.length <| lim (bs.length + (refB ((l.nth i.toNat).nth 0)).length) <|
      bif wTxtg [.l (bs ++ refB ((l.nth i.toNat).nth 0)), .l [.l ((l.nth i.toNat).nth 1).els]] then
      bif wFixg [.l (bs ++ refB ((l.nth i.toNat).nth 0) ++ txtL ((l.nth i.toNat).nth 1).els), .i (WU ((l.nth i.toNat).nth 2).int), .i 4] then
      K (.m t l (bs ++ refB ((l.nth i.toNat).nth 0) ++ txtL ((l.nth i.toNat).nth 1).els ++ leV 4 (WU ((l.nth i.toNat).nth 2).int)) n (W64 (i + 1))) else none else none
    else kx (.o t l bs n i)
def BXi (R : Type) (p : PTi) (K : PTi → Option R) (kx : QTi → Option R) : Option R :=
  match p with
  | .m t l bs n i =>
    bif ilt i n then ck i l.els.length <| lim (bs.length + (refB ((l.nth i.toNat).nth 0)).length) <|
      bif dTxtg [.l ((l.nth i.toNat).nth 1).els] then
      lim ((bs ++ refB ((l.nth i.toNat).nth 0)).length + (txtL ((l.nth i.toNat).nth 1).els).length) <|
      lim ((bs ++ refB ((l.nth i.toNat).nth 0) ++ txtL ((l.nth i.toNat).nth 1).els).length + (leV 4 (WU ((l.nth i.toNat).nth 2).int)).length) <|
      K (.m t l (bs ++ refB ((l.nth i.toNat).nth 0) ++ txtL ((l.nth i.toNat).nth 1).els ++ leV 4 (WU ((l.nth i.toNat).nth 2).int)) n (W64 (i + 1))) else none
    else kx (.o t l bs n i)
def BTo (R : Type) (p : PTi) (K : PTi → Option R) (kx : QTi → Option R) : Option R :=
  match p with
  | .m t l bs n i =>
    bif ilt i n then ck i l.els.length <|
      bif wTxtg [.l (leV 8 (WU ((l.nth i.toNat).nth 0).int)), .l [.l ((l.nth i.toNat).nth 1).els]] then
      lim (bs.length + (leV 8 (WU ((l.nth i.toNat).nth 0).int) ++ txtL ((l.nth i.toNat).nth 1).els).length) <|
      K (.m t l (bs ++ (leV 8 (WU ((l.nth i.toNat).nth 0).int) ++ txtL ((l.nth i.toNat).nth 1).els)) n (W64 (i + 1))) else none
    else kx (.o t l bs n i)
def BXo (R : Type) (p : PTi) (K : PTi → Option R) (kx : QTi → Option R) : Option R :=
  match p with
  | .m t l bs n i =>
    bif ilt i n then ck i l.els.length <|
      bif dTxtg [.l ((l.nth i.toNat).nth 1).els] then
      lim ((leV 8 (WU ((l.nth i.toNat).nth 0).int)).length + (txtL ((l.nth i.toNat).nth 1).els).length) <|
      lim (bs.length + (leV 8 (WU ((l.nth i.toNat).nth 0).int) ++ txtL ((l.nth i.toNat).nth 1).els).length) <|
      K (.m t l (bs ++ (leV 8 (WU ((l.nth i.toNat).nth 0).int) ++ txtL ((l.nth i.toNat).nth 1).els)) n (W64 (i + 1))) else none
    else kx (.o t l bs n i)
noncomputable def txW {R : Type} (v u : Int) (a b : V) (k : List V → Option R) : Option R :=
  ln a.els.length <| ln a.els.length <| lpC (BTi R) (hid FU) (.m (.l [.i v, a, b, .i u]) a (leV 4 (WU v) ++ cntL (WU (a.els.length : Nat))) (a.els.length : Nat) 0) fun q => match q with
    | .o t l bs n i => ln (t.nth 2).els.length <| bif shb (.l bs) then ln (t.nth 2).els.length <| lpC (BTo R) (hid FU) (.m t (t.nth 2) (bs ++ cntL (WU ((t.nth 2).els.length : Nat))) ((t.nth 2).els.length : Nat) 0) (fun q => match q with
      | .o t l bs n i => bif wFixg [.l bs, .i (WU (t.nth 3).int), .i 4] then k (bs ++ leV 4 (WU (t.nth 3).int)) else none) else none
noncomputable def txD {R : Type} (v u : Int) (a b : V) (k : List V → Option R) : Option R :=
  ln a.els.length <| lim ((leV 4 (WU v)).length + (cntL (WU (a.els.length : Nat))).length) <| ln a.els.length <| lpC (BXi R) (hid FU) (.m (.l [.i v, a, b, .i u]) a (leV 4 (WU v) ++ cntL (WU (a.els.length : Nat))) (a.els.length : Nat) 0) fun q => match q with
    | .o t l bs n i => ln (t.nth 2).els.length <| lim (bs.length + (cntL (WU ((t.nth 2).els.length : Nat))).length) <| ln (t.nth 2).els.length <| lpC (BXo R) (hid FU) (.m t (t.nth 2) (bs ++ cntL (WU ((t.nth 2).els.length : Nat))) ((t.nth 2).els.length : Nat) 0) (fun q => match q with
      | .o t l bs n i => lim (bs.length + (leV 4 (WU (t.nth 3).int)).length) <| k (bs ++ leV 4 (WU (t.nth 3).int)))
def goodI (x : V) : Prop := (x.nth 1).els.length ≤ 100000 ∧ (refB (x.nth 0)).length = 36
def goodO (x : V) : Prop := (x.nth 1).els.length ≤ 100000
theorem ti_law {kx : QTi → Option R} {t l : V} : ∀ (r a bs : List V) (fuel : Nat), l.els = a ++ r → (∀ x ∈ r, goodI x) → bs.length + r.length * 100050 ≤ 250000000 → a.length + r.length ≤ 100000 → r.length < fuel →
    lpC (BTi R) fuel (.m t l bs (l.els.length : Nat) (a.length : Nat)) kx = kx (.o t l (bs ++ inpsL r) (l.els.length : Nat) (l.els.length : Nat)) ∧
    lpC (BXi R) fuel (.m t l bs (l.els.length : Nat) (a.length : Nat)) kx = kx (.o t l (bs ++ inpsL r) (l.els.length : Nat) (l.els.length : Nat)) := by
  intro r
  induction r with
  | nil =>
    intro a bs fuel he hg hb ha hf
    obtain ⟨f, rfl⟩ : ∃ f, fuel = f + 1 := ⟨fuel - 1, by omega⟩
    rw [List.append_nil] at he
    have hc : ilt (a.length : Nat) (l.els.length : Nat) = false := by rw [he]; simp [ilt]
    constructor
    · show (bif ilt (a.length : Nat) (l.els.length : Nat) then _ else kx _) = _
      rw [hc, he]; simp [inpsL]
    · show (bif ilt (a.length : Nat) (l.els.length : Nat) then _ else kx _) = _
      rw [hc, he]; simp [inpsL]
  | cons x r ih =>
    intro a bs fuel he hg hb ha hf
    obtain ⟨f, rfl⟩ : ∃ f, fuel = f + 1 := ⟨fuel - 1, by simp at hf; omega⟩
    obtain ⟨g1, g2⟩ := hg x (by simp)
    have ht := txtL_len (x.nth 1).els
    have hl := leV_len 4 (WU (x.nth 2).int)
    simp only [List.length_cons] at hb ha hf
    have hc : ilt (a.length : Nat) (l.els.length : Nat) = true := by rw [he]; simp [ilt]; omega
    have hle : l.els.length = a.length + (r.length + 1) := by rw [he]; simp
    have q1 : wTxtg [.l (bs ++ refB (x.nth 0)), .l [.l (x.nth 1).els]] = true := by
      show (Nat.ble (bs ++ refB (x.nth 0)).length 268435456 && Nat.ble (x.nth 1).els.length 268435456) = true
      rw [Bool.and_eq_true, Nat.ble_eq, Nat.ble_eq, List.length_append]; omega
    have q2 : wFixg [.l (bs ++ refB (x.nth 0) ++ txtL (x.nth 1).els), .i (WU (x.nth 2).int), .i 4] = true := by
      show Nat.ble (bs ++ refB (x.nth 0) ++ txtL (x.nth 1).els).length 268435456 = true
      rw [Nat.ble_eq]; simp only [List.length_append]; omega
    have q3 : dTxtg [.l (x.nth 1).els] = true := by
      show Nat.ble (x.nth 1).els.length 268435456 = true
      rw [Nat.ble_eq]; omega
    obtain ⟨i1, i2⟩ := ih (a ++ [x]) (bs ++ refB (x.nth 0) ++ txtL (x.nth 1).els ++ leV 4 (WU (x.nth 2).int)) f (by rw [he]; simp) (fun s hs => hg s (by simp [hs])) (by simp only [List.length_append]; omega) (by simp; omega) (by omega)
    have e1 : bs ++ refB (x.nth 0) ++ txtL (x.nth 1).els ++ leV 4 (WU (x.nth 2).int) ++ inpsL r = bs ++ inpsL (x :: r) := by simp [inpsL, inpL]
    rw [show (a ++ [x]).length = a.length + 1 by simp, e1] at i1 i2
    constructor
    · show (bif ilt (a.length : Nat) (l.els.length : Nat) then _ else kx _) = _
      rw [hc, cond_true, ck_in (by omega) (by omega), nth_at he, q1, lim_in (by omega), cond_true, q2, cond_true, i_next (by omega)]
      exact i1
    · show (bif ilt (a.length : Nat) (l.els.length : Nat) then _ else kx _) = _
      rw [hc, cond_true, ck_in (by omega) (by omega), nth_at he, q3, lim_in (by omega), cond_true, lim_in (by simp only [List.length_append]; omega), lim_in (by simp only [List.length_append]; omega), i_next (by omega)]
      exact i2
theorem to_law {kx : QTi → Option R} {t l : V} : ∀ (r a bs : List V) (fuel : Nat), l.els = a ++ r → (∀ x ∈ r, goodO x) → bs.length + r.length * 100050 ≤ 250000000 → a.length + r.length ≤ 100000 → r.length < fuel →
    lpC (BTo R) fuel (.m t l bs (l.els.length : Nat) (a.length : Nat)) kx = kx (.o t l (bs ++ ousL r) (l.els.length : Nat) (l.els.length : Nat)) ∧
    lpC (BXo R) fuel (.m t l bs (l.els.length : Nat) (a.length : Nat)) kx = kx (.o t l (bs ++ ousL r) (l.els.length : Nat) (l.els.length : Nat)) := by
  intro r
  induction r with
  | nil =>
    intro a bs fuel he hg hb ha hf
    obtain ⟨f, rfl⟩ : ∃ f, fuel = f + 1 := ⟨fuel - 1, by omega⟩
    rw [List.append_nil] at he
    have hc : ilt (a.length : Nat) (l.els.length : Nat) = false := by rw [he]; simp [ilt]
    constructor
    · show (bif ilt (a.length : Nat) (l.els.length : Nat) then _ else kx _) = _
      rw [hc, he]; simp [ousL]
    · show (bif ilt (a.length : Nat) (l.els.length : Nat) then _ else kx _) = _
      rw [hc, he]; simp [ousL]
  | cons x r ih =>
    intro a bs fuel he hg hb ha hf
    obtain ⟨f, rfl⟩ : ∃ f, fuel = f + 1 := ⟨fuel - 1, by simp at hf; omega⟩
    have g1 : (x.nth 1).els.length ≤ 100000 := hg x (by simp)
    have ht := txtL_len (x.nth 1).els
    have hl := leV_len 8 (WU (x.nth 0).int)
    simp only [List.length_cons] at hb ha hf
    have hc : ilt (a.length : Nat) (l.els.length : Nat) = true := by rw [he]; simp [ilt]; omega
    have hle : l.els.length = a.length + (r.length + 1) := by rw [he]; simp
    have q1 : wTxtg [.l (leV 8 (WU (x.nth 0).int)), .l [.l (x.nth 1).els]] = true := by
      show (Nat.ble (leV 8 (WU (x.nth 0).int)).length 268435456 && Nat.ble (x.nth 1).els.length 268435456) = true
      rw [Bool.and_eq_true, Nat.ble_eq, Nat.ble_eq]; omega
    have q3 : dTxtg [.l (x.nth 1).els] = true := by
      show Nat.ble (x.nth 1).els.length 268435456 = true
      rw [Nat.ble_eq]; omega
    obtain ⟨i1, i2⟩ := ih (a ++ [x]) (bs ++ ouL x) f (by rw [he]; simp) (fun s hs => hg s (by simp [hs])) (by simp only [List.length_append, ouL]; omega) (by simp; omega) (by omega)
    have e1 : bs ++ ouL x ++ ousL r = bs ++ ousL (x :: r) := by simp [ousL]
    rw [show (a ++ [x]).length = a.length + 1 by simp, e1] at i1 i2
    constructor
    · show (bif ilt (a.length : Nat) (l.els.length : Nat) then _ else kx _) = _
      rw [hc, cond_true, ck_in (by omega) (by omega), nth_at he, q1, cond_true, lim_in (by simp only [List.length_append]; omega), i_next (by omega)]
      exact i1
    · show (bif ilt (a.length : Nat) (l.els.length : Nat) then _ else kx _) = _
      rw [hc, cond_true, ck_in (by omega) (by omega), nth_at he, q3, cond_true, lim_in (by omega), lim_in (by simp only [List.length_append]; omega), i_next (by omega)]
      exact i2
theorem inpsL_len : ∀ {l : List V}, (∀ x ∈ l, goodI x) → (inpsL l).length ≤ l.length * 100050 := by
  intro l
  induction l with
  | nil => intro _; simp [inpsL]
  | cons x r ih =>
    intro h
    obtain ⟨g1, g2⟩ := h x (by simp)
    have ht := txtL_len (x.nth 1).els
    have hl := leV_len 4 (WU (x.nth 2).int)
    have h2 := ih (fun s hs => h s (by simp [hs]))
    have : (inpsL (x :: r)).length = (inpL x).length + (inpsL r).length := by simp [inpsL]
    rw [this, List.length_cons]
    unfold inpL
    simp only [List.length_append]; omega
theorem ousL_len : ∀ {l : List V}, (∀ x ∈ l, goodO x) → (ousL l).length ≤ l.length * 100050 := by
  intro l
  induction l with
  | nil => intro _; simp [ousL]
  | cons x r ih =>
    intro h
    have g1 : (x.nth 1).els.length ≤ 100000 := h x (by simp)
    have ht := txtL_len (x.nth 1).els
    have hl := leV_len 8 (WU (x.nth 0).int)
    have h2 := ih (fun s hs => h s (by simp [hs]))
    have : (ousL (x :: r)).length = (ouL x).length + (ousL r).length := by simp [ousL]
    rw [this, List.length_cons]
    unfold ouL
    simp only [List.length_append]; omega
def txg : List V → Bool
  | [t] => (Nat.ble (t.nth 1).els.length 1000 && (t.nth 1).els.all fun x => Nat.ble (x.nth 1).els.length 100000) && (Nat.ble (t.nth 2).els.length 1000 && (t.nth 2).els.all fun x => Nat.ble (x.nth 1).els.length 100000)
  | _ => false
def txr (el : Nat) : List V → List Rs
  | [t] => [.r el (txL t) false]
  | _ => []
abbrev DIn : D := .struct [DRef, .slice (.int .u8), .int .u32]
abbrev DOut : D := .struct [.int .i64, .slice (.int .u8)]
abbrev DTx : D := .struct [.int .u32, .slice DIn, .slice DOut, .int .u32]
theorem in_v {x : V} (h : DIn.has x) : ∃ r b n, x = .l [r, b, .i n] ∧ DRef.has r ∧ (D.slice (.int .u8)).has b ∧ inR .u32 n := by
  obtain ⟨ys, rfl, hy⟩ := h
  obtain ⟨a, b, c, rfl, ha, hb, n, rfl, hn⟩ := hasL3 hy
  exact ⟨a, b, n, rfl, ha, hb, hn⟩
theorem tx_v {x : V} (h : DTx.has x) : ∃ v a b u, x = .l [.i v, a, b, .i u] ∧ inR .u32 v ∧ (D.slice DIn).has a ∧ (D.slice DOut).has b ∧ inR .u32 u := by
  obtain ⟨ys, rfl, hy⟩ := h
  obtain ⟨a, b, c, d, rfl, ⟨v, rfl, hv⟩, hb, hc, u, rfl, hu⟩ := hasL4 hy
  exact ⟨v, b, c, u, rfl, hv, hb, hc, hu⟩
theorem slice_els {d : D} {x : V} (h : (D.slice d).has x) : ∀ y ∈ x.els, d.has y := by
  rcases h with rfl | ⟨ys, rfl, hy⟩
  · intro y hy; cases hy
  · exact hy
theorem txg_good {v u : Int} {a b : V} (ha : (D.slice DIn).has a) (hb : (D.slice DOut).has b) (hg : txg [.l [.i v, a, b, .i u]] = true) : (a.els.length ≤ 1000 ∧ ∀ x ∈ a.els, goodI x) ∧ (b.els.length ≤ 1000 ∧ ∀ x ∈ b.els, goodO x) := by
  have hg : ((Nat.ble a.els.length 1000 && a.els.all fun x => Nat.ble (x.nth 1).els.length 100000) && (Nat.ble b.els.length 1000 && b.els.all fun x => Nat.ble (x.nth 1).els.length 100000)) = true := hg
  simp only [Bool.and_eq_true, Nat.ble_eq, List.all_eq_true] at hg
  obtain ⟨⟨g1, g2⟩, g3, g4⟩ := hg
  refine ⟨⟨g1, fun x hx => ⟨g2 x hx, ?_⟩⟩, g3, fun x hx => g4 x hx⟩
  obtain ⟨r, bb, n, rfl, hr, _⟩ := in_v (slice_els ha x hx)
  exact refB_len hr
theorem txB_law {v u : Int} {a b : V} (k : List V → Option R) (ha : (D.slice DIn).has a) (hb : (D.slice DOut).has b) (hg : txg [.l [.i v, a, b, .i u]] = true) : txW v u a b k = k (txL (.l [.i v, a, b, .i u])) ∧ txD v u a b k = k (txL (.l [.i v, a, b, .i u])) := by
  obtain ⟨⟨g1, g2⟩, g3, g4⟩ := txg_good ha hb hg
  have hc1 := cntL_len (a.els.length : Nat)
  have hc2 := cntL_len (b.els.length : Nat)
  have hl := leV_len 4 (WU v)
  have hq := fq_big
  have hi := inpsL_len g2
  have ho := ousL_len g4
  have n2 : ((V.l [V.i v, a, b, V.i u]).nth 2) = b := rfl
  have n3 : ((V.l [V.i v, a, b, V.i u]).nth 3) = .i u := rfl
  have hl4 := leV_len 4 (WU (V.i u).int)
  have e : txL (.l [.i v, a, b, .i u]) = leV 4 (WU v) ++ cntL (a.els.length : Nat) ++ inpsL a.els ++ cntL (b.els.length : Nat) ++ ousL b.els ++ leV 4 (WU (V.i u).int) := rfl
  rw [e]
  constructor
  · unfold txW
    rw [ln_in (by omega), ln_in (by omega), wu64_lt (by omega)]
    refine (ti_law a.els [] _ (hid FU) rfl g2 (by simp only [List.length_append]; omega) (by simp only [List.length_nil]; omega) (by omega)).1.trans ?_
    simp only
    rw [n2, ln_in (by omega), ln_in (by omega), wu64_lt (by omega), show shb (.l (leV 4 (WU v) ++ cntL (a.els.length : Nat) ++ inpsL a.els)) = true from Nat.ble_eq_true_of_le (by show (_ ++ _ ++ _ : List V).length ≤ 268435456; simp only [List.length_append]; omega), cond_true]
    refine (to_law b.els [] _ (hid FU) rfl g4 (by simp only [List.length_append]; omega) (by simp only [List.length_nil]; omega) (by omega)).1.trans ?_
    simp only
    rw [n3, show wFixg [.l (leV 4 (WU v) ++ cntL (a.els.length : Nat) ++ inpsL a.els ++ cntL (b.els.length : Nat) ++ ousL b.els), .i (WU (V.i u).int), .i 4] = true from Nat.ble_eq_true_of_le (by show (_ ++ _ ++ _ ++ _ ++ _ : List V).length ≤ 268435456; simp only [List.length_append]; omega), cond_true]
  · unfold txD
    rw [ln_in (by omega), lim_in (by rw [wu64_lt (by omega)]; omega), ln_in (by omega), wu64_lt (by omega)]
    refine (ti_law a.els [] _ (hid FU) rfl g2 (by simp only [List.length_append]; omega) (by simp only [List.length_nil]; omega) (by omega)).2.trans ?_
    simp only
    rw [n2, ln_in (by omega), wu64_lt (by omega), lim_in (by simp only [List.length_append]; omega), ln_in (by omega)]
    refine (to_law b.els [] _ (hid FU) rfl g4 (by simp only [List.length_append]; omega) (by simp only [List.length_nil]; omega) (by omega)).2.trans ?_
    simp only
    rw [n3, lim_in (by simp only [List.length_append]; omega)]
end Go.Vm


namespace Go.Vm
open Go.RowKit
variable {R : Type}
set_option linter.unusedVariables false
/-! A transaction's name. -/
def txir (h : Nat) : List V → List Rs
  | [t] => [.d h (shaB (shaN (bytesN (.l (txL t)))))]
  | _ => []
def txiGT (h : Nat) (t : V) : Option (List Rs) := bif txg [t] then bif dsg [.l [.l (txL t)]] then some [.d h (shaB (shaN (catB [.l (txL t)])))] else none else none
def txiGX (h : Nat) (t : V) : Option (List Rs) := bif txg [t] then bif dwg [.l (txL t)] then some (dwr h [.l (txL t)]) else none else none
theorem txL_len {t : V} (ht : DTx.has t) (hg : txg [t] = true) : (txL t).length ≤ 250000000 := by
  obtain ⟨v, a, b, u, rfl, _, ha, hb, _⟩ := tx_v ht
  obtain ⟨⟨g1, g2⟩, g3, g4⟩ := txg_good ha hb hg
  have hc1 := cntL_len (a.els.length : Nat)
  have hc2 := cntL_len (b.els.length : Nat)
  have hl := leV_len 4 (WU v)
  have hi := inpsL_len g2
  have ho := ousL_len g4
  have hl4 := leV_len 4 (WU (V.i u).int)
  have e : txL (.l [.i v, a, b, .i u]) = leV 4 (WU v) ++ cntL (a.els.length : Nat) ++ inpsL a.els ++ cntL (b.els.length : Nat) ++ ousL b.els ++ leV 4 (WU (V.i u).int) := rfl
  rw [e]
  simp only [List.length_append]; omega
theorem txi_law {h : Nat} {t : V} (ht : DTx.has t) (hg : txg [t] = true) : txiGT h t = some (txir h [t]) ∧ txiGX h t = some (txir h [t]) := by
  have hl := txL_len ht hg
  have c : catB [.l (txL t)] = bytesN (.l (txL t)) := by show bytesN _ ++ [] = _; rw [List.append_nil]
  constructor
  · unfold txiGT
    have : dsg [.l [.l (txL t)]] = true := by
      show (bif Nat.ble ((txL t).length + 0) 1000000000 then Nat.ble 1 100000000 else false) = true
      rw [Nat.ble_eq_true_of_le (by omega)]; rfl
    rw [hg, this, c]; rfl
  · unfold txiGX
    have : dwg [.l (txL t)] = true := by
      show Nat.ble (txL t).length 1000000000 = true
      exact Nat.ble_eq_true_of_le (by omega)
    rw [hg, this]; rfl
end Go.Vm


namespace Go.Vm
open Go.RowKit
variable {R : Type}
set_option linter.unusedVariables false
set_option linter.constructorNameAsVariable false
set_option linter.unusedSimpArgs false

/-! ### Sums of outputs; what can be; what is too great -/
theorem ile_d (a b : Int) : ile a b = decide (a ≤ b) := by simp [ile]
theorem ilt_d (a b : Int) : ilt a b = decide (a < b) := by simp [ilt]
/-- A coin, copied: the same data. -/
def lockOf (c : V) : V := (c.nth 0).nth 1
def cpg : List V → Bool
  | [c] => Nat.ble (lockOf c).els.length 1073741824
  | _ => false
def cpr (t : Nat) : List V → List Rs
  | [c] => [.d t c]
  | _ => []
def cpG (t : Nat) (v h : Int) (k : V) (q : Bool) : Option (List Rs) :=
  bif isN k && true then some [.d t (.l [.l [.i v, .n], .i h, .b q])] else lim (0 + k.els.length) <| some [.d t (.l [.l [.i v, .l ([] ++ k.els)], .i h, .b q])]
theorem cpy_law {t : Nat} {v h : Int} {k : V} {q : Bool} (hk : (D.slice (.int .u8)).has k) (hg : cpg [.l [.l [.i v, k], .i h, .b q]] = true) : cpG t v h k q = some [.d t (.l [.l [.i v, k], .i h, .b q])] := by
  unfold cpG
  rcases bytes_v hk with rfl | ⟨ys, rfl⟩
  · rfl
  · have hl : ys.length ≤ 1073741824 := Nat.le_of_ble_eq_true hg
    show lim (0 + ys.length) _ = _
    rw [lim_in (by omega)]
    rfl
/-- Does a transaction make something? -/
def nullR : V := .l [.l (List.replicate 32 (.i 0)), .i 4294967295]
def baseB (t : V) : Bool := bif ieq ((t.nth 1).els.length : Nat) 1 then veq (((t.nth 1).nth 0).nth 0) nullR else false
def bsg : List V → Bool
  | [t] => Nat.ble (t.nth 1).els.length 1000
  | _ => false
def bsr (b : Nat) : List V → List Rs
  | [t] => [.d b (.b (baseB t))]
  | _ => []
def bsG (b : Nat) (a : V) : Option (List Rs) :=
  ln a.els.length <| bif ieq (a.els.length : Nat) 1 then ck ((0 : Nat) : Int) a.els.length <| bif veq ((a.nth 0).nth 0) nullR then some [.d b (.b true)] else some [.d b (.b false)] else some [.d b (.b false)]
theorem bs_law {b : Nat} {v u : Int} {x y : V} (hg : bsg [.l [.i v, x, y, .i u]] = true) : bsG b x = some [.d b (.b (baseB (.l [.i v, x, y, .i u])))] := by
  have hl : x.els.length ≤ 1000 := Nat.le_of_ble_eq_true hg
  have e : baseB (.l [.i v, x, y, .i u]) = bif ieq (x.els.length : Nat) 1 then veq ((x.nth 0).nth 0) nullR else false := rfl
  unfold bsG
  rw [e, ln_in (by omega)]
  cases h1 : ieq (x.els.length : Nat) 1 with
  | false => rfl
  | true =>
    have := ieq_iff.1 h1
    rw [cond_true, cond_true, ck_in (by omega) (by omega)]
    cases veq ((x.nth 0).nth 0) nullR <;> rfl
inductive PSc where
  | m (l : V) (s : Int) (n : Int) (i : Int)
inductive QSc where
  | o (l : V) (s : Int) (n : Int) (i : Int)
  | r (l : V) (s : Int) (n : Int) (i : Int)
def BSc (R : Type) (p : PSc) (K : PSc → Option R) (kx : QSc → Option R) : Option R :=
  match p with
  | .m l s n i =>
    bif ilt i n then
      ck i ((l.els).length) <|
      bif ile 0 (((V.nth (V.nth l i.toNat) 0)).int) then
      bif ile (((V.nth (V.nth l i.toNat) 0)).int) 2000000000000 then
      bif ile 0 (W64 (s + ((V.nth (V.nth l i.toNat) 0)).int)) then
      bif ile (W64 (s + ((V.nth (V.nth l i.toNat) 0)).int)) 2000000000000 then
      K (.m l (W64 (s + ((V.nth (V.nth l i.toNat) 0)).int)) n (W64 (i + 1)))
      else
      kx (.r l s n i)
      else
      kx (.r l s n i)
      else
      kx (.r l s n i)
      else
      kx (.r l s n i)
      else
      kx (.o l s n i)
theorem BSc_m {R : Type} (l : V) (s : Int) (n : Int) (i : Int) (K : PSc → Option R) (kx : QSc → Option R) : BSc R (.m l s n i) K kx =
    bif ilt i n then
      ck i ((l.els).length) <|
      bif ile 0 (((V.nth (V.nth l i.toNat) 0)).int) then
      bif ile (((V.nth (V.nth l i.toNat) 0)).int) 2000000000000 then
      bif ile 0 (W64 (s + ((V.nth (V.nth l i.toNat) 0)).int)) then
      bif ile (W64 (s + ((V.nth (V.nth l i.toNat) 0)).int)) 2000000000000 then
      K (.m l (W64 (s + ((V.nth (V.nth l i.toNat) 0)).int)) n (W64 (i + 1)))
      else
      kx (.r l s n i)
      else
      kx (.r l s n i)
      else
      kx (.r l s n i)
      else
      kx (.r l s n i)
      else
      kx (.o l s n i) := rfl
inductive PSd where
  | m (l : V) (s : Int) (n : Int) (i : Int)
inductive QSd where
  | o (l : V) (s : Int) (n : Int) (i : Int)
  | r (l : V) (s : Int) (n : Int) (i : Int)
def BSd (R : Type) (p : PSd) (K : PSd → Option R) (kx : QSd → Option R) : Option R :=
  match p with
  | .m l s n i =>
    bif ilt i n then
      ck i ((l.els).length) <|
      bif ile 0 (((V.nth (V.nth l i.toNat) 0)).int) then
      bif ile (((V.nth (V.nth l i.toNat) 0)).int) 2000000000000 then
      bif ilt (W64 (2000000000000 - s)) (((V.nth (V.nth l i.toNat) 0)).int) then
      kx (.r l s n i)
      else
      K (.m l (W64 (s + ((V.nth (V.nth l i.toNat) 0)).int)) n (W64 (i + 1)))
      else
      kx (.r l s n i)
      else
      kx (.r l s n i)
      else
      kx (.o l s n i)
theorem BSd_m {R : Type} (l : V) (s : Int) (n : Int) (i : Int) (K : PSd → Option R) (kx : QSd → Option R) : BSd R (.m l s n i) K kx =
    bif ilt i n then
      ck i ((l.els).length) <|
      bif ile 0 (((V.nth (V.nth l i.toNat) 0)).int) then
      bif ile (((V.nth (V.nth l i.toNat) 0)).int) 2000000000000 then
      bif ilt (W64 (2000000000000 - s)) (((V.nth (V.nth l i.toNat) 0)).int) then
      kx (.r l s n i)
      else
      K (.m l (W64 (s + ((V.nth (V.nth l i.toNat) 0)).int)) n (W64 (i + 1)))
      else
      kx (.r l s n i)
      else
      kx (.r l s n i)
      else
      kx (.o l s n i) := rfl
inductive PRg where
  | m (l : V) (s : Int) (n : Int) (i : Int)
inductive QRg where
  | o (l : V) (s : Int) (n : Int) (i : Int)
  | r (l : V) (s : Int) (n : Int) (i : Int)
def BRg (R : Type) (p : PRg) (K : PRg → Option R) (kx : QRg → Option R) : Option R :=
  match p with
  | .m l s n i =>
    bif ilt i n then
      ck i ((l.els).length) <|
      bif ilt 30 i then
      kx (.r l s n i)
      else
      bif ile 0 (((V.nth (V.nth (V.nth (V.nth l i.toNat) 1) 0) 0)).int) then
      bif ile (((V.nth (V.nth (V.nth (V.nth l i.toNat) 1) 0) 0)).int) 2000000000000 then
      ln ((((V.nth (V.nth (V.nth (V.nth l i.toNat) 1) 0) 1)).els).length) <|
      bif ile ((((V.nth (V.nth (V.nth (V.nth l i.toNat) 1) 0) 1)).els).length : Nat) 2000 then
      bif ile 0 (((V.nth (V.nth (V.nth l i.toNat) 1) 1)).int) then
      bif ile (((V.nth (V.nth (V.nth l i.toNat) 1) 1)).int) 1000000000 then
      ln ((((V.nth (V.nth (V.nth (V.nth l i.toNat) 1) 0) 1)).els).length) <|
      bif ilt 300 ((((V.nth (V.nth (V.nth (V.nth l i.toNat) 1) 0) 1)).els).length : Nat) then
      kx (.r l s n i)
      else
      K (.m l (W64 (s + ((V.nth (V.nth (V.nth (V.nth l i.toNat) 1) 0) 0)).int)) n (W64 (i + 1)))
      else
      kx (.r l s n i)
      else
      kx (.r l s n i)
      else
      kx (.r l s n i)
      else
      kx (.r l s n i)
      else
      kx (.r l s n i)
      else
      kx (.o l s n i)
theorem BRg_m {R : Type} (l : V) (s : Int) (n : Int) (i : Int) (K : PRg → Option R) (kx : QRg → Option R) : BRg R (.m l s n i) K kx =
    bif ilt i n then
      ck i ((l.els).length) <|
      bif ilt 30 i then
      kx (.r l s n i)
      else
      bif ile 0 (((V.nth (V.nth (V.nth (V.nth l i.toNat) 1) 0) 0)).int) then
      bif ile (((V.nth (V.nth (V.nth (V.nth l i.toNat) 1) 0) 0)).int) 2000000000000 then
      ln ((((V.nth (V.nth (V.nth (V.nth l i.toNat) 1) 0) 1)).els).length) <|
      bif ile ((((V.nth (V.nth (V.nth (V.nth l i.toNat) 1) 0) 1)).els).length : Nat) 2000 then
      bif ile 0 (((V.nth (V.nth (V.nth l i.toNat) 1) 1)).int) then
      bif ile (((V.nth (V.nth (V.nth l i.toNat) 1) 1)).int) 1000000000 then
      ln ((((V.nth (V.nth (V.nth (V.nth l i.toNat) 1) 0) 1)).els).length) <|
      bif ilt 300 ((((V.nth (V.nth (V.nth (V.nth l i.toNat) 1) 0) 1)).els).length : Nat) then
      kx (.r l s n i)
      else
      K (.m l (W64 (s + ((V.nth (V.nth (V.nth (V.nth l i.toNat) 1) 0) 0)).int)) n (W64 (i + 1)))
      else
      kx (.r l s n i)
      else
      kx (.r l s n i)
      else
      kx (.r l s n i)
      else
      kx (.r l s n i)
      else
      kx (.r l s n i)
      else
      kx (.o l s n i) := rfl
inductive PGa where
  | m (t : V) (l : V) (n : Int) (i : Int)
inductive QGa where
  | o (t : V) (l : V) (n : Int) (i : Int)
  | r (t : V) (l : V) (n : Int) (i : Int)
def BGa (R : Type) (p : PGa) (K : PGa → Option R) (kx : QGa → Option R) : Option R :=
  match p with
  | .m t l n i =>
    bif ilt i n then
      ck i ((l.els).length) <|
      ln ((((V.nth (V.nth l i.toNat) 1)).els).length) <|
      bif ilt 300 ((((V.nth (V.nth l i.toNat) 1)).els).length : Nat) then
      kx (.r t l n i)
      else
      K (.m t l n (W64 (i + 1)))
      else
      kx (.o t l n i)
theorem BGa_m {R : Type} (t : V) (l : V) (n : Int) (i : Int) (K : PGa → Option R) (kx : QGa → Option R) : BGa R (.m t l n i) K kx =
    bif ilt i n then
      ck i ((l.els).length) <|
      ln ((((V.nth (V.nth l i.toNat) 1)).els).length) <|
      bif ilt 300 ((((V.nth (V.nth l i.toNat) 1)).els).length : Nat) then
      kx (.r t l n i)
      else
      K (.m t l n (W64 (i + 1)))
      else
      kx (.o t l n i) := rfl
inductive PGb where
  | m (t : V) (l : V) (n : Int) (i : Int)
inductive QGb where
  | o (t : V) (l : V) (n : Int) (i : Int)
  | r (t : V) (l : V) (n : Int) (i : Int)
def BGb (R : Type) (p : PGb) (K : PGb → Option R) (kx : QGb → Option R) : Option R :=
  match p with
  | .m t l n i =>
    bif ilt i n then
      ck i ((l.els).length) <|
      ln ((((V.nth (V.nth l i.toNat) 1)).els).length) <|
      bif ilt 300 ((((V.nth (V.nth l i.toNat) 1)).els).length : Nat) then
      kx (.r t l n i)
      else
      K (.m t l n (W64 (i + 1)))
      else
      kx (.o t l n i)
theorem BGb_m {R : Type} (t : V) (l : V) (n : Int) (i : Int) (K : PGb → Option R) (kx : QGb → Option R) : BGb R (.m t l n i) K kx =
    bif ilt i n then
      ck i ((l.els).length) <|
      ln ((((V.nth (V.nth l i.toNat) 1)).els).length) <|
      bif ilt 300 ((((V.nth (V.nth l i.toNat) 1)).els).length : Nat) then
      kx (.r t l n i)
      else
      K (.m t l n (W64 (i + 1)))
      else
      kx (.o t l n i) := rfl
abbrev MM : Int := 2000000000000
/-- The sum, the error's number. -/
def sumS : List V → Int → Int × Int
  | [], s => (s, 0)
  | x :: r, s => if 0 ≤ (x.nth 0).int ∧ (x.nth 0).int ≤ MM ∧ s + (x.nth 0).int ≤ MM then sumS r (s + (x.nth 0).int) else (0, 91)
def fstQ (k : Int → Int → Option R) : QSc → Option R
  | .o l s n i => k s 0
  | .r l s n i => k 0 91
def fstD (k : Int → Int → Option R) : QSd → Option R
  | .o l s n i => k s 0
  | .r l s n i => k 0 91
theorem ix_t {a r : List V} {x : V} {l : V} (he : l.els = a ++ x :: r) : ilt (a.length : Nat) (l.els.length : Nat) = true := by rw [he]; simp [ilt]; omega
theorem ix_f {a : List V} {l : V} (he : l.els = a) : ilt (a.length : Nat) (l.els.length : Nat) = false := by rw [he]; simp [ilt]
theorem sms_law {l : V} (k : Int → Int → Option R) : ∀ (r a : List V) (s : Int) (fuel : Nat), l.els = a ++ r → (∀ x ∈ r, inR .i64 (x.nth 0).int) → 0 ≤ s → s ≤ MM → a.length + r.length ≤ 100000 → r.length < fuel →
    lpC (BSc R) fuel (.m l s (l.els.length : Nat) (a.length : Nat)) (fstQ k) = k (sumS r s).1 (sumS r s).2 ∧
    lpC (BSd R) fuel (.m l s (l.els.length : Nat) (a.length : Nat)) (fstD k) = k (sumS r s).1 (sumS r s).2 := by
  intro r
  induction r with
  | nil =>
    intro a s fuel he hg h0 h1 ha hf
    obtain ⟨f, rfl⟩ : ∃ f, fuel = f + 1 := ⟨fuel - 1, by omega⟩
    rw [List.append_nil] at he
    have hc := ix_f he
    constructor
    · show (bif ilt (a.length : Nat) (l.els.length : Nat) then _ else fstQ k _) = _
      rw [hc]; rfl
    · show (bif ilt (a.length : Nat) (l.els.length : Nat) then _ else fstD k _) = _
      rw [hc]; rfl
  | cons x r ih =>
    intro a s fuel he hg h0 h1 ha hf
    obtain ⟨f, rfl⟩ : ∃ f, fuel = f + 1 := ⟨fuel - 1, by simp at hf; omega⟩
    simp only [List.length_cons] at ha hf
    have hc := ix_t he
    have hle : l.els.length = a.length + (r.length + 1) := by rw [he]; simp
    have hx := hg x (by simp)
    simp only [inR, lo, hi] at hx
    have hat : l.nth ((a.length : Nat) : Int).toNat = x := nth_at he
    have ih := ih (a ++ [x]) (s + (x.nth 0).int) f (by rw [he]; simp) (fun y hy => hg y (by simp [hy]))
    simp only [List.length_append, List.length_singleton] at ih
    have e1 : sumS (x :: r) s = if 0 ≤ (x.nth 0).int ∧ (x.nth 0).int ≤ MM ∧ s + (x.nth 0).int ≤ MM then sumS r (s + (x.nth 0).int) else (0, 91) := rfl
    rw [e1]
    constructor
    · rw [lpC, BSc_m, hc, cond_true, ck_in (by omega) (by omega), hat]
      simp only [ile_d]
      by_cases c1 : 0 ≤ (x.nth 0).int
      · by_cases c2 : (x.nth 0).int ≤ 2000000000000
        · simp only [MM] at h1
          rw [w64_in (n := s + (x.nth 0).int) (by omega) (by omega)]
          by_cases c3 : s + (x.nth 0).int ≤ 2000000000000
          · simp only [c1, c2, c3, show 0 ≤ s + (x.nth 0).int from by omega, decide_true, cond_true, MM, and_self, if_true]
            rw [i_next (by omega)]
            exact (ih (by omega) c3 (by omega) (by omega)).1
          · simp only [c1, c2, c3, show 0 ≤ s + (x.nth 0).int from by omega, decide_true, cond_true, MM, decide_false, cond_false, and_false, if_false]
            rfl
        · simp only [c1, c2, decide_true, cond_true, MM, decide_false, cond_false, and_false, false_and, if_false]
          rfl
      · simp only [c1, MM, decide_false, cond_false, false_and, if_false]
        rfl
    · rw [lpC, BSd_m, hc, cond_true, ck_in (by omega) (by omega), hat]
      simp only [ile_d, ilt_d]
      by_cases c1 : 0 ≤ (x.nth 0).int
      · by_cases c2 : (x.nth 0).int ≤ 2000000000000
        · simp only [MM] at h1
          rw [w64_in (n := s + (x.nth 0).int) (by omega) (by omega), w64_in (n := 2000000000000 - s) (by omega) (by omega)]
          by_cases c3 : s + (x.nth 0).int ≤ 2000000000000
          · simp only [c1, c2, c3, show ¬ 2000000000000 - s < (x.nth 0).int from by omega, decide_true, cond_true, decide_false, cond_false, MM, and_self, if_true]
            rw [i_next (by omega)]
            exact (ih (by omega) c3 (by omega) (by omega)).2
          · simp only [c1, c2, c3, show 2000000000000 - s < (x.nth 0).int from by omega, decide_true, cond_true, MM, decide_false, cond_false, and_false, if_false]
            rfl
        · simp only [c1, c2, decide_true, cond_true, MM, decide_false, cond_false, and_false, false_and, if_false]
          rfl
      · simp only [c1, MM, decide_false, cond_false, false_and, if_false]
        rfl
def smg : List V → Bool
  | [l] => Nat.ble l.els.length 1000
  | _ => false
def smr (ti te : Nat) : List V → List Rs
  | [l] => [.d ti (.i (sumS l.els 0).1), .d te (.i (sumS l.els 0).2)]
  | _ => []
noncomputable def smC (l : V) (k : Int → Int → Option R) : Option R := ln l.els.length <| lpC (BSc R) (hid FU) (.m l 0 (l.els.length : Nat) 0) (fstQ k)
noncomputable def smD (l : V) (k : Int → Int → Option R) : Option R := ln l.els.length <| lpC (BSd R) (hid FU) (.m l 0 (l.els.length : Nat) 0) (fstD k)
theorem out_v {x : V} (h : DOut.has x) : ∃ v k, x = .l [.i v, k] ∧ inR .i64 v ∧ (D.slice (.int .u8)).has k := by
  obtain ⟨ys, rfl, hy⟩ := h
  obtain ⟨a, b, rfl, ⟨v, rfl, hv⟩, hb⟩ := hasL2 hy
  exact ⟨v, b, rfl, hv, hb⟩
theorem smC_law {l : V} (k : Int → Int → Option R) (h : (D.slice DOut).has l) (hg : smg [l] = true) : smC l k = k (sumS l.els 0).1 (sumS l.els 0).2 ∧ smD l k = k (sumS l.els 0).1 (sumS l.els 0).2 := by
  have hl : l.els.length ≤ 1000 := Nat.le_of_ble_eq_true hg
  have hq := fq_big
  have := sms_law k l.els [] 0 (hid FU) rfl (fun x hx => by
    obtain ⟨v, kk, rfl, hv, _⟩ := out_v (slice_els h x hx)
    exact hv) (by decide) (by decide) (by simp only [List.length_nil]; omega) (by omega)
  unfold smC smD
  rw [ln_in (by omega), ln_in (by omega)]
  exact this
/-! What can be. -/
def coinOkB (c : V) : Bool := decide (0 ≤ ((c.nth 0).nth 0).int ∧ ((c.nth 0).nth 0).int ≤ MM ∧ (lockOf c).els.length ≤ 300 ∧ 0 ≤ (c.nth 1).int ∧ (c.nth 1).int ≤ 1000000000)
def rightS : List V → Nat → Int → Bool
  | [], _, s => decide (s ≤ MM)
  | x :: r, i, s => bif decide (i ≤ 30) && coinOkB (x.nth 1) then rightS r (i + 1) (s + (((x.nth 1).nth 0).nth 0).int) else false
def rgQ (k : Bool → Option R) : QRg → Option R
  | .o l s n i => bif ile s 2000000000000 then k true else k false
  | .r l s n i => k false
theorem coin_vs {c : V} (h : DCoin.has c) : ∃ v kk hh q, c = .l [.l [.i v, kk], .i hh, .b q] ∧ inR .i64 v ∧ (D.slice (.int .u8)).has kk ∧ inR .i64 hh := by
  obtain ⟨ys, rfl, hy⟩ := h
  obtain ⟨a, b, d, rfl, ha, ⟨n, rfl, hn⟩, q, rfl⟩ := hasL3 hy
  obtain ⟨v, k, rfl, hv, hk⟩ := out_v ha
  exact ⟨v, k, n, q, rfl, hv, hk, hn⟩
theorem rg_law {l : V} (k : Bool → Option R) : ∀ (r a : List V) (s : Int) (fuel : Nat), l.els = a ++ r → (∀ x ∈ r, DSpent.has x) → (∀ x ∈ r, (lockOf (x.nth 1)).els.length ≤ 9223372036854775807) → 0 ≤ s → s ≤ a.length * MM → a.length ≤ 31 → l.els.length ≤ 9223372036854775807 → 40 ≤ fuel + a.length →
    lpC (BRg R) fuel (.m l s (l.els.length : Nat) (a.length : Nat)) (rgQ k) = k (rightS r a.length s) := by
  intro r
  induction r with
  | nil =>
    intro a s fuel he hg hk h0 h1 ha hz hf
    obtain ⟨f, rfl⟩ : ∃ f, fuel = f + 1 := ⟨fuel - 1, by omega⟩
    rw [List.append_nil] at he
    have hc := ix_f he
    show (bif ilt (a.length : Nat) (l.els.length : Nat) then _ else rgQ k _) = _
    rw [hc, cond_false]
    show (bif ile s 2000000000000 then k true else k false) = k (decide (s ≤ MM))
    rw [ile_d]
    by_cases h : s ≤ MM
    · simp only [MM] at h ⊢; simp only [h, decide_true, cond_true]
    · simp only [MM] at h ⊢; simp only [h, decide_false, cond_false]
  | cons x r ih =>
    intro a s fuel he hg hk h0 h1 ha hz hf
    obtain ⟨f, rfl⟩ : ∃ f, fuel = f + 1 := ⟨fuel - 1, by omega⟩
    have hc := ix_t he
    have hle : l.els.length = a.length + (r.length + 1) := by rw [he]; simp
    have hat : l.nth ((a.length : Nat) : Int).toNat = x := nth_at he
    have hx := hg x (by simp)
    have hkx := hk x (by simp)
    obtain ⟨r0, c, rfl, hr0, hc0⟩ := spent_v hx
    obtain ⟨v, kk, hh, q, rfl, hv, hkk, hhh⟩ := coin_vs hc0
    simp only [inR, lo, hi] at hv hhh
    have hkx : kk.els.length ≤ 9223372036854775807 := hkx
    have ih := ih (a ++ [.l [r0, .l [.l [.i v, kk], .i hh, .b q]]]) (s + v) f (by rw [he]; simp) (fun y hy => hg y (by simp [hy])) (fun y hy => hk y (by simp [hy]))
    simp only [List.length_append, List.length_singleton] at ih
    have e1 : rightS (.l [r0, .l [.l [.i v, kk], .i hh, .b q]] :: r) a.length s = bif decide (a.length ≤ 30) && decide (0 ≤ v ∧ v ≤ MM ∧ kk.els.length ≤ 300 ∧ 0 ≤ hh ∧ hh ≤ 1000000000) then rightS r (a.length + 1) (s + v) else false := rfl
    rw [e1, lpC, BRg_m, hc, cond_true, ck_in (by omega) (by omega), hat]
    have n1 : (V.l [r0, .l [.l [.i v, kk], .i hh, .b q]]).nth 1 = .l [.l [.i v, kk], .i hh, .b q] := rfl
    have n2 : (V.l [.l [.i v, kk], .i hh, .b q]).nth 0 = .l [.i v, kk] := rfl
    have n3 : ((V.l [.i v, kk]).nth 0).int = v := rfl
    have n4 : (V.l [.i v, kk]).nth 1 = kk := rfl
    have n5 : ((V.l [.l [.i v, kk], .i hh, .b q]).nth 1).int = hh := rfl
    rw [n1, n2, n3, n4, n5]
    simp only [ile_d, ilt_d]
    by_cases d0 : a.length ≤ 30
    · rw [show decide ((30 : Int) < (a.length : Nat)) = false by simp; omega, cond_false]
      by_cases d1 : 0 ≤ v
      · by_cases d2 : v ≤ 2000000000000
        · rw [ln_in hkx, ln_in hkx]
          by_cases d3 : kk.els.length ≤ 300
          · rw [show decide (((kk.els.length : Nat) : Int) ≤ 2000) = true by simp; omega, show decide ((300 : Int) < (kk.els.length : Nat)) = false by simp; omega]
            by_cases d4 : 0 ≤ hh
            · by_cases d5 : hh ≤ 1000000000
              · simp only [d0, d1, d2, d3, d4, d5, decide_true, cond_true, MM, and_self, Bool.and_self, cond_false]
                simp only [MM] at h1 ih
                rw [w64_in (by omega) (by omega), i_next (by omega)]
                exact ih (by omega) (by omega) (by omega) hz (by omega)
              · simp only [d0, d1, d2, d3, d4, d5, decide_true, cond_true, MM, decide_false, cond_false, and_false, Bool.and_false]; rfl
            · simp only [d0, d1, d2, d3, d4, decide_true, cond_true, MM, decide_false, cond_false, and_false, false_and, Bool.and_false]; rfl
          · simp only [d0, d1, d2, d3, decide_true, cond_true, MM, decide_false, cond_false, and_false, false_and, Bool.and_false]
            rw [show decide ((300 : Int) < (kk.els.length : Nat)) = true by simp; omega]
            cases decide (((kk.els.length : Nat) : Int) ≤ 2000) <;> cases decide (0 ≤ hh) <;> cases decide (hh ≤ 1000000000) <;> rfl
        · simp only [d0, d1, d2, decide_true, cond_true, MM, decide_false, cond_false, and_false, false_and, Bool.and_false]; rfl
      · simp only [d0, d1, decide_true, cond_true, MM, decide_false, cond_false, and_false, false_and, Bool.and_false]; rfl
    · rw [show decide ((30 : Int) < (a.length : Nat)) = true by simp; omega, cond_true]
      simp only [d0, decide_false, Bool.false_and, cond_false]; rfl
noncomputable def rgC (l : V) (k : Bool → Option R) : Option R := ln l.els.length <| lpC (BRg R) (hid FU) (.m l 0 (l.els.length : Nat) 0) (rgQ k)
/-! What is too great. -/
def longB (x : V) : Bool := decide (300 < (x.nth 1).els.length)
def greatS (t : V) : Bool := decide (12 < (t.nth 1).els.length) || decide (12 < (t.nth 2).els.length) || (t.nth 1).els.any longB || (t.nth 2).els.any longB
theorem ga_law {t l : V} {ko kr : Option R} {ka : QGa → Option R} {kb : QGb → Option R} (h1 : ∀ n i, ka (.o t l n i) = ko) (h2 : ∀ n i, ka (.r t l n i) = kr) (h3 : ∀ n i, kb (.o t l n i) = ko) (h4 : ∀ n i, kb (.r t l n i) = kr) : ∀ (r a : List V) (fuel : Nat), l.els = a ++ r → (∀ x ∈ r, (x.nth 1).els.length ≤ 9223372036854775807) → a.length + r.length ≤ 100000 → r.length < fuel →
    lpC (BGa R) fuel (.m t l (l.els.length : Nat) (a.length : Nat)) ka = (bif r.any longB then kr else ko) ∧
    lpC (BGb R) fuel (.m t l (l.els.length : Nat) (a.length : Nat)) kb = (bif r.any longB then kr else ko) := by
  intro r
  induction r with
  | nil =>
    intro a fuel he hg ha hf
    obtain ⟨f, rfl⟩ : ∃ f, fuel = f + 1 := ⟨fuel - 1, by omega⟩
    rw [List.append_nil] at he
    have hc := ix_f he
    constructor
    · rw [lpC, BGa_m, hc, cond_false]; exact h1 _ _
    · rw [lpC, BGb_m, hc, cond_false]; exact h3 _ _
  | cons x r ih =>
    intro a fuel he hg ha hf
    obtain ⟨f, rfl⟩ : ∃ f, fuel = f + 1 := ⟨fuel - 1, by simp at hf; omega⟩
    simp only [List.length_cons] at ha hf
    have hc := ix_t he
    have hle : l.els.length = a.length + (r.length + 1) := by rw [he]; simp
    have hat : l.nth ((a.length : Nat) : Int).toNat = x := nth_at he
    have hx := hg x (by simp)
    have ih := ih (a ++ [x]) f (by rw [he]; simp) (fun y hy => hg y (by simp [hy]))
    simp only [List.length_append, List.length_singleton] at ih
    obtain ⟨i1, i2⟩ := ih (by omega) (by omega)
    have e1 : (x :: r).any longB = (decide (300 < (x.nth 1).els.length) || r.any longB) := rfl
    rw [e1]
    have e2 : ilt 300 ((x.nth 1).els.length : Nat) = decide (300 < (x.nth 1).els.length) := ilt_nat 300 _
    constructor
    · rw [lpC, BGa_m, hc, cond_true, ck_in (by omega) (by omega), hat, ln_in hx, e2]
      by_cases c1 : 300 < (x.nth 1).els.length
      · simp only [c1, decide_true, cond_true, Bool.true_or]; exact h2 _ _
      · simp only [c1, decide_false, cond_false, Bool.false_or]
        rw [i_next (by omega)]; exact i1
    · rw [lpC, BGb_m, hc, cond_true, ck_in (by omega) (by omega), hat, ln_in hx, e2]
      by_cases c1 : 300 < (x.nth 1).els.length
      · simp only [c1, decide_true, cond_true, Bool.true_or]; exact h4 _ _
      · simp only [c1, decide_false, cond_false, Bool.false_or]
        rw [i_next (by omega)]; exact i2
noncomputable def gtC (v u : Int) (a b : V) (k : Bool → Option R) : Option R :=
  ln a.els.length <| bif ilt 12 (a.els.length : Nat) then k true else ln b.els.length <| bif ilt 12 (b.els.length : Nat) then k true else
  ln a.els.length <| lpC (BGa R) (hid FU) (.m (.l [.i v, a, b, .i u]) a (a.els.length : Nat) 0) fun q => match q with
    | .o t l n i => ln (t.nth 2).els.length <| lpC (BGb R) (hid FU) (.m t (t.nth 2) ((t.nth 2).els.length : Nat) 0) fun q => match q with
      | .o t l n i => k false
      | .r t l n i => k true
    | .r t l n i => k true
theorem gt_law {v u : Int} {a b : V} (k : Bool → Option R) (ha : ∀ x ∈ a.els, (x.nth 1).els.length ≤ 9223372036854775807) (hb : ∀ x ∈ b.els, (x.nth 1).els.length ≤ 9223372036854775807) (la : a.els.length ≤ 9223372036854775807) (lb : b.els.length ≤ 9223372036854775807) :
    gtC v u a b k = k (greatS (.l [.i v, a, b, .i u])) := by
  have e : greatS (.l [.i v, a, b, .i u]) = (decide (12 < a.els.length) || decide (12 < b.els.length) || a.els.any longB || b.els.any longB) := rfl
  have hq := fq_big
  rw [e]
  unfold gtC
  rw [ln_in la, ln_in la, ln_in lb, show ilt 12 (a.els.length : Nat) = decide (12 < a.els.length) from ilt_nat 12 _, show ilt 12 (b.els.length : Nat) = decide (12 < b.els.length) from ilt_nat 12 _]
  by_cases c1 : 12 < a.els.length
  · simp only [c1, decide_true, cond_true, Bool.true_or]
  by_cases c2 : 12 < b.els.length
  · simp only [c1, c2, decide_true, decide_false, cond_true, cond_false, Bool.true_or, Bool.or_true]
  simp only [c1, c2, decide_false, cond_false, Bool.false_or]
  have n2 : (V.l [V.i v, a, b, V.i u]).nth 2 = b := rfl
  have B := (ga_law (R := R) (t := .l [.i v, a, b, .i u]) (l := b) (ko := k false) (kr := k true) (ka := fun q => match q with | .o t l n i => k false | .r t l n i => k true) (kb := fun q => match q with | .o t l n i => k false | .r t l n i => k true) (fun _ _ => rfl) (fun _ _ => rfl) (fun _ _ => rfl) (fun _ _ => rfl) b.els [] (hid FU) rfl hb (by simp only [List.length_nil]; omega) (by omega)).2
  refine (ga_law (R := R) (t := .l [.i v, a, b, .i u]) (l := a) (ko := bif b.els.any longB then k true else k false) (kr := k true) (kb := fun q => match q with | .o t l n i => bif b.els.any longB then k true else k false | .r t l n i => k true) (fun n i => ?_) (fun _ _ => rfl) (fun _ _ => rfl) (fun _ _ => rfl) a.els [] (hid FU) rfl ha (by simp only [List.length_nil]; omega) (by omega)).1.trans ?_
  · show ln ((V.l [V.i v, a, b, V.i u]).nth 2).els.length _ = _
    rw [n2, ln_in lb]; exact B
  · cases a.els.any longB <;> cases b.els.any longB <;> rfl
/-! Where these hold. -/
def rgg : List V → Bool
  | [l] => Nat.ble l.els.length 9223372036854775807 && l.els.all fun x => Nat.ble (lockOf (x.nth 1)).els.length 9223372036854775807
  | _ => false
def rgr (b : Nat) : List V → List Rs
  | [l] => [.d b (.b (rightS l.els 0 0))]
  | _ => []
theorem rgC_law {b : Nat} {l : V} (h : (D.slice DSpent).has l) (hg : rgg [l] = true) : rgC l (fun q => some [Rs.d b (.b q)]) = some (rgr b [l]) := by
  have hg : (Nat.ble l.els.length 9223372036854775807 && l.els.all fun x => Nat.ble (lockOf (x.nth 1)).els.length 9223372036854775807) = true := hg
  simp only [Bool.and_eq_true, Nat.ble_eq, List.all_eq_true] at hg
  obtain ⟨g1, g2⟩ := hg
  unfold rgC
  rw [ln_in g1]
  exact rg_law _ l.els [] 0 (hid FU) rfl (slice_els h) (fun x hx => g2 x hx) (by decide) (by decide) (by decide) g1 (by have := fq_big; simp only [List.length_nil]; omega)
def gtg : List V → Bool
  | [t] => (Nat.ble (t.nth 1).els.length 9223372036854775807 && (t.nth 1).els.all fun x => Nat.ble (x.nth 1).els.length 9223372036854775807) && (Nat.ble (t.nth 2).els.length 9223372036854775807 && (t.nth 2).els.all fun x => Nat.ble (x.nth 1).els.length 9223372036854775807)
  | _ => false
def gtr (b : Nat) : List V → List Rs
  | [t] => [.d b (.b (greatS t))]
  | _ => []
theorem gtC_law {d : Nat} {v u : Int} {a b : V} (hg : gtg [.l [.i v, a, b, .i u]] = true) : gtC v u a b (fun q => some [Rs.d d (.b q)]) = some (gtr d [.l [.i v, a, b, .i u]]) := by
  have hg : ((Nat.ble a.els.length 9223372036854775807 && a.els.all fun x => Nat.ble (x.nth 1).els.length 9223372036854775807) && (Nat.ble b.els.length 9223372036854775807 && b.els.all fun x => Nat.ble (x.nth 1).els.length 9223372036854775807)) = true := hg
  simp only [Bool.and_eq_true, Nat.ble_eq, List.all_eq_true] at hg
  obtain ⟨⟨g1, g2⟩, g3, g4⟩ := hg
  exact gt_law _ g2 g4 g1 g3
end Go.Vm


namespace Go.Vm
open Go.RowKit
variable {T : TT} {P : Program} {c : Ctx} {e : Env} {of of' : Nat → Option Ob}
set_option linter.unusedVariables false
set_option linter.constructorNameAsVariable false

/-! ### The sum over a map of coins: the function's contract -/
def valC (c : V) : Int := ((c.nth 0).nth 0).int
def sumE : List (V × V) → Int
  | [] => 0
  | p :: r => valC p.2 + sumE r
def sumK (ct : Nat) : Sym := fun args of nx =>
  match args with
  | [.p ib tb []] => match of ib with
    | some (.box tb' (.g tg [.m mid]) _) => match of mid with
      | some (.vm kt et es) => bif Nat.beq et ct then some ⟨.i .i64 (W64 (sumE es)), [], [ib, mid], nx⟩ else none
      | _ => none
    | _ => none
  | _ => none
theorem sumE_perm : ∀ {es es' : List (V × V)}, es.Perm es' → sumE es = sumE es' := by
  intro es es' h
  induction h with
  | nil => rfl
  | cons x _ ih => simp only [sumE, ih]
  | swap x y l => simp only [sumE]; omega
  | trans _ _ i1 i2 => exact i1.trans i2
def isCoinT (T : TT) (ct : Nat) : Bool :=
  match kOf T ct with
  | some (.struct [ot, ht, bt]) => (match kOf T ot with
    | some (.struct [vt, st]) => (match kOf T vt, kOf T st with
      | some (.int .i64), some (.slice _) => true
      | _, _ => false)
    | _ => false) && (match kOf T ht, kOf T bt with
      | some (.int .i64), some .bool => true
      | _, _ => false)
  | _ => false
theorem rv_cons' {t : Nat} {ts : List Nat} {xs : List V} {cs : List Value} (h : RV T e (t :: ts) xs cs) : ∃ x r c1 c2, xs = x :: r ∧ cs = c1 ++ c2 ∧ RV T e [t] [x] c1 ∧ RV T e ts r c2 := by
  obtain ⟨as, bs, c1, c2, rfl, rfl, h1, h2⟩ := RV.split [t] (ts' := ts) h
  obtain ⟨a, rfl⟩ := List.length_eq_one_iff.1 h1.length.2
  exact ⟨a, bs, c1, c2, rfl, rfl, h1, h2⟩
theorem coin_cells {ct : Nat} (hc : isCoinT T ct = true) {x : V} {v : Value} (h : Rep1 T e (.v ct x) v) : isCoin v ∧ coinVal v = valC x := by
  unfold isCoinT at hc
  split at hc <;> try (cases hc; done)
  rename_i ot ht bt hk
  simp only [Bool.and_eq_true] at hc
  obtain ⟨h1, h2⟩ := hc
  split at h1 <;> try (cases h1; done)
  rename_i vt st hko
  split at h1 <;> try (cases h1; done)
  rename_i el hkv hks
  split at h2 <;> try (cases h2; done)
  rename_i hkh hkb
  obtain ⟨hr, hag⟩ := h
  obtain ⟨⟨cs⟩, rfl⟩ := hag.1 ⟨_, hk, rfl⟩
  obtain ⟨ys, rfl, g0⟩ := hr.struct_inv hk
  obtain ⟨a, r1, c1, c2, rfl, e1, ga, g1⟩ := rv_cons' g0
  obtain ⟨b, r2, c3, c4, rfl, rfl, gb, g2⟩ := rv_cons' g1
  obtain ⟨d, r3, c5, c6, rfl, rfl, gd, g3⟩ := rv_cons' g2
  cases g3
  obtain ⟨zs, rfl, g4⟩ := ga.struct_inv hko
  obtain ⟨m, r4, c7, c8, rfl, rfl, gm, g5⟩ := rv_cons' g4
  obtain ⟨k, r5, c9, c10, rfl, rfl, gk, g6⟩ := rv_cons' g5
  cases g6
  obtain ⟨n, rfl, rfl, _⟩ := gm.int_inv hkv
  obtain ⟨hh, rfl, rfl, _⟩ := gb.int_inv hkh
  obtain ⟨q, rfl, rfl⟩ := gd.bool_inv hkb
  have e1 : cs = _ := e1
  subst e1
  rcases gk.slice_inv hks with ⟨rfl, rfl⟩ | ⟨ys, ds, ad, cap, rfl, rfl, _⟩
  · exact ⟨⟨n, _, _, _, hh, q, rfl⟩, rfl⟩
  · exact ⟨⟨n, _, _, _, hh, q, rfl⟩, rfl⟩
theorem sum_cells {kt ct : Nat} (hc : isCoinT T ct = true) : ∀ {es : List (V × V)} {ms : List MapEntry}, MR T e kt ct (vms ct es) ms → (∀ x ∈ ms, isCoin x.val) ∧ (ms.map fun m => coinVal m.val).sum = sumE es := by
  intro es
  induction es with
  | nil => intro ms h; cases h; exact ⟨fun x hx => (by cases hx), rfl⟩
  | cons p r ih =>
    intro ms h
    cases h with
    | cons h1 h2 h3 h4 =>
      obtain ⟨i1, i2⟩ := ih h4
      obtain ⟨k1, k2⟩ := coin_cells hc h2
      refine ⟨fun x hx => ?_, ?_⟩
      · rcases List.mem_cons.1 hx with rfl | hx
        · exact k1
        · exact i1 x hx
      · rw [List.map_cons, List.sum_cons, i2, k2]; rfl
theorem vms_perm {et : Nat} {es : List (V × V)} : ∀ {es' : List (V × A)}, es'.Perm (vms et es) → ∃ es0, es' = vms et es0 ∧ es0.Perm es := by
  intro es' h
  have hv : ∀ l : List (V × V), vms et l = l.map (fun p => (p.1, A.v et p.2)) := fun l => by induction l with | nil => rfl | cons p r ih => simp [vms, ih]
  let un : V × A → V × V := fun p => (p.1, match p.2 with | .v _ y => y | _ => .n)
  have hun : ∀ l : List (V × V), (vms et l).map un = l := fun l => by
    rw [hv, List.map_map]
    conv => rhs; rw [← List.map_id l]
    exact List.map_congr_left (fun p _ => rfl)
  refine ⟨es'.map un, ?_, by have := h.map un; rwa [hun] at this⟩
  rw [hv, List.map_map]
  conv => lhs; rw [← List.map_id es']
  refine List.map_congr_left (fun p hp => ?_)
  have hp' := h.mem_iff.1 hp
  rw [hv] at hp'
  obtain ⟨q, _, rfl⟩ := List.mem_map.1 hp'
  rfl
theorem sumK_ok {f ct : Nat} (hS : Totals P f) (hc : isCoinT T ct = true) (hen : ∀ args w, (callFunc f args).run P w = .ok (.enter f args) w) : SymOK P T f (sumK ct) := by
  intro c e of of' as vals nx out hos hs hro hu hvals
  unfold sumK at hs
  split at hs <;> try (cases hs; done)
  rename_i ib tb
  split at hs <;> try (cases hs; done)
  rename_i tb' tg mid sh hob
  split at hs <;> try (cases hs; done)
  rename_i kt et es hom
  cases hb : Nat.beq et ct with
  | false => rw [hb] at hs; cases hs
  | true =>
  rw [hb, cond_true] at hs
  injection hs with hs; subst hs
  have := Nat.eq_of_beq_eq_true hb; subst this
  have hob' : of' ib = some (.box tb' (.g tg [.m mid]) sh) := (hro ib (by simp)).trans hob
  have hom' : of' mid = some (.vm kt et es) := (hro mid (by simp)).trans hom
  obtain ⟨x1, x2, x3, x4, Bm, cs, ty, fz, x5, x6, x7, x8, x9, x10⟩ := hos.ok _ _ hob'
  obtain ⟨y1, y2, b, ms, clock, y3, y4, ⟨y5, y5'⟩, es', y6, y7⟩ := hos.ok _ _ hom'
  obtain ⟨v, hvs⟩ : ∃ v, vals = #[v] := by
    obtain ⟨vals⟩ := vals
    cases hvals with | cons h1 h2 => cases h2; exact ⟨_, rfl⟩
  subst hvs
  have hv : Rep T e (.p ib tb []) v := by cases hvals with | cons h1 _ => exact h1
  obtain ⟨Bm', off, p1, p2, p3, p4, rfl⟩ := rep_p_inv (T := T) (e := e) (id := ib) (t := tb) (path := []) hv
  rw [x5] at p3
  cases p3
  cases p4
  obtain ⟨v3, hcs, hm3⟩ : ∃ v3, cs.toList = [v3] ∧ RA T e [.m mid] [v3] := by
    generalize cs.toList = l at x9
    cases x9 with
    | g g1 g2 g3 g4 g5 =>
      cases g5
      obtain ⟨v3, rfl⟩ := g4.single rfl
      exact ⟨v3, by simp, g4⟩
    | r g1 _ _ => exact g1.elim
  obtain ⟨b', _, _, z3, rfl⟩ := rep_m_inv hm3
  rw [y3] at z3; cases z3
  have hcell : e.w.cell? ⟨Bm, 0, none⟩ = some (.map (some b)) := by
    have : cs[0]? = some (.map (some b)) := by rw [← Array.getElem?_toList, hcs]; rfl
    simp [World.cell?, x6, this]
  obtain ⟨es0, rfl, hp⟩ := vms_perm y6
  obtain ⟨k1, k2⟩ := sum_cells hc y7
  have hcall := hS Bm b ms clock e.w (Array.getElem?_eq_some_iff.1 x6).1 hcell y4 y5' k1
  refine .inr (.inr (.inl ⟨f, _, e.w, hen _ _, hcall.mono fun en w' ⟨h1, h2⟩ => ⟨_, h1, ?_⟩⟩))
  obtain ⟨q1, q2⟩ := hos.below h2
  refine ⟨{ e with w := w' }, rfl, q1, q2, fun id hid => .inl hid, ?_⟩
  rw [k2, sumE_perm hp]
  exact rep_i (wrap_inR _ _)
end Go.Vm

end
