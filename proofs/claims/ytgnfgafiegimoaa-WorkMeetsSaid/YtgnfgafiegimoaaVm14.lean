/- What the operations of a program do, shown once for all programs; and numbers. -/
import Derived.Test.YtgnfgafiegimoaaVm13
import Derived.Test.YtgnfgafiegimoaaVm10
set_option linter.constructorNameAsVariable false
set_option linter.unusedVariables false
set_option linter.unusedSimpArgs false
noncomputable section
namespace Go.Vm
open Go.RowKit
variable {R : Type}
set_option linter.unusedVariables false
set_option linter.constructorNameAsVariable false
namespace Wd
/-! ### The document's Mul by one digit, times -/
inductive PMu where
  | m (y : Int) (zs xs : List V) (n i : Int)
inductive QMu where
  | o (y : Int) (zs xs : List V) (n i : Int)
def muC (zs xs : List V) (y i : Int) : Int := WU (0 + WU ((zs.getD (W64 (i + 0)).toNat .n).int + WU ((V.nth (.l xs) i.toNat).int * y)))
def muZ (zs xs : List V) (y i : Int) : List V := zs.set (W64 (i + 0)).toNat (.i ((muC zs xs y i).tmod 65536))
def BMu (R : Type) (p : PMu) (K : PMu → Option R) (kx : QMu → Option R) : Option R :=
  match p with
  | .m y zs xs n i => bif ilt i n then ck i xs.length <| ck (W64 (i + 0)) zs.length <| ck (W64 (i + 0)) zs.length <| ck (W64 (i + ((1 : Nat) : Int))) (muZ zs xs y i).length <|
      K (.m y ((muZ zs xs y i).set (W64 (i + ((1 : Nat) : Int))).toNat (.i (WU ((muC zs xs y i).tdiv 65536)))) xs n (W64 (i + 1)))
    else kx (.o y zs xs n i)
def muL (xs : List V) : Int := W64 ((xs.length : Nat) + ((1 : Nat) : Int))
noncomputable def muG (xs : List V) (y : Int) (k : V → Option R) : Option R :=
  ln xs.length <| bif (ile 0 (muL xs) && ile (muL xs) (muL xs)) && ile (muL xs) ((1073741824 : Nat) : Int) then
    ln xs.length <| lpC (BMu R) (hid FU) (.m y (List.replicate (muL xs).toNat (.i 0)) xs (xs.length : Nat) 0) (fun | .o y zs xs n i => k (.l zs)) else none
def mulN (y : Nat) : Nat → List Nat → List Nat
  | c, [] => [c]
  | c, x :: l => ((c + x * y) % 65536) :: mulN y ((c + x * y) / 65536) l
theorem ck_in {i : Int} {n : Nat} {k : Option R} (h0 : 0 ≤ i) (h1 : i < n) : ck i n k = k := by
  unfold ck
  rw [ile_iff.2 h0, show ilt i (n : Nat) = true by simp [ilt]; exact h1]; rfl
theorem mu_loop (y : Nat) (hy : y < 65536) (k : QMu → Option R) : ∀ (r a d : List Nat) (c fuel : Nat), d.length = a.length → c < 65536 → (∀ x ∈ r, x < 65536) → (a ++ r).length ≤ 1000000 → r.length < fuel →
    lpC (BMu R) fuel (.m y ((d ++ c :: List.replicate r.length 0).map nv) ((a ++ r).map nv) ((a ++ r).length : Nat) (a.length : Nat)) k = k (.o y ((d ++ mulN y c r).map nv) ((a ++ r).map nv) ((a ++ r).length : Nat) ((a ++ r).length : Nat)) := by
  intro r
  induction r with
  | nil =>
    intro a d c fuel hd hc hr hl hf
    obtain ⟨f, rfl⟩ : ∃ f, fuel = f + 1 := ⟨fuel - 1, by omega⟩
    rw [lpC, BMu]
    have no : ilt (a.length : Nat) (((a ++ []).length : Nat) : Int) = false := by rw [ilt_nat]; exact decide_eq_false (by simp)
    rw [no]
    simp [mulN]
  | cons x r ih =>
    intro a d c fuel hd hc hr hl hf
    obtain ⟨f, rfl⟩ : ∃ f, fuel = f + 1 := ⟨fuel - 1, by omega⟩
    have hx := hr x (by simp)
    have hll : a.length + r.length + 1 ≤ 1000000 := by simp at hl; omega
    have hxy : x * y ≤ 65535 * 65535 := Nat.mul_le_mul (by omega) (by omega)
    rw [lpC, BMu]
    have yes : ilt (a.length : Nat) (((a ++ x :: r).length : Nat) : Int) = true := by rw [ilt_nat]; exact decide_eq_true (by simp)
    rw [yes, cond_true]
    have w0 : W64 ((a.length : Nat) + 0) = ((a.length : Nat) : Int) := by rw [Int.add_zero]; exact w64_in (by omega) (by omega)
    have w1 : W64 ((a.length : Nat) + ((1 : Nat) : Int)) = ((a.length + 1 : Nat) : Int) := w64_in (by omega) (by omega)
    have w2 : W64 ((a.length : Nat) + 1) = ((a.length + 1 : Nat) : Int) := w64_in (by omega) (by omega)
    have eC : muC ((d ++ c :: List.replicate (x :: r).length 0).map nv) ((a ++ x :: r).map nv) y (a.length : Nat) = ((c + x * y : Nat) : Int) := by
      unfold muC
      rw [w0]
      have g1 : (((d ++ c :: List.replicate (x :: r).length 0).map nv).getD ((a.length : Nat) : Int).toNat .n) = nv c := by
        rw [Int.toNat_natCast, ← hd, List.map_append, List.getD_eq_getElem?_getD, List.getElem?_append_right (by simp)]; simp
      have g2 : V.nth (.l ((a ++ x :: r).map nv)) ((a.length : Nat) : Int).toNat = nv x := by
        unfold V.nth
        show ((a ++ x :: r).map nv).getD _ _ = _
        rw [Int.toNat_natCast, List.map_append, List.getD_eq_getElem?_getD, List.getElem?_append_right (by simp)]; simp
      rw [g1, g2]
      show WU (0 + WU ((c : Int) + WU ((x : Int) * (y : Int)))) = _
      rw [← Int.natCast_mul, wu64_lt (n := x * y) (by omega), ← Int.natCast_add, wu64_lt (n := c + x * y) (by omega), Int.zero_add, wu64_lt (by omega)]
    have eZ : muZ ((d ++ c :: List.replicate (x :: r).length 0).map nv) ((a ++ x :: r).map nv) y (a.length : Nat) = (d ++ ((c + x * y) % 65536) :: List.replicate (x :: r).length 0).map nv := by
      unfold muZ
      rw [eC, w0, Int.toNat_natCast, ← hd, List.map_append, List.set_append_right _ _ (by simp)]
      simp
      rfl
    have eZ2 : ((d ++ ((c + x * y) % 65536) :: List.replicate (x :: r).length 0).map nv).set (((a.length + 1 : Nat) : Int)).toNat (.i (WU (((c + x * y : Nat) : Int).tdiv 65536))) = ((d ++ [(c + x * y) % 65536]) ++ ((c + x * y) / 65536) :: List.replicate r.length 0).map nv := by
      rw [show ((c + x * y : Nat) : Int).tdiv 65536 = (((c + x * y) / 65536 : Nat) : Int) from rfl, wu64_lt (by omega), Int.toNat_natCast, ← hd]
      rw [show d ++ ((c + x * y) % 65536) :: List.replicate (x :: r).length 0 = (d ++ [(c + x * y) % 65536]) ++ List.replicate (x :: r).length 0 by simp]
      rw [List.map_append, List.set_append_right _ _ (by simp)]
      simp [List.replicate_succ]
      rfl
    rw [ck_in (by omega) (by simp; omega), w0, ck_in (by omega) (by simp; omega), ck_in (by omega) (by simp; omega), eZ, w1, ck_in (by omega) (by simp; omega), eC, eZ2, w2]
    have h := ih (a ++ [x]) (d ++ [(c + x * y) % 65536]) ((c + x * y) / 65536) f (by simp [hd]) (by omega) (fun z hz => hr z (by simp [hz])) (by simpa using hl) (by simp at hf; omega)
    simp only [List.append_assoc, List.singleton_append, List.length_append, List.length_singleton] at h ⊢
    rw [h]
    simp [mulN]
/-- Digits that may be multiplied: small ones, not too many. -/
def dgOK (l : List V) : Bool := Nat.ble l.length 1000000 && l.all fun v => Nat.ble v.int.toNat 65535
def digN (x : V) : List Nat := bytesN x
def mug : List V → Bool := fun xs => match xs with
  | [.l l, .l [.i y]] => ieq y 256 && dgOK l
  | _ => false
def mur (t : Nat) : List V → List Rs := fun xs => match xs with
  | [x, _] => [.d t (.l ((mulN 256 0 (bytesN x)).map nv))]
  | _ => []
theorem dgOK_at {ns : List Nat} (h : dgOK (ns.map nv) = true) : ns.length ≤ 1000000 ∧ ∀ a ∈ ns, a < 65536 := by
  unfold dgOK at h
  rw [Bool.and_eq_true, List.length_map] at h
  refine ⟨Nat.le_of_ble_eq_true h.1, fun a ha => ?_⟩
  have := Nat.le_of_ble_eq_true (List.all_eq_true.1 h.2 (nv a) (List.mem_map_of_mem ha))
  simp [nv, V.int] at this
  omega
theorem dgOK_of {ns : List Nat} (h1 : ns.length ≤ 1000000) (h2 : ∀ a ∈ ns, a < 65536) : dgOK (ns.map nv) = true := by
  unfold dgOK
  rw [Bool.and_eq_true, List.length_map]
  refine ⟨Nat.ble_eq_true_of_le h1, List.all_eq_true.2 fun v hv => ?_⟩
  obtain ⟨a, ha, rfl⟩ := List.mem_map.1 hv
  have := h2 a ha
  exact Nat.ble_eq_true_of_le (by simp [nv, V.int]; omega)
theorem mu_law {ns : List Nat} (h : dgOK (ns.map nv) = true) (k : V → Option R) : muG (ns.map nv) 256 k = k (.l ((mulN 256 0 ns).map nv)) := by
  obtain ⟨h1, h2⟩ := dgOK_at h
  have hL : muL (ns.map nv) = ((ns.length + 1 : Nat) : Int) := by
    unfold muL; rw [List.length_map]; exact w64_in (by omega) (by omega)
  have e1 : ile 0 ((ns.length + 1 : Nat) : Int) = true := ile_iff.2 (by omega)
  have e2 : ile ((ns.length + 1 : Nat) : Int) ((ns.length + 1 : Nat) : Int) = true := ile_iff.2 (by omega)
  have e3 : ile ((ns.length + 1 : Nat) : Int) ((1073741824 : Nat) : Int) = true := ile_iff.2 (by omega)
  unfold muG
  rw [hL, e1, e2, e3, List.length_map, ln_in (by omega)]
  simp only [Bool.and_self, cond_true]
  rw [ln_in (by omega)]
  have hm := mu_loop (R := R) 256 (by omega) (fun | .o y zs xs n i => k (.l zs)) ns [] [] 0 (hid FU) rfl (by omega) h2 h1 (by rw [hid_eq]; show ns.length < 4611686018427387904; omega)
  have er : List.replicate (((ns.length + 1 : Nat) : Int)).toNat (V.i 0) = (([] : List Nat) ++ 0 :: List.replicate ns.length 0).map nv := by
    rw [Int.toNat_natCast]; simp [List.replicate_succ]; exact ⟨rfl, .inr rfl⟩
  rw [er]
  exact hm
theorem mug_at {a b : V} (h : mug [a, b] = true) : ∃ l y, a = .l l ∧ b = .l [.i y] ∧ y = 256 ∧ dgOK l = true := by
  unfold mug at h
  split at h
  · rename_i l y e
    injection e with e1 e2
    injection e2 with e2 _
    rw [Bool.and_eq_true] at h
    exact ⟨l, y, e1, e2, ieq_iff.1 h.1, h.2⟩
  · cases h
theorem digs {x : V} (h : (D.slice (.int .u64)).has x) : x = .n ∨ ∃ ns : List Nat, x = .l (ns.map nv) ∧ ∀ a ∈ ns, a < 18446744073709551616 := by
  rcases h with rfl | ⟨ys, rfl, hy⟩
  · exact .inl rfl
  · refine .inr ?_
    induction ys with
    | nil => exact ⟨[], rfl, fun a ha => by cases ha⟩
    | cons y ys ih =>
      obtain ⟨ns, e, hn⟩ := ih (fun z hz => hy z (List.mem_cons_of_mem _ hz))
      obtain ⟨m, rfl, h1, h2⟩ := hy y (List.mem_cons_self ..)
      simp only [lo, hi] at h1 h2
      injection e with e
      subst e
      refine ⟨m.toNat :: ns, ?_, fun a ha => ?_⟩
      · simp only [List.map_cons, nv]; rw [show ((m.toNat : Nat) : Int) = m by omega]
      · rcases List.mem_cons.1 ha with rfl | ha
        · omega
        · exact hn a ha
theorem mulN_len (y : Nat) : ∀ (l : List Nat) (c : Nat), (mulN y c l).length = l.length + 1
  | [], _ => rfl
  | x :: l, c => by rw [mulN, List.length_cons, mulN_len y l, List.length_cons]
theorem mulN_lt {y : Nat} (hy : y < 65536) : ∀ (l : List Nat) (c : Nat), c < 65536 → (∀ a ∈ l, a < 65536) → ∀ a ∈ mulN y c l, a < 65536
  | [], c, hc, _, a, ha => by
    rw [mulN, List.mem_singleton] at ha; omega
  | x :: l, c, hc, hl, a, ha => by
    have hx := hl x (by simp)
    have hxy : x * y ≤ 65535 * 65535 := Nat.mul_le_mul (by omega) (by omega)
    rw [mulN, List.mem_cons] at ha
    rcases ha with rfl | ha
    · omega
    · exact mulN_lt hy l _ (by omega) (fun z hz => hl z (by simp [hz])) a ha
inductive PTi where
  | m (x : V) (n i : Int)
inductive QTi where
  | o (x : V) (n i : Int)
def BTi (R : Type) (p : PTi) (K : PTi → Option R) (kx : QTi → Option R) : Option R :=
  match p with
  | .m x n i => bif ilt i n then bif mug [x, .l [.i 256]] then K (.m (.l ((mulN 256 0 (bytesN x)).map nv)) n (W64 (i + 1))) else none else kx (.o x n i)
noncomputable def tiG (x : V) (n : Int) (k : V → Option R) : Option R := lpC (BTi R) (hid FU) (.m x n 0) (fun | .o x n i => k x)
def timesN : Nat → List Nat → List Nat
  | 0, l => l
  | k + 1, l => timesN k (mulN 256 0 l)
def tig : List V → Bool := fun xs => match xs with
  | [.l l, .i n] => ile n 1000 && Nat.ble l.length 1000 && dgOK l
  | _ => false
def tir (t : Nat) : List V → List Rs := fun xs => match xs with
  | [x, n] => [.d t (.l ((timesN n.int.toNat (bytesN x)).map nv))]
  | _ => []
theorem tig_at {a b : V} (h : tig [a, b] = true) : ∃ l n, a = .l l ∧ b = .i n ∧ n ≤ 1000 ∧ l.length ≤ 1000 ∧ dgOK l = true := by
  unfold tig at h
  split at h
  · rename_i l y e
    injection e with e1 e2
    injection e2 with e2 _
    rw [Bool.and_eq_true, Bool.and_eq_true] at h
    exact ⟨l, y, e1, e2, ile_iff.1 h.1.1, Nat.le_of_ble_eq_true h.1.2, h.2⟩
  · cases h
theorem ti_loop (n : Int) (hn : n ≤ 1000) (k : QTi → Option R) : ∀ (r i : Nat) (ns : List Nat) (fuel : Nat), (i + r : Nat) = n.toNat → (∀ a ∈ ns, a < 65536) → ns.length + r ≤ 3000 → r < fuel →
    ∃ j, lpC (BTi R) fuel (.m (.l (ns.map nv)) n (i : Nat)) k = k (.o (.l ((timesN r ns).map nv)) n j) := by
  intro r
  induction r with
  | zero =>
    intro i ns fuel hi hs hl hf
    obtain ⟨f, rfl⟩ : ∃ f, fuel = f + 1 := ⟨fuel - 1, by omega⟩
    refine ⟨(i : Nat), ?_⟩
    rw [lpC, BTi]
    have no : ilt (i : Nat) n = false := by
      cases h : ilt (i : Nat) n with
      | false => rfl
      | true => rw [ilt_iff] at h; omega
    rw [no]; rfl
  | succ r ih =>
    intro i ns fuel hi hs hl hf
    obtain ⟨f, rfl⟩ : ∃ f, fuel = f + 1 := ⟨fuel - 1, by omega⟩
    obtain ⟨j, hj⟩ := ih (i + 1) (mulN 256 0 ns) f (by omega) (mulN_lt (by omega) ns 0 (by omega) hs) (by rw [mulN_len]; omega) (by omega)
    refine ⟨j, ?_⟩
    rw [lpC, BTi]
    have yes : ilt (i : Nat) n = true := ilt_iff.2 (by omega)
    have hm : mug [.l (ns.map nv), .l [.i 256]] = true := by
      show (ieq 256 256 && dgOK (ns.map nv)) = true
      rw [dgOK_of (by omega) hs]; rfl
    rw [yes, cond_true, hm, cond_true, bytesN_eq (x := .l (ns.map nv)) rfl, show W64 ((i : Nat) + 1) = ((i + 1 : Nat) : Int) from w64_in (by omega) (by omega), hj]
    rfl
theorem ti_law {ns : List Nat} {n : Int} (h1 : n ≤ 1000) (h2 : ns.length ≤ 1000) (h3 : dgOK (ns.map nv) = true) (k : V → Option R) : tiG (.l (ns.map nv)) n k = k (.l ((timesN n.toNat ns).map nv)) := by
  obtain ⟨j, hj⟩ := ti_loop (R := R) n h1 (fun | .o x n i => k x) n.toNat 0 ns (hid FU) (by omega) (dgOK_at h3).2 (by omega) (by rw [hid_eq]; show _ < 4611686018427387904; omega)
  exact hj
end Wd
end Go.Vm

namespace Go.Vm
open Go.RowKit
variable {R : Type}
set_option linter.unusedVariables false
set_option linter.constructorNameAsVariable false
namespace Wd
/-! ### The document's Bits -/
inductive PBj where
  | m (r j x q : Int) (l : List V) (n i : Int)
inductive QBj where
  | o (r j x q : Int) (l : List V) (n i : Int)
def BBj (R : Type) (p : PBj) (K : PBj → Option R) (kx : QBj → Option R) : Option R :=
  match p with
  | .m r j x q l n i => bif ilt 0 x then K (.m r j (WU (x.tdiv 2)) (W64 (q + 1)) l n i) else kx (.o r j x q l n i)
inductive PBi where
  | m (r : Int) (l : List V) (n i : Int)
inductive QBi where
  | o (r : Int) (l : List V) (n i : Int)
noncomputable def BBi (R : Type) (p : PBi) (K : PBi → Option R) (kx : QBi → Option R) : Option R :=
  match p with
  | .m r l n i => bif ilt i n then ck i l.length <| lpC (BBj R) (hid FU) (.m r i (V.nth (.l l) i.toNat).int 0 l n i) (fun
      | .o r j x q l n i => bif ilt 0 q then K (.m (W64 (W64 (16 * j) + q)) l n (W64 (i + 1))) else K (.m r l n (W64 (i + 1))))
    else kx (.o r l n i)
noncomputable def dbG (l : List V) (k : Int → Option R) : Option R := ln l.length <| lpC (BBi R) (hid FU) (.m 0 l (l.length : Nat) 0) (fun | .o r l n i => k r)
def bitsN : Nat → Nat → List Nat → Nat
  | _, r, [] => r
  | i, r, x :: l => bitsN (i + 1) (if x = 0 then r else 16 * i + blen x) l
theorem bj_loop {r j : Int} {l : List V} {n i : Int} (k : QBj → Option R) : ∀ (b x q fuel : Nat), blen x = b → x < 18446744073709551616 → q + b ≤ 1000000 → b < fuel → lpC (BBj R) fuel (.m r j (x : Nat) (q : Nat) l n i) k = k (.o r j (0 : Nat) ((q + b : Nat) : Int) l n i) := by
  intro b
  induction b with
  | zero =>
    intro x q fuel hb hx hq hf
    obtain ⟨f, rfl⟩ : ∃ f, fuel = f + 1 := ⟨fuel - 1, by omega⟩
    have h0 : x = 0 := by
      by_cases h : x = 0
      · exact h
      · have := blen_pos h; omega
    subst h0
    rw [lpC, BBj]; rfl
  | succ b ih =>
    intro x q fuel hb hx hq hf
    obtain ⟨f, rfl⟩ : ∃ f, fuel = f + 1 := ⟨fuel - 1, by omega⟩
    have h0 : x ≠ 0 := by intro h; subst h; rw [blen_zero] at hb; omega
    have h1 := blen_half h0
    rw [lpC, BBj]
    rw [show ilt 0 (x : Nat) = true from ilt_iff.2 (by omega), cond_true, show ((x : Nat) : Int).tdiv 2 = ((x / 2 : Nat) : Int) from rfl, wu64_lt (by omega), show W64 ((q : Nat) + 1) = ((q + 1 : Nat) : Int) from w64_in (by omega) (by omega), ih (x / 2) (q + 1) f (by omega) (by omega) (by omega) (by omega)]
    rw [show q + 1 + b = q + (b + 1) by omega]
theorem blen_64 {x : Nat} (h : x < 18446744073709551616) : blen x ≤ 64 := by
  by_cases h0 : x = 0
  · subst h0; rw [blen_zero]; omega
  · have h1 := blen_le h0
    have : 2 ^ (blen x - 1) < 2 ^ 64 := Nat.lt_of_le_of_lt h1 h
    have := (Nat.pow_lt_pow_iff_right (a := 2) (by omega)).1 this
    omega
theorem bi_loop (k : QBi → Option R) : ∀ (y a : List Nat) (r fuel : Nat), (∀ x ∈ y, x < 18446744073709551616) → (a ++ y).length ≤ 1000000 → r ≤ 100000000 → y.length < fuel →
    lpC (BBi R) fuel (.m (r : Nat) ((a ++ y).map nv) ((a ++ y).length : Nat) (a.length : Nat)) k = k (.o (bitsN a.length r y : Nat) ((a ++ y).map nv) ((a ++ y).length : Nat) ((a ++ y).length : Nat)) := by
  intro y
  induction y with
  | nil =>
    intro a r fuel hs hl hr hf
    obtain ⟨f, rfl⟩ : ∃ f, fuel = f + 1 := ⟨fuel - 1, by omega⟩
    rw [lpC, BBi]
    have no : ilt (a.length : Nat) (((a ++ []).length : Nat) : Int) = false := by rw [ilt_nat]; exact decide_eq_false (by simp)
    rw [no]
    simp [bitsN]
  | cons x y ih =>
    intro a r fuel hs hl hr hf
    obtain ⟨f, rfl⟩ : ∃ f, fuel = f + 1 := ⟨fuel - 1, by omega⟩
    have hx := hs x (by simp)
    have hll : a.length + y.length + 1 ≤ 1000000 := by simp at hl; omega
    have yes : ilt (a.length : Nat) (((a ++ x :: y).length : Nat) : Int) = true := by rw [ilt_nat]; exact decide_eq_true (by simp)
    have g2 : V.nth (.l ((a ++ x :: y).map nv)) ((a.length : Nat) : Int).toNat = nv x := by
      unfold V.nth
      show ((a ++ x :: y).map nv).getD _ _ = _
      rw [Int.toNat_natCast, List.map_append, List.getD_eq_getElem?_getD, List.getElem?_append_right (by simp)]; simp
    have hb := blen_64 hx
    have w2 : W64 ((a.length : Nat) + 1) = ((a.length + 1 : Nat) : Int) := w64_in (by omega) (by omega)
    rw [lpC, BBi, yes, cond_true, ck_in (by omega) (by simp; omega), g2]
    have hj := bj_loop (R := R) (r := (r : Nat)) (j := (a.length : Nat)) (l := (a ++ x :: y).map nv) (n := ((a ++ x :: y).length : Nat)) (i := (a.length : Nat)) (fun
      | .o r j x q l n i => bif ilt 0 q then lpC (BBi R) f (.m (W64 (W64 (16 * j) + q)) l n (W64 (i + 1))) k else lpC (BBi R) f (.m r l n (W64 (i + 1))) k) (blen x) x 0 (hid FU) rfl hx (by omega) (by rw [hid_eq]; show _ < 4611686018427387904; omega)
    refine hj.trans ?_
    show (bif ilt 0 ((0 + blen x : Nat) : Int) then lpC (BBi R) f (.m (W64 (W64 (16 * ((a.length : Nat) : Int)) + ((0 + blen x : Nat) : Int))) _ _ (W64 ((a.length : Nat) + 1))) k else lpC (BBi R) f (.m (r : Nat) _ _ (W64 ((a.length : Nat) + 1))) k) = _
    rw [Nat.zero_add, w2]
    have fin : ∀ r' : Nat, r' ≤ 100000000 → r' = (if x = 0 then r else 16 * a.length + blen x) → lpC (BBi R) f (.m (r' : Nat) ((a ++ x :: y).map nv) ((a ++ x :: y).length : Nat) ((a.length + 1 : Nat) : Int)) k = k (.o (bitsN a.length r (x :: y) : Nat) ((a ++ x :: y).map nv) ((a ++ x :: y).length : Nat) ((a ++ x :: y).length : Nat)) := fun r' h1 h2 => by
      have h := ih (a ++ [x]) r' f (fun z hz => hs z (by simp [hz])) (by simpa using hl) h1 (by simp at hf; omega)
      simp only [List.append_assoc, List.singleton_append, List.length_append, List.length_singleton] at h ⊢
      rw [h, bitsN, h2]
    by_cases h0 : x = 0
    · subst h0
      rw [blen_zero, show ilt 0 ((0 : Nat) : Int) = false from rfl, cond_false]
      exact fin r hr (by simp)
    · have hp := blen_pos h0
      rw [show ilt 0 ((blen x : Nat) : Int) = true from ilt_iff.2 (by omega), cond_true, show (16 : Int) * ((a.length : Nat) : Int) = ((16 * a.length : Nat) : Int) by omega, show W64 ((16 * a.length : Nat) : Int) = ((16 * a.length : Nat) : Int) from w64_in (by omega) (by omega),
        ← Int.natCast_add, show W64 ((16 * a.length + blen x : Nat) : Int) = ((16 * a.length + blen x : Nat) : Int) from w64_in (by omega) (by omega)]
      exact fin _ (by omega) (by rw [if_neg h0])
def dbg_ : List V → Bool := fun xs => match xs with
  | [.l l] => Nat.ble l.length 1000000
  | _ => false
def dbr (t : Nat) : List V → List Rs := fun xs => match xs with
  | [x] => [.d t (.i (bitsN 0 0 (bytesN x) : Nat))]
  | _ => []
theorem dbg_at {a : V} (h : dbg_ [a] = true) : ∃ l, a = .l l ∧ l.length ≤ 1000000 := by
  cases a with
  | l l => exact ⟨l, rfl, Nat.le_of_ble_eq_true h⟩
  | _ => cases h
theorem db_law {ns : List Nat} (h1 : ns.length ≤ 1000000) (h2 : ∀ x ∈ ns, x < 18446744073709551616) (k : Int → Option R) : dbG (ns.map nv) k = k (bitsN 0 0 ns : Nat) := by
  unfold dbG
  rw [List.length_map, ln_in (by omega)]
  exact bi_loop (R := R) (fun | .o r l n i => k r) ns [] 0 (hid FU) h2 h1 (by omega) (by rw [hid_eq]; show _ < 4611686018427387904; omega)
theorem bitsN_zero : ∀ (l : List Nat) (i r : Nat), bitsN i r l = 0 ↔ r = 0 ∧ ∀ x ∈ l, x = 0 ∨ False
  | [], i, r => by simp [bitsN]
  | x :: l, i, r => by
    rw [bitsN, bitsN_zero l]
    by_cases h : x = 0
    · simp [h]
    · have := blen_pos h
      simp [h]; omega
end Wd
end Go.Vm

namespace Go.Vm
open Go.RowKit
variable {R : Type}
set_option linter.unusedVariables false
set_option linter.constructorNameAsVariable false
namespace Wd
/-! ### The document's Compare, as numbers -/
def valN : List Nat → Nat
  | [] => 0
  | x :: l => x + 65536 * valN l
def valTo : Nat → (Nat → Nat) → Nat
  | 0, _ => 0
  | m + 1, p => valTo m p + 65536 ^ m * p m
def cmpL : Nat → (Nat → Nat) → (Nat → Nat) → Int
  | 0, _, _ => 0
  | m + 1, p, q => if p m < q m then -1 else if q m < p m then 1 else cmpL m p q
theorem valTo_lt {p : Nat → Nat} (h : ∀ i, p i < 65536) : ∀ m, valTo m p < 65536 ^ m
  | 0 => by simp [valTo]
  | m + 1 => by
    have h1 := valTo_lt h m
    have h2 : 65536 ^ m * p m ≤ 65536 ^ m * 65535 := Nat.mul_le_mul_left _ (by have := h m; omega)
    rw [valTo, Nat.pow_succ]; omega
theorem cmpL_val {p q : Nat → Nat} (hp : ∀ i, p i < 65536) (hq : ∀ i, q i < 65536) : ∀ m, cmpL m p q = cmpI (valTo m p) (valTo m q)
  | 0 => by simp [cmpL, valTo, cmpI]
  | m + 1 => by
    have h1 := valTo_lt hp m
    have h2 := valTo_lt hq m
    rw [cmpL, cmpL_val hp hq m, valTo, valTo]
    by_cases a : p m < q m
    · have : 65536 ^ m * p m + 65536 ^ m ≤ 65536 ^ m * q m := by rw [← Nat.mul_succ]; exact Nat.mul_le_mul_left _ a
      rw [if_pos a, cmpI, if_pos (by omega)]
    · by_cases b : q m < p m
      · have : 65536 ^ m * q m + 65536 ^ m ≤ 65536 ^ m * p m := by rw [← Nat.mul_succ]; exact Nat.mul_le_mul_left _ b
        rw [if_neg a, if_pos b, cmpI, if_neg (by omega), if_pos (by omega)]
      · have e : p m = q m := by omega
        rw [if_neg a, if_neg b, e]
        unfold cmpI
        simp only [Nat.add_lt_add_iff_right]
theorem valTo_shift (p : Nat → Nat) : ∀ m, valTo (m + 1) p = p 0 + 65536 * valTo m (fun i => p (i + 1))
  | 0 => by simp [valTo]
  | m + 1 => by
    rw [valTo, valTo_shift p m, valTo, Nat.pow_succ, Nat.mul_add]
    rw [Nat.add_assoc, Nat.mul_comm (65536 ^ m) 65536, Nat.mul_assoc]
theorem valTo_zero : ∀ m, valTo m (fun _ => 0) = 0
  | 0 => rfl
  | m + 1 => by rw [valTo, valTo_zero m]; simp
theorem valTo_list : ∀ (l : List Nat) (m : Nat), l.length ≤ m → valTo m (fun i => l.getD i 0) = valN l
  | [], m, _ => by
    have : (fun i => ([] : List Nat).getD i 0) = fun _ => 0 := by funext i; simp
    rw [this, valTo_zero]; rfl
  | x :: l, m, h => by
    obtain ⟨m, rfl⟩ : ∃ m', m = m' + 1 := ⟨m - 1, by simp at h; omega⟩
    have h' : l.length ≤ m := by simp at h; omega
    rw [valTo_shift, valN, ← valTo_list l m h']
    simp
theorem dgC_nat {ns : List Nat} (h : ns.length ≤ 1000000) (i : Nat) (k : Int → Option R) : dgC (.l (ns.map nv)) (i : Nat) k = k (ns.getD i 0 : Nat) := by
  unfold dgC
  show ln (ns.map nv).length (bif ilt (i : Nat) ((ns.map nv).length : Nat) then ck (i : Nat) (ns.map nv).length (k (elV (.l (ns.map nv)) (i : Nat))) else k 0) = _
  rw [List.length_map, ln_in (by omega), ilt_nat]
  by_cases hi : i < ns.length
  · rw [decide_eq_true hi, cond_true, ck_in (by omega) (by omega)]
    congr 1
    unfold elV V.nth
    show ((ns.map nv).getD ((i : Nat) : Int).toNat .n).int = _
    rw [Int.toNat_natCast, List.getD_eq_getElem?_getD, List.getElem?_map, List.getElem?_eq_getElem hi, List.getD_eq_getElem?_getD, List.getElem?_eq_getElem hi]; rfl
  · rw [decide_eq_false hi, cond_false]
    congr 1
    rw [List.getD_eq_getElem?_getD, List.getElem?_eq_none (by omega)]; rfl
theorem cp_loop {as bs : List Nat} (ha : as.length ≤ 1000000) (hb : bs.length ≤ 1000000) (t : Nat) (k : List Rs → Option R) : ∀ (m fuel : Nat), m ≤ 1000000 → m < fuel →
    lpC (BCp R) fuel (.m (.l (as.map nv)) (.l (bs.map nv)) 0 ((m : Nat) - 1)) (cpK t k) = k [.d t (.i (cmpL m (fun i => as.getD i 0) (fun i => bs.getD i 0)))] := by
  intro m
  induction m with
  | zero =>
    intro fuel hm hf
    obtain ⟨f, rfl⟩ : ∃ f, fuel = f + 1 := ⟨fuel - 1, by omega⟩
    rw [lpC, BCp]; rfl
  | succ m ih =>
    intro fuel hm hf
    obtain ⟨f, rfl⟩ : ∃ f, fuel = f + 1 := ⟨fuel - 1, by omega⟩
    rw [lpC, BCp, show (((m + 1 : Nat) : Int) - 1) = ((m : Nat) : Int) by omega, show ile 0 ((m : Nat) : Int) = true from ile_iff.2 (by omega), cond_true]
    simp only [dgC_nat ha, dgC_nat hb]
    rw [ilt_nat, ilt_nat, cmpL]
    by_cases h1 : as.getD m 0 < bs.getD m 0
    · rw [decide_eq_true h1, if_pos h1]; rfl
    · rw [decide_eq_false h1, if_neg h1, cond_false]
      by_cases h2 : bs.getD m 0 < as.getD m 0
      · rw [decide_eq_true h2, if_pos h2]; rfl
      · rw [decide_eq_false h2, if_neg h2, cond_false, show W64 (((m : Nat) : Int) - 1) = ((m : Nat) : Int) - 1 from w64_in (by omega) (by omega)]
        exact ih f (by omega) (by omega)
def cpg : List V → Bool := fun xs => match xs with
  | [.l a, .l b] => dgOK a && dgOK b
  | _ => false
def cpr (t : Nat) : List V → List Rs := fun xs => match xs with
  | [a, b] => [.d t (.i (cmpI (valN (bytesN a)) (valN (bytesN b))))]
  | _ => []
theorem cpg_at {a b : V} (h : cpg [a, b] = true) : ∃ l m, a = .l l ∧ b = .l m ∧ dgOK l = true ∧ dgOK m = true := by
  unfold cpg at h
  split at h
  · rename_i l y e
    injection e with e1 e2
    injection e2 with e2 _
    rw [Bool.and_eq_true] at h
    exact ⟨l, y, e1, e2, h.1, h.2⟩
  · cases h
theorem getD_dg {ns : List Nat} (h : ∀ a ∈ ns, a < 65536) (i : Nat) : ns.getD i 0 < 65536 := by
  by_cases hi : i < ns.length
  · rw [List.getD_eq_getElem?_getD, List.getElem?_eq_getElem hi]; exact h _ (List.getElem_mem hi)
  · rw [List.getD_eq_getElem?_getD, List.getElem?_eq_none (by omega)]; simp
theorem cp_num {as bs : List Nat} (ha : dgOK (as.map nv) = true) (hb : dgOK (bs.map nv) = true) (t : Nat) (k : List Rs → Option R) : Gcp t R [.l (as.map nv), .l (bs.map nv)] k = k [.d t (.i (cmpI (valN as) (valN bs)))] := by
  obtain ⟨a1, a2⟩ := dgOK_at ha
  obtain ⟨b1, b2⟩ := dgOK_at hb
  have hM : ∃ M : Nat, cpI (.l (as.map nv)) (.l (bs.map nv)) = (M : Nat) - 1 ∧ as.length ≤ M ∧ bs.length ≤ M ∧ M ≤ 1000000 := by
    unfold cpI
    show ∃ M : Nat, W64 ((bif ilt ((as.map nv).length : Nat) ((bs.map nv).length : Nat) then (((bs.map nv).length : Nat) : Int) else (((as.map nv).length : Nat) : Int)) - 1) = _ ∧ _
    rw [List.length_map, List.length_map, ilt_nat]
    by_cases h : as.length < bs.length
    · refine ⟨bs.length, ?_, by omega, by omega, b1⟩
      rw [decide_eq_true h, cond_true]; exact w64_in (by omega) (by omega)
    · refine ⟨as.length, ?_, by omega, by omega, a1⟩
      rw [decide_eq_false h, cond_false]; exact w64_in (by omega) (by omega)
  obtain ⟨M, e, m1, m2, m3⟩ := hM
  show ln (as.map nv).length (ln (bs.map nv).length (lpC (BCp R) (hid FU) (.m _ _ 0 (cpI _ _)) (cpK t k))) = _
  rw [List.length_map, List.length_map, ln_in (by omega), ln_in (by omega), e, cp_loop a1 b1 t k M (hid FU) m3 (by rw [hid_eq]; show M < 4611686018427387904; omega),
    cmpL_val (getD_dg a2) (getD_dg b2), valTo_list as M m1, valTo_list bs M m2]
end Wd
end Go.Vm

namespace Go.Vm
open Go.RowKit
variable {R : Type}
set_option linter.unusedVariables false
set_option linter.constructorNameAsVariable false
namespace Wd
/-! ### The document's Expand -/
inductive PXm where
  | m (b m e q : Int)
inductive QXm where
  | o (b m e q : Int)
def BXm (R : Type) (p : PXm) (K : PXm → Option R) (kx : QXm → Option R) : Option R :=
  match p with
  | .m b m e q => bif ilt q 3 then K (.m b (WU (m.tdiv 256)) e (W64 (q + 1))) else kx (.o b m e q)
def xm0 (m : Int) : V := .l [.i (m.tmod 65536), .i (WU (m.tdiv 65536))]
def xmD (m e : Int) : V := .l ((timesN (W64 (e - 3)).toNat (bytesN (xm0 m))).map nv)
def EZ : V := .l ((timesN 29 [65535, 127]).map nv)
def WU32 (n : Int) : Int := IntKind.wrap .u32 n
noncomputable def exD (b : Int) (k : V → Int → Option R) : Option R :=
  lpC (BXm R) (hid FU) (.m b (WU (b.tmod 8388608)) (W64 (WU32 (b.tdiv 16777216))) (W64 (WU32 (b.tdiv 16777216)))) (fun
    | .o b m e q => bif tig [xm0 m, .i (W64 (e - 3))] then
        bif ieq ((WU32 (b.tdiv 8388608)).tmod 2) 1 then k (.l []) 121 else
          bif dbg_ [xmD m e] then bif ieq (bitsN 0 0 (bytesN (xmD m e)) : Nat) 0 then k (.l []) 121 else
            bif cpg [xmD m e, EZ] then bif ilt 0 (cmpI (valN (bytesN (xmD m e))) (valN (bytesN EZ))) then k (.l []) 121 else k (xmD m e) 0 else none else none else none)
theorem valN_mul (y : Nat) : ∀ (l : List Nat) (c : Nat), valN (mulN y c l) = c + y * valN l
  | [], c => by simp [mulN, valN]
  | x :: l, c => by
    have e1 : y * (x + 65536 * valN l) = x * y + 65536 * (y * valN l) := by
      rw [Nat.mul_add, Nat.mul_comm y x, Nat.mul_left_comm]
    rw [mulN, valN, valN_mul y l, valN, e1, Nat.mul_add]
    omega
theorem valN_times : ∀ (k : Nat) (l : List Nat), valN (timesN k l) = valN l * 256 ^ k
  | 0, l => by simp [timesN]
  | k + 1, l => by
    rw [timesN, valN_times k, valN_mul, Nat.pow_succ, Nat.zero_add, Nat.mul_comm 256, Nat.mul_assoc, Nat.mul_comm 256]
theorem times_len : ∀ (k : Nat) (l : List Nat), (timesN k l).length = l.length + k
  | 0, l => rfl
  | k + 1, l => by rw [timesN, times_len k, mulN_len]; omega
theorem timesN_lt : ∀ (k : Nat) (l : List Nat), (∀ a ∈ l, a < 65536) → ∀ a ∈ timesN k l, a < 65536
  | 0, l, h => h
  | k + 1, l, h => timesN_lt k _ (mulN_lt (by omega) l 0 (by omega) h)
theorem valN_zero : ∀ l : List Nat, valN l = 0 ↔ ∀ x ∈ l, x = 0
  | [] => by simp [valN]
  | x :: l => by
    have := valN_zero l
    simp only [valN, List.mem_cons, forall_eq_or_imp]
    rw [← this]; omega
theorem bits_val (l : List Nat) : bitsN 0 0 l = 0 ↔ valN l = 0 := by
  rw [bitsN_zero, valN_zero]; simp
theorem EZ_val : valN (bytesN EZ) = easiestN := by
  unfold EZ
  rw [bytesN_eq (x := .l ((timesN 29 [65535, 127]).map nv)) rfl, valN_times]; rfl
theorem xm_loop (b e : Int) (k : QXm → Option R) : ∀ (r q m fuel : Nat), (q + r = 3 ∨ (r = 0 ∧ 3 ≤ q)) → m < 18446744073709551616 → r < fuel → ∃ j, lpC (BXm R) fuel (.m b (m : Nat) e (q : Nat)) k = k (.o b ((m / 256 ^ r : Nat) : Int) e j) := by
  intro r
  induction r with
  | zero =>
    intro q m fuel hq hm hf
    obtain ⟨f, rfl⟩ : ∃ f, fuel = f + 1 := ⟨fuel - 1, by omega⟩
    refine ⟨(q : Nat), ?_⟩
    have no : ilt (q : Nat) 3 = false := by
      cases h : ilt (q : Nat) 3 with
      | false => rfl
      | true => rw [ilt_iff] at h; omega
    rw [lpC, BXm, no]; simp
  | succ r ih =>
    intro q m fuel hq hm hf
    obtain ⟨f, rfl⟩ : ∃ f, fuel = f + 1 := ⟨fuel - 1, by omega⟩
    obtain ⟨j, hj⟩ := ih (q + 1) (m / 256) f (by omega) (by omega) (by omega)
    refine ⟨j, ?_⟩
    have yes : ilt (q : Nat) 3 = true := ilt_iff.2 (by omega)
    rw [lpC, BXm, yes, cond_true, show ((m : Nat) : Int).tdiv 256 = ((m / 256 : Nat) : Int) from rfl, wu64_lt (by omega), show W64 ((q : Nat) + 1) = ((q + 1 : Nat) : Int) from w64_in (by omega) (by omega), hj, Nat.div_div_eq_div_mul, Nat.pow_succ, Nat.mul_comm 256]
def manN (b : Nat) : Nat := b % 8388608 / 256 ^ (3 - b / 16777216)
def edN (b : Nat) : List Nat := if expOK b then timesN (b / 16777216 - 3) [manN b % 65536, manN b / 65536] else []
theorem expT_man (b : Nat) : expT b = manN b * 256 ^ (b / 16777216 - 3) := by
  unfold expT manN
  by_cases h : b / 16777216 ≤ 3
  · rw [if_pos h, show b / 16777216 - 3 = 0 by omega]; simp
  · rw [if_neg h, show 3 - b / 16777216 = 0 by omega]; simp
theorem edN_val (b : Nat) : valN (edN b) = tgt b := by
  unfold edN tgt
  split
  · rw [valN_times, expT_man]
    congr 1
    simp only [valN]
    omega
  · rfl
theorem man_lt (b : Nat) : manN b < 8388608 := Nat.lt_of_le_of_lt (Nat.div_le_self _ _) (Nat.mod_lt _ (by omega))
theorem man_dg (b : Nat) : ∀ a ∈ [manN b % 65536, manN b / 65536], a < 65536 := by
  have := man_lt b
  intro a ha
  simp only [List.mem_cons, List.not_mem_nil, or_false] at ha
  omega
theorem edN_dg {b : Nat} (hb : b < 4294967296) : (edN b).length ≤ 1000 ∧ ∀ a ∈ edN b, a < 65536 := by
  unfold edN
  split
  · refine ⟨by rw [times_len]; simp; omega, timesN_lt _ _ (man_dg b)⟩
  · exact ⟨by simp, fun a ha => by cases ha⟩
theorem ex_law {b : Nat} (hb : b < 4294967296) (k : V → Int → Option R) : exD (b : Nat) k = k (.l ((edN b).map nv)) (eerr b) := by
  have hm := man_lt b
  have w1 : WU (((b : Nat) : Int).tmod 8388608) = ((b % 8388608 : Nat) : Int) := by
    rw [show ((b : Nat) : Int).tmod 8388608 = ((b % 8388608 : Nat) : Int) from rfl, wu64_lt (by omega)]
  have w32 : ∀ n : Nat, n < 4294967296 → WU32 (n : Int) = (n : Int) := fun n hn => by
    unfold WU32 IntKind.wrap
    simp [IntKind.bits, IntKind.signed]; omega
  have w2 : W64 (WU32 (((b : Nat) : Int).tdiv 16777216)) = ((b / 16777216 : Nat) : Int) := by
    rw [show ((b : Nat) : Int).tdiv 16777216 = ((b / 16777216 : Nat) : Int) from rfl, w32 _ (by omega)]; exact w64_in (by omega) (by omega)
  have w3 : (WU32 (((b : Nat) : Int).tdiv 8388608)).tmod 2 = ((b / 8388608 % 2 : Nat) : Int) := by
    rw [show ((b : Nat) : Int).tdiv 8388608 = ((b / 8388608 : Nat) : Int) from rfl, w32 _ (by omega)]; rfl
  unfold exD
  rw [w1, w2]
  obtain ⟨j, hj⟩ := xm_loop (R := R) ((b : Nat) : Int) ((b / 16777216 : Nat) : Int) (fun
    | .o b m e q => bif tig [xm0 m, .i (W64 (e - 3))] then
        bif ieq ((WU32 (b.tdiv 8388608)).tmod 2) 1 then k (.l []) 121 else
          bif dbg_ [xmD m e] then bif ieq (bitsN 0 0 (bytesN (xmD m e)) : Nat) 0 then k (.l []) 121 else
            bif cpg [xmD m e, EZ] then bif ilt 0 (cmpI (valN (bytesN (xmD m e))) (valN (bytesN EZ))) then k (.l []) 121 else k (xmD m e) 0 else none else none else none) (3 - b / 16777216) (b / 16777216) (b % 8388608) (hid FU) (by omega) (by omega) (by rw [hid_eq]; show _ < 4611686018427387904; omega)
  refine hj.trans ?_
  have hx0 : xm0 ((manN b : Nat) : Int) = .l ([manN b % 65536, manN b / 65536].map nv) := by
    unfold xm0
    rw [show ((manN b : Nat) : Int).tdiv 65536 = ((manN b / 65536 : Nat) : Int) from rfl, wu64_lt (by omega)]; rfl
  have he : (W64 (((b / 16777216 : Nat) : Int) - 3)) = ((b / 16777216 : Nat) : Int) - 3 := w64_in (by omega) (by omega)
  have hL : ∃ L : List Nat, xmD ((manN b : Nat) : Int) ((b / 16777216 : Nat) : Int) = .l (L.map nv) ∧ L = timesN (b / 16777216 - 3) [manN b % 65536, manN b / 65536] := by
    refine ⟨_, ?_, rfl⟩
    unfold xmD
    rw [hx0, bytesN_eq (x := .l ([manN b % 65536, manN b / 65536].map nv)) rfl, he, show (((b / 16777216 : Nat) : Int) - 3).toNat = b / 16777216 - 3 by omega]
  obtain ⟨L, hD, hLe⟩ := hL
  have hLl : L.length ≤ 1000 := by rw [hLe, times_len]; simp; omega
  have hLt : ∀ a ∈ L, a < 65536 := by rw [hLe]; exact timesN_lt _ _ (man_dg b)
  have hLv : valN L = expT b := by
    rw [hLe, valN_times, expT_man]; congr 1; simp only [valN]; omega
  have g1 : tig [xm0 ((manN b : Nat) : Int), .i (W64 (((b / 16777216 : Nat) : Int) - 3))] = true := by
    rw [hx0, he]
    show (ile (((b / 16777216 : Nat) : Int) - 3) 1000 && Nat.ble ([manN b % 65536, manN b / 65536].map nv).length 1000 && dgOK ([manN b % 65536, manN b / 65536].map nv)) = true
    rw [ile_iff.2 (by omega), dgOK_of (by simp) (man_dg b)]; rfl
  have g2 : dbg_ [xmD ((manN b : Nat) : Int) ((b / 16777216 : Nat) : Int)] = true := by
    rw [hD]; exact Nat.ble_eq_true_of_le (by rw [List.length_map]; omega)
  have g3 : cpg [xmD ((manN b : Nat) : Int) ((b / 16777216 : Nat) : Int), EZ] = true := by
    rw [hD]
    show (dgOK (L.map nv) && dgOK ((timesN 29 [65535, 127]).map nv)) = true
    rw [dgOK_of (by omega) hLt, dgOK_of (by rw [times_len]; simp) (timesN_lt _ _ (by simp))]; rfl
  have hbN : bytesN (xmD ((manN b : Nat) : Int) ((b / 16777216 : Nat) : Int)) = L := by rw [hD]; exact bytesN_eq rfl
  show (bif tig [xm0 ((manN b : Nat) : Int), .i (W64 (((b / 16777216 : Nat) : Int) - 3))] then
        bif ieq ((WU32 (((b : Nat) : Int).tdiv 8388608)).tmod 2) 1 then k (.l []) 121 else
          bif dbg_ [xmD ((manN b : Nat) : Int) ((b / 16777216 : Nat) : Int)] then bif ieq (bitsN 0 0 (bytesN (xmD ((manN b : Nat) : Int) ((b / 16777216 : Nat) : Int))) : Nat) 0 then k (.l []) 121 else
            bif cpg [xmD ((manN b : Nat) : Int) ((b / 16777216 : Nat) : Int), EZ] then bif ilt 0 (cmpI (valN (bytesN (xmD ((manN b : Nat) : Int) ((b / 16777216 : Nat) : Int)))) (valN (bytesN EZ))) then k (.l []) 121 else k (xmD ((manN b : Nat) : Int) ((b / 16777216 : Nat) : Int)) 0 else none else none else none) = _
  rw [g1, g2, g3, w3, hbN, EZ_val, hLv, hD]
  simp only [cond_true]
  have no : ¬ (b / 8388608 % 2 = 0 ∧ expT b ≠ 0 ∧ expT b ≤ easiestN) → k (.l []) 121 = k (.l ((edN b).map nv)) (eerr b) := fun h => by
    unfold edN eerr
    rw [expOK_no h]; rfl
  by_cases c1 : b / 8388608 % 2 = 1
  · rw [ieq_yes (by omega), cond_true]; exact no (by omega)
  · rw [ieq_no (by omega), cond_false]
    by_cases c2 : expT b = 0
    · rw [ieq_yes (by rw [(bits_val L).2 (by rw [hLv]; exact c2)]; rfl), cond_true]; exact no (by omega)
    · rw [ieq_no (by have := mt (bits_val L).1 (by rw [hLv]; exact c2); omega), cond_false]
      by_cases c3 : easiestN < expT b
      · rw [ilt_iff.2 ((cmpI_ge _ _).2.2.2 c3), cond_true]; exact no (by omega)
      · have h0 : ilt 0 (cmpI (expT b) easiestN) = false := by
          cases h : ilt 0 (cmpI (expT b) easiestN) with
          | false => rfl
          | true => exact absurd ((cmpI_ge _ _).2.2.1 (ilt_iff.1 h)) c3
        have ok := expOK_yes (b := b) ⟨by omega, c2, by omega⟩
        rw [h0, cond_false, hLe]
        unfold edN eerr
        rw [ok]; rfl
end Wd
end Go.Vm

namespace Go.Vm
open Go.RowKit
variable {R : Type}
set_option linter.unusedVariables false
set_option linter.constructorNameAsVariable false
namespace Wd
/-! ### The document's Meets -/
def dgP : List V → List V
  | [] => []
  | a :: l => match l with
    | [] => []
    | b :: r => .i (WU (WU a.int + WU (256 * WU b.int))) :: dgP r
def mdI (x : V) (H : List V) (k : Bool → Option R) : Option R :=
  bif ieq (eerr (x.nth 4).int.toNat) 0 then bif cpg [.l (dgP H), .l ((edN (x.nth 4).int.toNat).map nv)] then
    bif ile (cmpI (valN (bytesN (.l (dgP H)))) (valN (bytesN (.l ((edN (x.nth 4).int.toNat).map nv))))) 0 then k true else k false else none else k false
def dgQ : List Nat → List Nat
  | [] => []
  | a :: l => match l with
    | [] => []
    | b :: r => (a + 256 * b) :: dgQ r
theorem dgP_nat : ∀ (m : Nat) (l : List Nat), l.length = 2 * m → (∀ a ∈ l, a < 256) → dgP (l.map nv) = (dgQ l).map nv ∧ valN (dgQ l) = leN l ∧ (dgQ l).length = m ∧ ∀ a ∈ dgQ l, a < 65536
  | 0, l, h, _ => by
    obtain rfl : l = [] := List.length_eq_zero_iff.1 (by omega)
    exact ⟨rfl, rfl, rfl, fun a ha => by cases ha⟩
  | m + 1, [], h, _ => by simp at h
  | m + 1, [a], h, _ => by simp at h; omega
  | m + 1, a :: b :: r, h, hl => by
    have ha := hl a (by simp)
    have hb := hl b (by simp)
    obtain ⟨h1, h2, h3, h4⟩ := dgP_nat m r (by simp at h; omega) (fun z hz => hl z (by simp [hz]))
    refine ⟨?_, ?_, ?_, ?_⟩
    · show V.i (WU (WU (a : Int) + WU (256 * WU (b : Int)))) :: dgP (r.map nv) = nv (a + 256 * b) :: (dgQ r).map nv
      rw [h1, wu64_lt (by omega), wu64_lt (n := b) (by omega), show (256 : Int) * ((b : Nat) : Int) = ((256 * b : Nat) : Int) by omega, wu64_lt (n := 256 * b) (by omega), ← Int.natCast_add, wu64_lt (by omega)]
      rfl
    · show (a + 256 * b) + 65536 * valN (dgQ r) = a + 256 * (b + 256 * leN r)
      rw [h2]; omega
    · show (dgQ r).length + 1 = m + 1
      rw [h3]
    · intro z hz
      rcases List.mem_cons.1 (show z ∈ (a + 256 * b) :: dgQ r from hz) with rfl | hz
      · omega
      · exact h4 z hz
theorem md_law (x : V) (hb : (x.nth 4).int.toNat < 4294967296) (k : Bool → Option R) : mdI x ((hdN x).map nv) k = k (ieq (eerr (x.nth 4).int.toNat) 0 && !decide (tgt (x.nth 4).int.toNat < leN (hdN x))) := by
  obtain ⟨h1, h2, h3, h4⟩ := dgP_nat 16 (hdN x) (shaN_len _) (shaN_lt _)
  obtain ⟨e1, e2⟩ := edN_dg hb
  unfold mdI
  have g : cpg [.l (dgP ((hdN x).map nv)), .l ((edN (x.nth 4).int.toNat).map nv)] = true := by
    rw [h1]
    show (dgOK ((dgQ (hdN x)).map nv) && dgOK ((edN (x.nth 4).int.toNat).map nv)) = true
    rw [dgOK_of (by omega) h4, dgOK_of (by omega) e2]; rfl
  rw [g, h1, bytesN_eq (x := .l ((dgQ (hdN x)).map nv)) rfl, bytesN_eq (x := .l ((edN (x.nth 4).int.toNat).map nv)) rfl, h2, edN_val, cond_true]
  cases ieq (eerr (x.nth 4).int.toNat) 0 with
  | false => rfl
  | true =>
    rw [cond_true, Bool.true_and]
    by_cases c : tgt (x.nth 4).int.toNat < leN (hdN x)
    · have h0 : ile (cmpI (leN (hdN x)) (tgt (x.nth 4).int.toNat)) 0 = false := by
        cases h : ile (cmpI (leN (hdN x)) (tgt (x.nth 4).int.toNat)) 0 with
        | false => rfl
        | true => have := ile_iff.1 h; have := (cmpI_ge _ _).2.2.2 c; omega
      rw [h0, decide_eq_true c]; rfl
    · have h0 : ile (cmpI (leN (hdN x)) (tgt (x.nth 4).int.toNat)) 0 = true := by
        refine ile_iff.2 ?_
        have := mt (cmpI_ge (leN (hdN x)) (tgt (x.nth 4).int.toNat)).2.2.1 c
        omega
      rw [h0, decide_eq_false c]; rfl
def mtb (x : V) : Bool := ieq (eerr (x.nth 4).int.toNat) 0 && !decide (tgt (x.nth 4).int.toNat < leN (hdN x))
def wmG (p : Bool) : Option Unit := bif p then bif p then some () else none else bif p then none else some ()
theorem wmG_law (p : Bool) : wmG p = some () := by cases p <;> rfl
end Wd
end Go.Vm
end
