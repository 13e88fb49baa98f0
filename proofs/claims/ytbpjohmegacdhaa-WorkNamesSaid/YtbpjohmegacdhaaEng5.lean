/- What the steps of a program do, shown once for all programs; and numbers. -/
import Derived.Test.YtbpjohmegacdhaaEng4
import Derived.OpenShut
import Derived.WalkKit
import Derived.ProofKit
import Derived.JoinedOf
namespace Go.Eng
/-! ### How many bits a number has -/
def blen (n : Nat) : Nat := if n = 0 then 0 else n.log2 + 1
theorem blen_zero : blen 0 = 0 := rfl
theorem blen_eq {n k : Nat} (h1 : 2 ^ k ≤ n) (h2 : n < 2 ^ (k + 1)) : blen n = k + 1 := by
  have hn : n ≠ 0 := by have := Nat.two_pow_pos k; omega
  rw [blen, if_neg hn, (Nat.log2_eq_iff hn).2 ⟨h1, h2⟩]
theorem blen_le {n : Nat} (h : n ≠ 0) : 2 ^ (blen n - 1) ≤ n := by
  rw [blen, if_neg h]; exact Nat.log2_self_le h
theorem blen_lt (n : Nat) : n < 2 ^ blen n := by
  rw [blen]; split
  · omega
  · exact Nat.lt_log2_self
theorem blen_pos {n : Nat} (h : n ≠ 0) : 0 < blen n := by rw [blen, if_neg h]; omega
theorem blen_shift {d r k : Nat} (hd : d ≠ 0) (hr : r < 2 ^ k) : blen (r + 2 ^ k * d) = k + blen d := by
  have h1 := blen_le hd
  have h2 := blen_lt d
  have h3 := blen_pos hd
  obtain ⟨b, hb⟩ : ∃ b, blen d = b + 1 := ⟨blen d - 1, by omega⟩
  rw [hb] at h1 h2 ⊢
  have h1 : 2 ^ b ≤ d := by simpa using h1
  rw [← Nat.add_assoc]
  refine blen_eq ?_ ?_
  · rw [Nat.pow_add]
    have : 2 ^ k * 2 ^ b ≤ 2 ^ k * d := Nat.mul_le_mul_left _ h1
    omega
  · have : 2 ^ k * (d + 1) ≤ 2 ^ k * 2 ^ (b + 1) := Nat.mul_le_mul_left _ h2
    rw [Nat.add_assoc, Nat.pow_add]
    rw [Nat.mul_add] at this
    omega
theorem blen_half {n : Nat} (h : n ≠ 0) : blen n = blen (n / 2) + 1 := by
  by_cases h1 : n = 1
  · subst h1; rfl
  · have := blen_shift (d := n / 2) (r := n % 2) (k := 1) (by omega) (by omega)
    rw [show n % 2 + 2 ^ 1 * (n / 2) = n by omega] at this
    omega
theorem blen_div {n k : Nat} (h : n / 2 ^ k ≠ 0) : blen n = k + blen (n / 2 ^ k) := by
  have := blen_shift (d := n / 2 ^ k) (r := n % 2 ^ k) (k := k) h (Nat.mod_lt _ (Nat.two_pow_pos k))
  rwa [Nat.mod_add_div] at this
theorem pow16 (k : Nat) : 65536 ^ k = 2 ^ (16 * k) := by rw [Nat.pow_mul]
theorem blen_digit (x k : Nat) : blen (x % 65536 ^ (k + 1)) = if dig x k = 0 then blen (x % 65536 ^ k) else 16 * k + blen (dig x k).toNat := by
  rw [Nat.pow_succ, Nat.mod_mul]
  unfold dig
  by_cases h : x / 65536 ^ k % 65536 = 0
  · rw [h]; simp
  · rw [if_neg (by omega), Int.toNat_natCast, pow16]
    rw [pow16] at h
    exact blen_shift h (Nat.mod_lt _ (Nat.two_pow_pos _))
def len8tab : ByteArray := ⟨#[0, 1, 2, 2, 3, 3, 3, 3, 4, 4, 4, 4, 4, 4, 4, 4, 5, 5, 5, 5, 5, 5, 5, 5, 5, 5, 5, 5, 5, 5, 5, 5, 6, 6, 6, 6, 6, 6, 6, 6, 6, 6, 6, 6, 6, 6, 6, 6, 6, 6, 6, 6, 6, 6, 6, 6, 6, 6, 6, 6, 6, 6, 6, 6, 7, 7, 7, 7, 7, 7, 7, 7, 7, 7, 7, 7, 7, 7, 7, 7, 7, 7, 7, 7, 7, 7, 7, 7, 7, 7, 7, 7, 7, 7, 7, 7, 7, 7, 7, 7, 7, 7, 7, 7, 7, 7, 7, 7, 7, 7, 7, 7, 7, 7, 7, 7, 7, 7, 7, 7, 7, 7, 7, 7, 7, 7, 7, 7, 8, 8, 8, 8, 8, 8, 8, 8, 8, 8, 8, 8, 8, 8, 8, 8, 8, 8, 8, 8, 8, 8, 8, 8, 8, 8, 8, 8, 8, 8, 8, 8, 8, 8, 8, 8, 8, 8, 8, 8, 8, 8, 8, 8, 8, 8, 8, 8, 8, 8, 8, 8, 8, 8, 8, 8, 8, 8, 8, 8, 8, 8, 8, 8, 8, 8, 8, 8, 8, 8, 8, 8, 8, 8, 8, 8, 8, 8, 8, 8, 8, 8, 8, 8, 8, 8, 8, 8, 8, 8, 8, 8, 8, 8, 8, 8, 8, 8, 8, 8, 8, 8, 8, 8, 8, 8, 8, 8, 8, 8, 8, 8, 8, 8, 8, 8, 8, 8, 8, 8, 8, 8, 8, 8, 8, 8, 8, 8]⟩
theorem len8_all : ∀ k : Fin 256, (len8tab.data.getD k.val 0).toNat = blen k.val := by decide +kernel
theorem len8_size : len8tab.size = 256 := by decide +kernel
theorem len8_at {k : Int} (h : 0 ≤ k ∧ k ≤ 255) : (((len8tab.data.getD k.toNat 0).toNat : Nat) : Int) = blen k.toNat := by
  exact congrArg (fun n : Nat => (n : Int)) (len8_all ⟨k.toNat, by omega⟩)
/-- Divided by a power of 2 that it has. -/
theorem blen_cut {x : Int} (k : Nat) (h : ((2 ^ k : Nat) : Int) ≤ x) : (blen x.toNat : Int) = k + blen (x / ((2 ^ k : Nat) : Int)).toNat := by
  obtain ⟨X, rfl⟩ := Int.eq_ofNat_of_zero_le (a := x) (by have := Int.natCast_nonneg (2 ^ k); omega)
  have hX : 2 ^ k ≤ X := by omega
  have e : ((X : Int) / ((2 ^ k : Nat) : Int)).toNat = X / 2 ^ k := by rw [← Int.natCast_ediv]; exact Int.toNat_natCast _
  rw [e, Int.toNat_natCast, blen_div (k := k) (by have := Nat.div_pos hX (Nat.two_pow_pos k); omega)]
  omega
theorem blen_limb {a : Nat} (ha : a < 2 ^ 256) : (lm a 3 ≠ 0 → (192 : Int) + blen (lm a 3).toNat = blen a) ∧ (lm a 3 = 0 → lm a 2 ≠ 0 → (128 : Int) + blen (lm a 2).toNat = blen a) ∧
    (lm a 3 = 0 → lm a 2 = 0 → lm a 1 ≠ 0 → (64 : Int) + blen (lm a 1).toNat = blen a) ∧ (lm a 3 = 0 → lm a 2 = 0 → lm a 1 = 0 → (blen (lm a 0).toNat : Int) = blen a) := by
  have e : ∀ k, (lm a k).toNat = a / 2 ^ (64 * k) % 2 ^ 64 := fun k => by unfold lm; exact Int.toNat_natCast _
  have z : ∀ k, lm a k = 0 ↔ a / 2 ^ (64 * k) % 2 ^ 64 = 0 := fun k => by unfold lm; omega
  simp only [e, ne_eq, z]
  have q3 : a / 2 ^ (64 * 3) % 2 ^ 64 = a / 2 ^ (64 * 3) := Nat.mod_eq_of_lt (by rw [Nat.div_lt_iff_lt_mul (Nat.two_pow_pos _)]; omega)
  have s2 : a / 2 ^ (64 * 2) = a / 2 ^ (64 * 3) * 2 ^ 64 + a / 2 ^ (64 * 2) % 2 ^ 64 := by omega
  have s1 : a / 2 ^ (64 * 1) = a / 2 ^ (64 * 2) * 2 ^ 64 + a / 2 ^ (64 * 1) % 2 ^ 64 := by omega
  have s0 : a = a / 2 ^ (64 * 1) * 2 ^ 64 + a / 2 ^ (64 * 0) % 2 ^ 64 := by omega
  rw [q3]
  refine ⟨fun h => ?_, fun h3 h => ?_, fun h3 h2 h => ?_, fun h3 h2 h1 => ?_⟩
  · rw [blen_div (n := a) (k := 64 * 3) h]; omega
  · rw [h3] at s2
    rw [show a / 2 ^ (64 * 2) % 2 ^ 64 = a / 2 ^ (64 * 2) by omega] at h ⊢
    rw [blen_div (n := a) (k := 64 * 2) h]; omega
  · rw [h3] at s2
    rw [h2] at s2
    rw [s2] at s1
    rw [show a / 2 ^ (64 * 1) % 2 ^ 64 = a / 2 ^ (64 * 1) by omega] at h ⊢
    rw [blen_div (n := a) (k := 64 * 1) h]; omega
  · rw [h3, h2] at s2
    rw [s2, h1] at s1
    rw [s1] at s0
    rw [show a / 2 ^ (64 * 0) % 2 ^ 64 = a by omega]
theorem blen_le_of {n k : Nat} (h : n < 2 ^ k) : blen n ≤ k := by
  by_cases hn : n = 0
  · subst hn; simp [blen]
  · have h1 := blen_le hn
    rcases Nat.lt_or_ge k (blen n) with h2 | h2
    · exfalso
      have : 2 ^ k ≤ 2 ^ (blen n - 1) := Nat.pow_le_pow_right (by decide) (by omega)
      omega
    · exact h2
theorem blen_small {n : Nat} (h : n < 256) : blen n ≤ 8 := blen_le_of h
theorem blen_u64 {x : Int} (h : 0 ≤ x ∧ x ≤ 18446744073709551615) : blen x.toNat ≤ 64 := blen_le_of (by omega)
end Go.Eng

namespace Go.Eng
/-! ### Moved by bits -/
def shlI (k : IntKind) (a b : Int) : Int := k.wrap (a * 2 ^ min b.toNat k.bits)
def shrI (n : Nat) (a b : Int) : Int := a.fdiv (2 ^ min b.toNat n)
theorem wrap_u64_nat (x : Nat) : IntKind.u64.wrap (x : Int) = ((x % 2 ^ 64 : Nat) : Int) := by
  simp [IntKind.wrap, IntKind.bits, IntKind.signed]
theorem shlI_nat (x s : Nat) (hs : s ≤ 64) : shlI .u64 x s = ((x * 2 ^ s % 2 ^ 64 : Nat) : Int) := by
  unfold shlI
  have : min (s : Int).toNat (IntKind.bits .u64) = s := by simp [IntKind.bits]; omega
  rw [this, ← wrap_u64_nat]; simp
theorem shrI_nat (x s : Nat) (hs : s ≤ 64) : shrI 64 x s = ((x / 2 ^ s : Nat) : Int) := by
  unfold shrI
  have : min (s : Int).toNat 64 = s := by simp; omega
  rw [this, Int.fdiv_eq_ediv_of_nonneg _ (Int.pow_nonneg (by omega))]; simp
theorem bits_or_nat {x y : Nat} (hx : x < 2 ^ 64) (hy : y < 2 ^ 64) : bitsOf .or .u64 x y = ((x ||| y : Nat) : Int) := by
  have e : ∀ z : Nat, z < 2 ^ 64 → (BitVec.ofInt (IntKind.bits .u64) (z : Int)).toNat = z := fun z hz => by
    rw [BitVec.toNat_ofInt]
    have : (z : Int) % ((2 ^ IntKind.bits .u64 : Nat) : Int) = z := Int.emod_eq_of_lt (by omega) (by simp [IntKind.bits]; omega)
    rw [this]; simp
  simp only [bitsOf]
  rw [BitVec.toNat_or, e x hx, e y hy, wrap_u64_nat, Nat.mod_eq_of_lt (Nat.or_lt_two_pow hx hy)]
theorem lm_nat (a k : Nat) : lm a k = ((a / 2 ^ (64 * k) % 2 ^ 64 : Nat) : Int) := rfl
theorem mod64_lt (x : Nat) : x % 2 ^ 64 < 2 ^ 64 := Nat.mod_lt _ (by decide)
theorem left_0 {a : Nat} {r : Int} (h : 0 ≤ r ∧ r < 64) : shlI .u64 (lm a 0) r = lm (a * 2 ^ r.toNat) 0 := by
  obtain ⟨R, rfl⟩ := Int.eq_ofNat_of_zero_le h.1
  rw [lm_nat, shlI_nat _ _ (by omega), lm_nat, Int.toNat_natCast]
  congr 1
  simp
theorem left_s {a k : Nat} {r : Int} (h : 0 ≤ r ∧ r < 64) : bitsOf .or .u64 (shlI .u64 (lm a (k + 1)) r) (shrI 64 (lm a k) (64 - r)) = lm (a * 2 ^ r.toNat) (k + 1) := by
  obtain ⟨R, rfl⟩ := Int.eq_ofNat_of_zero_le h.1
  have e : (64 : Int) - (R : Int) = ((64 - R : Nat) : Int) := by omega
  rw [lm_nat, lm_nat, shlI_nat _ _ (by omega), e, shrI_nat _ _ (by omega), bits_or_nat (mod64_lt _) (Nat.lt_of_le_of_lt (Nat.div_le_self _ _) (mod64_lt _)), lm_nat, Int.toNat_natCast]
  congr 1
  refine Nat.eq_of_testBit_eq fun i => ?_
  simp only [Nat.testBit_or, Nat.testBit_mod_two_pow, Nat.testBit_div_two_pow, Nat.testBit_mul_two_pow]
  by_cases hi : i < 64
  · by_cases hr : R ≤ i
    · have h1 : ¬ (i + (64 - R) < 64) := by omega
      have e1 : i + 64 * (k + 1) - R = i - R + 64 * (k + 1) := by omega
      have h3 : R ≤ i + 64 * (k + 1) := by omega
      have h4 : i - R < 64 := by omega
      simp only [hi, hr, h1, h3, h4, e1, decide_true, decide_false, Bool.true_and, Bool.false_and, Bool.or_false]
    · have h1 : i + (64 - R) < 64 := by omega
      have e1 : i + 64 * (k + 1) - R = i + (64 - R) + 64 * k := by omega
      have h3 : R ≤ i + 64 * (k + 1) := by omega
      simp only [hi, hr, h1, h3, e1, decide_true, decide_false, Bool.true_and, Bool.false_and, Bool.false_or]
  · have h1 : ¬ (i + (64 - R) < 64) := by omega
    simp only [hi, h1, decide_false, Bool.false_and, Bool.or_false]
theorem right_3 {a : Nat} (ha : a < 2 ^ 256) {r : Int} (h : 0 ≤ r ∧ r < 64) : shrI 64 (lm a 3) r = lm (a / 2 ^ r.toNat) 3 := by
  obtain ⟨R, rfl⟩ := Int.eq_ofNat_of_zero_le h.1
  rw [lm_nat, shrI_nat _ _ (by omega), lm_nat, Int.toNat_natCast]
  congr 1
  have q : a / 2 ^ (64 * 3) < 2 ^ 64 := by rw [Nat.div_lt_iff_lt_mul (Nat.two_pow_pos _)]; omega
  rw [Nat.mod_eq_of_lt q, Nat.div_div_eq_div_mul, Nat.div_div_eq_div_mul, Nat.mul_comm (2 ^ R)]
  symm
  refine Nat.mod_eq_of_lt ?_
  rw [← Nat.div_div_eq_div_mul]
  exact Nat.lt_of_le_of_lt (Nat.div_le_self _ _) q
theorem right_s {a k : Nat} {r : Int} (h : 0 ≤ r ∧ r < 64) : bitsOf .or .u64 (shrI 64 (lm a k) r) (shlI .u64 (lm a (k + 1)) (64 - r)) = lm (a / 2 ^ r.toNat) k := by
  obtain ⟨R, rfl⟩ := Int.eq_ofNat_of_zero_le h.1
  have e : (64 : Int) - (R : Int) = ((64 - R : Nat) : Int) := by omega
  rw [lm_nat, lm_nat, shrI_nat _ _ (by omega), e, shlI_nat _ _ (by omega), bits_or_nat (Nat.lt_of_le_of_lt (Nat.div_le_self _ _) (mod64_lt _)) (mod64_lt _), lm_nat, Int.toNat_natCast]
  congr 1
  refine Nat.eq_of_testBit_eq fun i => ?_
  simp only [Nat.testBit_or, Nat.testBit_mod_two_pow, Nat.testBit_div_two_pow, Nat.testBit_mul_two_pow]
  by_cases hi : i < 64
  · by_cases hr : i + R < 64
    · have h1 : ¬ (64 - R ≤ i) := by omega
      have e1 : i + 64 * k + R = i + R + 64 * k := by omega
      simp only [hi, hr, h1, e1, decide_true, decide_false, Bool.true_and, Bool.false_and, Bool.or_false]
    · have h1 : 64 - R ≤ i := by omega
      have h2 : i - (64 - R) < 64 := by omega
      have e1 : i - (64 - R) + 64 * (k + 1) = i + 64 * k + R := by omega
      simp only [hi, hr, h1, h2, e1, decide_true, decide_false, Bool.true_and, Bool.false_and, Bool.false_or]
  · have h1 : ¬ (i + R < 64) := by omega
    simp only [hi, h1, decide_false, Bool.false_and, Bool.or_false]
def leftW (a n : Nat) : Nat := a * 2 ^ n % 2 ^ 256
def rightW (a n : Nat) : Nat := a / 2 ^ n
theorem leftW_lt (a n : Nat) : leftW a n < 2 ^ 256 := Nat.mod_lt _ (by decide)
theorem rightW_lt {a : Nat} (n : Nat) (h : a < 2 ^ 256) : rightW a n < 2 ^ 256 := Nat.lt_of_le_of_lt (Nat.div_le_self _ _) h
theorem leftW_lm {a : Nat} {n : Int} {q : Nat} (h : 0 ≤ n) (hq : n / 64 = q) (k : Nat) (hk : k + q < 4) : lm (leftW a n.toNat) (k + q) = lm (a * 2 ^ (n % 64).toNat) k := by
  rw [leftW, lm_mod _ _ hk]
  have e : n.toNat = 64 * q + (n % 64).toNat := by omega
  rw [e]
  generalize (n % 64).toNat = r
  simp only [lm]
  congr 2
  rw [Nat.pow_add, Nat.mul_add 64 k q, Nat.pow_add, Nat.mul_comm (2 ^ (64 * q)), ← Nat.mul_assoc]
  exact Nat.mul_div_mul_right _ _ (Nat.two_pow_pos _)
theorem leftW_lo {a : Nat} {n : Int} {q : Nat} (h : 0 ≤ n) (hq : n / 64 = q) (k : Nat) (hk : k < q) (hk4 : k < 4) : lm (leftW a n.toNat) k = 0 := by
  rw [leftW, lm_mod _ _ hk4]
  have e : n.toNat = 64 * (k + 1) + (64 * (q - k - 1) + (n % 64).toNat) := by omega
  rw [e]
  generalize 64 * (q - k - 1) + (n % 64).toNat = r
  simp only [lm]
  rw [Nat.pow_add, pow_succ64, ← Nat.mul_assoc, Nat.mul_comm a, Nat.mul_assoc, Nat.mul_assoc, Nat.mul_div_cancel_left _ (Nat.two_pow_pos _)]
  simp
theorem rightW_lm {a : Nat} {n : Int} {q : Nat} (h : 0 ≤ n) (hq : n / 64 = q) (k : Nat) : lm (rightW a n.toNat) k = lm (a / 2 ^ (n % 64).toNat) (k + q) := by
  rw [rightW]
  have e : n.toNat = 64 * q + (n % 64).toNat := by omega
  rw [e]
  generalize (n % 64).toNat = r
  simp only [lm]
  congr 2
  rw [Nat.pow_add, Nat.div_div_eq_div_mul, Nat.div_div_eq_div_mul, Nat.mul_add 64 k q, Nat.pow_add]
  congr 1
  rw [Nat.mul_comm (2 ^ (64 * q)), Nat.mul_assoc, Nat.mul_comm (2 ^ (64 * q))]
theorem rightW_hi {a : Nat} (ha : a < 2 ^ 256) (k : Nat) (hk : 4 ≤ k) (r : Nat) : lm (a / 2 ^ r) k = 0 := by
  have : a / 2 ^ r / 2 ^ (64 * k) = 0 := by
    rw [Nat.div_eq_of_lt]
    exact Nat.lt_of_le_of_lt (Nat.div_le_self _ _) (Nat.lt_of_lt_of_le ha (Nat.pow_le_pow_right (by decide) (by omega)))
  simp [lm, this]
theorem leftW_zero {a : Nat} {n : Int} (h : 256 ≤ n) : leftW a n.toNat = 0 := by
  have e : n.toNat = 256 + (n.toNat - 256) := by omega
  rw [leftW, e, Nat.pow_add, ← Nat.mul_assoc, Nat.mul_comm a, Nat.mul_assoc, Nat.mul_mod_right]
theorem leftW_none {a : Nat} (ha : a < 2 ^ 256) {n : Int} (h : n < 1) : leftW a n.toNat = a := by
  have e : n.toNat = 0 := by omega
  rw [leftW, e]; simp; omega
theorem rightW_none {a : Nat} {n : Int} (h : n < 1) : rightW a n.toNat = a := by
  have e : n.toNat = 0 := by omega
  rw [rightW, e]; simp
theorem rightW_zero {a : Nat} (ha : a < 2 ^ 256) {n : Int} (h : 256 ≤ n) : rightW a n.toNat = 0 := by
  rw [rightW, Nat.div_eq_of_lt]
  exact Nat.lt_of_lt_of_le ha (Nat.pow_le_pow_right (by decide) (by omega))
theorem wP_zero : wP 0 = AV.ar 4 [u64 0, u64 0, u64 0, u64 0] := by simp [wP, lm]

/-! ### Alike -/
theorem lm_ext {a b : Nat} (ha : a < 2 ^ 256) (hb : b < 2 ^ 256) (h0 : lm a 0 = lm b 0) (h1 : lm a 1 = lm b 1) (h2 : lm a 2 = lm b 2) (h3 : lm a 3 = lm b 3) : a = b := by
  simp only [lm] at h0 h1 h2 h3
  omega
theorem weq {a b : Nat} (ha : a < 2 ^ 256) (hb : b < 2 ^ 256) : (ints [u64 (lm a 0), u64 (lm a 1), u64 (lm a 2), u64 (lm a 3)] == ints [u64 (lm b 0), u64 (lm b 1), u64 (lm b 2), u64 (lm b 3)]) = decide (a = b) := by
  rw [Bool.eq_iff_iff]
  simp only [ints, intOf, List.map_cons, List.map_nil, beq_iff_eq, decide_eq_true_eq, List.cons.injEq, and_true]
  exact ⟨fun ⟨h0, h1, h2, h3⟩ => lm_ext ha hb h0 h1 h2 h3, fun h => by subst h; exact ⟨rfl, rfl, rfl, rfl⟩⟩
theorem isw (a : Nat) : isInts .u64 [u64 (lm a 0), u64 (lm a 1), u64 (lm a 2), u64 (lm a 3)] := by simp [isInts, intOf]

/-! ### A place -/
theorem wP_at (t : Nat) {q : Int} (h : 0 ≤ q ∧ q < 4) (d : AV) : [u64 (lm t 0), u64 (lm t 1), u64 (lm t 2), u64 (lm t 3)].getD q.toNat d = u64 (lm t q.toNat) := by
  have : q = 0 ∨ q = 1 ∨ q = 2 ∨ q = 3 := by omega
  rcases this with rfl | rfl | rfl | rfl <;> rfl
theorem bit_limb {t i k : Nat} (ht : t % 2 ^ (i + 1) = 0) : lm (t + 2 ^ i) k = if k = i / 64 then bitsOf .or .u64 (lm t k) (shlI .u64 1 ((i : Int) % 64)) else lm t k := by
  have hdis : t + 2 ^ i = t ||| 2 ^ i := by
    have h1 : t = 2 ^ (i + 1) * (t / 2 ^ (i + 1)) := by have := Nat.div_add_mod t (2 ^ (i + 1)); omega
    rw [h1]
    rw [Nat.two_pow_add_eq_or_of_lt]
    rw [Nat.pow_succ]; have := Nat.two_pow_pos i; omega
  rw [hdis]
  have e : ((i : Int) % 64) = ((i % 64 : Nat) : Int) := by omega
  have e1 : (1 : Int) = ((1 : Nat) : Int) := rfl
  rw [e, e1, shlI_nat _ _ (by omega)]
  rw [lm_nat t k, bits_or_nat (mod64_lt _) (mod64_lt _)]
  split
  · rename_i hk
    subst hk
    rw [lm_nat]
    congr 1
    refine Nat.eq_of_testBit_eq fun j => ?_
    simp only [Nat.testBit_or, Nat.testBit_mod_two_pow, Nat.testBit_div_two_pow, Nat.testBit_two_pow, Nat.one_mul]
    by_cases hj : j < 64
    · simp only [hj, decide_true, Bool.true_and]
      congr 1
      rw [decide_eq_decide]; omega
    · simp [hj]
  · rename_i hk
    rw [lm_nat]
    congr 1
    refine Nat.eq_of_testBit_eq fun j => ?_
    simp only [Nat.testBit_or, Nat.testBit_mod_two_pow, Nat.testBit_div_two_pow, Nat.testBit_two_pow]
    by_cases hj : j < 64
    · have : ¬ (i = j + 64 * k) := by omega
      simp [hj, this]
    · simp [hj]
theorem wP_bit {t : Nat} {i : Int} (hi : 0 ≤ i ∧ i < 256) (ht : t % 2 ^ (i.toNat + 1) = 0) :
    AV.ar 4 ([u64 (lm t 0), u64 (lm t 1), u64 (lm t 2), u64 (lm t 3)].set (i / 64).toNat (u64 (bitsOf .or .u64 (lm t (i / 64).toNat) (shlI .u64 1 (i % 64))))) = wP (t + 2 ^ i.toNat) := by
  have hb : ∀ k, lm (t + 2 ^ i.toNat) k = if k = i.toNat / 64 then bitsOf .or .u64 (lm t k) (shlI .u64 1 (i % 64)) else lm t k := fun k => by
    have := bit_limb (t := t) (i := i.toNat) (k := k) ht
    rwa [show ((i.toNat : Nat) : Int) = i by omega] at this
  have e : (i / 64).toNat = i.toNat / 64 := by omega
  have : i.toNat / 64 = 0 ∨ i.toNat / 64 = 1 ∨ i.toNat / 64 = 2 ∨ i.toNat / 64 = 3 := by omega
  unfold wP
  rw [hb 0, hb 1, hb 2, hb 3, e]
  rcases this with h | h | h | h <;> rw [h] <;> simp
end Go.Eng

namespace Go.Eng
/-! ### Division bit by bit -/
def DivInv (a b t r : Nat) (i : Int) : Prop := a = t * b + r ∧ r < b * 2 ^ (i + 1).toNat ∧ t % 2 ^ (i + 1).toNat = 0
theorem div_init {a b : Nat} (hb : b ≠ 0) : DivInv a b 0 a ((blen a : Int) - blen b) := by
  refine ⟨by omega, ?_, by simp⟩
  have h1 := blen_lt a
  have h2 := blen_le hb
  have h3 := blen_pos hb
  have : 2 ^ blen a ≤ b * 2 ^ ((blen a : Int) - blen b + 1).toNat := by
    refine Nat.le_trans ?_ (Nat.mul_le_mul_right _ h2)
    rw [← Nat.pow_add]
    exact Nat.pow_le_pow_right (by decide) (by omega)
  omega
theorem left_small {a b : Nat} {i : Int} (ha : a < 2 ^ 256) (h0 : 0 ≤ i) (hi : i ≤ (blen a : Int) - blen b) : leftW b i.toNat = b * 2 ^ i.toNat ∧ b * 2 ^ i.toNat < 2 ^ 256 := by
  have h1 := blen_lt b
  have h2 : blen a ≤ 256 := blen_le_of ha
  have h3 : b * 2 ^ i.toNat < 2 ^ 256 := by
    calc b * 2 ^ i.toNat < 2 ^ blen b * 2 ^ i.toNat := (Nat.mul_lt_mul_right (Nat.two_pow_pos _)).2 h1
      _ = 2 ^ (blen b + i.toNat) := by rw [Nat.pow_add]
      _ ≤ 2 ^ 256 := Nat.pow_le_pow_right (by decide) (by omega)
  exact ⟨Nat.mod_eq_of_lt h3, h3⟩
theorem pow_half {i : Int} (h0 : 0 ≤ i) : 2 ^ (i + 1).toNat = 2 * 2 ^ i.toNat := by
  rw [show (i + 1).toNat = i.toNat + 1 by omega, Nat.pow_succ]; omega
theorem div_yes {a b t r : Nat} {i : Int} (h0 : 0 ≤ i) (h : DivInv a b t r i) (hr : b * 2 ^ i.toNat ≤ r) : DivInv a b (t + 2 ^ i.toNat) (r - b * 2 ^ i.toNat) (i - 1) := by
  obtain ⟨h1, h2, h3⟩ := h
  rw [pow_half h0] at h2 h3
  have e : (i - 1 + 1).toNat = i.toNat := by omega
  unfold DivInv
  rw [e]
  generalize 2 ^ i.toNat = M at *
  refine ⟨?_, ?_, ?_⟩
  · rw [Nat.add_mul, Nat.mul_comm M b]; omega
  · have : b * (2 * M) = b * M + b * M := by rw [Nat.mul_left_comm]; omega
    omega
  · have : M ∣ t := Nat.dvd_trans (Nat.dvd_mul_left M 2) (Nat.dvd_of_mod_eq_zero h3)
    exact Nat.mod_eq_zero_of_dvd (Nat.dvd_add this (Nat.dvd_refl M))
theorem div_no {a b t r : Nat} {i : Int} (h0 : 0 ≤ i) (h : DivInv a b t r i) (hr : r < b * 2 ^ i.toNat) : DivInv a b t r (i - 1) := by
  obtain ⟨h1, h2, h3⟩ := h
  rw [pow_half h0] at h3
  have e : (i - 1 + 1).toNat = i.toNat := by omega
  unfold DivInv
  rw [e]
  exact ⟨h1, hr, Nat.mod_eq_zero_of_dvd (Nat.dvd_trans (Nat.dvd_mul_left _ 2) (Nat.dvd_of_mod_eq_zero h3))⟩
theorem div_end {a b t r : Nat} {i : Int} (h0 : i < 0) (h : DivInv a b t r i) : t = a / b ∧ r = a % b := by
  obtain ⟨h1, h2, h3⟩ := h
  have e : (i + 1).toNat = 0 := by omega
  rw [e, Nat.pow_zero, Nat.mul_one] at h2
  subst h1
  have hb : 0 < b := by omega
  constructor
  · rw [Nat.mul_comm, Nat.mul_add_div hb, Nat.div_eq_of_lt h2]; omega
  · rw [Nat.mul_comm, Nat.mul_add_mod, Nat.mod_eq_of_lt h2]
theorem divinv_le {a b t r : Nat} {i : Int} (h : DivInv a b t r i) : r ≤ a := by obtain ⟨h1, _⟩ := h; omega
theorem divinv_t {a b t r : Nat} {i : Int} (h0 : 0 ≤ i) (h : DivInv a b t r i) : t % 2 ^ (i.toNat + 1) = 0 := by
  have := h.2.2
  rwa [show (i + 1).toNat = i.toNat + 1 by omega] at this
theorem subW_eq {a b : Nat} (ha : a < 2 ^ 256) (h : b ≤ a) : subW a b = a - b := by
  unfold subW
  rw [show a + 2 ^ 256 - b = (a - b) + 2 ^ 256 by omega, Nat.add_mod_right, Nat.mod_eq_of_lt (by omega)]
theorem box_eq (id : Nat) (sh : Bool) {l l' : List AV} (h : l = l') : [(id, Obj.box l sh)] = [(id, Obj.box l' sh)] := by rw [h]
theorem ag_eq {v v' : AV} (h : v = v') : AV.ag [v] = .ag [v'] := by rw [h]
end Go.Eng

namespace Go.Eng
/-! ### The document's numbers -/
theorem blen_halfI {x : Int} (h : 0 < x) : (blen x.toNat : Int) = blen (x / 2).toNat + 1 := by
  have := blen_half (n := x.toNat) (by omega)
  rw [show x.toNat / 2 = (x / 2).toNat by omega] at this
  omega
theorem blen_zero_iff (n : Nat) : blen n = 0 ↔ n = 0 := by
  constructor
  · intro h
    by_cases hn : n = 0
    · exact hn
    · have := blen_pos hn; omega
  · intro h; subst h; rfl
theorem blen_dig_le (v k : Nat) : blen (dig v k).toNat ≤ 16 := by
  have := dig_hi v k
  have := dig_lo v k
  exact blen_le_of (by omega)
theorem lm_dig {a i j : Nat} (hj : j < 4) : dig a (4 * i + j) = lm a i / 65536 ^ j % 65536 := by
  unfold dig lm
  have e1 : (65536 : Nat) ^ (4 * i + j) = 2 ^ (64 * i) * 65536 ^ j := by
    rw [Nat.pow_add, Nat.pow_mul]; congr 1
    rw [show (64 : Nat) * i = 64 * i from rfl, Nat.pow_mul]
  rw [e1, ← Nat.div_div_eq_div_mul]
  generalize a / 2 ^ (64 * i) = A
  have e2 : ((65536 : Int) ^ j) = ((65536 ^ j : Nat) : Int) := by simp
  rw [e2, ← Int.natCast_ediv]
  have : A % 2 ^ 64 / 65536 ^ j % 65536 = A / 65536 ^ j % 65536 := by
    have h64 : (2 : Nat) ^ 64 = 65536 ^ j * 65536 ^ (4 - j) := by rw [← Nat.pow_add, show j + (4 - j) = 4 by omega]
    rw [h64, Nat.mod_mul_right_div_self]
    have : (65536 : Nat) ^ (4 - j) = 65536 * 65536 ^ (3 - j) := by rw [← Nat.pow_succ', show (3 - j).succ = 4 - j by omega]
    rw [this, Nat.mod_mul_right_mod]
  rw [← this]
  simp
theorem of_rows (a : Nat) : dgv 16 a = [[u64 (lm a 0 % 65536)], [u64 (lm a 0 / 65536 % 65536)], [u64 (lm a 0 / 65536 / 65536 % 65536)], [u64 (lm a 0 / 65536 / 65536 / 65536 % 65536)], [u64 (lm a 1 % 65536)], [u64 (lm a 1 / 65536 % 65536)], [u64 (lm a 1 / 65536 / 65536 % 65536)], [u64 (lm a 1 / 65536 / 65536 / 65536 % 65536)], [u64 (lm a 2 % 65536)], [u64 (lm a 2 / 65536 % 65536)], [u64 (lm a 2 / 65536 / 65536 % 65536)], [u64 (lm a 2 / 65536 / 65536 / 65536 % 65536)], [u64 (lm a 3 % 65536)], [u64 (lm a 3 / 65536 % 65536)], [u64 (lm a 3 / 65536 / 65536 % 65536)], [u64 (lm a 3 / 65536 / 65536 / 65536 % 65536)]] := by
  have h : dgv 16 a = [[u64 (dig a 0)], [u64 (dig a 1)], [u64 (dig a 2)], [u64 (dig a 3)], [u64 (dig a 4)], [u64 (dig a 5)], [u64 (dig a 6)], [u64 (dig a 7)], [u64 (dig a 8)], [u64 (dig a 9)], [u64 (dig a 10)], [u64 (dig a 11)], [u64 (dig a 12)], [u64 (dig a 13)], [u64 (dig a 14)], [u64 (dig a 15)]] := rfl
  have d0 : dig a 0 = lm a 0 % 65536 := by
    have := lm_dig (a := a) (i := 0) (j := 0) (by decide)
    simp only [Nat.reduceMul, Nat.reduceAdd, Int.reducePow] at this
    first | (rw [this]; done) | (rw [this]; omega)
  have d1 : dig a 1 = lm a 0 / 65536 % 65536 := by
    have := lm_dig (a := a) (i := 0) (j := 1) (by decide)
    simp only [Nat.reduceMul, Nat.reduceAdd, Int.reducePow] at this
    first | (rw [this]; done) | (rw [this]; omega)
  have d2 : dig a 2 = lm a 0 / 65536 / 65536 % 65536 := by
    have := lm_dig (a := a) (i := 0) (j := 2) (by decide)
    simp only [Nat.reduceMul, Nat.reduceAdd, Int.reducePow] at this
    first | (rw [this]; done) | (rw [this]; omega)
  have d3 : dig a 3 = lm a 0 / 65536 / 65536 / 65536 % 65536 := by
    have := lm_dig (a := a) (i := 0) (j := 3) (by decide)
    simp only [Nat.reduceMul, Nat.reduceAdd, Int.reducePow] at this
    first | (rw [this]; done) | (rw [this]; omega)
  have d4 : dig a 4 = lm a 1 % 65536 := by
    have := lm_dig (a := a) (i := 1) (j := 0) (by decide)
    simp only [Nat.reduceMul, Nat.reduceAdd, Int.reducePow] at this
    first | (rw [this]; done) | (rw [this]; omega)
  have d5 : dig a 5 = lm a 1 / 65536 % 65536 := by
    have := lm_dig (a := a) (i := 1) (j := 1) (by decide)
    simp only [Nat.reduceMul, Nat.reduceAdd, Int.reducePow] at this
    first | (rw [this]; done) | (rw [this]; omega)
  have d6 : dig a 6 = lm a 1 / 65536 / 65536 % 65536 := by
    have := lm_dig (a := a) (i := 1) (j := 2) (by decide)
    simp only [Nat.reduceMul, Nat.reduceAdd, Int.reducePow] at this
    first | (rw [this]; done) | (rw [this]; omega)
  have d7 : dig a 7 = lm a 1 / 65536 / 65536 / 65536 % 65536 := by
    have := lm_dig (a := a) (i := 1) (j := 3) (by decide)
    simp only [Nat.reduceMul, Nat.reduceAdd, Int.reducePow] at this
    first | (rw [this]; done) | (rw [this]; omega)
  have d8 : dig a 8 = lm a 2 % 65536 := by
    have := lm_dig (a := a) (i := 2) (j := 0) (by decide)
    simp only [Nat.reduceMul, Nat.reduceAdd, Int.reducePow] at this
    first | (rw [this]; done) | (rw [this]; omega)
  have d9 : dig a 9 = lm a 2 / 65536 % 65536 := by
    have := lm_dig (a := a) (i := 2) (j := 1) (by decide)
    simp only [Nat.reduceMul, Nat.reduceAdd, Int.reducePow] at this
    first | (rw [this]; done) | (rw [this]; omega)
  have d10 : dig a 10 = lm a 2 / 65536 / 65536 % 65536 := by
    have := lm_dig (a := a) (i := 2) (j := 2) (by decide)
    simp only [Nat.reduceMul, Nat.reduceAdd, Int.reducePow] at this
    first | (rw [this]; done) | (rw [this]; omega)
  have d11 : dig a 11 = lm a 2 / 65536 / 65536 / 65536 % 65536 := by
    have := lm_dig (a := a) (i := 2) (j := 3) (by decide)
    simp only [Nat.reduceMul, Nat.reduceAdd, Int.reducePow] at this
    first | (rw [this]; done) | (rw [this]; omega)
  have d12 : dig a 12 = lm a 3 % 65536 := by
    have := lm_dig (a := a) (i := 3) (j := 0) (by decide)
    simp only [Nat.reduceMul, Nat.reduceAdd, Int.reducePow] at this
    first | (rw [this]; done) | (rw [this]; omega)
  have d13 : dig a 13 = lm a 3 / 65536 % 65536 := by
    have := lm_dig (a := a) (i := 3) (j := 1) (by decide)
    simp only [Nat.reduceMul, Nat.reduceAdd, Int.reducePow] at this
    first | (rw [this]; done) | (rw [this]; omega)
  have d14 : dig a 14 = lm a 3 / 65536 / 65536 % 65536 := by
    have := lm_dig (a := a) (i := 3) (j := 2) (by decide)
    simp only [Nat.reduceMul, Nat.reduceAdd, Int.reducePow] at this
    first | (rw [this]; done) | (rw [this]; omega)
  have d15 : dig a 15 = lm a 3 / 65536 / 65536 / 65536 % 65536 := by
    have := lm_dig (a := a) (i := 3) (j := 3) (by decide)
    simp only [Nat.reduceMul, Nat.reduceAdd, Int.reducePow] at this
    first | (rw [this]; done) | (rw [this]; omega)
  rw [h, d0, d1, d2, d3, d4, d5, d6, d7, d8, d9, d10, d11, d12, d13, d14, d15]
/-- A number whose digits from j on are put into limbs. -/
def wp (x j q : Nat) : Int := ((x / 2 ^ (64 * q) % 2 ^ 64 / 65536 ^ (j - 4 * q) : Nat) : Int)
def wQ (x j : Nat) : AV := .ar 4 [u64 (wp x j 0), u64 (wp x j 1), u64 (wp x j 2), u64 (wp x j 3)]
@[simp] theorem pv0_wQ (x j : Nat) : pv0 (wQ x j) := pv0_ar.2 (clean_pls (by simp))
@[simp] theorem td0_wQ (n x j : Nat) : td0 n (wQ x j) := td0_ar.2 (clean_pls (by simp))
theorem wQ_at (x j : Nat) {q : Int} (h : 0 ≤ q ∧ q < 4) (d : AV) : [u64 (wp x j 0), u64 (wp x j 1), u64 (wp x j 2), u64 (wp x j 3)].getD q.toNat d = u64 (wp x j q.toNat) := by
  have : q = 0 ∨ q = 1 ∨ q = 2 ∨ q = 3 := by omega
  rcases this with rfl | rfl | rfl | rfl <;> rfl
theorem wp_zero (x q : Nat) : wp x 0 q = lm x q := by simp [wp, lm]
theorem wQ_zero (x : Nat) : wQ x 0 = wP x := by simp [wQ, wP, wp_zero]
theorem wp_top {x j q : Nat} (h : 4 * q + 4 ≤ j) : wp x j q = 0 := by
  have h1 : x / 2 ^ (64 * q) % 2 ^ 64 < 2 ^ 64 := Nat.mod_lt _ (by decide)
  have h2 : (65536 : Nat) ^ 4 ≤ 65536 ^ (j - 4 * q) := Nat.pow_le_pow_right (by decide) (by omega)
  unfold wp
  rw [Nat.div_eq_of_lt (by omega)]; rfl
theorem wQ_top (x : Nat) : wQ x 16 = .ar 4 [u64 0, u64 0, u64 0, u64 0] := by
  simp only [wQ]
  rw [wp_top (by omega), wp_top (by omega), wp_top (by omega), wp_top (by omega)]
theorem wp_step {x i q : Nat} : wp x i q = if q = i / 4 then 65536 * wp x (i + 1) q + dig x i else wp x (i + 1) q := by
  split
  · rename_i h
    have hj : i - 4 * q < 4 := by omega
    have := lm_dig (a := x) (i := q) hj
    rw [show 4 * q + (i - 4 * q) = i by omega] at this
    rw [this]
    unfold wp lm
    generalize x / 2 ^ (64 * q) % 2 ^ 64 = L
    rw [show i + 1 - 4 * q = (i - 4 * q) + 1 by omega, Nat.pow_succ, ← Nat.div_div_eq_div_mul]
    have e2 : ((65536 : Int) ^ (i - 4 * q)) = ((65536 ^ (i - 4 * q) : Nat) : Int) := by simp
    rw [e2, ← Int.natCast_ediv]
    omega
  · rename_i h
    rcases Nat.lt_or_ge (i / 4) q with h' | h'
    · unfold wp
      rw [show i - 4 * q = 0 by omega, show i + 1 - 4 * q = 0 by omega]
    · rw [wp_top (by omega), wp_top (by omega)]
theorem wQ_set {x : Nat} {i : Int} (h : 0 ≤ i ∧ i < 16) :
    AV.ar 4 ([u64 (wp x (i + 1).toNat 0), u64 (wp x (i + 1).toNat 1), u64 (wp x (i + 1).toNat 2), u64 (wp x (i + 1).toNat 3)].set (i / 4).toNat (u64 (65536 * wp x (i + 1).toNat (i / 4).toNat + dig x i.toNat))) = wQ x i.toNat := by
  have e : (i + 1).toNat = i.toNat + 1 := by omega
  have e2 : (i / 4).toNat = i.toNat / 4 := by omega
  have : i.toNat / 4 = 0 ∨ i.toNat / 4 = 1 ∨ i.toNat / 4 = 2 ∨ i.toNat / 4 = 3 := by omega
  unfold wQ
  rw [e, e2, wp_step (i := i.toNat) (q := 0), wp_step (i := i.toNat) (q := 1), wp_step (i := i.toNat) (q := 2), wp_step (i := i.toNat) (q := 3)]
  rcases this with h | h | h | h <;> rw [h] <;> simp
theorem wQ_skip {x n : Nat} {i : Int} (hx : x < 65536 ^ n) (h0 : 0 ≤ i) (h : (n : Int) ≤ i) : wQ x (i + 1).toNat = wQ x i.toNat := by
  have e : (i + 1).toNat = i.toNat + 1 := by omega
  have z : dig x i.toNat = 0 := dig_zero hx (by omega)
  have hz : ∀ q, q = i.toNat / 4 → wp x (i.toNat + 1) q = 0 := fun q hq => by
    unfold wp
    have : x / 2 ^ (64 * q) < 65536 ^ (i.toNat + 1 - 4 * q) := by
      rw [Nat.div_lt_iff_lt_mul (Nat.two_pow_pos _)]
      have e3 : (2 : Nat) ^ (64 * q) = 65536 ^ (4 * q) := by rw [pow16]; congr 1; omega
      rw [e3, ← Nat.pow_add]
      exact pow_le_of_le hx (by omega)
    rw [Nat.div_eq_of_lt (Nat.lt_of_le_of_lt (Nat.mod_le _ _) this)]; rfl
  have st : ∀ q, wp x i.toNat q = wp x (i.toNat + 1) q := fun q => by
    rw [wp_step (i := i.toNat)]
    split
    · rename_i hq
      rw [hz q hq, z]; rfl
    · rfl
  unfold wQ
  rw [e, st, st, st, st]
theorem dgv2 {m : Int} (h : 0 ≤ m ∧ m < 4294967296) : [[u64 (m % 65536)], [u64 (m / 65536)]] = dgv 2 m.toNat := by
  obtain ⟨M, rfl⟩ := Int.eq_ofNat_of_zero_le h.1
  simp only [dgv, Int.toNat_natCast]
  have : List.range 2 = [0, 1] := rfl
  rw [this]
  simp only [List.map_cons, List.map_nil, dig]
  congr 3
  · simp
  · congr 2; simp; omega
theorem wp_rng (x j q : Nat) {i : Int} : 0 ≤ wp x j q ∧ (j = (i + 1).toNat → 0 ≤ i → q = (i / 4).toNat → wp x j q < 281474976710656) := by
  refine ⟨Int.natCast_nonneg _, fun hj h0 hq => ?_⟩
  have h1 : x / 2 ^ (64 * q) % 2 ^ 64 < 2 ^ 64 := Nat.mod_lt _ (by decide)
  have h2 : (65536 : Nat) ^ 1 ≤ 65536 ^ (j - 4 * q) := Nat.pow_le_pow_right (by decide) (by omega)
  have h3 : x / 2 ^ (64 * q) % 2 ^ 64 / 65536 ^ (j - 4 * q) ≤ x / 2 ^ (64 * q) % 2 ^ 64 / 65536 := Nat.div_le_div_left (by omega) (by decide)
  unfold wp
  omega
/-- How many digits a number has. -/
def nd (x : Nat) : Nat := (blen x + 15) / 16
theorem nd_lt (x : Nat) : x < 65536 ^ nd x := by
  rw [pow16]
  exact Nat.lt_of_lt_of_le (blen_lt x) (Nat.pow_le_pow_right (by decide) (by unfold nd; omega))
theorem nd_le {x n : Nat} (h : x < 65536 ^ n) : nd x ≤ n := by
  rw [pow16] at h
  have := blen_le_of h
  unfold nd; omega
/-- A number's highest digit is nought just if it has less. -/
theorem nd_top {x n : Nat} (h : x < 65536 ^ (n + 1)) : dig x n = 0 ↔ nd x ≤ n := by
  have hM : 0 < 65536 ^ n := Nat.pow_pos (by decide)
  have e : x / 65536 ^ n % 65536 = x / 65536 ^ n := Nat.mod_eq_of_lt (by rw [Nat.div_lt_iff_lt_mul hM, ← Nat.pow_succ']; exact h)
  have : dig x n = 0 ↔ x < 65536 ^ n := by
    unfold dig
    rw [e]
    constructor
    · intro h0
      have : x / 65536 ^ n = 0 := by omega
      rcases Nat.lt_or_ge x (65536 ^ n) with h' | h'
      · exact h'
      · have := Nat.div_pos h' hM; omega
    · intro h0; rw [Nat.div_eq_of_lt h0]; rfl
  rw [this]
  exact ⟨nd_le, fun h => Nat.lt_of_lt_of_le (nd_lt x) (Nat.pow_le_pow_right (by decide) h)⟩
end Go.Eng

namespace Go.Eng
/-! ### The document's division -/
theorem dgv_cut {L R : Nat} (h : 0 < L) : ((dgv L R).drop 0).take (((L : Int) - 1) - 0).toNat = dgv (L - 1) R := by
  rw [List.drop_zero, show (((L : Int) - 1) - 0).toNat = L - 1 by omega, dgv_take (by omega)]
theorem trim_step {L R : Nat} (h : R < 65536 ^ L) (h0 : 0 < L) (hd : dig R ((L : Int) - 1).toNat = 0) : R < 65536 ^ (L - 1) := by
  obtain ⟨k, rfl⟩ : ∃ k, L = k + 1 := ⟨L - 1, by omega⟩
  rw [show (((k + 1 : Nat) : Int) - 1).toNat = k by omega] at hd
  have := (nd_top h).1 hd
  exact Nat.lt_of_lt_of_le (nd_lt R) (Nat.pow_le_pow_right (by decide) (by omega))
theorem trim_end {L R : Nat} (h : R < 65536 ^ L) (hd : L = 0 ∨ dig R ((L : Int) - 1).toNat ≠ 0) : L = nd R := by
  have h1 := nd_le h
  rcases hd with rfl | hd
  · omega
  · rcases Nat.eq_zero_or_pos L with h0 | h0
    · omega
    · obtain ⟨k, rfl⟩ : ∃ k, L = k + 1 := ⟨L - 1, by omega⟩
      rw [show (((k + 1 : Nat) : Int) - 1).toNat = k by omega] at hd
      have := mt (nd_top h).2 hd
      omega
theorem shl1_rng {s : Int} (h : 0 ≤ s ∧ s < 16) : 1 ≤ shlI .u64 1 s ∧ shlI .u64 1 s ≤ 32768 := by
  obtain ⟨S, rfl⟩ := Int.eq_ofNat_of_zero_le h.1
  have e1 : (1 : Int) = ((1 : Nat) : Int) := rfl
  rw [show shlI .u64 1 (S : Int) = shlI .u64 ((1 : Nat) : Int) (S : Int) from rfl, shlI_nat _ _ (by omega), Nat.one_mul]
  have h1 : 2 ^ S ≤ 2 ^ 15 := Nat.pow_le_pow_right (by decide) (by omega)
  have h2 := Nat.two_pow_pos S
  rw [Nat.mod_eq_of_lt (by omega)]
  omega
theorem shl1_val {s : Nat} (h : s < 16) : shlI .u64 1 (s : Int) = ((2 ^ s : Nat) : Int) := by
  rw [show shlI .u64 1 (s : Int) = shlI .u64 ((1 : Nat) : Int) (s : Int) from rfl, shlI_nat _ _ (by omega), Nat.one_mul]
  have h1 : 2 ^ s ≤ 2 ^ 15 := Nat.pow_le_pow_right (by decide) (by omega)
  rw [Nat.mod_eq_of_lt (by omega)]
/-- A bit that was not there is put. -/
theorem dgv_bit {n t : Nat} {i : Int} (h0 : 0 ≤ i) (ht : t % 2 ^ (i + 1).toNat = 0) :
    (dgv n t).set (i / 16).toNat [u64 (dig t (i / 16).toNat + shlI .u64 1 (i % 16))] = dgv n (t + 2 ^ i.toNat) ∧ dig t (i / 16).toNat + shlI .u64 1 (i % 16) ≤ 65535 := by
  obtain ⟨k, rfl⟩ := Int.eq_ofNat_of_zero_le h0
  have e1 : ((k : Int) / 16).toNat = k / 16 := by omega
  have e2 : ((k : Int) % 16) = ((k % 16 : Nat) : Int) := by omega
  have e3 : ((k : Int) + 1).toNat = k + 1 := by omega
  rw [e1, e2, shl1_val (by omega), Int.toNat_natCast]
  rw [e3] at ht
  have hd : dig t (k / 16) + ((2 ^ (k % 16) : Nat) : Int) ≤ 65535 := by
    -- the digit is a multiple of 2 ^ (k % 16 + 1)
    have hk : k + 1 = 16 * (k / 16) + (k % 16 + 1) := by omega
    rw [hk, Nat.pow_add] at ht
    have hdvd : 2 ^ (k % 16 + 1) ∣ t / 2 ^ (16 * (k / 16)) := by
      obtain ⟨c, hc⟩ := Nat.dvd_of_mod_eq_zero ht
      refine ⟨c, ?_⟩
      rw [hc, Nat.mul_assoc, Nat.mul_div_cancel_left _ (Nat.two_pow_pos _)]
    have hdvd2 : 2 ^ (k % 16 + 1) ∣ t / 2 ^ (16 * (k / 16)) % 65536 := by
      refine (Nat.dvd_mod_iff ?_).2 hdvd
      rw [show (65536 : Nat) = 2 ^ (k % 16 + 1) * 2 ^ (15 - k % 16) by rw [← Nat.pow_add, show k % 16 + 1 + (15 - k % 16) = 16 by omega]]
      exact Nat.dvd_mul_right _ _
    unfold dig
    rw [pow16]
    have hlt : t / 2 ^ (16 * (k / 16)) % 65536 < 65536 := Nat.mod_lt _ (by decide)
    generalize t / 2 ^ (16 * (k / 16)) % 65536 = d at *
    obtain ⟨c, hc⟩ := hdvd2
    have hM := Nat.two_pow_pos (k % 16)
    have hE : (65536 : Nat) = 2 ^ (k % 16 + 1) * 2 ^ (15 - k % 16) := by rw [← Nat.pow_add, show k % 16 + 1 + (15 - k % 16) = 16 by omega]
    have hce : c < 2 ^ (15 - k % 16) := by
      rw [hc, hE] at hlt
      exact Nat.lt_of_mul_lt_mul_left hlt
    have h5 : 2 ^ (k % 16 + 1) * (c + 1) ≤ 65536 := by
      rw [hE]; exact Nat.mul_le_mul_left _ hce
    rw [Nat.mul_add, ← hc, Nat.pow_succ] at h5
    omega
  refine ⟨?_, hd⟩
  have hr : 0 ≤ dig t (k / 16) + ((2 ^ (k % 16) : Nat) : Int) := by have := dig_lo t (k / 16); have := Int.natCast_nonneg (2 ^ (k % 16)); omega
  rw [dgv_set ⟨hr, hd⟩]
  congr 1
  have h1 := setD_val (v := t) (k := k / 16) hr
  have h2 : (2 : Nat) ^ k = 2 ^ (k % 16) * 65536 ^ (k / 16) := by
    rw [pow16, ← Nat.pow_add]; congr 1; omega
  have : ((setD t (k / 16) (dig t (k / 16) + ((2 ^ (k % 16) : Nat) : Int)) : Nat) : Int) = ((t + 2 ^ k : Nat) : Int) := by
    rw [h1, h2, Int.natCast_add, Int.natCast_mul]
    simp only [Int.natCast_pow]
    grind
  exact Int.ofNat.inj this
def RInv (x y r t : Nat) (i : Int) : Prop := r = x / 2 ^ (i + 1).toNat % y ∧ t = x / 2 ^ (i + 1).toNat / y * 2 ^ (i + 1).toNat
theorem rdiv_init {x y n : Nat} (hx : x < 65536 ^ n) : RInv x y 0 0 (16 * (n : Int) - 1) := by
  have : x / 2 ^ (16 * (n : Int) - 1 + 1).toNat = 0 := by
    rw [show (16 * (n : Int) - 1 + 1).toNat = 16 * n by omega, ← pow16]
    exact Nat.div_eq_of_lt hx
  unfold RInv
  rw [this]; simp
theorem bit_at {x : Nat} {i : Int} (h0 : 0 ≤ i) : shrI 64 (dig x (i / 16).toNat) (i % 16) % 2 = ((x / 2 ^ i.toNat % 2 : Nat) : Int) := by
  obtain ⟨k, rfl⟩ := Int.eq_ofNat_of_zero_le h0
  rw [show ((k : Int) / 16).toNat = k / 16 by omega, show ((k : Int) % 16) = ((k % 16 : Nat) : Int) by omega, Int.toNat_natCast]
  unfold dig
  rw [shrI_nat _ _ (by omega), pow16]
  have e : (2 : Nat) ^ k = 2 ^ (16 * (k / 16)) * 2 ^ (k % 16) := by rw [← Nat.pow_add]; congr 1; omega
  rw [e, ← Nat.div_div_eq_div_mul]
  generalize x / 2 ^ (16 * (k / 16)) = A
  have hE : (65536 : Nat) = 2 ^ (k % 16) * (2 * 2 ^ (15 - k % 16)) := by rw [← Nat.pow_succ', ← Nat.pow_add, show k % 16 + (15 - k % 16).succ = 16 by omega]
  have : A % 65536 / 2 ^ (k % 16) % 2 = A / 2 ^ (k % 16) % 2 := by
    rw [hE, Nat.mod_mul_right_div_self, Nat.mod_mul_right_mod]
  omega
theorem rdiv_step {x y r t b : Nat} {i : Int} (hy : 0 < y) (h0 : 0 ≤ i) (h : RInv x y r t i) (hb : x / 2 ^ i.toNat % 2 = b) :
    (y ≤ r + r + b → RInv x y (r + r + b - y) (t + 2 ^ i.toNat) (i - 1)) ∧ (r + r + b < y → RInv x y (r + r + b) t (i - 1)) := by
  obtain ⟨h1, h2⟩ := h
  have e : (i - 1 + 1).toNat = i.toNat := by omega
  have e1 : (i + 1).toNat = i.toNat + 1 := by omega
  rw [e1, Nat.pow_succ, ← Nat.div_div_eq_div_mul] at h1 h2
  unfold RInv
  rw [e]
  generalize 2 ^ i.toNat = M at *
  generalize x / M = X at *
  have hX : X = 2 * (X / 2) + b := by omega
  have hlt : r < y := by rw [h1]; exact Nat.mod_lt _ hy
  have hq := Nat.div_add_mod (X / 2) y
  rw [← h1] at hq
  have hb1 : b ≤ 1 := by omega
  generalize X / 2 / y = q at *
  generalize X / 2 = H at *
  subst h2
  subst hX
  have hH : 2 * H + b = y * (2 * q) + (r + r + b) := by rw [← hq, Nat.mul_add, Nat.mul_left_comm]; omega
  rw [hH, Nat.mul_add_div hy, Nat.mul_add_mod]
  constructor
  · intro hle
    have e3 : (r + r + b) / y = 1 := by
      rw [Nat.div_eq_iff hy]; omega
    have e4 : (r + r + b) % y = r + r + b - y := by
      rw [Nat.mod_eq_sub_mod hle, Nat.mod_eq_of_lt (by omega)]
    rw [e3, e4]
    refine ⟨rfl, ?_⟩
    rw [Nat.add_mul, Nat.one_mul, Nat.mul_comm 2 q, Nat.mul_assoc, Nat.mul_comm 2 M]
  · intro hlt2
    rw [Nat.div_eq_of_lt hlt2, Nat.mod_eq_of_lt hlt2]
    refine ⟨rfl, ?_⟩
    rw [Nat.add_zero, Nat.mul_comm 2 q, Nat.mul_assoc, Nat.mul_comm 2 M]
theorem rdiv_end {x y r t : Nat} {i : Int} (h0 : i = -1) (h : RInv x y r t i) : t = x / y ∧ r = x % y := by
  subst h0
  obtain ⟨h1, h2⟩ := h
  exact ⟨by simpa using h2, by simpa using h1⟩
theorem rinv_t {x y r t : Nat} {i : Int} (h : RInv x y r t i) : t % 2 ^ (i + 1).toNat = 0 := by rw [h.2]; exact Nat.mul_mod_left _ _
theorem rinv_r {x y r t : Nat} {i : Int} (hy : 0 < y) (h : RInv x y r t i) : r < y := by rw [h.1]; exact Nat.mod_lt _ hy
theorem pos_exp {y m : Nat} (hy : y < 65536 ^ m) (h0 : 0 < y) : 0 < m := by
  rcases Nat.eq_zero_or_pos m with h | h
  · subst h; simp at hy; omega
  · exact h
theorem lenAdd_one {l r b : Nat} (_ : b ≤ 1) : lenAdd l 1 r b ≤ max l 1 + 1 := lenAdd_le _ _ _ _
theorem cmpI_ge (x y : Nat) : (0 ≤ cmpI x y ↔ y ≤ x) ∧ (cmpI x y < 0 ↔ x < y) ∧ (0 < cmpI x y ↔ y < x) := by
  unfold cmpI
  by_cases h : x < y
  · rw [if_pos h]; omega
  · rw [if_neg h]
    by_cases h2 : y < x
    · rw [if_pos h2]; omega
    · rw [if_neg h2]; omega
theorem shr_rng {d : Int} (s : Int) (h : 0 ≤ d ∧ d ≤ 65535) : 0 ≤ shrI 64 d s ∧ shrI 64 d s ≤ 65535 := by
  unfold shrI
  rw [Int.fdiv_eq_ediv_of_nonneg _ (Int.pow_nonneg (by omega))]
  exact ⟨Int.ediv_nonneg h.1 (Int.pow_nonneg (by omega)), Int.le_trans (Int.ediv_le_self _ h.1) h.2⟩
end Go.Eng

namespace Go.Eng
theorem times_lt {x n k : Nat} (h : x * 256 ^ k < 65536 ^ (n + k)) : x * 256 ^ (k + 1) < 65536 ^ (n + (k + 1)) := by
  rw [Nat.pow_succ, ← Nat.mul_assoc, ← Nat.add_assoc, Nat.pow_succ]
  omega
/-! ### Four bytes for a target -/
def expT (b : Nat) : Nat := if b / 16777216 ≤ 3 then b % 8388608 / 256 ^ (3 - b / 16777216) else b % 8388608 * 256 ^ (b / 16777216 - 3)
def easiestN : Nat := 8388607 * 256 ^ 29
def expOK (b : Nat) : Bool := decide (b / 8388608 % 2 = 0 ∧ expT b ≠ 0 ∧ expT b ≤ easiestN)
def tgt (b : Nat) : Nat := if expOK b then expT b else 0
def elen (b : Nat) : Nat := if expOK b then 2 + (b / 16777216 - 3) else 0
def eerr (b : Nat) : Int := if expOK b then 0 else 121
theorem easiest_lt : easiestN < 2 ^ 256 := by decide
theorem tgt_le (b : Nat) : tgt b ≤ easiestN := by
  unfold tgt; split
  · rename_i h
    exact (of_decide_eq_true h).2.2
  · omega
theorem tgt_lt (b : Nat) : tgt b < 2 ^ 256 := Nat.lt_of_le_of_lt (tgt_le b) easiest_lt
theorem expOK_no {b : Nat} (h : ¬ (b / 8388608 % 2 = 0 ∧ expT b ≠ 0 ∧ expT b ≤ easiestN)) : expOK b = false := decide_eq_false h
theorem expOK_yes {b : Nat} (h : b / 8388608 % 2 = 0 ∧ expT b ≠ 0 ∧ expT b ≤ easiestN) : expOK b = true := decide_eq_true h
theorem exp_bad {b : Nat} (h : ¬ (b / 8388608 % 2 = 0 ∧ expT b ≠ 0 ∧ expT b ≤ easiestN)) : tgt b = 0 ∧ elen b = 0 ∧ eerr b = 121 := by
  have := expOK_no h
  simp [tgt, elen, eerr, this]
theorem exp_good {b : Nat} (h : b / 8388608 % 2 = 0 ∧ expT b ≠ 0 ∧ expT b ≤ easiestN) : tgt b = expT b ∧ elen b = 2 + (b / 16777216 - 3) ∧ eerr b = 0 := by
  have := expOK_yes h
  simp [tgt, elen, eerr, this]
theorem m23_lt (b : Nat) : b % 8388608 < 8388608 := Nat.mod_lt _ (by decide)
/-- The digits before they are moved: e below 3 moves the number down. -/
theorem exp_dig {b : Nat} : b % 8388608 / 256 ^ (3 - ((b / 16777216 : Nat) : Int)).toNat * 256 ^ (((b / 16777216 : Nat) : Int) - 3).toNat = expT b := by
  unfold expT
  by_cases h : b / 16777216 ≤ 3
  · rw [if_pos h, show (((b / 16777216 : Nat) : Int) - 3).toNat = 0 by omega, show (3 - ((b / 16777216 : Nat) : Int)).toNat = 3 - b / 16777216 by omega]; simp
  · rw [if_neg h, show (3 - ((b / 16777216 : Nat) : Int)).toNat = 0 by omega, show (((b / 16777216 : Nat) : Int) - 3).toNat = b / 16777216 - 3 by omega]; simp
theorem pow256 (k : Nat) : 256 ^ k = 2 ^ (8 * k) := by rw [Nat.pow_mul]
theorem exp_small {b : Nat} (h : b / 16777216 ≤ 3) : rightW (b % 8388608) (8 * (3 - ((b / 16777216 : Nat) : Int))).toNat = expT b := by
  rw [expT, if_pos h, pow256, rightW, show (8 * (3 - ((b / 16777216 : Nat) : Int))).toNat = 8 * (3 - b / 16777216) by omega]
theorem blen_mul_pow {m k : Nat} (h : m ≠ 0) : blen (m * 2 ^ k) = blen m + k := by
  have := blen_shift (d := m) (r := 0) (k := k) h (Nat.two_pow_pos _)
  rw [Nat.zero_add, Nat.mul_comm] at this
  omega
theorem exp_big {b : Nat} (h : ¬ b / 16777216 ≤ 3) (hb : ((blen (b % 8388608) : Nat) : Int) + 8 * (((b / 16777216 : Nat) : Int) - 3) ≤ 256) : leftW (b % 8388608) (8 * (((b / 16777216 : Nat) : Int) - 3)).toNat = expT b := by
  rw [expT, if_neg h, pow256, leftW, show (8 * (((b / 16777216 : Nat) : Int) - 3)).toNat = 8 * (b / 16777216 - 3) by omega]
  refine Nat.mod_eq_of_lt ?_
  have h1 := blen_lt (b % 8388608)
  calc b % 8388608 * 2 ^ (8 * (b / 16777216 - 3)) < 2 ^ blen (b % 8388608) * 2 ^ (8 * (b / 16777216 - 3)) := (Nat.mul_lt_mul_right (Nat.two_pow_pos _)).2 h1
    _ = 2 ^ (blen (b % 8388608) + 8 * (b / 16777216 - 3)) := by rw [Nat.pow_add]
    _ ≤ 2 ^ 256 := Nat.pow_le_pow_right (by decide) (by omega)
theorem exp_over {b : Nat} (h : ¬ b / 16777216 ≤ 3) (hb : (256 : Int) < ((blen (b % 8388608) : Nat) : Int) + 8 * (((b / 16777216 : Nat) : Int) - 3)) : ¬ (expT b ≠ 0 ∧ expT b ≤ easiestN) := by
  intro ⟨h1, h2⟩
  rw [expT, if_neg h, pow256] at h1 h2
  have hm : b % 8388608 ≠ 0 := fun h0 => h1 (by rw [h0]; simp)
  have h3 := blen_mul_pow (k := 8 * (b / 16777216 - 3)) hm
  have h4 : b % 8388608 * 2 ^ (8 * (b / 16777216 - 3)) < 2 ^ 256 := Nat.lt_of_le_of_lt h2 easiest_lt
  have := blen_le_of h4
  omega
theorem and_bit {k : IntKind} {a j : Nat} (hj : j < k.bits) (ha : (a : Int) ≤ k.max) (hk : ((2 ^ j : Nat) : Int) ≤ k.max) : AV.pl (.int k (bitsOf .and k (a : Int) ((2 ^ j : Nat) : Int))) = .pl (.int k ((a / 2 ^ j % 2 * 2 ^ j : Nat) : Int)) := by
  have hmax : k.max < 2 ^ k.bits := by cases k <;> decide
  have e : ∀ z : Nat, (z : Int) ≤ k.max → (BitVec.ofInt k.bits (z : Int)).toNat = z := fun z hz => by
    have hz2 : (z : Int) < ((2 ^ k.bits : Nat) : Int) := by
      have : ((2 ^ k.bits : Nat) : Int) = (2 : Int) ^ k.bits := by simp
      omega
    rw [BitVec.toNat_ofInt]
    have : (z : Int) % ((2 ^ k.bits : Nat) : Int) = z := Int.emod_eq_of_lt (by omega) hz2
    rw [this]; simp
  simp only [bitsOf]
  rw [BitVec.toNat_and, e a ha, e _ hk]
  have hand : a &&& 2 ^ j = a / 2 ^ j % 2 * 2 ^ j := by
    refine Nat.eq_of_testBit_eq fun i => ?_
    rw [Nat.testBit_and, Nat.testBit_two_pow, Nat.testBit_mul_two_pow]
    by_cases hi : j = i
    · subst hi
      have : (a / 2 ^ j % 2).testBit 0 = a.testBit j := by
        rw [show a / 2 ^ j % 2 = a / 2 ^ j % 2 ^ 1 by simp, Nat.testBit_mod_two_pow, Nat.testBit_div_two_pow]; simp
      simp [this]
    · rcases Nat.lt_or_gt_of_ne hi with h | h
      · have : (a / 2 ^ j % 2).testBit (i - j) = false := Nat.testBit_lt_two_pow (by
          have : 2 ^ 1 ≤ 2 ^ (i - j) := Nat.pow_le_pow_right (by decide) (by omega)
          omega)
        simp [hi, this]
      · have : ¬ j ≤ i := by omega
        simp [hi, this]
  rw [hand, wrap_in]
  constructor
  · have : k.min ≤ 0 := by cases k <;> decide
    omega
  · have : a / 2 ^ j % 2 ≤ 1 := by omega
    have : a / 2 ^ j % 2 * 2 ^ j ≤ 1 * 2 ^ j := Nat.mul_le_mul_right _ this
    omega
theorem dgv2_lt {m : Nat} (h : m < 4294967296) : m < 65536 ^ 2 := h
theorem exp_u {b : Nat} {k e : Int} (he : e = ((b / 16777216 : Nat) : Int)) (h : e ≤ k) : ((b % 8388608 / 256 ^ (k - e).toNat : Nat) : Int) / 256 = ((b % 8388608 / 256 ^ (k + 1 - e).toNat : Nat) : Int) := by
  subst he
  rw [show (k + 1 - ((b / 16777216 : Nat) : Int)).toNat = (k - ((b / 16777216 : Nat) : Int)).toNat + 1 by omega, Nat.pow_succ, ← Nat.div_div_eq_div_mul]
  omega
theorem exp_dig_lt {b : Nat} : b % 8388608 / 256 ^ (3 - ((b / 16777216 : Nat) : Int)).toNat < 8388608 := Nat.lt_of_le_of_lt (Nat.div_le_self _ _) (m23_lt b)
theorem dgv2N {m : Nat} (h : m < 4294967296) : [[u64 ((m % 65536 : Nat) : Int)], [u64 ((m / 65536 : Nat) : Int)]] = dgv 2 m := by
  have := dgv2 (m := (m : Int)) ⟨by omega, by omega⟩
  simpa using this
theorem exp_len {b : Nat} (_ : b < 4294967296) : expT b < 65536 ^ (2 + (((b / 16777216 : Nat) : Int) - 3).toNat) := by
  rw [← exp_dig, Nat.pow_add]
  have h1 := exp_dig_lt (b := b)
  have h2 : (256 : Nat) ^ (((b / 16777216 : Nat) : Int) - 3).toNat ≤ 65536 ^ (((b / 16777216 : Nat) : Int) - 3).toNat := Nat.pow_le_pow_left (by decide) _
  have h3 : 0 < (65536 : Nat) ^ (((b / 16777216 : Nat) : Int) - 3).toNat := Nat.pow_pos (by decide)
  generalize (((b / 16777216 : Nat) : Int) - 3).toNat = k at *
  generalize b % 8388608 / 256 ^ (3 - ((b / 16777216 : Nat) : Int)).toNat = m at *
  calc m * 256 ^ k ≤ m * 65536 ^ k := Nat.mul_le_mul_left _ h2
    _ < 65536 ^ 2 * 65536 ^ k := (Nat.mul_lt_mul_right h3).2 (by omega)
end Go.Eng

namespace Go.Eng
theorem nshlN (k : IntKind) (a s : Nat) (hs : s < k.bits) (h : ((a * 2 ^ s : Nat) : Int) ≤ k.max) : AV.pl (.int k (k.wrap ((a : Int) * 2 ^ min (Int.toNat s) k.bits))) = .pl (.int k ((a * 2 ^ s : Nat) : Int)) := by
  have : min (Int.toNat s) k.bits = s := by simp; omega
  have e : (a : Int) * 2 ^ s = ((a * 2 ^ s : Nat) : Int) := by simp
  rw [this, e, wrap_in]
  refine ⟨?_, h⟩
  have : k.min ≤ 0 := by cases k <;> decide
  exact Int.le_trans this (Int.natCast_nonneg _)
/-! ### How hard it was -/
def workN (b : Nat) : Nat := if expOK b then 2 ^ 256 / (expT b + 1) else 0
def wlen (b : Nat) : Nat := if expOK b then 17 else 0
theorem expOK_of {b : Nat} (h : eerr b = 0) : expOK b = true := by
  unfold eerr at h
  by_cases h' : expOK b = true
  · exact h'
  · rw [if_neg h'] at h; cases h
theorem expOK_not {b : Nat} (h : eerr b ≠ 0) : expOK b = false := by
  unfold eerr at h
  by_cases h' : expOK b = true
  · rw [if_pos h'] at h; exact absurd rfl h
  · simpa using h'
theorem work_ok {b : Nat} (h : eerr b = 0) : addW (subW 0 (addW (tgt b) 1) / addW (tgt b) 1) 1 = workN b ∧ elen b = 2 + (b / 16777216 - 3) ∧ tgt b = expT b ∧ wlen b = 17 ∧ workN b = 2 ^ 256 / (tgt b + 1) := by
  have hk := expOK_of h
  have ht : tgt b = expT b := by rw [tgt, if_pos hk]
  have h1 := of_decide_eq_true (hk : decide _ = true)
  have h2 := easiest_lt
  have h3 : expT b + 1 < 2 ^ 256 := by
    have : easiestN + 1 < 2 ^ 256 := by decide
    omega
  have e1 : addW (tgt b) 1 = tgt b + 1 := Nat.mod_eq_of_lt (by rw [ht]; exact h3)
  have hw : workN b = 2 ^ 256 / (expT b + 1) := by rw [workN, if_pos hk]
  refine ⟨?_, by rw [elen, if_pos hk], ht, by rw [wlen, if_pos hk], by rw [hw, ht]⟩
  rw [e1, ht, hw]
  have e2 : subW 0 (expT b + 1) = 2 ^ 256 - (expT b + 1) := by
    unfold subW
    rw [Nat.zero_add]; exact Nat.mod_eq_of_lt (by omega)
  rw [e2]
  have e3 : (2 ^ 256 - (expT b + 1)) / (expT b + 1) + 1 = 2 ^ 256 / (expT b + 1) := by
    rw [← Nat.add_div_right _ (by omega)]; congr 1; omega
  have e4 : 2 ^ 256 / (expT b + 1) < 2 ^ 256 := Nat.div_lt_self (by decide) (by omega)
  rw [addW, e3, Nat.mod_eq_of_lt e4]
theorem work_no {b : Nat} (h : eerr b ≠ 0) : workN b = 0 ∧ wlen b = 0 ∧ tgt b = 0 := by
  have hk := expOK_not h
  simp [workN, wlen, tgt, hk]
theorem workN_lt (b : Nat) : workN b < 2 ^ 256 := by
  unfold workN
  split
  · rename_i hk
    have h1 := of_decide_eq_true (hk : decide _ = true)
    exact Nat.div_lt_self (by decide) (by omega)
  · decide
theorem tgt_len {b : Nat} (h : b < 4294967296) : tgt b < 65536 ^ elen b := by
  unfold tgt elen
  split
  · have := exp_len h
    rwa [show (((b / 16777216 : Nat) : Int) - 3).toNat = b / 16777216 - 3 by omega] at this
  · exact Nat.one_pos
theorem workN_len (b : Nat) : workN b < 65536 ^ wlen b := by
  unfold wlen
  have := workN_lt b
  split
  · exact Nat.lt_of_lt_of_le this (by decide)
  · rename_i h
    rw [workN, if_neg h]; exact Nat.one_pos
theorem elen_le {b : Nat} (h : b < 4294967296) : elen b ≤ 300 := by unfold elen; split <;> omega
/-! ### A number in four bytes -/
def bsz (a : Nat) : Nat := (blen a + 7) / 8
def topM (a : Nat) : Nat := if bsz a < 3 then a * 256 ^ (3 - bsz a) else a / 256 ^ (bsz a - 3)
def cmpt (a : Nat) : Nat := if 8388608 ≤ topM a then topM a / 256 + 16777216 * (bsz a + 1) else topM a + 16777216 * bsz a
theorem lt_bsz (a : Nat) : a < 256 ^ bsz a := by
  rw [pow256]
  exact Nat.lt_of_lt_of_le (blen_lt a) (Nat.pow_le_pow_right (by decide) (by unfold bsz; omega))
theorem bsz_le {a n : Nat} (h : a < 256 ^ n) : bsz a ≤ n := by
  rw [pow256] at h
  have := blen_le_of h
  unfold bsz; omega
theorem topM_lt (a : Nat) : topM a < 16777216 := by
  have h := lt_bsz a
  unfold topM
  split
  · rename_i hs
    have : a * 256 ^ (3 - bsz a) < 256 ^ bsz a * 256 ^ (3 - bsz a) := (Nat.mul_lt_mul_right (Nat.pow_pos (by decide))).2 h
    rw [← Nat.pow_add, show bsz a + (3 - bsz a) = 3 by omega] at this
    exact this
  · rename_i hs
    rw [Nat.div_lt_iff_lt_mul (Nat.pow_pos (by decide)), show (16777216 : Nat) = 256 ^ 3 from rfl, ← Nat.pow_add, show 3 + (bsz a - 3) = bsz a by omega]
    exact h
theorem top_lm {a : Nat} (ha : a < 2 ^ 256) : lm (rightW a (8 * (((((blen a + 7) / 8 : Nat)) : Int) - 3)).toNat) 0 = ((a / 256 ^ (bsz a - 3) : Nat) : Int) ∧ a / 256 ^ (bsz a - 3) < 16777216 := by
  have hl : a / 256 ^ (bsz a - 3) < 16777216 := by
    by_cases h : bsz a < 3
    · rw [show bsz a - 3 = 0 by omega]
      have h1 := lt_bsz a
      have h2 : 256 ^ bsz a ≤ 256 ^ 2 := Nat.pow_le_pow_right (by decide) (by omega)
      simp; omega
    · have := topM_lt a
      rwa [topM, if_neg h] at this
  refine ⟨?_, hl⟩
  have e : (8 * (((((blen a + 7) / 8 : Nat)) : Int) - 3)).toNat = 8 * (bsz a - 3) := by unfold bsz; omega
  rw [e, rightW, ← pow256]
  unfold lm
  have : (2 : Nat) ^ (64 * 0) = 1 := rfl
  rw [this, Nat.div_one, Nat.mod_eq_of_lt (by omega)]
theorem small_shl {a : Nat} (h : bsz a < 3) : shlI .u32 ((lm a 0 : Int)) (8 * (3 - ((((blen a + 7) / 8 : Nat)) : Int))) = ((a * 256 ^ (3 - bsz a) : Nat) : Int) ∧ lm a 0 ≤ 65535 := by
  have h1 := lt_bsz a
  have h2 : 256 ^ bsz a ≤ 256 ^ 2 := Nat.pow_le_pow_right (by decide) (by omega)
  have e0 : lm a 0 = (a : Int) := by
    unfold lm
    have : (2 : Nat) ^ (64 * 0) = 1 := rfl
    rw [this, Nat.div_one, Nat.mod_eq_of_lt (by omega)]
  refine ⟨?_, by rw [e0]; omega⟩
  have ht := topM_lt a
  rw [topM, if_pos h] at ht
  rw [e0]
  unfold shlI
  have e : (8 * (3 - ((((blen a + 7) / 8 : Nat)) : Int))).toNat = 8 * (3 - bsz a) := by unfold bsz; omega
  have e2 : min (8 * (3 - ((((blen a + 7) / 8 : Nat)) : Int))).toNat (IntKind.bits .u32) = 8 * (3 - bsz a) := by
    rw [e]; simp [IntKind.bits]; omega
  rw [e2]
  have e3 : (a : Int) * 2 ^ (8 * (3 - bsz a)) = ((a * 256 ^ (3 - bsz a) : Nat) : Int) := by rw [pow256]; simp
  rw [e3]
  generalize a * 256 ^ (3 - bsz a) = q at ht
  rw [wrap_in]
  simp only [IntKind.min, IntKind.max, IntKind.signed, IntKind.bits]
  constructor <;> simp <;> omega
theorem or_sum {m s : Nat} (hm : m < 16777216) (hs : s < 256) : bitsOf .or .u32 (m : Int) ((s * 16777216 : Nat) : Int) = ((m + s * 16777216 : Nat) : Int) := by
  have e : ∀ z : Nat, z < 2 ^ 32 → (BitVec.ofInt (IntKind.bits .u32) (z : Int)).toNat = z := fun z hz => by
    rw [BitVec.toNat_ofInt]
    have : (z : Int) % ((2 ^ IntKind.bits .u32 : Nat) : Int) = z := Int.emod_eq_of_lt (by omega) (by simp [IntKind.bits]; omega)
    rw [this]; simp
  simp only [bitsOf]
  rw [BitVec.toNat_or, e m (by omega), e _ (by omega)]
  have : m ||| s * 16777216 = m + s * 16777216 := by
    rw [Nat.or_comm, Nat.mul_comm, show (16777216 : Nat) = 2 ^ 24 from rfl, ← Nat.two_pow_add_eq_or_of_lt (by omega), Nat.add_comm]
  rw [this, wrap_in]
  simp only [IntKind.min, IntKind.max, IntKind.signed, IntKind.bits]
  constructor <;> simp <;> omega
end Go.Eng

namespace Go.Eng
/-! ### Bytes of a number, the highest first -/
def byt (m x i : Nat) : Int := ((x / 256 ^ (m - 1 - i) % 256 : Nat) : Int)
def bbv (m x : Nat) : List (List AV) := (List.range m).map fun i => [u8 (byt m x i)]
@[simp] theorem bbv_length (m x : Nat) : (bbv m x).length = m := by simp [bbv]
@[simp] theorem clean_bbv (m x : Nat) : Clean (bbv m x).flatten := (PL.map (f := fun i => [u8 (byt m x i)]) (fun _ => .pl .nil) _).clean
theorem bbv_at (m x : Nat) (i : Int) (h : 0 ≤ i ∧ i < m) : (bbv m x).getD i.toNat [u8 0] = [u8 (byt m x i.toNat)] := by
  rw [List.getD, show (bbv m x)[i.toNat]? = some [u8 (byt m x i.toNat)] by simp only [bbv, List.getElem?_map]; rw [List.getElem?_range (by omega)]; rfl]; rfl
theorem byt_rng (m x i : Nat) : 0 ≤ byt m x i ∧ byt m x i ≤ 255 := by
  have : x / 256 ^ (m - 1 - i) % 256 < 256 := Nat.mod_lt _ (by decide)
  unfold byt
  exact ⟨Int.natCast_nonneg _, by omega⟩
theorem bbv_snoc {m X : Nat} {b : Int} (h : 0 ≤ b ∧ b ≤ 255) : bbv m X ++ [[u8 b]] = bbv (m + 1) (256 * X + b.toNat) := by
  obtain ⟨B, rfl⟩ := Int.eq_ofNat_of_zero_le h.1
  simp only [bbv, List.range_succ, List.map_append, List.map_cons, List.map_nil, Int.toNat_natCast]
  congr 1
  · refine List.map_congr_left fun i hi => ?_
    have hi : i < m := by simpa using hi
    unfold byt
    have e : (256 : Nat) ^ (m + 1 - 1 - i) = 256 * 256 ^ (m - 1 - i) := by rw [← Nat.pow_succ']; congr 1; omega
    rw [e, ← Nat.div_div_eq_div_mul]
    congr 5; omega
  · unfold byt
    simp; omega
theorem bsz_zero : bsz 0 = 0 := rfl
theorem bsz_step {X b : Nat} (hb : b < 256) : bsz (256 * X + b) = if X = 0 ∧ b = 0 then 0 else bsz X + 1 := by
  split
  · rename_i h
    rw [h.1, h.2]; rfl
  · rename_i h
    unfold bsz
    by_cases hX : X = 0
    · subst hX
      have h1 : blen b ≤ 8 := blen_small hb
      have h2 : 0 < blen b := blen_pos (by omega)
      rw [blen_zero, show 256 * 0 + b = b by omega]; omega
    · have := blen_shift (d := X) (r := b) (k := 8) hX hb
      rw [show b + 2 ^ 8 * X = 256 * X + b by omega] at this
      omega
theorem bsz_pos {X : Nat} : 0 < bsz X ↔ X ≠ 0 := by
  constructor
  · intro h h0; subst h0; simp [bsz, blen] at h
  · intro h; have := blen_pos h; unfold bsz; omega
theorem two_bytes {x : Nat} {i : Int} (h0 : 0 ≤ i) : x / 65536 ^ (i - 1 + 1).toNat = 256 * (256 * (x / 65536 ^ (i + 1).toNat) + (dig x i.toNat / 256).toNat) + (dig x i.toNat % 256).toNat := by
  rw [show (i - 1 + 1).toNat = i.toNat by omega, show (i + 1).toNat = i.toNat + 1 by omega, div_digit]
  have := dig_lo x i.toNat
  omega
/-- The three highest bytes. -/
theorem top_bytes {x : Nat} : (3 ≤ bsz x → topM x = ((x / 256 ^ (bsz x - 1) % 256) * 256 + x / 256 ^ (bsz x - 2) % 256) * 256 + x / 256 ^ (bsz x - 3) % 256) ∧
    (bsz x = 2 → topM x = ((x / 256 ^ (bsz x - 1) % 256) * 256 + x / 256 ^ (bsz x - 2) % 256) * 256) ∧ (bsz x = 1 → topM x = ((x / 256 ^ (bsz x - 1) % 256) * 256) * 256) ∧ (bsz x = 0 → topM x = 0) := by
  have h := lt_bsz x
  refine ⟨fun h3 => ?_, fun h2 => ?_, fun h1 => ?_, fun h0 => ?_⟩
  · rw [topM, if_neg (by omega)]
    obtain ⟨k, hk⟩ : ∃ k, bsz x = k + 3 := ⟨bsz x - 3, by omega⟩
    rw [hk] at h ⊢
    simp only [Nat.add_sub_cancel, show k + 3 - 1 = k + 2 by omega, show k + 3 - 2 = k + 1 by omega]
    have e1 : x / 256 ^ (k + 1) = x / 256 ^ k / 256 := by rw [Nat.pow_succ, Nat.div_div_eq_div_mul]
    have e2 : x / 256 ^ (k + 2) = x / 256 ^ k / 256 / 256 := by rw [show k + 2 = k + 1 + 1 by omega, Nat.pow_succ, ← Nat.div_div_eq_div_mul, e1]
    have h3 : x / 256 ^ k < 16777216 := by
      rw [Nat.div_lt_iff_lt_mul (Nat.pow_pos (by decide)), show (16777216 : Nat) = 256 ^ 3 from rfl, ← Nat.pow_add, Nat.add_comm]; exact h
    rw [e1, e2]
    generalize x / 256 ^ k = y at h3
    omega
  · rw [topM, if_pos (by omega)]
    rw [h2] at h ⊢
    simp; omega
  · rw [topM, if_pos (by omega)]
    rw [h1] at h ⊢
    simp; omega
  · rw [topM, if_pos (by omega)]
    rw [h0] at h ⊢
    simp at h ⊢; omega
theorem lt16 {a : Nat} (h : a < 2 ^ 256) : a < 65536 ^ 16 := h
end Go.Eng

namespace Go.Eng
/-! ### A target in four bytes, and back -/
/-- The last byte: how many bytes, one more where the first would look like a sign. -/
def szC (a : Nat) : Nat := if 8388608 ≤ topM a then bsz a + 1 else bsz a
def manC (a : Nat) : Nat := if 8388608 ≤ topM a then topM a / 256 else topM a
theorem cmpt_eq (a : Nat) : cmpt a = manC a + 16777216 * szC a := by unfold cmpt manC szC; split <;> rfl
theorem manC_lt (a : Nat) : manC a < 8388608 := by
  have := topM_lt a
  unfold manC; split <;> omega
theorem bsz_256 {a : Nat} (h : a < 2 ^ 256) : bsz a ≤ 32 := by
  have := blen_le_of h
  unfold bsz; omega
theorem cmpt_lt {a : Nat} (h : a < 2 ^ 256) : cmpt a < 4294967296 := by
  have h1 := bsz_256 h
  have h2 := manC_lt a
  have h3 : szC a ≤ 33 := by unfold szC; split <;> omega
  rw [cmpt_eq]; omega
theorem cmpt_parts {a : Nat} : cmpt a / 16777216 = szC a ∧ cmpt a % 8388608 = manC a ∧ cmpt a / 8388608 % 2 = 0 := by
  have h2 := manC_lt a
  rw [cmpt_eq]; omega
/-- The first three bytes, where they are moved to. -/
theorem manC_eq (a : Nat) : manC a = if szC a ≤ 3 then a * 256 ^ (3 - szC a) else a / 256 ^ (szC a - 3) := by
  unfold manC szC
  by_cases ht : 8388608 ≤ topM a
  · rw [if_pos ht, if_pos ht]
    by_cases hs : bsz a < 3
    · rw [if_pos (by omega), topM, if_pos hs, show 3 - bsz a = (3 - (bsz a + 1)) + 1 by omega, Nat.pow_succ, ← Nat.mul_assoc, Nat.mul_div_cancel _ (by decide)]
    · rw [if_neg (by omega), topM, if_neg hs, Nat.div_div_eq_div_mul, ← Nat.pow_succ, show (bsz a - 3).succ = bsz a + 1 - 3 by omega]
  · rw [if_neg ht, if_neg ht]
    by_cases hs : bsz a < 3
    · rw [if_pos (by omega), topM, if_pos hs]
    · by_cases h3 : bsz a = 3
      · rw [if_pos (by omega), topM, if_neg hs, h3]; simp
      · rw [if_neg (by omega), topM, if_neg hs]
/-- What four bytes keep of a number. -/
def keep (a : Nat) : Nat := if szC a ≤ 3 then a else a / 256 ^ (szC a - 3) * 256 ^ (szC a - 3)
theorem expT_cmpt (a : Nat) : expT (cmpt a) = keep a := by
  obtain ⟨h1, h2, h3⟩ := cmpt_parts (a := a)
  unfold expT keep
  rw [h1, h2, manC_eq]
  by_cases h : szC a ≤ 3
  · rw [if_pos h, if_pos h, if_pos h, Nat.mul_div_cancel _ (Nat.pow_pos (by decide))]
  · rw [if_neg h, if_neg h, if_neg h]
theorem keep_le (a : Nat) : keep a ≤ a := by
  unfold keep; split
  · exact Nat.le_refl _
  · exact Nat.div_mul_le_self _ _
theorem szC_rng {a : Nat} (h : 3 < szC a) : 8 * (szC a - 3) + 15 ≤ blen a := by
  have hb : 3 ≤ bsz a := by unfold szC at h; split at h <;> omega
  have ht : topM a = a / 256 ^ (bsz a - 3) := by rw [topM, if_neg (by omega)]
  have hbz : bsz a = (blen a + 7) / 8 := rfl
  unfold szC at h ⊢
  split
  · rename_i hm
    have h0 : a / 2 ^ (8 * (bsz a - 3)) ≠ 0 := by rw [← pow256, ← ht]; omega
    have e := blen_shift (d := a / 2 ^ (8 * (bsz a - 3))) (r := a % 2 ^ (8 * (bsz a - 3))) (k := 8 * (bsz a - 3)) h0 (Nat.mod_lt _ (Nat.two_pow_pos _))
    rw [Nat.mod_add_div] at e
    rw [← pow256, ← ht] at e
    have h24 : 24 ≤ blen (topM a) := by
      rcases Nat.lt_or_ge (blen (topM a)) 24 with hl | hl
      · have := blen_lt (topM a)
        have h2 : (2 : Nat) ^ blen (topM a) ≤ 2 ^ 23 := Nat.pow_le_pow_right (by decide) (by omega)
        omega
      · exact hl
    omega
  · omega
theorem blen_keep {a : Nat} (h : 3 < szC a) : blen (keep a) = blen a ∧ keep a ≠ 0 ∧ a - keep a < 2 ^ (8 * (szC a - 3)) := by
  have h1 := szC_rng h
  have hk : keep a = a / 2 ^ (8 * (szC a - 3)) * 2 ^ (8 * (szC a - 3)) := by rw [keep, if_neg (by omega), pow256]
  have h0 : a / 2 ^ (8 * (szC a - 3)) ≠ 0 := by
    intro h0
    have : a < 2 ^ (8 * (szC a - 3)) := by
      rcases Nat.lt_or_ge a (2 ^ (8 * (szC a - 3))) with hl | hl
      · exact hl
      · have := Nat.div_pos hl (Nat.two_pow_pos _)
        omega
    have := blen_le_of this
    omega
  have e := blen_shift (d := a / 2 ^ (8 * (szC a - 3))) (r := a % 2 ^ (8 * (szC a - 3))) (k := 8 * (szC a - 3)) h0 (Nat.mod_lt _ (Nat.two_pow_pos _))
  rw [Nat.mod_add_div] at e
  have e2 := blen_mul_pow (k := 8 * (szC a - 3)) h0
  refine ⟨by rw [hk]; omega, ?_, ?_⟩
  · rw [hk]; exact Nat.mul_ne_zero h0 (Nat.ne_of_gt (Nat.two_pow_pos _))
  · have := Nat.mod_lt a (Nat.two_pow_pos (8 * (szC a - 3)))
    have := Nat.div_add_mod a (2 ^ (8 * (szC a - 3)))
    rw [hk, Nat.mul_comm]; omega
theorem keep_small {a : Nat} (h : szC a ≤ 3) : keep a = a := by rw [keep, if_pos h]
theorem keep_ne {a : Nat} (h : a ≠ 0) : keep a ≠ 0 := by
  by_cases h3 : szC a ≤ 3
  · rwa [keep_small h3]
  · exact (blen_keep (by omega)).2.1
/-- A number that is no greater than the greatest target, in four bytes and back. -/
theorem back_any {a : Nat} (h0 : a ≠ 0) (h1 : a ≤ easiestN) : eerr (cmpt a) = 0 ∧ tgt (cmpt a) = keep a := by
  obtain ⟨p1, p2, p3⟩ := cmpt_parts (a := a)
  have := exp_good (b := cmpt a) ⟨p3, by rw [expT_cmpt]; exact keep_ne h0, by rw [expT_cmpt]; exact Nat.le_trans (keep_le a) h1⟩
  rw [expT_cmpt] at this
  exact ⟨this.2.2, this.1⟩
theorem keep_bits (a : Nat) : blen (keep a) = blen a ∧ ((blen (a - keep a) : Nat) : Int) ≤ max 0 (((blen a : Nat) : Int) - 15) := by
  by_cases h3 : szC a ≤ 3
  · rw [keep_small h3, Nat.sub_self, blen_zero]
    exact ⟨rfl, Int.le_max_left _ _⟩
  · have h := blen_keep (a := a) (by omega)
    have h1 := szC_rng (a := a) (by omega)
    have h2 := blen_le_of h.2.2
    refine ⟨h.1, Int.le_trans ?_ (Int.le_max_right _ _)⟩
    omega
/-- What is lost of any number that is no greater than the greatest target. -/
theorem back_lost {a : Nat} (h0 : a ≠ 0) (h1 : a ≤ easiestN) : eerr (cmpt a) = 0 ∧ ¬ a < tgt (cmpt a) ∧ blen (tgt (cmpt a)) = blen a ∧ ((blen (subW a (tgt (cmpt a))) : Nat) : Int) ≤ max 0 (((blen a : Nat) : Int) - 15) := by
  obtain ⟨e1, e2⟩ := back_any h0 h1
  have h2 := keep_le a
  have h3 := keep_bits a
  have h4 := easiest_lt
  rw [e1, e2]
  refine ⟨rfl, by omega, h3.1, ?_⟩
  have : subW a (keep a) = a - keep a := by
    unfold subW
    rw [show a + 2 ^ 256 - keep a = (a - keep a) + 2 ^ 256 by omega, Nat.add_mod_right]
    exact Nat.mod_eq_of_lt (by omega)
  rw [this]; exact h3.2
/-- A target is kept whole. -/
theorem back_same {b : Nat} (h : eerr b = 0) : tgt (cmpt (tgt b)) = tgt b ∧ eerr (cmpt (tgt b)) = 0 := by
  have hk := expOK_of h
  have hp := of_decide_eq_true (hk : decide _ = true)
  have ht : tgt b = expT b := by rw [tgt, if_pos hk]
  rw [ht]
  obtain ⟨e1, e2⟩ := back_any hp.2.1 hp.2.2
  refine ⟨?_, e1⟩
  rw [e2]
  have hm := m23_lt b
  unfold keep
  split
  · rfl
  · rename_i hs
    have hb3 : 3 ≤ bsz (expT b) := by unfold szC at hs; split at hs <;> omega
    by_cases he : b / 16777216 ≤ 3
    · exfalso
      have hlt : expT b < 8388608 := by
        rw [expT, if_pos he]; exact Nat.lt_of_le_of_lt (Nat.div_le_self _ _) hm
      have h3 := bsz_le (a := expT b) (n := 3) (by omega)
      have h4 : bsz (expT b) = 3 := by omega
      have : topM (expT b) = expT b := by rw [topM, if_neg (by omega), h4]; simp
      unfold szC at hs
      rw [if_neg (by omega)] at hs
      omega
    · have hx : expT b = b % 8388608 * 256 ^ (b / 16777216 - 3) := by rw [expT, if_neg he]
      have hle : szC (expT b) ≤ b / 16777216 := by
        have hlt : expT b < 256 ^ (b / 16777216) := by
          obtain ⟨j, hj⟩ : ∃ j, b / 16777216 = 3 + j := ⟨b / 16777216 - 3, by omega⟩
          rw [hx, hj, Nat.pow_add, Nat.add_sub_cancel_left]
          exact (Nat.mul_lt_mul_right (Nat.pow_pos (by decide))).2 (by omega)
        have h5 := bsz_le hlt
        unfold szC
        split
        · rename_i hm8
          rcases Nat.lt_or_ge (bsz (expT b)) (b / 16777216) with h6 | h6
          · omega
          · exfalso
            have h7 : bsz (expT b) = b / 16777216 := by omega
            have : topM (expT b) = b % 8388608 := by
              rw [topM, if_neg (by omega), h7, hx, Nat.mul_div_cancel _ (Nat.pow_pos (by decide))]
            omega
        · exact h5
      have hd : ∀ z, z ≤ b / 16777216 → 256 ^ (z - 3) ∣ expT b := fun z hz => by
        rw [hx]
        exact Nat.dvd_trans (Nat.pow_dvd_pow 256 (by omega)) (Nat.dvd_mul_left _ _)
      exact Nat.div_mul_cancel (hd _ hle)
theorem easiest_tgt : tgt 545259519 = easiestN := by decide +kernel
end Go.Eng

namespace Go.Eng
/-! ### A product of two words -/
theorem m64_rng {a b : Int} (ha : 0 ≤ a ∧ a ≤ 4294967295) (hb : 0 ≤ b ∧ b ≤ 4294967295) : 0 ≤ a * b ∧ a * b ≤ 18446744065119617025 := by
  refine ⟨Int.mul_nonneg ha.1 hb.1, ?_⟩
  have := Int.mul_le_mul ha.2 hb.2 hb.1 (by omega)
  omega
theorem m64_eq (x y : Int) : x * y = 18446744073709551616 * (x / 4294967296 * (y / 4294967296)) + 4294967296 * (x / 4294967296 * (y % 4294967296)) + 4294967296 * (x % 4294967296 * (y / 4294967296)) + x % 4294967296 * (y % 4294967296) := by
  have h1 : x = 4294967296 * (x / 4294967296) + x % 4294967296 := by omega
  have h2 : y = 4294967296 * (y / 4294967296) + y % 4294967296 := by omega
  generalize x / 4294967296 = x1 at *
  generalize x % 4294967296 = x0 at *
  generalize y / 4294967296 = y1 at *
  generalize y % 4294967296 = y0 at *
  subst h1; subst h2
  simp only [Int.add_mul, Int.mul_add, Int.mul_assoc, Int.mul_left_comm x1 4294967296, Int.mul_left_comm x0 4294967296]
  omega
theorem tu2 {a b c d : Int} (h1 : a = c) (h2 : b = d) : AV.tu [u64 a, u64 b] = AV.tu [u64 c, u64 d] := by rw [h1, h2]
theorem wrap64 (x : Int) : IntKind.wrap .u64 x = x % 18446744073709551616 := by simp [IntKind.wrap, IntKind.signed, IntKind.bits]
/-! ### A product of two numbers of 256 bits, word by word -/
def mP (a b i : Nat) : Nat := a % 2 ^ (64 * i) * b
def mT (a b i j : Nat) : Nat := a % 2 ^ (64 * i) * b + a / 2 ^ (64 * i) % 2 ^ 64 * (b % 2 ^ (64 * j)) * 2 ^ (64 * i)
/-- What is carried behind j words of the row i. -/
def mc (a b i j : Nat) : Int := ((mT a b i j / 2 ^ (64 * (i + j)) : Nat) : Int) - ((mP a b i / 2 ^ (64 * (i + j)) : Nat) : Int)
theorem mT_zero (a b i : Nat) : mT a b i 0 = mP a b i := by simp [mT, mP, Nat.mod_one]
theorem mc_zero (a b i : Nat) : mc a b i 0 = 0 := by simp [mc, mT_zero]
theorem mP_zero (a b : Nat) : mP a b 0 = 0 := by simp [mP, Nat.mod_one]
theorem mod_step (n k : Nat) : n % 2 ^ (64 * (k + 1)) = n % 2 ^ (64 * k) + 2 ^ (64 * k) * (n / 2 ^ (64 * k) % 2 ^ 64) := by rw [pow_succ64, Nat.mod_mul]
theorem mT_succ (a b i j : Nat) : mT a b i (j + 1) = mT a b i j + a / 2 ^ (64 * i) % 2 ^ 64 * (b / 2 ^ (64 * j) % 2 ^ 64) * 2 ^ (64 * (i + j)) := by
  unfold mT
  rw [mod_step b j, Nat.mul_add (a / 2 ^ (64 * i) % 2 ^ 64), Nat.add_mul, ← Nat.add_assoc, Nat.mul_add 64 i j, Nat.pow_add]
  congr 1
  simp only [Nat.mul_assoc]
  congr 1
  rw [Nat.mul_comm, Nat.mul_assoc, Nat.mul_comm (2 ^ (64 * i))]
theorem mP_succ {a b : Nat} (i : Nat) (hb : b < 2 ^ 256) : mP a b (i + 1) = mT a b i 4 := by
  unfold mP mT
  rw [mod_step a i, Nat.mod_eq_of_lt (a := b) (b := 2 ^ (64 * 4)) hb, Nat.add_mul]
  congr 1
  rw [Nat.mul_comm (2 ^ (64 * i)), Nat.mul_assoc, Nat.mul_assoc, Nat.mul_comm (2 ^ (64 * i)) b]
theorem mP_all {a : Nat} (b : Nat) (ha : a < 2 ^ 256) : mP a b 4 = a * b := by
  unfold mP; rw [Nat.mod_eq_of_lt ha]
theorem mP_lt {a b : Nat} (i : Nat) (hb : b < 2 ^ 256) : mP a b i < 2 ^ (64 * (i + 4)) := by
  unfold mP
  rw [Nat.mul_add, Nat.pow_add]
  have h1 := Nat.mod_lt a (Nat.two_pow_pos (64 * i))
  exact Nat.mul_lt_mul'' h1 hb
/-- A word that lies below the place is not touched any more. -/
theorem lm_add_high (n m k q : Nat) (h : k < q) : lm (n + m * 2 ^ (64 * q)) k = lm n k := by
  unfold lm
  have : (2 : Nat) ^ (64 * q) = 2 ^ (64 * k) * (2 ^ 64 * 2 ^ (64 * (q - k - 1))) := by rw [← Nat.pow_add, ← Nat.pow_add]; congr 1; omega
  rw [this, show n + m * (2 ^ (64 * k) * (2 ^ 64 * 2 ^ (64 * (q - k - 1)))) = n + 2 ^ (64 * k) * (2 ^ 64 * (2 ^ (64 * (q - k - 1)) * m)) by rw [Nat.mul_comm m, Nat.mul_assoc, Nat.mul_assoc],
    Nat.add_mul_div_left _ _ (Nat.two_pow_pos _), Nat.add_mul_mod_self_left]
theorem mT_low (a b i j : Nat) : ∀ k d, k < i + j → lm (mT a b i (j + d)) k = lm (mT a b i j) k := by
  intro k d hk
  induction d with
  | zero => rfl
  | succ d ih =>
    rw [← Nat.add_assoc, mT_succ, lm_add_high _ _ _ _ (by omega), ih]
theorem mP_low {a b i j : Nat} (hb : b < 2 ^ 256) (hj : j < 4) : lm (mP a b (i + 1)) (i + j) = lm (mT a b i (j + 1)) (i + j) := by
  rw [mP_succ i hb, show (4 : Nat) = (j + 1) + (3 - j) by omega, mT_low _ _ _ _ _ _ (by omega)]
/-- The words that are done. -/
theorem mP_done {a b : Nat} (k d : Nat) (hb : b < 2 ^ 256) : lm (mP a b (k + 1 + d)) k = lm (mP a b (k + 1)) k := by
  induction d with
  | zero => rfl
  | succ d ih =>
    rw [← Nat.add_assoc, mP_succ _ hb, show (4 : Nat) = 0 + 4 from rfl, mT_low _ _ _ _ _ _ (by omega), mT_zero, ih]
/-- One step: what is stored, and what is carried on. -/
theorem mulw_step {a b i j : Nat} (hb : b < 2 ^ 256) (hj : j < 4) : ((lm (mP a b i) (i + j) + lm a i * lm b j % 18446744073709551616) % 18446744073709551616 + mc a b i j) % 18446744073709551616 = lm (mP a b (i + 1)) (i + j) ∧
    lm a i * lm b j / 18446744073709551616 + (lm (mP a b i) (i + j) + lm a i * lm b j % 18446744073709551616) / 18446744073709551616 + ((lm (mP a b i) (i + j) + lm a i * lm b j % 18446744073709551616) % 18446744073709551616 + mc a b i j) / 18446744073709551616 = mc a b i (j + 1) ∧
    0 ≤ mc a b i j ∧ mc a b i j ≤ 18446744073709551615 := by
  have hM : 0 < 2 ^ (64 * (i + j)) := Nat.two_pow_pos _
  have e1 := mT_succ a b i j
  have hle : ∀ j, mP a b i ≤ mT a b i j := fun j => Nat.le_add_right _ _
  have hdle : mP a b i / 2 ^ (64 * (i + j)) ≤ mT a b i j / 2 ^ (64 * (i + j)) := Nat.div_le_div_right (hle j)
  -- the carry is less than a word
  have hc : mT a b i j / 2 ^ (64 * (i + j)) - mP a b i / 2 ^ (64 * (i + j)) < 2 ^ 64 := by
    have h1 : mT a b i j < mP a b i + 2 ^ 64 * 2 ^ (64 * (i + j)) - 2 ^ (64 * (i + j)) + 1 ∨ True := .inr trivial
    have hx : a / 2 ^ (64 * i) % 2 ^ 64 ≤ 2 ^ 64 - 1 := by have := Nat.mod_lt (a / 2 ^ (64 * i)) (show 0 < 2 ^ 64 by decide); omega
    have hy : b % 2 ^ (64 * j) < 2 ^ (64 * j) := Nat.mod_lt _ (Nat.two_pow_pos _)
    have h2 : mT a b i j ≤ mP a b i + (2 ^ 64 - 1) * 2 ^ (64 * (i + j)) := by
      unfold mT mP
      refine Nat.add_le_add_left ?_ _
      rw [Nat.mul_add 64 i j, Nat.pow_add, Nat.mul_comm (2 ^ (64 * i)), ← Nat.mul_assoc]
      exact Nat.mul_le_mul_right _ (Nat.mul_le_mul hx (Nat.le_of_lt hy))
    have h3 : mT a b i j / 2 ^ (64 * (i + j)) ≤ (mP a b i + (2 ^ 64 - 1) * 2 ^ (64 * (i + j))) / 2 ^ (64 * (i + j)) := Nat.div_le_div_right h2
    rw [Nat.add_mul_div_right _ _ hM] at h3
    omega
  have e2 : mT a b i (j + 1) / 2 ^ (64 * (i + j)) = mT a b i j / 2 ^ (64 * (i + j)) + a / 2 ^ (64 * i) % 2 ^ 64 * (b / 2 ^ (64 * j) % 2 ^ 64) := by
    rw [e1, Nat.add_mul_div_right _ _ hM]
  have e3 : mT a b i (j + 1) / 2 ^ (64 * (i + (j + 1))) = mT a b i (j + 1) / 2 ^ (64 * (i + j)) / 2 ^ 64 := by
    rw [Nat.div_div_eq_div_mul, ← pow_succ64, Nat.add_assoc]
  have e4 : mP a b i / 2 ^ (64 * (i + (j + 1))) = mP a b i / 2 ^ (64 * (i + j)) / 2 ^ 64 := by
    rw [Nat.div_div_eq_div_mul, ← pow_succ64, Nat.add_assoc]
  rw [mP_low hb hj]
  unfold mc
  rw [e3, e4]
  have el : lm (mT a b i (j + 1)) (i + j) = ((mT a b i (j + 1) / 2 ^ (64 * (i + j)) % 2 ^ 64 : Nat) : Int) := rfl
  have ep : lm (mP a b i) (i + j) = ((mP a b i / 2 ^ (64 * (i + j)) % 2 ^ 64 : Nat) : Int) := rfl
  have ex : lm a i * lm b j = ((a / 2 ^ (64 * i) % 2 ^ 64 * (b / 2 ^ (64 * j) % 2 ^ 64) : Nat) : Int) := by simp [lm]
  rw [el, ep, ex, e2]
  generalize mT a b i j / 2 ^ (64 * (i + j)) = t at *
  generalize mP a b i / 2 ^ (64 * (i + j)) = p at *
  generalize a / 2 ^ (64 * i) % 2 ^ 64 * (b / 2 ^ (64 * j) % 2 ^ 64) = q at *
  refine ⟨?_, ?_, ?_, ?_⟩ <;> omega
theorem lmm_rng (a b i j : Nat) : 0 ≤ lm a i * lm b j ∧ lm a i * lm b j ≤ 340282366920938463426481119284349108225 := by
  refine ⟨Int.mul_nonneg (lm_lo _ _) (lm_lo _ _), ?_⟩
  have := Int.mul_le_mul (lm_rng a i).2 (lm_rng b j).2 (lm_lo _ _) (by omega)
  omega
theorem lmz (a b k : Nat) : (0 : Int) = lm (mP a b 0) k := by rw [mP_zero]; simp [lm]
theorem mulw {a b i j k i1 j1 : Nat} {p c : Int} (hb : b < 2 ^ 256) (hj : j < 4) (hk : k = i + j) (hi : i1 = i + 1) (hj1 : j1 = j + 1) (hp : p = lm (mP a b i) k) (hc : c = mc a b i j) :
    ((p + lm a i * lm b j % 18446744073709551616) % 18446744073709551616 + c) % 18446744073709551616 = lm (mP a b i1) k ∧
    lm a i * lm b j / 18446744073709551616 + (p + lm a i * lm b j % 18446744073709551616) / 18446744073709551616 + ((p + lm a i * lm b j % 18446744073709551616) % 18446744073709551616 + c) / 18446744073709551616 = mc a b i j1 ∧
    0 ≤ c ∧ c ≤ 18446744073709551615 := by
  subst hk; subst hi; subst hj1; subst hp; subst hc
  exact mulw_step hb hj
theorem mc_rng {a b i j : Nat} (hb : b < 2 ^ 256) (hj : j < 4) : 0 ≤ mc a b i j ∧ mc a b i j ≤ 18446744073709551615 := (mulw_step hb hj).2.2
theorem mc_four {a b : Nat} (i : Nat) (hb : b < 2 ^ 256) : mc a b i 4 = lm (mP a b (i + 1)) (i + 4) := by
  have h1 := mP_lt (a := a) i hb
  have h2 := mP_lt (a := a) (i + 1) hb
  have h3 : mP a b (i + 1) / 2 ^ (64 * (i + 4)) < 2 ^ 64 := by
    rw [Nat.div_lt_iff_lt_mul (Nat.two_pow_pos _), ← Nat.pow_add]
    rwa [show 64 + 64 * (i + 4) = 64 * (i + 1 + 4) by omega]
  unfold mc
  rw [Nat.div_eq_of_lt h1, ← mP_succ i hb]
  unfold lm
  rw [Nat.mod_eq_of_lt h3]; simp
theorem mc_last {a b : Nat} (i : Nat) (hb : b < 2 ^ 256) {i1 k : Nat} (h1 : i1 = i + 1) (h2 : k = i + 4) : mc a b i 4 = lm (mP a b i1) k := by subst h1; subst h2; exact mc_four i hb
theorem lm_high (n k : Nat) : lm (n / 2 ^ 256) k = lm n (k + 4) := by
  unfold lm
  rw [Nat.div_div_eq_div_mul, ← Nat.pow_add]
  rw [show 256 + 64 * k = 64 * (k + 4) by omega]
def mulLo (a b : Nat) : Nat := a * b % 2 ^ 256
def mulHi (a b : Nat) : Nat := a * b / 2 ^ 256
theorem mulLo_lt (a b : Nat) : mulLo a b < 2 ^ 256 := Nat.mod_lt _ (by decide)
theorem mulHi_lt {a b : Nat} (ha : a < 2 ^ 256) (hb : b < 2 ^ 256) : mulHi a b < 2 ^ 256 := by
  unfold mulHi
  rw [Nat.div_lt_iff_lt_mul (by decide)]
  exact Nat.mul_lt_mul'' ha hb
theorem mul_lo {a b : Nat} (ha : a < 2 ^ 256) (hb : b < 2 ^ 256) (k : Nat) (hk : k < 4) : lm (mP a b (k + 1)) k = lm (mulLo a b) k := by
  rw [mulLo, lm_mod _ _ hk, ← mP_all b ha, ← mP_done (a := a) k (3 - k) hb, show k + 1 + (3 - k) = 4 by omega]
theorem mul_hi {a : Nat} (b : Nat) (ha : a < 2 ^ 256) (k : Nat) : lm (mP a b 4) (k + 4) = lm (mulHi a b) k := by
  rw [mulHi, lm_high, mP_all b ha]
theorem mul_out {a b : Nat} (ha : a < 2 ^ 256) (hb : b < 2 ^ 256) : AV.tu [.ag [.ar 4 [u64 (lm (mP a b 1) 0), u64 (lm (mP a b 2) 1), u64 (lm (mP a b 3) 2), u64 (lm (mP a b 4) 3)]], .ag [.ar 4 [u64 (lm (mP a b 4) 4), u64 (lm (mP a b 4) 5), u64 (lm (mP a b 4) 6), u64 (lm (mP a b 4) 7)]]] = .tu [.ag [wP (mulLo a b)], .ag [wP (mulHi a b)]] := by
  rw [wP_eq (mul_lo ha hb 0 (by decide)) (mul_lo ha hb 1 (by decide)) (mul_lo ha hb 2 (by decide)) (mul_lo ha hb 3 (by decide)), wP_eq (mul_hi b ha 0) (mul_hi b ha 1) (mul_hi b ha 2) (mul_hi b ha 3)]
end Go.Eng

namespace Go.Eng
/-! ### How hard the next one must be -/
def spanN (f l : Nat) : Nat := (max 1050 (min ((l : Int) - f) 16800)).toNat
theorem spanN_eq (f l : Nat) : ((spanN f l : Nat) : Int) = max 1050 (min ((l : Int) - f) 16800) := by unfold spanN; omega
theorem spanN_rng (f l : Nat) : 1050 ≤ spanN f l ∧ spanN f l ≤ 16800 := by have := spanN_eq f l; omega
def nextT (b f l : Nat) : Nat := tgt b * spanN f l / 4200
def restN (b f l : Nat) : Nat := tgt b % 4200 * spanN f l / 4200
def nextN (b f l : Nat) : Nat := if eerr b = 0 then (if easiestN < nextT b f l then 545259519 else cmpt (nextT b f l)) else 545259519
theorem cmpt_easiest : cmpt easiestN = 545259519 := by decide +kernel
theorem next_sum (b f l : Nat) : nextT b f l = tgt b / 4200 * spanN f l + restN b f l := by
  unfold nextT restN
  have h : tgt b * spanN f l = tgt b % 4200 * spanN f l + 4200 * (tgt b / 4200 * spanN f l) := by
    conv => lhs; rw [← Nat.mod_add_div (tgt b) 4200]
    rw [Nat.add_mul, Nat.mul_assoc]
  rw [h, Nat.add_mul_div_left _ _ (by decide), Nat.add_comm]
theorem next_more {b f l : Nat} (h : 2 ^ 256 ≤ mulLo (tgt b / 4200) (spanN f l) + restN b f l) : easiestN < nextT b f l := by
  have h1 : mulLo (tgt b / 4200) (spanN f l) ≤ tgt b / 4200 * spanN f l := Nat.mod_le _ _
  have := easiest_lt
  rw [next_sum]; omega
theorem next_high {b f l : Nat} (h : mulHi (tgt b / 4200) (spanN f l) ≠ 0) : easiestN < nextT b f l := by
  have := easiest_lt
  rw [next_sum]
  unfold mulHi at h
  omega
theorem next_low {b f l : Nat} (h : mulHi (tgt b / 4200) (spanN f l) = 0) (h2 : ¬ 2 ^ 256 ≤ mulLo (tgt b / 4200) (spanN f l) + restN b f l) : addW (mulLo (tgt b / 4200) (spanN f l)) (restN b f l) = nextT b f l := by
  have h1 : mulLo (tgt b / 4200) (spanN f l) = tgt b / 4200 * spanN f l := by
    unfold mulLo mulHi at *
    exact Nat.mod_eq_of_lt (by omega)
  rw [next_sum, ← h1]
  exact Nat.mod_eq_of_lt (by omega)
theorem next_len {b f l n : Nat} (h : tgt b < 65536 ^ n) : tgt b * spanN f l < 65536 ^ (n + 1) ∧ nextT b f l < 65536 ^ (n + 1) := by
  have h2 := (spanN_rng f l).2
  have h3 : tgt b * spanN f l < 65536 ^ n * 65536 := Nat.mul_lt_mul'' h (by omega)
  rw [← Nat.pow_succ] at h3
  exact ⟨h3, Nat.lt_of_le_of_lt (Nat.div_le_self _ _) h3⟩
theorem elen_small (b : Nat) : elen b ≤ 40 := by
  unfold elen
  split
  · rename_i hk
    have hp := of_decide_eq_true (hk : decide _ = true)
    by_cases h3 : b / 16777216 ≤ 3
    · omega
    · have hx : expT b = b % 8388608 * 256 ^ (b / 16777216 - 3) := by rw [expT, if_neg h3]
      have h0 : b % 8388608 ≠ 0 := fun h0 => hp.2.1 (by rw [hx, h0, Nat.zero_mul])
      rcases Nat.lt_or_ge (b / 16777216 - 3) 33 with h | h
      · omega
      · exfalso
        have h4 : 256 ^ 33 ≤ 256 ^ (b / 16777216 - 3) := Nat.pow_le_pow_right (by decide) h
        have h5 : 1 * 256 ^ (b / 16777216 - 3) ≤ expT b := by rw [hx]; exact Nat.mul_le_mul_right _ (by omega)
        have h6 := easiest_lt
        have h7 := hp.2.2
        omega
  · omega
theorem lm_low {a : Nat} (h : a < 18446744073709551616) : lm a 0 = (a : Int) := by
  unfold lm
  rw [Nat.mul_zero, Nat.pow_zero, Nat.div_one, Nat.mod_eq_of_lt h]
theorem restN_lt (b f l : Nat) : restN b f l ≤ 16800 := by
  have h1 : tgt b % 4200 ≤ 4200 := Nat.le_of_lt (Nat.mod_lt _ (by decide))
  have h2 := (spanN_rng f l).2
  have h3 : tgt b % 4200 * spanN f l ≤ 4200 * 16800 := Nat.mul_le_mul h1 h2
  unfold restN; omega
theorem rest_prod (b f l : Nat) : 0 ≤ ((tgt b % 4200 : Nat) : Int) * ((spanN f l : Nat) : Int) ∧ ((tgt b % 4200 : Nat) : Int) * ((spanN f l : Nat) : Int) ≤ 70560000 := by
  have h1 : tgt b % 4200 ≤ 4200 := Nat.le_of_lt (Nat.mod_lt _ (by decide))
  have h2 := (spanN_rng f l).2
  have h3 : tgt b % 4200 * spanN f l ≤ 4200 * 16800 := Nat.mul_le_mul h1 h2
  rw [← Int.natCast_mul]
  omega
theorem rest_eq (b f l : Nat) : ((tgt b % 4200 : Nat) : Int) * ((spanN f l : Nat) : Int) / 4200 = ((restN b f l : Nat) : Int) := by
  unfold restN; rw [← Int.natCast_mul]; omega
theorem dgv1N {m : Nat} (h : m < 65536) : [[u64 ((m : Nat) : Int)]] = dgv 1 m := by
  have : dgv 1 m = [[u64 (dig m 0)]] := rfl
  rw [this]
  unfold dig
  rw [Nat.pow_zero, Nat.div_one, Nat.mod_eq_of_lt h]
theorem nextN_no {b f l : Nat} (h : eerr b ≠ 0) : nextN b f l = 545259519 := by rw [nextN, if_neg h]
theorem nextN_big {b f l : Nat} (h : easiestN < nextT b f l) : nextN b f l = 545259519 := by
  rw [nextN]
  by_cases he : eerr b = 0
  · rw [if_pos he, if_pos h]
  · rw [if_neg he]
theorem nextN_yes {b f l : Nat} (h : eerr b = 0) (h2 : ¬ easiestN < nextT b f l) : nextN b f l = cmpt (nextT b f l) := by rw [nextN, if_pos h, if_neg h2]
theorem nextN_lt (b f l : Nat) : nextN b f l < 4294967296 := by
  unfold nextN
  split
  · split
    · decide
    · exact cmpt_lt (Nat.lt_of_le_of_lt (by omega) easiest_lt)
  · decide
end Go.Eng

namespace Go.Eng
/-! ### The less target is more work; the next is not far -/
theorem work_mono {a b : Nat} (ha : eerr a = 0) (hb : eerr b = 0) (h : tgt a < tgt b) : ¬ workN a < workN b := by
  rw [(work_ok ha).2.2.2.2, (work_ok hb).2.2.2.2]
  have := Nat.div_le_div_left (a := 2 ^ 256) (show tgt a + 1 ≤ tgt b + 1 by omega) (by omega)
  omega
theorem blen_mono {a b : Nat} (h : a ≤ b) : blen a ≤ blen b := blen_le_of (Nat.lt_of_le_of_lt h (blen_lt b))
theorem blen_four (s : Nat) : blen (4 * s) ≤ blen s + 2 := by
  refine blen_le_of ?_
  have := blen_lt s
  rw [Nat.pow_add]; omega
theorem blen_quarter (s : Nat) : blen s ≤ blen (s / 4) + 2 := by
  refine blen_le_of ?_
  have := blen_lt (s / 4)
  rw [Nat.pow_add]; omega
theorem next_rng (a f l : Nat) : tgt a / 4 ≤ nextT a f l ∧ nextT a f l ≤ 4 * tgt a := by
  have h := spanN_rng f l
  unfold nextT
  have h1 : tgt a * 1050 ≤ tgt a * spanN f l := Nat.mul_le_mul_left _ h.1
  have h2 : tgt a * spanN f l ≤ tgt a * 16800 := Nat.mul_le_mul_left _ h.2
  omega
theorem cmpt_zero : cmpt 0 = 0 ∧ eerr 0 = 121 ∧ eerr 545259519 = 0 ∧ blen easiestN = 255 := by decide +kernel
theorem harder {a : Nat} (f l : Nat) (ha : eerr a = 0) : (eerr (nextN a f l) ≠ 0 → blen (tgt a) < 24) ∧ (eerr (nextN a f l) = 0 → blen (tgt a) ≤ blen (tgt (nextN a f l)) + 3 ∧ blen (tgt (nextN a f l)) ≤ blen (tgt a) + 3) := by
  obtain ⟨z1, z2, z3, z4⟩ := cmpt_zero
  have hr := next_rng a f l
  have b1 := blen_mono hr.1
  have b2 := blen_mono hr.2
  have b3 := blen_four (tgt a)
  have b4 := blen_quarter (tgt a)
  have b5 := blen_mono (tgt_le a)
  by_cases hbig : easiestN < nextT a f l
  · rw [nextN_big hbig, easiest_tgt, z3]
    have := blen_mono (Nat.le_of_lt hbig)
    exact ⟨fun h => absurd rfl h, fun _ => ⟨by omega, by omega⟩⟩
  · rw [nextN_yes ha hbig]
    by_cases h0 : nextT a f l = 0
    · have : blen (tgt a) ≤ 2 := blen_le_of (by omega)
      rw [h0, z1, z2]
      exact ⟨fun _ => by omega, fun h => by cases h⟩
    · obtain ⟨e1, e2⟩ := back_any h0 (by omega)
      rw [e1, e2, (keep_bits _).1]
      exact ⟨fun h => absurd rfl h, fun _ => ⟨by omega, by omega⟩⟩
theorem work_none {b : Nat} (h : eerr b ≠ 0) : workN b = 0 := (work_no h).1
end Go.Eng

namespace Go.Eng
open Go.RowKit
variable {P : Program}

/-! ### From what the engine says of a function to what the machine does -/
def base (w : World) : Env := { w := w, ι := fun _ => none, S := fun b _ => b < w.heap.size, bn := fun _ => 0, U := fun _ => False }
def baseC (w : World) : Ctx := { w0 := w, M := fun _ => False, S0 := fun b _ => b < w.heap.size }
theorem base_sim (w : World) : OSim (baseC w) (base w) (fun _ => none) :=
  ⟨fun _ _ h => (by cases h), fun _ _ _ _ _ _ h => (by cases h), fun _ _ _ h => (by cases h), fun _ _ _ h => False.elim h, fun _ _ h => h, fun _ _ h => h, fun _ _ h => .inl h, rfl, rfl, rfl, Nat.le_refl _, fun _ _ _ => rfl⟩
/-- Nothing that was there has turned. -/
def Still (w w' : World) : Prop := w'.os = w.os ∧ w'.output = w.output ∧ w.heap.size ≤ w'.heap.size ∧ ∀ i, i < w.heap.size → w'.heap[i]? = w.heap[i]?
theorem Still.kept {w w' : World} (h : Still w w') (may : MemPlace → Prop) : w.keptBut w' may := by
  refine ⟨h.1, h.2.1, fun i hi => ?_⟩
  rw [h.2.2.2 i hi]
  cases hw : w.heap[i]? with
  | none => rfl
  | some o =>
    cases o with
    | cells c t fr => exact ⟨rfl, rfl, rfl, fun _ _ => rfl⟩
    | map es clock => exact .inr ⟨rfl, rfl⟩
    | _ => rfl
theorem calls_of_sym {f : FuncId} {fn : Func} {code : Code} {args : List AV} {b : Bool} (hf : P.funcs[f]? = some fn) (hb : fn.body = some code) (hn : (fn.name == "runtime.NumGoroutine") = false)
    (h : SymOK P f (symP args (bl b))) {w : World} {vals : Array Value} (hv : Reps (base w) args vals.toList) : Calls P f vals w fun en w' => en = .returned (.bool b) ∧ Still w w' := by
  have hcall : (callFunc f vals).run P w = .ok (.enter f vals) w := by
    have hn' : ¬ fn.name = "runtime.NumGoroutine" := by simpa using hn
    simp [callFunc, hf, hn', hb]
  have := h (baseC w) (base w) (fun _ => none) (fun _ => none) args vals 0 _ (base_sim w) rfl rfl (fun _ h => (by cases h)) (fun _ h => (by cases h)) hv
  unfold Does at this
  rcases this with ⟨x, w', g1, g2⟩ | ⟨w', g1, g2⟩ | ⟨f', args', w1, g1, g2⟩
  · rw [show (base w).w = w from rfl, hcall] at g1; cases g1
  · rw [show (base w).w = w from rfl, hcall] at g1; cases g1
  · rw [show (base w).w = w from rfl, hcall] at g1
    cases g1
    refine g2.mono fun en w' ⟨x, h1, e', h2, h3, h4, h5, h6⟩ => ?_
    subst h2
    have hx := rep_pl_inv h6
    subst hx
    exact ⟨h1, h3.os, h3.output, h3.size, fun i hi => h3.block i hi (fun h => h)⟩
theorem reps_nil {e : Env} : Reps e [] [] := .nil
/-! ### What is read of an argument -/
section
variable {H : Type} {enc : TypeId × Value → H} {w : World} {b0 : Nat} {sp : Nat → Bool} {held : Bool}
theorem mapM_ints {k : IntKind} {g : Nat → Option (DataW H × List MemPlace)} : ∀ (l : List Nat) (xs : List (DataW H × List MemPlace)), l.mapM g = some xs → (∀ i ∈ l, ∀ x, g i = some x → ∃ n : Int, (Lit.int k n).wf = true ∧ x = (.lit (.int k n), [])) →
    ∃ ns : List Int, ns.length = l.length ∧ xs = ns.map (fun n => (.lit (.int k n), [])) ∧ ∀ (j : Nat) (i : Nat) n, l[j]? = some i → ns[j]? = some n → g i = some (.lit (.int k n), []) ∧ (Lit.int k n).wf = true := by
  intro l
  induction l with
  | nil =>
    intro xs h _
    simp at h; subst h
    exact ⟨[], rfl, rfl, fun j i n h => by simp at h⟩
  | cons a r ih =>
    intro xs h hg
    simp only [List.mapM_cons] at h
    cases ha : g a with
    | none => simp [ha] at h
    | some x =>
      cases hr : r.mapM g with
      | none => simp [ha, hr] at h
      | some ys =>
        simp [ha, hr] at h
        subst h
        obtain ⟨n, hn, rfl⟩ := hg a (by simp) x ha
        obtain ⟨ns, h1, h2, h3⟩ := ih ys hr (fun i hi => hg i (by simp [hi]))
        refine ⟨n :: ns, by simp [h1], by simp [h2], fun j i m hj hm => ?_⟩
        cases j with
        | zero => simp at hj hm; subst hj; subst hm; exact ⟨ha, hn⟩
        | succ j => exact h3 j i m (by simpa using hj) (by simpa using hm)
end
end Go.Eng

namespace Go.Eng
open Go.RowKit
section
variable {P : Program} {H : Type} {enc : TypeId × Value → H} {w w' : World} {b0 : Nat} {held : Bool}
theorem mapM_imp {α β : Type} {g g' : α → Option β} : ∀ (l : List α) (xs : List β), l.mapM g = some xs → (∀ a ∈ l, ∀ x, g a = some x → g' a = some x) → l.mapM g' = some xs := by
  intro l
  induction l with
  | nil => intro xs h _; simpa using h
  | cons a r ih =>
    intro xs h hg
    simp only [List.mapM_cons] at h ⊢
    cases ha : g a with
    | none => simp [ha] at h
    | some x =>
      cases hr : r.mapM g with
      | none => simp [ha, hr] at h
      | some ys =>
        simp [ha, hr] at h
        rw [hg a (by simp) x ha, ih ys hr (fun i hi => hg i (by simp [hi]))]
        simp [h]
theorem add_block' (a : Addr) (i : Nat) : (a.add i).block = a.block := by
  unfold Addr.add; split <;> simp_all
theorem cell_block {a : Addr} {v : Value} (h : w.cell? a = some v) : a.block < w.heap.size := by
  unfold World.cell? at h
  cases hb : w.heap[a.block]? with
  | none => simp [hb] at h
  | some o => exact (Array.getElem?_eq_some_iff.1 hb).1
theorem cell_same {a : Addr} (hb : w'.heap[a.block]? = w.heap[a.block]?) : w'.cell? a = w.cell? a := by
  unfold World.cell?; rw [hb]
theorem cells_ext (hw : ∀ i, i < w.heap.size → w'.heap[i]? = w.heap[i]?) {a : Addr} {n : Nat} {l : List Value} (hn : 0 < n) (h : w.cells? b0 a n = some l) : a.block < w.heap.size ∧ w'.cells? b0 a n = some l := by
  unfold World.cells? at h ⊢
  split at h <;> try (cases h; done)
  rename_i hb
  rw [if_pos hb]
  have hblk : a.block < w.heap.size := by
    obtain ⟨m, rfl⟩ : ∃ m, n = m + 1 := ⟨n - 1, by omega⟩
    rw [List.range_succ_eq_map, List.mapM_cons] at h
    cases h0 : w.cell? (a.add 0) with
    | none => simp [h0] at h
    | some v => have := cell_block h0; rwa [add_block'] at this
  refine ⟨hblk, mapM_imp _ _ h (fun i _ x hx => ?_)⟩
  have e := cell_same (w := w) (w' := w') (a := a.add i) (by rw [add_block']; exact hw _ hblk)
  rw [e]; exact hx
/-- Types whose slices' elements and pointers' goals take cells, and what they are made of. -/
def closedB (P : Program) (R : List TypeId) : Bool := R.all fun t => match P.underlying t with
  | some (.slice e) => decide (0 < P.cellsOf e) && R.contains e
  | some (.pointer e) => decide (0 < P.cellsOf e) && R.contains e
  | some (.struct fs) => fs.toList.all fun f => R.contains f.type
  | some (.array _ e) => R.contains e
  | some (.map _ e) => R.contains e
  | _ => true
theorem trod_ext {R : List TypeId} (hR : closedB P R = true) (hw : ∀ i, i < w.heap.size → w'.heap[i]? = w.heap[i]?) :
    ∀ (fuel : Nat) (t : TypeId) (cs : List Value) (x : DataW H × List MemPlace), t ∈ R → DataW.trod enc P w b0 (fun _ => true) true fuel t cs = some x → DataW.trod enc P w' b0 (fun b => decide (b < w.heap.size)) true fuel t cs = some x := by
  intro fuel
  induction fuel with
  | zero => intro t cs x _ h; simp [DataW.trod] at h
  | succ fuel ih =>
    intro t cs x ht h
    have hRt := (List.all_eq_true.1 hR) t ht
    have bindcells : ∀ (a : Addr) (n : Nat) (e : TypeId) (y : DataW H × List MemPlace), e ∈ R → 0 < n → (w.cells? b0 a n).bind (DataW.trod enc P w b0 (fun _ => true) true fuel e) = some y →
        a.block < w.heap.size ∧ (w'.cells? b0 a n).bind (DataW.trod enc P w' b0 (fun b => decide (b < w.heap.size)) true fuel e) = some y := fun a n e y he hn h => by
      cases hc : w.cells? b0 a n with
      | none => simp [hc] at h
      | some l =>
        rw [hc] at h
        obtain ⟨h1, h2⟩ := cells_ext hw hn hc
        exact ⟨h1, by rw [h2]; exact ih _ _ _ he h⟩
    simp only [DataW.trod] at h ⊢
    split at h
    case h_6 a e hu =>
      rw [hu] at hRt
      simp only [Bool.and_eq_true, decide_eq_true_eq, List.contains_iff_mem] at hRt
      obtain ⟨y, hy, rfl⟩ := Option.map_eq_some_iff.1 h
      rw [(bindcells _ _ _ _ hRt.2 hRt.1 hy).2]; rfl
    case h_8 e a len cap hu =>
      rw [hu] at hRt
      simp only [Bool.and_eq_true, decide_eq_true_eq, List.contains_iff_mem] at hRt
      split at h <;> try (cases h; done)
      rename_i hc
      rw [if_pos hc]
      cases h1 : (List.range len).mapM (fun i => (w.cells? b0 (a.add (i * P.cellsOf e)) (P.cellsOf e)).bind (DataW.trod enc P w b0 (fun _ => true) true fuel e)) with
      | none => rw [h1] at h; cases h
      | some elems =>
        rw [h1] at h
        have g1 := mapM_imp _ _ h1 (fun i _ y hy => (bindcells _ _ _ _ hRt.2 hRt.1 hy).2)
        rw [g1]
        simp only [Option.bind_some, if_true] at h ⊢
        obtain ⟨rest, hr, rfl⟩ := Option.map_eq_some_iff.1 h
        by_cases hb : a.block < w.heap.size
        · have g2 := mapM_imp _ _ hr (fun i _ y hy => (bindcells _ _ _ _ hRt.2 hRt.1 hy).2)
          rw [if_pos (by simpa using hb), g2]; rfl
        · have hz : cap - len = 0 := by
            rcases Nat.eq_zero_or_pos (cap - len) with h0 | h0
            · exact h0
            · exfalso
              obtain ⟨m, hm⟩ : ∃ m, cap - len = m + 1 := ⟨cap - len - 1, by omega⟩
              rw [hm, List.range_succ_eq_map, List.mapM_cons] at hr
              cases h0 : (w.cells? b0 (a.add ((len + 0) * P.cellsOf e)) (P.cellsOf e)).bind (DataW.trod enc P w b0 (fun _ => true) true fuel e) with
              | none => rw [h0] at hr; simp at hr
              | some y =>
                have := (bindcells _ _ _ _ hRt.2 hRt.1 h0).1
                rw [add_block'] at this
                exact hb this
          rw [hz] at hr
          simp at hr; subst hr
          rw [if_neg (by simpa using hb)]; rfl
    case h_9 fs cs' hu =>
      rw [hu] at hRt
      simp only [List.all_eq_true, List.contains_iff_mem] at hRt
      split at h <;> try (cases h; done)
      rename_i hc
      rw [if_pos hc]
      obtain ⟨y, hy, rfl⟩ := Option.map_eq_some_iff.1 h
      rw [mapM_imp _ _ hy (fun f hf z hz => ih _ _ _ (hRt f hf) hz)]; rfl
    case h_10 n e cs' hu =>
      rw [hu] at hRt
      simp only [List.contains_iff_mem] at hRt
      split at h <;> try (cases h; done)
      rename_i hc
      rw [if_pos hc]
      obtain ⟨y, hy, rfl⟩ := Option.map_eq_some_iff.1 h
      rw [mapM_imp _ _ hy (fun i _ z hz => ih _ _ _ hRt hz)]; rfl
    case h_14 k e b hu =>
      rw [hu] at hRt
      simp only [List.contains_iff_mem] at hRt
      cases ho : w.heap[b]? with
      | none => rw [ho] at h; cases h
      | some o =>
        have hb : b < w.heap.size := (Array.getElem?_eq_some_iff.1 ho).1
        rw [ho] at h
        rw [hw b hb, ho]
        cases o with
        | map es clock =>
          simp only at h ⊢
          split at h <;> try (cases h; done)
          rename_i hc
          rw [if_pos hc]
          obtain ⟨xs, h1, h2⟩ := Option.bind_eq_some_iff.1 h
          rw [mapM_imp _ _ h1 (fun a _ y hy => by
            obtain ⟨key, k1, k2⟩ := Option.bind_eq_some_iff.1 hy
            rw [k1]
            simp only [Option.bind_some]
            split at k2 <;> try (cases k2; done)
            rename_i hf
            rw [if_pos hf]
            obtain ⟨z, hz, rfl⟩ := Option.map_eq_some_iff.1 k2
            rw [ih _ _ _ hRt hz]; rfl)]
          exact h2
        | _ => cases h
    all_goals exact h
theorem trodAll_ext {R : List TypeId} (hR : closedB P R = true) (hw : ∀ i, i < w.heap.size → w'.heap[i]? = w.heap[i]?) :
    ∀ (ts : List TypeId) (vs : List Value) (ds : List (DataW H)) (ps : List MemPlace), (∀ t ∈ ts, t ∈ R) → DataW.TrodAll enc P w b0 (fun _ => true) true ts vs ds ps → DataW.TrodAll enc P w' b0 (fun b => decide (b < w.heap.size)) true ts vs ds ps := by
  intro ts
  induction ts with
  | nil =>
    intro vs ds ps _ h
    cases vs <;> cases ds <;> first | exact h | (exact False.elim h)
  | cons t r ih =>
    intro vs ds ps hts h
    cases vs with
    | nil => exact False.elim h
    | cons v vs =>
      cases ds with
      | nil => exact False.elim h
      | cons d ds =>
        obtain ⟨p, q, ⟨fuel, h1⟩, h2, h3⟩ := h
        exact ⟨p, q, ⟨fuel, trod_ext hR hw _ _ _ _ (hts _ (by simp)) h1⟩, ih _ _ _ (fun t ht => hts t (by simp [ht])) h2, h3⟩
/-- The law answers true, and nothing has turned: what the row asks. -/
theorem post_true {f : Func} {s : ChangeSpec} {args : Array Value} {ds gs : List (DataW H)} {before : List MemPlace} {fresh : Bool} {R : List TypeId} (hR : closedB P R = true) (hpR : f.params.toList.all (fun t => R.contains t) = true)
    (hW : DataW.Whole enc P f.params.toList s.vars false w args.toList ds gs before) (hs : Still w w') (hv : s.vars = []) {t : TypeId} (hr : f.resultTypes = #[t]) (ht : P.underlying t = some .bool)
    (hfn : s.fn H (ds ++ gs) = { results := [.lit (.bool true)], args := ds }) : s.post enc P f false fresh false false w args (.bool true) w' := by
  have hW' := hW
  obtain ⟨p, q, hA, hV, hb, hz, hn⟩ := hW
  rw [hv] at hV
  have hgq : gs = [] ∧ q = [] := by cases gs <;> first | exact ⟨rfl, hV⟩ | exact False.elim hV
  obtain ⟨rfl, rfl⟩ := hgq
  refine ⟨ds, [], before, [], p, [], hW', ?_, ?_, ?_, hs.kept _, fun h => by cases h⟩
  · rw [hfn, hr]
    exact ⟨[], [], ⟨1, by simp [DataW.trod, ht, Value.cells]⟩, rfl, rfl⟩
  · rw [hfn]; exact trodAll_ext hR hs.2.2.2 _ _ _ _ (fun t ht => by have := (List.all_eq_true.1 hpR) t ht; simpa [List.contains_iff_mem] using this) hA
  · rw [hfn, hv]; rfl
end
end Go.Eng

namespace Go.Eng
open Go.RowKit Go.ChangeShapes
section
variable {P : Program} {H : Type} {enc : TypeId × Value → H} {w : World} {base : Nat} {spare : Nat → Bool} {held : Bool} {b0 : Nat} {r : Reach}
theorem bounds_of_wf {k : IntKind} {n : Int} (h : (Lit.int k n).wf = true) : k.min ≤ n ∧ n ≤ k.max := by
  simpa [Lit.wf, Bool.and_eq_true, decide_eq_true_eq] using h
/-- An array of integers, opened. -/
theorem open_ints {t e : TypeId} {n : Nat} {k : IntKind} {v : Value} {d : DataW H} {ps : List MemPlace} (ht : P.underlying t = some (.array n e)) (he : P.underlying e = some (.int k)) (hc : P.cellsOf t = n) (h1 : P.cellsOf e = 1)
    (hval : Value.okWide P w r b0 t v) (hd : DataW.Trod enc P w base spare held t v d ps) :
    ∃ ns : List Int, ns.length = n ∧ v = .agg (ns.map (Value.int k)).toArray ∧ d = .agg (ns.map fun x => .lit (.int k x)) ∧ ∀ x ∈ ns, (Lit.int k x).wf = true := by
  unfold Value.okWide at hval
  rw [ht] at hval
  obtain ⟨cs, rfl, hcs, -⟩ := hval
  obtain ⟨fuel, hf⟩ := hd
  obtain ⟨xs, m, rfl, hx, hl, hn, hi⟩ := DataW.trod_array ht hf
  simp only [Value.cells] at hl hi
  rw [hc] at hl
  have key : ∀ i, i < n → ∃ x, cs.toList[i]? = some (Value.int k x) ∧ xs[i]? = some (DataW.lit (.int k x), []) ∧ (Lit.int k x).wf = true := fun i h => by
    have h2 := hi i h
    rw [h1, Nat.mul_one] at h2
    have hlt : i < xs.length := by omega
    rw [List.getElem?_eq_getElem hlt] at h2
    obtain ⟨x, q1, q2, q3⟩ := DataW.trod_int he h2
    refine ⟨x, ?_, by rw [List.getElem?_eq_getElem hlt, q2], q3⟩
    have := congrArg (fun l => l[0]?) q1
    simpa [List.getElem?_take, List.getElem?_drop] using this
  obtain ⟨ns, e1, e2, e3⟩ : ∃ ns : List Int, ns.length = n ∧ (∀ i x, ns[i]? = some x → cs.toList[i]? = some (Value.int k x) ∧ xs[i]? = some (DataW.lit (.int k x), []) ∧ (Lit.int k x).wf = true) ∧ True := by
    refine ⟨(List.range n).map fun i => match cs.toList[i]? with | some (Value.int _ x) => x | _ => 0, by simp, fun i x h => ?_, trivial⟩
    rw [List.getElem?_map] at h
    obtain ⟨j, hj, rfl⟩ := Option.map_eq_some_iff.1 h
    have hlt : i < n := by
      have := (List.getElem?_eq_some_iff.1 hj).1
      simpa using this
    have hji : j = i := by
      rw [List.getElem?_range hlt] at hj
      exact (Option.some.inj hj).symm
    subst hji
    obtain ⟨y, q1, q2, q3⟩ := key j hlt
    rw [q1]
    exact ⟨rfl, q2, q3⟩
  refine ⟨ns, e1, ?_, ?_, fun x hx' => ?_⟩
  · congr 1
    apply Array.toList_inj.1
    apply List.ext_getElem?
    intro i
    rcases Nat.lt_or_ge i n with h | h
    · obtain ⟨x, hx'⟩ : ∃ x, ns[i]? = some x := ⟨_, List.getElem?_eq_getElem (by omega)⟩
      rw [(e2 i x hx').1]
      simp [hx']
    · rw [List.getElem?_eq_none (by omega), List.getElem?_eq_none (by simp; omega)]
  · injection hx with hx1 hx2
    rw [hx1]
    congr 1
    apply List.ext_getElem?
    intro i
    rcases Nat.lt_or_ge i n with h | h
    · obtain ⟨x, hx'⟩ : ∃ x, ns[i]? = some x := ⟨_, List.getElem?_eq_getElem (by omega)⟩
      simp [hx', (e2 i x hx').2.1]
    · rw [List.getElem?_eq_none (by simp; omega), List.getElem?_eq_none (by simp; omega)]
  · obtain ⟨i, hi', rfl⟩ := List.mem_iff_getElem.1 hx'
    exact (e2 i _ (List.getElem?_eq_getElem hi')).2.2
theorem lm_of {x0 x1 x2 x3 : Nat} (h0 : x0 < 2 ^ 64) (h1 : x1 < 2 ^ 64) (h2 : x2 < 2 ^ 64) (h3 : x3 < 2 ^ 64) :
    x0 + x1 * 2 ^ 64 + x2 * 2 ^ 128 + x3 * 2 ^ 192 < 2 ^ 256 ∧ lm (x0 + x1 * 2 ^ 64 + x2 * 2 ^ 128 + x3 * 2 ^ 192) 0 = x0 ∧ lm (x0 + x1 * 2 ^ 64 + x2 * 2 ^ 128 + x3 * 2 ^ 192) 1 = x1 ∧ lm (x0 + x1 * 2 ^ 64 + x2 * 2 ^ 128 + x3 * 2 ^ 192) 2 = x2 ∧ lm (x0 + x1 * 2 ^ 64 + x2 * 2 ^ 128 + x3 * 2 ^ 192) 3 = x3 := by
  simp only [lm]
  refine ⟨?_, ?_, ?_, ?_, ?_⟩
  · omega
  · simp only [Nat.mul_zero, Nat.pow_zero, Nat.div_one]; omega
  · rw [show 64 * 1 = 64 from rfl]; omega
  · rw [show 64 * 2 = 128 from rfl]; omega
  · rw [show 64 * 3 = 192 from rfl]; omega
theorem four {ns : List Int} (h : ns.length = 4) : ∃ a b c d, ns = [a, b, c, d] := by
  match ns, h with
  | [a, b, c, d], _ => exact ⟨a, b, c, d, rfl⟩
/-- A number of 256 bits, opened. -/
theorem open_wide {t e : TypeId} {v : Value} {d : DataW H} {ps : List MemPlace} (ht : P.underlying t = some (.array 4 e)) (he : P.underlying e = some (.int .u64)) (hc : P.cellsOf t = 4) (h1 : P.cellsOf e = 1)
    (hval : Value.okWide P w r b0 t v) (hd : DataW.Trod enc P w base spare held t v d ps) : ∃ a : Nat, a < 2 ^ 256 ∧ ∀ e' : Env, Rep e' (.ag [wP a]) v := by
  obtain ⟨ns, hl, rfl, rfl, hw⟩ := open_ints ht he hc h1 hval hd
  obtain ⟨a, b, c, d, rfl⟩ := four hl
  have ha := bounds_of_wf (hw a (by simp))
  have hb := bounds_of_wf (hw b (by simp))
  have hc' := bounds_of_wf (hw c (by simp))
  have hd' := bounds_of_wf (hw d (by simp))
  have m0 : IntKind.u64.min = 0 := rfl
  have m1 : IntKind.u64.max = 18446744073709551615 := rfl
  rw [m0, m1] at ha hb hc' hd'
  obtain ⟨a, rfl⟩ := Int.eq_ofNat_of_zero_le ha.1
  obtain ⟨b, rfl⟩ := Int.eq_ofNat_of_zero_le hb.1
  obtain ⟨c, rfl⟩ := Int.eq_ofNat_of_zero_le hc'.1
  obtain ⟨d, rfl⟩ := Int.eq_ofNat_of_zero_le hd'.1
  obtain ⟨q, e0, e1, e2, e3⟩ := lm_of (x0 := a) (x1 := b) (x2 := c) (x3 := d) (by omega) (by omega) (by omega) (by omega)
  refine ⟨_, q, fun e' => ⟨_, rfl, ?_⟩⟩
  unfold wP
  rw [e0, e1, e2, e3]
  exact .ar (ys := [_, _, _, _]) (.pl rfl (.pl rfl (.pl rfl (.pl rfl .nil)))) ⟨rfl, by simp [scalar]⟩ .nil
theorem open_nat {t : TypeId} {k : IntKind} {v : Value} {d : DataW H} {ps : List MemPlace} (ht : P.underlying t = some (.int k)) (hk : k.min = 0) (hval : Value.okWide P w r b0 t v) (hd : DataW.Trod enc P w base spare held t v d ps) :
    ∃ n : Nat, (n : Int) ≤ k.max ∧ ∀ e' : Env, Rep e' (.pl (.int k n)) v := by
  obtain ⟨n, rfl, rfl, rfl, hw⟩ := open_int ht hval hd
  have := bounds_of_wf hw
  rw [hk] at this
  obtain ⟨m, rfl⟩ := Int.eq_ofNat_of_zero_le this.1
  exact ⟨m, this.2, fun e' => rep_pl rfl⟩
end
end Go.Eng

namespace Go.Eng
open Go.RowKit Go.ChangeShapes
section
variable {P : Program} {H : Type} {enc : TypeId × Value → H} {w : World} {base : Nat} {spare : Nat → Bool} {held : Bool} {b0 : Nat} {r : Reach}
theorem two {ns : List Int} (h : ns.length = 2) : ∃ a b, ns = [a, b] := by
  match ns, h with
  | [a, b], _ => exact ⟨a, b, rfl⟩
/-- Two integers in an array, opened. -/
theorem open_two {t e : TypeId} {k : IntKind} {v : Value} {d : DataW H} {ps : List MemPlace} (ht : P.underlying t = some (.array 2 e)) (he : P.underlying e = some (.int k)) (hk : k.min = 0) (hc : P.cellsOf t = 2) (h1 : P.cellsOf e = 1)
    (hval : Value.okWide P w r b0 t v) (hd : DataW.Trod enc P w base spare held t v d ps) : ∃ a b : Nat, (a : Int) ≤ k.max ∧ (b : Int) ≤ k.max ∧ ∀ e' : Env, Rep e' (.ag [.ar 2 [.pl (.int k a), .pl (.int k b)]]) v := by
  obtain ⟨ns, hl, rfl, rfl, hw⟩ := open_ints ht he hc h1 hval hd
  obtain ⟨a, b, rfl⟩ := two hl
  have ha := bounds_of_wf (hw a (by simp))
  have hb := bounds_of_wf (hw b (by simp))
  rw [hk] at ha hb
  obtain ⟨a, rfl⟩ := Int.eq_ofNat_of_zero_le ha.1
  obtain ⟨b, rfl⟩ := Int.eq_ofNat_of_zero_le hb.1
  refine ⟨a, b, ha.2, hb.2, fun e' => ⟨_, rfl, ?_⟩⟩
  exact .ar (ys := [_, _]) (.pl rfl (.pl rfl .nil)) ⟨rfl, by simp [scalar]⟩ .nil
end
end Go.Eng
