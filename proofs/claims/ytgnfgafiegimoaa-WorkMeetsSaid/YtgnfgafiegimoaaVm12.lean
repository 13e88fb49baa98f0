/- What the operations of a program do, shown once for all programs; and numbers. -/
import Derived.Test.YtgnfgafiegimoaaVm9
import Derived.Test.YtgnfgafiegimoaaVm10
import Derived.Test.YtgnfgafiegimoaaVm11
import Derived.Test.YtgnfgafiegimoaaVm8
set_option linter.constructorNameAsVariable false
set_option linter.unusedVariables false
set_option linter.unusedSimpArgs false
noncomputable section
namespace Go.Vm.Wd
open Go.RowKit
set_option linter.unusedVariables false
set_option linter.constructorNameAsVariable false

/-! ### Numbers of 256 bits, digits to the base 65536: plain laws -/
theorem wrap_in {k : IntKind} {t : Int} (h : k.min ≤ t ∧ t ≤ k.max) : k.wrap t = t := by
  obtain ⟨h1, h2⟩ := h
  cases k <;> simp only [IntKind.wrap, IntKind.min, IntKind.max, IntKind.bits, IntKind.signed] at * <;> simp at * <;> omega
def lm (a k : Nat) : Int := ((a / 2 ^ (64 * k) % 2 ^ 64 : Nat) : Int)
theorem lm_lo (a k : Nat) : 0 ≤ lm a k := Int.natCast_nonneg _
theorem lm_hi (a k : Nat) : lm a k < 18446744073709551616 := by
  have : a / 2 ^ (64 * k) % 2 ^ 64 < 2 ^ 64 := Nat.mod_lt _ (by decide)
  unfold lm; omega
theorem lm_rng (a k : Nat) : 0 ≤ lm a k ∧ lm a k ≤ 18446744073709551615 := ⟨lm_lo a k, by have := lm_hi a k; omega⟩
def cy (a b k : Nat) : Int := (((a % 2 ^ (64 * k) + b % 2 ^ (64 * k)) / 2 ^ (64 * k) : Nat) : Int)
theorem cy_zero (a b : Nat) : cy a b 0 = 0 := by simp [cy, Nat.mod_one]
theorem pow_succ64 (k : Nat) : 2 ^ (64 * (k + 1)) = 2 ^ (64 * k) * 2 ^ 64 := by rw [Nat.mul_add, Nat.pow_add]
theorem cy_lo (a b k : Nat) : 0 ≤ cy a b k := Int.natCast_nonneg _
theorem cy_hi (a b k : Nat) : cy a b k ≤ 1 := by
  have hM : 0 < 2 ^ (64 * k) := Nat.two_pow_pos _
  have h1 := Nat.mod_lt a hM
  have h2 := Nat.mod_lt b hM
  have : (a % 2 ^ (64 * k) + b % 2 ^ (64 * k)) / 2 ^ (64 * k) < 2 := by rw [Nat.div_lt_iff_lt_mul hM]; omega
  unfold cy; omega
theorem add_cy (a b k : Nat) : (lm a k + lm b k + cy a b k) / 18446744073709551616 = cy a b (k + 1) := by
  have hM : 0 < 2 ^ (64 * k) := Nat.two_pow_pos _
  simp only [lm, cy, pow_succ64, Nat.mod_mul]
  generalize 2 ^ (64 * k) = M at hM
  have : (a % M + M * (a / M % 2 ^ 64) + (b % M + M * (b / M % 2 ^ 64))) / (M * 2 ^ 64) = ((a % M + b % M) / M + (a / M % 2 ^ 64 + b / M % 2 ^ 64)) / 2 ^ 64 := by
    rw [← Nat.div_div_eq_div_mul]
    congr 1
    have : a % M + M * (a / M % 2 ^ 64) + (b % M + M * (b / M % 2 ^ 64)) = (a % M + b % M) + M * (a / M % 2 ^ 64 + b / M % 2 ^ 64) := by rw [Nat.mul_add]; omega
    rw [this, Nat.add_mul_div_left _ _ hM]
  rw [this]
  omega
theorem add_lm (a b k : Nat) : (lm a k + lm b k + cy a b k) % 18446744073709551616 = lm (a + b) k := by
  have hM : 0 < 2 ^ (64 * k) := Nat.two_pow_pos _
  simp only [lm, cy]
  generalize 2 ^ (64 * k) = M at hM
  have : (a + b) / M = a / M + b / M + (a % M + b % M) / M := by
    conv => lhs; rw [← Nat.div_add_mod a M, ← Nat.div_add_mod b M]
    have : M * (a / M) + a % M + (M * (b / M) + b % M) = (a % M + b % M) + M * (a / M + b / M) := by rw [Nat.mul_add]; omega
    rw [this, Nat.add_mul_div_left _ _ hM]; omega
  rw [this]
  omega
theorem lm_mod (a k : Nat) (hk : k < 4) : lm (a % 2 ^ 256) k = lm a k := by
  simp only [lm]
  have : (2 : Nat) ^ 256 = 2 ^ (64 * k) * 2 ^ (256 - 64 * k) := by rw [← Nat.pow_add]; congr 1; omega
  rw [this, Nat.mod_mul_right_div_self]
  have : (2 : Nat) ^ (256 - 64 * k) = 2 ^ 64 * 2 ^ (256 - 64 * k - 64) := by rw [← Nat.pow_add]; congr 1; omega
  rw [this, Nat.mod_mul_right_mod]
theorem cy_4 {a b : Nat} (ha : a < 2 ^ 256) (hb : b < 2 ^ 256) : (cy a b 4 == 1) = decide (2 ^ 256 ≤ a + b) := by
  have e : (64 * 4) = 256 := rfl
  simp only [cy, e]
  rw [Nat.mod_eq_of_lt ha, Nat.mod_eq_of_lt hb, Bool.eq_iff_iff]
  simp only [beq_iff_eq, decide_eq_true_eq]
  omega
def bw (a b k : Nat) : Int := if a % 2 ^ (64 * k) < b % 2 ^ (64 * k) then 1 else 0
theorem bw_zero (a b : Nat) : bw a b 0 = 0 := by simp [bw, Nat.mod_one]
theorem bw_lo (a b k : Nat) : 0 ≤ bw a b k := by unfold bw; split <;> omega
theorem bw_hi (a b k : Nat) : bw a b k ≤ 1 := by unfold bw; split <;> omega
theorem sub_key {M x y A B : Nat} (h1 : x < M) (h2 : y < M) : (x + M * A < y + M * B) ↔ (A < B + (if x < y then 1 else 0)) := by
  rcases Nat.lt_trichotomy A B with h | h | h
  · have : M * (A + 1) ≤ M * B := Nat.mul_le_mul_left _ h
    rw [Nat.mul_add] at this
    constructor <;> intro _ <;> (try split) <;> omega
  · subst h; constructor <;> intro h' <;> split at * <;> omega
  · have : M * (B + 1) ≤ M * A := Nat.mul_le_mul_left _ h
    rw [Nat.mul_add] at this
    constructor <;> intro h' <;> (try split at h') <;> omega
theorem sub_bw (a b k : Nat) : (if lm a k < lm b k + bw a b k then 1 else 0 : Int) = bw a b (k + 1) := by
  have hM : 0 < 2 ^ (64 * k) := Nat.two_pow_pos _
  have key := sub_key (A := a / 2 ^ (64 * k) % 2 ^ 64) (B := b / 2 ^ (64 * k) % 2 ^ 64) (Nat.mod_lt a hM) (Nat.mod_lt b hM)
  have hl : bw a b (k + 1) = if a % 2 ^ (64 * k) + 2 ^ (64 * k) * (a / 2 ^ (64 * k) % 2 ^ 64) < b % 2 ^ (64 * k) + 2 ^ (64 * k) * (b / 2 ^ (64 * k) % 2 ^ 64) then 1 else 0 := by
    simp only [bw, pow_succ64, Nat.mod_mul]
  rw [hl]
  have el : lm a k < lm b k + bw a b k ↔ a / 2 ^ (64 * k) % 2 ^ 64 < b / 2 ^ (64 * k) % 2 ^ 64 + (if a % 2 ^ (64 * k) < b % 2 ^ (64 * k) then 1 else 0) := by
    by_cases hxy : a % 2 ^ (64 * k) < b % 2 ^ (64 * k)
    · have hb : bw a b k = 1 := if_pos hxy
      rw [hb, if_pos hxy]; unfold lm; omega
    · have hb : bw a b k = 0 := if_neg hxy
      rw [hb, if_neg hxy]; unfold lm; omega
  by_cases h : lm a k < lm b k + bw a b k
  · rw [if_pos h, if_pos (key.2 (el.1 h))]
  · rw [if_neg h, if_neg (fun h' => h (el.2 (key.1 h')))]
theorem sub_lm {a b : Nat} (k : Nat) (hb : b < 2 ^ 256) (hk : k < 4) : (lm a k - lm b k - bw a b k) % 18446744073709551616 = lm (a + 2 ^ 256 - b) k := by
  have hM : 0 < 2 ^ (64 * k) := Nat.two_pow_pos _
  have hW : (2 : Nat) ^ 256 = 2 ^ (64 * k) * (2 ^ 64 * 2 ^ (256 - 64 * k - 64)) := by rw [← Nat.pow_add, ← Nat.pow_add]; congr 1; omega
  suffices gen : ∀ M K : Nat, 0 < M → b < M * (2 ^ 64 * K) → (((a / M % 2 ^ 64 : Nat) : Int) - (b / M % 2 ^ 64 : Nat) - (if a % M < b % M then 1 else 0)) % 18446744073709551616 = (((a + M * (2 ^ 64 * K) - b) / M % 2 ^ 64 : Nat) : Int) by
    simp only [lm, bw]
    rw [hW] at hb ⊢
    exact gen _ _ hM hb
  clear hW hM hb
  intro M K hM hb
  have ha := Nat.div_add_mod a M
  have hbb := Nat.div_add_mod b M
  have h1 := Nat.mod_lt a hM
  have h2 := Nat.mod_lt b hM
  have hq : b / M < 2 ^ 64 * K := by rw [Nat.div_lt_iff_lt_mul hM, Nat.mul_comm]; exact hb
  have : (a + M * (2 ^ 64 * K) - b) / M = a / M + 2 ^ 64 * K - b / M - (if a % M < b % M then 1 else 0) := by
    generalize a / M = A at *
    generalize b / M = B at *
    generalize a % M = x at *
    generalize b % M = y at *
    subst ha; subst hbb
    generalize 2 ^ 64 * K = Q at *
    by_cases hxy : x < y
    · rw [if_pos hxy]
      have hle : M * (A + Q - B - 1) + M * B + M = M * A + M * Q := by
        rw [← Nat.mul_add, ← Nat.mul_succ, ← Nat.mul_add]; congr 1; omega
      have : M * A + x + M * Q - (M * B + y) = (x + M - y) + M * (A + Q - B - 1) := by omega
      rw [this, Nat.add_mul_div_left _ _ hM, Nat.div_eq_of_lt (by omega)]; omega
    · rw [if_neg hxy]
      have hle : M * (A + Q - B) + M * B = M * A + M * Q := by
        rw [← Nat.mul_add, ← Nat.mul_add]; congr 1; omega
      have : M * A + x + M * Q - (M * B + y) = (x - y) + M * (A + Q - B) := by omega
      rw [this, Nat.add_mul_div_left _ _ hM, Nat.div_eq_of_lt (by omega)]; omega
  rw [this]
  generalize a / M = A at *
  generalize b / M = B at *
  by_cases hxy : a % M < b % M
  · simp only [hxy, if_true]; omega
  · simp only [hxy, if_false]; omega
theorem bw_4 {a b : Nat} (ha : a < 2 ^ 256) (hb : b < 2 ^ 256) : (bw a b 4 == 1) = decide (a < b) := by
  have e : (64 * 4) = 256 := rfl
  simp only [bw, e]
  rw [Nat.mod_eq_of_lt ha, Nat.mod_eq_of_lt hb]
  by_cases h : a < b <;> simp [h]
def addW (a b : Nat) : Nat := (a + b) % 2 ^ 256
def subW (a b : Nat) : Nat := (a + 2 ^ 256 - b) % 2 ^ 256
theorem addW_lm (a b k : Nat) (hk : k < 4) : (lm a k + lm b k + cy a b k) % 18446744073709551616 = lm (addW a b) k := by rw [add_lm, addW, lm_mod _ _ hk]
theorem subW_lm {a b : Nat} (k : Nat) (hb : b < 2 ^ 256) (hk : k < 4) : (lm a k - lm b k - bw a b k) % 18446744073709551616 = lm (subW a b) k := by rw [sub_lm k hb hk, subW, lm_mod _ _ hk]
def dig (v k : Nat) : Int := ((v / 65536 ^ k % 65536 : Nat) : Int)
def cyd (x y k : Nat) : Int := (((x % 65536 ^ k + y % 65536 ^ k) / 65536 ^ k : Nat) : Int)
def lenAdd (n m x y : Nat) : Nat := if x + y < 65536 ^ max n m then max n m else max n m + 1
def cmpI (x y : Nat) : Int := if x < y then -1 else if y < x then 1 else 0
def bd (x y k : Nat) : Int := if x % 65536 ^ k < y % 65536 ^ k then 1 else 0
/-! ### Products -/
def setD (v k : Nat) (d : Int) : Nat := v - (dig v k).toNat * 65536 ^ k + d.toNat * 65536 ^ k
def MulInv (x y V i j : Nat) (c : Int) : Prop := (V : Int) + c * 65536 ^ (i + j) = (x % 65536 ^ i : Nat) * y + dig x i * (y % 65536 ^ j : Nat) * 65536 ^ i
def mulV (x y i m : Nat) : Nat := x % 65536 ^ (i + 1) * y % 65536 ^ (i + m)
def mulC (x y i m : Nat) : Int := ((x % 65536 ^ (i + 1) * y / 65536 ^ (i + m) : Nat) : Int)
def blen (n : Nat) : Nat := if n = 0 then 0 else n.log2 + 1
theorem blen_zero : blen 0 = 0 := rfl
theorem blen_eq {n k : Nat} (h1 : 2 ^ k ≤ n) (h2 : n < 2 ^ (k + 1)) : blen n = k + 1 := by
  have hn : n ≠ 0 := by have := Nat.two_pow_pos k; omega
  rw [blen, if_neg hn, (Nat.log2_eq_iff hn).2 ⟨h1, h2⟩]
theorem blen_le {n : Nat} (h : n ≠ 0) : 2 ^ (blen n - 1) ≤ n := by
  rw [blen, if_neg h]; exact Nat.log2_self_le h
theorem blen_lt (n : Nat) : n < 2 ^ blen n := by
  rw [blen]; split
  · omega
  · exact Nat.lt_log2_self
theorem blen_pos {n : Nat} (h : n ≠ 0) : 0 < blen n := by rw [blen, if_neg h]; omega
theorem blen_shift {d r k : Nat} (hd : d ≠ 0) (hr : r < 2 ^ k) : blen (r + 2 ^ k * d) = k + blen d := by
  have h1 := blen_le hd
  have h2 := blen_lt d
  have h3 := blen_pos hd
  obtain ⟨b, hb⟩ : ∃ b, blen d = b + 1 := ⟨blen d - 1, by omega⟩
  rw [hb] at h1 h2 ⊢
  have h1 : 2 ^ b ≤ d := by simpa using h1
  rw [← Nat.add_assoc]
  refine blen_eq ?_ ?_
  · rw [Nat.pow_add]
    have : 2 ^ k * 2 ^ b ≤ 2 ^ k * d := Nat.mul_le_mul_left _ h1
    omega
  · have : 2 ^ k * (d + 1) ≤ 2 ^ k * 2 ^ (b + 1) := Nat.mul_le_mul_left _ h2
    rw [Nat.add_assoc, Nat.pow_add]
    rw [Nat.mul_add] at this
    omega
theorem blen_half {n : Nat} (h : n ≠ 0) : blen n = blen (n / 2) + 1 := by
  by_cases h1 : n = 1
  · subst h1; rfl
  · have := blen_shift (d := n / 2) (r := n % 2) (k := 1) (by omega) (by omega)
    rw [show n % 2 + 2 ^ 1 * (n / 2) = n by omega] at this
    omega
theorem blen_div {n k : Nat} (h : n / 2 ^ k ≠ 0) : blen n = k + blen (n / 2 ^ k) := by
  have := blen_shift (d := n / 2 ^ k) (r := n % 2 ^ k) (k := k) h (Nat.mod_lt _ (Nat.two_pow_pos k))
  rwa [Nat.mod_add_div] at this
theorem blen_cut {x : Int} (k : Nat) (h : ((2 ^ k : Nat) : Int) ≤ x) : (blen x.toNat : Int) = k + blen (x / ((2 ^ k : Nat) : Int)).toNat := by
  obtain ⟨X, rfl⟩ := Int.eq_ofNat_of_zero_le (a := x) (by have := Int.natCast_nonneg (2 ^ k); omega)
  have hX : 2 ^ k ≤ X := by omega
  have e : ((X : Int) / ((2 ^ k : Nat) : Int)).toNat = X / 2 ^ k := by rw [← Int.natCast_ediv]; exact Int.toNat_natCast _
  rw [e, Int.toNat_natCast, blen_div (k := k) (by have := Nat.div_pos hX (Nat.two_pow_pos k); omega)]
  omega
theorem blen_limb {a : Nat} (ha : a < 2 ^ 256) : (lm a 3 ≠ 0 → (192 : Int) + blen (lm a 3).toNat = blen a) ∧ (lm a 3 = 0 → lm a 2 ≠ 0 → (128 : Int) + blen (lm a 2).toNat = blen a) ∧
    (lm a 3 = 0 → lm a 2 = 0 → lm a 1 ≠ 0 → (64 : Int) + blen (lm a 1).toNat = blen a) ∧ (lm a 3 = 0 → lm a 2 = 0 → lm a 1 = 0 → (blen (lm a 0).toNat : Int) = blen a) := by
  have e : ∀ k, (lm a k).toNat = a / 2 ^ (64 * k) % 2 ^ 64 := fun k => by unfold lm; exact Int.toNat_natCast _
  have z : ∀ k, lm a k = 0 ↔ a / 2 ^ (64 * k) % 2 ^ 64 = 0 := fun k => by unfold lm; omega
  simp only [e, ne_eq, z]
  have q3 : a / 2 ^ (64 * 3) % 2 ^ 64 = a / 2 ^ (64 * 3) := Nat.mod_eq_of_lt (by rw [Nat.div_lt_iff_lt_mul (Nat.two_pow_pos _)]; omega)
  have s2 : a / 2 ^ (64 * 2) = a / 2 ^ (64 * 3) * 2 ^ 64 + a / 2 ^ (64 * 2) % 2 ^ 64 := by omega
  have s1 : a / 2 ^ (64 * 1) = a / 2 ^ (64 * 2) * 2 ^ 64 + a / 2 ^ (64 * 1) % 2 ^ 64 := by omega
  have s0 : a = a / 2 ^ (64 * 1) * 2 ^ 64 + a / 2 ^ (64 * 0) % 2 ^ 64 := by omega
  rw [q3]
  refine ⟨fun h => ?_, fun h3 h => ?_, fun h3 h2 h => ?_, fun h3 h2 h1 => ?_⟩
  · rw [blen_div (n := a) (k := 64 * 3) h]; omega
  · rw [h3] at s2
    rw [show a / 2 ^ (64 * 2) % 2 ^ 64 = a / 2 ^ (64 * 2) by omega] at h ⊢
    rw [blen_div (n := a) (k := 64 * 2) h]; omega
  · rw [h3] at s2
    rw [h2] at s2
    rw [s2] at s1
    rw [show a / 2 ^ (64 * 1) % 2 ^ 64 = a / 2 ^ (64 * 1) by omega] at h ⊢
    rw [blen_div (n := a) (k := 64 * 1) h]; omega
  · rw [h3, h2] at s2
    rw [s2, h1] at s1
    rw [s1] at s0
    rw [show a / 2 ^ (64 * 0) % 2 ^ 64 = a by omega]
theorem blen_le_of {n k : Nat} (h : n < 2 ^ k) : blen n ≤ k := by
  by_cases hn : n = 0
  · subst hn; simp [blen]
  · have h1 := blen_le hn
    rcases Nat.lt_or_ge k (blen n) with h2 | h2
    · exfalso
      have : 2 ^ k ≤ 2 ^ (blen n - 1) := Nat.pow_le_pow_right (by decide) (by omega)
      omega
    · exact h2
theorem blen_small {n : Nat} (h : n < 256) : blen n ≤ 8 := blen_le_of h
theorem blen_u64 {x : Int} (h : 0 ≤ x ∧ x ≤ 18446744073709551615) : blen x.toNat ≤ 64 := blen_le_of (by omega)
def shlI (k : IntKind) (a b : Int) : Int := k.wrap (a * 2 ^ min b.toNat k.bits)
def shrI (n : Nat) (a b : Int) : Int := a.fdiv (2 ^ min b.toNat n)
theorem wrap_u64_nat (x : Nat) : IntKind.u64.wrap (x : Int) = ((x % 2 ^ 64 : Nat) : Int) := by
  simp [IntKind.wrap, IntKind.bits, IntKind.signed]
theorem shlI_nat (x s : Nat) (hs : s ≤ 64) : shlI .u64 x s = ((x * 2 ^ s % 2 ^ 64 : Nat) : Int) := by
  unfold shlI
  have : min (s : Int).toNat (IntKind.bits .u64) = s := by simp [IntKind.bits]; omega
  rw [this, ← wrap_u64_nat]; simp
theorem shrI_nat (x s : Nat) (hs : s ≤ 64) : shrI 64 x s = ((x / 2 ^ s : Nat) : Int) := by
  unfold shrI
  have : min (s : Int).toNat 64 = s := by simp; omega
  rw [this, Int.fdiv_eq_ediv_of_nonneg _ (Int.pow_nonneg (by omega))]; simp
theorem bits_or_nat {x y : Nat} (hx : x < 2 ^ 64) (hy : y < 2 ^ 64) : bitsOf .or .u64 x y = ((x ||| y : Nat) : Int) := by
  have e : ∀ z : Nat, z < 2 ^ 64 → (BitVec.ofInt (IntKind.bits .u64) (z : Int)).toNat = z := fun z hz => by
    rw [BitVec.toNat_ofInt]
    have : (z : Int) % ((2 ^ IntKind.bits .u64 : Nat) : Int) = z := Int.emod_eq_of_lt (by omega) (by simp [IntKind.bits]; omega)
    rw [this]; simp
  simp only [bitsOf]
  rw [BitVec.toNat_or, e x hx, e y hy, wrap_u64_nat, Nat.mod_eq_of_lt (Nat.or_lt_two_pow hx hy)]
theorem lm_nat (a k : Nat) : lm a k = ((a / 2 ^ (64 * k) % 2 ^ 64 : Nat) : Int) := rfl
theorem mod64_lt (x : Nat) : x % 2 ^ 64 < 2 ^ 64 := Nat.mod_lt _ (by decide)
theorem left_0 {a : Nat} {r : Int} (h : 0 ≤ r ∧ r < 64) : shlI .u64 (lm a 0) r = lm (a * 2 ^ r.toNat) 0 := by
  obtain ⟨R, rfl⟩ := Int.eq_ofNat_of_zero_le h.1
  rw [lm_nat, shlI_nat _ _ (by omega), lm_nat, Int.toNat_natCast]
  congr 1
  simp
theorem left_s {a k : Nat} {r : Int} (h : 0 ≤ r ∧ r < 64) : bitsOf .or .u64 (shlI .u64 (lm a (k + 1)) r) (shrI 64 (lm a k) (64 - r)) = lm (a * 2 ^ r.toNat) (k + 1) := by
  obtain ⟨R, rfl⟩ := Int.eq_ofNat_of_zero_le h.1
  have e : (64 : Int) - (R : Int) = ((64 - R : Nat) : Int) := by omega
  rw [lm_nat, lm_nat, shlI_nat _ _ (by omega), e, shrI_nat _ _ (by omega), bits_or_nat (mod64_lt _) (Nat.lt_of_le_of_lt (Nat.div_le_self _ _) (mod64_lt _)), lm_nat, Int.toNat_natCast]
  congr 1
  refine Nat.eq_of_testBit_eq fun i => ?_
  simp only [Nat.testBit_or, Nat.testBit_mod_two_pow, Nat.testBit_div_two_pow, Nat.testBit_mul_two_pow]
  by_cases hi : i < 64
  · by_cases hr : R ≤ i
    · have h1 : ¬ (i + (64 - R) < 64) := by omega
      have e1 : i + 64 * (k + 1) - R = i - R + 64 * (k + 1) := by omega
      have h3 : R ≤ i + 64 * (k + 1) := by omega
      have h4 : i - R < 64 := by omega
      simp only [hi, hr, h1, h3, h4, e1, decide_true, decide_false, Bool.true_and, Bool.false_and, Bool.or_false]
    · have h1 : i + (64 - R) < 64 := by omega
      have e1 : i + 64 * (k + 1) - R = i + (64 - R) + 64 * k := by omega
      have h3 : R ≤ i + 64 * (k + 1) := by omega
      simp only [hi, hr, h1, h3, e1, decide_true, decide_false, Bool.true_and, Bool.false_and, Bool.false_or]
  · have h1 : ¬ (i + (64 - R) < 64) := by omega
    simp only [hi, h1, decide_false, Bool.false_and, Bool.or_false]
theorem right_3 {a : Nat} (ha : a < 2 ^ 256) {r : Int} (h : 0 ≤ r ∧ r < 64) : shrI 64 (lm a 3) r = lm (a / 2 ^ r.toNat) 3 := by
  obtain ⟨R, rfl⟩ := Int.eq_ofNat_of_zero_le h.1
  rw [lm_nat, shrI_nat _ _ (by omega), lm_nat, Int.toNat_natCast]
  congr 1
  have q : a / 2 ^ (64 * 3) < 2 ^ 64 := by rw [Nat.div_lt_iff_lt_mul (Nat.two_pow_pos _)]; omega
  rw [Nat.mod_eq_of_lt q, Nat.div_div_eq_div_mul, Nat.div_div_eq_div_mul, Nat.mul_comm (2 ^ R)]
  symm
  refine Nat.mod_eq_of_lt ?_
  rw [← Nat.div_div_eq_div_mul]
  exact Nat.lt_of_le_of_lt (Nat.div_le_self _ _) q
theorem right_s {a k : Nat} {r : Int} (h : 0 ≤ r ∧ r < 64) : bitsOf .or .u64 (shrI 64 (lm a k) r) (shlI .u64 (lm a (k + 1)) (64 - r)) = lm (a / 2 ^ r.toNat) k := by
  obtain ⟨R, rfl⟩ := Int.eq_ofNat_of_zero_le h.1
  have e : (64 : Int) - (R : Int) = ((64 - R : Nat) : Int) := by omega
  rw [lm_nat, lm_nat, shrI_nat _ _ (by omega), e, shlI_nat _ _ (by omega), bits_or_nat (Nat.lt_of_le_of_lt (Nat.div_le_self _ _) (mod64_lt _)) (mod64_lt _), lm_nat, Int.toNat_natCast]
  congr 1
  refine Nat.eq_of_testBit_eq fun i => ?_
  simp only [Nat.testBit_or, Nat.testBit_mod_two_pow, Nat.testBit_div_two_pow, Nat.testBit_mul_two_pow]
  by_cases hi : i < 64
  · by_cases hr : i + R < 64
    · have h1 : ¬ (64 - R ≤ i) := by omega
      have e1 : i + 64 * k + R = i + R + 64 * k := by omega
      simp only [hi, hr, h1, e1, decide_true, decide_false, Bool.true_and, Bool.false_and, Bool.or_false]
    · have h1 : 64 - R ≤ i := by omega
      have h2 : i - (64 - R) < 64 := by omega
      have e1 : i - (64 - R) + 64 * (k + 1) = i + 64 * k + R := by omega
      simp only [hi, hr, h1, h2, e1, decide_true, decide_false, Bool.true_and, Bool.false_and, Bool.false_or]
  · have h1 : ¬ (i + R < 64) := by omega
    simp only [hi, h1, decide_false, Bool.false_and, Bool.or_false]
def leftW (a n : Nat) : Nat := a * 2 ^ n % 2 ^ 256
def rightW (a n : Nat) : Nat := a / 2 ^ n
theorem leftW_lt (a n : Nat) : leftW a n < 2 ^ 256 := Nat.mod_lt _ (by decide)
theorem rightW_lt {a : Nat} (n : Nat) (h : a < 2 ^ 256) : rightW a n < 2 ^ 256 := Nat.lt_of_le_of_lt (Nat.div_le_self _ _) h
theorem leftW_lm {a : Nat} {n : Int} {q : Nat} (h : 0 ≤ n) (hq : n / 64 = q) (k : Nat) (hk : k + q < 4) : lm (leftW a n.toNat) (k + q) = lm (a * 2 ^ (n % 64).toNat) k := by
  rw [leftW, lm_mod _ _ hk]
  have e : n.toNat = 64 * q + (n % 64).toNat := by omega
  rw [e]
  generalize (n % 64).toNat = r
  simp only [lm]
  congr 2
  rw [Nat.pow_add, Nat.mul_add 64 k q, Nat.pow_add, Nat.mul_comm (2 ^ (64 * q)), ← Nat.mul_assoc]
  exact Nat.mul_div_mul_right _ _ (Nat.two_pow_pos _)
theorem leftW_lo {a : Nat} {n : Int} {q : Nat} (h : 0 ≤ n) (hq : n / 64 = q) (k : Nat) (hk : k < q) (hk4 : k < 4) : lm (leftW a n.toNat) k = 0 := by
  rw [leftW, lm_mod _ _ hk4]
  have e : n.toNat = 64 * (k + 1) + (64 * (q - k - 1) + (n % 64).toNat) := by omega
  rw [e]
  generalize 64 * (q - k - 1) + (n % 64).toNat = r
  simp only [lm]
  rw [Nat.pow_add, pow_succ64, ← Nat.mul_assoc, Nat.mul_comm a, Nat.mul_assoc, Nat.mul_assoc, Nat.mul_div_cancel_left _ (Nat.two_pow_pos _)]
  simp
theorem rightW_lm {a : Nat} {n : Int} {q : Nat} (h : 0 ≤ n) (hq : n / 64 = q) (k : Nat) : lm (rightW a n.toNat) k = lm (a / 2 ^ (n % 64).toNat) (k + q) := by
  rw [rightW]
  have e : n.toNat = 64 * q + (n % 64).toNat := by omega
  rw [e]
  generalize (n % 64).toNat = r
  simp only [lm]
  congr 2
  rw [Nat.pow_add, Nat.div_div_eq_div_mul, Nat.div_div_eq_div_mul, Nat.mul_add 64 k q, Nat.pow_add]
  congr 1
  rw [Nat.mul_comm (2 ^ (64 * q)), Nat.mul_assoc, Nat.mul_comm (2 ^ (64 * q))]
theorem rightW_hi {a : Nat} (ha : a < 2 ^ 256) (k : Nat) (hk : 4 ≤ k) (r : Nat) : lm (a / 2 ^ r) k = 0 := by
  have : a / 2 ^ r / 2 ^ (64 * k) = 0 := by
    rw [Nat.div_eq_of_lt]
    exact Nat.lt_of_le_of_lt (Nat.div_le_self _ _) (Nat.lt_of_lt_of_le ha (Nat.pow_le_pow_right (by decide) (by omega)))
  simp [lm, this]
theorem leftW_zero {a : Nat} {n : Int} (h : 256 ≤ n) : leftW a n.toNat = 0 := by
  have e : n.toNat = 256 + (n.toNat - 256) := by omega
  rw [leftW, e, Nat.pow_add, ← Nat.mul_assoc, Nat.mul_comm a, Nat.mul_assoc, Nat.mul_mod_right]
theorem leftW_none {a : Nat} (ha : a < 2 ^ 256) {n : Int} (h : n < 1) : leftW a n.toNat = a := by
  have e : n.toNat = 0 := by omega
  rw [leftW, e]; simp; omega
theorem rightW_none {a : Nat} {n : Int} (h : n < 1) : rightW a n.toNat = a := by
  have e : n.toNat = 0 := by omega
  rw [rightW, e]; simp
theorem rightW_zero {a : Nat} (ha : a < 2 ^ 256) {n : Int} (h : 256 ≤ n) : rightW a n.toNat = 0 := by
  rw [rightW, Nat.div_eq_of_lt]
  exact Nat.lt_of_lt_of_le ha (Nat.pow_le_pow_right (by decide) (by omega))
theorem lm_ext {a b : Nat} (ha : a < 2 ^ 256) (hb : b < 2 ^ 256) (h0 : lm a 0 = lm b 0) (h1 : lm a 1 = lm b 1) (h2 : lm a 2 = lm b 2) (h3 : lm a 3 = lm b 3) : a = b := by
  simp only [lm] at h0 h1 h2 h3
  omega
def DivInv (a b t r : Nat) (i : Int) : Prop := a = t * b + r ∧ r < b * 2 ^ (i + 1).toNat ∧ t % 2 ^ (i + 1).toNat = 0
def wp (x j q : Nat) : Int := ((x / 2 ^ (64 * q) % 2 ^ 64 / 65536 ^ (j - 4 * q) : Nat) : Int)
def nd (x : Nat) : Nat := (blen x + 15) / 16
def RInv (x y r t : Nat) (i : Int) : Prop := r = x / 2 ^ (i + 1).toNat % y ∧ t = x / 2 ^ (i + 1).toNat / y * 2 ^ (i + 1).toNat
theorem cmpI_ge (x y : Nat) : (0 ≤ cmpI x y ↔ y ≤ x) ∧ (cmpI x y < 0 ↔ x < y) ∧ (0 < cmpI x y ↔ y < x) := by
  unfold cmpI
  by_cases h : x < y
  · rw [if_pos h]; omega
  · rw [if_neg h]
    by_cases h2 : y < x
    · rw [if_pos h2]; omega
    · rw [if_neg h2]; omega
/-! ### Four bytes for a target -/
def expT (b : Nat) : Nat := if b / 16777216 ≤ 3 then b % 8388608 / 256 ^ (3 - b / 16777216) else b % 8388608 * 256 ^ (b / 16777216 - 3)
def easiestN : Nat := 8388607 * 256 ^ 29
def expOK (b : Nat) : Bool := decide (b / 8388608 % 2 = 0 ∧ expT b ≠ 0 ∧ expT b ≤ easiestN)
def tgt (b : Nat) : Nat := if expOK b then expT b else 0
def elen (b : Nat) : Nat := if expOK b then 2 + (b / 16777216 - 3) else 0
def eerr (b : Nat) : Int := if expOK b then 0 else 121
theorem easiest_lt : easiestN < 2 ^ 256 := by decide
theorem tgt_le (b : Nat) : tgt b ≤ easiestN := by
  unfold tgt; split
  · rename_i h
    exact (of_decide_eq_true h).2.2
  · omega
theorem tgt_lt (b : Nat) : tgt b < 2 ^ 256 := Nat.lt_of_le_of_lt (tgt_le b) easiest_lt
theorem expOK_no {b : Nat} (h : ¬ (b / 8388608 % 2 = 0 ∧ expT b ≠ 0 ∧ expT b ≤ easiestN)) : expOK b = false := decide_eq_false h
theorem expOK_yes {b : Nat} (h : b / 8388608 % 2 = 0 ∧ expT b ≠ 0 ∧ expT b ≤ easiestN) : expOK b = true := decide_eq_true h
theorem exp_bad {b : Nat} (h : ¬ (b / 8388608 % 2 = 0 ∧ expT b ≠ 0 ∧ expT b ≤ easiestN)) : tgt b = 0 ∧ elen b = 0 ∧ eerr b = 121 := by
  have := expOK_no h
  simp [tgt, elen, eerr, this]
theorem exp_good {b : Nat} (h : b / 8388608 % 2 = 0 ∧ expT b ≠ 0 ∧ expT b ≤ easiestN) : tgt b = expT b ∧ elen b = 2 + (b / 16777216 - 3) ∧ eerr b = 0 := by
  have := expOK_yes h
  simp [tgt, elen, eerr, this]
theorem m23_lt (b : Nat) : b % 8388608 < 8388608 := Nat.mod_lt _ (by decide)
theorem pow256 (k : Nat) : 256 ^ k = 2 ^ (8 * k) := by rw [Nat.pow_mul]
theorem exp_small {b : Nat} (h : b / 16777216 ≤ 3) : rightW (b % 8388608) (8 * (3 - ((b / 16777216 : Nat) : Int))).toNat = expT b := by
  rw [expT, if_pos h, pow256, rightW, show (8 * (3 - ((b / 16777216 : Nat) : Int))).toNat = 8 * (3 - b / 16777216) by omega]
theorem blen_mul_pow {m k : Nat} (h : m ≠ 0) : blen (m * 2 ^ k) = blen m + k := by
  have := blen_shift (d := m) (r := 0) (k := k) h (Nat.two_pow_pos _)
  rw [Nat.zero_add, Nat.mul_comm] at this
  omega
theorem exp_big {b : Nat} (h : ¬ b / 16777216 ≤ 3) (hb : ((blen (b % 8388608) : Nat) : Int) + 8 * (((b / 16777216 : Nat) : Int) - 3) ≤ 256) : leftW (b % 8388608) (8 * (((b / 16777216 : Nat) : Int) - 3)).toNat = expT b := by
  rw [expT, if_neg h, pow256, leftW, show (8 * (((b / 16777216 : Nat) : Int) - 3)).toNat = 8 * (b / 16777216 - 3) by omega]
  refine Nat.mod_eq_of_lt ?_
  have h1 := blen_lt (b % 8388608)
  calc b % 8388608 * 2 ^ (8 * (b / 16777216 - 3)) < 2 ^ blen (b % 8388608) * 2 ^ (8 * (b / 16777216 - 3)) := (Nat.mul_lt_mul_right (Nat.two_pow_pos _)).2 h1
    _ = 2 ^ (blen (b % 8388608) + 8 * (b / 16777216 - 3)) := by rw [Nat.pow_add]
    _ ≤ 2 ^ 256 := Nat.pow_le_pow_right (by decide) (by omega)
theorem exp_over {b : Nat} (h : ¬ b / 16777216 ≤ 3) (hb : (256 : Int) < ((blen (b % 8388608) : Nat) : Int) + 8 * (((b / 16777216 : Nat) : Int) - 3)) : ¬ (expT b ≠ 0 ∧ expT b ≤ easiestN) := by
  intro ⟨h1, h2⟩
  rw [expT, if_neg h, pow256] at h1 h2
  have hm : b % 8388608 ≠ 0 := fun h0 => h1 (by rw [h0]; simp)
  have h3 := blen_mul_pow (k := 8 * (b / 16777216 - 3)) hm
  have h4 : b % 8388608 * 2 ^ (8 * (b / 16777216 - 3)) < 2 ^ 256 := Nat.lt_of_le_of_lt h2 easiest_lt
  have := blen_le_of h4
  omega
def workN (b : Nat) : Nat := if expOK b then 2 ^ 256 / (expT b + 1) else 0
def wlen (b : Nat) : Nat := if expOK b then 17 else 0
/-! ### A number in four bytes -/
def bsz (a : Nat) : Nat := (blen a + 7) / 8
def topM (a : Nat) : Nat := if bsz a < 3 then a * 256 ^ (3 - bsz a) else a / 256 ^ (bsz a - 3)
def cmpt (a : Nat) : Nat := if 8388608 ≤ topM a then topM a / 256 + 16777216 * (bsz a + 1) else topM a + 16777216 * bsz a
def byt (m x i : Nat) : Int := ((x / 256 ^ (m - 1 - i) % 256 : Nat) : Int)
def szC (a : Nat) : Nat := if 8388608 ≤ topM a then bsz a + 1 else bsz a
def manC (a : Nat) : Nat := if 8388608 ≤ topM a then topM a / 256 else topM a
def keep (a : Nat) : Nat := if szC a ≤ 3 then a else a / 256 ^ (szC a - 3) * 256 ^ (szC a - 3)
/-! ### A product of two numbers of 256 bits, word by word -/
def mP (a b i : Nat) : Nat := a % 2 ^ (64 * i) * b
def mT (a b i j : Nat) : Nat := a % 2 ^ (64 * i) * b + a / 2 ^ (64 * i) % 2 ^ 64 * (b % 2 ^ (64 * j)) * 2 ^ (64 * i)
def mc (a b i j : Nat) : Int := ((mT a b i j / 2 ^ (64 * (i + j)) : Nat) : Int) - ((mP a b i / 2 ^ (64 * (i + j)) : Nat) : Int)
def mulLo (a b : Nat) : Nat := a * b % 2 ^ 256
def mulHi (a b : Nat) : Nat := a * b / 2 ^ 256
def spanN (f l : Nat) : Nat := (max 1050 (min ((l : Int) - f) 16800)).toNat
def nextT (b f l : Nat) : Nat := tgt b * spanN f l / 4200
def restN (b f l : Nat) : Nat := tgt b % 4200 * spanN f l / 4200
def nextN (b f l : Nat) : Nat := if eerr b = 0 then (if easiestN < nextT b f l then 545259519 else cmpt (nextT b f l)) else 545259519
end Go.Vm.Wd

namespace Go.Vm.Wd
open Go.RowKit
set_option linter.unusedVariables false
set_option linter.constructorNameAsVariable false

def len8tab : ByteArray := ⟨#[0, 1, 2, 2, 3, 3, 3, 3, 4, 4, 4, 4, 4, 4, 4, 4, 5, 5, 5, 5, 5, 5, 5, 5, 5, 5, 5, 5, 5, 5, 5, 5, 6, 6, 6, 6, 6, 6, 6, 6, 6, 6, 6, 6, 6, 6, 6, 6, 6, 6, 6, 6, 6, 6, 6, 6, 6, 6, 6, 6, 6, 6, 6, 6, 7, 7, 7, 7, 7, 7, 7, 7, 7, 7, 7, 7, 7, 7, 7, 7, 7, 7, 7, 7, 7, 7, 7, 7, 7, 7, 7, 7, 7, 7, 7, 7, 7, 7, 7, 7, 7, 7, 7, 7, 7, 7, 7, 7, 7, 7, 7, 7, 7, 7, 7, 7, 7, 7, 7, 7, 7, 7, 7, 7, 7, 7, 7, 7, 8, 8, 8, 8, 8, 8, 8, 8, 8, 8, 8, 8, 8, 8, 8, 8, 8, 8, 8, 8, 8, 8, 8, 8, 8, 8, 8, 8, 8, 8, 8, 8, 8, 8, 8, 8, 8, 8, 8, 8, 8, 8, 8, 8, 8, 8, 8, 8, 8, 8, 8, 8, 8, 8, 8, 8, 8, 8, 8, 8, 8, 8, 8, 8, 8, 8, 8, 8, 8, 8, 8, 8, 8, 8, 8, 8, 8, 8, 8, 8, 8, 8, 8, 8, 8, 8, 8, 8, 8, 8, 8, 8, 8, 8, 8, 8, 8, 8, 8, 8, 8, 8, 8, 8, 8, 8, 8, 8, 8, 8, 8, 8, 8, 8, 8, 8, 8, 8, 8, 8, 8, 8, 8, 8, 8, 8, 8, 8]⟩
theorem len8_all : ∀ k : Fin 256, (len8tab.data.getD k.val 0).toNat = blen k.val := by decide +kernel
theorem len8_size : len8tab.size = 256 := by decide +kernel

theorem len8_at {k : Int} (h : 0 ≤ k ∧ k ≤ 255) : (((len8tab.data.getD k.toNat 0).toNat : Nat) : Int) = blen k.toNat := by
  exact congrArg (fun n : Nat => (n : Int)) (len8_all ⟨k.toNat, by omega⟩)
variable {R : Type}
/-! ### math/bits.Len64 -/
def l8V : List V := txt len8tab
abbrev W8 (n : Int) : Int := IntKind.wrap .u8 n
def lnE (n w : Int) (k : Int → Option R) : Option R := bif ile 0 (W8 n) && ilt (W8 n) (l8V.length : Nat) then k (W64 (w + W64 (l8V.getD (W8 n).toNat .n).int)) else none
def ln8 (n w : Int) (k : Int → Option R) : Option R := bif ile 256 n then lnE (n.fdiv (2 ^ 8)) (W64 (w + 8)) k else lnE n w k
def ln16 (n w : Int) (k : Int → Option R) : Option R := bif ile 65536 n then ln8 (n.fdiv (2 ^ 16)) (W64 (w + 16)) k else ln8 n w k
def ln64 (n : Int) (k : Int → Option R) : Option R := bif ile 4294967296 n then ln16 (n.fdiv (2 ^ 32)) 32 k else ln16 n 0 k
theorem l8_len : l8V.length = 256 := by
  show (len8tab.data.toList.map _).length = 256
  rw [List.length_map, Array.length_toList]; exact len8_size
theorem l8_at {i : Int} (h : 0 ≤ i ∧ i ≤ 255) : (l8V.getD i.toNat .n).int = (blen i.toNat : Int) := by
  rw [← len8_at h]
  have hs : i.toNat < len8tab.data.size := by have := len8_size; show _ < len8tab.size; omega
  show ((len8tab.data.toList.map fun b => V.i (b.toNat : Int)).getD i.toNat .n).int = _
  rw [List.getD_eq_getElem?_getD, List.getElem?_map, Array.getElem?_toList, Array.getElem?_eq_getElem hs, Array.getD_eq_getD_getElem?, Array.getElem?_eq_getElem hs]
  rfl
theorem w8_in {n : Int} (h : 0 ≤ n ∧ n ≤ 255) : W8 n = n := wrap_in h
theorem lnE_law {n w : Int} {k : Int → Option R} (h : 0 ≤ n ∧ n ≤ 255) (hw : 0 ≤ w ∧ w ≤ 60) : lnE n w k = k (w + (blen n.toNat : Int)) := by
  unfold lnE
  have hb := blen_small (n := n.toNat) (by omega)
  rw [w8_in h, ile_iff.2 h.1, l8_len, l8_at h, w64_in (n := (blen n.toNat : Int)) (by omega) (by omega), w64_in (by omega) (by omega), show ilt n (256 : Nat) = true by simp [ilt]; omega]
  simp only [Bool.and_self, cond_true]
theorem fd {n : Int} (k : Nat) (h : 0 ≤ n) : n.fdiv ((2 : Int) ^ k) = n / ((2 ^ k : Nat) : Int) := by
  rw [Int.fdiv_eq_ediv_of_nonneg _ (by exact Int.le_of_lt (Int.pow_pos (by decide)))]
  congr 1
theorem ln8_law {n w : Int} {k : Int → Option R} (h : 0 ≤ n ∧ n ≤ 65535) (hw : 0 ≤ w ∧ w ≤ 48) : ln8 n w k = k (w + (blen n.toNat : Int)) := by
  unfold ln8
  cases hc : ile 256 n with
  | false =>
    have hc : n < 256 := by cases hq : decide (n < 256) with | true => exact of_decide_eq_true hq | false => have := of_decide_eq_false hq; rw [ile_iff.2 (by omega)] at hc; cases hc
    exact lnE_law (by omega) (by omega)
  | true =>
    have hc := ile_iff.1 hc
    have e := blen_cut (x := n) 8 (by omega)
    rw [fd 8 h.1, w64_in (by omega) (by omega), cond_true, lnE_law (by omega) (by omega), e]
    congr 1; omega
theorem ile_no {a b : Int} (h : ile a b = false) : b < a := by
  by_cases hc : a ≤ b
  · rw [ile_iff.2 hc] at h; cases h
  · omega
theorem ln16_law {n w : Int} {k : Int → Option R} (h : 0 ≤ n ∧ n ≤ 4294967295) (hw : 0 ≤ w ∧ w ≤ 32) : ln16 n w k = k (w + (blen n.toNat : Int)) := by
  unfold ln16
  cases hc : ile 65536 n with
  | false => have hc := ile_no hc; exact ln8_law (by omega) (by omega)
  | true =>
    have hc := ile_iff.1 hc
    have e := blen_cut (x := n) 16 (by omega)
    rw [fd 16 h.1, w64_in (by omega) (by omega), cond_true, ln8_law (by omega) (by omega), e]
    congr 1; omega
theorem ln64_law {n : Int} {k : Int → Option R} (h : 0 ≤ n ∧ n ≤ 18446744073709551615) : ln64 n k = k (blen n.toNat : Int) := by
  unfold ln64
  cases hc : ile 4294967296 n with
  | false => have hc := ile_no hc; simp only [cond_false]; rw [ln16_law (by omega) (by omega)]; congr 1; omega
  | true =>
    have hc := ile_iff.1 hc
    have e := blen_cut (x := n) 32 (by omega)
    rw [fd 32 h.1, cond_true, ln16_law (by omega) (by omega), e]
    congr 1
/-! ### Add64, Sub64 -/
def carryC : SymC := fun R args of nx k => match args with
  | [.i .u64 x, .i .u64 y, .i .u64 c] => bif ile 0 c && ile c 1 then k (.pv nx (.t [.i .u64 ((x + y + c) % 18446744073709551616), .i .u64 ((x + y + c) / 18446744073709551616)]) []) else none
  | _ => none
def borrowC : SymC := fun R args of nx k => match args with
  | [.i .u64 x, .i .u64 y, .i .u64 c] => bif ile 0 c && ile c 1 then k (.pv nx (.t [.i .u64 ((x - y - c) % 18446744073709551616), .i .u64 (bif ilt x (y + c) then 1 else 0)]) []) else none
  | _ => none
theorem carryC_dir : carryC.dir = carry64 := by
  funext args of nx
  unfold SymC.dir carryC carry64
  split
  · rename_i x y c
    show (bif ile 0 c && ile c 1 then _ else _) = (if (ile 0 c && ile c 1) = true then _ else _)
    cases (ile 0 c && ile c 1) <;> rfl
  · rename_i h
    split
    · exact absurd rfl (h _ _ _)
    · rfl
theorem borrowC_dir : borrowC.dir = borrow64 := by
  funext args of nx
  unfold SymC.dir borrowC borrow64
  split
  · rename_i x y c
    show (bif ile 0 c && ile c 1 then _ else _) = (if (ile 0 c && ile c 1) = true then _ else _)
    cases (ile 0 c && ile c 1) <;> rfl
  · rename_i h
    split
    · exact absurd rfl (h _ _ _)
    · rfl
theorem carryC_nat : carryC.nat := by
  intro R args of nx k
  unfold SymC.dir carryC
  split
  · rename_i x y c; cases (ile 0 c && ile c 1) <;> rfl
  · rfl
theorem borrowC_nat : borrowC.nat := by
  intro R args of nx k
  unfold SymC.dir borrowC
  split
  · rename_i x y c; cases (ile 0 c && ile c 1) <;> rfl
  · rfl
/-! ### Numbers of 256 bits -/
def wV (a : Nat) : V := .l [.i (lm a 0), .i (lm a 1), .i (lm a 2), .i (lm a 3)]
def wN (x : V) : Nat := (x.nth 0).int.toNat + 2 ^ 64 * ((x.nth 1).int.toNat + 2 ^ 64 * ((x.nth 2).int.toNat + 2 ^ 64 * (x.nth 3).int.toNat))
abbrev DWide : D := .arr 4 (.int .u64)
theorem wide_v {x : V} (h : DWide.has x) : ∃ a, a < 2 ^ 256 ∧ x = wV a ∧ wN x = a := by
  obtain ⟨ys, rfl, hl, hy⟩ := h
  match ys, hl with
  | [p, q, r, s], _ =>
    obtain ⟨p, rfl, hp⟩ := hy p (by simp)
    obtain ⟨q, rfl, hq⟩ := hy q (by simp)
    obtain ⟨r, rfl, hr⟩ := hy r (by simp)
    obtain ⟨s, rfl, hs⟩ := hy s (by simp)
    simp only [inR, lo, hi] at hp hq hr hs
    obtain ⟨p, rfl⟩ := Int.eq_ofNat_of_zero_le hp.1
    obtain ⟨q, rfl⟩ := Int.eq_ofNat_of_zero_le hq.1
    obtain ⟨r, rfl⟩ := Int.eq_ofNat_of_zero_le hr.1
    obtain ⟨s, rfl⟩ := Int.eq_ofNat_of_zero_le hs.1
    have e : wN (.l [.i p, .i q, .i r, .i s]) = p + 2 ^ 64 * (q + 2 ^ 64 * (r + 2 ^ 64 * s)) := rfl
    refine ⟨_, ?_, ?_, rfl⟩
    · rw [e]; omega
    · rw [e]
      have h0 : lm (p + 2 ^ 64 * (q + 2 ^ 64 * (r + 2 ^ 64 * s))) 0 = p := by unfold lm; rw [Nat.mul_zero, Nat.pow_zero, Nat.div_one]; omega
      have h1 : lm (p + 2 ^ 64 * (q + 2 ^ 64 * (r + 2 ^ 64 * s))) 1 = q := by unfold lm; omega
      have h2 : lm (p + 2 ^ 64 * (q + 2 ^ 64 * (r + 2 ^ 64 * s))) 2 = r := by
        unfold lm
        rw [show 2 ^ (64 * 2) = 2 ^ 64 * 2 ^ 64 from rfl, ← Nat.div_div_eq_div_mul]; omega
      have h3 : lm (p + 2 ^ 64 * (q + 2 ^ 64 * (r + 2 ^ 64 * s))) 3 = s := by
        unfold lm
        rw [show 2 ^ (64 * 3) = 2 ^ 64 * 2 ^ 64 * 2 ^ 64 from rfl, ← Nat.div_div_eq_div_mul, ← Nat.div_div_eq_div_mul]; omega
      unfold wV
      rw [h0, h1, h2, h3]
theorem wN_wV {a : Nat} (h : a < 2 ^ 256) : wN (wV a) = a := by
  have hd : DWide.has (wV a) := ⟨_, rfl, rfl, fun y hy => by
    simp only [List.mem_cons, List.not_mem_nil, or_false] at hy
    rcases hy with rfl | rfl | rfl | rfl <;> exact ⟨_, rfl, lm_lo _ _, by have := lm_hi a 0; have := lm_hi a 1; have := lm_hi a 2; have := lm_hi a 3; simp only [hi]; omega⟩⟩
  obtain ⟨b, hb, e, e2⟩ := wide_v hd
  rw [e2]
  unfold wV at e
  simp only [V.l.injEq, List.cons.injEq, V.i.injEq, and_true] at e
  obtain ⟨q0, q1, q2, q3⟩ := e
  exact (lm_ext h hb q0 q1 q2 q3).symm
theorem wV_inj {a b : Nat} (ha : a < 2 ^ 256) (hb : b < 2 ^ 256) : veq (wV a) (wV b) = decide (a = b) := by
  rw [Bool.eq_iff_iff, veq_iff, decide_eq_true_iff]
  exact ⟨fun e => by rw [← wN_wV ha, e, wN_wV hb], fun e => by rw [e]⟩
theorem wV_has (a : Nat) : DWide.has (wV a) := ⟨_, rfl, rfl, fun y hy => by
    simp only [List.mem_cons, List.not_mem_nil, or_false] at hy
    rcases hy with rfl | rfl | rfl | rfl <;> exact ⟨_, rfl, lm_lo _ _, by have := lm_hi a 0; have := lm_hi a 1; have := lm_hi a 2; have := lm_hi a 3; simp only [hi]; omega⟩⟩
end Go.Vm.Wd

namespace Go.Vm.Wd
open Go.RowKit
set_option linter.unusedVariables false
set_option linter.constructorNameAsVariable false
variable {R : Type}

/-! ### wide: Bits, Sub, Add -/
def biG (a b c d : Int) (k : Int → Option R) : Option R :=
  bif !ieq d 0 then k (W64 (W64 (64 * 3) + (blen d.toNat : Int))) else bif !ieq c 0 then k (W64 (W64 (64 * 2) + (blen c.toNat : Int))) else
  bif !ieq b 0 then k (W64 (W64 (64 * 1) + (blen b.toNat : Int))) else bif !ieq a 0 then k (W64 (W64 (64 * 0) + (blen a.toNat : Int))) else k 0
theorem ieq_lm {x : Int} : ieq x 0 = decide (x = 0) := by
  rw [Bool.eq_iff_iff, ieq_iff, decide_eq_true_iff]
theorem biG_law {a : Nat} (ha : a < 2 ^ 256) (k : Int → Option R) : biG (lm a 0) (lm a 1) (lm a 2) (lm a 3) k = k (blen a : Int) := by
  obtain ⟨h3, h2, h1, h0⟩ := blen_limb ha
  have hb := blen_le_of ha
  have r : ∀ j, blen (lm a j).toNat ≤ 64 := fun j => blen_u64 (lm_rng a j)
  have r0 := r 0
  have r1 := r 1
  have r2 := r 2
  have r3 := r 3
  unfold biG
  rw [show W64 (64 * 3) = 192 from by decide, show W64 (64 * 2) = 128 from by decide, show W64 (64 * 1) = 64 from by decide, show W64 (64 * 0) = 0 from by decide]
  simp only [ieq_lm]
  by_cases c3 : lm a 3 = 0
  · by_cases c2 : lm a 2 = 0
    · by_cases c1 : lm a 1 = 0
      · have e := h0 c3 c2 c1
        by_cases c0 : lm a 0 = 0
        · rw [c0] at e
          simp only [c0, c1, c2, c3, decide_true, Bool.not_true, cond_false]
          congr 1
        · simp only [c0, c1, c2, c3, decide_true, decide_false, Bool.not_true, Bool.not_false, cond_false, cond_true]
          rw [w64_in (by omega) (by omega)]; congr 1; omega
      · have e := h1 c3 c2 c1
        simp only [c1, c2, c3, decide_true, decide_false, Bool.not_true, Bool.not_false, cond_false, cond_true]
        rw [w64_in (by omega) (by omega)]; congr 1
    · have e := h2 c3 c2
      simp only [c2, c3, decide_true, decide_false, Bool.not_true, Bool.not_false, cond_false, cond_true]
      rw [w64_in (by omega) (by omega)]; congr 1
  · have e := h3 c3
    simp only [c3, decide_false, Bool.not_false, cond_true]
    rw [w64_in (by omega) (by omega)]; congr 1
def bwI (x y c : Int) : Int := bif ilt x (y + c) then 1 else 0
def sbI (x y c : Int) : Int := (x - y - c) % 18446744073709551616
def adI (x y c : Int) : Int := (x + y + c) % 18446744073709551616
def cyI (x y c : Int) : Int := (x + y + c) / 18446744073709551616
def cK (c : Int) (k : Option R) : Option R := bif ile 0 c && ile c 1 then k else none
theorem cK_in {c : Int} {k : Option R} (h : 0 ≤ c ∧ c ≤ 1) : cK c k = k := by
  unfold cK; rw [ile_iff.2 h.1, ile_iff.2 h.2]; rfl
def suG (a0 a1 a2 a3 b0 b1 b2 b3 : Int) (k : V → Bool → Option R) : Option R :=
  cK 0 <| cK (bwI a0 b0 0) <| cK (bwI a1 b1 (bwI a0 b0 0)) <| cK (bwI a2 b2 (bwI a1 b1 (bwI a0 b0 0))) <|
  (fun x q => bif q then k x true else k x false) (.l [.i (sbI a0 b0 0), .i (sbI a1 b1 (bwI a0 b0 0)), .i (sbI a2 b2 (bwI a1 b1 (bwI a0 b0 0))), .i (sbI a3 b3 (bwI a2 b2 (bwI a1 b1 (bwI a0 b0 0))))]) (ieq (bwI a3 b3 (bwI a2 b2 (bwI a1 b1 (bwI a0 b0 0)))) 1)
def adG (a0 a1 a2 a3 b0 b1 b2 b3 : Int) (k : V → Bool → Option R) : Option R :=
  cK 0 <| cK (cyI a0 b0 0) <| cK (cyI a1 b1 (cyI a0 b0 0)) <| cK (cyI a2 b2 (cyI a1 b1 (cyI a0 b0 0))) <|
  (fun x q => bif q then k x true else k x false) (.l [.i (adI a0 b0 0), .i (adI a1 b1 (cyI a0 b0 0)), .i (adI a2 b2 (cyI a1 b1 (cyI a0 b0 0))), .i (adI a3 b3 (cyI a2 b2 (cyI a1 b1 (cyI a0 b0 0))))]) (ieq (cyI a3 b3 (cyI a2 b2 (cyI a1 b1 (cyI a0 b0 0)))) 1)
theorem bwI_eq (a b k : Nat) : bwI (lm a k) (lm b k) (bw a b k) = bw a b (k + 1) := by
  rw [← sub_bw]; unfold bwI ilt
  by_cases h : lm a k < lm b k + bw a b k <;> simp [h]
theorem ieq_beq (x : Int) : ieq x 1 = (x == 1) := by
  rw [Bool.eq_iff_iff, ieq_iff]; simp
theorem suG_law {a b : Nat} (ha : a < 2 ^ 256) (hb : b < 2 ^ 256) (k : V → Bool → Option R) : suG (lm a 0) (lm a 1) (lm a 2) (lm a 3) (lm b 0) (lm b 1) (lm b 2) (lm b 3) k = k (wV (subW a b)) (decide (a < b)) := by
  unfold suG
  have z : (0 : Int) = bw a b 0 := (bw_zero a b).symm
  have r : ∀ j, 0 ≤ bw a b j ∧ bw a b j ≤ 1 := fun j => ⟨bw_lo a b j, bw_hi a b j⟩
  have e0 : bwI (lm a 0) (lm b 0) 0 = bw a b 1 := by rw [z]; exact bwI_eq a b 0
  rw [e0, bwI_eq a b 1, bwI_eq a b 2, bwI_eq a b 3, cK_in (by omega), cK_in (r 1), cK_in (r 2), cK_in (r 3), ieq_beq, bw_4 ha hb]
  have s : ∀ j, j < 4 → sbI (lm a j) (lm b j) (bw a b j) = lm (subW a b) j := fun j hj => subW_lm j hb hj
  have s0 : sbI (lm a 0) (lm b 0) 0 = lm (subW a b) 0 := by rw [z]; exact s 0 (by omega)
  rw [s0, s 1 (by omega), s 2 (by omega), s 3 (by omega)]; cases decide (a < b) <;> rfl
theorem adG_law {a b : Nat} (ha : a < 2 ^ 256) (hb : b < 2 ^ 256) (k : V → Bool → Option R) : adG (lm a 0) (lm a 1) (lm a 2) (lm a 3) (lm b 0) (lm b 1) (lm b 2) (lm b 3) k = k (wV (addW a b)) (decide (2 ^ 256 ≤ a + b)) := by
  unfold adG
  have z : (0 : Int) = cy a b 0 := (cy_zero a b).symm
  have r : ∀ j, 0 ≤ cy a b j ∧ cy a b j ≤ 1 := fun j => ⟨cy_lo a b j, cy_hi a b j⟩
  have c : ∀ j, cyI (lm a j) (lm b j) (cy a b j) = cy a b (j + 1) := fun j => add_cy a b j
  have e0 : cyI (lm a 0) (lm b 0) 0 = cy a b 1 := by rw [z]; exact c 0
  rw [e0, c 1, c 2, c 3, cK_in (by omega), cK_in (r 1), cK_in (r 2), cK_in (r 3), ieq_beq, cy_4 ha hb]
  have s : ∀ j, j < 4 → adI (lm a j) (lm b j) (cy a b j) = lm (addW a b) j := fun j hj => addW_lm a b j hj
  have s0 : adI (lm a 0) (lm b 0) 0 = lm (addW a b) 0 := by rw [z]; exact s 0 (by omega)
  rw [s0, s 1 (by omega), s 2 (by omega), s 3 (by omega)]; cases decide (2 ^ 256 ≤ a + b) <;> rfl
end Go.Vm.Wd

namespace Go.Vm.Wd
open Go.RowKit
set_option linter.unusedVariables false
set_option linter.constructorNameAsVariable false
variable {R : Type}

/-! ### wide: Left, Right -/
inductive PLf where
  | m (x r0 r : V) (n i : Int)
inductive QLf where
  | o (x r0 r : V) (n i : Int)
def ck4 (i : Int) (k : Option R) : Option R := bif ile 0 i && ilt i (4 : Nat) then k else none
def p0 (i : Int) (k : Option R) : Option R := bif ile 0 i then k else none
abbrev qI (n : Int) : Int := W64 (n.tdiv 64)
def shlU (x s : Int) : Int := IntKind.wrap .u64 (x * 2 ^ min s.toNat IntKind.u64.bits)
def shrU (x s : Int) : Int := x.fdiv (2 ^ min s.toNat IntKind.u64.bits)
def lfA (x r : V) (n i : Int) : V := r.put i.toNat (.i (shlU (elV x (W64 (i - qI n))) (n.tmod 64)))
def lfB (x r : V) (n i : Int) : V := r.put i.toNat (.i (bitsOf .or .u64 (elV r i) (shrU (elV x (W64 (W64 (i - qI n) - 1))) (W64 (64 - n.tmod 64)))))
def BLf (R : Type) (p : PLf) (K : PLf → Option R) (kx : QLf → Option R) : Option R :=
  match p with
  | .m x r0 r n i => bif ile 0 i then bif ilt i 4 then ck4 (W64 (i - qI n)) <| p0 (n.tmod 64) <| ck4 i <| (bif ilt (qI n) i then ck4 i <| ck4 (W64 (W64 (i - qI n) - 1)) <| p0 (W64 (64 - n.tmod 64)) <| ck4 i <|
      K (.m x r0 (lfB x (lfA x r n i) n i) n (W64 (i + 1))) else K (.m x r0 (lfA x r n i) n (W64 (i + 1)))) else kx (.o x r0 r n i) else kx (.o x r0 r n i)
def w0V : V := .l (List.replicate 4 (.i 0))
noncomputable def lfG (x : V) (n : Int) (k : V → Option R) : Option R :=
  bif ilt n 1 then k x else lpC (BLf R) (hid FU) (.m x w0V w0V n (qI n)) (fun | .o x r0 r n i => k r)
inductive PRg where
  | m (x r0 r : V) (n i : Int)
inductive QRg where
  | o (x r0 r : V) (n i : Int)
def rgA (x r : V) (n i : Int) : V := r.put i.toNat (.i (shrU (elV x (W64 (i + qI n))) (n.tmod 64)))
def rgB (x r : V) (n i : Int) : V := r.put i.toNat (.i (bitsOf .or .u64 (elV r i) (shlU (elV x (W64 (W64 (i + qI n) + 1))) (W64 (64 - n.tmod 64)))))
def BRg (R : Type) (p : PRg) (K : PRg → Option R) (kx : QRg → Option R) : Option R :=
  match p with
  | .m x r0 r n i => bif ilt (W64 (i + qI n)) 4 then ck4 (W64 (i + qI n)) <| p0 (n.tmod 64) <| ck4 i <| (bif ilt (W64 (W64 (i + qI n) + 1)) 4 then ck4 i <| ck4 (W64 (W64 (i + qI n) + 1)) <| p0 (W64 (64 - n.tmod 64)) <| ck4 i <|
      K (.m x r0 (rgB x (rgA x r n i) n i) n (W64 (i + 1))) else K (.m x r0 (rgA x r n i) n (W64 (i + 1)))) else kx (.o x r0 r n i)
noncomputable def rgG (x : V) (n : Int) (k : V → Option R) : Option R :=
  bif ilt n 1 then k x else bif ile 256 n then k w0V else lpC (BRg R) (hid FU) (.m x w0V w0V n 0) (fun | .o x r0 r n i => k r)
theorem ck4_in {i : Int} {k : Option R} (h : 0 ≤ i ∧ i < 4) : ck4 i k = k := by
  unfold ck4
  rw [ile_iff.2 h.1, show ilt i (4 : Nat) = true by simp [ilt]; omega]; rfl
theorem p0_in {i : Int} {k : Option R} (h : 0 ≤ i) : p0 i k = k := by unfold p0; rw [ile_iff.2 h]; rfl
theorem elV_w (a : Nat) {j : Int} (h : 0 ≤ j ∧ j < 4) : elV (wV a) j = lm a j.toNat := by
  have : j = 0 ∨ j = 1 ∨ j = 2 ∨ j = 3 := by omega
  rcases this with rfl | rfl | rfl | rfl <;> rfl
theorem put_el {ys : List V} {v : V} {i : Int} (h : i.toNat < ys.length) : elV ((V.l ys).put i.toNat v) i = v.int := by
  show (V.nth (.l (ys.set i.toNat v)) i.toNat).int = _
  unfold V.nth
  show ((ys.set i.toNat v).getD i.toNat .n).int = _
  rw [List.getD_eq_getElem?_getD, List.getElem?_set_self h]; rfl
theorem put_put {ys : List V} {u v : V} {i : Nat} : ((V.l ys).put i u).put i v = (V.l ys).put i v := by
  show V.l ((ys.set i u).set i v) = .l (ys.set i v)
  rw [List.set_set]
theorem shl_I (x s : Int) : shlU x s = shlI .u64 x s := rfl
theorem shr_I (x s : Int) : shrU x s = shrI 64 x s := rfl
theorem q_in {n : Int} (h : 0 ≤ n ∧ n < 256) : qI n = n / 64 ∧ n.tmod 64 = n % 64 := by
  unfold qI
  rw [Int.tdiv_eq_ediv_of_nonneg h.1, Int.tmod_eq_emod_of_nonneg h.1]
  exact ⟨w64_in (by omega) (by omega), rfl⟩
theorem lf_step {a : Nat} {r0 : V} {ys : List V} (hy : ys.length = 4) {n i : Int} (hn : 1 ≤ n ∧ n < 256) (hi : n / 64 ≤ i ∧ i < 4) (K : PLf → Option R) (kx : QLf → Option R) :
    BLf R (.m (wV a) r0 (.l ys) n i) K kx = K (.m (wV a) r0 ((V.l ys).put i.toNat (.i (lm (leftW a n.toNat) i.toNat))) n (i + 1)) := by
  obtain ⟨hq, hs⟩ := q_in (n := n) (by omega)
  have hs0 : 0 ≤ n % 64 ∧ n % 64 < 64 := by omega
  obtain ⟨q, hqn⟩ := Int.eq_ofNat_of_zero_le (show 0 ≤ n / 64 by omega)
  have hqn : n / 64 = (q : Int) := hqn
  show (bif ile 0 i then bif ilt i 4 then _ else _ else _) = _
  rw [ile_iff.2 (show 0 ≤ i by omega), show ilt i 4 = true by simp [ilt]; omega, cond_true, cond_true, hs, hq]
  rw [w64_in (n := i - n / 64) (by omega) (by omega), ck4_in (by omega), p0_in hs0.1, ck4_in (by omega), w64_in (n := i + 1) (by omega) (by omega)]
  cases hc : ilt (n / 64) i with
  | false =>
    have hi' : i = n / 64 := by have := not_ilt hc; omega
    rw [cond_false]
    congr 2
    unfold lfA
    rw [hq, hs, w64_in (n := i - n / 64) (by omega) (by omega), elV_w a (by omega), shl_I]
    have e1 := left_0 (a := a) hs0
    have e2 := leftW_lm (a := a) (n := n) (q := q) (by omega) hqn 0 (by omega)
    rw [show (i - n / 64).toNat = 0 by omega, e1, show i.toNat = 0 + q by omega, e2]
  | true =>
    have hc : n / 64 < i := by simpa [ilt] using hc
    rw [cond_true, ck4_in (by omega), w64_in (n := i - n / 64 - 1) (by omega) (by omega), ck4_in (by omega), w64_in (n := 64 - n % 64) (by omega) (by omega), p0_in (by omega), ck4_in (by omega)]
    congr 2
    unfold lfB lfA
    rw [hq, hs, w64_in (n := i - n / 64) (by omega) (by omega), w64_in (n := i - n / 64 - 1) (by omega) (by omega), w64_in (n := 64 - n % 64) (by omega) (by omega), elV_w a (by omega), elV_w a (by omega), put_el (by omega), put_put]
    obtain ⟨k, hk⟩ := Int.eq_ofNat_of_zero_le (show 0 ≤ i - n / 64 - 1 by omega)
    have e1 := left_s (a := a) (k := k) hs0
    have e2 := leftW_lm (a := a) (n := n) (q := q) (by omega) hqn (k + 1) (by omega)
    rw [show (i - n / 64).toNat = k + 1 by omega, show (i - n / 64 - 1).toNat = k by omega, show (V.i (shlU (lm a (k + 1)) (n % 64))).int = shlI .u64 (lm a (k + 1)) (n % 64) from rfl, shr_I, e1, show i.toNat = k + 1 + q by omega, e2]
theorem lf_loop {a : Nat} {r0 : V} {n : Int} (hn : 1 ≤ n ∧ n < 256) (k : QLf → Option R) : ∀ (d : Nat) (ys : List V) (i : Int) (fuel : Nat), ys.length = 4 → i + d = 4 → n / 64 ≤ i → (∀ j : Nat, (j : Int) < i → ys[j]? = some (.i (lm (leftW a n.toNat) j))) → d < fuel →
    lpC (BLf R) fuel (.m (wV a) r0 (.l ys) n i) k = k (.o (wV a) r0 (wV (leftW a n.toNat)) n 4) := by
  intro d
  induction d with
  | zero =>
    intro ys i fuel hy hi _ hr hf
    obtain ⟨f, rfl⟩ : ∃ f, fuel = f + 1 := ⟨fuel - 1, by omega⟩
    have : i = 4 := by omega
    subst this
    match ys, hy with
    | [p, q, s, t], _ =>
      have h0 := hr 0 (by omega)
      have h1 := hr 1 (by omega)
      have h2 := hr 2 (by omega)
      have h3 := hr 3 (by omega)
      simp only [List.getElem?_cons_zero, List.getElem?_cons_succ, Option.some.injEq] at h0 h1 h2 h3
      subst h0; subst h1; subst h2; subst h3
      rfl
  | succ d ih =>
    intro ys i fuel hy hi hq hr hf
    obtain ⟨f, rfl⟩ : ∃ f, fuel = f + 1 := ⟨fuel - 1, by omega⟩
    show BLf R (.m (wV a) r0 (.l ys) n i) (fun x' => lpC (BLf R) f x' k) k = _
    rw [lf_step hy hn (by omega)]
    refine ih (ys.set i.toNat _) (i + 1) f (by simpa using hy) (by omega) (by omega) (fun j hj => ?_) (by omega)
    by_cases hji : j = i.toNat
    · subst hji; rw [List.getElem?_set_self (by omega)]
    · rw [List.getElem?_set_ne (fun h => hji h.symm)]; exact hr j (by omega)
theorem lfG_law {a : Nat} (ha : a < 2 ^ 256) {n : Int} (hn : n ≤ 9223372036854775807) (k : V → Option R) : lfG (wV a) n k = k (wV (leftW a n.toNat)) := by
  unfold lfG
  cases h1 : ilt n 1 with
  | true =>
    have h1 : n < 1 := by simpa [ilt] using h1
    rw [leftW_none ha h1]; rfl
  | false =>
    have h1 := not_ilt h1
    have hF : 8 < hid FU := by have := HID; omega
    obtain ⟨f, hf⟩ : ∃ f, hid FU = f + 1 := ⟨hid FU - 1, by omega⟩
    rw [cond_false]
    by_cases h2 : 256 ≤ n
    · rw [hf, leftW_zero h2]
      have hq : qI n = n / 64 := by
        unfold qI
        rw [Int.tdiv_eq_ediv_of_nonneg (by omega)]
        exact w64_in (by omega) (by omega)
      rw [hq]
      show (bif ile 0 (n / 64) then bif ilt (n / 64) 4 then _ else k w0V else k w0V) = _
      rw [show ilt (n / 64) 4 = false by simp [ilt]; omega]
      have : w0V = wV 0 := by unfold w0V wV lm; simp
      rw [this]
      cases ile 0 (n / 64) <;> rfl
    · obtain ⟨hq, _⟩ := q_in (n := n) (by omega)
      rw [hq]
      obtain ⟨q, hqn⟩ := Int.eq_ofNat_of_zero_le (show 0 ≤ n / 64 by omega)
      exact lf_loop (a := a) (by omega) _ (4 - n / 64).toNat (List.replicate 4 (.i 0)) (n / 64) (hid FU) (by simp) (by omega) (by omega) (fun j hj => by
        rw [leftW_lo (q := q) (by omega) hqn j (by omega) (by omega), List.getElem?_replicate]
        rw [if_pos (by omega)]) (by omega)
theorem rg_step {a : Nat} (ha : a < 2 ^ 256) {r0 : V} {ys : List V} (hy : ys.length = 4) {n i : Int} (hn : 1 ≤ n ∧ n < 256) (hi : 0 ≤ i ∧ i + n / 64 < 4) (K : PRg → Option R) (kx : QRg → Option R) :
    BRg R (.m (wV a) r0 (.l ys) n i) K kx = K (.m (wV a) r0 ((V.l ys).put i.toNat (.i (lm (rightW a n.toNat) i.toNat))) n (i + 1)) := by
  obtain ⟨hq, hs⟩ := q_in (n := n) (by omega)
  have hs0 : 0 ≤ n % 64 ∧ n % 64 < 64 := by omega
  obtain ⟨q, hqn⟩ := Int.eq_ofNat_of_zero_le (show 0 ≤ n / 64 by omega)
  have hqn : n / 64 = (q : Int) := hqn
  obtain ⟨k, rfl⟩ := Int.eq_ofNat_of_zero_le hi.1
  show (bif ilt (W64 ((k : Int) + qI n)) 4 then _ else _) = _
  rw [hs, hq, w64_in (n := (k : Int) + n / 64) (by omega) (by omega), show ilt ((k : Int) + n / 64) 4 = true by simp [ilt]; omega, cond_true, ck4_in (by omega), p0_in hs0.1, ck4_in (by omega), w64_in (n := (k : Int) + 1) (by omega) (by omega), w64_in (n := (k : Int) + n / 64 + 1) (by omega) (by omega)]
  have e2 := rightW_lm (a := a) (n := n) (q := q) (by omega) hqn k
  cases hc : ilt ((k : Int) + n / 64 + 1) 4 with
  | false =>
    have hc := not_ilt hc
    have hk : k + q = 3 := by omega
    rw [cond_false]
    congr 2
    unfold rgA
    rw [hq, hs, w64_in (n := (k : Int) + n / 64) (by omega) (by omega), elV_w a (by omega), shr_I, show ((k : Int) + n / 64).toNat = 3 by omega, right_3 ha hs0, show ((k : Nat) : Int).toNat = k from rfl, e2, hk]
  | true =>
    have hc : (k : Int) + n / 64 + 1 < 4 := by simpa [ilt] using hc
    rw [cond_true, ck4_in (by omega), ck4_in (by omega), w64_in (n := 64 - n % 64) (by omega) (by omega), p0_in (by omega), ck4_in (by omega)]
    congr 2
    unfold rgB rgA
    rw [hq, hs, w64_in (n := (k : Int) + n / 64) (by omega) (by omega), w64_in (n := (k : Int) + n / 64 + 1) (by omega) (by omega), w64_in (n := 64 - n % 64) (by omega) (by omega), elV_w a (by omega), elV_w a (by omega), put_el (by rw [hy]; omega), put_put]
    have e1 := right_s (a := a) (k := k + q) hs0
    rw [show ((k : Int) + n / 64).toNat = k + q by omega, show ((k : Int) + n / 64 + 1).toNat = k + q + 1 by omega, show (V.i (shrU (lm a (k + q)) (n % 64))).int = shrI 64 (lm a (k + q)) (n % 64) from rfl, shl_I, e1, show ((k : Nat) : Int).toNat = k from rfl, e2]
theorem rg_loop {a : Nat} (ha : a < 2 ^ 256) {r0 : V} {n : Int} (hn : 1 ≤ n ∧ n < 256) (k : QRg → Option R) : ∀ (d : Nat) (ys : List V) (i : Int) (fuel : Nat), ys.length = 4 → 0 ≤ i → i + n / 64 + d = 4 → (∀ j : Nat, j < 4 → ((j : Int) < i ∨ 4 ≤ (j : Int) + n / 64) → ys[j]? = some (.i (lm (rightW a n.toNat) j))) → d < fuel →
    lpC (BRg R) fuel (.m (wV a) r0 (.l ys) n i) k = k (.o (wV a) r0 (wV (rightW a n.toNat)) n (4 - n / 64)) := by
  intro d
  induction d with
  | zero =>
    intro ys i fuel hy h0 hi hr hf
    obtain ⟨f, rfl⟩ : ∃ f, fuel = f + 1 := ⟨fuel - 1, by omega⟩
    have : i = 4 - n / 64 := by omega
    subst this
    have hall : ∀ j : Nat, j < 4 → ys[j]? = some (.i (lm (rightW a n.toNat) j)) := fun j hj => hr j hj (by omega)
    obtain ⟨hq, hs⟩ := q_in (n := n) (by omega)
    show (bif ilt (W64 (4 - n / 64 + qI n)) 4 then _ else k (.o (wV a) r0 (.l ys) n (4 - n / 64))) = _
    rw [hq, w64_in (n := 4 - n / 64 + n / 64) (by omega) (by omega), show ilt (4 - n / 64 + n / 64) 4 = false by simp [ilt]]
    rw [cond_false]
    congr 2
    match ys, hy with
    | [p, q, s, t], _ =>
      have h0 := hall 0 (by omega)
      have h1 := hall 1 (by omega)
      have h2 := hall 2 (by omega)
      have h3 := hall 3 (by omega)
      simp only [List.getElem?_cons_zero, List.getElem?_cons_succ, Option.some.injEq] at h0 h1 h2 h3
      subst h0; subst h1; subst h2; subst h3
      rfl
  | succ d ih =>
    intro ys i fuel hy h0 hi hr hf
    obtain ⟨f, rfl⟩ : ∃ f, fuel = f + 1 := ⟨fuel - 1, by omega⟩
    show BRg R (.m (wV a) r0 (.l ys) n i) (fun x' => lpC (BRg R) f x' k) k = _
    rw [rg_step ha hy hn (by omega)]
    refine ih (ys.set i.toNat _) (i + 1) f (by simpa using hy) (by omega) (by omega) (fun j hj hj2 => ?_) (by omega)
    by_cases hji : j = i.toNat
    · subst hji; rw [List.getElem?_set_self (by omega)]
    · rw [List.getElem?_set_ne (fun h => hji h.symm)]; exact hr j hj (by omega)
theorem rgG_law {a : Nat} (ha : a < 2 ^ 256) {n : Int} (hn : n ≤ 9223372036854775807) (k : V → Option R) : rgG (wV a) n k = k (wV (rightW a n.toNat)) := by
  unfold rgG
  cases h1 : ilt n 1 with
  | true =>
    have h1 : n < 1 := by simpa [ilt] using h1
    rw [rightW_none h1]; rfl
  | false =>
    have h1 := not_ilt h1
    rw [cond_false]
    have hz : w0V = wV 0 := by unfold w0V wV lm; simp
    cases h2 : ile 256 n with
    | true => rw [rightW_zero ha (ile_iff.1 h2), hz]; rfl
    | false =>
      have h2 := ile_no h2
      have hF : 8 < hid FU := by have := HID; omega
      rw [cond_false]
      refine rg_loop (a := a) ha (by omega) _ (4 - n / 64).toNat (List.replicate 4 (.i 0)) 0 (hid FU) (by simp) (by omega) (by omega) (fun j hj hj2 => ?_) (by omega)
      obtain ⟨q, hqn⟩ := Int.eq_ofNat_of_zero_le (show 0 ≤ n / 64 by omega)
      rw [rightW_lm (q := q) (by omega) hqn, rightW_hi ha _ (by omega), List.getElem?_replicate, if_pos (by omega)]
end Go.Vm.Wd

namespace Go.Vm.Wd
open Go.RowKit
set_option linter.unusedVariables false
set_option linter.constructorNameAsVariable false
variable {R : Type}

/-! ### work.Expand -/
def mV (n : Int) : V := w0V.put 0 (.i (WU (bitsOf .and .u32 n 8388607)))
def eI (n : Int) : Int := W64 (n.fdiv (2 ^ 24))
def ezV : V := wV (leftW (wN (w0V.put 0 (.i 8388607))) 232)
def exT (n : Int) (t : V) (k : V → Int → Option R) : Option R :=
  bif !ieq (bitsOf .and .u32 n 8388608) 0 then k w0V 121 else bif veq t w0V then k w0V 121 else bif decide (wN ezV < wN t) then k w0V 121 else k t 0
def exG (n : Int) (k : V → Int → Option R) : Option R :=
  bif ilt 3 (eI n) then (bif ilt 256 (W64 ((blen (wN (mV n)) : Int) + W64 (8 * W64 (eI n - 3)))) then k w0V 121 else exT n (wV (leftW (wN (mV n)) (W64 (8 * W64 (eI n - 3))).toNat)) k)
  else exT n (wV (rightW (wN (mV n)) (W64 (8 * W64 (3 - eI n))).toNat)) k
theorem bits_and_32 {x y : Nat} (hx : x < 2 ^ 32) (hy : y < 2 ^ 32) : bitsOf .and .u32 x y = ((x &&& y : Nat) : Int) := by
  have e : ∀ z : Nat, z < 2 ^ 32 → (BitVec.ofInt (IntKind.bits .u32) (z : Int)).toNat = z := fun z hz => by
    rw [BitVec.toNat_ofInt]
    have : (z : Int) % ((2 ^ IntKind.bits .u32 : Nat) : Int) = z := Int.emod_eq_of_lt (by omega) (by simp [IntKind.bits]; omega)
    rw [this]; simp
  simp only [bitsOf]
  rw [BitVec.toNat_and, e x hx, e y hy]
  have hl : x &&& y < 2 ^ 32 := Nat.and_lt_two_pow _ hy
  exact wrap_in (by simp only [IntKind.min, IntKind.max, IntKind.signed, IntKind.bits]; simp; omega)
theorem and_low {b : Nat} (h : b < 2 ^ 32) : bitsOf .and .u32 (b : Int) 8388607 = ((b % 8388608 : Nat) : Int) := by
  rw [show (8388607 : Int) = ((8388607 : Nat) : Int) from rfl, bits_and_32 h (by decide), show (8388607 : Nat) = 2 ^ 23 - 1 from rfl, Nat.and_two_pow_sub_one_eq_mod]
theorem and_pow (b k : Nat) : b &&& 2 ^ k = if b.testBit k then 2 ^ k else 0 := by
  apply Nat.eq_of_testBit_eq
  intro i
  rw [Nat.testBit_and, Nat.testBit_two_pow]
  by_cases hk : k = i
  · subst hk
    cases b.testBit k <;> simp
  · cases b.testBit k <;> simp [hk]
theorem and_bit23 {b : Nat} (h : b < 2 ^ 32) : ieq (bitsOf .and .u32 (b : Int) 8388608) 0 = decide (b / 8388608 % 2 = 0) := by
  rw [show (8388608 : Int) = ((8388608 : Nat) : Int) from rfl, bits_and_32 h (by decide), show (8388608 : Nat) = 2 ^ 23 from rfl, and_pow, ieq_lm, Nat.testBit_eq_decide_div_mod_eq]
  by_cases hc : b / 2 ^ 23 % 2 = 1
  · rw [hc]; rfl
  · have : b / 2 ^ 23 % 2 = 0 := by omega
    rw [this]; rfl
theorem wN_small {n : Nat} (h : n < 2 ^ 64) : wN (w0V.put 0 (.i (n : Int))) = n := by
  show ((n : Int)).toNat + 2 ^ 64 * (0 + 2 ^ 64 * (0 + 2 ^ 64 * 0)) = n
  omega
theorem w0_eq : w0V = wV 0 := by unfold w0V wV lm; simp
theorem ez_eq : ezV = wV easiestN ∧ wN ezV = easiestN := by
  have : ezV = wV easiestN := by
    unfold ezV
    rw [show (8388607 : Int) = ((8388607 : Nat) : Int) from rfl, wN_small (by decide)]
    congr 1
  rw [this]
  exact ⟨rfl, wN_wV easiest_lt⟩
theorem exT_law {b t : Nat} (h : b < 2 ^ 32) (ht : t < 2 ^ 256) (k : V → Int → Option R) : exT (b : Int) (wV t) k = if b / 8388608 % 2 = 0 ∧ t ≠ 0 ∧ t ≤ easiestN then k (wV t) 0 else k (wV 0) 121 := by
  unfold exT
  rw [and_bit23 h, w0_eq, wV_inj ht (by decide), ez_eq.2, wN_wV ht]
  by_cases h1 : b / 8388608 % 2 = 0 <;> by_cases h2 : t = 0 <;> by_cases h3 : easiestN < t <;> simp [h1, h2, h3] <;> omega
theorem exG_law {b : Nat} (h : b < 2 ^ 32) (k : V → Int → Option R) : exG (b : Int) k = k (wV (tgt b)) (eerr b) := by
  have e1 : eI (b : Int) = ((b / 16777216 : Nat) : Int) := by
    unfold eI
    rw [fd 24 (by omega), show ((2 ^ 24 : Nat) : Int) = 16777216 from rfl, w64_in (by omega) (by omega)]; omega
  have hm := m23_lt b
  have e2 : wN (mV (b : Int)) = b % 8388608 := by
    unfold mV
    rw [and_low h, wu64_lt (by omega), wN_small (by omega)]
  have hbl := blen_le_of (n := b % 8388608) (k := 23) (by omega)
  unfold exG
  rw [e1, e2]
  have fin : ∀ t, t < 2 ^ 256 → t = expT b → exT (b : Int) (wV t) k = k (wV (tgt b)) (eerr b) := fun t ht he => by
    rw [exT_law h ht]
    subst he
    by_cases hc : b / 8388608 % 2 = 0 ∧ expT b ≠ 0 ∧ expT b ≤ easiestN
    · rw [if_pos hc, (exp_good hc).1, (exp_good hc).2.2]
    · rw [if_neg hc, (exp_bad hc).1, (exp_bad hc).2.2]
  cases hc : ilt 3 ((b / 16777216 : Nat) : Int) with
  | false =>
    have hc := not_ilt hc
    rw [cond_false, w64_in (n := 3 - ((b / 16777216 : Nat) : Int)) (by omega) (by omega), w64_in (by omega) (by omega)]
    exact fin _ (rightW_lt _ (by omega)) (exp_small (by omega))
  | true =>
    have hc : (3 : Int) < ((b / 16777216 : Nat) : Int) := by simpa [ilt] using hc
    rw [cond_true, w64_in (n := ((b / 16777216 : Nat) : Int) - 3) (by omega) (by omega), w64_in (n := 8 * (((b / 16777216 : Nat) : Int) - 3)) (by omega) (by omega), w64_in (n := (blen (b % 8388608) : Int) + 8 * (((b / 16777216 : Nat) : Int) - 3)) (by omega) (by omega)]
    cases hd : ilt 256 ((blen (b % 8388608) : Int) + 8 * (((b / 16777216 : Nat) : Int) - 3)) with
    | true =>
      have hd : (256 : Int) < (blen (b % 8388608) : Int) + 8 * (((b / 16777216 : Nat) : Int) - 3) := by simpa [ilt] using hd
      have hn := exp_over (b := b) (by omega) hd
      rw [cond_true, w0_eq, (exp_bad (fun q => hn q.2)).1, (exp_bad (fun q => hn q.2)).2.2]
    | false =>
      have hd := not_ilt hd
      rw [cond_false]
      exact fin _ (leftW_lt _ _) (exp_big (by omega) (by omega))
end Go.Vm.Wd

namespace Go.Vm
open Go.RowKit
variable {P : Program} {T : TT} {R : Type} {c : Ctx} {e e' : Env} {of : Nat → Option Ob}
set_option linter.unusedVariables false
set_option linter.constructorNameAsVariable false

/-! ### Objects under other numbers, rows under other versions -/
section
variable (ρ : Nat → Nat) (τ : Nat → Nat → Option Nat)
def rnV (id ver : Nat) (k : Nat → A) : A :=
  match τ id ver with
  | some v => k v
  | none => .x
mutual
def rnA : A → A
  | .p id t path => .p (ρ id) t path
  | .e id ver i t path => rnV τ id ver fun v => .e (ρ id) v i t path
  | .o id ver => rnV τ id ver fun v => .o (ρ id) v
  | .w id ver off n => rnV τ id ver fun v => .w (ρ id) v off n
  | .a id t path lo m => .a (ρ id) t path lo m
  | .m id => .m (ρ id)
  | .y id => .y (ρ id)
  | .f fn l => .f fn (rnL l)
  | .g t l => .g t (rnL l)
  | .t l => .t (rnL l)
  | a => a
def rnL : List A → List A
  | [] => []
  | a :: r => rnA a :: rnL r
end
def rnE : List (V × A) → List (V × A)
  | [] => []
  | p :: r => (p.1, rnA ρ τ p.2) :: rnE r
def rnO (id : Nat) : Ob → Ob
  | .box t a sh => .box t (rnA ρ τ a) sh
  | .row el ver xs nl sh => .row el (match τ id ver with | some v => v | none => 0) xs nl sh
  | .map kt et es => .map kt et (rnE ρ τ es)
  | .vm kt et es => .vm kt et es
  | .it (some m) => .it (some (ρ m))
  | .it none => .it none
  | .lp q => .lp none
end
/-- Objects that can be told anew. -/
def okT : Ob → Bool
  | .lp (some _) => false
  | _ => true
structure REN (e e' : Env) (ρ : Nat → Nat) (τ : Nat → Nat → Option Nat) (D : Nat → Prop) : Prop where
  w : e'.w = e.w
  S : ∀ b i, e'.S b i ↔ e.S b i
  use : ∀ id, D id → e.U id → e'.U (ρ id)
  ι : ∀ id, D id → e.U id → e'.ι (ρ id) = e.ι id
  ty : ∀ id, D id → e.U id → e'.ty (ρ id) = e.ty id
  ln : ∀ id, D id → e.U id → e'.ln (ρ id) = e.ln id
  bn0 : ∀ id, D id → e.U id → e.bn id = 0 → e'.bn (ρ id) = 0
  ver : ∀ id ver v, D id → e.U id → τ id ver = some v → 0 < ver → ver ≤ e.bn id → 0 < v ∧ v ≤ e'.bn (ρ id) ∧ (e'.bn (ρ id) = v → e.bn id = ver)
variable {ρ : Nat → Nat} {τ : Nat → Nat → Option Nat} {D : Nat → Prop}
theorem REN.fz (h : REN e e' ρ τ D) {a : Addr} {ds : List Value} (q : Fz e a ds) : Fz e' a ds := ⟨q.1, fun j y hj => by
  obtain ⟨p1, p2⟩ := q.2 j y hj
  rw [h.w]; exact ⟨p1, (h.S _ _).2 p2⟩⟩
theorem REN.rv (h : REN e e' ρ τ D) {ts : List Nat} {xs : List V} {cs : List Value} (q : RV T e ts xs cs) : RV T e' ts xs cs := q.change fun _ _ => h.fz
theorem R1.ren (h : REN e e' ρ τ D) {a : A} {v : Value} (q : R1 T e a v) (ho : one v = true) (hd : ∀ id ∈ refA a, D id) : R1 T e' (rnA ρ τ a) v := by
  cases a with
  | x => exact q
  | p id t path =>
    obtain ⟨b, off, h1, h2, h3, h4, h5⟩ := q
    have d := hd id (by simp [refA])
    exact ⟨b, off, h.use _ d h1, h.bn0 _ d h1 h2, (h.ι _ d h1).trans h3, by rw [h.ty _ d h1]; exact h4, h5⟩
  | a id t path lo m =>
    obtain ⟨b, off, n, el, k, cap, h1, h2, h3, h4, h5⟩ := q
    have d := hd id (by simp [refA])
    exact ⟨b, off, n, el, k, cap, h.use _ d h1, h.bn0 _ d h1 h2, (h.ι _ d h1).trans h3, by rw [h.ty _ d h1]; exact h4, h5⟩
  | m id =>
    obtain ⟨b, h1, h2, h3, h4⟩ := q
    have d := hd id (by simp [refA])
    exact ⟨b, h.use _ d h1, h.bn0 _ d h1 h2, (h.ι _ d h1).trans h3, h4⟩
  | y id =>
    obtain ⟨b, h1, h2, h3, h4⟩ := q
    have d := hd id (by simp [refA])
    exact ⟨b, h.use _ d h1, h.bn0 _ d h1 h2, (h.ι _ d h1).trans h3, h4⟩
  | e id ver i t path =>
    obtain ⟨h0, h1, h2, h3, h4⟩ := q
    have d := hd id (by simp [refA])
    simp only [rnA, rnV]
    cases hv : τ id ver with
    | none => exact ho
    | some v' =>
      obtain ⟨v1, v2, v3⟩ := h.ver _ _ _ d h1 hv h3 h2
      refine ⟨h0, h.use _ d h1, v2, v1, fun hb => ?_⟩
      obtain ⟨b, o, off, g1, g2, g3, g4⟩ := h4 (v3 hb)
      exact ⟨b, o, off, (h.ι _ d h1).trans g1, by rw [h.ty _ d h1]; exact g2, by rw [h.ln _ d h1]; exact g3, by rw [h.ty _ d h1]; exact g4⟩
  | o id ver =>
    obtain ⟨h0, h1, h2, h3, h4⟩ := q
    have d := hd id (by simp [refA])
    simp only [rnA, rnV]
    cases hv : τ id ver with
    | none => exact ho
    | some v' =>
      obtain ⟨v1, v2, v3⟩ := h.ver _ _ _ d h1 hv h3 h2
      refine ⟨h0, h.use _ d h1, v2, v1, fun hb => ?_⟩
      rcases h4 (v3 hb) with ⟨g1, g2, g3⟩ | ⟨b, o, cap, k, g1, g2, g3, g5, g4⟩
      · exact .inl ⟨(h.ι _ d h1).trans g1, by rw [h.ln _ d h1]; exact g2, g3⟩
      · exact .inr ⟨b, o, cap, k, (h.ι _ d h1).trans g1, by rw [h.ln _ d h1]; exact g2, by rw [h.ty _ d h1, h.w]; exact g3, g5, by rw [h.ln _ d h1]; exact g4⟩
  | w id ver off n =>
    obtain ⟨h0, h1, h2, h3, h4⟩ := q
    have d := hd id (by simp [refA])
    simp only [rnA, rnV]
    cases hv : τ id ver with
    | none => exact ho
    | some v' =>
      obtain ⟨v1, v2, v3⟩ := h.ver _ _ _ d h1 hv h3 h2
      refine ⟨h0, h.use _ d h1, v2, v1, fun hb => ?_⟩
      obtain ⟨b, o, cap, k, g1, g2, g3, g4, g5, g6⟩ := h4 (v3 hb)
      exact ⟨b, o, cap, k, (h.ι _ d h1).trans g1, g2, by rw [h.ln _ d h1]; exact g3, by rw [h.ty _ d h1, h.w]; exact g4, by rw [h.ty _ d h1]; exact g5, g6⟩
  | _ => exact q.elim
theorem fitA_rn {t : Nat} {a : A} : fitA T t a = true → fitA T t (rnA ρ τ a) = true := by
  cases a with
  | e id ver i t' path => intro h; simp only [rnA, rnV]; cases τ id ver <;> exact h
  | o id ver => intro h; simp only [rnA, rnV]; cases τ id ver <;> exact h
  | w id ver off n => intro h; simp only [rnA, rnV]; cases τ id ver <;> exact h
  | _ => exact fun h => h
theorem fitL_rn : ∀ {ts : List Nat} {l : List A}, fitL T ts l = true → fitL T ts (rnL ρ τ l) = true := by
  intro ts
  induction ts with
  | nil => intro l h; cases l with
    | nil => rfl
    | cons _ _ => cases h
  | cons t ts ih => intro l h; cases l with
    | nil => cases h
    | cons a l =>
      simp only [rnL, fitL, Bool.and_eq_true] at h ⊢
      exact ⟨fitA_rn h.1, ih h.2⟩
theorem RA.ren (h : REN e e' ρ τ D) {l : List A} {cs : List Value} (q : RA T e l cs) : (∀ id ∈ refL l, D id) → RA T e' (rnL ρ τ l) cs := by
  induction q with
  | nil => intro _; exact .nil
  | i hr _ ih => intro hd; exact .i hr (ih fun id hid => hd id (by simpa [refL, refA] using hid))
  | b _ ih => intro hd; exact .b (ih fun id hid => hd id (by simpa [refL, refA] using hid))
  | s _ ih => intro hd; exact .s (ih fun id hid => hd id (by simpa [refL, refA] using hid))
  | z h1 _ ih => intro hd; exact .z h1 (ih fun id hid => hd id (by simpa [refL, refA] using hid))
  | v h1 _ ih => intro hd; exact .v (h.rv h1) (ih fun id hid => hd id (by simpa [refL, refA] using hid))
  | c h1 h2 _ ih => intro hd; exact .c (h.rv h1) (h.fz h2) (ih fun id hid => hd id (by simpa [refL, refA] using hid))
  | q h1 _ ih => intro hd; exact .q (h.rv h1) (ih fun id hid => hd id (by simpa [refL, refA] using hid))
  | f _ _ ih1 ih => intro hd; exact .f (ih1 fun id hid => hd id (by simp [refL, refA, hid])) (ih fun id hid => hd id (by simp [refL, hid]))
  | g h1 h2 h3 _ _ ih1 ih => intro hd; exact .g h1 (fitL_rn h2) h3 (ih1 fun id hid => hd id (by simp [refL, refA, hid])) (ih fun id hid => hd id (by simp [refL, hid]))
  | r h1 h2 _ ih => intro hd; exact .r (h1.ren h h2 fun id hid => hd id (by simp [refL, hid])) h2 (ih fun id hid => hd id (by simp [refL, hid]))
theorem RA.one_x {a : A} {v : Value} (q : RA T e [a] [v]) : RA T e' [.x] [v] := .r (show one v = true from q.one_ v (by simp)) (q.one_ v (by simp)) .nil
theorem Rep1.ren (h : REN e e' ρ τ D) {a : A} {v : Value} (q : Rep1 T e a v) (hd : ∀ id ∈ refA a, D id) : Rep1 T e' (rnA ρ τ a) v := by
  have one : ∀ {b : A}, RA T e [b] [v] → (∀ id ∈ refA b, D id) → RA T e' [rnA ρ τ b] [v] := fun g hb => RA.ren h g fun id hid => hb id (by simpa [refL] using hid)
  cases a with
  | x => trivial
  | t l => exact q.elim
  | v t y => exact ⟨h.rv q.1, q.2⟩
  | g t l => exact ⟨RA.ren h q.1 fun id hid => hd id (by simpa [refL] using hid), q.2⟩
  | e id ver i t path =>
    have := one (b := .e id ver i t path) q hd
    simp only [rnA, rnV] at this ⊢
    cases hv : τ id ver with
    | none => trivial
    | some v' => rw [hv] at this; exact this
  | o id ver =>
    have := one (b := .o id ver) q hd
    simp only [rnA, rnV] at this ⊢
    cases hv : τ id ver with
    | none => trivial
    | some v' => rw [hv] at this; exact this
  | w id ver off n =>
    have := one (b := .w id ver off n) q hd
    simp only [rnA, rnV] at this ⊢
    cases hv : τ id ver with
    | none => trivial
    | some v' => rw [hv] at this; exact this
  | i k n => exact one (b := .i k n) q hd
  | b y => exact one (b := .b y) q hd
  | s l => exact one (b := .s l) q hd
  | z y => exact one (b := .z y) q hd
  | p id t path => exact one (b := .p id t path) q hd
  | c t y => exact one (b := .c t y) q hd
  | q t y => exact one (b := .q t y) q hd
  | a id t path lo m => exact one (b := .a id t path lo m) q hd
  | m id => exact one (b := .m id) q hd
  | y id => exact one (b := .y id) q hd
  | f fn l => exact one (b := .f fn l) q hd
theorem rnL_get : ∀ {l : List A} {k : Nat} {v : A}, (rnL ρ τ l)[k]? = some v → ∃ a, l[k]? = some a ∧ v = rnA ρ τ a := by
  intro l
  induction l with
  | nil => intro k v h; simp [rnL] at h
  | cons a l ih =>
    intro k v h
    cases k with
    | zero => simp [rnL] at h; exact ⟨a, rfl, h.symm⟩
    | succ k => exact ih (by simpa [rnL] using h)
theorem rnL_len : ∀ {l : List A}, (rnL ρ τ l).length = l.length := by
  intro l
  induction l with
  | nil => rfl
  | cons a l ih => simp [rnL, ih]
theorem refL_get : ∀ {l : List A} {k : Nat} {a : A}, l[k]? = some a → ∀ id ∈ refA a, id ∈ refL l := by
  intro l
  induction l with
  | nil => intro k a h; simp at h
  | cons b l ih =>
    intro k a h id hid
    cases k with
    | zero => simp at h; subst h; simp [refL, hid]
    | succ k => simp [refL, ih (by simpa using h) id hid]
theorem rep_of_1 {e : Env} {a : A} {v : Value} (h : Rep1 T e a v) : Rep T e a v := by
  cases a with
  | t l => exact h.elim
  | _ => exact h
theorem Rep.ren (h : REN e e' ρ τ D) {a : A} {v : Value} (q : Rep T e a v) (hd : ∀ id ∈ refA a, D id) : Rep T e' (rnA ρ τ a) v := by
  by_cases ht : ∃ l, a = .t l
  · obtain ⟨l, rfl⟩ := ht
    obtain ⟨xs, rfl, h2, h3⟩ := q
    refine ⟨xs, rfl, by rw [rnL_len]; exact h2, fun k v x hv hx => ?_⟩
    obtain ⟨b, hb, rfl⟩ := rnL_get hv
    exact (h3 k b x hb hx).ren h fun id hid => hd id (by simp only [refA]; exact refL_get hb id hid)
  · exact rep_of_1 ((rep1_of q fun l hl => ht ⟨l, hl⟩).ren h hd)
theorem Reps.ren (h : REN e e' ρ τ D) {l : List A} {vs : List Value} (q : Reps T e l vs) : (∀ id ∈ refL l, D id) → Reps T e' (rnL ρ τ l) vs := by
  induction q with
  | nil => intro _; exact .nil
  | cons h1 _ ih => intro hd; exact .cons (h1.ren h fun id hid => hd id (by simp [refL, hid])) (ih fun id hid => hd id (by simp [refL, hid]))
theorem MR.ren (h : REN e e' ρ τ D) {kt et : Nat} {es : List (V × A)} {ms : List MapEntry} (q : MR T e kt et es ms) : (∀ id ∈ refE es, D id) → MR T e' kt et (rnE ρ τ es) ms := by
  induction q with
  | nil => intro _; exact .nil
  | cons h1 h2 h3 _ ih =>
    intro hd
    exact .cons (show Rep1 T e' (.v _ _) _ from ⟨h.rv h1.1, h1.2⟩) (h2.ren h fun id hid => hd id (by simp [refE, hid])) (fitA_rn h3) (ih fun id hid => hd id (by simp [refE, hid]))
theorem rnE_map : ∀ l : List (V × A), rnE ρ τ l = l.map fun p => (p.1, rnA ρ τ p.2) := by
  intro l
  induction l with
  | nil => rfl
  | cons p r ih => simp [rnE, ih]
theorem refE_vms {et : Nat} : ∀ es : List (V × V), refE (vms et es) = [] := by
  intro es
  induction es with
  | nil => rfl
  | cons p r ih => simp only [vms, refE, refA, ih, List.nil_append]
theorem rnE_vms {et : Nat} : ∀ es : List (V × V), rnE ρ τ (vms et es) = vms et es := by
  intro es
  induction es with
  | nil => rfl
  | cons p r ih => simp only [vms, rnE, ih]; rfl
theorem OK.ren (h : REN e e' ρ τ D) {id : Nat} {o : Ob} (q : OK T e id o) (di : D id) (hd : ∀ k ∈ refO o, D k) (ho : okT o = true)
    (hv : ∀ el ver xs nl sh, o = .row el ver xs nl sh → ∃ v, τ id ver = some v ∧ e'.bn (ρ id) = v) : OK T e' (ρ id) (rnO ρ τ id o) := by
  cases o with
  | box t a sh =>
    obtain ⟨h1, h2, h2', h2'', b, cs, ty, fz, h3, h4, h5, h5', h6, h7⟩ := q
    refine ⟨h.use _ di h1, h.bn0 _ di h1 h2, (h.ty _ di h1).trans h2', fitA_rn h2'', b, cs, ty, fz, (h.ι _ di h1).trans h3, by rw [h.w]; exact h4, ?_, h5', RA.ren h h6 (fun k hk => hd k (by simpa [refL, refO] using hk)), fun hh i hc => h7 hh i ((h.S _ _).1 hc)⟩
    unfold free at h5 ⊢; rw [h.w]; exact h5
  | row el ver xs nl sh =>
    obtain ⟨h1, h2, h3, h4, h4', h5, h6⟩ := q
    obtain ⟨v, hτ, hbv⟩ := hv _ _ _ _ _ rfl
    obtain ⟨v1, v2, v3⟩ := h.ver _ _ _ di h1 hτ h2 (by omega)
    simp only [rnO, hτ]
    refine ⟨h.use _ di h1, v1, hbv, (h.ty _ di h1).trans h4, (h.ln _ di h1).trans h4', h5, ?_⟩
    rcases h6 with ⟨g1, g2, g3⟩ | ⟨nn', b, o, cs, t, fz, pre, ys, post, g1, g2, g3, g4, g5, g6, g7, g8⟩
    · exact .inl ⟨g1, (h.ι _ di h1).trans g2, g3⟩
    · refine .inr ⟨nn', b, o, cs, t, fz, pre, ys, post, (h.ι _ di h1).trans g1, by rw [h.w]; exact g2, ?_, g4, g5, h.rv g6, fun i hi hc => g7 i hi ((h.S _ _).1 hc), fun hh i hi hc => g8 hh i hi ((h.S _ _).1 hc)⟩
      unfold free at g3 ⊢; rw [h.w]; exact g3
  | map kt et es =>
    obtain ⟨h1, h2, b, ms, clock, h3, h4, ⟨h5, h5'⟩, es', h6, h7⟩ := q
    refine ⟨h.use _ di h1, h.bn0 _ di h1 h2, b, ms, clock, (h.ι _ di h1).trans h3, by rw [h.w]; exact h4, ⟨by rw [rnE_map, List.map_map]; exact h5, h5'⟩, rnE ρ τ es', by rw [rnE_map, rnE_map]; exact h6.map _, h7.ren h fun k hk => hd k (refE_perm h6.symm k hk)⟩
  | vm kt et es =>
    obtain ⟨h1, h2, b, ms, clock, h3, h4, ⟨h5, h5'⟩, es', h6, h7⟩ := q
    refine ⟨h.use _ di h1, h.bn0 _ di h1 h2, b, ms, clock, (h.ι _ di h1).trans h3, by rw [h.w]; exact h4, ⟨h5, h5'⟩, rnE ρ τ es', by rw [← rnE_vms (ρ := ρ) (τ := τ) es, rnE_map, rnE_map]; exact h6.map _, h7.ren h fun k hk => by
      have := refE_perm h6.symm k hk
      rw [refE_vms] at this; cases this⟩
  | lp q' =>
    cases q' with
    | none =>
      obtain ⟨h1, h2, b, h3, h4⟩ := q
      exact ⟨h.use _ di h1, h.bn0 _ di h1 h2, b, (h.ι _ di h1).trans h3, by rw [h.w]; exact h4⟩
    | some r => cases ho
  | it q' =>
    cases q' with
    | none =>
      obtain ⟨h1, h2, b, x, y, z, h3, h4⟩ := q
      exact ⟨h.use _ di h1, h.bn0 _ di h1 h2, b, x, y, z, (h.ι _ di h1).trans h3, by rw [h.w]; exact h4⟩
    | some m =>
      obtain ⟨h1, h2, b, bm, x, z, h3, h4, h5, h6, h7⟩ := q
      have dm := hd m (by simp [refO])
      exact ⟨h.use _ di h1, h.bn0 _ di h1 h2, b, bm, x, z, (h.ι _ di h1).trans h3, by rw [h.w]; exact h4, h.use _ dm h5, h.bn0 _ dm h5 h6, (h.ι _ dm h5).trans h7⟩
end Go.Vm
end
