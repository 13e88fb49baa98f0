/- What the operations of a program do, shown once for all programs; and numbers. -/
import Derived.Test.YtoodhpoicinomaaGreatVm10
import Derived.Test.YtoodhpoicinomaaGreatVm9
import Derived.Laws.Externs
import Derived.Lib.Bytealg
import Derived.OpenShut
import Derived.WalkKit
import Derived.ProofKit
import Derived.JoinedOf
import Derived.ChangeShapes
import Derived.Sort.KeysCollected
import Derived.WideShapes
import Derived.Below
import Derived.Calls
set_option linter.constructorNameAsVariable false
set_option linter.unusedVariables false
set_option linter.unusedSimpArgs false
noncomputable section
namespace Go.Vm
open Go.RowKit
def byt (x : V) (i : Int) : Int := W32 (x.nth i.toNat).int
def word4 (x : V) (i : Int) : Int := bitsOf .or .u32 (bitsOf .or .u32 (bitsOf .or .u32 (W32 (byt x (W64 (4 * i)) * 2 ^ 24)) (W32 (byt x (W64 (W64 (4 * i) + 1)) * 2 ^ 16))) (W32 (byt x (W64 (W64 (4 * i) + 2)) * 2 ^ 8))) (byt x (W64 (W64 (4 * i) + 3)))
def e8 (x : V) (i : Nat) : Int := (x.nth i).int
def rndV (x : V) (k w : Int) : V :=
  let a := e8 x 0
  let e := e8 x 4
  let t := W32 (W32 (W32 (W32 (e8 x 7 + xor (xor (rot e 6) (rot e 11)) (rot e 25)) + xor (and e (e8 x 5)) (and (bitsOf .xor .u32 4294967295 e) (e8 x 6))) + k) + w)
  let u := W32 (xor (xor (rot a 2) (rot a 13)) (rot a 22) + xor (xor (and a (e8 x 1)) (and a (e8 x 2))) (and (e8 x 1) (e8 x 2)))
  .l [.i (W32 (t + u)), .i a, .i (e8 x 1), .i (e8 x 2), .i (W32 (e8 x 3 + t)), .i e, .i (e8 x 5), .i (e8 x 6)]
inductive PSpA where
  | m (x : V) (z : V) (i : Int) (w : V)
inductive QSpA where
  | o (x : V) (z : V) (i : Int) (w : V)
def BSpA (R : Type) (p : PSpA) (K : PSpA → Option R) (kx : QSpA → Option R) : Option R :=
  match p with
  | .m x z i w =>
    bif ilt i 16 then
      ck (W64 (4 * i)) x.els.length <| ck (W64 (W64 (4 * i) + 1)) x.els.length <| ck (W64 (W64 (4 * i) + 2)) x.els.length <| ck (W64 (W64 (4 * i) + 3)) x.els.length <|
      ck i 64 <| K (.m x z (W64 (i + 1)) (w.put i.toNat (.i (word4 x i))))
    else kx (.o x z i w)
inductive PSpB where
  | m (z : V) (i : Int) (w : V)
inductive QSpB where
  | o (z : V) (i : Int) (w : V)
def BSpB (R : Type) (p : PSpB) (K : PSpB → Option R) (kx : QSpB → Option R) : Option R :=
  match p with
  | .m z i w =>
    bif ilt i 64 then
      ck (W64 (i - 15)) 64 <| ck (W64 (i - 2)) 64 <| ck (W64 (i - 16)) 64 <| ck (W64 (i - 7)) 64 <| ck i 64 <|
      K (.m z (W64 (i + 1)) (w.put i.toNat (.i (W32 (W32 (W32 (elV w (W64 (i - 16)) + elV w (W64 (i - 7))) + sg0 (elV w (W64 (i - 15)))) + sg1 (elV w (W64 (i - 2))))))))
    else kx (.o z i w)
inductive PMxA where
  | m (s : V) (z : V) (w : V) (k : V) (x : V) (i : Int)
inductive QMxA where
  | o (s : V) (z : V) (w : V) (k : V) (x : V) (i : Int)
def BMxA (R : Type) (p : PMxA) (K : PMxA → Option R) (kx : QMxA → Option R) : Option R :=
  match p with
  | .m s z w k x i =>
    bif ilt i 64 then ck i 64 <| ck i 64 <| K (.m s z w k (rndV x (elV k i) (elV w i)) (W64 (i + 1))) else kx (.o s z w k x i)
inductive PMxB where
  | m (s : V) (z : V) (x : V) (i : Int)
inductive QMxB where
  | o (s : V) (z : V) (x : V) (i : Int)
def BMxB (R : Type) (p : PMxB) (K : PMxB → Option R) (kx : QMxB → Option R) : Option R :=
  match p with
  | .m s z x i =>
    bif ilt i 8 then ck i 8 <| ck i 8 <| ck i 8 <| K (.m (s.put i.toNat (.i (W32 (elV s i + elV x i)))) z x (W64 (i + 1))) else kx (.o s z x i)
theorem nth_nv {x : V} {bs : List Nat} (hx : x.els = bs.map nv) {k b : Nat} (h : bs[k]? = some b) : (x.nth k).int = (b : Int) := by
  unfold V.nth
  rw [hx, List.getD, List.getElem?_map, h]
  rfl
theorem or_add {a b i : Nat} (h : b < 2 ^ i) : (a <<< i) ||| b = a * 2 ^ i + b := by
  rw [← Nat.shiftLeft_add_eq_or_of_lt h, Nat.shiftLeft_eq]
theorem word_or {b0 b1 b2 b3 : Nat} (h0 : b0 < 256) (h1 : b1 < 256) (h2 : b2 < 256) (h3 : b3 < 256) : (((b0 <<< 24) ||| (b1 <<< 16)) ||| (b2 <<< 8)) ||| b3 = ((b0 * 256 + b1) * 256 + b2) * 256 + b3 := by
  have e1 : (b0 <<< 24) ||| (b1 <<< 16) = (b0 * 256 + b1) <<< 16 := by
    rw [or_add (by rw [Nat.shiftLeft_eq]; omega), Nat.shiftLeft_eq, Nat.shiftLeft_eq]; omega
  have e2 : ((b0 * 256 + b1) <<< 16) ||| (b2 <<< 8) = ((b0 * 256 + b1) * 256 + b2) <<< 8 := by
    rw [or_add (by rw [Nat.shiftLeft_eq]; omega), Nat.shiftLeft_eq, Nat.shiftLeft_eq]; omega
  rw [e1, e2, or_add (by omega)]
theorem byt_eq {x : V} {bs : List Nat} (hx : x.els = bs.map nv) (hb : ∀ b ∈ bs, b < 256) {k b : Nat} (h : bs[k]? = some b) : byt x (k : Int) = (b : Int) := by
  have := hb b (List.mem_of_getElem? h)
  unfold byt
  rw [show ((k : Int)).toNat = k from rfl, nth_nv hx h, wu32_lt (by omega)]
theorem word4_eq {x : V} {bs : List Nat} (hx : x.els = bs.map nv) (hb : ∀ b ∈ bs, b < 256) {j b0 b1 b2 b3 : Nat} (hj : j < 1000) (h0 : bs[4 * j]? = some b0) (h1 : bs[4 * j + 1]? = some b1) (h2 : bs[4 * j + 2]? = some b2) (h3 : bs[4 * j + 3]? = some b3) :
    word4 x (j : Int) = (((((b0 * 256 + b1) * 256 + b2) * 256 + b3 : Nat)) : Int) := by
  have l0 := hb b0 (List.mem_of_getElem? h0)
  have l1 := hb b1 (List.mem_of_getElem? h1)
  have l2 := hb b2 (List.mem_of_getElem? h2)
  have l3 := hb b3 (List.mem_of_getElem? h3)
  have w0 : W64 (4 * (j : Int)) = ((4 * j : Nat) : Int) := by rw [w64_in (by omega) (by omega)]; push_cast; rfl
  have w1 : W64 (W64 (4 * (j : Int)) + 1) = ((4 * j + 1 : Nat) : Int) := by rw [w0, w64_in (by omega) (by omega)]; push_cast; rfl
  have w2 : W64 (W64 (4 * (j : Int)) + 2) = ((4 * j + 2 : Nat) : Int) := by rw [w0, w64_in (by omega) (by omega)]; push_cast; rfl
  have w3 : W64 (W64 (4 * (j : Int)) + 3) = ((4 * j + 3 : Nat) : Int) := by rw [w0, w64_in (by omega) (by omega)]; push_cast; rfl
  unfold word4
  rw [w1, w2, w3, w0, byt_eq hx hb h0, byt_eq hx hb h1, byt_eq hx hb h2, byt_eq hx hb h3, mul_pow, mul_pow, mul_pow, ← word_or l0 l1 l2 l3]
  have s0 : b0 <<< 24 < 4294967296 := by rw [Nat.shiftLeft_eq]; omega
  have s1 : b1 <<< 16 < 4294967296 := by rw [Nat.shiftLeft_eq]; omega
  have s2 : b2 <<< 8 < 4294967296 := by rw [Nat.shiftLeft_eq]; omega
  have o1 := Nat.or_lt_two_pow (n := 32) s0 s1
  have o2 := Nat.or_lt_two_pow (n := 32) o1 s2
  rw [wu32_lt s0, wu32_lt s1, wu32_lt s2, bits_or32 s0 s1, bits_or32 o1 s2, bits_or32 o2 (by omega)]
theorem put_at_end {l : List V} {m : Nat} {z y : V} : (V.l (l ++ List.replicate (m + 1) z)).put l.length y = .l ((l ++ [y]) ++ List.replicate m z) := by
  unfold V.put
  simp only [V.els]
  rw [List.set_append_right _ _ (Nat.le_refl _), Nat.sub_self, List.replicate_succ, List.set_cons_zero, List.append_assoc, List.singleton_append]
theorem four {bs : List Nat} {k : Nat} (h : k + 4 ≤ bs.length) : ∃ b0 b1 b2 b3, bs[k]? = some b0 ∧ bs[k + 1]? = some b1 ∧ bs[k + 2]? = some b2 ∧ bs[k + 3]? = some b3 ∧ bs.drop k = b0 :: b1 :: b2 :: b3 :: bs.drop (k + 4) := by
  refine ⟨bs[k], bs[k + 1], bs[k + 2], bs[k + 3], by simp, by simp, by simp, by simp, ?_⟩
  rw [List.drop_eq_getElem_cons (by omega), List.drop_eq_getElem_cons (by omega), List.drop_eq_getElem_cons (by omega), List.drop_eq_getElem_cons (by omega)]
theorem lpSpA {R : Type} {x z : V} {bs : List Nat} (hx : x.els = bs.map nv) (hb : ∀ b ∈ bs, b < 256) (hl : 64 ≤ bs.length) : ∀ (m j n : Nat) (l : List Nat) (k : QSpA → Option R), j + m = 16 → l.length = j → m < n →
    lpC (BSpA R) n (.m x z (j : Int) (.l (l.reverse.map nv ++ List.replicate (48 + m) (.i 0)))) k = k (.o x z 16 (.l ((wordsR m (bs.drop (4 * j)) l).reverse.map nv ++ List.replicate 48 (.i 0)))) := by
  intro m
  induction m with
  | zero =>
    intro j n l k hj hlen hn
    obtain ⟨n, rfl⟩ : ∃ n', n = n' + 1 := ⟨n - 1, by omega⟩
    have : j = 16 := by omega
    subst this
    rfl
  | succ m ih =>
    intro j n l k hj hlen hn
    obtain ⟨n, rfl⟩ : ∃ n', n = n' + 1 := ⟨n - 1, by omega⟩
    obtain ⟨b0, b1, b2, b3, g0, g1, g2, g3, gd⟩ := four (bs := bs) (k := 4 * j) (by omega)
    have hxl : x.els.length = bs.length := by rw [hx, List.length_map]
    have w0 : W64 (4 * (j : Int)) = ((4 * j : Nat) : Int) := by rw [w64_in (by omega) (by omega)]; push_cast; rfl
    have w1 : W64 (W64 (4 * (j : Int)) + 1) = ((4 * j + 1 : Nat) : Int) := by rw [w0, w64_in (by omega) (by omega)]; push_cast; rfl
    have w2 : W64 (W64 (4 * (j : Int)) + 2) = ((4 * j + 2 : Nat) : Int) := by rw [w0, w64_in (by omega) (by omega)]; push_cast; rfl
    have w3 : W64 (W64 (4 * (j : Int)) + 3) = ((4 * j + 3 : Nat) : Int) := by rw [w0, w64_in (by omega) (by omega)]; push_cast; rfl
    have wj : W64 ((j : Int) + 1) = ((j + 1 : Nat) : Int) := by rw [w64_in (by omega) (by omega)]; push_cast; rfl
    rw [lpC]
    show (bif ilt (j : Int) 16 then _ else _) = _
    rw [show ilt (j : Int) 16 = true by simp [ilt]; omega, cond_true]
    simp only
    rw [w1, w2, w3, w0, hxl, ck_in (by omega) (by omega), ck_in (by omega) (by omega), ck_in (by omega) (by omega), ck_in (by omega) (by omega), ck_in (by omega) (by omega), wj, word4_eq hx hb (by omega) g0 g1 g2 g3]
    have hput := put_at_end (l := l.reverse.map nv) (m := 48 + m) (z := .i 0) (y := nv (((b0 * 256 + b1) * 256 + b2) * 256 + b3))
    rw [List.length_map, List.length_reverse, hlen] at hput
    rw [show ((j : Int)).toNat = j from rfl, show 48 + (m + 1) = 48 + m + 1 from rfl, show V.i ((((b0 * 256 + b1) * 256 + b2) * 256 + b3 : Nat) : Int) = nv (((b0 * 256 + b1) * 256 + b2) * 256 + b3) from rfl, hput]
    have hl2 : l.reverse.map nv ++ [nv (((b0 * 256 + b1) * 256 + b2) * 256 + b3)] = ((((b0 * 256 + b1) * 256 + b2) * 256 + b3) :: l).reverse.map nv := by simp
    rw [hl2, ih (j + 1) n _ k (by omega) (by simp [hlen]) (by omega), gd]
    simp only [wordsR, seeN_eq]
    rfl
theorem elV_rev {l : List Nat} {r : List V} {q : Nat} (h : q < l.length) : elV (.l (l.reverse.map nv ++ r)) ((l.length - 1 - q : Nat) : Int) = ((l.getD q 0 : Nat) : Int) := by
  unfold elV V.nth
  simp only [V.els]
  rw [show (((l.length - 1 - q : Nat) : Int)).toNat = l.length - 1 - q from rfl, List.getD, List.getElem?_append_left (by simp; omega), List.getElem?_map, List.getElem?_reverse (by omega)]
  rw [show l.length - 1 - (l.length - 1 - q) = q by omega]
  simp [List.getD, h, nv, V.int]
theorem wordsR_spec : ∀ (m : Nat) (bs acc : List Nat), (∀ b ∈ bs, b < 256) → (∀ a ∈ acc, a < M32) → 4 * m ≤ bs.length → (∀ a ∈ wordsR m bs acc, a < M32) ∧ (wordsR m bs acc).length = m + acc.length := by
  intro m
  induction m with
  | zero => intro bs acc _ ha _; simp only [wordsR]; exact ⟨ha, by simp⟩
  | succ m ih =>
    intro bs acc hb ha hl
    match bs, hb, hl with
    | b0 :: b1 :: b2 :: b3 :: r, hb, hl =>
      simp only [wordsR, seeN_eq]
      have l0 := hb b0 (by simp)
      have l1 := hb b1 (by simp)
      have l2 := hb b2 (by simp)
      have l3 := hb b3 (by simp)
      obtain ⟨p, q⟩ := ih r ((((b0 * 256 + b1) * 256 + b2) * 256 + b3) :: acc) (fun b h => hb b (by simp [h])) (fun a h => by
        rcases List.mem_cons.1 h with rfl | h
        · show _ < 4294967296; omega
        · exact ha a h) (by simp at hl; omega)
      exact ⟨p, by rw [q]; simp; omega⟩
    | [], _, hl => simp at hl
    | [_], _, hl => simp at hl; omega
    | [_, _], _, hl => simp at hl; omega
    | [_, _, _], _, hl => simp at hl; omega
theorem getD_lt {l : List Nat} (h : ∀ a ∈ l, a < M32) (q : Nat) : l.getD q 0 < M32 := by
  rw [List.getD]
  cases hq : l[q]? with
  | none => show 0 < M32; decide
  | some a => exact h a (List.mem_of_getElem? hq)
theorem schN_spec : ∀ (m : Nat) (l : List Nat), (∀ a ∈ l, a < M32) → (∀ a ∈ schN m l, a < M32) ∧ (schN m l).length = m + l.length := by
  intro m
  induction m with
  | zero => intro l h; simp only [schN]; exact ⟨h, by simp⟩
  | succ m ih =>
    intro l h
    simp only [schN, seeN_eq]
    obtain ⟨p, q⟩ := ih (nxtN l :: l) (fun a ha => by
      rcases List.mem_cons.1 ha with rfl | ha
      · exact Nat.mod_lt _ (by decide)
      · exact h a ha)
    exact ⟨p, by rw [q]; simp; omega⟩
theorem lpSpB {R : Type} {z : V} : ∀ (m n : Nat) (l : List Nat) (k : QSpB → Option R), l.length + m = 64 → 16 ≤ l.length → (∀ a ∈ l, a < M32) → m < n →
    lpC (BSpB R) n (.m z (l.length : Int) (.l (l.reverse.map nv ++ List.replicate m (.i 0)))) k = k (.o z 64 (.l ((schN m l).reverse.map nv))) := by
  intro m
  induction m with
  | zero =>
    intro n l k hj h16 hlt hn
    obtain ⟨n, rfl⟩ : ∃ n', n = n' + 1 := ⟨n - 1, by omega⟩
    have : l.length = 64 := by omega
    rw [this]
    simp only [schN, List.replicate_zero, List.append_nil]
    rfl
  | succ m ih =>
    intro n l k hj h16 hlt hn
    obtain ⟨n, rfl⟩ : ∃ n', n = n' + 1 := ⟨n - 1, by omega⟩
    have wi : ∀ d : Nat, d ≤ 16 → W64 ((l.length : Int) - (d : Int)) = ((l.length - d : Nat) : Int) := fun d hd => by rw [w64_in (by omega) (by omega)]; omega
    have wj : W64 ((l.length : Int) + 1) = ((l.length + 1 : Nat) : Int) := by rw [w64_in (by omega) (by omega)]; push_cast; rfl
    have e15 : W64 ((l.length : Int) - 15) = ((l.length - 1 - 14 : Nat) : Int) := (wi 15 (by omega)).trans (by omega)
    have e2 : W64 ((l.length : Int) - 2) = ((l.length - 1 - 1 : Nat) : Int) := (wi 2 (by omega)).trans (by omega)
    have e16 : W64 ((l.length : Int) - 16) = ((l.length - 1 - 15 : Nat) : Int) := (wi 16 (by omega)).trans (by omega)
    have e7 : W64 ((l.length : Int) - 7) = ((l.length - 1 - 6 : Nat) : Int) := (wi 7 (by omega)).trans (by omega)
    rw [lpC]
    show (bif ilt (l.length : Int) 64 then _ else _) = _
    rw [show ilt (l.length : Int) 64 = true by simp [ilt]; omega, cond_true]
    simp only
    rw [e15, e2, e16, e7, ck_in (by omega) (by omega), ck_in (by omega) (by omega), ck_in (by omega) (by omega), ck_in (by omega) (by omega), ck_in (by omega) (by omega), wj]
    rw [elV_rev (by omega), elV_rev (by omega), elV_rev (by omega), elV_rev (by omega), sg0_eq (getD_lt hlt _), sg1_eq (getD_lt hlt _)]
    have hput := put_at_end (l := l.reverse.map nv) (m := m) (z := .i 0) (y := nv (nxtN l))
    rw [List.length_map, List.length_reverse] at hput
    have hval : W32 (W32 (W32 (((l.getD 15 0 : Nat) : Int) + ((l.getD 6 0 : Nat) : Int)) + ((sS0 (l.getD 14 0) : Nat) : Int)) + ((sS1 (l.getD 1 0) : Nat) : Int)) = ((nxtN l : Nat) : Int) := by
      rw [← Int.natCast_add, wu32, ← Int.natCast_add, wu32, ← Int.natCast_add, wu32]
      congr 1
      unfold nxtN
      show _ = _ % 4294967296
      omega
    rw [hval, show ((l.length : Int)).toNat = l.length from rfl, show V.i ((nxtN l : Nat) : Int) = nv (nxtN l) from rfl, hput]
    have hl2 : l.reverse.map nv ++ [nv (nxtN l)] = (nxtN l :: l).reverse.map nv := by simp
    rw [hl2]
    have := ih n (nxtN l :: l) k (by simp; omega) (by simp; omega) (fun a ha => by
      rcases List.mem_cons.1 ha with rfl | ha
      · exact Nat.mod_lt _ (by decide)
      · exact hlt a ha) (by omega)
    rw [List.length_cons] at this
    rw [this]
    simp only [schN, seeN_eq]
end Go.Vm

namespace Go.Vm
open Go.RowKit
variable {T : TT} {R : Type} {P : Program}
theorem int_row {e : Env} {el : Nat} {kd : IntKind} (he : kOf T el = some (.int kd)) (hlo : lo kd = 0) : ∀ {n : Nat} {xs : List V} {cs : List Value}, RV T e (List.replicate n el) xs cs → ∃ ns : List Nat, xs = ns.map nv ∧ ∀ a ∈ ns, (a : Int) ≤ hi kd := by
  intro n
  induction n with
  | zero => intro xs cs h; cases h; exact ⟨[], rfl, fun a ha => by cases ha⟩
  | succ n ih =>
    intro xs cs h
    rw [List.replicate_succ] at h
    cases xs with
    | nil => cases h
    | cons x xs =>
      obtain ⟨d, r, rfl, g1, g2⟩ := h.cons_inv
      obtain ⟨m, rfl, _, hr⟩ := g1.int_inv he
      obtain ⟨ns, rfl, hn⟩ := ih g2
      unfold inR at hr
      rw [hlo] at hr
      refine ⟨m.toNat :: ns, ?_, fun a ha => ?_⟩
      · simp only [List.map_cons, nv]
        rw [show ((m.toNat : Nat) : Int) = m by omega]
      · rcases List.mem_cons.1 ha with rfl | ha
        · omega
        · exact hn a ha
theorem RP.uncons {e : Env} {t : Nat} {ts : List Nat} {x : V} {xs : List V} {vs : List Value} (h : RP T e (t :: ts) (x :: xs) vs) : ∃ v vs', vs = v :: vs' ∧ RV T e [t] [x] v.cells.toList ∧ RP T e ts xs vs' := by
  cases h with
  | cons h1 _ h2 => exact ⟨_, _, rfl, h1, h2⟩
theorem TV.head {t : Nat} {ts : List Nat} {x : V} {xs : List V} (h : TV T (t :: ts) (x :: xs)) : ∃ e cs, RV T e [t] [x] cs := by
  obtain ⟨e, vs, h⟩ := h
  obtain ⟨v, vs', _, h1, _⟩ := h.uncons
  exact ⟨e, _, h1⟩
theorem TV.tail {t : Nat} {ts : List Nat} {x : V} {xs : List V} (h : TV T (t :: ts) (x :: xs)) : TV T ts xs := by
  obtain ⟨e, vs, h⟩ := h
  obtain ⟨v, vs', _, _, h2⟩ := h.uncons
  exact ⟨e, vs', h2⟩
theorem TV.len {ts : List Nat} {xs : List V} (h : TV T ts xs) : xs.length = ts.length := by
  obtain ⟨e, vs, h⟩ := h
  induction h with
  | nil => rfl
  | cons _ _ _ ih => simp [ih]
theorem tv_slice {t el : Nat} {kd : IntKind} {x : V} {e : Env} {cs : List Value} (ht : kOf T t = some (.slice el)) (he : kOf T el = some (.int kd)) (hlo : lo kd = 0) (h : RV T e [t] [x] cs) : ∃ ns : List Nat, x.els = ns.map nv ∧ ∀ a ∈ ns, (a : Int) ≤ hi kd := by
  rcases h.slice_inv ht with ⟨rfl, _⟩ | ⟨ys, ds, a, cap, rfl, _, _, _, g⟩
  · exact ⟨[], rfl, fun a ha => by cases ha⟩
  · exact int_row he hlo g
theorem tv_arr {t n el : Nat} {kd : IntKind} {x : V} {e : Env} {cs : List Value} (ht : kOf T t = some (.arr n el)) (he : kOf T el = some (.int kd)) (hlo : lo kd = 0) (h : RV T e [t] [x] cs) : ∃ ns : List Nat, x = .l (ns.map nv) ∧ ns.length = n ∧ ∀ a ∈ ns, (a : Int) ≤ hi kd := by
  obtain ⟨ys, rfl, hl, g⟩ := h.arr_inv ht
  obtain ⟨ns, rfl, hn⟩ := int_row he hlo g
  exact ⟨ns, rfl, by simpa using hl, hn⟩
theorem ob_id {α : Type} (o : Option α) : ob o some = o := by cases o <;> rfl
theorem pure_run (hm : P.follows .mixedOrders = true) (hT : TOK T P) {tab : List (Nat × SymC)} (h : TabOK P T tab) {f d fu : Nat} {Lo : Nat → LC} {sh : Bool} {ts : List Nat} {rk : List RK} {F : FC} {G : (R : Type) → List V → (List Rs → Option R) → Option R} (hFn : F.nat) (hts : ts.all (fun t => (T t).isSome) = true)
    (hL : LoopsC P T f Lo)
    (hrun : ∀ (R : Type) xs (k : List Rs → Option R), TV T ts xs → runFC P T (runAC P T tab false fu d) Lo false fu f R (mkAs T ts xs) (fun _ => none) 0 (fun out => ob (resC T sh rk out) k) = G R xs k)
    (hG : ∀ xs rs, TV T ts xs → F (List Rs) xs some = some rs → G (List Rs) xs some = some rs) :
    TabOK P T ((f, pureS T sh ts F) :: tab) :=
  pure_con hm hT h hFn hts hL (fun xs rs htv hrs => by
    have := hG xs rs htv hrs
    rw [← hrun (List Rs) xs some htv] at this
    simpa only [ob_id] using this)
def stV (s : S8) : V := .l [nv s.a, nv s.b, nv s.c, nv s.d, nv s.e, nv s.f, nv s.g, nv s.h]
structure OkS (s : S8) : Prop where
  a : s.a < M32
  b : s.b < M32
  c : s.c < M32
  d : s.d < M32
  e : s.e < M32
  f : s.f < M32
  g : s.g < M32
  h : s.h < M32
theorem okS_rnd {s : S8} (h : OkS s) (k w : Nat) : OkS (rndN s k w) := by
  unfold rndN
  simp only [seeN_eq]
  exact ⟨Nat.mod_lt _ (by decide), h.a, h.b, h.c, Nat.mod_lt _ (by decide), h.e, h.f, h.g⟩
theorem not_eq {a : Nat} (h : a < M32) : bitsOf .xor .u32 4294967295 (a : Int) = ((4294967295 - a : Nat) : Int) := by
  rw [show (4294967295 : Int) = ((4294967295 : Nat) : Int) from rfl, bits_xor32 (by decide) h, xor_max h]
theorem rndV_eq {s : S8} (h : OkS s) {k w : Nat} (hk : k < M32) (hw : w < M32) : rndV (stV s) (k : Int) (w : Int) = stV (rndN s k w) := by
  have hne : 4294967295 - s.e < M32 := by show _ < 4294967296; omega
  have c1 : and (s.e : Int) (s.f : Int) = ((s.e &&& s.f : Nat) : Int) := and_eq h.e h.f
  have c2 : and ((4294967295 - s.e : Nat) : Int) (s.g : Int) = (((4294967295 - s.e) &&& s.g : Nat) : Int) := and_eq hne h.g
  have hch : xor (and (s.e : Int) (s.f : Int)) (and (bitsOf .xor .u32 4294967295 (s.e : Int)) (s.g : Int)) = ((chN s.e s.f s.g : Nat) : Int) := by
    rw [not_eq h.e, c1, c2, xor_eq (and_lt h.e) (and_lt hne)]; rfl
  have hb1 : xor (xor (rot (s.e : Int) 6) (rot (s.e : Int) 11)) (rot (s.e : Int) 25) = ((bS1 s.e : Nat) : Int) := by
    rw [rot_eq h.e, rot_eq h.e, rot_eq h.e, xor_eq (rotr_lt h.e) (rotr_lt h.e), xor_eq (xor_lt (rotr_lt h.e) (rotr_lt h.e)) (rotr_lt h.e)]; rfl
  have hb0 : xor (xor (rot (s.a : Int) 2) (rot (s.a : Int) 13)) (rot (s.a : Int) 22) = ((bS0 s.a : Nat) : Int) := by
    rw [rot_eq h.a, rot_eq h.a, rot_eq h.a, xor_eq (rotr_lt h.a) (rotr_lt h.a), xor_eq (xor_lt (rotr_lt h.a) (rotr_lt h.a)) (rotr_lt h.a)]; rfl
  have hmaj : xor (xor (and (s.a : Int) (s.b : Int)) (and (s.a : Int) (s.c : Int))) (and (s.b : Int) (s.c : Int)) = ((majN s.a s.b s.c : Nat) : Int) := by
    rw [and_eq h.a h.b, and_eq h.a h.c, and_eq h.b h.c, xor_eq (and_lt h.a) (and_lt h.a), xor_eq (xor_lt (and_lt h.a) (and_lt h.a)) (and_lt h.b)]; rfl
  have ht : W32 (W32 (W32 (W32 ((s.h : Int) + xor (xor (rot (s.e : Int) 6) (rot (s.e : Int) 11)) (rot (s.e : Int) 25)) + xor (and (s.e : Int) (s.f : Int)) (and (bitsOf .xor .u32 4294967295 (s.e : Int)) (s.g : Int))) + (k : Int)) + (w : Int)) = (((s.h + bS1 s.e + chN s.e s.f s.g + k + w) % 4294967296 : Nat) : Int) := by
    rw [hb1, hch, ← Int.natCast_add, wu32, ← Int.natCast_add, wu32, ← Int.natCast_add, wu32, ← Int.natCast_add, wu32]
    congr 1; omega
  have hu : W32 (xor (xor (rot (s.a : Int) 2) (rot (s.a : Int) 13)) (rot (s.a : Int) 22) + xor (xor (and (s.a : Int) (s.b : Int)) (and (s.a : Int) (s.c : Int))) (and (s.b : Int) (s.c : Int))) = (((bS0 s.a + majN s.a s.b s.c) % 4294967296 : Nat) : Int) := by
    rw [hb0, hmaj, ← Int.natCast_add, wu32]
  show V.l [.i (W32 (W32 (W32 (W32 (W32 ((s.h : Int) + xor (xor (rot (s.e : Int) 6) (rot (s.e : Int) 11)) (rot (s.e : Int) 25)) + xor (and (s.e : Int) (s.f : Int)) (and (bitsOf .xor .u32 4294967295 (s.e : Int)) (s.g : Int))) + (k : Int)) + (w : Int)) + W32 (xor (xor (rot (s.a : Int) 2) (rot (s.a : Int) 13)) (rot (s.a : Int) 22) + xor (xor (and (s.a : Int) (s.b : Int)) (and (s.a : Int) (s.c : Int))) (and (s.b : Int) (s.c : Int))))), .i s.a, .i s.b, .i s.c, .i (W32 ((s.d : Int) + W32 (W32 (W32 (W32 ((s.h : Int) + xor (xor (rot (s.e : Int) 6) (rot (s.e : Int) 11)) (rot (s.e : Int) 25)) + xor (and (s.e : Int) (s.f : Int)) (and (bitsOf .xor .u32 4294967295 (s.e : Int)) (s.g : Int))) + (k : Int)) + (w : Int)))), .i s.e, .i s.f, .i s.g] = _
  rw [ht, hu, ← Int.natCast_add, ← Int.natCast_add, wu32, wu32]
  unfold rndN stV
  simp only [seeN_eq, nv]
  refine congrArg V.l ?_
  congr 1
  · congr 1; congr 1; show _ = _ % 4294967296; omega
  · congr 3
    congr 1
    congr 1; congr 1; show _ = _ % 4294967296; omega
theorem elV_list {l : List Nat} {j : Nat} (h : j < l.length) : elV (.l (l.map nv)) (j : Int) = ((l[j] : Nat) : Int) := by
  unfold elV V.nth
  simp only [V.els]
  rw [show ((j : Int)).toNat = j from rfl, List.getD, List.getElem?_map, List.getElem?_eq_getElem h]
  rfl
theorem lpMxA {s z : V} {K W : List Nat} (hK : K.length = 64) (hW : W.length = 64) (kK : ∀ a ∈ K, a < M32) (kW : ∀ a ∈ W, a < M32) : ∀ (m j n : Nat) (x : S8) (k : QMxA → Option R), j + m = 64 → OkS x → m < n →
    lpC (BMxA R) n (.m s z (.l (W.map nv)) (.l (K.map nv)) (stV x) (j : Int)) k = k (.o s z (.l (W.map nv)) (.l (K.map nv)) (stV (rndsN (K.drop j) (W.drop j) x)) 64) := by
  intro m
  induction m with
  | zero =>
    intro j n x k hj hx hn
    obtain ⟨n, rfl⟩ : ∃ n', n = n' + 1 := ⟨n - 1, by omega⟩
    have : j = 64 := by omega
    subst this
    rw [List.drop_of_length_le (by omega), List.drop_of_length_le (by omega)]
    rfl
  | succ m ih =>
    intro j n x k hj hx hn
    obtain ⟨n, rfl⟩ : ∃ n', n = n' + 1 := ⟨n - 1, by omega⟩
    have wj : W64 ((j : Int) + 1) = ((j + 1 : Nat) : Int) := by rw [w64_in (by omega) (by omega)]; push_cast; rfl
    rw [lpC]
    show (bif ilt (j : Int) 64 then _ else _) = _
    rw [show ilt (j : Int) 64 = true by simp [ilt]; omega, cond_true]
    simp only
    rw [ck_in (by omega) (by omega), ck_in (by omega) (by omega), wj, elV_list (by omega), elV_list (by omega), rndV_eq hx (kK _ (List.getElem_mem ..)) (kW _ (List.getElem_mem ..)), ih (j + 1) n _ k (by omega) (okS_rnd hx _ _) (by omega)]
    rw [List.drop_eq_getElem_cons (show j < K.length by omega), List.drop_eq_getElem_cons (show j < W.length by omega)]
    rfl
theorem okS_add {s x : S8} : OkS (addS s x) := by
  unfold addS
  simp only [seeN_eq]
  exact ⟨Nat.mod_lt _ (by decide), Nat.mod_lt _ (by decide), Nat.mod_lt _ (by decide), Nat.mod_lt _ (by decide), Nat.mod_lt _ (by decide), Nat.mod_lt _ (by decide), Nat.mod_lt _ (by decide), Nat.mod_lt _ (by decide)⟩
theorem lpMxB {s x : S8} {z : V} {n : Nat} {k : QMxB → Option R} :
    lpC (BMxB R) (n + 9) (.m (stV s) z (stV x) 0) k = k (.o (stV (addS s x)) z (stV x) 8) := by
  have h1 : lpC (BMxB R) (n + 9) (.m (stV s) z (stV x) 0) k = k (.o (.l [.i (W32 ((s.a : Int) + (x.a : Int))), .i (W32 ((s.b : Int) + (x.b : Int))), .i (W32 ((s.c : Int) + (x.c : Int))), .i (W32 ((s.d : Int) + (x.d : Int))), .i (W32 ((s.e : Int) + (x.e : Int))), .i (W32 ((s.f : Int) + (x.f : Int))), .i (W32 ((s.g : Int) + (x.g : Int))), .i (W32 ((s.h : Int) + (x.h : Int)))]) z (stV x) 8) := by kernel_rfl
  rw [h1]
  simp only [← Int.natCast_add, wu32]
  unfold addS stV
  simp only [seeN_eq]
  rfl
end Go.Vm

namespace Go.Vm
open Go.RowKit
variable {T : TT} {R : Type} {P : Program}
def z64 : V := .l (List.replicate 64 (.i 0))
def z8 : V := .l (List.replicate 8 (.i 0))
def keysV : V := .l (keysN.map nv)
def bytesN (x : V) : List Nat := x.els.map fun v => v.int.toNat
def spW (x : V) : V := .l ((schN 48 (wordsR 16 (bytesN x) [])).reverse.map nv)
def s8 (x : V) : S8 := ⟨(x.nth 0).int.toNat, (x.nth 1).int.toNat, (x.nth 2).int.toNat, (x.nth 3).int.toNat, (x.nth 4).int.toNat, (x.nth 5).int.toNat, (x.nth 6).int.toNat, (x.nth 7).int.toNat⟩
def mixV (s b : V) : V := stV (mixN (s8 s) (bytesN b))
def Fsp (t : Nat) : FC := fun R xs k => match xs with
  | [x] => bif Nat.ble 64 x.els.length then k [.d t (spW x)] else none
  | _ => none
def Fmx (t : Nat) : FC := fun R xs k => match xs with
  | [s, b] => bif Nat.ble 64 b.els.length then k [.d t (mixV s b)] else none
  | _ => none
theorem Fsp_nat (t : Nat) : FC.nat (Fsp t) := by
  intro R xs k
  unfold Fsp
  split
  · rename_i x; cases Nat.ble 64 x.els.length <;> rfl
  · rfl
theorem Fmx_nat (t : Nat) : FC.nat (Fmx t) := by
  intro R xs k
  unfold Fmx
  split
  · rename_i s b; cases Nat.ble 64 b.els.length <;> rfl
  · rfl
theorem bytesN_eq {x : V} {bs : List Nat} (hx : x.els = bs.map nv) : bytesN x = bs := by
  unfold bytesN
  rw [hx, List.map_map]
  conv => rhs; rw [← List.map_id bs]
  apply List.map_congr_left
  intro a _
  rfl
theorem spread_law {x : V} {bs : List Nat} (hx : x.els = bs.map nv) (hb : ∀ b ∈ bs, b < 256) (hl : 64 ≤ bs.length) {n : Nat} (hn : 64 < n) (k : V → Option R) :
    lpC (BSpA R) n (.m x z64 0 z64) (fun | .o _ z _ w => lpC (BSpB R) n (.m z 16 w) (fun | .o _ _ w => k w)) = k (spW x) := by
  have h1 := lpSpA (R := R) (z := z64) hx hb hl 16 0 n [] (fun | .o _ z _ w => lpC (BSpB R) n (.m z 16 w) (fun | .o _ _ w => k w)) rfl rfl (by omega)
  obtain ⟨w1, w2⟩ := wordsR_spec 16 bs [] hb (fun a h => by cases h) (by omega)
  have h2 := lpSpB (R := R) (z := z64) 48 n (wordsR 16 bs []) (fun | .o _ _ w => k w) (by rw [w2]; rfl) (by rw [w2]; simp) w1 (by omega)
  rw [w2] at h2
  refine h1.trans (Eq.trans ?_ (h2.trans ?_))
  · rfl
  · show k _ = _
    unfold spW
    rw [bytesN_eq hx]
theorem keysN_lt : ∀ a ∈ keysN, a < M32 := by decide
theorem s8_stV (s : S8) : s8 (stV s) = s := rfl
theorem mix_law {s : S8} {b : V} {bs : List Nat} (hs : OkS s) (hx : b.els = bs.map nv) (hb : ∀ b ∈ bs, b < 256) (hl : 64 ≤ bs.length) {n : Nat} (hn : 64 < n) (k : V → Option R) :
    lpC (BMxA R) n (.m (stV s) z8 (spW b) keysV (stV s) 0) (fun | .o s z _ _ x _ => lpC (BMxB R) n (.m s z x 0) (fun | .o s _ _ _ => k s)) = k (mixV (stV s) b) := by
  obtain ⟨w1, w2⟩ := wordsR_spec 16 bs [] hb (fun a h => by cases h) (by omega)
  obtain ⟨c1, c2⟩ := schN_spec 48 (wordsR 16 bs []) w1
  have h1 := lpMxA (R := R) (s := stV s) (z := z8) (K := keysN) (W := (schN 48 (wordsR 16 bs [])).reverse) rfl (by rw [List.length_reverse, c2, w2]; rfl) keysN_lt (fun a h => c1 a (List.mem_reverse.1 h)) 64 0 n s
    (fun | .o s z _ _ x _ => lpC (BMxB R) n (.m s z x 0) (fun | .o s _ _ _ => k s)) rfl hs (by omega)
  have hsp : spW b = .l ((schN 48 (wordsR 16 bs [])).reverse.map nv) := by unfold spW; rw [bytesN_eq hx]
  rw [hsp]
  refine h1.trans ?_
  obtain ⟨n, rfl⟩ : ∃ n', n = n' + 9 := ⟨n - 9, by omega⟩
  refine lpMxB.trans ?_
  show k _ = k _
  unfold mixV mixN
  rw [s8_stV, bytesN_eq hx]
  rfl
theorem stV_of {ns : List Nat} (hl : ns.length = 8) (h : ∀ a ∈ ns, (a : Int) ≤ 4294967295) : ∃ s, V.l (ns.map nv) = stV s ∧ OkS s := by
  match ns, hl with
  | [a, b, c, d, e, f, g, i], _ =>
    have q : ∀ x ∈ [a, b, c, d, e, f, g, i], x < M32 := fun x hx => by have := h x hx; show x < 4294967296; omega
    exact ⟨⟨a, b, c, d, e, f, g, i⟩, rfl, ⟨q _ (by simp), q _ (by simp), q _ (by simp), q _ (by simp), q _ (by simp), q _ (by simp), q _ (by simp), q _ (by simp)⟩⟩
theorem lt256 {bs : List Nat} (h : ∀ a ∈ bs, (a : Int) ≤ hi .u8) : ∀ b ∈ bs, b < 256 := fun b hb => by have := h b hb; simp only [hi] at this; omega
end Go.Vm

namespace Go.Vm
open Go.RowKit
variable {T : TT} {R : Type} {P : Program}
abbrev ln {R : Type} (n : Nat) (k : Option R) : Option R := bif Nat.ble n 9223372036854775807 then k else none
abbrev lim {R : Type} (n : Nat) (k : Option R) : Option R := bif Nat.ble n LIM then k else none
def gtL (l : List V) (i : Int) : Int := (l.getD i.toNat .n).int
def xorU (a b : Int) : Int := bitsOf .xor .u64 a b
def andU (a b : Int) : Int := bitsOf .and .u64 a b
def rtU (x : Int) (n : Nat) : Int := (bitsOf .or .u64 (x.fdiv (2 ^ n)) (WU (x * 2 ^ (32 - n)))).tmod 4294967296
def sgU0 (x : Int) : Int := xorU (xorU (rtU x 7) (rtU x 18)) (x.fdiv (2 ^ 3))
def sgU1 (x : Int) : Int := xorU (xorU (rtU x 17) (rtU x 19)) (x.fdiv (2 ^ 10))
def wordU (xs : List V) (i : Int) : Int := WU (WU (256 * WU (WU (256 * WU (WU (256 * WU (WU (256 * 0) + WU (gtL xs (W64 (i + 0))))) + WU (gtL xs (W64 (i + 1))))) + WU (gtL xs (W64 (i + 2))))) + WU (gtL xs (W64 (i + 3))))
def sh8 : Nat → V → V
  | 0, x => x
  | j + 1, x => sh8 j (x.put (j + 1) (.i (elV x j)))
def rndU (x : V) (k w : Int) : V :=
  let e := elV x 4
  let a := elV x 0
  let t := (WU (WU (WU (WU (elV x 7 + xorU (xorU (rtU e 6) (rtU e 11)) (rtU e 25)) + xorU (andU e (elV x 5)) (andU (WU (4294967295 - e)) (elV x 6))) + k) + w)).tmod 4294967296
  let small := xorU (xorU (rtU a 2) (rtU a 13)) (rtU a 22)
  let most := xorU (xorU (andU a (elV x 1)) (andU a (elV x 2))) (andU (elV x 1) (elV x 2))
  let y := (sh8 7 x).put 4 (.i ((WU (elV (sh8 7 x) 4 + t)).tmod 4294967296))
  y.put 0 (.i ((WU (WU (t + small) + most)).tmod 4294967296))
def ad8 : Nat → Nat → V → V → V
  | 0, _, v, _ => v
  | m + 1, j, v, x => ad8 m (j + 1) (v.put j (.i ((WU (elV v j + elV x j)).tmod 4294967296))) x
inductive PPdA where
  | m (b : V) (xs : List V)
inductive QPdA where
  | o (b : V) (xs : List V)
def BPdA (R : Type) (p : PPdA) (K : PPdA → Option R) (kx : QPdA → Option R) : Option R :=
  match p with
  | .m b xs =>
    ln xs.length <| bif !(ieq ((xs.length : Int).tmod 64) 56) then lim (xs.length + 1) <| K (.m b (xs ++ [.i 0])) else kx (.o b xs)
inductive PSmA where
  | m (z : V) (v : V) (xs : List V) (kk : V) (at_ : Int) (ws : List V) (i : Int)
inductive QSmA where
  | o (z : V) (v : V) (xs : List V) (kk : V) (at_ : Int) (ws : List V) (i : Int)
def BSmA (R : Type) (p : PSmA) (K : PSmA → Option R) (kx : QSmA → Option R) : Option R :=
  match p with
  | .m z v xs kk at_ ws i =>
    bif ilt i 64 then
      (bif ilt i 16 then
        ck (W64 (W64 (at_ + W64 (4 * i)) + 0)) xs.length <| ck (W64 (W64 (at_ + W64 (4 * i)) + 1)) xs.length <| ck (W64 (W64 (at_ + W64 (4 * i)) + 2)) xs.length <| ck (W64 (W64 (at_ + W64 (4 * i)) + 3)) xs.length <|
        lim (ws.length + 1) <| K (.m z v xs kk at_ (ws ++ [.i (wordU xs (W64 (at_ + W64 (4 * i))))]) (W64 (i + 1)))
      else
        ck (W64 (i - 15)) ws.length <| ck (W64 (i - 15)) ws.length <| ck (W64 (i - 15)) ws.length <| ck (W64 (i - 2)) ws.length <| ck (W64 (i - 2)) ws.length <| ck (W64 (i - 2)) ws.length <|
        ck (W64 (i - 16)) ws.length <| ck (W64 (i - 7)) ws.length <| lim (ws.length + 1) <|
        K (.m z v xs kk at_ (ws ++ [.i ((WU (WU (WU (gtL ws (W64 (i - 16)) + sgU0 (gtL ws (W64 (i - 15)))) + gtL ws (W64 (i - 7))) + sgU1 (gtL ws (W64 (i - 2))))).tmod 4294967296)]) (W64 (i + 1))))
    else kx (.o z v xs kk at_ ws i)
inductive PSmB where
  | m (z : V) (v : V) (xs : List V) (kk : V) (at_ : Int) (ws : List V) (x : V) (i : Int)
inductive QSmB where
  | o (z : V) (v : V) (xs : List V) (kk : V) (at_ : Int) (ws : List V) (x : V) (i : Int)
def BSmB (R : Type) (p : PSmB) (K : PSmB → Option R) (kx : QSmB → Option R) : Option R :=
  match p with
  | .m z v xs kk at_ ws x i =>
    bif ilt i 64 then ck i 64 <| ck i ws.length <| K (.m z v xs kk at_ ws (rndU x (elV kk i) (gtL ws i)) (W64 (i + 1))) else kx (.o z v xs kk at_ ws x i)
inductive PSmO where
  | m (z : V) (v : V) (xs : List V) (kk : V) (at_ : Int)
inductive QSmO where
  | o (z : V) (v : V) (xs : List V) (kk : V) (at_ : Int)
noncomputable def BSmO (R : Type) (p : PSmO) (K : PSmO → Option R) (kx : QSmO → Option R) : Option R :=
  match p with
  | .m z v xs kk at_ =>
    ln xs.length <| bif ilt at_ xs.length then
      lpC (BSmA R) (hid FU) (.m z v xs kk at_ [] 0) (fun | .o z v xs kk at_ ws _ => lpC (BSmB R) (hid FU) (.m z v xs kk at_ ws v 0) (fun | .o z v xs kk at_ _ x _ => K (.m z (ad8 8 0 v x) xs kk (W64 (at_ + 64)))))
    else kx (.o z v xs kk at_)
end Go.Vm

namespace Go.Vm
open Go.RowKit
variable {T : TT} {R : Type} {P : Program}
def bt (n : Int) (j : Nat) : V := .i (IntKind.wrap .u8 ((n.fdiv (2 ^ (8 * j))).tmod 256))
def ap8 {R : Type} (n : Int) : Nat → List V → (List V → Option R) → Option R
  | 0, xs, k => k xs
  | j + 1, xs, k => lim (xs.length + 1) <| ap8 n j (xs ++ [bt n j]) k
theorem lim_in {n : Nat} {k : Option R} (h : n ≤ 1073741824) : lim n k = k := by
  unfold lim LIM
  rw [Nat.ble_eq_true_of_le h]; rfl
theorem ln_in {n : Nat} {k : Option R} (h : n ≤ 9223372036854775807) : ln n k = k := by
  unfold ln
  rw [Nat.ble_eq_true_of_le h]; rfl
theorem tmod_nat (a b : Nat) : (a : Int).tmod (b : Int) = ((a % b : Nat) : Int) := rfl
theorem ieq_yes {a b : Int} (h : a = b) : ieq a b = true := ieq_iff.2 h
theorem ieq_no {a b : Int} (h : a ≠ b) : ieq a b = false := by
  cases hq : ieq a b with
  | false => rfl
  | true => exact absurd (ieq_iff.1 hq) h
theorem lpPdA {b : V} : ∀ (m n : Nat) (xs : List V) (k : QPdA → Option R), (xs.length + m) % 64 = 56 → m < 64 → xs.length + m ≤ 1073741824 → m < n →
    lpC (BPdA R) n (.m b xs) k = k (.o b (xs ++ List.replicate m (.i 0))) := by
  intro m
  induction m with
  | zero =>
    intro n xs k h1 h2 h3 h4
    obtain ⟨n, rfl⟩ : ∃ n', n = n' + 1 := ⟨n - 1, by omega⟩
    rw [lpC]
    show ln xs.length (bif !(ieq ((xs.length : Int).tmod 64) 56) then _ else _) = _
    rw [ln_in (by omega), show (64 : Int) = ((64 : Nat) : Int) from rfl, tmod_nat, ieq_yes (by omega)]
    simp
  | succ m ih =>
    intro n xs k h1 h2 h3 h4
    obtain ⟨n, rfl⟩ : ∃ n', n = n' + 1 := ⟨n - 1, by omega⟩
    rw [lpC]
    show ln xs.length (bif !(ieq ((xs.length : Int).tmod 64) 56) then lim (xs.length + 1) _ else _) = _
    rw [ln_in (by omega), show (64 : Int) = ((64 : Nat) : Int) from rfl, tmod_nat, ieq_no (by omega), lim_in (by omega)]
    simp only [Bool.not_false, cond_true]
    rw [ih n (xs ++ [V.i 0]) k (by simp; omega) (by omega) (by simp; omega) (by omega)]
    simp [List.replicate_succ]
theorem bt_eq {n : Nat} (j : Nat) : bt (n : Int) j = nv (n / 2 ^ (8 * j) % 256) := by
  unfold bt
  rw [fdiv_pow, Nat.shiftRight_eq_div_pow, show (256 : Int) = ((256 : Nat) : Int) from rfl, tmod_nat]
  have : IntKind.wrap .u8 ((n / 2 ^ (8 * j) % 256 : Nat) : Int) = ((n / 2 ^ (8 * j) % 256 : Nat) : Int) := by
    have hl : n / 2 ^ (8 * j) % 256 < 256 := Nat.mod_lt _ (by decide)
    unfold IntKind.wrap
    simp [IntKind.bits, IntKind.signed]
  rw [this]; rfl
theorem ap8_eq {n : Int} : ∀ (j : Nat) (xs : List V) (k : List V → Option R), xs.length + j ≤ 1073741824 → ap8 n j xs k = k (xs ++ ((List.range j).reverse.map (bt n))) := by
  intro j
  induction j with
  | zero => intro xs k h; simp [ap8]
  | succ j ih =>
    intro xs k h
    rw [ap8, lim_in (by omega), ih _ _ (by simp; omega)]
    simp [List.range_succ]
noncomputable def Gpd (el : Nat) : FC := fun R xs k => match xs with
  | [b] => lim (([] : List V).length + b.els.length) <| lim (b.els.length + 1) <| lpC (BPdA R) (hid FU) (.m b (b.els ++ [.i 128])) (fun | .o b xs => ln b.els.length <| ap8 (WU (WU b.els.length * 8)) 8 xs fun xs => k [.r el xs false])
  | _ => none
def Fpd (el : Nat) : FC := fun R xs k => match xs with
  | [b] => bif Nat.ble b.els.length 1000000000 then k [.r el (b.els ++ (padN b.els.length).map nv) false] else none
  | _ => none
theorem Fpd_nat (el : Nat) : FC.nat (Fpd el) := by
  intro R xs k
  unfold Fpd
  split
  · rename_i b; cases Nat.ble b.els.length 1000000000 <;> rfl
  · rfl
theorem HID : 64 < hid FU := by rw [hid_eq]; decide
theorem pd_law (el : Nat) {b : V} {rs : List Rs} (h : Fpd el (List Rs) [b] some = some rs) : Gpd el (List Rs) [b] some = some rs := by
  simp only [Fpd] at h
  cases hl : Nat.ble b.els.length 1000000000 with
  | false => rw [hl] at h; cases h
  | true =>
    rw [hl] at h
    have hl := Nat.le_of_ble_eq_true hl
    simp only [Gpd]
    have HID := HID
    rw [lim_in (by simp; omega), lim_in (by omega), lpPdA ((119 - b.els.length % 64) % 64) (hid FU) (b.els ++ [V.i 128]) _ (by simp; omega) (by omega) (by simp; omega) (by omega)]
    simp only
    rw [ln_in (by omega), ap8_eq _ _ _ (by simp; omega)]
    have hw : WU (WU (b.els.length : Int) * 8) = ((8 * b.els.length : Nat) : Int) := by
      rw [wu64_lt (by omega), show ((b.els.length : Int) * 8) = ((8 * b.els.length : Nat) : Int) by push_cast; omega, wu64_lt (by omega)]
    rw [hw]
    refine Eq.trans ?_ h
    simp only [cond_true]
    congr 3
    unfold padN
    generalize 8 * b.els.length = N
    rw [show (List.range 8).reverse = [7, 6, 5, 4, 3, 2, 1, 0] from rfl]
    simp only [List.map_cons, List.map_append, List.append_assoc, List.map_replicate, List.cons_append, List.nil_append, List.map_nil, bt_eq, Nat.mul_zero, Nat.pow_zero, Nat.div_one]
    rfl
end Go.Vm

namespace Go.Vm
open Go.RowKit
variable {T : TT} {R : Type} {P : Program}
theorem big_lt {a : Nat} (h : a < M32) : a < 18446744073709551616 := Nat.lt_of_lt_of_le h (by decide)
theorem xorU_eq {a b : Nat} (ha : a < M32) (hb : b < M32) : xorU (a : Int) (b : Int) = ((a ^^^ b : Nat) : Int) := bits_xor64 (big_lt ha) (big_lt hb)
theorem andU_eq {a b : Nat} (ha : a < M32) (hb : b < M32) : andU (a : Int) (b : Int) = ((a &&& b : Nat) : Int) := bits_and64 (big_lt ha) (big_lt hb)
theorem rtU_eq {a n : Nat} (h : a < M32) (hn : 0 < n) (hn2 : n < 32) : rtU (a : Int) n = ((rotr a n : Nat) : Int) := by
  unfold rtU rotr
  have h2 : a <<< (32 - n) < 18446744073709551616 := by
    rw [Nat.shiftLeft_eq]
    have : 2 ^ (32 - n) ≤ 2 ^ 32 := Nat.pow_le_pow_right (by decide) (by omega)
    have h3 : a * 2 ^ (32 - n) ≤ a * 2 ^ 32 := Nat.mul_le_mul_left _ this
    have h' : a < 4294967296 := h
    omega
  rw [mul_pow, fdiv_pow, wu64_lt h2, bits_or64 (big_lt (shr_lt h)) h2, show (4294967296 : Int) = ((4294967296 : Nat) : Int) from rfl, tmod_nat]
  congr 1
  rw [show (4294967296 : Nat) = 2 ^ 32 from rfl, Nat.or_mod_two_pow, show M32 = 2 ^ 32 from rfl, Nat.mod_eq_of_lt (show a >>> n < 2 ^ 32 from shr_lt h)]
theorem sgU0_eq {a : Nat} (h : a < M32) : sgU0 (a : Int) = ((sS0 a : Nat) : Int) := by
  unfold sgU0 sS0
  rw [rtU_eq h (by decide) (by decide), rtU_eq h (by decide) (by decide), fdiv_pow, xorU_eq (rotr_lt h) (rotr_lt h), xorU_eq (xor_lt (rotr_lt h) (rotr_lt h)) (shr_lt h)]
theorem sgU1_eq {a : Nat} (h : a < M32) : sgU1 (a : Int) = ((sS1 a : Nat) : Int) := by
  unfold sgU1 sS1
  rw [rtU_eq h (by decide) (by decide), rtU_eq h (by decide) (by decide), fdiv_pow, xorU_eq (rotr_lt h) (rotr_lt h), xorU_eq (xor_lt (rotr_lt h) (rotr_lt h)) (shr_lt h)]
theorem chN_lt {a b c : Nat} (ha : a < M32) : chN a b c < M32 := by
  unfold chN
  have : 4294967295 - a < M32 := by show _ < 4294967296; omega
  exact xor_lt (and_lt ha) (and_lt this)
theorem majN_lt {a b c : Nat} (ha : a < M32) (hb : b < M32) : majN a b c < M32 := by
  unfold majN
  exact xor_lt (xor_lt (and_lt ha) (and_lt ha)) (and_lt hb)
theorem tm32 (n : Nat) : (n : Int).tmod 4294967296 = ((n % 4294967296 : Nat) : Int) := rfl
theorem rndU_eq {s : S8} (h : OkS s) {k w : Nat} (hk : k < M32) (hw : w < M32) : rndU (stV s) (k : Int) (w : Int) = stV (rndN s k w) := by
  have hne : 4294967295 - s.e < M32 := by show _ < 4294967296; omega
  have hb1 : xorU (xorU (rtU (s.e : Int) 6) (rtU (s.e : Int) 11)) (rtU (s.e : Int) 25) = ((bS1 s.e : Nat) : Int) := by
    rw [rtU_eq h.e (by decide) (by decide), rtU_eq h.e (by decide) (by decide), rtU_eq h.e (by decide) (by decide), xorU_eq (rotr_lt h.e) (rotr_lt h.e), xorU_eq (xor_lt (rotr_lt h.e) (rotr_lt h.e)) (rotr_lt h.e)]; rfl
  have hb0 : xorU (xorU (rtU (s.a : Int) 2) (rtU (s.a : Int) 13)) (rtU (s.a : Int) 22) = ((bS0 s.a : Nat) : Int) := by
    rw [rtU_eq h.a (by decide) (by decide), rtU_eq h.a (by decide) (by decide), rtU_eq h.a (by decide) (by decide), xorU_eq (rotr_lt h.a) (rotr_lt h.a), xorU_eq (xor_lt (rotr_lt h.a) (rotr_lt h.a)) (rotr_lt h.a)]; rfl
  have hch : xorU (andU (s.e : Int) (s.f : Int)) (andU (WU (4294967295 - (s.e : Int))) (s.g : Int)) = ((chN s.e s.f s.g : Nat) : Int) := by
    have he : s.e < 4294967296 := h.e
    rw [show (4294967295 - (s.e : Int)) = ((4294967295 - s.e : Nat) : Int) by omega, wu64_lt (big_lt hne), andU_eq h.e h.f, andU_eq hne h.g, xorU_eq (and_lt h.e) (and_lt hne)]; rfl
  have hmaj : xorU (xorU (andU (s.a : Int) (s.b : Int)) (andU (s.a : Int) (s.c : Int))) (andU (s.b : Int) (s.c : Int)) = ((majN s.a s.b s.c : Nat) : Int) := by
    rw [andU_eq h.a h.b, andU_eq h.a h.c, andU_eq h.b h.c, xorU_eq (and_lt h.a) (and_lt h.a), xorU_eq (xor_lt (and_lt h.a) (and_lt h.a)) (and_lt h.b)]; rfl
  have l1 : s.h < 4294967296 := h.h
  have l2 : bS1 s.e < 4294967296 := bS1_lt h.e
  have l3 : chN s.e s.f s.g < 4294967296 := chN_lt h.e
  have l4 : bS0 s.a < 4294967296 := bS0_lt h.a
  have l5 : majN s.a s.b s.c < 4294967296 := majN_lt h.a h.b
  have l6 : s.d < 4294967296 := h.d
  have hk : k < 4294967296 := hk
  have hw : w < 4294967296 := hw
  have ht : (WU (WU (WU (WU ((s.h : Int) + xorU (xorU (rtU (s.e : Int) 6) (rtU (s.e : Int) 11)) (rtU (s.e : Int) 25)) + xorU (andU (s.e : Int) (s.f : Int)) (andU (WU (4294967295 - (s.e : Int))) (s.g : Int))) + (k : Int)) + (w : Int))).tmod 4294967296 = (((s.h + bS1 s.e + chN s.e s.f s.g + k + w) % 4294967296 : Nat) : Int) := by
    rw [hb1, hch, ← Int.natCast_add, wu64_lt (by omega), ← Int.natCast_add, wu64_lt (by omega), ← Int.natCast_add, wu64_lt (by omega), ← Int.natCast_add, wu64_lt (by omega), tm32]
  show V.l [.i ((WU (WU ((WU (WU (WU (WU ((s.h : Int) + xorU (xorU (rtU (s.e : Int) 6) (rtU (s.e : Int) 11)) (rtU (s.e : Int) 25)) + xorU (andU (s.e : Int) (s.f : Int)) (andU (WU (4294967295 - (s.e : Int))) (s.g : Int))) + (k : Int)) + (w : Int))).tmod 4294967296 + xorU (xorU (rtU (s.a : Int) 2) (rtU (s.a : Int) 13)) (rtU (s.a : Int) 22)) + xorU (xorU (andU (s.a : Int) (s.b : Int)) (andU (s.a : Int) (s.c : Int))) (andU (s.b : Int) (s.c : Int)))).tmod 4294967296),
    .i s.a, .i s.b, .i s.c, .i ((WU ((s.d : Int) + (WU (WU (WU (WU ((s.h : Int) + xorU (xorU (rtU (s.e : Int) 6) (rtU (s.e : Int) 11)) (rtU (s.e : Int) 25)) + xorU (andU (s.e : Int) (s.f : Int)) (andU (WU (4294967295 - (s.e : Int))) (s.g : Int))) + (k : Int)) + (w : Int))).tmod 4294967296)).tmod 4294967296), .i s.e, .i s.f, .i s.g] = _
  rw [ht, hb0, hmaj, ← Int.natCast_add, wu64_lt (by omega), ← Int.natCast_add, wu64_lt (by omega), tm32, ← Int.natCast_add, wu64_lt (by omega), tm32]
  unfold rndN stV
  simp only [seeN_eq, nv]
  refine congrArg V.l ?_
  congr 1
  · congr 1; congr 1; show _ = _ % 4294967296; omega
  · congr 3
    congr 1
    congr 1; congr 1; show _ = _ % 4294967296; omega
theorem ad8_eq {s x : S8} (hs : OkS s) (hx : OkS x) : ad8 8 0 (stV s) (stV x) = stV (addS s x) := by
  have q : ∀ a b : Nat, a < M32 → b < M32 → (WU ((a : Int) + (b : Int))).tmod 4294967296 = (((a + b) % M32 : Nat) : Int) := fun a b ha hb => by
    have ha : a < 4294967296 := ha
    have hb : b < 4294967296 := hb
    rw [← Int.natCast_add, wu64_lt (by omega), tm32]
  show V.l [.i ((WU ((s.a : Int) + (x.a : Int))).tmod 4294967296), .i ((WU ((s.b : Int) + (x.b : Int))).tmod 4294967296), .i ((WU ((s.c : Int) + (x.c : Int))).tmod 4294967296), .i ((WU ((s.d : Int) + (x.d : Int))).tmod 4294967296), .i ((WU ((s.e : Int) + (x.e : Int))).tmod 4294967296), .i ((WU ((s.f : Int) + (x.f : Int))).tmod 4294967296), .i ((WU ((s.g : Int) + (x.g : Int))).tmod 4294967296), .i ((WU ((s.h : Int) + (x.h : Int))).tmod 4294967296)] = _
  rw [q _ _ hs.a hx.a, q _ _ hs.b hx.b, q _ _ hs.c hx.c, q _ _ hs.d hx.d, q _ _ hs.e hx.e, q _ _ hs.f hx.f, q _ _ hs.g hx.g, q _ _ hs.h hx.h]
  unfold addS stV
  simp only [seeN_eq]
  rfl
theorem gtL_at {l : List Nat} {j a : Nat} (h : l[j]? = some a) : gtL (l.map nv) (j : Int) = (a : Int) := by
  unfold gtL
  rw [show ((j : Int)).toNat = j from rfl, List.getD, List.getElem?_map, h]
  rfl
theorem gtL_rev {l : List Nat} {q : Nat} (h : q < l.length) : gtL (l.reverse.map nv) ((l.length - 1 - q : Nat) : Int) = ((l.getD q 0 : Nat) : Int) := by
  have := elV_rev (r := []) h
  rw [List.append_nil] at this
  exact this
theorem wordU_eq {bs : List Nat} (hb : ∀ b ∈ bs, b < 256) {j b0 b1 b2 b3 : Nat} (hj : j < 4611686018427387904) (h0 : bs[j]? = some b0) (h1 : bs[j + 1]? = some b1) (h2 : bs[j + 2]? = some b2) (h3 : bs[j + 3]? = some b3) :
    wordU (bs.map nv) (j : Int) = (((((b0 * 256 + b1) * 256 + b2) * 256 + b3 : Nat)) : Int) := by
  have l0 := hb b0 (List.mem_of_getElem? h0)
  have l1 := hb b1 (List.mem_of_getElem? h1)
  have l2 := hb b2 (List.mem_of_getElem? h2)
  have l3 := hb b3 (List.mem_of_getElem? h3)
  have w : ∀ d : Nat, d < 4 → W64 ((j : Int) + (d : Int)) = ((j + d : Nat) : Int) := fun d hd => by rw [w64_in (by omega) (by omega)]; push_cast; rfl
  have e0 : W64 ((j : Int) + 0) = ((j : Nat) : Int) := w 0 (by decide)
  have e1 : W64 ((j : Int) + 1) = ((j + 1 : Nat) : Int) := w 1 (by decide)
  have e2 : W64 ((j : Int) + 2) = ((j + 2 : Nat) : Int) := w 2 (by decide)
  have e3 : W64 ((j : Int) + 3) = ((j + 3 : Nat) : Int) := w 3 (by decide)
  unfold wordU
  rw [e0, e1, e2, e3, gtL_at h0, gtL_at h1, gtL_at h2, gtL_at h3, wu64_lt (n := b0) (by omega), wu64_lt (n := b1) (by omega), wu64_lt (n := b2) (by omega), wu64_lt (n := b3) (by omega)]
  have z : WU (256 * 0) = ((0 : Nat) : Int) := rfl
  have m : ∀ a : Nat, a < 4294967296 → WU (256 * (a : Int)) = ((256 * a : Nat) : Int) := fun a ha => by
    rw [show (256 * (a : Int)) = ((256 * a : Nat) : Int) by omega, wu64_lt (by omega)]
  rw [z, ← Int.natCast_add, wu64_lt (by omega), m _ (by omega), ← Int.natCast_add, wu64_lt (by omega), m _ (by omega), ← Int.natCast_add, wu64_lt (by omega), m _ (by omega), ← Int.natCast_add, wu64_lt (by omega)]
  congr 1; omega
theorem lpSmA1 {z v kk : V} {bs : List Nat} (hb : ∀ b ∈ bs, b < 256) {a : Nat} (hl : a + 64 ≤ bs.length) (hB : bs.length < 4611686018427387000) : ∀ (m j n : Nat) (l : List Nat) (k : QSmA → Option R), j + m = 16 → l.length = j →
    lpC (BSmA R) (m + n) (.m z v (bs.map nv) kk (a : Int) (l.reverse.map nv) (j : Int)) k = lpC (BSmA R) n (.m z v (bs.map nv) kk (a : Int) ((wordsR m (bs.drop (a + 4 * j)) l).reverse.map nv) 16) k := by
  intro m
  induction m with
  | zero =>
    intro j n l k hj hlen
    have : j = 16 := by omega
    subst this
    rw [Nat.zero_add]
    rfl
  | succ m ih =>
    intro j n l k hj hlen
    obtain ⟨b0, b1, b2, b3, g0, g1, g2, g3, gd⟩ := four (bs := bs) (k := a + 4 * j) (by omega)
    have w0 : W64 ((a : Int) + W64 (4 * (j : Int))) = ((a + 4 * j : Nat) : Int) := by rw [w64_in (n := 4 * (j : Int)) (by omega) (by omega), w64_in (by omega) (by omega)]; push_cast; rfl
    have w : ∀ d : Nat, d < 4 → W64 (((a + 4 * j : Nat) : Int) + (d : Int)) = ((a + 4 * j + d : Nat) : Int) := fun d hd => by rw [w64_in (by omega) (by omega)]; push_cast; rfl
    have e0 : W64 (((a + 4 * j : Nat) : Int) + 0) = ((a + 4 * j : Nat) : Int) := w 0 (by decide)
    have e1 : W64 (((a + 4 * j : Nat) : Int) + 1) = ((a + 4 * j + 1 : Nat) : Int) := w 1 (by decide)
    have e2 : W64 (((a + 4 * j : Nat) : Int) + 2) = ((a + 4 * j + 2 : Nat) : Int) := w 2 (by decide)
    have e3 : W64 (((a + 4 * j : Nat) : Int) + 3) = ((a + 4 * j + 3 : Nat) : Int) := w 3 (by decide)
    have wj : W64 ((j : Int) + 1) = ((j + 1 : Nat) : Int) := by rw [w64_in (by omega) (by omega)]; push_cast; rfl
    rw [show m + 1 + n = (m + n) + 1 by omega, lpC]
    show (bif ilt (j : Int) 64 then (bif ilt (j : Int) 16 then _ else _) else _) = _
    rw [show ilt (j : Int) 64 = true by simp [ilt]; omega, show ilt (j : Int) 16 = true by simp [ilt]; omega]
    simp only [cond_true]
    rw [w0, e0, e1, e2, e3, List.length_map, List.length_map, List.length_reverse, ck_in (by omega) (by omega), ck_in (by omega) (by omega), ck_in (by omega) (by omega), ck_in (by omega) (by omega), lim_in (by omega), wj, wordU_eq hb (by omega) g0 g1 g2 g3]
    have hl2 : l.reverse.map nv ++ [V.i ((((b0 * 256 + b1) * 256 + b2) * 256 + b3 : Nat) : Int)] = ((((b0 * 256 + b1) * 256 + b2) * 256 + b3) :: l).reverse.map nv := by simp; rfl
    rw [hl2, ih (j + 1) n _ k (by omega) (by simp [hlen]), gd]
    simp only [wordsR, seeN_eq]
    rfl
theorem lpSmA2 {z v xs : V} {ws : List V} {at_ : Int} {kk : V} : ∀ (m n : Nat) (l : List Nat) (k : QSmA → Option R), l.length + m = 64 → 16 ≤ l.length → (∀ a ∈ l, a < M32) → m < n →
    lpC (BSmA R) n (.m z v ws kk at_ (l.reverse.map nv) (l.length : Int)) k = k (.o z v ws kk at_ ((schN m l).reverse.map nv) 64) := by
  intro m
  induction m with
  | zero =>
    intro n l k hj h16 hlt hn
    obtain ⟨n, rfl⟩ : ∃ n', n = n' + 1 := ⟨n - 1, by omega⟩
    have : l.length = 64 := by omega
    rw [this]
    rfl
  | succ m ih =>
    intro n l k hj h16 hlt hn
    obtain ⟨n, rfl⟩ : ∃ n', n = n' + 1 := ⟨n - 1, by omega⟩
    have wi : ∀ d : Nat, d ≤ 16 → W64 ((l.length : Int) - (d : Int)) = ((l.length - d : Nat) : Int) := fun d hd => by rw [w64_in (by omega) (by omega)]; omega
    have wj : W64 ((l.length : Int) + 1) = ((l.length + 1 : Nat) : Int) := by rw [w64_in (by omega) (by omega)]; push_cast; rfl
    have e15 : W64 ((l.length : Int) - 15) = ((l.length - 1 - 14 : Nat) : Int) := (wi 15 (by omega)).trans (by omega)
    have e2 : W64 ((l.length : Int) - 2) = ((l.length - 1 - 1 : Nat) : Int) := (wi 2 (by omega)).trans (by omega)
    have e16 : W64 ((l.length : Int) - 16) = ((l.length - 1 - 15 : Nat) : Int) := (wi 16 (by omega)).trans (by omega)
    have e7 : W64 ((l.length : Int) - 7) = ((l.length - 1 - 6 : Nat) : Int) := (wi 7 (by omega)).trans (by omega)
    rw [lpC]
    show (bif ilt (l.length : Int) 64 then (bif ilt (l.length : Int) 16 then _ else _) else _) = _
    rw [show ilt (l.length : Int) 64 = true by simp [ilt]; omega, show ilt (l.length : Int) 16 = false by simp [ilt]; omega]
    simp only [cond_true, cond_false]
    rw [List.length_map, List.length_reverse, e15, e2, e16, e7, ck_in (by omega) (by omega), ck_in (by omega) (by omega), ck_in (by omega) (by omega), ck_in (by omega) (by omega), ck_in (by omega) (by omega), ck_in (by omega) (by omega), ck_in (by omega) (by omega), ck_in (by omega) (by omega), lim_in (by omega), wj]
    rw [gtL_rev (by omega), gtL_rev (by omega), gtL_rev (by omega), gtL_rev (by omega), sgU0_eq (getD_lt hlt _), sgU1_eq (getD_lt hlt _)]
    have g1 : l.getD 15 0 < 4294967296 := getD_lt hlt 15
    have g2 : l.getD 6 0 < 4294967296 := getD_lt hlt 6
    have g3 : sS0 (l.getD 14 0) < 4294967296 := sS0_lt (getD_lt hlt 14)
    have g4 : sS1 (l.getD 1 0) < 4294967296 := sS1_lt (getD_lt hlt 1)
    have hval : (WU (WU (WU (((l.getD 15 0 : Nat) : Int) + ((sS0 (l.getD 14 0) : Nat) : Int)) + ((l.getD 6 0 : Nat) : Int)) + ((sS1 (l.getD 1 0) : Nat) : Int))).tmod 4294967296 = ((nxtN l : Nat) : Int) := by
      rw [← Int.natCast_add, wu64_lt (by omega), ← Int.natCast_add, wu64_lt (by omega), ← Int.natCast_add, wu64_lt (by omega), tm32]
      rfl
    rw [hval]
    have hl2 : l.reverse.map nv ++ [V.i ((nxtN l : Nat) : Int)] = (nxtN l :: l).reverse.map nv := by simp; rfl
    rw [hl2]
    have := ih n (nxtN l :: l) k (by simp; omega) (by simp; omega) (fun a ha => by
      rcases List.mem_cons.1 ha with rfl | ha
      · exact Nat.mod_lt _ (by decide)
      · exact hlt a ha) (by omega)
    rw [List.length_cons] at this
    rw [this]
    simp only [schN, seeN_eq]
theorem lpSmB {z v : V} {xs : List V} {at_ : Int} {K W : List Nat} (hK : K.length = 64) (hW : W.length = 64) (kK : ∀ a ∈ K, a < M32) (kW : ∀ a ∈ W, a < M32) : ∀ (m j n : Nat) (x : S8) (k : QSmB → Option R), j + m = 64 → OkS x → m < n →
    lpC (BSmB R) n (.m z v xs (.l (K.map nv)) at_ (W.map nv) (stV x) (j : Int)) k = k (.o z v xs (.l (K.map nv)) at_ (W.map nv) (stV (rndsN (K.drop j) (W.drop j) x)) 64) := by
  intro m
  induction m with
  | zero =>
    intro j n x k hj hx hn
    obtain ⟨n, rfl⟩ : ∃ n', n = n' + 1 := ⟨n - 1, by omega⟩
    have : j = 64 := by omega
    subst this
    rw [List.drop_of_length_le (by omega), List.drop_of_length_le (by omega)]
    rfl
  | succ m ih =>
    intro j n x k hj hx hn
    obtain ⟨n, rfl⟩ : ∃ n', n = n' + 1 := ⟨n - 1, by omega⟩
    have wj : W64 ((j : Int) + 1) = ((j + 1 : Nat) : Int) := by rw [w64_in (by omega) (by omega)]; push_cast; rfl
    rw [lpC]
    show (bif ilt (j : Int) 64 then _ else _) = _
    rw [show ilt (j : Int) 64 = true by simp [ilt]; omega, cond_true]
    simp only
    rw [List.length_map, ck_in (by omega) (by omega), ck_in (by omega) (by omega), wj, elV_list (by omega), gtL_at (List.getElem?_eq_getElem (show j < W.length by omega)), rndU_eq hx (kK _ (List.getElem_mem ..)) (kW _ (List.getElem_mem ..)), ih (j + 1) n _ k (by omega) (okS_rnd hx _ _) (by omega)]
    rw [List.drop_eq_getElem_cons (show j < K.length by omega), List.drop_eq_getElem_cons (show j < W.length by omega)]
    rfl
theorem okS_rnds : ∀ (ks ws : List Nat) {s : S8}, OkS s → OkS (rndsN ks ws s) := by
  intro ks
  induction ks with
  | nil => intro ws s h; cases ws <;> exact h
  | cons k ks ih =>
    intro ws s h
    cases ws with
    | nil => exact h
    | cons w ws => exact ih ws (okS_rnd h k w)
theorem wordsR_take : ∀ (m : Nat) (l acc : List Nat), wordsR m (l.take (4 * m)) acc = wordsR m l acc := by
  intro m
  induction m with
  | zero => intro l acc; rfl
  | succ m ih =>
    intro l acc
    match l with
    | b0 :: b1 :: b2 :: b3 :: r =>
      rw [show 4 * (m + 1) = 4 * m + 1 + 1 + 1 + 1 by omega]
      simp only [List.take_succ_cons, wordsR, seeN_eq]
      exact ih r _
    | [] => rfl
    | [_] => rw [List.take_of_length_le (by simp; omega)]
    | [_, _] => rw [List.take_of_length_le (by simp; omega)]
    | [_, _, _] => rw [List.take_of_length_le (by simp; omega)]
theorem mixN_take (s : S8) (l : List Nat) : mixN s (l.take 64) = mixN s l := by
  unfold mixN
  rw [wordsR_take 16 l []]
theorem okS_mix (s : S8) (l : List Nat) : OkS (mixN s l) := okS_add
theorem lpSmO {z : V} {bs : List Nat} (hb : ∀ b ∈ bs, b < 256) (hB : bs.length < 4611686018427387000) : ∀ (m q n : Nat) (s : S8) (k : QSmO → Option R), bs.length = 64 * (q + m) → OkS s → m < n →
    lpC (BSmO R) n (.m z (stV s) (bs.map nv) keysV ((64 * q : Nat) : Int)) k = k (.o z (stV (mixesN m s (bs.drop (64 * q)))) (bs.map nv) keysV ((64 * (q + m) : Nat) : Int)) := by
  intro m
  induction m with
  | zero =>
    intro q n s k hl hs hn
    obtain ⟨n, rfl⟩ : ∃ n', n = n' + 1 := ⟨n - 1, by omega⟩
    rw [lpC]
    show ln (bs.map nv).length (bif ilt ((64 * q : Nat) : Int) (bs.map nv).length then _ else _) = _
    rw [List.length_map, ln_in (by omega), show ilt ((64 * q : Nat) : Int) (bs.length : Int) = false by simp [ilt]; omega]
    rfl
  | succ m ih =>
    intro q n s k hl hs hn
    obtain ⟨n, rfl⟩ : ∃ n', n = n' + 1 := ⟨n - 1, by omega⟩
    have HID := HID
    have h16 : hid FU = 16 + (hid FU - 16) := by omega
    obtain ⟨w1, w2⟩ := wordsR_spec 16 (bs.drop (64 * q)) [] (fun b h => hb b (List.mem_of_mem_drop h)) (fun a h => by cases h) (by simp; omega)
    obtain ⟨c1, c2⟩ := schN_spec 48 (wordsR 16 (bs.drop (64 * q)) []) w1
    have h1 : ∀ k' : QSmA → Option R, lpC (BSmA R) (hid FU) (.m z (stV s) (bs.map nv) keysV ((64 * q : Nat) : Int) [] 0) k' = k' (.o z (stV s) (bs.map nv) keysV ((64 * q : Nat) : Int) ((schN 48 (wordsR 16 (bs.drop (64 * q)) [])).reverse.map nv) 64) := fun k' => by
      have e := lpSmA1 (R := R) (z := z) (v := stV s) (kk := keysV) hb (a := 64 * q) (by omega) hB 16 0 (hid FU - 16) [] k' rfl rfl
      rw [← h16] at e
      refine e.trans ?_
      have e2 := lpSmA2 (R := R) (z := z) (v := stV s) (xs := z) (ws := bs.map nv) (at_ := ((64 * q : Nat) : Int)) (kk := keysV) 48 (hid FU - 16) (wordsR 16 (bs.drop (64 * q)) []) k' (by rw [w2]; rfl) (by rw [w2]; simp) w1 (by omega)
      rw [w2] at e2
      exact e2
    have h2 : ∀ k' : QSmB → Option R, lpC (BSmB R) (hid FU) (.m z (stV s) (bs.map nv) keysV ((64 * q : Nat) : Int) ((schN 48 (wordsR 16 (bs.drop (64 * q)) [])).reverse.map nv) (stV s) 0) k' = k' (.o z (stV s) (bs.map nv) keysV ((64 * q : Nat) : Int) ((schN 48 (wordsR 16 (bs.drop (64 * q)) [])).reverse.map nv) (stV (rndsN keysN (schN 48 (wordsR 16 (bs.drop (64 * q)) [])).reverse s)) 64) := fun k' =>
      lpSmB (K := keysN) (W := (schN 48 (wordsR 16 (bs.drop (64 * q)) [])).reverse) rfl (by rw [List.length_reverse, c2, w2]; rfl) keysN_lt (fun a h => c1 a (List.mem_reverse.1 h)) 64 0 (hid FU) s k' rfl hs (by omega)
    rw [lpC]
    show ln (bs.map nv).length (bif ilt ((64 * q : Nat) : Int) (bs.map nv).length then _ else _) = _
    rw [List.length_map, ln_in (by omega), show ilt ((64 * q : Nat) : Int) (bs.length : Int) = true by simp [ilt]; omega, cond_true, h1]
    simp only
    rw [h2]
    simp only
    rw [ad8_eq hs (okS_rnds _ _ hs)]
    have wj : W64 (((64 * q : Nat) : Int) + 64) = ((64 * (q + 1) : Nat) : Int) := by rw [w64_in (by omega) (by omega)]; push_cast; omega
    rw [wj]
    have := ih (q + 1) n (mixN s (bs.drop (64 * q))) k (by omega) (okS_mix _ _) (by omega)
    unfold mixN at this
    refine this.trans ?_
    rw [show 64 * (q + (m + 1)) = 64 * (q + 1 + m) by omega]
    have hm : mixesN (m + 1) s (bs.drop (64 * q)) = mixesN m (mixN s (bs.drop (64 * q))) (bs.drop (64 * (q + 1))) := by
      cases hd : bs.drop (64 * q) with
      | nil => have := congrArg List.length hd; simp at this; omega
      | cons b r =>
        simp only [mixesN]
        rw [← hd, mixN_take, List.drop_drop]
        congr 2
    rw [hm]
    rfl
theorem mixesN_more : ∀ (m d : Nat) (s : S8) (l : List Nat), l.length ≤ 64 * m → mixesN (m + d) s l = mixesN m s l := by
  intro m
  induction m with
  | zero =>
    intro d s l h
    have : l = [] := List.length_eq_zero_iff.1 (by omega)
    subst this
    cases d <;> rfl
  | succ m ih =>
    intro d s l h
    rw [show m + 1 + d = (m + d) + 1 by omega]
    cases l with
    | nil => rfl
    | cons b r =>
      simp only [mixesN]
      exact ih d _ _ (by simp at h ⊢; omega)
end Go.Vm

namespace Go.Vm
open Go.RowKit
variable {T : TT} {R : Type} {P : Program}
def z32 : V := .l (List.replicate 32 (.i 0))
def outU4 (j : Nat) : Nat → Int → V → V
  | 0, _, h => h
  | i + 1, n, h => outU4 j i (WU (n.tdiv 256)) (h.put (4 * j + i) (.i (IntKind.wrap .u8 (n.tmod 256))))
def outU8 (v : V) : Nat → Nat → V → V
  | 0, _, h => h
  | m + 1, j, h => outU8 v m (j + 1) (outU4 j 4 (elV v j) h)
def s0V : V := stV s0N
noncomputable def Gsm (h : Nat) : FC := fun R xs k => match xs with
  | [b] => bif Nat.ble b.els.length 1000000000 then lpC (BSmO R) (hid FU) (.m z32 s0V (b.els ++ (padN b.els.length).map nv) keysV 0) (fun | .o z v xs kk at_ => k [.d h (outU8 v 8 0 z32)]) else none
  | _ => none
def shaV (b : V) : V := .l ((shaN (bytesN b)).map nv)
def Fsm (h : Nat) : FC := fun R xs k => match xs with
  | [b] => bif Nat.ble b.els.length 1000000000 then k [.d h (shaV b)] else none
  | _ => none
theorem Fsm_nat (h : Nat) : FC.nat (Fsm h) := by
  intro R xs k
  unfold Fsm
  split
  · rename_i b; cases Nat.ble b.els.length 1000000000 <;> rfl
  · rfl
theorem wu8_lt {n : Nat} (h : n < 256) : IntKind.wrap .u8 (n : Int) = (n : Int) := by
  unfold IntKind.wrap
  simp [IntKind.bits, IntKind.signed]
  omega
theorem outU_eq {s : S8} (h : OkS s) : outU8 (stV s) 8 0 z32 = .l ((outN s).map nv) := by
  have one : ∀ (j a : Nat) (h : V), a < M32 → outU4 j 4 (a : Int) h = (((h.put (4 * j + 3) (nv (a % 256))).put (4 * j + 2) (nv (a / 256 % 256))).put (4 * j + 1) (nv (a / 65536 % 256))).put (4 * j) (nv (a / 16777216 % 256)) := by
    intro j a h ha
    have ha : a < 4294967296 := ha
    have td : ∀ n : Nat, (n : Int).tdiv 256 = ((n / 256 : Nat) : Int) := fun _ => rfl
    have tm : ∀ n : Nat, (n : Int).tmod 256 = ((n % 256 : Nat) : Int) := fun _ => rfl
    simp only [outU4, td, tm]
    rw [wu64_lt (n := a / 256) (by omega), td, tm, wu64_lt (n := a / 256 / 256) (by omega), td, tm, wu64_lt (n := a / 256 / 256 / 256) (by omega), tm, wu8_lt (by omega), wu8_lt (by omega), wu8_lt (by omega), wu8_lt (by omega)]
    rw [show a / 256 / 256 / 256 % 256 = a / 16777216 % 256 by omega, show a / 256 / 256 % 256 = a / 65536 % 256 by omega]
    rfl
  have e : outU8 (stV s) 8 0 z32 = outU4 7 4 (s.h : Int) (outU4 6 4 (s.g : Int) (outU4 5 4 (s.f : Int) (outU4 4 4 (s.e : Int) (outU4 3 4 (s.d : Int) (outU4 2 4 (s.c : Int) (outU4 1 4 (s.b : Int) (outU4 0 4 (s.a : Int) z32))))))) := by kernel_rfl
  rw [e, one _ _ _ h.a, one _ _ _ h.b, one _ _ _ h.c, one _ _ _ h.d, one _ _ _ h.e, one _ _ _ h.f, one _ _ _ h.g, one _ _ _ h.h]
  refine (?_ : @Eq V _ _)
  kernel_rfl
theorem okS_0 : OkS s0N := ⟨by decide, by decide, by decide, by decide, by decide, by decide, by decide, by decide⟩
theorem okS_mixes : ∀ (n : Nat) (s : S8) (l : List Nat), OkS s → OkS (mixesN n s l) := by
  intro n
  induction n with
  | zero => intro s l h; exact h
  | succ n ih =>
    intro s l h
    cases l with
    | nil => exact h
    | cons b r => exact ih _ _ (okS_mix _ _)
theorem padN_lt {n : Nat} : ∀ a ∈ padN n, a < 256 := by
  intro a ha
  simp only [padN, List.mem_cons, List.mem_append, List.not_mem_nil, or_false] at ha
  rcases ha with rfl | h | h
  · decide
  · rw [List.eq_of_mem_replicate h]; decide
  · rcases h with rfl | rfl | rfl | rfl | rfl | rfl | rfl | rfl <;> exact Nat.mod_lt _ (by decide)
theorem padN_len (n : Nat) : (padN n).length = 9 + (119 - n % 64) % 64 := by
  simp only [padN, List.length_cons, List.length_append, List.length_replicate, List.length_nil]
  omega
theorem sm_law (h : Nat) {b : V} {bs : List Nat} (hx : b.els = bs.map nv) (hb : ∀ b ∈ bs, b < 256) {rs : List Rs} (hF : Fsm h (List Rs) [b] some = some rs) : Gsm h (List Rs) [b] some = some rs := by
  simp only [Fsm] at hF
  cases hl : Nat.ble b.els.length 1000000000 with
  | false => rw [hl] at hF; cases hF
  | true =>
    rw [hl] at hF
    simp only [Gsm, hl, cond_true]
    have hl := Nat.le_of_ble_eq_true hl
    have hlen : b.els.length = bs.length := by rw [hx, List.length_map]
    have HID : 4611686018427387904 = hid FU := (hid_eq _).symm
    have hx2 : b.els ++ (padN b.els.length).map nv = (bs ++ padN bs.length).map nv := by rw [hlen, hx, List.map_append]
    have hpl : (bs ++ padN bs.length).length = 64 * (0 + (bs.length + 9 + (119 - bs.length % 64) % 64) / 64) := by
      rw [List.length_append, padN_len]; omega
    have law := lpSmO (R := List Rs) (z := z32) (bs := bs ++ padN bs.length) (fun a ha => by
      rcases List.mem_append.1 ha with h | h
      · exact hb a h
      · exact padN_lt a h) (by omega) ((bs.length + 9 + (119 - bs.length % 64) % 64) / 64) 0 (hid FU) s0N (fun | .o z v xs kk at_ => some [Rs.d h (outU8 v 8 0 z32)]) hpl okS_0 (by omega)
    rw [hx2]
    refine law.trans ?_
    refine Eq.trans ?_ hF
    simp only [cond_true]
    rw [outU_eq (okS_mixes _ _ _ okS_0)]
    unfold shaV shaN
    rw [bytesN_eq hx, List.drop_zero]
    congr 6
    have := mixesN_more ((bs.length + 9 + (119 - bs.length % 64) % 64) / 64) (bs.length / 64 + 2 - (bs.length + 9 + (119 - bs.length % 64) % 64) / 64) s0N (bs ++ padN bs.length) (by omega)
    rw [← this]
    congr 1
    omega
end Go.Vm

namespace Go.Vm
open Go.RowKit
variable {T : TT} {P : Program} {c : Ctx} {e eb : Env} {of of' : Nat → Option Ob}
def seeFlat {α : Type} : List V → (List V → α) → α
  | [], k => k []
  | a :: r, k => match a with
    | .i n => seeI n fun n => seeFlat r fun r => k (.i n :: r)
    | a => seeFlat r fun r => k (a :: r)
theorem seeFlat_eq {α : Type} : ∀ (l : List V) (k : List V → α), seeFlat l k = k l := by
  intro l
  induction l with
  | nil => intro k; rfl
  | cons a r ih =>
    intro k
    cases a with
    | i n => simp only [seeFlat, seeI_eq, ih]
    | _ => simp only [seeFlat, ih]
def seeV {α : Type} (v : V) (k : V → α) : α :=
  match v with
  | .l xs => seeFlat xs fun xs => k (.l xs)
  | .i n => seeI n fun n => k (.i n)
  | v => k v
theorem seeV_eq {α : Type} (v : V) (k : V → α) : seeV v k = k v := by
  cases v with
  | l xs => exact seeFlat_eq xs _
  | i n => exact seeI_eq n fun n => k (.i n)
  | _ => rfl
def seeRs {α : Type} : List Rs → (List Rs → α) → α
  | [], k => k []
  | r :: l, k => match r with
    | .d t y => seeV y fun y => seeRs l fun l => k (.d t y :: l)
    | .r el xs nl => seeFlat xs fun xs => seeRs l fun l => k (.r el xs nl :: l)
theorem seeRs_eq {α : Type} : ∀ (l : List Rs) (k : List Rs → α), seeRs l k = k l := by
  intro l
  induction l with
  | nil => intro k; rfl
  | cons r l ih =>
    intro k
    cases r with
    | d t y => simp only [seeRs, seeV_eq, ih]
    | r el xs nl => simp only [seeRs, seeFlat_eq, ih]
def seeF (F : FC) : FC := fun R xs k => F R xs fun rs => seeRs rs k
theorem seeF_eq (F : FC) : seeF F = F := by
  funext R xs k
  unfold seeF
  congr 1
  funext rs
  exact seeRs_eq rs k
theorem TabOK.see {f : Nat} {sh : Bool} {ts : List Nat} {F : FC} (h : SymOK P T f (pureS T sh ts F).dir) : SymOK P T f (pureS T sh ts (seeF F)).dir := by
  rw [seeF_eq]; exact h
theorem TabOK.at {tab : List (Nat × SymC)} (h : TabOK P T tab) {f : Nat} {s : SymC} (hs : lookT tab f = some s) : SymOK P T f s.dir := (h f s (lookT_mem hs)).2
end Go.Vm

namespace Go.Vm
open Go.RowKit
section
variable {P : Program} {H : Type} {enc : TypeId × Value → H} {w w' : World} {b0 : Nat} {held : Bool}
theorem mapM_imp {α β : Type} {g g' : α → Option β} : ∀ (l : List α) (xs : List β), l.mapM g = some xs → (∀ a ∈ l, ∀ x, g a = some x → g' a = some x) → l.mapM g' = some xs := by
  intro l
  induction l with
  | nil => intro xs h _; simpa using h
  | cons a r ih =>
    intro xs h hg
    simp only [List.mapM_cons] at h ⊢
    cases ha : g a with
    | none => simp [ha] at h
    | some x =>
      cases hr : r.mapM g with
      | none => simp [ha, hr] at h
      | some ys =>
        simp [ha, hr] at h
        rw [hg a (by simp) x ha, ih ys hr (fun i hi => hg i (by simp [hi]))]
        simp [h]
theorem add_block' (a : Addr) (i : Nat) : (a.add i).block = a.block := by
  unfold Addr.add; split <;> simp_all
theorem cell_block {a : Addr} {v : Value} (h : w.cell? a = some v) : a.block < w.heap.size := by
  unfold World.cell? at h
  cases hb : w.heap[a.block]? with
  | none => simp [hb] at h
  | some o => exact (Array.getElem?_eq_some_iff.1 hb).1
theorem cell_same {a : Addr} (hb : w'.heap[a.block]? = w.heap[a.block]?) : w'.cell? a = w.cell? a := by
  unfold World.cell?; rw [hb]
theorem cells_ext (hw : ∀ i, i < w.heap.size → w'.heap[i]? = w.heap[i]?) {a : Addr} {n : Nat} {l : List Value} (hn : 0 < n) (h : w.cells? b0 a n = some l) : a.block < w.heap.size ∧ w'.cells? b0 a n = some l := by
  unfold World.cells? at h ⊢
  split at h <;> try (cases h; done)
  rename_i hb
  rw [if_pos hb]
  have hblk : a.block < w.heap.size := by
    obtain ⟨m, rfl⟩ : ∃ m, n = m + 1 := ⟨n - 1, by omega⟩
    rw [List.range_succ_eq_map, List.mapM_cons] at h
    cases h0 : w.cell? (a.add 0) with
    | none => simp [h0] at h
    | some v => have := cell_block h0; rwa [add_block'] at this
  refine ⟨hblk, mapM_imp _ _ h (fun i _ x hx => ?_)⟩
  have e := cell_same (w := w) (w' := w') (a := a.add i) (by rw [add_block']; exact hw _ hblk)
  rw [e]; exact hx
def closedB (P : Program) (R : List TypeId) : Bool := R.all fun t => match P.underlying t with
  | some (.slice e) => decide (0 < P.cellsOf e) && R.contains e
  | some (.pointer e) => decide (0 < P.cellsOf e) && R.contains e
  | some (.struct fs) => fs.toList.all fun f => R.contains f.type
  | some (.array _ e) => R.contains e
  | some (.map _ e) => R.contains e
  | _ => true
theorem trod_ext {R : List TypeId} (hR : closedB P R = true) (hw : ∀ i, i < w.heap.size → w'.heap[i]? = w.heap[i]?) :
    ∀ (fuel : Nat) (t : TypeId) (cs : List Value) (x : DataW H × List MemPlace), t ∈ R → DataW.trod enc P w b0 (fun _ => true) true fuel t cs = some x → DataW.trod enc P w' b0 (fun b => decide (b < w.heap.size)) true fuel t cs = some x := by
  intro fuel
  induction fuel with
  | zero => intro t cs x _ h; simp [DataW.trod] at h
  | succ fuel ih =>
    intro t cs x ht h
    have hRt := (List.all_eq_true.1 hR) t ht
    have bindcells : ∀ (a : Addr) (n : Nat) (e : TypeId) (y : DataW H × List MemPlace), e ∈ R → 0 < n → (w.cells? b0 a n).bind (DataW.trod enc P w b0 (fun _ => true) true fuel e) = some y →
        a.block < w.heap.size ∧ (w'.cells? b0 a n).bind (DataW.trod enc P w' b0 (fun b => decide (b < w.heap.size)) true fuel e) = some y := fun a n e y he hn h => by
      cases hc : w.cells? b0 a n with
      | none => simp [hc] at h
      | some l =>
        rw [hc] at h
        obtain ⟨h1, h2⟩ := cells_ext hw hn hc
        exact ⟨h1, by rw [h2]; exact ih _ _ _ he h⟩
    simp only [DataW.trod] at h ⊢
    split at h
    case h_6 a e hu =>
      rw [hu] at hRt
      simp only [Bool.and_eq_true, decide_eq_true_eq, List.contains_iff_mem] at hRt
      obtain ⟨y, hy, rfl⟩ := Option.map_eq_some_iff.1 h
      rw [(bindcells _ _ _ _ hRt.2 hRt.1 hy).2]; rfl
    case h_8 e a len cap hu =>
      rw [hu] at hRt
      simp only [Bool.and_eq_true, decide_eq_true_eq, List.contains_iff_mem] at hRt
      split at h <;> try (cases h; done)
      rename_i hc
      rw [if_pos hc]
      cases h1 : (List.range len).mapM (fun i => (w.cells? b0 (a.add (i * P.cellsOf e)) (P.cellsOf e)).bind (DataW.trod enc P w b0 (fun _ => true) true fuel e)) with
      | none => rw [h1] at h; cases h
      | some elems =>
        rw [h1] at h
        have g1 := mapM_imp _ _ h1 (fun i _ y hy => (bindcells _ _ _ _ hRt.2 hRt.1 hy).2)
        rw [g1]
        simp only [Option.bind_some, if_true] at h ⊢
        obtain ⟨rest, hr, rfl⟩ := Option.map_eq_some_iff.1 h
        by_cases hb : a.block < w.heap.size
        · have g2 := mapM_imp _ _ hr (fun i _ y hy => (bindcells _ _ _ _ hRt.2 hRt.1 hy).2)
          rw [if_pos (by simpa using hb), g2]; rfl
        · have hz : cap - len = 0 := by
            rcases Nat.eq_zero_or_pos (cap - len) with h0 | h0
            · exact h0
            · exfalso
              obtain ⟨m, hm⟩ : ∃ m, cap - len = m + 1 := ⟨cap - len - 1, by omega⟩
              rw [hm, List.range_succ_eq_map, List.mapM_cons] at hr
              cases h0 : (w.cells? b0 (a.add ((len + 0) * P.cellsOf e)) (P.cellsOf e)).bind (DataW.trod enc P w b0 (fun _ => true) true fuel e) with
              | none => rw [h0] at hr; simp at hr
              | some y =>
                have := (bindcells _ _ _ _ hRt.2 hRt.1 h0).1
                rw [add_block'] at this
                exact hb this
          rw [hz] at hr
          simp at hr; subst hr
          rw [if_neg (by simpa using hb)]; rfl
    case h_9 fs cs' hu =>
      rw [hu] at hRt
      simp only [List.all_eq_true, List.contains_iff_mem] at hRt
      split at h <;> try (cases h; done)
      rename_i hc
      rw [if_pos hc]
      obtain ⟨y, hy, rfl⟩ := Option.map_eq_some_iff.1 h
      rw [mapM_imp _ _ hy (fun f hf z hz => ih _ _ _ (hRt f hf) hz)]; rfl
    case h_10 n e cs' hu =>
      rw [hu] at hRt
      simp only [List.contains_iff_mem] at hRt
      split at h <;> try (cases h; done)
      rename_i hc
      rw [if_pos hc]
      obtain ⟨y, hy, rfl⟩ := Option.map_eq_some_iff.1 h
      rw [mapM_imp _ _ hy (fun i _ z hz => ih _ _ _ hRt hz)]; rfl
    case h_14 k e b hu =>
      rw [hu] at hRt
      simp only [List.contains_iff_mem] at hRt
      cases ho : w.heap[b]? with
      | none => rw [ho] at h; cases h
      | some o =>
        have hb : b < w.heap.size := (Array.getElem?_eq_some_iff.1 ho).1
        rw [ho] at h
        rw [hw b hb, ho]
        cases o with
        | map es clock =>
          simp only at h ⊢
          split at h <;> try (cases h; done)
          rename_i hc
          rw [if_pos hc]
          obtain ⟨xs, h1, h2⟩ := Option.bind_eq_some_iff.1 h
          rw [mapM_imp _ _ h1 (fun a _ y hy => by
            obtain ⟨key, k1, k2⟩ := Option.bind_eq_some_iff.1 hy
            rw [k1]
            simp only [Option.bind_some]
            split at k2 <;> try (cases k2; done)
            rename_i hf
            rw [if_pos hf]
            obtain ⟨z, hz, rfl⟩ := Option.map_eq_some_iff.1 k2
            rw [ih _ _ _ hRt hz]; rfl)]
          exact h2
        | _ => cases h
    all_goals exact h
theorem trodAll_ext {R : List TypeId} (hR : closedB P R = true) (hw : ∀ i, i < w.heap.size → w'.heap[i]? = w.heap[i]?) :
    ∀ (ts : List TypeId) (vs : List Value) (ds : List (DataW H)) (ps : List MemPlace), (∀ t ∈ ts, t ∈ R) → DataW.TrodAll enc P w b0 (fun _ => true) true ts vs ds ps → DataW.TrodAll enc P w' b0 (fun b => decide (b < w.heap.size)) true ts vs ds ps := by
  intro ts
  induction ts with
  | nil =>
    intro vs ds ps _ h
    cases vs <;> cases ds <;> first | exact h | (exact False.elim h)
  | cons t r ih =>
    intro vs ds ps hts h
    cases vs with
    | nil => exact False.elim h
    | cons v vs =>
      cases ds with
      | nil => exact False.elim h
      | cons d ds =>
        obtain ⟨p, q, ⟨fuel, h1⟩, h2, h3⟩ := h
        exact ⟨p, q, ⟨fuel, trod_ext hR hw _ _ _ _ (hts _ (by simp)) h1⟩, ih _ _ _ (fun t ht => hts t (by simp [ht])) h2, h3⟩
theorem post_true {f : Func} {s : ChangeSpec} {args : Array Value} {ds gs : List (DataW H)} {before : List MemPlace} {fresh : Bool} {R : List TypeId} (hR : closedB P R = true) (hpR : f.params.toList.all (fun t => R.contains t) = true)
    (hW : DataW.Whole enc P f.params.toList s.vars false w args.toList ds gs before) (hs : Still w w') (hv : s.vars = []) {t : TypeId} (hr : f.resultTypes = #[t]) (ht : P.underlying t = some .bool)
    (hfn : s.fn H (ds ++ gs) = { results := [.lit (.bool true)], args := ds }) : s.post enc P f false fresh false false w args (.bool true) w' := by
  have hW' := hW
  obtain ⟨p, q, hA, hV, hb, hz, hn⟩ := hW
  rw [hv] at hV
  have hgq : gs = [] ∧ q = [] := by cases gs <;> first | exact ⟨rfl, hV⟩ | exact False.elim hV
  obtain ⟨rfl, rfl⟩ := hgq
  refine ⟨ds, [], before, [], p, [], hW', ?_, ?_, ?_, hs.kept _, fun h => by cases h⟩
  · rw [hfn, hr]
    exact ⟨[], [], ⟨1, by simp [DataW.trod, ht, Value.cells]⟩, rfl, rfl⟩
  · rw [hfn]; exact trodAll_ext hR hs.2.2.2 _ _ _ _ (fun t ht => by have := (List.all_eq_true.1 hpR) t ht; simpa [List.contains_iff_mem] using this) hA
  · rw [hfn, hv]; rfl
end
end Go.Vm

namespace Go.Vm
open Go.RowKit
variable {T : TT} {P : Program}
def lookS : List (Nat × Sym) → Nat → Option Sym
  | [], _ => none
  | (k, s) :: r, f => bif Nat.beq k f then some s else lookS r f
def AllS (P : Program) (T : TT) : List (Nat × Sym) → Prop
  | [] => True
  | (k, s) :: r => SymOK P T k s ∧ AllS P T r
theorem lookS_ok : ∀ {l : List (Nat × Sym)}, AllS P T l → ∀ f s, lookS l f = some s → SymOK P T f s := by
  intro l
  induction l with
  | nil => intro _ f s h; cases h
  | cons p r ih =>
    obtain ⟨k, s0⟩ := p
    intro h f s hs
    simp only [lookS] at hs
    cases hk : Nat.beq k f with
    | true =>
      rw [hk] at hs; simp only [cond_true, Option.some.injEq] at hs
      have := Nat.eq_of_beq_eq_true hk; subst this; subst hs
      exact h.1
    | false => rw [hk] at hs; exact ih h.2 f s hs
noncomputable def runZ (P : Program) (T : TT) (l : List (Nat × Sym)) (fu d f : Nat) : Sym := runAR P T (lookS l) fu d f
theorem runZ_ok (hm : P.follows .mixedOrders = true) (hT : TOK T P) {l : List (Nat × Sym)} (h : AllS P T l) {fu d f : Nat} : SymOK P T f (runZ P T l fu d f) := by
  rw [runZ, runAR_eq]
  exact runAll_ok hm hT (lookS_ok h) (fun f n0 fn code _ _ => loopsOK_none code) d f
end Go.Vm

namespace Go.Vm
open Go.RowKit
variable {T : TT} {P : Program} {c : Ctx} {e eb : Env} {of of' : Nat → Option Ob}
def Env.got (e : Env) (w' : World) (id g ty ln : Nat) : Env := { w := w', ι := upd e.ι id (some (g, 0)), S := e.S, bn := upd e.bn id 1, U := fun j => j = id ∨ e.U j, ty := upd e.ty id ty, ln := upd e.ln id ln, G := e.G }
theorem OSim.le_got (h : OSim T c e of) {w' : World} (hb : Below e.w.heap.size e.w w') {id : Nat} (hu : ¬ e.U id) (g ty ln : Nat) : e.le (e.got w' id g ty ln) := by
  have hne : ∀ j, e.U j → j ≠ id := fun j hj he => hu (he ▸ hj)
  refine ⟨fun b i hs => ⟨hs, fun x hx => ?_⟩, fun _ hj => .inr hj, fun j hj _ => ⟨upd_ne _ _ (hne j hj), upd_ne _ _ (hne j hj), fun b o hb' => len_of_heap (hb.block _ (h.lt _ _ _ hj hb'))⟩, fun j hj h0 => ?_, fun j hj => ?_, fun j hj => upd_ne _ _ (hne j hj), hb.size, fun b hlt => len_of_heap (hb.block _ hlt)⟩
  · rw [← hx]; exact cell_of_heap (hb.block _ (h.slt _ _ hs))
  · show upd e.bn id 1 j = 0
    rw [upd_ne _ _ (hne j hj)]; exact h0
  · show _ ≤ upd e.bn id 1 j
    rw [upd_ne _ _ (hne j hj)]; exact Nat.le_refl _
theorem OSim.got (h : OSim T c e of) {w' : World} (hb : Below e.w.heap.size e.w w') {id : Nat} (hu : ¬ e.U id) {g ty ln : Nat} (hg : e.w.heap.size ≤ g) (hg2 : g < w'.heap.size) {o : Ob} (ho : OK T (e.got w' id g ty ln) id o) :
    OSim T c (e.got w' id g ty ln) (upd of id (some o)) := by
  have hle := h.le_got hb hu g ty ln
  have ιne : ∀ j, j ≠ id → (e.got w' id g ty ln).ι j = e.ι j := fun j hj => upd_ne _ _ hj
  have ιid : (e.got w' id g ty ln).ι id = some (g, 0) := upd_same _ _ _
  have obne : ∀ j, j ≠ id → upd of id (some o) j = of j := fun j hj => upd_ne _ _ hj
  have old : ∀ j b q, (of j).isSome → e.ι j = some (b, q) → b < e.w.heap.size := fun j b q hj hb => by
    obtain ⟨x, hx⟩ := Option.isSome_iff_exists.1 hj
    exact h.lt _ _ _ (h.ok _ _ hx).use hb
  refine ⟨fun j x hj => ?_, fun j k b q b' q' hj hk hb1 hb' hne => ?_, fun j b q hj hb1 => ?_, fun j b q hj hb1 => ?_, fun b i hs => ?_, h.s0, h.snew, hb.os.trans h.os, hb.tape.trans h.tape, hb.output.trans h.output, Nat.le_trans h.size hb.size, fun k hk hm => ?_, ?_⟩
  · by_cases he : j = id
    · subst he; rw [upd_same] at hj; cases hj; exact ho
    · rw [obne _ he] at hj
      exact (h.ok _ _ hj).keep hle (upd_ne _ _ he) (fun b q hb1 => hb.block _ (old _ _ _ (by rw [hj]; rfl) hb1)) (fun _ _ _ _ hs => hs) (fun a o' b _ hG => ⟨hG, hb.block _ (h.g.lt _ _ hG), fun i hs => hs⟩)
  · by_cases h1 : j = id
    · subst h1
      have hk' : k ≠ j := Ne.symm hne
      rw [obne _ hk'] at hk; rw [ιne _ hk'] at hb'
      have := old _ _ _ hk hb'
      rw [ιid] at hb1; cases hb1; omega
    · by_cases h2 : k = id
      · subst h2
        rw [obne _ h1] at hj; rw [ιne _ h1] at hb1
        have := old _ _ _ hj hb1
        rw [ιid] at hb'; cases hb'; omega
      · rw [obne _ h1] at hj; rw [obne _ h2] at hk; rw [ιne _ h1] at hb1; rw [ιne _ h2] at hb'
        exact h.sep _ _ _ _ _ _ hj hk hb1 hb' hne
  · by_cases h1 : j = id
    · subst h1
      rw [ιid] at hb1; cases hb1; exact .inl (Nat.le_trans h.size hg)
    · rw [obne _ h1] at hj; rw [ιne _ h1] at hb1
      exact h.own _ _ _ hj hb1
  · show b < w'.heap.size
    by_cases h1 : j = id
    · subst h1
      rw [ιid] at hb1; cases hb1; exact hg2
    · rw [ιne _ h1] at hb1
      rcases hj with hj | hj
      · exact absurd hj h1
      · exact Nat.lt_of_lt_of_le (h.lt _ _ _ hj hb1) hb.size
  · exact Nat.lt_of_lt_of_le (h.slt _ _ hs) hb.size
  · exact (hb.block _ (Nat.lt_of_lt_of_le hk h.size)).trans (h.block k hk hm)
  · refine h.g.mono (fun _ _ q => q) rfl (fun _ q => q) hb.size (fun j b o hj hb1 => ?_)
    by_cases h1 : j = id
    · subst h1
      rw [ιid] at hb1; cases hb1; exact .inr hg
    · rw [obne _ h1] at hj; rw [ιne _ h1] at hb1
      exact .inl ⟨j, o, hj, hb1⟩
theorem OSim.below (h : OSim T c e of) {w' : World} (hb : Below e.w.heap.size e.w w') : OSim T c { e with w := w' } of ∧ e.le { e with w := w' } := by
  have hle : e.le { e with w := w' } := ⟨fun b i hs => ⟨hs, fun x hx => by rw [← hx]; exact cell_of_heap (hb.block _ (h.slt _ _ hs))⟩, fun _ hj => hj, fun j hj _ => ⟨rfl, rfl, fun b o hb' => len_of_heap (hb.block _ (h.lt _ _ _ hj hb'))⟩, fun _ _ h0 => h0, fun _ _ => Nat.le_refl _, fun _ _ => rfl, hb.size, fun b hlt => len_of_heap (hb.block _ hlt)⟩
  refine ⟨⟨fun j x hj => (h.ok _ _ hj).keep hle rfl (fun b q hb1 => hb.block _ (h.lt _ _ _ (h.ok _ _ hj).use hb1)) (fun _ _ _ _ hs => hs) (fun a o' b _ hG => ⟨hG, hb.block _ (h.g.lt _ _ hG), fun i hs => hs⟩), h.sep, h.own, fun j b q hj hb1 => Nat.lt_of_lt_of_le (h.lt _ _ _ hj hb1) hb.size, fun b i hs => Nat.lt_of_lt_of_le (h.slt _ _ hs) hb.size, h.s0, h.snew, hb.os.trans h.os, hb.tape.trans h.tape, hb.output.trans h.output, Nat.le_trans h.size hb.size, fun k hk hm => (hb.block _ (Nat.lt_of_lt_of_le hk h.size)).trans (h.block k hk hm), h.g.mono (fun _ _ q => q) rfl (fun _ q => q) hb.size (fun j b o hj hb1 => .inl ⟨j, o, hj, hb1⟩)⟩, hle⟩
theorem left_row (h : OSim T c e of) {el : Nat} {w' : World} {v : Value} {xs : List V} {ys : List Value} {nx : Nat} (hb : Below e.w.heap.size e.w w') (hu : ¬ e.U nx) (hsz : szT T el = 1) (hrow : w'.ownsRow e.w.heap.size el 1 v xs.length ys) (hv : ∀ e', RV T e' (List.replicate xs.length el) xs ys) (hnl : v = .slice none 0 0 ↔ xs = []) {ro : List Nat} :
    LeftN T c e of nx ⟨.o nx 1, [(nx, .row el 1 xs xs.isEmpty false)], ro, nx + 1⟩ v w' := by
  obtain ⟨hl, hc⟩ := hrow
  rcases hc with ⟨rfl, hn⟩ | ⟨g, cap, cur, rfl, hg, hgb, h1, h2, h3, h4⟩
  · have hx := hnl.1 rfl
    subst hx
    obtain ⟨q1, q2⟩ := h.below hb
    have hu' : ¬ ({ e with w := w' } : Env).U nx := hu
    have q3 := q1.nil (el := el) hu' (nl := true) rfl (by omega)
    refine ⟨Env.nil { e with w := w' } nx el, rfl, q3, q2.trans (q1.le_nil hu'), fun j hj => hj.elim (fun q => .inr (by subst q; exact ⟨Nat.le_refl _, Nat.lt_succ_self _⟩)) .inl, ?_⟩
    exact rep_o_nil (.inl rfl) (upd_same _ _ _) (by decide) (upd_same _ _ _) (upd_same _ _ _)
  · have hne : xs ≠ [] := fun q => by have := hnl.2 q; cases this
    have he : xs.isEmpty = false := by cases xs with | nil => exact absurd rfl hne | cons a r => rfl
    rw [he]
    have hglt : g < w'.heap.size := (Array.getElem?_eq_some_iff.1 hgb).1
    have hspl : cur.toList = [] ++ ys ++ cur.toList.drop (xs.length * 1) := by rw [List.nil_append, ← h4, List.take_append_drop]
    have hok : OK T (e.got w' nx g el xs.length) nx (.row el 1 xs false false) :=
      ⟨.inl rfl, by decide, upd_same _ _ _, upd_same _ _ _, upd_same _ _ _, by omega, .inr ⟨rfl, g, 0, cur, el, (0, 0), [], ys, _, upd_same _ _ _, hgb, free_zero hgb, hspl, rfl, hv _, fun i _ hs => by have := h.slt _ _ hs; omega, fun _ i _ hs => by have := h.slt _ _ hs; omega⟩⟩
    refine ⟨e.got w' nx g el xs.length, rfl, h.got hb hu hg hglt hok, h.le_got hb hu _ _ _, fun j hj => hj.elim (fun q => .inr (by subst q; exact ⟨Nat.le_refl _, Nat.lt_succ_self _⟩)) .inl, ?_⟩
    have := rep_o_mk (T := T) (e := e.got w' nx g el xs.length) (id := nx) (ver := 1) (b := g) (o := 0) (cap := cap) (k := 0) (.inl rfl) (upd_same _ _ _) (by decide) (upd_same _ _ _) (by show upd e.ln nx xs.length nx ≤ cap; rw [upd_same]; exact h1)
      (by show 0 + cap * szT T (upd e.ty nx el nx) = blen w' g; rw [upd_same, hsz]; simp [blen, hgb, h3]) (fun _ => rfl)
    have hln : (e.got w' nx g el xs.length).ln nx = xs.length := upd_same _ _ _
    rw [hln] at this
    exact this
def tx (l : List UInt8) : List V := l.map fun b => V.i (b.toNat : Int)
def leVs : List V → List V → Bool
  | [], _ => true
  | _ :: _, [] => false
  | a :: x, b :: y => bif ilt a.int b.int then true else bif ilt b.int a.int then false else leVs x y
theorem leVs_eq : ∀ (a b : List UInt8), leVs (tx a) (tx b) = leB a b := by
  intro a
  induction a with
  | nil => intro b; cases b <;> simp [tx, leVs, leB]
  | cons x a ih =>
    intro b
    cases b with
    | nil => simp [tx, leVs, leB]
    | cons y b =>
      have e1 : ilt (V.i (x.toNat : Int)).int (V.i (y.toNat : Int)).int = decide (x < y) := by rw [Bool.eq_iff_iff, ilt_iff]; simp [V.int, UInt8.lt_iff_toNat_lt]
      have e2 : ilt (V.i (y.toNat : Int)).int (V.i (x.toNat : Int)).int = decide (y < x) := by rw [Bool.eq_iff_iff, ilt_iff]; simp [V.int, UInt8.lt_iff_toNat_lt]
      have e3 : leVs (tx (x :: a)) (tx (y :: b)) = bif ilt (V.i (x.toNat : Int)).int (V.i (y.toNat : Int)).int then true else bif ilt (V.i (y.toNat : Int)).int (V.i (x.toNat : Int)).int then false else leVs (tx a) (tx b) := rfl
      rw [e3, e1, e2, ih b]
      simp only [leB, List.cons_le_cons_iff]
      by_cases h1 : x < y
      · simp [h1]
      · by_cases h2 : y < x
        · have hne : x ≠ y := fun q => h1 (by rw [q] at h2; exact absurd h2 (UInt8.lt_irrefl y))
          simp [h1, h2, hne]
        · have : x = y := UInt8.le_antisymm (UInt8.not_lt.1 h2) (UInt8.not_lt.1 h1)
          subst this
          simp [h1]
def insV (a : V) : List V → List V
  | [] => [a]
  | b :: r => bif leVs a.els b.els then a :: b :: r else b :: insV a r
def sortV : List V → List V
  | [] => []
  | a :: r => insV a (sortV r)
def insB (a : List UInt8) : List (List UInt8) → List (List UInt8)
  | [] => [a]
  | b :: r => bif leB a b then a :: b :: r else b :: insB a r
def sortB : List (List UInt8) → List (List UInt8)
  | [] => []
  | a :: r => insB a (sortB r)
def sV (l : List UInt8) : V := .s (tx l)
theorem insV_eq (a : List UInt8) : ∀ l : List (List UInt8), insV (sV a) (l.map sV) = (insB a l).map sV := by
  intro l
  induction l with
  | nil => rfl
  | cons b r ih =>
    have : leVs (sV a).els (sV b).els = leB a b := leVs_eq a b
    simp only [List.map_cons, insV, insB, this, ih]
    cases leB a b <;> rfl
theorem sortV_eq : ∀ l : List (List UInt8), sortV (l.map sV) = (sortB l).map sV := by
  intro l
  induction l with
  | nil => rfl
  | cons a r ih => simp only [List.map_cons, sortV, sortB, ih, insV_eq]
theorem insB_perm (a : List UInt8) : ∀ l, (insB a l).Perm (a :: l) := by
  intro l
  induction l with
  | nil => exact .refl _
  | cons b r ih =>
    simp only [insB]
    cases leB a b
    · exact (ih.cons b).trans (List.Perm.swap a b r)
    · exact .refl _
theorem sortB_perm : ∀ l, (sortB l).Perm l := by
  intro l
  induction l with
  | nil => exact .refl _
  | cons a r ih => exact (insB_perm a _).trans (ih.cons a)
theorem leB_tr {a b c : List UInt8} (h1 : leB a b = true) (h2 : leB b c = true) : leB a c = true := by simp only [leB, decide_eq_true_eq] at *; exact List.le_trans h1 h2
theorem leB_tot {a b : List UInt8} (h : leB a b = false) : leB b a = true := by
  simp only [leB, decide_eq_true_eq, decide_eq_false_iff_not] at *
  exact (List.le_total a b).resolve_left h
theorem insB_sorted (a : List UInt8) : ∀ l, l.Pairwise (fun x y => leB x y = true) → (insB a l).Pairwise (fun x y => leB x y = true) := by
  intro l
  induction l with
  | nil => intro _; simp [insB]
  | cons b r ih =>
    intro h
    obtain ⟨h1, h2⟩ := List.pairwise_cons.1 h
    simp only [insB]
    cases hab : leB a b with
    | true =>
      refine List.pairwise_cons.2 ⟨fun x hx => ?_, h⟩
      rcases List.mem_cons.1 hx with rfl | hx
      · exact hab
      · exact leB_tr hab (h1 x hx)
    | false =>
      refine List.pairwise_cons.2 ⟨fun x hx => ?_, ih h2⟩
      rcases List.mem_cons.1 ((insB_perm a r).mem_iff.1 hx) with rfl | hx
      · exact leB_tot hab
      · exact h1 x hx
theorem sortB_sorted : ∀ l, (sortB l).Pairwise (fun x y => leB x y = true) := by
  intro l
  induction l with
  | nil => exact .nil
  | cons a r ih => exact insB_sorted a _ ih
theorem sortB_eq {l ss : List (List UInt8)} (h : ss.Perm l) : ss.mergeSort leB = sortB l := by
  have tr : ∀ a b c : List UInt8, leB a b = true → leB b c = true → leB a c = true := fun a b c => leB_tr
  have to : ∀ a b : List UInt8, (leB a b || leB b a) = true := fun a b => by simp only [leB, Bool.or_eq_true, decide_eq_true_eq]; exact List.le_total a b
  refine List.Perm.eq_of_pairwise (le := fun a b => leB a b = true) (fun a b _ _ h1 h2 => ?_) (List.pairwise_mergeSort tr to ss) (sortB_sorted l) (((List.mergeSort_perm ss leB).trans h).trans (sortB_perm l).symm)
  simp only [leB, decide_eq_true_eq] at h1 h2
  exact List.le_antisymm h1 h2
theorem rv_strs {st : Nat} (hk : kOf T st = some .str) (hz : szT T st = 1) (e : Env) : ∀ l : List (List UInt8), RV T e (List.replicate l.length st) (l.map sV) (l.map Proofs.encStr) := by
  intro l
  induction l with
  | nil => exact .nil
  | cons a r ih =>
    have := RV.str (T := T) (e := e) (s := ⟨a.toArray⟩) hk hz ih
    simpa [List.replicate_succ, sV, tx, txt, Proofs.encStr] using this
end Go.Vm

namespace Go.Vm
open Go.RowKit Go.Maps
variable {T : TT} {P : Program} {c : Ctx} {e eb : Env} {of of' : Nat → Option Ob}
def SortedKeys (P : Program) (f g st : Nat) : Prop := ∀ (Bm b nn : Nat) (D0 : DataW Unit) (R : Value → Option (DataW Unit × List MemPlace)) (w : World), Bm < w.heap.size → w.cell? ⟨Bm, 0, none⟩ = some (.map (some b)) → w.ownsMap P st R b nn D0 → Maps.size D0 ≤ 1000000 →
  Calls P f #[.func (.func g) #[] #[.pointer (some ⟨Bm, 0, none⟩)]] w fun e w' => ∃ (v : Value) (ss : List (List UInt8)), e = .returned v ∧ ss.Perm (strKeys D0) ∧ w'.ownsRow w.heap.size st 1 v ss.length ((ss.mergeSort leB).map Proofs.encStr) ∧ (v = .slice none 0 0 ↔ ss = []) ∧ Below w.heap.size w w'
def okK : List (V × A) → Bool
  | [] => true
  | p :: r => (match p.1 with
    | .s l => Nat.ble l.length 1000000
    | _ => false) && okK r
def mapKs : Ob → Option (Nat × List (V × A))
  | .map kt et es => some (kt, es)
  | .sm kt st el es ho => some (kt, keyS es)
  | _ => none
theorem mapKs_ok {id kt : Nat} {o : Ob} {es : List (V × A)} (h : OSim T c e of) (ho : of id = some o) (hk : mapKs o = some (kt, es)) : e.U id ∧ e.bn id = 0 ∧ ∃ b ms clock, e.ι id = some (b, 0) ∧ e.w.heap[b]? = some (.map ms clock) ∧ ((es.map (·.1)).Nodup ∧ StB ms clock) ∧ ∃ es' et, es'.Perm es ∧ MR T e kt et es' ms.toList := by
  cases o with
  | map kt' et' es' =>
    injection hk with hk; injection hk with h1 h2; subst h1; subst h2
    obtain ⟨v1, v2, b, ms, clock, v3, v4, v5, es', v6, v7⟩ := map_ok h ho
    exact ⟨v1, v2, b, ms, clock, v3, v4, v5, es', _, v6, v7⟩
  | sm kt' st el es' ho' =>
    injection hk with hk; injection hk with h1 h2; subst h1; subst h2
    obtain ⟨u1, u2, hks, hz, hz3, b, ms, clock, v3, v4, v5, es', bs, v6, v7⟩ := sm_ok h ho
    exact ⟨u1, u2, b, ms, clock, v3, v4, ⟨by rw [keyS, List.map_map]; exact v5.1, v5.2⟩, keyS es', st, v6.map _, v7.mr hks hz⟩
  | _ => cases hk
def sortK (g st : Nat) : Sym := fun args of nx =>
  match args with
  | [.f g' [.p ib tb []]] => bif Nat.beq g g' then (match of ib with
    | some (.box tb' (.m mid) _) => match of mid with
      | some o => match mapKs o with
        | some (kt, es) => bif Nat.beq kt st && (okK es && Nat.ble es.length 1000000) then (seeL (sortV (es.map (·.1))) fun ks => some ⟨.o nx 1, [(nx, .row st 1 ks ks.isEmpty false)], [ib, mid], nx + 1⟩) else none
        | none => none
      | _ => none
    | _ => none) else none
  | _ => none
def keyB (m : MapEntry) : List UInt8 :=
  match m.key with
  | .string s => s.data.toList
  | _ => []
theorem keys_of {kt et : Nat} (hk : kOf T kt = some .str) : ∀ {es : List (V × A)} {ms : List MapEntry}, MR T e kt et es ms → es.map (·.1) = (ms.map keyB).map sV ∧ ms.map (·.key) = (ms.map keyB).map Proofs.encStr := by
  intro es ms h
  induction h with
  | nil => exact ⟨rfl, rfl⟩
  | @cons k a r m ms h1 h2 h3 h4 ih =>
    obtain ⟨i1, i2⟩ := ih
    obtain ⟨h1, hag⟩ := h1
    obtain ⟨key, val, born⟩ := m
    simp only at h1 hag
    have hn : ¬ ∃ cs, key = .agg cs := fun q => by
      obtain ⟨k', g1, g2⟩ := hag.2 q
      rw [hk] at g1; cases g1; cases g2
    have hcs : key.cells = #[key] := by
      cases key with
      | agg cs => exact absurd ⟨cs, rfl⟩ hn
      | _ => rfl
    rw [hcs] at h1
    obtain ⟨s, rfl, rfl⟩ : ∃ s, k = .s (txt s) ∧ key = .string s := by
      generalize hcs : (#[key] : Array Value).toList = cs at h1
      cases h1 with
      | @str _ s _ _ cs g1 g2 g3 => cases g3; simp at hcs; exact ⟨s, rfl, hcs⟩
      | int g1 => rw [hk] at g1; cases g1
      | bool g1 => rw [hk] at g1; cases g1
      | ptr g1 => rw [hk] at g1; cases g1
      | nils g1 => rw [hk] at g1; cases g1
      | map g1 => rw [hk] at g1; cases g1
      | func g1 => rw [hk] at g1; cases g1
      | fn g1 => rw [hk] at g1; cases g1
      | slice g1 => rw [hk] at g1; cases g1
      | arr g1 => rw [hk] at g1; cases g1
      | struct g1 => rw [hk] at g1; cases g1
    refine ⟨?_, ?_⟩
    · rw [List.map_cons, i1]; rfl
    · rw [List.map_cons, i2]; simp [keyB, Proofs.encStr]
theorem okK_len : ∀ {es : List (V × A)}, okK es = true → ∀ p ∈ es, ∀ l, p.1 = .s l → l.length ≤ 1000000 := by
  intro es
  induction es with
  | nil => intro _ p hp; cases hp
  | cons q r ih =>
    intro h p hp l hl
    simp only [okK, Bool.and_eq_true] at h
    rcases List.mem_cons.1 hp with rfl | hp
    · have h1 := h.1
      rw [hl] at h1
      exact Nat.le_of_ble_eq_true h1
    · exact ih h.2 p hp l hl
theorem un_tx : ∀ l : List UInt8, (tx l).map (fun v => v.int.toNat.toUInt8) = l := by
  intro l
  induction l with
  | nil => rfl
  | cons a r ih =>
    show ((a.toNat : Int).toNat.toUInt8) :: (tx r).map _ = _
    rw [ih]
    congr 1
    simp
def R0 : Value → Option (DataW Unit × List MemPlace) := fun _ => some (.nil, [])
theorem sortK_ok (hT : TOK T P) {f g st : Nat} (hS : SortedKeys P f g st) (hk : kOf T st = some .str) (hz : szT T st = 1) (hen : ∀ args w, (callFunc f args).run P w = .ok (.enter f args) w) : SymOK P T f (sortK g st) := by
  intro c e of of' as vals nx out hos hs hro hu hvals
  unfold sortK at hs
  split at hs <;> try (cases hs; done)
  rename_i g' ib tb
  cases hg : Nat.beq g g' with
  | false => rw [hg] at hs; cases hs
  | true =>
  rw [hg] at hs
  have := Nat.eq_of_beq_eq_true hg; subst this
  simp only [cond_true] at hs
  split at hs <;> try (cases hs; done)
  rename_i tb' mid sh hob
  split at hs <;> try (cases hs; done)
  rename_i ob hom
  split at hs <;> try (cases hs; done)
  rename_i kt es hmk
  cases hc : Nat.beq kt st && (okK es && Nat.ble es.length 1000000) with
  | false => rw [hc] at hs; cases hs
  | true =>
  rw [hc, cond_true, seeL_eq] at hs
  simp only [Bool.and_eq_true] at hc
  obtain ⟨c1, c2, c3⟩ := hc
  have := Nat.eq_of_beq_eq_true c1; subst this
  have c3 := Nat.le_of_ble_eq_true c3
  injection hs with hs; subst hs
  have hob' : of' ib = some (.box tb' (.m mid) sh) := (hro ib (by simp)).trans hob
  have hom' : of' mid = some ob := (hro mid (by simp)).trans hom
  obtain ⟨x1, x2, x3, x4, Bm, cs, ty, fz, x5, x6, x7, x8, x9, x10⟩ := hos.ok _ _ hob'
  obtain ⟨y1, y2, b, ms, clock, y3, y4, ⟨y5, y5'⟩, es', et, y6, y7⟩ := mapKs_ok hos hom' hmk
  obtain ⟨v, hvs⟩ : ∃ v, vals = #[v] := by
    obtain ⟨vals⟩ := vals
    cases hvals with | cons h1 h2 => cases h2; exact ⟨_, rfl⟩
  subst hvs
  have hv : Rep T e (.f g [.p ib tb []]) v := by cases hvals with | cons h1 _ => exact h1
  obtain ⟨vs, rfl, hcap⟩ := rep_f_inv hv
  obtain ⟨v2, rfl⟩ := hcap.single rfl
  obtain ⟨Bm', off, p1, p2, p3, p4, rfl⟩ := rep_p_inv (T := T) (e := e) (id := ib) (t := tb) (path := []) hcap
  rw [x5] at p3
  cases p3
  cases p4
  obtain ⟨v3, hcs⟩ := x9.single rfl
  have hm3 : ∃ b', e.U mid ∧ e.bn mid = 0 ∧ e.ι mid = some (b', 0) ∧ v3 = .map (some b') := rep_m_inv (by rw [hcs] at x9; exact x9)
  obtain ⟨b', _, _, z3, rfl⟩ := hm3
  rw [y3] at z3; cases z3
  have hcell : e.w.cell? ⟨Bm, 0, none⟩ = some (.map (some b)) := by
    have : cs[0]? = some (.map (some b)) := by rw [← Array.getElem?_toList, hcs]; rfl
    simp [World.cell?, x6, this]
  obtain ⟨k1, k2⟩ := keys_of hk y7
  have hu' : P.underlying kt = some .string := by
    obtain ⟨te, h1, h2⟩ := kOf_some hk
    exact under_str (hT _ _ h1) h2
  have hlen : es.length = ms.size := by rw [← y6.length_eq, y7.length, Array.length_toList]
  have hrd : ∀ m ∈ ms.toList, WideElems.rd P kt R0 m = some (.string (keyB m), .nil) := by
    intro m hm
    have hmk : m.key = Proofs.encStr (keyB m) := by
      obtain ⟨i, hi, rfl⟩ := List.mem_iff_getElem.1 hm
      have := congrArg (fun l => l[i]?) k2
      simp only [List.getElem?_map, List.getElem?_eq_getElem hi, Option.map_some, Option.some.injEq] at this
      exact this
    have hl : (keyB m).length ≤ 1000000 := by
      have : sV (keyB m) ∈ (ms.toList.map keyB).map sV := List.mem_map_of_mem (List.mem_map_of_mem hm)
      rw [← k1] at this
      obtain ⟨p, hp, hpe⟩ := List.mem_map.1 this
      have := okK_len c2 p (y6.mem_iff.1 hp) _ hpe
      simpa [tx] using this
    have hkey : keyOf P kt m.key = some (.string (keyB m)) := by
      rw [hmk]
      simp [keyOf, hu', mapKey, Proofs.encStr]
      exact Nat.le_trans hl (by decide)
    simp [WideElems.rd, hkey, R0]
  have hndk : (ms.toList.map keyB).Nodup := by
    have h1 : (es'.map (·.1)).Nodup := (y6.map _).nodup_iff.2 y5
    rw [k1] at h1
    exact (List.pairwise_map.1 h1).imp (fun h q => h (by rw [q]))
  have hst : MapKept.Stamped ms clock := by
    refine ⟨y5'.1, y5'.2, ?_⟩
    rw [k2]
    exact List.Pairwise.map _ (fun a b hab q => hab (Go.encStr_inj q)) hndk
  have hfit : WideElems.Fit P kt R0 ms clock := ⟨Nat.le_trans (by omega) (show 1000000 ≤ maxLen by decide), hst, fun m hm => ⟨_, hrd m hm⟩⟩
  have hown : e.w.ownsMap P kt R0 b 1000000 (.map ((ms.toList.map (WideElems.rg P kt R0)).foldr DataW.insert [])) := ⟨ms, clock, y4, hfit, by omega, rfl⟩
  have hrgs : (ms.toList.map (WideElems.rg P kt R0)).map (fun p => strOf p.1) = ms.toList.map keyB := by
    rw [List.map_map]
    refine List.map_congr_left (fun m hm => ?_)
    simp only [Function.comp]
    rw [WideElems.rg_of (hrd m hm)]
    rfl
  have hperm : (strKeys (.map ((ms.toList.map (WideElems.rg P kt R0)).foldr DataW.insert []))).Perm (ms.toList.map keyB) := by
    rw [← hrgs]
    exact (WideShapes.sorted_perm _).map _
  have hsize : Maps.size (.map ((ms.toList.map (WideElems.rg P kt R0)).foldr DataW.insert []) : DataW Unit) ≤ 1000000 := by
    rw [Maps.size_eq, (WideShapes.sorted_perm _).length_eq]
    simp; omega
  have hcall := hS Bm b 1000000 _ R0 e.w (Array.getElem?_eq_some_iff.1 x6).1 hcell hown hsize
  have hks : sortV (es.map (·.1)) = (sortB (ms.toList.map keyB)).map sV := by
    have hp : (es.map (·.1)).Perm ((ms.toList.map keyB).map sV) := by rw [← k1]; exact (y6.map _).symm
    obtain ⟨l, hl⟩ : ∃ l : List (List UInt8), es.map (·.1) = l.map sV := by
      have : ∀ x ∈ es.map (·.1), ∃ a, x = sV a := fun x hx => by
        obtain ⟨a, _, ha⟩ := List.mem_map.1 (hp.mem_iff.1 hx)
        exact ⟨a, ha.symm⟩
      clear hp
      generalize es.map (·.1) = xs at this
      induction xs with
      | nil => exact ⟨[], rfl⟩
      | cons x r ih =>
        obtain ⟨l, rfl⟩ := ih (fun y hy => this y (by simp [hy]))
        obtain ⟨a, rfl⟩ := this x (by simp)
        exact ⟨a :: l, rfl⟩
    have hpl : l.Perm (ms.toList.map keyB) := by
      rw [hl] at hp
      have hun : ∀ l : List (List UInt8), (l.map sV).map (fun v => v.els.map fun v => v.int.toNat.toUInt8) = l := by
        intro l
        rw [List.map_map]
        conv => rhs; rw [← List.map_id l]
        refine List.map_congr_left (fun a _ => ?_)
        exact un_tx a
      have := hp.map (fun v => v.els.map fun v => v.int.toNat.toUInt8)
      rwa [hun, hun] at this
    rw [hl, sortV_eq]
    congr 1
    exact (sortB_eq (List.Perm.refl l)).symm.trans (sortB_eq hpl)
  refine .inr (.inr (.inl ⟨f, _, e.w, hen _ _, hcall.mono fun en w' ⟨v, ss, h1, h2, h3, h4, h5⟩ => ⟨v, h1, ?_⟩⟩))
  rw [hks]
  rw [sortB_eq (h2.trans hperm)] at h3
  have hlss : ((sortB (ms.toList.map keyB)).map sV).length = ss.length := by rw [List.length_map, (sortB_perm _).length_eq, (h2.trans hperm).length_eq]
  refine left_row (ys := (sortB (ms.toList.map keyB)).map Proofs.encStr) hos h5 (hu nx (Nat.le_refl _) (Nat.lt_succ_self _)) hz (by rw [hlss]; exact h3) (fun e' => by rw [List.length_map]; exact rv_strs hk hz e' _) ?_
  rw [h4]
  constructor
  · intro q; rw [q] at hlss; exact List.length_eq_zero_iff.1 hlss
  · intro q; rw [q] at hlss; exact List.length_eq_zero_iff.1 hlss.symm
end Go.Vm

namespace Go.Vm
open Go.RowKit
variable {P : Program} {T : TT} {c : Ctx} {e eb : Env} {of of' : Nat → Option Ob}
end Go.Vm

namespace Go.Vm
open Go.RowKit
variable {R : Type}
end Go.Vm

namespace Go.Vm
open Go.RowKit
variable {P : Program} {T : TT} {R : Type} {e : Env}
end Go.Vm

namespace Go.Vm
open Go.RowKit
variable {P : Program} {T : TT} {R : Type} {c : Ctx} {e : Env} {of : Nat → Option Ob}
def box0 (t : Nat) (x : V) : Nat → Option Ob := fun j => bif Nat.beq j 0 then some (.box t (.v t x) false) else none
theorem OSim.back {f : Nat → Option Ob} (h : OSim T c e f) {id : Nat} {o : Ob} (ho : OK T e id o) (hown : ∀ b q, e.ι id = some (b, q) → c.w0.heap.size ≤ b ∨ c.M b) (hsep : ∀ j b q b' q', j ≠ id → (f j).isSome → e.ι id = some (b, q) → e.ι j = some (b', q') → b' ≠ b) (hnG : ∀ a b q, e.ι id = some (b, q) → ¬ e.G a b) : OSim T c e (upd f id (some o)) := by
  have ne : ∀ j, j ≠ id → upd f id (some o) j = f j := fun j hj => upd_ne _ _ hj
  refine ⟨fun j x hj => ?_, fun i j b q b' q' hi hj hb hb' hne => ?_, fun j b q hj hb => ?_, h.lt, h.slt, h.s0, h.snew, h.os, h.tape, h.output, h.size, h.block, ?_⟩
  · by_cases hji : j = id
    · subst hji; rw [upd_same] at hj; cases hj; exact ho
    · rw [ne j hji] at hj; exact h.ok j x hj
  · by_cases h1 : i = id
    · subst h1
      rw [ne j (Ne.symm hne)] at hj
      exact fun q' => hsep j b q b' _ (Ne.symm hne) hj hb hb' q'.symm
    · by_cases h2 : j = id
      · subst h2
        rw [ne i h1] at hi
        exact hsep i b' _ b _ h1 hi hb' hb
      · rw [ne i h1] at hi; rw [ne j h2] at hj
        exact h.sep i j b q b' q' hi hj hb hb' hne
  · by_cases hji : j = id
    · subst hji; exact hown b q hb
    · rw [ne j hji] at hj; exact h.own j b q hj hb
  · refine ⟨fun a b1 hG j b2 q hj hb2 => ?_, h.g.uniq, h.g.own, h.g.lt⟩
    by_cases hji : j = id
    · subst hji; exact fun hq => hnG a b2 q hb2 (hq ▸ hG)
    · rw [ne j hji] at hj; exact h.g.sep a b1 hG j b2 q hj hb2
end Go.Vm

namespace Go.Vm
open Go.RowKit
variable {P : Program} {T : TT} {R : Type} {c : Ctx} {e : Env} {of : Nat → Option Ob}
theorem put_agree : ∀ (l : List (Nat × Ob)) {f g : Nat → Option Ob} {id : Nat}, f id = g id → put f l id = put g l id := by
  intro l
  induction l with
  | nil => intro f g id h; exact h
  | cons p r ih =>
    intro f g id h
    refine ih ?_
    simp only [upd]
    split
    · rfl
    · exact h
end Go.Vm

namespace Go.Vm
open Go.RowKit
variable {P : Program} {T : TT} {R : Type}
def sub (xs : List V) (lo hi : Int) : List V := (xs.drop lo.toNat).take (hi - lo).toNat
end Go.Vm

namespace Go.Vm
open Go.RowKit
variable {P : Program} {T : TT} {R : Type}
def leV : Nat → Int → List V
  | 0, _ => []
  | m + 1, n => .i (IntKind.wrap .u8 n) :: leV m (n.fdiv (2 ^ 8))
def cntL (n : Int) : List V :=
  bif ilt n 253 then leV 1 n else bif ilt n 65536 then .i 253 :: leV 2 n else bif ilt n 4294967296 then .i 254 :: leV 4 n else .i 255 :: leV 8 n
end Go.Vm

namespace Go.Vm
open Go.RowKit
variable {P : Program} {T : TT} {R : Type}
end Go.Vm

namespace Go.Vm
open Go.RowKit
variable {P : Program} {T : TT} {R : Type}
end Go.Vm

namespace Go.Vm
open Go.RowKit
variable {P : Program} {T : TT} {R : Type}
end Go.Vm

namespace Go.Vm
open Go.RowKit
variable {P : Program} {T : TT} {R : Type}
end Go.Vm

namespace Go.Vm
open Go.RowKit
variable {P : Program} {T : TT} {R : Type}
end Go.Vm

namespace Go.Vm
open Go.RowKit
variable {P : Program} {T : TT}
variable {R : Type}
end Go.Vm

namespace Go.Vm
open Go.RowKit
variable {P : Program} {T : TT} {R : Type}
end Go.Vm

namespace Go.Vm
open Go.RowKit
variable {P : Program} {T : TT} {R : Type}
end Go.Vm
end
