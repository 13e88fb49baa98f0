/- What the operations of a program do, shown once for all programs; and numbers. -/
import Derived.Test.YtadjkmffodhmbaaGreatVm10
set_option linter.constructorNameAsVariable false
set_option linter.unusedVariables false
set_option linter.unusedSimpArgs false
noncomputable section
namespace Go.Vm
open Go.RowKit
variable {R : Type}
def B5j (i : Nat) (e : V) : Bool := B7 40 (i : Int) || (B7 100 ((U0 e).length : Nat) || (B7 300 ((e.nth 1).els.length : Nat) || (B7 (e.nth 2).int 0 || B7 1000000000 (e.nth 2).int)))
def Z2 : List V → Nat → Bool
 | [], _ => true
 | e :: r, i => bif B5j i e then false else Z2 r (i + 1)
theorem C8u {l : V} {ko kr : Option R} {kx : QRn → Option R} (h1 : ∀ n i, kx (.o l n i) = ko) (h2 : ∀ n i, kx (.r l n i) = kr) : ∀ (r a : List V) (fuel : Nat), l.els = a ++ r → (∀ x ∈ r, (U0 x).length ≤ MX ∧ (x.nth 1).els.length ≤ MX) → a.length ≤ 41 → l.els.length ≤ MX → 50 ≤ fuel + a.length →
  E2 (BRn R) fuel (.m l (l.els.length : Nat) (a.length : Nat)) kx = bif Z2 r a.length then ko else kr := by
 intro r
 induction r with
 | nil =>
  intro a fuel he hg ha hz hf
  obtain ⟨f, rfl⟩ : ∃ f, fuel = f + 1 := ⟨fuel - 1, by omega⟩
  rw [List.append_nil] at he
  rw [E2, C4s, A2K he, cond_false, h1]; rfl
 | cons x r ih =>
  intro a fuel he hg ha hz hf
  obtain ⟨f, rfl⟩ : ∃ f, fuel = f + 1 := ⟨fuel - 1, by omega⟩
  have hle : l.els.length = a.length + (r.length + 1) := by rw [he]; simp
  have hat : l.nth ((a.length : Nat) : Int).toNat = x := U5 he
  obtain ⟨x1, x2⟩ := hg x (by simp)
  have ih := ih (a ++ [x]) f (by rw [he]; simp) (fun y hy => hg y (by simp [hy]))
  simp only [D03, D1a] at ih
  rw [E2, C4s, A2J he, cond_true, C1 (by omega) (by omega), hat]
  have e1 : Z2 (x :: r) a.length = bif B5j a.length x then false else Z2 r (a.length + 1) := rfl
  rw [e1]
  unfold B5j
  cases b1 : B7 40 ((a.length : Nat) : Int) with
  | true => rw [cond_true, h2]; rfl
  | false =>
  rw [cond_false, B5 x1]
  cases b2 : B7 100 ((U0 x).length : Nat) with
  | true => rw [cond_true, h2]; rfl
  | false =>
  rw [cond_false, B5 x2]
  cases b3 : B7 300 ((x.nth 1).els.length : Nat) with
  | true => rw [cond_true, h2]; rfl
  | false =>
  rw [cond_false]
  cases b4 : B7 (x.nth 2).int 0 with
  | true => rw [cond_true, h2]; rfl
  | false =>
  rw [cond_false]
  cases b5 : B7 1000000000 (x.nth 2).int with
  | true => rw [cond_true, h2]; rfl
  | false =>
  rw [cond_false]
  have : ((a.length : Nat) : Int) ≤ 40 := by rw [F8] at b1; simpa using b1
  rw [L1 (by omega)]
  exact ih (by omega) hz (by omega)
def rnG (b : Nat) (l : V) : Option (List Rs) := ln l.els.length <| E2 (BRn (List Rs)) (A2 FU) (.m l (l.els.length : Nat) 0) fun q => match q with
 | .o l1 n1 i1 => some [.d b (.b true)]
 | .r l1 n1 i1 => some [.d b (.b false)]
def rng : List V → Bool
 | [l] => Nat.ble l.els.length MX && l.els.all fun x => Nat.ble (U0 x).length MX && Nat.ble (x.nth 1).els.length MX
 | _ => false
def rnr (b : Nat) : List V → List Rs
 | [l] => [.d b (.b (Z2 l.els 0))]
 | _ => []
theorem C3Y {b : Nat} {l : V} (hg : rng [l] = true) : rnG b l = some (rnr b [l]) := by
 have hg : (Nat.ble l.els.length MX && l.els.all fun x => Nat.ble (U0 x).length MX && Nat.ble (x.nth 1).els.length MX) = true := hg
 simp only [D02, Nat.ble_eq, List.all_eq_true] at hg
 obtain ⟨g1, g2⟩ := hg
 unfold rnG
 have hq := P6
 rw [B5 g1]
 have := C8u (l := l) (ko := some [Rs.d b (.b true)]) (kr := some [Rs.d b (.b false)]) (kx := fun q => match q with
  | .o l1 n1 i1 => some [.d b (.b true)]
  | .r l1 n1 i1 => some [.d b (.b false)]) (fun _ _ => rfl) (fun _ _ => rfl) l.els [] (A2 FU) rfl (fun x hx => g2 x hx) (by decide) g1 (by omega)
 refine this.trans ?_
 show _ = some [Rs.d b (.b (Z2 l.els 0))]
 show (bif Z2 l.els 0 then _ else _) = _
 cases Z2 l.els 0 <;> rfl
theorem C8v {a b : V} {ko kr : Option R} {kx : QSa → Option R} (h1 : ∀ n i, kx (.o a b n i) = ko) (h2 : ∀ n i, kx (.r a b n i) = kr) : ∀ (r s p q : List V) (fuel : Nat), a.els = p ++ r → b.els = q ++ s → p.length = q.length → r.length = s.length → p.length + r.length ≤ 100000 → r.length < fuel →
  E2 (BSa R) fuel (.m a b (a.els.length : Nat) (p.length : Nat)) kx = bif F7 r s then ko else kr := by
 intro r
 induction r with
 | nil =>
  intro s p q fuel he he2 hpq hrs hz hf
  obtain ⟨f, rfl⟩ : ∃ f, fuel = f + 1 := ⟨fuel - 1, by omega⟩
  cases s with
  | cons y s => simp at hrs
  | nil =>
   rw [List.append_nil] at he
   rw [E2, C4t, A2K he, cond_false, h1]; rfl
 | cons x r ih =>
  intro s p q fuel he he2 hpq hrs hz hf
  obtain ⟨f, rfl⟩ : ∃ f, fuel = f + 1 := ⟨fuel - 1, by omega⟩
  cases s with
  | nil => simp at hrs
  | cons y s =>
   simp only [D09] at hrs hz hf
   have l1 : a.els.length = p.length + (r.length + 1) := by rw [he]; simp
   have l2 : b.els.length = q.length + (s.length + 1) := by rw [he2]; simp
   have ha : a.nth ((p.length : Nat) : Int).toNat = x := U5 he
   have hb : b.nth ((p.length : Nat) : Int).toNat = y := by rw [hpq]; exact U5 he2
   have ih := ih s (p ++ [x]) (q ++ [y]) f (by rw [he]; simp) (by rw [he2]; simp) (by simp [hpq]) (by omega) (by simp only [D03, D1a]; omega) (by omega)
   simp only [D03, D1a] at ih
   rw [E2, C4t, A2J he, cond_true, C1 (by omega) (by omega), C1 (by omega) (by omega), ha, hb]
   show _ = bif M3 x y && F7 r s then ko else kr
   cases M3 x y with
   | false => rw [Bool.not_false, cond_true, h2]; rfl
   | true =>
    rw [Bool.not_true, cond_false, Bool.true_and, L1 (by omega)]
    exact ih
theorem C8w {a b : V} {ko kr : Option R} {kx : QSx → Option R} (h1 : ∀ n i, kx (.o a b n i) = ko) (h2 : ∀ n i, kx (.r a b n i) = kr) : ∀ (r s p q : List V) (fuel : Nat), a.els = p ++ r → b.els = q ++ s → p.length = q.length → r.length = s.length → p.length + r.length ≤ 100000 → r.length < fuel → (∀ x ∈ r, ∃ n, x = .s n) → (∀ x ∈ s, ∃ n, x = .s n) →
  E2 (BSx R) fuel (.m a b (a.els.length : Nat) (p.length : Nat)) kx = bif F7 r s then ko else kr := by
 intro r
 induction r with
 | nil =>
  intro s p q fuel he he2 hpq hrs hz hf _ _
  obtain ⟨f, rfl⟩ : ∃ f, fuel = f + 1 := ⟨fuel - 1, by omega⟩
  cases s with
  | cons y s => simp at hrs
  | nil =>
   rw [List.append_nil] at he
   rw [E2, C4u, A2K he, cond_false, h1]; rfl
 | cons x r ih =>
  intro s p q fuel he he2 hpq hrs hz hf hx hy
  obtain ⟨f, rfl⟩ : ∃ f, fuel = f + 1 := ⟨fuel - 1, by omega⟩
  cases s with
  | nil => simp at hrs
  | cons y s =>
   simp only [D09] at hrs hz hf
   have l1 : a.els.length = p.length + (r.length + 1) := by rw [he]; simp
   have l2 : b.els.length = q.length + (s.length + 1) := by rw [he2]; simp
   have ha : a.nth ((p.length : Nat) : Int).toNat = x := U5 he
   have hb : b.nth ((p.length : Nat) : Int).toNat = y := by rw [hpq]; exact U5 he2
   have ih := ih s (p ++ [x]) (q ++ [y]) f (by rw [he]; simp) (by rw [he2]; simp) (by simp [hpq]) (by omega) (by simp only [D03, D1a]; omega) (by omega) (fun z hz => hx z (by simp [hz])) (fun z hz => hy z (by simp [hz]))
   simp only [D03, D1a] at ih
   rw [E2, C4u, A2J he, cond_true, C1 (by omega) (by omega), C1 (by omega) (by omega), ha, hb]
   obtain ⟨nx, rfl⟩ := hx x (by simp)
   obtain ⟨ny, rfl⟩ := hy y (by simp)
   show (bif !(F7 nx ny) then _ else _) = bif F7 nx ny && F7 r s then ko else kr
   cases F7 nx ny with
   | false => rw [Bool.not_false, cond_true, h2]; rfl
   | true =>
    rw [Bool.not_true, cond_false, Bool.true_and, L1 (by omega)]
    exact ih
theorem A98 {a b : List V} (h : a.length ≠ b.length) : F7 a b = false := by
 rw [← Bool.not_eq_true, L0]; intro q; exact h (by rw [q])
def sag : List V → Bool
 | [a, b] => Nat.ble a.els.length 100000 && Nat.ble b.els.length 100000
 | _ => false
def sar (t : Nat) : List V → List Rs
 | [a, b] => [.d t (.b (F7 a.els b.els))]
 | _ => []
def saG (t : Nat) (a b : V) : Option (List Rs) :=
 ln a.els.length <| ln b.els.length <| bif !(G5 (a.els.length : Nat) (b.els.length : Nat)) then some [.d t (.b false)] else ln a.els.length <| E2 (BSa (List Rs)) (A2 FU) (.m a b (a.els.length : Nat) 0) fun q => match q with
 | .o a1 b1 n1 i1 => some [.d t (.b true)]
 | .r a1 b1 n1 i1 => some [.d t (.b false)]
def sxG (t : Nat) (a b : V) : Option (List Rs) :=
 ln a.els.length <| ln b.els.length <| bif !(G5 (a.els.length : Nat) (b.els.length : Nat)) then some [.d t (.b false)] else ln a.els.length <| E2 (BSx (List Rs)) (A2 FU) (.m a b (a.els.length : Nat) 0) fun q => match q with
 | .o a1 b1 n1 i1 => some [.d t (.b true)]
 | .r a1 b1 n1 i1 => some [.d t (.b false)]
theorem C3Z {t : Nat} {a b : V} (hg : sag [a, b] = true) : saG t a b = some (sar t [a, b]) := by
 have hg : (Nat.ble a.els.length 100000 && Nat.ble b.els.length 100000) = true := hg
 simp only [D02, Nat.ble_eq] at hg
 obtain ⟨g1, g2⟩ := hg
 have hq := P6
 unfold saG
 rw [B5 (by omega), B5 (by omega), B5 (by omega)]
 show _ = some [Rs.d t (.b (F7 a.els b.els))]
 by_cases hl : a.els.length = b.els.length
 ·rw [show G5 (a.els.length : Nat) (b.els.length : Nat) = true by rw [H7, hl], Bool.not_true, cond_false]
  have := C8v (a := a) (b := b) (ko := some [Rs.d t (.b true)]) (kr := some [Rs.d t (.b false)]) (kx := fun q => match q with
   | .o a1 b1 n1 i1 => some [.d t (.b true)]
   | .r a1 b1 n1 i1 => some [.d t (.b false)]) (fun _ _ => rfl) (fun _ _ => rfl) a.els b.els [] [] (A2 FU) rfl rfl rfl hl (by simpa using g1) (by omega)
  refine this.trans ?_
  cases F7 a.els b.els <;> rfl
 ·rw [show G5 (a.els.length : Nat) (b.els.length : Nat) = false by rw [← Bool.not_eq_true, H7]; omega, Bool.not_false, cond_true, A98 hl]
theorem C30 {t : Nat} {a b : V} (ha : (D.slice .str).has a) (hb : (D.slice .str).has b) (hg : sag [a, b] = true) : sxG t a b = some (sar t [a, b]) := by
 have hg : (Nat.ble a.els.length 100000 && Nat.ble b.els.length 100000) = true := hg
 simp only [D02, Nat.ble_eq] at hg
 obtain ⟨g1, g2⟩ := hg
 have hq := P6
 unfold sxG
 rw [B5 (by omega), B5 (by omega), B5 (by omega)]
 show _ = some [Rs.d t (.b (F7 a.els b.els))]
 by_cases hl : a.els.length = b.els.length
 ·rw [show G5 (a.els.length : Nat) (b.els.length : Nat) = true by rw [H7, hl], Bool.not_true, cond_false]
  have := C8w (a := a) (b := b) (ko := some [Rs.d t (.b true)]) (kr := some [Rs.d t (.b false)]) (kx := fun q => match q with
   | .o a1 b1 n1 i1 => some [.d t (.b true)]
   | .r a1 b1 n1 i1 => some [.d t (.b false)]) (fun _ _ => rfl) (fun _ _ => rfl) a.els b.els [] [] (A2 FU) rfl rfl rfl hl (by simpa using g1) (by omega) (fun x hx => by obtain ⟨ns, rfl, _⟩ := Q3 ha x hx; exact ⟨_, rfl⟩) (fun x hx => by obtain ⟨ns, rfl, _⟩ := Q3 hb x hx; exact ⟨_, rfl⟩)
  refine this.trans ?_
  cases F7 a.els b.els <;> rfl
 ·rw [show G5 (a.els.length : Nat) (b.els.length : Nat) = false by rw [← Bool.not_eq_true, H7]; omega, Bool.not_false, cond_true, A98 hl]
theorem C8x {nm : List V} {l : V} {kx : QHn → Option R} : ∀ (r a xs : List V) (fuel : Nat), l.els = a ++ r → a.length + r.length ≤ 100000 → xs.length ≤ a.length → r.length < fuel →
  E2 (BHn R) fuel (.m nm l xs (l.els.length : Nat) (a.length : Nat)) kx = kx (.o nm l (xs ++ C9 nm r) (l.els.length : Nat) (l.els.length : Nat)) := by
 intro r
 induction r with
 | nil =>
  intro a xs fuel he hz hx hf
  obtain ⟨f, rfl⟩ : ∃ f, fuel = f + 1 := ⟨fuel - 1, by omega⟩
  rw [List.append_nil] at he
  rw [E2, C4w, A2K he, cond_false]
  simp only [C9, List.filter_nil, List.append_nil, he]
 | cons x r ih =>
  intro a xs fuel he hz hx hf
  obtain ⟨f, rfl⟩ : ∃ f, fuel = f + 1 := ⟨fuel - 1, by omega⟩
  simp only [D09] at hz hf
  have hle : l.els.length = a.length + (r.length + 1) := by rw [he]; simp
  have hat : l.nth ((a.length : Nat) : Int).toNat = x := U5 he
  rw [E2, C4w, A2J he, cond_true, C1 (by omega) (by omega), hat]
  have e1 : C9 nm (x :: r) = bif F7 (U0 x) nm then x :: C9 nm r else C9 nm r := by
   simp only [C9, List.filter_cons]; cases F7 (U0 x) nm <;> rfl
  rw [e1]
  cases F7 (U0 x) nm with
  | true =>
   have ih := ih (a ++ [x]) (xs ++ [x]) f (by rw [he]; simp) (by simp only [D03, D1a]; omega) (by simp only [D03, D1a]; omega) (by omega)
   simp only [D03, D1a, List.append_assoc, List.singleton_append] at ih
   rw [cond_true, cond_true, D1 (by simp only [D1a]; omega), L1 (by omega)]
   exact ih
  | false =>
   have ih := ih (a ++ [x]) xs f (by rw [he]; simp) (by simp only [D03, D1a]; omega) (by simp only [D03, D1a]; omega) (by omega)
   simp only [D03, D1a] at ih
   rw [cond_false, cond_false, L1 (by omega)]
   exact ih
def beN (nm : List V) (xs : List V) : Nat := (xs.takeWhile fun x => sLt x.els nm).length
theorem C8y {e l : V} {n i : Int} {xs : List V} {kx : QNi → Option R} : ∀ (r p : List V) (fuel : Nat), xs = p ++ r → xs.length ≤ 100000 → r.length < fuel →
  E2 (BNi R) fuel (.m xs e (p.length : Nat) l n i) kx = kx (.o xs e ((p.length + beN (U0 e) r : Nat) : Int) l n i) := by
 intro r
 induction r with
 | nil =>
  intro p fuel he hz hf
  obtain ⟨f, rfl⟩ : ∃ f, fuel = f + 1 := ⟨fuel - 1, by omega⟩
  rw [List.append_nil] at he
  subst he
  rw [E2, C4x, B5 (by omega)]
  rw [show B7 ((xs.length : Nat) : Int) ((xs.length : Nat) : Int) = false by rw [F8]; simp, cond_false]
  rfl
 | cons x r ih =>
  intro p fuel he hz hf
  obtain ⟨f, rfl⟩ : ∃ f, fuel = f + 1 := ⟨fuel - 1, by omega⟩
  simp only [D09] at hf
  have hle : xs.length = p.length + (r.length + 1) := by rw [he]; simp
  have hat : xs.getD ((p.length : Nat) : Int).toNat .n = x := by
   rw [he, Int.toNat_natCast, List.getD_eq_getElem?_getD, List.getElem?_append_right (Nat.le_refl _), Nat.sub_self]; rfl
  rw [E2, C4x, B5 (by omega), show B7 ((p.length : Nat) : Int) ((xs.length : Nat) : Int) = true by rw [F8]; simp; omega, cond_true, C1 (by omega) (by omega), hat]
  have e1 : beN (U0 e) (x :: r) = bif sLt x.els (U0 e) then 1 + beN (U0 e) r else 0 := by
   simp only [beN, List.takeWhile_cons]
   cases sLt x.els (U0 e) with
   | true => simp; omega
   | false => rfl
  rw [e1]
  have ih := ih (p ++ [x]) f (by rw [he]; simp) hz (by omega)
  simp only [D03, D1a] at ih
  show (bif sLt x.els (U0 e) then _ else _) = _
  cases sLt x.els (U0 e) with
  | true =>
   rw [cond_true, cond_true, L1 (by omega), ih, Nat.add_assoc]
  | false => rfl
theorem C0i (nm : List V) (xs : List V) : beN nm xs ≤ xs.length := (List.takeWhile_sublist _).length_le
theorem B3n (nm : List V) : ∀ xs : List V, A0k nm xs = if h : beN nm xs < xs.length then (bif F7 (xs[beN nm xs]).els nm then xs else xs.take (beN nm xs) ++ .s nm :: xs.drop (beN nm xs)) else xs ++ [.s nm] := by
 intro xs
 induction xs with
 | nil => rfl
 | cons x r ih =>
  have e1 : beN nm (x :: r) = bif sLt x.els nm then beN nm r + 1 else 0 := by
   simp only [beN, List.takeWhile_cons]
   cases sLt x.els nm <;> rfl
  simp only [A0k]
  cases h : sLt x.els nm with
  | true =>
   rw [cond_true, ih]
   rw [h, cond_true] at e1
   simp only [e1, D09, Nat.add_lt_add_iff_right]
   by_cases hl : beN nm r < r.length
   ·rw [dif_pos hl, dif_pos hl]
    simp only [List.getElem_cons_succ, List.take_succ_cons, List.drop_succ_cons, List.cons_append]
    cases F7 (r[beN nm r]).els nm <;> rfl
   ·rw [dif_neg hl, dif_neg hl]; rfl
  | false =>
   rw [h, cond_false] at e1
   rw [cond_false]
   simp only [e1, D09, Nat.zero_lt_succ, dif_pos, List.getElem_cons_zero, List.take_zero, List.drop_zero, List.nil_append]
theorem A99 (nm : List V) (xs : List V) : (A0k nm xs).length ≤ xs.length + 1 := by
 have h1 := C0i nm xs
 rw [B3n]
 split
 ·cases F7 (xs[beN nm xs]).els nm
  ·simp only [cond_false, D03, List.length_take, D09, List.length_drop]; omega
  ·simp
 ·simp
variable {R : Type}
theorem C8z {l : V} {kx : QNo → Option R} : ∀ (r a xs : List V) (fuel : Nat), l.els = a ++ r → a.length + r.length ≤ 10000 → xs.length ≤ a.length → r.length < fuel →
  E2 (BNo R) fuel (.m xs l (l.els.length : Nat) (a.length : Nat)) kx = kx (.o (E8 xs r) l (l.els.length : Nat) (l.els.length : Nat)) := by
 intro r
 induction r with
 | nil =>
  intro a xs fuel he hz hx hf
  obtain ⟨f, rfl⟩ : ∃ f, fuel = f + 1 := ⟨fuel - 1, by omega⟩
  rw [List.append_nil] at he
  rw [E2, C4y, A2K he, cond_false]
  simp only [E8, List.foldl_nil, he]
 | cons x r ih =>
  intro a xs fuel he hz hx hf
  obtain ⟨f, rfl⟩ : ∃ f, fuel = f + 1 := ⟨fuel - 1, by omega⟩
  simp only [D09] at hz hf
  have hle : l.els.length = a.length + (r.length + 1) := by rw [he]; simp
  have hat : l.nth ((a.length : Nat) : Int).toNat = x := U5 he
  have hq := P6
  have hin := A99 (U0 x) xs
  have ih := ih (a ++ [x]) (A0k (U0 x) xs) f (by rw [he]; simp) (by simp only [D03, D1a]; omega) (by simp only [D03, D1a]; omega) (by omega)
  simp only [D03, D1a] at ih
  rw [E2, C4y, A2J he, cond_true, C1 (by omega) (by omega), hat]
  have hni := C8y (R := R) (e := x) (l := l) (n := (l.els.length : Nat)) (i := (a.length : Nat)) (xs := xs) (kx := fun q => match q with
   | .o xs1 e1 a1 l1 n1 i1 =>
   ln xs1.length <|
   bif G5 a1 (xs1.length : Nat) then
   bif ((C2 0 a1) && (C2 a1 (xs1.length : Nat))) && (C2 (xs1.length : Nat) (xs1.length : Nat)) then
   bif Nat.ble ((0 + a1.toNat) + (((xs1.length : Nat) - a1)).toNat) xs1.length then
   R9 (((List.replicate 0 (V.s []))).length + ((List.take ((((xs1.length : Nat) - a1)).toNat) (List.drop (0 + a1.toNat) xs1))).length) <|
   bif G5 a1 a1 then
   bif ((C2 0 (0 : Nat)) && (C2 (0 : Nat) a1)) && (C2 a1 (xs1.length : Nat)) then
   R9 (((List.take (((a1 - (0 : Nat))).toNat) (List.drop 0 xs1))).length + ([(V.s (((V.nth e1 0)).els))]).length) <|
   R9 ((((List.take (((a1 - (0 : Nat))).toNat) (List.drop 0 xs1)) ++ [(V.s (((V.nth e1 0)).els))])).length + (((List.replicate 0 (V.s [])) ++ (List.take ((((xs1.length : Nat) - a1)).toNat) (List.drop (0 + a1.toNat) xs1)))).length) <|
   E2 (BNo R) f (.m (((List.take (((a1 - (0 : Nat))).toNat) (List.drop 0 xs1)) ++ [(V.s (((V.nth e1 0)).els))]) ++ ((List.replicate 0 (V.s [])) ++ (List.take ((((xs1.length : Nat) - a1)).toNat) (List.drop (0 + a1.toNat) xs1)))) l1 n1 (C6 (i1 + 1))) kx
   else
   none
   else
   none
   else
   none
   else
   none
   else
   ck a1 xs1.length <|
   bif !(F7 (((List.getD xs1 a1.toNat .n)).els) (((V.nth e1 0)).els)) then
   bif ((C2 0 a1) && (C2 a1 (xs1.length : Nat))) && (C2 (xs1.length : Nat) (xs1.length : Nat)) then
   bif Nat.ble ((0 + a1.toNat) + (((xs1.length : Nat) - a1)).toNat) xs1.length then
   R9 (((List.replicate 0 (V.s []))).length + ((List.take ((((xs1.length : Nat) - a1)).toNat) (List.drop (0 + a1.toNat) xs1))).length) <|
   bif G5 a1 a1 then
   bif ((C2 0 (0 : Nat)) && (C2 (0 : Nat) a1)) && (C2 a1 (xs1.length : Nat)) then
   R9 (((List.take (((a1 - (0 : Nat))).toNat) (List.drop 0 xs1))).length + ([(V.s (((V.nth e1 0)).els))]).length) <|
   R9 ((((List.take (((a1 - (0 : Nat))).toNat) (List.drop 0 xs1)) ++ [(V.s (((V.nth e1 0)).els))])).length + (((List.replicate 0 (V.s [])) ++ (List.take ((((xs1.length : Nat) - a1)).toNat) (List.drop (0 + a1.toNat) xs1)))).length) <|
   E2 (BNo R) f (.m (((List.take (((a1 - (0 : Nat))).toNat) (List.drop 0 xs1)) ++ [(V.s (((V.nth e1 0)).els))]) ++ ((List.replicate 0 (V.s [])) ++ (List.take ((((xs1.length : Nat) - a1)).toNat) (List.drop (0 + a1.toNat) xs1)))) l1 n1 (C6 (i1 + 1))) kx
   else
   none
   else
   none
   else
   none
   else
   none
   else
   E2 (BNo R) f (.m xs1 l1 n1 (C6 (i1 + 1))) kx) xs [] (A2 FU) rfl (by omega) (by omega)
  refine hni.trans ?_
  clear hni
  simp only [List.length_nil, Nat.zero_add]
  have hb := C0i (U0 x) xs
  have e1 : E8 xs (x :: r) = E8 (A0k (U0 x) xs) r := rfl
  rw [e1]
  refine Eq.trans ?_ ih
  clear ih
  have hio := B3n (U0 x) xs
  generalize hbe : beN (U0 x) xs = b at hb hio
  have c1 : ((b : Nat) : Int).toNat = b := by omega
  have c2 : (((xs.length : Nat) : Int) - ((b : Nat) : Int)).toNat = xs.length - b := by omega
  have c3 : ((((b : Nat) : Int) - ((0 : Nat) : Int))).toNat = b := by omega
  have d1 : ((C2 0 ((b : Nat) : Int) && C2 ((b : Nat) : Int) ((xs.length : Nat) : Int)) && C2 ((xs.length : Nat) : Int) ((xs.length : Nat) : Int)) = true := by simp only [P0, D02, D1d]; omega
  have d2 : ((C2 0 ((0 : Nat) : Int) && C2 ((0 : Nat) : Int) ((b : Nat) : Int)) && C2 ((b : Nat) : Int) ((xs.length : Nat) : Int)) = true := by simp only [P0, D02, D1d]; omega
  have d3 : Nat.ble (b + (xs.length - b)) xs.length = true := D1b (by omega)
  have d4 : G5 ((b : Nat) : Int) ((b : Nat) : Int) = true := by rw [H7]
  have tk : List.take (xs.length - b) (List.drop b xs) = List.drop b xs := List.take_of_length_le (by simp)
  have fin : (((List.take b (List.drop 0 xs)) ++ [V.s (U0 x)]) ++ ((List.replicate 0 (V.s [])) ++ List.drop b xs)) = List.take b xs ++ .s (U0 x) :: List.drop b xs := by simp
  simp only [c1, c2, c3, d1, d2, d3, d4, tk, cond_true]
  rw [B5 (by omega)]
  have l1 : ((List.replicate 0 (V.s [])).length + (List.drop b xs).length) ≤ 1073741824 := by simp; omega
  have l2 : ((List.take b (List.drop 0 xs)).length + [V.s (U0 x)].length) ≤ 1073741824 := by simp; omega
  have l3 : (((List.take b (List.drop 0 xs) ++ [V.s (U0 x)])).length + ((List.replicate 0 (V.s []) ++ List.drop b xs)).length) ≤ 1073741824 := by simp; omega
  rw [D1 l1, D1 l2, D1 l3, fin, L1 (by omega)]
  by_cases hbl : b < xs.length
  ·rw [dif_pos hbl] at hio
   rw [show G5 ((b : Nat) : Int) ((xs.length : Nat) : Int) = false by rw [← Bool.not_eq_true, H7]; omega, cond_false, C1 (by omega) (by omega)]
   have hg : List.getD xs b .n = xs[b] := by
    rw [List.getD_eq_getElem?_getD, D1e hbl]; rfl
   rw [hg]
   rw [hio]
   cases F7 (xs[b]).els (U0 x) <;> rfl
  ·rw [dif_neg hbl] at hio
   have hbe : b = xs.length := by omega
   subst hbe
   rw [show G5 ((xs.length : Nat) : Int) ((xs.length : Nat) : Int) = true by rw [H7], cond_true, hio]
   simp
def nmg : List V → Bool
 | [l] => Nat.ble l.els.length 10000
 | _ => false
def nmr (t : Nat) : List V → List Rs
 | [l] => [.r t (E8 [] l.els) false]
 | _ => []
def noG (t : Nat) (l : V) : Option (List Rs) := ln l.els.length <| E2 (BNo (List Rs)) (A2 FU) (.m (List.replicate 0 (V.s [])) l (l.els.length : Nat) 0) fun q => match q with
 | .o xs1 l1 n1 i1 => some [.r t xs1 false]
theorem C31 {t : Nat} {l : V} (hg : nmg [l] = true) : noG t l = some (nmr t [l]) := by
 have hg : Nat.ble l.els.length 10000 = true := hg
 simp only [Nat.ble_eq] at hg
 have hq := P6
 unfold noG
 rw [B5 (by omega)]
 exact C8z (l := l) (kx := fun q => match q with | .o xs1 l1 n1 i1 => some [Rs.r t xs1 false]) l.els [] [] (A2 FU) rfl (by simpa using hg) (by simp) (by omega)
def hig : List V → Bool
 | [l, n] => Nat.ble l.els.length 10000
 | _ => false
def hir (t : Nat) : List V → List Rs
 | [l, n] => [.r t (C9 n.els l.els) false]
 | _ => []
def hiG (t : Nat) (z l : V) (n : List V) : Option (List Rs) := ln l.els.length <| E2 (BHn (List Rs)) (A2 FU) (.m n l (List.replicate 0 z) (l.els.length : Nat) 0) fun q => match q with
 | .o nm1 l1 xs1 n1 i1 => some [.r t xs1 false]
theorem C32 {t : Nat} {z l : V} {n : List V} (hg : hig [l, .s n] = true) : hiG t z l n = some (hir t [l, .s n]) := by
 have hg : Nat.ble l.els.length 10000 = true := hg
 simp only [Nat.ble_eq] at hg
 have hq := P6
 unfold hiG
 rw [B5 (by omega)]
 exact C8x (l := l) (kx := fun q => match q with | .o nm1 l1 xs1 n1 i1 => some [Rs.r t xs1 false]) l.els [] [] (A2 FU) rfl (by simp; omega) (by simp) (by omega)
def noE : V := .l [.s [], .s [], .i 0, .l [.l (List.replicate 32 (.i 0)), .i 0]]
def lsV (xs : List V) : V := xs.getD (C6 ((xs.length : Nat) - 1)).toNat .n
def T7 (n : List V) (l : V) (h : Int) : Bool := !(G5 ((C9 n l.els).length : Nat) 0 || C2 (C6 (((lsV (C9 n l.els)).nth 2).int + 8)) h)
def A0j (n : List V) (l : V) (h : Int) : V := bif T7 n l h then lsV (C9 n l.els) else noE
def lig : List V → Bool
 | [l, n, h] => Nat.ble l.els.length 10000
 | _ => false
def lir (t b : Nat) : List V → List Rs
 | [l, n, h] => [.d t (A0j n.els l h.int), .d b (.b (T7 n.els l h.int))]
 | _ => []
def liG (t b : Nat) (l : V) (n : List V) (h : Int) : Option (List Rs) :=
 bif Nat.ble l.els.length 10000 then ln (C9 n l.els).length <|
  bif G5 ((C9 n l.els).length : Nat) 0 then some [.d t noE, .d b (.b false)] else
  ln (C9 n l.els).length <| ck (C6 ((C9 n l.els).length - 1)) (C9 n l.els).length <|
  bif C2 (C6 (((lsV (C9 n l.els)).nth 2).int + 8)) h then some [.d t noE, .d b (.b false)] else
  ln (C9 n l.els).length <| ck (C6 ((C9 n l.els).length - 1)) (C9 n l.els).length <| some [.d t (lsV (C9 n l.els)), .d b (.b true)] else none
theorem C33 {t b : Nat} {l : V} {n : List V} {h : Int} (hg : lig [l, .s n, .i h] = true) : liG t b l n h = some (lir t b [l, .s n, .i h]) := by
 have hg : Nat.ble l.els.length 10000 = true := hg
 have hl : (C9 n l.els).length ≤ l.els.length := List.length_filter_le _ _
 have g := D07 hg
 unfold liG
 rw [hg, cond_true, B5 (by omega), B5 (by omega), B5 (by omega)]
 show _ = some [Rs.d t (A0j n l h), .d b (.b (T7 n l h))]
 unfold A0j T7
 cases h1 : G5 ((C9 n l.els).length : Nat) 0 with
 | true => rfl
 | false =>
  have : (C9 n l.els).length ≠ 0 := fun q => by
   have : G5 ((C9 n l.els).length : Nat) 0 = true := by rw [H7, q]; rfl
   rw [this] at h1; cases h1
  rw [cond_false, F0 (by omega) (by omega), C1 (by omega) (by omega), C1 (by omega) (by omega)]
  cases C2 (C6 (((lsV (C9 n l.els)).nth 2).int + 8)) h <;> rfl
def A3C (l : V) : Bool := !(G5 (l.els.length : Nat) 0)
def A1T (l : V) : V := bif A3C l then V.nth l (C6 ((l.els.length : Nat) - 1)).toNat else noE
def leg : List V → Bool
 | [l] => Nat.ble l.els.length 10000
 | _ => false
def ler (t b : Nat) : List V → List Rs
 | [l] => [.d t (A1T l), .d b (.b (A3C l))]
 | _ => []
def leG (t b : Nat) (l : V) : Option (List Rs) := ln l.els.length <| bif G5 (l.els.length : Nat) 0 then some [.d t noE, .d b (.b false)] else ln l.els.length <| ck (C6 ((l.els.length : Nat) - 1)) l.els.length <| some [.d t (V.nth l (C6 ((l.els.length : Nat) - 1)).toNat), .d b (.b true)]
theorem C34 {t b : Nat} {l : V} (hg : leg [l] = true) : leG t b l = some (ler t b [l]) := by
 have hg : Nat.ble l.els.length 10000 = true := hg
 simp only [Nat.ble_eq] at hg
 unfold leG
 rw [B5 (by omega), B5 (by omega)]
 show _ = some [Rs.d t (A1T l), .d b (.b (A3C l))]
 unfold A1T A3C
 cases h : G5 (l.els.length : Nat) 0 with
 | true => rfl
 | false =>
  have : l.els.length ≠ 0 := fun q => by
   have : G5 (l.els.length : Nat) 0 = true := by rw [H7, q]; rfl
   rw [this] at h; cases h
  rw [cond_false, F0 (by omega) (by omega), C1 (by omega) (by omega)]; rfl
def lvr (b : Nat) : List V → List Rs
 | [e, h] => [.d b (.b (B7 (C6 (h.int - (e.nth 2).int)) 8))]
 | _ => []
def clg : List V → Bool
 | [l] => Nat.ble l.els.length 10000
 | _ => false
def clr (t : Nat) : List V → List Rs
 | [l] => [.r t l.els (isN l)]
 | _ => []
variable {T : TT} {P : Program}
def A4h (g st : Nat) : E7 := fun R args of nx k =>
 match args with
 | [.f g' [.p ib tb []]] => bif Nat.beq g g' then (match of ib with
  | some (.box tb' (.m mid) _) => match of mid with
   | some o => match B2w o with
    | some (kt, es) => bif Nat.beq kt st && (okK es && Nat.ble es.length 1000000) then k ⟨.o nx 1, [(nx, .row st 1 (X9 (es.map (·.1))) (X9 (es.map (·.1))).isEmpty false)], [ib, mid], nx + 1⟩ else none
    | none => none
   | _ => none
  | _ => none) else none
 | _ => none
theorem A7S (g st : Nat) (R : Type) (args : List A) (of : Nat → Option Ob) (nx : Nat) (k : V9 → Option R) : A4h g st R args of nx k = ob (A4n g st args of nx) k := by
 unfold A4h
 split
 ·rename_i g' ib tb
  simp only [A4n]
  cases Nat.beq g g' with
  | false => rfl
  | true =>
   simp only [cond_true]
   cases of ib with
   | none => rfl
   | some o => cases o with
    | box tb' a sh => cases a with
     | m mid =>
      simp only
      cases of mid with
      | none => rfl
      | some o =>
       simp only
       cases B2w o with
       | none => rfl
       | some p =>
        obtain ⟨kt, es⟩ := p
        simp only [A4N]
        cases (Nat.beq kt st && (okK es && Nat.ble es.length 1000000)) <;> rfl
     | _ => rfl
    | _ => rfl
 ·rename_i h
  unfold A4n
  split
  ·rename_i g' ib tb; exact absurd rfl (h _ _ _)
  ·rfl
theorem A6R (g st : Nat) : (A4h g st).dir = A4n g st := by
 funext args of nx
 show A4h g st V9 args of nx some = _
 rw [A7S]
 cases A4n g st args of nx <;> rfl
theorem B1Z (g st : Nat) : (A4h g st).nat := by
 intro R args of nx k
 rw [A6R, A7S]
inductive PSr where
 | m (l : V) (fr : List V) (m : Int) (h : Int) (xs : List V) (ks : List V) (nk : Bool) (n : Int) (i : Int)
inductive QSr where
 | o (l : V) (fr : List V) (m : Int) (h : Int) (xs : List V) (ks : List V) (nk : Bool) (n : Int) (i : Int)
def BSr (R : Type) (p : PSr) (K : PSr → Option R) (kx : QSr → Option R) : Option R :=
 match p with
 | .m l fr m h xs ks nk n i =>
  bif B7 i n then
   ck i ks.length <|
   bif Nat.ble ((l.els).length) 10000 then
   bif T7 (((List.getD ks i.toNat .n)).els) l h then
   bif sLt (((List.getD ks i.toNat .n)).els) fr then
   K (.m l fr m h xs ks nk n (C6 (i + 1)))
   else
   ln xs.length <|
   bif B7 (xs.length : Nat) m then
   R9 (xs.length + ([(A0j (((List.getD ks i.toNat .n)).els) l h)]).length) <|
   K (.m l fr m h (xs ++ [(A0j (((List.getD ks i.toNat .n)).els) l h)]) ks nk n (C6 (i + 1)))
   else
   K (.m l fr m h xs ks nk n (C6 (i + 1)))
   else
   K (.m l fr m h xs ks nk n (C6 (i + 1)))
   else
   none
   else
   kx (.o l fr m h xs ks nk n i)
abbrev C49 := @BSr.eq_1
inductive PEr where
 | m (l : V) (h : Int) (xs : List V) (ks : List V) (nk : Bool) (n : Int) (i : Int)
inductive QEr where
 | o (l : V) (h : Int) (xs : List V) (ks : List V) (nk : Bool) (n : Int) (i : Int)
def BEr (R : Type) (p : PEr) (K : PEr → Option R) (kx : QEr → Option R) : Option R :=
 match p with
 | .m l h xs ks nk n i =>
  bif B7 i n then
   ck i ks.length <|
   bif Nat.ble ((l.els).length) 10000 then
   ln (((C9 (((List.getD ks i.toNat .n)).els) l.els)).length) <|
   ck (C6 ((((C9 (((List.getD ks i.toNat .n)).els) l.els)).length : Nat) - 1)) (((C9 (((List.getD ks i.toNat .n)).els) l.els)).length) <|
   bif G5 (C6 (((V.nth (List.getD (C9 (((List.getD ks i.toNat .n)).els) l.els) (((C6 ((((C9 (((List.getD ks i.toNat .n)).els) l.els)).length : Nat) - 1))).toNat) .n) 2)).int + 8)) h then
   R9 (xs.length + ([(V.s (((List.getD ks i.toNat .n)).els))]).length) <|
   K (.m l h (xs ++ [(V.s (((List.getD ks i.toNat .n)).els))]) ks nk n (C6 (i + 1)))
   else
   K (.m l h xs ks nk n (C6 (i + 1)))
   else
   none
   else
   kx (.o l h xs ks nk n i)
abbrev C5a := @BEr.eq_1
inductive PAr where
 | m (l : V) (xs : List V) (ks : List V) (nk : Bool) (n : Int) (i : Int)
inductive QAr where
 | o (l : V) (xs : List V) (ks : List V) (nk : Bool) (n : Int) (i : Int)
def BAr (R : Type) (p : PAr) (K : PAr → Option R) (kx : QAr → Option R) : Option R :=
 match p with
 | .m l xs ks nk n i =>
  bif B7 i n then
   ck i ks.length <|
   bif Nat.ble ((l.els).length) 10000 then
   R9 (xs.length + ((C9 (((List.getD ks i.toNat .n)).els) l.els)).length) <|
   K (.m l (xs ++ (C9 (((List.getD ks i.toNat .n)).els) l.els)) ks nk n (C6 (i + 1)))
   else
   none
   else
   kx (.o l xs ks nk n i)
abbrev C5b := @BAr.eq_1
inductive PSw where
 | m (es : List (V × V × Bool)) (fr : List V) (m : Int) (h : Int) (xs : List V) (nl : Bool) (ks : List V) (nk : Bool) (n : Int) (i : Int)
inductive QSw where
 | o (es : List (V × V × Bool)) (fr : List V) (m : Int) (h : Int) (xs : List V) (nl : Bool) (ks : List V) (nk : Bool) (n : Int) (i : Int)
def BSw (R : Type) (p : PSw) (K : PSw → Option R) (kx : QSw → Option R) : Option R :=
 match p with
 | .m es fr m h xs nl ks nk n i =>
  bif B7 i n then
   ck i ks.length <|
   ln xs.length <|
   bif C2 m (xs.length : Nat) then
   kx (.o es fr m h xs nl ks nk n i)
   else
   bif M8 (.s (((List.getD ks i.toNat .n)).els)) es then
   bif Nat.ble ((((Q9 (.s (((List.getD ks i.toNat .n)).els)) es)).els).length) 10000 then
   bif A3C (Q9 (.s (((List.getD ks i.toNat .n)).els)) es) then
   bif B7 (C6 (h - ((V.nth (A1T (Q9 (.s (((List.getD ks i.toNat .n)).els)) es)) 2)).int)) 8 then
   bif !(sLt (((List.getD ks i.toNat .n)).els) fr) then
   R9 (xs.length + ([(A1T (Q9 (.s (((List.getD ks i.toNat .n)).els)) es))]).length) <|
   K (.m es fr m h (xs ++ [(A1T (Q9 (.s (((List.getD ks i.toNat .n)).els)) es))]) (nl && ([(A1T (Q9 (.s (((List.getD ks i.toNat .n)).els)) es))]).isEmpty) ks nk n (C6 (i + 1)))
   else
   K (.m es fr m h xs nl ks nk n (C6 (i + 1)))
   else
   K (.m es fr m h xs nl ks nk n (C6 (i + 1)))
   else
   K (.m es fr m h xs nl ks nk n (C6 (i + 1)))
   else
   none
   else
   K (.m es fr m h xs nl ks nk n (C6 (i + 1)))
   else
   kx (.o es fr m h xs nl ks nk n i)
inductive PEw where
 | m (es : List (V × V × Bool)) (h : Int) (xs : List V) (nl : Bool) (ks : List V) (nk : Bool) (n : Int) (i : Int)
inductive QEw where
 | o (es : List (V × V × Bool)) (h : Int) (xs : List V) (nl : Bool) (ks : List V) (nk : Bool) (n : Int) (i : Int)
def BEw (R : Type) (p : PEw) (K : PEw → Option R) (kx : QEw → Option R) : Option R :=
 match p with
 | .m es h xs nl ks nk n i =>
  bif B7 i n then
   ck i ks.length <|
   bif M8 (.s (((List.getD ks i.toNat .n)).els)) es then
   bif Nat.ble ((((Q9 (.s (((List.getD ks i.toNat .n)).els)) es)).els).length) 10000 then
   bif A3C (Q9 (.s (((List.getD ks i.toNat .n)).els)) es) then
   bif G5 (C6 (((V.nth (A1T (Q9 (.s (((List.getD ks i.toNat .n)).els)) es)) 2)).int + 8)) h then
   R9 (xs.length + ([(V.s (((List.getD ks i.toNat .n)).els))]).length) <|
   K (.m es h (xs ++ [(V.s (((List.getD ks i.toNat .n)).els))]) (nl && ([(V.s (((List.getD ks i.toNat .n)).els))]).isEmpty) ks nk n (C6 (i + 1)))
   else
   K (.m es h xs nl ks nk n (C6 (i + 1)))
   else
   K (.m es h xs nl ks nk n (C6 (i + 1)))
   else
   none
   else
   K (.m es h xs nl ks nk n (C6 (i + 1)))
   else
   kx (.o es h xs nl ks nk n i)
inductive PAw where
 | m (es : List (V × V × Bool)) (xs : List V) (nl : Bool) (ks : List V) (nk : Bool) (n : Int) (i : Int)
inductive QAw where
 | o (es : List (V × V × Bool)) (xs : List V) (nl : Bool) (ks : List V) (nk : Bool) (n : Int) (i : Int)
def BAw (R : Type) (p : PAw) (K : PAw → Option R) (kx : QAw → Option R) : Option R :=
 match p with
 | .m es xs nl ks nk n i =>
  bif B7 i n then
   ck i ks.length <|
   bif M8 (.s (((List.getD ks i.toNat .n)).els)) es then
   R9 (xs.length + (((Q9 (.s (((List.getD ks i.toNat .n)).els)) es)).els).length) <|
   K (.m es (xs ++ ((Q9 (.s (((List.getD ks i.toNat .n)).els)) es)).els) (nl && (((Q9 (.s (((List.getD ks i.toNat .n)).els)) es)).els).isEmpty) ks nk n (C6 (i + 1)))
   else
   R9 (xs.length + (([] : List V)).length) <|
   K (.m es (xs ++ ([] : List V)) (nl && (([] : List V)).isEmpty) ks nk n (C6 (i + 1)))
   else
   kx (.o es xs nl ks nk n i)
abbrev C5c := @BAw.eq_1
variable {R : Type}
theorem A0y : ∀ (l xs : List V), (E8 xs l).length ≤ xs.length + l.length := by
 intro l
 induction l with
 | nil => intro xs; exact Nat.le_refl _
 | cons e r ih =>
  intro xs
  have h1 := ih (A0k (U0 e) xs)
  have h2 := A99 (U0 e) xs
  show (E8 (A0k (U0 e) xs) r).length ≤ _
  simp only [D09]; omega
theorem A4i {x : V} : ∀ {l xs : List V}, x ∈ E8 xs l → x ∈ xs ∨ ∃ e ∈ l, x = .s (U0 e) := by
 intro l
 induction l with
 | nil => intro xs h; exact .inl h
 | cons e r ih =>
  intro xs h
  rcases ih (show x ∈ E8 (A0k (U0 e) xs) r from h) with h | ⟨e', h1, h2⟩
  ·rcases A5g h with rfl | h
   ·exact .inr ⟨e, by simp, rfl⟩
   ·exact .inl h
  ·exact .inr ⟨e', by simp [h1], h2⟩
theorem C0j : ∀ {l xs : List V}, StS xs → (∀ e ∈ l, A4y (U0 e)) → StS (E8 xs l) := by
 intro l
 induction l with
 | nil => intro xs h _; exact h
 | cons e r ih => intro xs h hn; exact ih (xs := A0k (U0 e) xs) (C0B (hn e (by simp)) h) (fun x hx => hn x (by simp [hx]))
theorem B10 {k : V} {l : List V} (h : k ∈ E8 [] l) : C9 k.els l ≠ [] := by
 rcases A4i h with h | ⟨e, he, rfl⟩
 ·cases h
 ·intro q
  have : e ∈ C9 (U0 e) l := List.mem_filter.2 ⟨he, (L0 _ _).2 rfl⟩
  rw [show (V.s (U0 e)).els = U0 e from rfl] at q
  rw [q] at this; cases this
theorem B3o {ks a r : List V} {k : V} (h : ks = a ++ k :: r) : List.getD ks ((a.length : Nat) : Int).toNat .n = k := by
 rw [h, Int.toNat_natCast, List.getD_eq_getElem?_getD, List.getElem?_append_right (Nat.le_refl _), Nat.sub_self]; rfl
theorem C35 {ks a r : List V} {k : V} (h : ks = a ++ k :: r) : B7 ((a.length : Nat) : Int) ((ks.length : Nat) : Int) = true := by rw [h, F8]; simp; omega
theorem C36 (n : Nat) : B7 (n : Int) (n : Int) = false := by rw [F8]; simp
def B0a (fr : List V) (m : Int) (l : V) (h : Int) : List V → List V → List V
 | [], xs => xs
 | k :: r, xs => B0a fr m l h r (bif T7 k.els l h && (!(sLt k.els fr) && B7 (xs.length : Nat) m) then xs ++ [A0j k.els l h] else xs)
theorem C8A {l : V} {fr : List V} {m h : Int} {nk : Bool} {ks : List V} {kx : QSr → Option R} (hl : l.els.length ≤ 10000) : ∀ (r a xs : List V) (fuel : Nat), ks = a ++ r → ks.length ≤ 10000 → xs.length ≤ a.length → r.length < fuel →
  E2 (BSr R) fuel (.m l fr m h xs ks nk (ks.length : Nat) (a.length : Nat)) kx = kx (.o l fr m h (B0a fr m l h r xs) ks nk (ks.length : Nat) (ks.length : Nat)) := by
 have hlb : Nat.ble l.els.length 10000 = true := D1b hl
 intro r
 induction r with
 | nil =>
  intro a xs fuel he hz hx hf
  obtain ⟨f, rfl⟩ : ∃ f, fuel = f + 1 := ⟨fuel - 1, by omega⟩
  rw [List.append_nil] at he
  subst he
  rw [E2, C49, C36, cond_false]; rfl
 | cons k r ih =>
  intro a xs fuel he hz hx hf
  obtain ⟨f, rfl⟩ : ∃ f, fuel = f + 1 := ⟨fuel - 1, by omega⟩
  simp only [D09] at hf
  have hle : ks.length = a.length + (r.length + 1) := by rw [he]; simp
  have nx : ∀ ys : List V, ys.length ≤ a.length + 1 → E2 (BSr R) f (.m l fr m h ys ks nk (ks.length : Nat) (C6 ((a.length : Nat) + 1))) kx = kx (.o l fr m h (B0a fr m l h r ys) ks nk (ks.length : Nat) (ks.length : Nat)) := by
   intro ys hy
   have ih := ih (a ++ [k]) ys f (by rw [he]; simp) hz (by simpa using hy) (by omega)
   simp only [D03, D1a] at ih
   rw [L1 (by omega)]
   exact ih
  rw [E2, C49, C35 he, cond_true, C1 (by omega) (by omega), hlb, cond_true, B3o he]
  simp only [B0a]
  cases T7 k.els l h with
  | false => exact nx xs (by omega)
  | true =>
   rw [cond_true, Bool.true_and]
   cases sLt k.els fr with
   | true => exact nx xs (by omega)
   | false =>
    rw [cond_false, Bool.not_false, Bool.true_and, B5 (by omega)]
    cases B7 (xs.length : Nat) m with
    | false => exact nx xs (by omega)
    | true =>
     rw [cond_true, cond_true, D1 (by simp only [D1a]; omega)]
     exact nx _ (by simp; omega)
def B0b (l : V) (h : Int) : List V → List V → List V
 | [], xs => xs
 | k :: r, xs => B0b l h r (bif G5 (C6 (((lsV (C9 k.els l.els)).nth 2).int + 8)) h then xs ++ [.s k.els] else xs)
theorem C8B {l : V} {h : Int} {nk : Bool} {ks : List V} {kx : QEr → Option R} (hl : l.els.length ≤ 10000) (hk : ∀ k ∈ ks, C9 k.els l.els ≠ []) : ∀ (r a xs : List V) (fuel : Nat), ks = a ++ r → ks.length ≤ 10000 → xs.length ≤ a.length → r.length < fuel →
  E2 (BEr R) fuel (.m l h xs ks nk (ks.length : Nat) (a.length : Nat)) kx = kx (.o l h (B0b l h r xs) ks nk (ks.length : Nat) (ks.length : Nat)) := by
 have hlb : Nat.ble l.els.length 10000 = true := D1b hl
 intro r
 induction r with
 | nil =>
  intro a xs fuel he hz hx hf
  obtain ⟨f, rfl⟩ : ∃ f, fuel = f + 1 := ⟨fuel - 1, by omega⟩
  rw [List.append_nil] at he
  subst he
  rw [E2, C5a, C36, cond_false]; rfl
 | cons k r ih =>
  intro a xs fuel he hz hx hf
  obtain ⟨f, rfl⟩ : ∃ f, fuel = f + 1 := ⟨fuel - 1, by omega⟩
  simp only [D09] at hf
  have hle : ks.length = a.length + (r.length + 1) := by rw [he]; simp
  have nx : ∀ ys : List V, ys.length ≤ a.length + 1 → E2 (BEr R) f (.m l h ys ks nk (ks.length : Nat) (C6 ((a.length : Nat) + 1))) kx = kx (.o l h (B0b l h r ys) ks nk (ks.length : Nat) (ks.length : Nat)) := by
   intro ys hy
   have ih := ih (a ++ [k]) ys f (by rw [he]; simp) hz (by simpa using hy) (by omega)
   simp only [D03, D1a] at ih
   rw [L1 (by omega)]
   exact ih
  have hh : (C9 k.els l.els).length ≤ l.els.length := List.length_filter_le _ _
  have h0 : 0 < (C9 k.els l.els).length := List.length_pos_iff.2 (hk k (by rw [he]; simp))
  have hw : C6 (((C9 k.els l.els).length : Nat) - 1) = (((C9 k.els l.els).length : Nat) : Int) - 1 := F0 (by omega) (by omega)
  rw [E2, C5a, C35 he, cond_true, C1 (by omega) (by omega), hlb, cond_true, B3o he, B5 (by omega), C1 (by rw [hw]; omega) (by rw [hw]; omega)]
  show (bif G5 (C6 (((lsV (C9 k.els l.els)).nth 2).int + 8)) h then _ else _) = kx (.o l h (B0b l h r (bif G5 (C6 (((lsV (C9 k.els l.els)).nth 2).int + 8)) h then xs ++ [.s k.els] else xs)) ks nk (ks.length : Nat) (ks.length : Nat))
  cases G5 (C6 (((lsV (C9 k.els l.els)).nth 2).int + 8)) h with
  | false => exact nx xs (by omega)
  | true =>
   rw [cond_true, cond_true, D1 (by simp only [D1a]; omega)]
   exact nx _ (by simp; omega)
def A3D (l : List V) : List V → List V → List V
 | [], xs => xs
 | k :: r, xs => A3D l r (xs ++ C9 k.els l)
theorem C8C {l : V} {nk : Bool} {ks : List V} {kx : QAr → Option R} (hl : l.els.length ≤ 10000) : ∀ (r a xs : List V) (fuel : Nat), ks = a ++ r → ks.length ≤ 10000 → xs.length ≤ a.length * 10000 → r.length < fuel →
  E2 (BAr R) fuel (.m l xs ks nk (ks.length : Nat) (a.length : Nat)) kx = kx (.o l (A3D l.els r xs) ks nk (ks.length : Nat) (ks.length : Nat)) := by
 have hlb : Nat.ble l.els.length 10000 = true := D1b hl
 intro r
 induction r with
 | nil =>
  intro a xs fuel he hz hx hf
  obtain ⟨f, rfl⟩ : ∃ f, fuel = f + 1 := ⟨fuel - 1, by omega⟩
  rw [List.append_nil] at he
  subst he
  rw [E2, C5b, C36, cond_false]; rfl
 | cons k r ih =>
  intro a xs fuel he hz hx hf
  obtain ⟨f, rfl⟩ : ∃ f, fuel = f + 1 := ⟨fuel - 1, by omega⟩
  simp only [D09] at hf
  have hle : ks.length = a.length + (r.length + 1) := by rw [he]; simp
  have hh : (C9 k.els l.els).length ≤ l.els.length := List.length_filter_le _ _
  have ih := ih (a ++ [k]) (xs ++ C9 k.els l.els) f (by rw [he]; simp) hz (by simp only [D03, D1a]; omega) (by omega)
  simp only [D03, D1a] at ih
  rw [E2, C5b, C35 he, cond_true, C1 (by omega) (by omega), hlb, cond_true, B3o he, D1 (by omega), L1 (by omega)]
  exact ih
def scg : List V → Bool
 | [l, f, m, h] => Nat.ble l.els.length 10000
 | _ => false
def scr (t : Nat) : List V → List Rs
 | [l, f, m, h] => [.r t (B0a f.els m.int l h.int (E8 [] l.els) []) false]
 | _ => []
def scG (t : Nat) (z l : V) (fr : List V) (m h : Int) : Option (List Rs) := bif Nat.ble l.els.length 10000 then ln (E8 [] l.els).length <| E2 (BSr (List Rs)) (A2 FU) (.m l fr m h (List.replicate 0 z) (E8 [] l.els) false ((E8 [] l.els).length : Nat) 0) fun q => match q with
 | .o l1 fr1 m1 h1 xs1 ks1 nk1 n1 i1 => some [.r t xs1 false] else none
theorem C37 {t : Nat} {z l : V} {fr : List V} {m h : Int} (hg : scg [l, .s fr, .i m, .i h] = true) : scG t z l fr m h = some (scr t [l, .s fr, .i m, .i h]) := by
 have hg : Nat.ble l.els.length 10000 = true := hg
 have g := D07 hg
 have hq := P6
 have hn := A0y l.els []
 simp only [List.length_nil, Nat.zero_add] at hn
 unfold scG
 rw [hg, cond_true, B5 (by omega)]
 exact C8A (kx := fun q => match q with | .o l1 fr1 m1 h1 xs1 ks1 nk1 n1 i1 => some [Rs.r t xs1 false]) g (E8 [] l.els) [] [] (A2 FU) rfl (by omega) (by simp) (by omega)
def edg : List V → Bool
 | [l, h] => Nat.ble l.els.length 10000
 | _ => false
def edr (t : Nat) : List V → List Rs
 | [l, h] => [.r t (B0b l h.int (E8 [] l.els) []) false]
 | _ => []
def edG (t : Nat) (l : V) (h : Int) : Option (List Rs) := bif Nat.ble l.els.length 10000 then ln (E8 [] l.els).length <| E2 (BEr (List Rs)) (A2 FU) (.m l h (List.replicate 0 (V.s [])) (E8 [] l.els) false ((E8 [] l.els).length : Nat) 0) fun q => match q with
 | .o l1 h1 xs1 ks1 nk1 n1 i1 => some [.r t xs1 false] else none
theorem C38 {t : Nat} {l : V} {h : Int} (hg : edg [l, .i h] = true) : edG t l h = some (edr t [l, .i h]) := by
 have hg : Nat.ble l.els.length 10000 = true := hg
 have g := D07 hg
 have hq := P6
 have hn := A0y l.els []
 simp only [List.length_nil, Nat.zero_add] at hn
 unfold edG
 rw [hg, cond_true, B5 (by omega)]
 exact C8B (kx := fun q => match q with | .o l1 h1 xs1 ks1 nk1 n1 i1 => some [Rs.r t xs1 false]) g (fun k hk => B10 hk) (E8 [] l.els) [] [] (A2 FU) rfl (by omega) (by simp) (by omega)
def alg : List V → Bool
 | [l] => Nat.ble l.els.length 10000
 | _ => false
def alr (t : Nat) : List V → List Rs
 | [l] => [.r t (A3D l.els (E8 [] l.els) []) false]
 | _ => []
def alG (t : Nat) (z l : V) : Option (List Rs) := bif Nat.ble l.els.length 10000 then ln (E8 [] l.els).length <| E2 (BAr (List Rs)) (A2 FU) (.m l (List.replicate 0 z) (E8 [] l.els) false ((E8 [] l.els).length : Nat) 0) fun q => match q with
 | .o l1 xs1 ks1 nk1 n1 i1 => some [.r t xs1 false] else none
theorem C39 {t : Nat} {z l : V} (hg : alg [l] = true) : alG t z l = some (alr t [l]) := by
 have hg : Nat.ble l.els.length 10000 = true := hg
 have g := D07 hg
 have hq := P6
 have hn := A0y l.els []
 simp only [List.length_nil, Nat.zero_add] at hn
 unfold alG
 rw [hg, cond_true, B5 (by omega)]
 exact C8C (kx := fun q => match q with | .o l1 xs1 ks1 nk1 n1 i1 => some [Rs.r t xs1 false]) g (E8 [] l.els) [] [] (A2 FU) rfl (by omega) (by simp) (by omega)
variable {R : Type}
def lvP (es : List (V × V × Bool)) (nm : List V) (a : Int) (k : V → Bool → Option R) : Option R :=
 bif M8 (.s nm) es then
  bif Nat.ble (Q9 (.s nm) es).els.length 10000 then
   bif A3C (Q9 (.s nm) es) then
    bif B7 (C6 (a - (V.nth (A1T (Q9 (.s nm) es)) 2).int)) 8 then k (A1T (Q9 (.s nm) es)) true else k noE false
   else k noE false
  else none
 else k noE false
def C4a (nl : Bool) (xs ys : List V) (k : Option R) : Option R :=
 bif Nat.ble (bif nl then V.n else .l xs).els.length 100000 && Nat.ble ys.length 100000 then
  bif F7 (bif nl then V.n else .l xs).els ys then k else none
 else none
def C8D (st : Nat) (es : List (V × V × Bool)) (k : List V → Option R) : Option R :=
 bif Nat.beq st st && (okK (A2V es) && Nat.ble (A2V es).length 1000000) then
  ln (X9 ((A2V es).map (·.1))).length <| k (X9 ((A2V es).map (·.1)))
 else none
variable {R : Type}
theorem C0k {k kv : V} (hne : M3 k kv = false) : ∀ es : List (V × V × Bool), M8 kv (A0O k es) = M8 kv es := by
 have hk : k ≠ kv := fun q => by rw [(J0 _ _).2 q] at hne; cases hne
 intro es
 induction es with
 | nil => rfl
 | cons p r ih =>
  simp only [A0O, M8]
  cases h : M3 p.1 k with
  | true =>
   have : p.1 = k := (J0 _ _).1 h
   rw [cond_true, ih, this, hne, Bool.false_or]
  | false => simp only [cond_false, M8, ih]
theorem B0c {k kv : V} (hne : M3 k kv = false) : ∀ es : List (V × V × Bool), Q9 kv (A0O k es) = Q9 kv es ∧ A1W kv (A0O k es) = A1W kv es := by
 intro es
 induction es with
 | nil => exact ⟨rfl, rfl⟩
 | cons p r ih =>
  simp only [A0O, Q9, A1W]
  cases h : M3 p.1 k with
  | true =>
   have : p.1 = k := (J0 _ _).1 h
   rw [cond_true, ih.1, ih.2, this, hne]; exact ⟨rfl, rfl⟩
  | false => simp only [cond_false, Q9, A1W, ih.1, ih.2, and_self]
theorem B0d {k kv x : V} {q : Bool} {es : List (V × V × Bool)} : M8 kv (A1o k x q es) = (M3 k kv || M8 kv es) := by
 show (M3 k kv || M8 kv (A0O k es)) = _
 cases h : M3 k kv with
 | true => rfl
 | false => rw [C0k h]
theorem C0l {k kv x : V} {q : Bool} {es : List (V × V × Bool)} : Q9 kv (A1o k x q es) = (bif M3 k kv then x else Q9 kv es) := by
 show (bif M3 k kv then x else Q9 kv (A0O k es)) = _
 cases h : M3 k kv with
 | true => rfl
 | false => rw [(B0c h es).1]
theorem C0m {k kv x : V} {q : Bool} {es : List (V × V × Bool)} : A1W kv (A1o k x q es) = (bif M3 k kv then q else A1W kv es) := by
 show (bif M3 k kv then q else A1W kv (A0O k es)) = _
 cases h : M3 k kv with
 | true => rfl
 | false => rw [(B0c h es).2]
theorem A3E {kv : V} : ∀ {es : List (V × V × Bool)}, M8 kv es = true ↔ kv ∈ es.map (·.1) := by
 intro es
 induction es with
 | nil => simp [M8]
 | cons p r ih =>
  simp only [M8, Bool.or_eq_true, J0, ih, List.map_cons, List.mem_cons]
  exact ⟨fun h => h.imp (fun q => q.symm) id, fun h => h.imp (fun q => q.symm) id⟩
theorem A7T {kv : V} {es : List (V × V × Bool)} (h : M8 kv es = false) : A0O kv es = es := by
 rw [R6]
 refine A0p (fun p hp q => ?_)
 have : M8 kv es = true := A3E.2 (List.mem_map.2 ⟨p, hp, q⟩)
 rw [this] at h; cases h
theorem B5k {kv : V} : ∀ {es : List (V × V × Bool)}, (es.map (·.1)).Nodup → M8 kv es = true → (kv :: (A0O kv es).map (·.1)).Perm (es.map (·.1)) := by
 intro es
 induction es with
 | nil => intro _ h; cases h
 | cons p r ih =>
  intro hn h
  simp only [List.map_cons, List.nodup_cons] at hn
  simp only [A0O]
  cases hb : M3 p.1 kv with
  | true =>
   have hp : p.1 = kv := (J0 _ _).1 hb
   have : M8 kv r = false := by
    cases hh : M8 kv r with
    | false => rfl
    | true => exact absurd (hp ▸ A3E.1 hh) hn.1
   rw [cond_true, A7T this, List.map_cons, hp]
  | false =>
   simp only [M8, hb, Bool.false_or] at h
   rw [cond_false, List.map_cons, List.map_cons]
   exact (List.Perm.swap _ _ _).trans ((ih hn.2 h).cons _)
structure A1O (p : List V) (es : List (V × V × Bool)) : Prop where
 nd : (es.map (·.1)).Nodup
 ks : X9 (es.map (·.1)) = E8 [] p
 gd : ∀ q ∈ es, NmV q.1
 has : ∀ nm, M8 (.s nm) es = !(C9 nm p).isEmpty
 val : ∀ nm, M8 (.s nm) es = true → Q9 (.s nm) es = .l (C9 nm p)
 own : ∀ kv, A1W kv es = true
theorem A7U (nm : List V) (p : List V) (x : V) : C9 nm (p ++ [x]) = bif F7 (U0 x) nm then C9 nm p ++ [x] else C9 nm p := by
 simp only [C9, List.filter_append, List.filter_cons, List.filter_nil]
 cases F7 (U0 x) nm <;> simp
theorem A1O.nil : A1O [] [] := ⟨List.nodup_nil, rfl, fun q h => (by cases h), fun nm => rfl, fun nm h => (by cases h), fun kv => rfl⟩
theorem C0n (a b : List V) : M3 (.s a) (.s b) = F7 a b := rfl
theorem A1O.mem {p : List V} {es : List (V × V × Bool)} (h : A1O p es) {k : V} : k ∈ E8 [] p ↔ M8 k es = true := by
 rw [← h.ks, A3E]
 exact (W1 _).mem_iff
theorem A1O.snoc {p : List V} {es : List (V × V × Bool)} (h : A1O p es) {x : V} (hx : A4y (U0 x)) (hp : ∀ e ∈ p, A4y (U0 e)) : A1O (p ++ [x]) (A1o (.s (U0 x)) (.l (C9 (U0 x) p ++ [x])) true es) := by
 have hst : StS (E8 [] p) := C0j ⟨List.Pairwise.nil, fun _ h => by cases h⟩ hp
 have hnames : E8 [] (p ++ [x]) = A0k (U0 x) (E8 [] p) := by simp [E8, List.foldl_append]
 have hkeys : ∀ q ∈ (A1o (.s (U0 x)) (.l (C9 (U0 x) p ++ [x])) true es).map (·.1), NmV q := by
  intro q hq
  simp only [A1o, List.map_cons, List.mem_cons] at hq
  rcases hq with rfl | hq
  ·exact ⟨_, rfl, hx⟩
  ·obtain ⟨y, hy, rfl⟩ := List.mem_map.1 hq
   rw [R6] at hy
   exact h.gd y (List.mem_filter.1 hy).1
 refine ⟨A2P h.nd, ?_, fun q hq => hkeys q.1 (List.mem_map_of_mem hq), fun nm => ?_, fun nm hh => ?_, fun kv => ?_⟩
 ·rw [hnames]
  cases hh : M8 (.s (U0 x)) es with
  | true =>
   rw [B5B hst (h.mem.2 hh), ← h.ks]
   exact B0m (B5k h.nd hh) hkeys
  | false =>
   rw [B5C hst.2 (fun q => by rw [h.mem.1 q] at hh; cases hh)]
   show A23 (.s (U0 x)) (X9 ((A0O (.s (U0 x)) es).map (·.1))) = _
   rw [A7T hh, h.ks]
 ·rw [B0d, h.has, A7U, C0n]
  cases F7 (U0 x) nm with
  | true => simp
  | false => rfl
 ·rw [C0l, A7U, C0n]
  rw [B0d, C0n] at hh
  cases hq : F7 (U0 x) nm with
  | true => rw [cond_true, cond_true, (L0 _ _).1 hq]
  | false =>
   rw [hq, Bool.false_or] at hh
   rw [cond_false, cond_false, h.val nm hh]
 ·rw [C0m, h.own]
  cases M3 (.s (U0 x)) kv <;> rfl
theorem C8E {l : V} (hnm : ∀ e ∈ l.els, A4y (U0 e)) : ∀ (r a : List V) (es : List (V × V × Bool)) (fuel : Nat), l.els = a ++ r → a.length + r.length ≤ 10000 → A1O a es → r.length < fuel →
  ∃ es', A1O l.els es' ∧ ∀ kx : QNn → Option R, E2 (BNn R) fuel (.m l es (l.els.length : Nat) (a.length : Nat)) kx = kx (.o l es' (l.els.length : Nat) (l.els.length : Nat)) := by
 intro r
 induction r with
 | nil =>
  intro a es fuel he hz hi hf
  obtain ⟨f, rfl⟩ : ∃ f, fuel = f + 1 := ⟨fuel - 1, by omega⟩
  rw [List.append_nil] at he
  refine ⟨es, he ▸ hi, fun kx => ?_⟩
  rw [E2, C4v, A2K he, cond_false, he]
 | cons x r ih =>
  intro a es fuel he hz hi hf
  obtain ⟨f, rfl⟩ : ∃ f, fuel = f + 1 := ⟨fuel - 1, by omega⟩
  simp only [D09] at hz hf
  have hle : l.els.length = a.length + (r.length + 1) := by rw [he]; simp
  have hat : l.nth ((a.length : Nat) : Int).toNat = x := U5 he
  have hxn : A4y (U0 x) := hnm x (by rw [he]; simp)
  obtain ⟨es', g1, g2⟩ := ih (a ++ [x]) _ f (by rw [he]; simp) (by simp only [D03, D1a]; omega) (hi.snoc hxn (fun e h => hnm e (by rw [he]; simp [h]))) (by omega)
  simp only [D03, D1a] at g2
  refine ⟨es', g1, fun kx => ?_⟩
  rw [← g2 kx, E2, C4v, A2J he, cond_true, C1 (by omega) (by omega), hat, L1 (by omega)]
  have hhl : (C9 (U0 x) a).length ≤ a.length := List.length_filter_le _ _
  cases hh : M8 (.s (U0 x)) es with
  | true =>
   rw [cond_true, hi.own, cond_true, hi.val _ hh, D1 (by show (C9 (U0 x) a).length + 1 ≤ _; omega), A0A, cond_true]
   rfl
  | false =>
   have : C9 (U0 x) a = [] := by
    have := hi.has (U0 x)
    rw [hh] at this
    cases hq : C9 (U0 x) a with
    | nil => rfl
    | cons y s => rw [hq] at this; cases this
   rw [cond_false, this]; rfl
variable {R : Type}
theorem B5l : ∀ {r : List V} {i : Nat}, Z2 r i = true → (∀ e ∈ r, (U0 e).length ≤ 100 ∧ (e.nth 1).els.length ≤ 300 ∧ 0 ≤ (e.nth 2).int ∧ (e.nth 2).int ≤ 1000000000) ∧ (r = [] ∨ i + r.length ≤ 41) := by
 intro r
 induction r with
 | nil => intro i _; exact ⟨fun e h => (by cases h), .inl rfl⟩
 | cons e r ih =>
  intro i h
  have e1 : Z2 (e :: r) i = bif B5j i e then false else Z2 r (i + 1) := rfl
  rw [e1] at h
  cases hb : B5j i e with
  | true => rw [hb] at h; cases h
  | false =>
   rw [hb, cond_false] at h
   obtain ⟨h1, h2⟩ := ih h
   unfold B5j at hb
   simp only [Bool.or_eq_false_iff, F8, decide_eq_false_iff_not] at hb
   obtain ⟨b1, b2, b3, b4, b5⟩ := hb
   refine ⟨fun x hx => ?_, .inr ?_⟩
   ·rcases List.mem_cons.1 hx with rfl | hx
    ·exact ⟨by omega, by omega, by omega, by omega⟩
    ·exact h1 x hx
   ·rcases h2 with rfl | h2
    ·simp; omega
    ·simp only [D09]; omega
structure LOK (l : V) : Prop where
 nm : ∀ e ∈ l.els, A4y (U0 e)
 len : ∀ e ∈ l.els, (U0 e).length ≤ 100
 ht : ∀ e ∈ l.els, 0 ≤ (e.nth 2).int ∧ (e.nth 2).int ≤ 1000000000
 few : l.els.length ≤ 10000
theorem C4b {xs : List V} (h : xs ≠ []) (hl : xs.length ≤ 10000) : lsV xs ∈ xs := by
 have h0 : 0 < xs.length := List.length_pos_iff.2 h
 unfold lsV
 rw [F0 (by omega) (by omega)]
 have : (((xs.length : Nat) : Int) - 1).toNat = xs.length - 1 := by omega
 rw [this, List.getD_eq_getElem?_getD, D1e (by omega)]
 exact List.getElem_mem _
theorem A5a (nm : List V) (p : List V) : (C9 nm p).length ≤ p.length := List.length_filter_le _ _
theorem C8F {l : V} {es : List (V × V × Bool)} (hi : A1O l.els es) {nm : List V} (h : M8 (.s nm) es = true) : C9 nm l.els ≠ [] := by
 have := hi.has nm
 rw [h] at this
 intro q; rw [q] at this; cases this
theorem A8T {l : V} {es : List (V × V × Bool)} (hl : LOK l) (hi : A1O l.els es) {nm : List V} (h : M8 (.s nm) es = true) :
  (Q9 (.s nm) es).els = C9 nm l.els ∧ isN (Q9 (.s nm) es) = false ∧ A3C (Q9 (.s nm) es) = true ∧ A1T (Q9 (.s nm) es) = lsV (C9 nm l.els) ∧
   0 ≤ ((lsV (C9 nm l.els)).nth 2).int ∧ ((lsV (C9 nm l.els)).nth 2).int ≤ 1000000000 ∧ G5 ((C9 nm l.els).length : Nat) 0 = false := by
 have hne := C8F hi h
 have h0 : 0 < (C9 nm l.els).length := List.length_pos_iff.2 hne
 have hz : G5 ((C9 nm l.els).length : Nat) 0 = false := by rw [← Bool.not_eq_true, H7]; omega
 have hle := A5a nm l.els
 have hf := hl.few
 have hm := C4b hne (by omega)
 have hm' : lsV (C9 nm l.els) ∈ l.els := (List.mem_filter.1 hm).1
 obtain ⟨t1, t2⟩ := hl.ht _ hm'
 rw [hi.val nm h]
 have hq : A3C (.l (C9 nm l.els)) = true := by show (!(G5 ((C9 nm l.els).length : Nat) 0)) = true; rw [hz]; rfl
 refine ⟨rfl, rfl, hq, ?_, t1, t2, hz⟩
 unfold A1T
 rw [hq, cond_true]; rfl
theorem C4c {l : V} {es : List (V × V × Bool)} (hl : LOK l) (hi : A1O l.els es) {nm : List V} {a : Int} (ha : 0 ≤ a) (ha2 : a ≤ 1000000000) (h : M8 (.s nm) es = true) :
  B7 (C6 (a - ((lsV (C9 nm l.els)).nth 2).int)) 8 = T7 nm l a := by
 obtain ⟨_, _, _, _, t1, t2, hz⟩ := A8T hl hi h
 unfold T7
 rw [hz, Bool.false_or, F0 (by omega) (by omega), F0 (by omega) (by omega), F8, P0]
 generalize ((lsV (C9 nm l.els)).nth 2).int = q at t1 t2
 by_cases h1 : a - q < 8
 ·have h2 : ¬ q + 8 ≤ a := by omega
  simp [h1, h2]
 ·have h2 : q + 8 ≤ a := by omega
  simp [h1, h2]
theorem C4d {l : V} {es : List (V × V × Bool)} (hl : LOK l) (hi : A1O l.els es) {nm : List V} {a : Int} (ha : 0 ≤ a) (ha2 : a ≤ 1000000000) (k : V → Bool → Option R) : lvP es nm a k = k (A0j nm l a) (T7 nm l a) := by
 unfold lvP
 cases h : M8 (.s nm) es with
 | true =>
  obtain ⟨t1, t2, t3, t4, t5, t6, hz⟩ := A8T hl hi h
  have hle := A5a nm l.els
  have hf := hl.few
  rw [cond_true, t1, D1b (by omega), cond_true, t3, cond_true, t4, C4c hl hi ha ha2 h]
  unfold A0j
  cases T7 nm l a <;> rfl
 | false =>
  have hq : C9 nm l.els = [] := by
   have := hi.has nm
   rw [h] at this
   cases hq : C9 nm l.els with
   | nil => rfl
   | cons y s => rw [hq] at this; cases this
  have : T7 nm l a = false := by unfold T7; rw [hq]; rfl
  rw [cond_false]
  unfold A0j
  rw [this]; rfl
theorem C8G {p : List V} {es : List (V × V × Bool)} (hi : A1O p es) : es.length ≤ p.length := by
 have h1 : (X9 (es.map (·.1))).length = es.length := by rw [(W1 _).length_eq, D05]
 rw [hi.ks] at h1
 have := A0y p []
 simp only [List.length_nil, Nat.zero_add] at this
 omega
theorem C0o {l : V} {es : List (V × V × Bool)} (hl : LOK l) (hi : A1O l.els es) {st : Nat} (k : List V → Option R) : C8D st es k = k (E8 [] l.els) := by
 have hf := hl.few
 have hel := C8G hi
 have hk : (A2V es).map (·.1) = es.map (·.1) := by simp [A2V]
 have hn := A0y l.els []
 simp only [List.length_nil, Nat.zero_add] at hn
 have hok : okK (A2V es) = true := by
  have : ∀ q ∈ es, ∃ nm, q.1 = .s nm ∧ nm.length ≤ 1000000 := fun q hq => by
   have h1 : M8 q.1 es = true := A3E.2 (List.mem_map_of_mem hq)
   have h2 := hi.mem.2 h1
   rcases A4i h2 with h2 | ⟨e, he, h3⟩
   ·cases h2
   ·exact ⟨_, h3, by have := hl.len e he; omega⟩
  clear hk hel hi
  induction es with
  | nil => rfl
  | cons p r ih =>
   obtain ⟨nm, h1, h2⟩ := this p (by simp)
   have ih := ih (fun q hq => this q (by simp [hq]))
   show ((match p.1 with
    | .s l => Nat.ble l.length 1000000
    | _ => false) && okK (A2V r)) = true
   rw [ih, h1, Bool.and_true]
   exact D1b h2
 unfold C8D
 rw [hok, hk, hi.ks, B5 (by omega), Nat.beq_refl]
 rw [show (A2V es).length = es.length by simp [A2V], D1b (by omega)]
 rfl
theorem C8H {nl b : Bool} {xs ys : List V} (h1 : nl = true → xs = []) (h2 : b = true → ys = []) : (nl && b) = true → xs ++ ys = [] := by
 intro h
 simp only [D02] at h
 rw [h1 h.1, h2 h.2]; rfl
theorem C8I {l : V} {es : List (V × V × Bool)} (hl : LOK l) (hi : A1O l.els es) {nk : Bool} {ks : List V} (hks : ∀ k ∈ ks, k ∈ E8 [] l.els) {kx : QAw → Option R} {ko : List V → Option R}
  (hkx : ∀ xs nl i, (nl = true → xs = []) → kx (.o es xs nl ks nk (ks.length : Nat) i) = ko xs) : ∀ (r a xs : List V) (nl : Bool) (fuel : Nat), ks = a ++ r → ks.length ≤ 10000 → xs.length ≤ a.length * 10000 → (nl = true → xs = []) → r.length < fuel →
  E2 (BAw R) fuel (.m es xs nl ks nk (ks.length : Nat) (a.length : Nat)) kx = ko (A3D l.els r xs) := by
 have hf := hl.few
 intro r
 induction r with
 | nil =>
  intro a xs nl fuel he hz hx hnl hfu
  obtain ⟨f, rfl⟩ : ∃ f, fuel = f + 1 := ⟨fuel - 1, by omega⟩
  rw [List.append_nil] at he
  subst he
  rw [E2, C5c, C36, cond_false, hkx _ _ _ hnl]; rfl
 | cons k r ih =>
  intro a xs nl fuel he hz hx hnl hfu
  obtain ⟨f, rfl⟩ : ∃ f, fuel = f + 1 := ⟨fuel - 1, by omega⟩
  simp only [D09] at hfu
  have hle : ks.length = a.length + (r.length + 1) := by rw [he]; simp
  have hkm := hks k (by rw [he]; simp)
  have hhas := hi.mem.1 hkm
  obtain ⟨e, hee, rfl⟩ : ∃ e ∈ l.els, k = .s (U0 e) := by
   rcases A4i hkm with h2 | h2
   ·cases h2
   ·exact h2
  obtain ⟨t1, t2, t3, t4, t5, t6, hzz⟩ := A8T hl hi hhas
  have hle2 := A5a (U0 e) l.els
  have ih := ih (a ++ [.s (U0 e)]) (xs ++ C9 (U0 e) l.els) (nl && (C9 (U0 e) l.els).isEmpty) f (by rw [he]; simp) hz (by simp only [D03, D1a]; omega) (C8H hnl (fun q => List.isEmpty_iff.1 q)) (by omega)
  simp only [D03, D1a] at ih
  rw [E2, C5c, C35 he, cond_true, C1 (by omega) (by omega), B3o he]
  rw [show (V.s (U0 e)).els = U0 e from rfl, hhas, t1, cond_true, D1 (by omega), L1 (by omega)]
  exact ih
theorem B5m {l : List V} : ∀ (r xs : List V), (A3D l r xs).length ≤ xs.length + r.length * l.length := by
 intro r
 induction r with
 | nil => intro xs; show xs.length ≤ _; simp
 | cons k r ih =>
  intro xs
  simp only [A3D]
  refine Nat.le_trans (ih _) ?_
  have := A5a k.els l
  simp only [D03, D09, Nat.succ_mul]; omega
variable {R : Type}
def smX (xs ys : List V) (k : Option R) : Option R := bif Nat.ble xs.length 100000 && Nat.ble ys.length 100000 then bif F7 xs ys then k else none else none
theorem C4e {nl : Bool} {xs ys : List V} {k : Option R} (h1 : nl = true → xs = []) : C4a nl xs ys k = smX xs ys k := by
 have he : (bif nl then V.n else .l xs).els = xs := by
  cases nl with
  | true => rw [h1 rfl]; rfl
  | false => rfl
 unfold C4a smX
 rw [he]
theorem C4f {xs : List V} {k : Option R} (h : xs.length ≤ 100000) : smX xs xs k = k := by
 unfold smX
 rw [D1b h, Bool.and_self, cond_true, (L0 _ _).2 rfl, cond_true]
theorem C8J {l : V} {es : List (V × V × Bool)} (hl : LOK l) (h41 : l.els.length ≤ 41) (hi : A1O l.els es) {nk : Bool} {rest : Option R} {kx : QAw → Option R}
  (hkx : ∀ xs nl i, kx (.o es xs nl (E8 [] l.els) nk ((E8 [] l.els).length : Nat) i) = bif Nat.ble l.els.length 10000 then C4a nl xs (A3D l.els (E8 [] l.els) []) rest else none) :
  E2 (BAw R) (A2 FU) (.m es [] true (E8 [] l.els) nk ((E8 [] l.els).length : Nat) 0) kx = rest := by
 have hq := P6
 have hnl := A0y l.els []
 have l3 := B5m (l := l.els) (E8 [] l.els) []
 simp only [List.length_nil, Nat.zero_add] at hnl l3
 have l4 : (E8 [] l.els).length * l.els.length ≤ 41 * 41 := Nat.mul_le_mul (by omega) h41
 refine (C8I (ko := fun xs => smX xs (A3D l.els (E8 [] l.els) []) rest) hl hi (fun k hk => hk) (fun xs nl i hx => ?_) (E8 [] l.els) [] [] true (A2 FU) rfl (by omega) (by simp) (fun _ => rfl) (by omega)).trans (C4f (by omega))
 rw [hkx, D1b hl.few, cond_true]
 exact C4e hx
inductive PNx where
 | m (bs : List V) (c : Int) (h : Int) (n : Int) (g : Int) (ss : List V) (m : Int) (i : Int)
inductive QNx where
 | o (bs : List V) (c : Int) (h : Int) (n : Int) (g : Int) (ss : List V) (m : Int) (i : Int)
def BNx (R : Type) (p : PNx) (K : PNx → Option R) (kx : QNx → Option R) : Option R :=
 match p with
 | .m bs c h n g ss m i =>
  bif B7 i m then
   ck i ss.length <|
   K (.m bs c h (C6 (n + (C6 ((C6 (((V.nth (.l ss) i.toNat)).int)) * g)))) (C6 (g * 256)) ss m (C6 (i + 1)))
   else
   kx (.o bs c h n g ss m i)
abbrev C5d := @BNx.eq_1
inductive PPs where
 | m (xs : List V) (l : V) (n : Int) (i : Int)
inductive QPs where
 | o (xs : List V) (l : V) (n : Int) (i : Int)
def BPs (R : Type) (p : PPs) (K : PPs → Option R) (kx : QPs → Option R) : Option R :=
 match p with
 | .m xs l n i =>
  bif B7 i n then
   ck i ((l.els).length) <|
   ln ((((V.nth l i.toNat)).els).length) <|
   bif C2 ((((V.nth l i.toNat)).els).length : Nat) 75 then
   R9 (xs.length + ([(V.i (IntKind.wrap .u8 ((((V.nth l i.toNat)).els).length : Nat)))]).length) <|
   R9 (((xs ++ [(V.i (IntKind.wrap .u8 ((((V.nth l i.toNat)).els).length : Nat)))])).length + (((V.nth l i.toNat)).els).length) <|
   K (.m ((xs ++ [(V.i (IntKind.wrap .u8 ((((V.nth l i.toNat)).els).length : Nat)))]) ++ ((V.nth l i.toNat)).els) l n (C6 (i + 1)))
   else
   bif B7 ((((V.nth l i.toNat)).els).length : Nat) 256 then
   R9 (xs.length + ([(V.i 76), (V.i (IntKind.wrap .u8 ((((V.nth l i.toNat)).els).length : Nat)))]).length) <|
   R9 (((xs ++ [(V.i 76), (V.i (IntKind.wrap .u8 ((((V.nth l i.toNat)).els).length : Nat)))])).length + (((V.nth l i.toNat)).els).length) <|
   K (.m ((xs ++ [(V.i 76), (V.i (IntKind.wrap .u8 ((((V.nth l i.toNat)).els).length : Nat)))]) ++ ((V.nth l i.toNat)).els) l n (C6 (i + 1)))
   else
   R9 (xs.length + ([(V.i 77), (V.i (IntKind.wrap .u8 ((((V.nth l i.toNat)).els).length : Nat))), (V.i (IntKind.wrap .u8 (Int.fdiv ((((V.nth l i.toNat)).els).length : Nat) 256)))]).length) <|
   R9 (((xs ++ [(V.i 77), (V.i (IntKind.wrap .u8 ((((V.nth l i.toNat)).els).length : Nat))), (V.i (IntKind.wrap .u8 (Int.fdiv ((((V.nth l i.toNat)).els).length : Nat) 256)))])).length + (((V.nth l i.toNat)).els).length) <|
   K (.m ((xs ++ [(V.i 77), (V.i (IntKind.wrap .u8 ((((V.nth l i.toNat)).els).length : Nat))), (V.i (IntKind.wrap .u8 (Int.fdiv ((((V.nth l i.toNat)).els).length : Nat) 256)))]) ++ ((V.nth l i.toNat)).els) l n (C6 (i + 1)))
   else
   kx (.o xs l n i)
abbrev C5e := @BPs.eq_1
inductive PEq where
 | m (a : V) (b : V) (c : V) (n : Int) (i : Int)
inductive QEq where
 | o (a : V) (b : V) (c : V) (n : Int) (i : Int)
 | r (a : V) (b : V) (c : V) (n : Int) (i : Int)
def BEq (R : Type) (p : PEq) (K : PEq → Option R) (kx : QEq → Option R) : Option R :=
 match p with
 | .m a b c n i =>
  bif B7 i n then
   ck i ((a.els).length) <|
   ck i ((b.els).length) <|
   bif !(G5 (((V.nth a i.toNat)).int) (((V.nth b i.toNat)).int)) then
   kx (.r a b c n i)
   else
   K (.m a b c n (C6 (i + 1)))
   else
   kx (.o a b c n i)
abbrev C5f := @BEq.eq_1
variable {R : Type}
def B3 : V := .l [.i 0, .s [], .s [], .s [], .l (List.replicate 20 (.i 0))]
def tkS (c h n : Nat) (l : List Nat) : Option (Nat × List Nat × Nat) := if h + n ≤ l.length then some (c, (l.drop h).take n, h + n) else none
def nxS : List Nat → Option (Nat × List Nat × Nat)
 | [] => none
 | c :: r =>
  if c ≤ 75 then tkS c 1 c (c :: r)
  else if c = 76 then (match r with
   | n :: _ => tkS c 2 n (c :: r)
   | [] => none)
  else if c = 77 then (match r with
   | a :: b :: _ => tkS c 3 (a + 256 * b) (c :: r)
   | _ => none)
  else if 81 ≤ c ∧ c ≤ 96 then some (c, [c - 80], 1)
  else tkS c 1 0 (c :: r)
def nxC (x : V) : Int := match nxS (F1 x) with
 | some q => (q.1 : Nat)
 | none => 0
def nxD (x : V) : V := match nxS (F1 x) with
 | some q => .l (q.2.1.map nv)
 | none => .n
def nxU (x : V) : Int := match nxS (F1 x) with
 | some q => (q.2.2 : Nat)
 | none => 0
def nxE (x : V) : Int := match nxS (F1 x) with
 | some _ => 0
 | none => 71
def nxR (a b c d : Nat) : Option (Nat × List Nat × Nat) → List Rs
 | none => [.d a (.i 0), .d b .n, .d c (.i 0), .d d (.i 71)]
 | some q => [.d a (.i (q.1 : Nat)), .d b (.l (q.2.1.map nv)), .d c (.i (q.2.2 : Nat)), .d d (.i 0)]
def nxr (a b c d : Nat) : List V → List Rs
 | [x] => [.d a (.i (nxC x)), .d b (nxD x), .d c (.i (nxU x)), .d d (.i (nxE x))]
 | _ => []
def nxg : List V → Bool
 | [x] => Nat.ble x.els.length 1000000
 | _ => false
theorem C0p {a b c d : Nat} {x : V} {ns : List Nat} (h : x.els = ns.map nv) : nxR a b c d (nxS ns) = nxr a b c d [x] := by
 show _ = [Rs.d a (.i (nxC x)), .d b (nxD x), .d c (.i (nxU x)), .d d (.i (nxE x))]
 unfold nxC nxD nxU nxE
 simp only [J5 h]
 cases nxS ns <;> rfl
def B0e (a b c d : Nat) : Option (List Rs) := some [.d a (.i 0), .d b .n, .d c (.i 0), .d d (.i 71)]
def A3F (a b c d : Nat) (q : Int) (bs : List V) (h n : Int) : Option (List Rs) :=
 ln bs.length <| bif B7 (bs.length : Nat) (C6 (h + n)) then B0e a b c d else
 bif ((C2 0 h) && (C2 h (C6 (h + n)))) && (C2 (C6 (h + n)) (bs.length : Nat)) then
 R9 ((List.replicate 0 (V.i 0)).length + (List.take ((C6 (h + n)) - h).toNat (List.drop h.toNat bs)).length) <|
 some [.d a (.i q), .d b (.l (List.replicate 0 (V.i 0) ++ List.take ((C6 (h + n)) - h).toNat (List.drop h.toNat bs))), .d c (.i (C6 (h + n))), .d d (.i 0)] else none
def nxZ (a b c d : Nat) (q : Int) (bs : List V) : Option (List Rs) :=
 bif C2 q 77 then B0e a b c d else bif C2 81 q then
  (bif C2 q 96 then some [.d a (.i q), .d b (.l (List.set (List.replicate 1 (V.i 0)) 0 (.i (IntKind.wrap .u8 ((IntKind.wrap .u8 (q - 81)) + 1))))), .d c (.i 1), .d d (.i 0)]
  else A3F a b c d q bs 1 0) else A3F a b c d q bs 1 0
def C4g (a b c d : Nat) (q : Int) (bs : List V) : Option (List Rs) :=
 bif G5 q 77 then (ln bs.length <| bif B7 2 (bs.length : Nat) then (ck 1 bs.length <| ck 2 bs.length <| A3F a b c d q bs 3 (C6 ((C6 ((V.nth (.l bs) 1).int)) + (C6 ((C6 ((V.nth (.l bs) 2).int)) * 256))))) else nxZ a b c d q bs) else nxZ a b c d q bs
def C8K (a b c d : Nat) (bs : List V) : Option (List Rs) :=
 ln bs.length <| bif G5 (bs.length : Nat) 0 then B0e a b c d else ck 0 bs.length <|
 bif C2 ((V.nth (.l bs) 0).int) 75 then A3F a b c d ((V.nth (.l bs) 0).int) bs 1 (C6 ((V.nth (.l bs) 0).int)) else
 bif G5 ((V.nth (.l bs) 0).int) 76 then (ln bs.length <| bif B7 1 (bs.length : Nat) then (ck 1 bs.length <| A3F a b c d ((V.nth (.l bs) 0).int) bs 2 (C6 ((V.nth (.l bs) 1).int))) else C4g a b c d ((V.nth (.l bs) 0).int) bs)
 else C4g a b c d ((V.nth (.l bs) 0).int) bs
def nxL (a b c d : Nat) (q : Int) (bs : List V) (n : Int) : Option (List Rs) :=
 ln bs.length <| bif B7 (bs.length : Nat) (C6 (C6 q - 74)) then B0e a b c d else
 bif ((C2 0 1) && (C2 1 (C6 (C6 q - 74)))) && (C2 (C6 (C6 q - 74)) (bs.length : Nat)) then
 ln (List.take ((C6 (C6 q - 74)) - 1).toNat (List.drop 1 bs)).length <|
 E2 (BNx (List Rs)) (A2 FU) (.m bs q (C6 (C6 q - 74)) n 1 (List.take ((C6 (C6 q - 74)) - 1).toNat (List.drop 1 bs)) ((List.take ((C6 (C6 q - 74)) - 1).toNat (List.drop 1 bs)).length : Nat) 0) fun q => match q with
  | .o bs1 c1 h1 n1 g1 ss1 m1 i1 => A3F a b c d c1 bs1 h1 n1
 else none
def nxM (a b c d : Nat) (q : Int) (bs : List V) (n : Int) : Option (List Rs) :=
 bif G5 q 76 then nxL a b c d q bs n else bif G5 q 77 then nxL a b c d q bs n else A3F a b c d q bs 1 n
def nxN (a b c d : Nat) (q : Int) (bs : List V) : Option (List Rs) :=
 bif B7 q 76 then nxM a b c d q bs (C6 q) else nxM a b c d q bs 0
def C8L (a b c d : Nat) (bs : List V) : Option (List Rs) :=
 ln bs.length <| bif G5 (bs.length : Nat) 0 then B0e a b c d else ck 0 bs.length <|
 bif B7 80 ((V.nth (.l bs) 0).int) then (bif B7 ((V.nth (.l bs) 0).int) 97 then some [.d a (.i ((V.nth (.l bs) 0).int)), .d b (.l (List.set (List.replicate 1 (V.i 0)) 0 (.i (IntKind.wrap .u8 ((V.nth (.l bs) 0).int - 80))))), .d c (.i 1), .d d (.i 0)]
  else nxN a b c d ((V.nth (.l bs) 0).int) bs) else nxN a b c d ((V.nth (.l bs) 0).int) bs
theorem S5 (a b : Int) : G5 a b = decide (a = b) := by
 by_cases h : a = b
 ·rw [H7.2 h]; simp [h]
 ·simp only [h, decide_false]
  rw [← Bool.not_eq_true, H7]; exact h
theorem A3G {a b c d q h n : Nat} {ns : List Nat} (hl : ns.length ≤ 1000000) (hn : n ≤ 1000000) (hh : h ≤ 3) : A3F a b c d (q : Nat) (ns.map nv) (h : Nat) (n : Nat) = some (nxR a b c d (tkS q h n ns)) := by
 unfold A3F tkS
 have e : C6 ((h : Int) + (n : Int)) = ((h + n : Nat) : Int) := by rw [F0 (by omega) (by omega)]; omega
 rw [D05, B5 (by omega), e, F8]
 by_cases hc : h + n ≤ ns.length
 ·rw [if_pos hc, show decide (((ns.length : Nat) : Int) < ((h + n : Nat) : Int)) = false by simp; omega, cond_false]
  have e2 : (((h + n : Nat) : Int) - (h : Int)).toNat = n := by omega
  have e3 : ((h : Nat) : Int).toNat = h := by omega
  rw [show ((C2 0 (h : Int) && C2 (h : Int) ((h + n : Nat) : Int)) && C2 ((h + n : Nat) : Int) ((ns.length : Nat) : Int)) = true by simp only [P0, D02, D1d]; omega, cond_true, e2, e3, D1 (by simp; omega)]
  simp [nxR, List.map_take, List.map_drop]
 ·rw [if_neg hc, show decide (((ns.length : Nat) : Int) < ((h + n : Nat) : Int)) = true by simp; omega, cond_true]; rfl
theorem A1u {n : Nat} (h : n < 1000000000) : C6 (n : Int) = (n : Nat) := F0 (by omega) (by omega)
theorem A6S (c : Nat) (r : List Nat) (k : Nat) {x : Nat} (h : (c :: r)[k]? = some x) : (V.nth (.l ((c :: r).map nv)) k).int = (x : Nat) := A8p rfl h
theorem u8w {n : Int} (h1 : 0 ≤ n) (h2 : n < 256) : IntKind.wrap .u8 n = n := by
 show (if (false && decide (n % 2 ^ 8 ≥ 2 ^ (8 - 1))) = true then n % 2 ^ 8 - 2 ^ 8 else n % 2 ^ 8) = n
 simp; omega
theorem A5b {a b c d q : Nat} {r : List Nat} (hl : (q :: r).length ≤ 1000000) (h2 : q < 256) (h1 : 76 ≤ q) (h3 : q ≤ 77 → nxS (q :: r) = none) : nxZ a b c d (q : Nat) ((q :: r).map nv) = some (nxR a b c d (nxS (q :: r))) := by
 unfold nxZ
 simp only [P0]
 by_cases h77 : q ≤ 77
 ·rw [show decide ((q : Int) ≤ 77) = true by simp; omega, cond_true, h3 h77]; rfl
 ·rw [show decide ((q : Int) ≤ 77) = false by simp; omega, cond_false]
  have t := A3G (a := a) (b := b) (c := c) (d := d) (q := q) (h := 1) (n := 0) hl (by omega) (by omega)
  simp only [nxS]
  rw [if_neg (by omega), if_neg (by omega), if_neg (by omega)]
  by_cases h81 : 81 ≤ q
  ·rw [show decide (81 ≤ (q : Int)) = true by simp; omega, cond_true]
   by_cases h96 : q ≤ 96
   ·rw [show decide ((q : Int) ≤ 96) = true by simp; omega, cond_true, if_pos ⟨h81, h96⟩, u8w (n := (q : Int) - 81) (by omega) (by omega), u8w (by omega) (by omega)]
    show some [Rs.d a (.i (q : Nat)), .d b (.l [.i ((q : Int) - 81 + 1)]), .d c (.i 1), .d d (.i 0)] = some [.d a (.i (q : Nat)), .d b (.l [.i ((q - 80 : Nat) : Int)]), .d c (.i ((1 : Nat) : Int)), .d d (.i 0)]
    rw [show (q : Int) - 81 + 1 = ((q - 80 : Nat) : Int) by omega]; rfl
   ·rw [show decide ((q : Int) ≤ 96) = false by simp; omega, cond_false, if_neg (by omega)]; exact t
  ·rw [show decide (81 ≤ (q : Int)) = false by simp; omega, cond_false, if_neg (by omega)]; exact t
theorem C0q {a b c d : Nat} {ns : List Nat} (hb : ∀ x ∈ ns, x < 256) (hl : ns.length ≤ 1000000) : C8K a b c d (ns.map nv) = some (nxR a b c d (nxS ns)) := by
 unfold C8K
 rw [D05, B5 (by omega), S5]
 cases ns with
 | nil => rfl
 | cons q r =>
  have hq := hb q (by simp)
  rw [show decide ((((q :: r).length : Nat) : Int) = 0) = false by simp; omega, cond_false, C1 (by omega) (by simp <;> omega), A6S q r 0 rfl, P0, S5]
  have t : ∀ (h n : Nat) (ns : List Nat), ns.length ≤ 1000000 → n ≤ 1000000 → h ≤ 3 → A3F a b c d (q : Nat) (ns.map nv) (h : Nat) (n : Nat) = some (nxR a b c d (tkS q h n ns)) := fun h n ns => A3G
  have hlen : (q :: r).length = r.length + 1 := rfl
  by_cases h75 : q ≤ 75
  ·rw [show decide ((q : Int) ≤ 75) = true by simp; omega, cond_true, A1u (by omega)]
   refine (t 1 q (q :: r) hl (by omega) (by omega)).trans ?_
   simp only [nxS]; rw [if_pos h75]
  ·rw [show decide ((q : Int) ≤ 75) = false by simp; omega, cond_false]
   by_cases h76 : q = 76
   ·rw [show decide ((q : Int) = 76) = true by simp; omega, cond_true, B5 (by omega), F8]
    cases r with
    | nil =>
     rw [show decide (1 < ((([q].length : Nat)) : Int)) = false by simp, cond_false]
     unfold C4g
     rw [S5, show decide ((q : Int) = 77) = false by simp; omega, cond_false]
     exact A5b hl hq (by omega) (fun _ => by simp only [nxS]; rw [if_neg h75, if_pos h76])
    | cons n s =>
     have hn := hb n (by simp)
     rw [show decide (1 < (((q :: n :: s).length : Nat) : Int)) = true by simp; omega, cond_true, C1 (by omega) (by simp; omega), A6S q (n :: s) 1 rfl, A1u (by omega)]
     refine (t 2 n (q :: n :: s) hl (by omega) (by omega)).trans ?_
     simp only [nxS]; rw [if_neg h75, if_pos h76]
   ·rw [show decide ((q : Int) = 76) = false by simp; omega, cond_false]
    unfold C4g
    rw [S5]
    by_cases h77 : q = 77
    ·rw [show decide ((q : Int) = 77) = true by simp; omega, cond_true, D05, B5 (by omega), F8]
     match r, hb, hl with
     | [], hb, hl =>
      rw [show decide (2 < ((([q].length : Nat)) : Int)) = false by simp, cond_false]
      exact A5b hl hq (by omega) (fun _ => by simp only [nxS]; rw [if_neg h75, if_neg h76, if_pos h77])
     | [n], hb, hl =>
      rw [show decide (2 < ((([q, n].length : Nat)) : Int)) = false by simp, cond_false]
      exact A5b hl hq (by omega) (fun _ => by simp only [nxS]; rw [if_neg h75, if_neg h76, if_pos h77])
     | n :: m :: s, hb, hl =>
      have hn := hb n (by simp)
      have hm := hb m (by simp)
      rw [show decide (2 < (((q :: n :: m :: s).length : Nat) : Int)) = true by simp; omega, cond_true, C1 (by omega) (by simp; omega), C1 (by omega) (by simp; omega), A6S q (n :: m :: s) 1 rfl, A6S q (n :: m :: s) 2 rfl, A1u (n := n) (by omega), A1u (n := m) (by omega), F0 (n := (m : Int) * 256) (by omega) (by omega), F0 (by omega) (by omega)]
      have := t 3 (n + 256 * m) (q :: n :: m :: s) hl (by omega) (by omega)
      rw [show ((n : Int) + (m : Int) * 256) = ((n + 256 * m : Nat) : Int) by omega]
      refine this.trans ?_
      simp only [nxS]; rw [if_neg h75, if_neg h76, if_pos h77]
    ·rw [show decide ((q : Int) = 77) = false by simp; omega, cond_false]
     exact A5b hl hq (by omega) (fun _ => by omega)
theorem nx1 {kx : QNx → Option R} {bs ss : List V} {c h n g : Int} {i m : Nat} {f : Nat} {v : Nat} (hi : i < m) (hm : m = ss.length) (hs : ss[i]? = some (nv v)) (hv : v < 256) (h0 : m < 10) :
  E2 (BNx R) (f + 1) (.m bs c h n g ss (m : Nat) (i : Nat)) kx = E2 (BNx R) f (.m bs c h (C6 (n + C6 ((v : Int) * g))) (C6 (g * 256)) ss (m : Nat) ((i + 1 : Nat) : Int)) kx := by
 rw [E2, C5d, F8, show decide (((i : Nat) : Int) < ((m : Nat) : Int)) = true by simp; omega, cond_true, C1 (by omega) (by show ((i : Nat) : Int) < (ss.length : Nat); omega)]
 have : (V.nth (.l ss) ((i : Nat) : Int).toNat).int = (v : Int) := by
  show ((ss.getD i .n).int) = _
  rw [List.getD_eq_getElem?_getD, hs]; rfl
 rw [this, A1u (by omega), F0 (n := ((i : Nat) : Int) + 1) (by omega) (by omega), show ((i : Nat) : Int) + 1 = ((i + 1 : Nat) : Int) by omega]
theorem nx0 {kx : QNx → Option R} {bs ss : List V} {c h n g : Int} {m : Nat} {f : Nat} : E2 (BNx R) (f + 1) (.m bs c h n g ss (m : Nat) (m : Nat)) kx = kx (.o bs c h n g ss (m : Nat) (m : Nat)) := by
 rw [E2, C5d, F8, show decide (((m : Nat) : Int) < ((m : Nat) : Int)) = false by simp, cond_false]
theorem C4h {a b c d q : Nat} {r : List Nat} (hl : (q :: r).length ≤ 1000000) (hb : ∀ x ∈ r, x < 256) (hq : q = 76 ∨ q = 77) : nxL a b c d (q : Nat) ((q :: r).map nv) 0 = some (nxR a b c d (nxS (q :: r))) := by
 have hfu := P6
 have hlen : (q :: r).length = r.length + 1 := rfl
 unfold nxL
 rw [D05, B5 (by omega), A1u (n := q) (by omega), F8]
 have t : ∀ (h n : Nat) (ns : List Nat), ns.length ≤ 1000000 → n ≤ 1000000 → h ≤ 3 → A3F a b c d (q : Nat) (ns.map nv) (h : Nat) (n : Nat) = some (nxR a b c d (tkS q h n ns)) := fun h n ns => A3G
 rcases hq with rfl | rfl
 ·rw [show C6 (((76 : Nat) : Int) - 74) = 2 by decide]
  cases r with
  | nil => rfl
  | cons n s =>
   have hn := hb n (by simp)
   rw [show decide ((((76 :: n :: s).length : Nat) : Int) < 2) = false by simp; omega, cond_false, show ((C2 0 1 && C2 1 2) && C2 2 (((76 :: n :: s).length : Nat) : Int)) = true by simp only [P0, D02, D1d]; simp only [D09]; omega, cond_true, show List.take (2 - 1 : Int).toNat (List.drop 1 ((76 :: n :: s).map nv)) = [nv n] from rfl, show (List.length [nv n]) = 1 from rfl, B5 (by omega)]
   obtain ⟨f, hf⟩ : ∃ f, A2 FU = f + 1 + 1 := ⟨A2 FU - 2, by omega⟩
   rw [hf]
   refine (nx1 (i := 0) (m := 1) (v := n) (by omega) rfl rfl hn (by omega)).trans ?_
   refine (nx0 (m := 1)).trans ?_
   show A3F a b c d _ _ _ _ = _
   rw [Int.mul_one, A1u (by omega), Int.zero_add, A1u (by omega)]
   refine (t 2 n (76 :: n :: s) hl (by omega) (by omega)).trans ?_
   rfl
 ·rw [show C6 (((77 : Nat) : Int) - 74) = 3 by decide]
  match r, hb, hl with
  | [], hb, hl => rfl
  | [n], hb, hl => rfl
  | n :: m :: s, hb, hl =>
   have hn := hb n (by simp)
   have hm := hb m (by simp)
   rw [show decide ((((77 :: n :: m :: s).length : Nat) : Int) < 3) = false by simp; omega, cond_false, show ((C2 0 1 && C2 1 3) && C2 3 (((77 :: n :: m :: s).length : Nat) : Int)) = true by simp only [P0, D02, D1d]; simp only [D09]; omega, cond_true, show List.take (3 - 1 : Int).toNat (List.drop 1 ((77 :: n :: m :: s).map nv)) = [nv n, nv m] from rfl, show (List.length [nv n, nv m]) = 2 from rfl, B5 (by omega)]
   obtain ⟨f, hf⟩ : ∃ f, A2 FU = f + 1 + 1 + 1 := ⟨A2 FU - 3, by omega⟩
   rw [hf]
   refine (nx1 (i := 0) (m := 2) (v := n) (by omega) rfl rfl hn (by omega)).trans ?_
   refine (nx1 (i := 1) (m := 2) (v := m) (by omega) rfl rfl hm (by omega)).trans ?_
   refine (nx0 (m := 2)).trans ?_
   show A3F a b c d _ _ _ _ = _
   rw [Int.mul_one, A1u (by omega), Int.zero_add, A1u (by omega), show C6 (1 * 256) = 256 by decide, F0 (n := (m : Int) * 256) (by omega) (by omega), F0 (by omega) (by omega), show (n : Int) + (m : Int) * 256 = ((n + 256 * m : Nat) : Int) by omega]
   refine (t 3 (n + 256 * m) (77 :: n :: m :: s) hl (by omega) (by omega)).trans ?_
   rfl
theorem C4i {a b c d q : Nat} {r : List Nat} (hl : (q :: r).length ≤ 1000000) (hb : ∀ x ∈ r, x < 256) (hq : q < 256) (h80 : ¬ (81 ≤ q ∧ q ≤ 96)) : nxN a b c d (q : Nat) ((q :: r).map nv) = some (nxR a b c d (nxS (q :: r))) := by
 have t : ∀ (h n : Nat) (ns : List Nat), ns.length ≤ 1000000 → n ≤ 1000000 → h ≤ 3 → A3F a b c d (q : Nat) (ns.map nv) (h : Nat) (n : Nat) = some (nxR a b c d (tkS q h n ns)) := fun h n ns => A3G
 have l := @C4h a b c d q r hl hb
 unfold nxN nxM
 simp only [F8, S5]
 by_cases h75 : q ≤ 75
 ·rw [show decide ((q : Int) < 76) = true by simp; omega, cond_true, show decide ((q : Int) = 76) = false by simp; omega, cond_false, show decide ((q : Int) = 77) = false by simp; omega, cond_false, A1u (by omega)]
  refine (t 1 q (q :: r) hl (by omega) (by omega)).trans ?_
  simp only [nxS]; rw [if_pos h75]
 ·rw [show decide ((q : Int) < 76) = false by simp; omega, cond_false]
  by_cases h76 : q = 76
  ·rw [show decide ((q : Int) = 76) = true by simp; omega, cond_true]; exact l (.inl h76)
  ·rw [show decide ((q : Int) = 76) = false by simp; omega, cond_false]
   by_cases h77 : q = 77
   ·rw [show decide ((q : Int) = 77) = true by simp; omega, cond_true]; exact l (.inr h77)
   ·rw [show decide ((q : Int) = 77) = false by simp; omega, cond_false]
    refine (t 1 0 (q :: r) hl (by omega) (by omega)).trans ?_
    simp only [nxS]; rw [if_neg h75, if_neg h76, if_neg h77, if_neg h80]
theorem C0r {a b c d : Nat} {ns : List Nat} (hb : ∀ x ∈ ns, x < 256) (hl : ns.length ≤ 1000000) : C8L a b c d (ns.map nv) = some (nxR a b c d (nxS ns)) := by
 unfold C8L
 rw [D05, B5 (by omega), S5]
 cases ns with
 | nil => rfl
 | cons q r =>
  have hq := hb q (by simp)
  have l := @C4i a b c d q r hl (fun x hx => hb x (by simp [hx])) hq
  rw [show decide ((((q :: r).length : Nat) : Int) = 0) = false by simp; omega, cond_false, C1 (by omega) (by simp <;> omega), A6S q r 0 rfl, F8, F8]
  by_cases h80 : 81 ≤ q
  ·rw [show decide (80 < (q : Int)) = true by simp; omega, cond_true]
   by_cases h96 : q ≤ 96
   ·rw [show decide ((q : Int) < 97) = true by simp; omega, cond_true, u8w (by omega) (by omega)]
    show some [Rs.d a (.i (q : Nat)), .d b (.l [.i ((q : Int) - 80)]), .d c (.i 1), .d d (.i 0)] = _
    simp only [nxS]
    rw [if_neg (by omega), if_neg (by omega), if_neg (by omega), if_pos ⟨h80, h96⟩, show (q : Int) - 80 = ((q - 80 : Nat) : Int) by omega]; rfl
   ·rw [show decide ((q : Int) < 97) = false by simp; omega, cond_false]; exact l (by omega)
  ·rw [show decide (80 < (q : Int)) = false by simp; omega, cond_false]; exact l (by omega)
variable {R : Type}
def S6 (x : List Nat) : List Nat := if x.length < 76 then x.length :: x else if x.length < 256 then 76 :: x.length :: x else 77 :: (x.length % 256) :: (x.length / 256) :: x
def A6T (x : V) : List V := (S6 (F1 x)).map nv
def M9 (l : List V) : List V := (l.map A6T).flatten
theorem Z4 {x : V} {ns : List Nat} (h : x.els = ns.map nv) : A6T x = (S6 ns).map nv := by unfold A6T; rw [J5 h]
theorem A4j (x : List Nat) : (S6 x).length ≤ x.length + 3 := by
 unfold S6
 split
 ·simp
 ·split <;> simp
def dpG (t : Nat) (bs : List V) : Option (List Rs) :=
 ln bs.length <| bif B7 (bs.length : Nat) 76 then (R9 (1 + bs.length) <| some [.r t (.i (IntKind.wrap .u8 (bs.length : Nat)) :: bs) false]) else
 bif B7 (bs.length : Nat) 256 then (R9 (2 + bs.length) <| some [.r t (.i 76 :: .i (IntKind.wrap .u8 (bs.length : Nat)) :: bs) false]) else
 R9 (3 + bs.length) <| some [.r t (.i 77 :: .i (IntKind.wrap .u8 (Int.tmod (bs.length : Nat) 256)) :: .i (IntKind.wrap .u8 (C6 (Int.tdiv (bs.length : Nat) 256))) :: bs) false]
def psg : List V → Bool
 | [x] => Nat.ble x.els.length 60000
 | _ => false
def psr (t : Nat) : List V → List Rs
 | [x] => [.r t (A6T x) false]
 | _ => []
theorem C4j {t : Nat} {ns : List Nat} (hl : ns.length ≤ 60000) : dpG t (ns.map nv) = some [.r t ((S6 ns).map nv) false] := by
 unfold dpG S6
 rw [D05, B5 (by omega), F8, F8]
 by_cases h1 : ns.length < 76
 ·rw [show decide ((ns.length : Int) < 76) = true by simp; omega, cond_true, D1 (by omega), if_pos h1, u8w (by omega) (by omega)]; rfl
 ·rw [show decide ((ns.length : Int) < 76) = false by simp; omega, cond_false, if_neg h1]
  by_cases h2 : ns.length < 256
  ·rw [show decide ((ns.length : Int) < 256) = true by simp; omega, cond_true, D1 (by omega), if_pos h2, u8w (by omega) (by omega)]; rfl
  ·rw [show decide ((ns.length : Int) < 256) = false by simp; omega, cond_false, D1 (by omega), if_neg h2]
   have e1 : Int.tmod (ns.length : Nat) 256 = ((ns.length % 256 : Nat) : Int) := by rw [Int.tmod_eq_emod_of_nonneg (by omega)]; omega
   have e2 : Int.tdiv (ns.length : Nat) 256 = ((ns.length / 256 : Nat) : Int) := by rw [Int.tdiv_eq_ediv_of_nonneg (by omega)]; omega
   rw [e1, e2, A1u (by omega), u8w (by omega) (by omega), u8w (by omega) (by omega)]; rfl
theorem C8M {kx : QPs → Option R} {l : V} : ∀ (r a xs : List V) (fuel : Nat), l.els = a ++ r → (∀ x ∈ r, (D.slice (.int .u8)).has x ∧ x.els.length ≤ 60000) → xs.length + r.length * 60003 ≤ 1000000000 → a.length + r.length ≤ 10000 → r.length < fuel →
  E2 (BPs R) fuel (.m xs l (l.els.length : Nat) (a.length : Nat)) kx = kx (.o (xs ++ M9 r) l (l.els.length : Nat) (l.els.length : Nat)) := by
 intro r
 induction r with
 | nil =>
  intro a xs fuel he hg hx ha hf
  obtain ⟨f, rfl⟩ : ∃ f, fuel = f + 1 := ⟨fuel - 1, by omega⟩
  rw [List.append_nil] at he
  rw [E2, C5e, A2K he, cond_false]
  simp [M9, he]
 | cons x r ih =>
  intro a xs fuel he hg hx ha hf
  obtain ⟨f, rfl⟩ : ∃ f, fuel = f + 1 := ⟨fuel - 1, by omega⟩
  simp only [D09] at hx ha hf
  have hle : l.els.length = a.length + (r.length + 1) := by rw [he]; simp
  have hat : l.nth ((a.length : Nat) : Int).toNat = x := U5 he
  obtain ⟨h1, h2⟩ := hg x (by simp)
  obtain ⟨ns, hns, hnb⟩ := A07 h1
  have hpl := A4j ns
  rw [hns, D05] at h2
  have ih := ih (a ++ [x]) (xs ++ A6T x) f (by rw [he]; simp) (fun y hy => hg y (by simp [hy])) (by rw [Z4 hns, D03, D05]; omega) (by simp; omega) (by omega)
  simp only [D03, D1a] at ih
  rw [E2, C5e, A2J he, cond_true, C1 (by omega) (by omega), hat, hns, D05, B5 (by omega), L1 (by omega)]
  refine Eq.trans ?_ (ih.trans ?_)
  ·rw [Z4 hns]
   unfold S6
   rw [P0, F8]
   by_cases c1 : ns.length < 76
   ·rw [show decide ((ns.length : Int) ≤ 75) = true by simp; omega, cond_true, u8w (by omega) (by omega), D1 (by simp; omega), D1 (by simp; omega), if_pos c1]
    simp [nv]
   ·rw [show decide ((ns.length : Int) ≤ 75) = false by simp; omega, cond_false, if_neg c1]
    by_cases c2 : ns.length < 256
    ·rw [show decide ((ns.length : Int) < 256) = true by simp; omega, cond_true, u8w (by omega) (by omega), D1 (by simp; omega), D1 (by simp; omega), if_pos c2]
     simp [nv]
    ·have e1 : IntKind.wrap .u8 (ns.length : Nat) = ((ns.length % 256 : Nat) : Int) := by
      show (if (false && decide (((ns.length : Nat) : Int) % 2 ^ 8 ≥ 2 ^ (8 - 1))) = true then ((ns.length : Nat) : Int) % 2 ^ 8 - 2 ^ 8 else ((ns.length : Nat) : Int) % 2 ^ 8) = _
      simp <;> omega
     have e2 : Int.fdiv (ns.length : Nat) 256 = ((ns.length / 256 : Nat) : Int) := by rw [Int.fdiv_eq_ediv_of_nonneg _ (by omega)]; omega
     rw [show decide ((ns.length : Int) < 256) = false by simp; omega, cond_false, e1, e2, u8w (by omega) (by omega), D1 (by simp; omega), D1 (by simp; omega), if_neg c2]
     simp [nv]
  ·simp [M9]
def ppG (t : Nat) (bs : List V) (l : V) : Option (List Rs) :=
 R9 ((List.replicate 0 (V.i 0)).length + bs.length) <| ln l.els.length <| E2 (BPs (List Rs)) (A2 FU) (.m (List.replicate 0 (V.i 0) ++ bs) l (l.els.length : Nat) 0) fun q => match q with
  | .o xs1 l1 n1 i1 => some [.r t xs1 false]
def ppg : List V → Bool
 | [b, l] => (!(isN b) && Nat.ble b.els.length 100000) && (Nat.ble l.els.length 1000 && l.els.all fun x => Nat.ble x.els.length 60000)
 | _ => false
theorem C9S {l : V} (h : ppg [.n, l] = true) : False := by cases h
def ppr (t : Nat) : List V → List Rs
 | [b, l] => [.r t (b.els ++ M9 l.els) false]
 | _ => []
theorem C4k {t : Nat} {bs : List V} {l : V} (hl : (D.slice (.slice (.int .u8))).has l) (hg : ppg [.l bs, l] = true) : ppG t bs l = some (ppr t [.l bs, l]) := by
 have hg : ((!(isN (.l bs)) && Nat.ble bs.length 100000) && (Nat.ble l.els.length 1000 && l.els.all fun x => Nat.ble x.els.length 60000)) = true := hg
 simp only [D02, Nat.ble_eq, List.all_eq_true] at hg
 obtain ⟨⟨_, g1⟩, g2, g3⟩ := hg
 have hq := P6
 unfold ppG
 rw [D1 (by simp; omega), B5 (by omega)]
 refine (C8M (l := l) l.els [] _ (A2 FU) rfl (fun x hx => ⟨Q3 hl x hx, g3 x hx⟩) (by simp; omega) (by simp; omega) (by omega)).trans ?_
 simp [ppr, V.els]
theorem C8N {kx : QEq → Option R} {a b c : V} {n : Nat} {A B : List Nat} (ha : a.els = A.map nv) (hb : b.els = B.map nv) (hA : A.length = n) (hB : B.length = n) (hn : n ≤ 1000000) : ∀ (k i fuel : Nat), i + k = n → k < fuel → A.take i = B.take i →
  E2 (BEq R) fuel (.m a b c (n : Nat) (i : Nat)) kx = (if A = B then kx (.o a b c (n : Nat) (n : Nat)) else E2 (BEq R) fuel (.m a b c (n : Nat) (i : Nat)) kx) ∧
  (A ≠ B → ∃ j : Int, E2 (BEq R) fuel (.m a b c (n : Nat) (i : Nat)) kx = kx (.r a b c (n : Nat) j)) := by
 intro k
 induction k with
 | zero =>
  intro i fuel hi hf ht
  have : A = B := by rw [← List.take_length (l := A), ← List.take_length (l := B), hA, hB, ← hi]; exact ht
  obtain ⟨f, rfl⟩ : ∃ f, fuel = f + 1 := ⟨fuel - 1, by omega⟩
  refine ⟨?_, fun h => absurd this h⟩
  rw [if_pos this, E2, C5f, F8, show decide (((i : Nat) : Int) < ((n : Nat) : Int)) = false by simp; omega, cond_false, show i = n by omega]
 | succ k ih =>
  intro i fuel hi hf ht
  obtain ⟨f, rfl⟩ : ∃ f, fuel = f + 1 := ⟨fuel - 1, by omega⟩
  have iA : i < A.length := by omega
  have iB : i < B.length := by omega
  have eA : (V.nth a ((i : Nat) : Int).toNat).int = (A[i] : Nat) := A8p ha (by simp [iA])
  have eB : (V.nth b ((i : Nat) : Int).toNat).int = (B[i] : Nat) := A8p hb (by simp [iB])
  have step : E2 (BEq R) (f + 1) (.m a b c (n : Nat) (i : Nat)) kx = bif !(decide (((A[i] : Nat) : Int) = ((B[i] : Nat) : Int))) then kx (.r a b c (n : Nat) (i : Nat)) else E2 (BEq R) f (.m a b c (n : Nat) ((i + 1 : Nat) : Int)) kx := by
   rw [E2, C5f, F8, show decide (((i : Nat) : Int) < ((n : Nat) : Int)) = true by simp; omega, cond_true, C1 (by omega) (by rw [ha, D05]; omega), C1 (by omega) (by rw [hb, D05]; omega), eA, eB, S5, L1 (by omega)]
  by_cases h : A[i] = B[i]
  ·have hd : decide (((A[i] : Nat) : Int) = ((B[i] : Nat) : Int)) = true := by simp [h]
   obtain ⟨h1, h2⟩ := ih (i + 1) f (by omega) (by omega) (by rw [List.take_succ_eq_append_getElem iA, List.take_succ_eq_append_getElem iB, ht, h])
   rw [step, hd, Bool.not_true, cond_false]
   exact ⟨h1, h2⟩
  ·have hd : decide (((A[i] : Nat) : Int) = ((B[i] : Nat) : Int)) = false := by simp; omega
   have hne : A ≠ B := by intro hh; subst hh; exact h rfl
   rw [step, hd, Bool.not_false, cond_true]
   exact ⟨by rw [if_neg hne], fun _ => ⟨_, rfl⟩⟩
def eqG (t : Nat) (a b : V) : Option (List Rs) :=
 ln a.els.length <| ln b.els.length <| bif !(G5 (a.els.length : Nat) (b.els.length : Nat)) then some [.d t (.b false)] else
 ln a.els.length <| E2 (BEq (List Rs)) (A2 FU) (.m a b a (a.els.length : Nat) 0) fun q => match q with
  | .o a1 b1 c1 n1 i1 => some [.d t (.b true)]
  | .r a1 b1 c1 n1 i1 => some [.d t (.b false)]
def eqg : List V → Bool
 | [a, b] => Nat.ble a.els.length 100000 && Nat.ble b.els.length 100000
 | _ => false
def eqr (t : Nat) : List V → List Rs
 | [a, b] => [.d t (.b (F7 a.els b.els))]
 | _ => []
theorem C0s : ∀ {a b : List Nat}, a.map nv = b.map nv → a = b := by
 intro a b h
 exact (List.map_inj_right (f := nv) (fun x y h => by injection h with h; omega)).1 h
theorem C4l (a b : List Nat) : F7 (a.map nv) (b.map nv) = decide (a = b) := by
 by_cases h : a = b
 ·subst h; simp [L0]
 ·simp only [h, decide_false]
  rw [← Bool.not_eq_true, L0]
  exact fun hh => h (C0s hh)
theorem C4m {t : Nat} {a b : V} (ha : (D.slice (.int .u8)).has a) (hb : (D.slice (.int .u8)).has b) (hg : eqg [a, b] = true) : eqG t a b = some (eqr t [a, b]) := by
 have hg : (Nat.ble a.els.length 100000 && Nat.ble b.els.length 100000) = true := hg
 simp only [D02, Nat.ble_eq] at hg
 obtain ⟨g1, g2⟩ := hg
 have hq := P6
 obtain ⟨A, hA, _⟩ := A07 ha
 obtain ⟨B, hB, _⟩ := A07 hb
 have lA : a.els.length = A.length := by rw [hA, D05]
 have lB : b.els.length = B.length := by rw [hB, D05]
 show eqG t a b = some [.d t (.b (F7 a.els b.els))]
 unfold eqG
 rw [B5 (by omega), B5 (by omega), S5, hA, hB, C4l, D05, D05]
 by_cases hl : A.length = B.length
 ·rw [show decide ((A.length : Int) = (B.length : Int)) = true by simp; omega, Bool.not_true, cond_false, B5 (by omega)]
  obtain ⟨h1, h2⟩ := C8N (R := List Rs) (c := a) (kx := fun q => match q with
   | .o a1 b1 c1 n1 i1 => some [.d t (.b true)]
   | .r a1 b1 c1 n1 i1 => some [.d t (.b false)]) hA hB rfl hl.symm (by omega) A.length 0 (A2 FU) (by omega) (by omega) rfl
  by_cases h : A = B
  ·rw [if_pos h] at h1
   refine h1.trans ?_
   simp [h]
  ·obtain ⟨j, hj⟩ := h2 h
   refine hj.trans ?_
   simp [h]
 ·rw [show decide ((A.length : Int) = (B.length : Int)) = false by simp; omega, Bool.not_false, cond_true]
  have : A ≠ B := fun h => hl (by rw [h])
  simp [this]
inductive PPd where
 | m (bs : List V) (xs : List V) (nl : Bool) (n : Int) (i : Int)
inductive QPd where
 | o (bs : List V) (xs : List V) (nl : Bool) (n : Int) (i : Int)
 | r (bs : List V) (xs : List V) (nl : Bool) (n : Int) (i : Int)
def BPd (R : Type) (p : PPd) (K : PPd → Option R) (kx : QPd → Option R) : Option R :=
 match p with
 | .m bs xs nl n i =>
  bif B7 i n then
   bif Nat.ble bs.length 1000000 then
   bif !(G5 (nxE (.l bs)) 0) then
   kx (.r bs xs nl n i)
   else
   R9 (xs.length + ([(nxD (.l bs))]).length) <|
   bif ((C2 0 (nxU (.l bs))) && (C2 (nxU (.l bs)) (bs.length : Nat))) && (C2 (bs.length : Nat) (bs.length : Nat)) then
   K (.m (List.take ((((bs.length : Nat) - (nxU (.l bs)))).toNat) (List.drop (((nxU (.l bs))).toNat) bs)) (xs ++ [(nxD (.l bs))]) (nl && ([(nxD (.l bs))]).isEmpty) n (C6 (i + 1)))
   else
   none
   else
   none
   else
   kx (.o bs xs nl n i)
abbrev C5g := @BPd.eq_1
inductive PPu where
 | m (xs : List V) (l : V) (n : Int) (i : Int)
inductive QPu where
 | o (xs : List V) (l : V) (n : Int) (i : Int)
def BPu (R : Type) (p : PPu) (K : PPu → Option R) (kx : QPu → Option R) : Option R :=
 match p with
 | .m xs l n i =>
  bif B7 i n then
   ck i ((l.els).length) <|
   bif Nat.ble ((((V.nth l i.toNat)).els).length) 60000 then
   R9 (xs.length + ((A6T (.l (((V.nth l i.toNat)).els)))).length) <|
   K (.m (xs ++ (A6T (.l (((V.nth l i.toNat)).els)))) l n (C6 (i + 1)))
   else
   none
   else
   kx (.o xs l n i)
abbrev C5h := @BPu.eq_1
inductive B5n where
 | m (bs : List V) (z : V) (e : V) (xs : List V) (a : Int)
inductive C8O where
 | o (bs : List V) (z : V) (e : V) (xs : List V) (a : Int)
def C0t (R : Type) (p : B5n) (K : B5n → Option R) (kx : C8O → Option R) : Option R :=
 match p with
 | .m bs z e xs a =>
  ln xs.length <|
   bif B7 (xs.length : Nat) 3 then
   ln bs.length <|
   bif C2 a (bs.length : Nat) then
   bif ((C2 0 a) && (C2 a (bs.length : Nat))) && (C2 (bs.length : Nat) (bs.length : Nat)) then
   bif Nat.ble (((List.take ((((bs.length : Nat) - a)).toNat) (List.drop a.toNat bs))).length) 1000000 then
   bif !(G5 (nxE (.l (List.take ((((bs.length : Nat) - a)).toNat) (List.drop a.toNat bs)))) 0) then
   kx (.o bs z e xs a)
   else
   R9 (xs.length + ([(V.s (((nxD (.l (List.take ((((bs.length : Nat) - a)).toNat) (List.drop a.toNat bs))))).els))]).length) <|
   K (.m bs z e (xs ++ [(V.s (((nxD (.l (List.take ((((bs.length : Nat) - a)).toNat) (List.drop a.toNat bs))))).els))]) (C6 (a + (nxU (.l (List.take ((((bs.length : Nat) - a)).toNat) (List.drop a.toNat bs)))))))
   else
   none
   else
   none
   else
   kx (.o bs z e xs a)
   else
   kx (.o bs z e xs a)
abbrev C0u := @C0t.eq_1
inductive B5o where
 | m (bs : List V) (z : V) (e : V) (xs : List V)
inductive C8P where
 | o (bs : List V) (z : V) (e : V) (xs : List V)
def B5p (R : Type) (p : B5o) (K : B5o → Option R) (kx : C8P → Option R) : Option R :=
 match p with
 | .m bs z e xs =>
  ln xs.length <|
   bif B7 (xs.length : Nat) 3 then
   R9 (xs.length + ([(V.s ([] : List V))]).length) <|
   K (.m bs z e (xs ++ [(V.s ([] : List V))]))
   else
   kx (.o bs z e xs)
abbrev C0v := @B5p.eq_1
inductive B5q where
 | m (bs : List V) (z : V) (e : V) (xs : List V) (i : Int)
inductive C8Q where
 | o (bs : List V) (z : V) (e : V) (xs : List V) (i : Int)
def B11 (R : Type) (p : B5q) (K : B5q → Option R) (kx : C8Q → Option R) : Option R :=
 match p with
 | .m bs z e xs i =>
  bif B7 i 20 then
   ck 0 xs.length <|
   ck i ((((List.getD xs 0 .n)).els).length) <|
   ck i 20 <|
   K (.m bs z (V.put e 4 (V.put (V.nth e 4) i.toNat (.i (((List.getD (((List.getD xs 0 .n)).els) i.toNat .n)).int)))) xs (C6 (i + 1)))
   else
   kx (.o bs z e xs i)
abbrev C0w := @B11.eq_1
variable {R : Type}
def pcs : Nat → List Nat → Option (List (List Nat) × List Nat)
 | 0, b => some ([], b)
 | n + 1, b => match nxS b with
  | none => none
  | some q => match pcs n (b.drop q.2.2) with
   | none => none
   | some p => some (q.2.1 :: p.1, p.2)
def lsW (l : List (List Nat)) : List V := l.map fun x => .l (x.map nv)
def pdO (x : V) (n : Int) : Bool := (pcs n.toNat (F1 x)).isSome
def pdL (x : V) (n : Int) : List V := match pcs n.toNat (F1 x) with
 | some q => lsW q.1
 | none => []
def pdB (x : V) (n : Int) : V := match pcs n.toNat (F1 x) with
 | some q => .l (q.2.map nv)
 | none => .n
theorem C8R {c h n : Nat} {l : List Nat} {q : Nat × List Nat × Nat} (h1 : tkS c h n l = some q) : q.2.2 ≤ l.length ∧ h ≤ q.2.2 ∧ ∀ x ∈ q.2.1, x ∈ l := by
 unfold tkS at h1
 split at h1
 ·rename_i hc
  cases h1
  exact ⟨hc, Nat.le_add_right .., fun x hx => List.mem_of_mem_drop (List.mem_of_mem_take hx)⟩
 ·cases h1
theorem A8U {b : List Nat} {q : Nat × List Nat × Nat} (h : nxS b = some q) (hb : ∀ x ∈ b, x < 256) : q.2.2 ≤ b.length ∧ 1 ≤ q.2.2 ∧ (∀ x ∈ q.2.1, x < 256) ∧ q.2.1.length ≤ b.length := by
 have tk : ∀ {c hh n : Nat}, 1 ≤ hh → tkS c hh n b = some q → q.2.2 ≤ b.length ∧ 1 ≤ q.2.2 ∧ (∀ x ∈ q.2.1, x < 256) ∧ q.2.1.length ≤ b.length := by
  intro c hh n h1 ht
  obtain ⟨p1, p2, p3⟩ := C8R ht
  refine ⟨p1, by omega, fun x hx => hb x (p3 x hx), ?_⟩
  unfold tkS at ht
  split at ht
  ·cases ht; simp; omega
  ·cases ht
 cases b with
 | nil => cases h
 | cons c r =>
  have hc := hb c (by simp)
  simp only [nxS] at h
  by_cases c1 : c ≤ 75
  ·rw [if_pos c1] at h; exact tk (by omega) h
  rw [if_neg c1] at h
  by_cases c2 : c = 76
  ·rw [if_pos c2] at h
   cases r with
   | nil => cases h
   | cons n r => exact tk (by omega) h
  rw [if_neg c2] at h
  by_cases c3 : c = 77
  ·rw [if_pos c3] at h
   match r, h with
   | [], h => cases h
   | [_], h => cases h
   | n :: m :: r, h => exact tk (by omega) h
  rw [if_neg c3] at h
  by_cases c4 : 81 ≤ c ∧ c ≤ 96
  ·rw [if_pos c4] at h
   cases h
   refine ⟨by simp, by simp, fun x hx => ?_, by simp⟩
   simp only [List.mem_singleton] at hx; omega
  ·rw [if_neg c4] at h; exact tk (by omega) h
theorem B0f {B : List Nat} : (∀ q, nxS B = some q → nxE (.l (B.map nv)) = 0 ∧ nxD (.l (B.map nv)) = .l (q.2.1.map nv) ∧ nxU (.l (B.map nv)) = (q.2.2 : Nat)) ∧ (nxS B = none → nxE (.l (B.map nv)) = 71) := by
 have e : F1 (.l (B.map nv)) = B := J5 rfl
 unfold nxE nxD nxU
 rw [e]
 exact ⟨fun q h => by rw [h]; exact ⟨rfl, rfl, rfl⟩, fun h => by rw [h]⟩
theorem C4n {kx : QPd → Option R} {ko : List V → List V → Bool → Option R} {kr : Option R} {n : Nat} (ho : ∀ b x nl i, kx (.o b x nl (n : Nat) i) = ko b x nl) (hr : ∀ b x nl i, kx (.r b x nl (n : Nat) i) = kr) (hn : n ≤ 10) : ∀ (m i : Nat) (B : List Nat) (xs : List V) (nl : Bool) (fuel : Nat), i + m = n → (∀ x ∈ B, x < 256) → B.length ≤ 1000000 → xs.length ≤ i → m < fuel →
  E2 (BPd R) fuel (.m (B.map nv) xs nl (n : Nat) (i : Nat)) kx = (match pcs m B with
   | some p => ko (p.2.map nv) (xs ++ lsW p.1) (nl && p.1.isEmpty)
   | none => kr) := by
 intro m
 induction m with
 | zero =>
  intro i B xs nl fuel hi hb hl hx hf
  obtain ⟨f, rfl⟩ : ∃ f, fuel = f + 1 := ⟨fuel - 1, by omega⟩
  rw [E2, C5g, F8, show decide (((i : Nat) : Int) < ((n : Nat) : Int)) = false by simp; omega, cond_false, ho]
  simp [pcs, lsW]
 | succ m ih =>
  intro i B xs nl fuel hi hb hl hx hf
  obtain ⟨f, rfl⟩ : ∃ f, fuel = f + 1 := ⟨fuel - 1, by omega⟩
  obtain ⟨n1, n2⟩ := @B0f B
  rw [E2, C5g, F8, show decide (((i : Nat) : Int) < ((n : Nat) : Int)) = true by simp; omega, cond_true, D05, D1b hl, cond_true]
  simp only [pcs]
  cases hq : nxS B with
  | none =>
   rw [n2 hq, S5, show decide ((71 : Int) = 0) = false by decide, Bool.not_false, cond_true, hr]
  | some q =>
   obtain ⟨e1, e2, e3⟩ := n1 q hq
   obtain ⟨u1, u2, u3, _⟩ := A8U hq hb
   rw [e1, e2, e3, S5, show decide ((0 : Int) = 0) = true by decide, Bool.not_true, cond_false, D1 (by simp; omega), show ((C2 0 (q.2.2 : Nat) && C2 (q.2.2 : Nat) (B.length : Nat)) && C2 (B.length : Nat) (B.length : Nat)) = true by simp only [P0, D02, D1d]; omega, cond_true, L1 (by omega)]
   have c1 : List.take ((B.length : Int) - (q.2.2 : Nat)).toNat (List.drop (((q.2.2 : Nat) : Int)).toNat (B.map nv)) = (B.drop q.2.2).map nv := by
    rw [show (((q.2.2 : Nat) : Int)).toNat = q.2.2 by omega, List.take_of_length_le (by simp <;> omega), List.map_drop]
   rw [c1]
   refine (ih (i + 1) (B.drop q.2.2) (xs ++ [.l (q.2.1.map nv)]) _ f (by omega) (fun x hx => hb x (List.mem_of_mem_drop hx)) (by simp; omega) (by simp; omega) (by omega)).trans ?_
   cases hp : pcs m (B.drop q.2.2) with
   | none => simp only [hp]
   | some p => simp [lsW, hp]
def pdG (ts t b : Nat) (bs : List V) (n : Int) : Option (List Rs) :=
 E2 (BPd (List Rs)) (A2 FU) (.m bs [] true n 0) fun q => match q with
  | .o b1 x1 nl1 n1 i1 => some [.r ts x1 nl1, .d t (.l b1), .d b (.b true)]
  | .r b1 x1 nl1 n1 i1 => some [.r ts [] true, .d t .n, .d b (.b false)]
def pdg : List V → Bool
 | [x, n] => (!(isN x) && Nat.ble x.els.length 1000000) && (C2 1 n.int && C2 n.int 3)
 | _ => false
def pdr (ts t b : Nat) : List V → List Rs
 | [x, n] => [.r ts (pdL x n.int) (!(pdO x n.int)), .d t (pdB x n.int), .d b (.b (pdO x n.int))]
 | _ => []
theorem C9T {n : V} (h : pdg [.n, n] = true) : False := by cases h
theorem C4o {ts t b : Nat} {ns : List Nat} {n : Int} (hb : ∀ x ∈ ns, x < 256) (hg : pdg [.l (ns.map nv), .i n] = true) : pdG ts t b (ns.map nv) n = some (pdr ts t b [.l (ns.map nv), .i n]) := by
 have hg : ((!(isN (.l (ns.map nv))) && Nat.ble (ns.map nv).length 1000000) && (C2 1 n && C2 n 3)) = true := hg
 simp only [D02, Nat.ble_eq, P0, D1d, D05] at hg
 obtain ⟨⟨_, g1⟩, g2, g3⟩ := hg
 have hq := P6
 obtain ⟨m, rfl⟩ : ∃ m : Nat, n = m := ⟨n.toNat, by omega⟩
 unfold pdG
 refine (C4n (n := m) (ko := fun b1 x1 nl1 => some [Rs.r ts x1 nl1, .d t (.l b1), .d b (.b true)]) (kr := some [Rs.r ts [] true, .d t .n, .d b (.b false)]) (fun _ _ _ _ => rfl) (fun _ _ _ _ => rfl) (by omega) m 0 ns [] true (A2 FU) (by omega) hb g1 (by simp) (by omega)).trans ?_
 show _ = some [Rs.r ts (pdL (.l (ns.map nv)) m) (!(pdO (.l (ns.map nv)) m)), .d t (pdB (.l (ns.map nv)) m), .d b (.b (pdO (.l (ns.map nv)) m))]
 have e : F1 (.l (ns.map nv)) = ns := J5 rfl
 unfold pdL pdO pdB
 rw [e, show ((m : Int)).toNat = m by omega]
 cases hp : pcs m ns with
 | none => rfl
 | some p =>
  have : p.1.isEmpty = false := by
   match m, hp, g2 with
   | k + 1, hp, _ =>
    simp only [pcs] at hp
    split at hp
    ·cases hp
    ·split at hp
     ·cases hp
     ·cases hp; rfl
  simp [this]
theorem C8S {kx : QPu → Option R} {l : V} : ∀ (r a xs : List V) (fuel : Nat), l.els = a ++ r → (∀ x ∈ r, D.str.has x ∧ x.els.length ≤ 60000) → xs.length + r.length * 60003 ≤ 1000000000 → a.length + r.length ≤ 10000 → r.length < fuel →
  E2 (BPu R) fuel (.m xs l (l.els.length : Nat) (a.length : Nat)) kx = kx (.o (xs ++ M9 r) l (l.els.length : Nat) (l.els.length : Nat)) := by
 intro r
 induction r with
 | nil =>
  intro a xs fuel he hg hx ha hf
  obtain ⟨f, rfl⟩ : ∃ f, fuel = f + 1 := ⟨fuel - 1, by omega⟩
  rw [List.append_nil] at he
  rw [E2, C5h, A2K he, cond_false]
  simp [M9, he]
 | cons x r ih =>
  intro a xs fuel he hg hx ha hf
  obtain ⟨f, rfl⟩ : ∃ f, fuel = f + 1 := ⟨fuel - 1, by omega⟩
  simp only [D09] at hx ha hf
  have hle : l.els.length = a.length + (r.length + 1) := by rw [he]; simp
  have hat : l.nth ((a.length : Nat) : Int).toNat = x := U5 he
  obtain ⟨⟨ns, rfl, hns⟩, h2⟩ := hg x (by simp)
  have hpl := A4j ns
  have hps : A6T (.l (V.s (ns.map nv)).els) = (S6 ns).map nv := Z4 (x := .l (ns.map nv)) rfl
  have hps2 : A6T (V.s (ns.map nv)) = (S6 ns).map nv := Z4 (x := .s (ns.map nv)) rfl
  have h2' : ns.length ≤ 60000 := by rw [← D05 (f := nv)]; exact h2
  have ih := ih (a ++ [.s (ns.map nv)]) (xs ++ (S6 ns).map nv) f (by rw [he]; simp) (fun y hy => hg y (by simp [hy])) (by rw [D03, D05]; omega) (by simp; omega) (by omega)
  simp only [D03, D1a] at ih
  rw [E2, C5h, A2J he, cond_true, C1 (by omega) (by omega), hat, D1b h2, cond_true, hps, D1 (by rw [D05]; omega), L1 (by omega)]
  refine ih.trans ?_
  simp [M9, hps2]
def puG (t : Nat) (l : V) : Option (List Rs) :=
 ln l.els.length <| E2 (BPu (List Rs)) (A2 FU) (.m (List.replicate 0 (V.i 0)) l (l.els.length : Nat) 0) fun q => match q with
  | .o xs1 l1 n1 i1 => some [.r t xs1 false]
def pug : List V → Bool
 | [l] => Nat.ble l.els.length 1000 && l.els.all fun x => Nat.ble x.els.length 60000
 | _ => false
def pur (t : Nat) : List V → List Rs
 | [l] => [.r t (M9 l.els) false]
 | _ => []
theorem C4p {t : Nat} {l : V} (hl : (D.slice .str).has l) (hg : pug [l] = true) : puG t l = some (pur t [l]) := by
 have hg : (Nat.ble l.els.length 1000 && l.els.all fun x => Nat.ble x.els.length 60000) = true := hg
 simp only [D02, Nat.ble_eq, List.all_eq_true] at hg
 obtain ⟨g2, g3⟩ := hg
 have hq := P6
 unfold puG
 rw [B5 (by omega)]
 refine (C8S (l := l) l.els [] _ (A2 FU) rfl (fun x hx => ⟨Q3 hl x hx, g3 x hx⟩) (by simp; omega) (by simp; omega) (by omega)).trans ?_
 simp [pur]
end Go.Vm
end