/- What the operations of a program do, shown once for all programs; and numbers. -/
import Derived.Test.YtdilkihonfnpcaaGreatVm12
set_option linter.constructorNameAsVariable false
set_option linter.unusedVariables false
set_option linter.unusedSimpArgs false
noncomputable section
namespace Go.Vm
open Go.RowKit
set_option linter.unusedVariables false
set_option linter.constructorNameAsVariable false

/-! ### The document's texts -/
def dtF (t s : Nat) : FC := fun R xs k => match xs with
  | [x, m] => bif rdO x then k [.d t (txX x m.int), .d s (.l (txV x m.int).els)] else none
  | _ => none
theorem dtF_nat (t s : Nat) : FC.nat (dtF t s) := by
  intro R xs k
  unfold dtF
  split
  · rename_i x m; cases rdO x <;> rfl
  · rfl
theorem dtxF_at {t s : Nat} {x n : V} {rs : List Rs} (h : dtF t s (List Rs) [x, n] some = some rs) : rdO x = true ∧ some rs = some [.d t (txX x n.int), .d s (.l (txV x n.int).els)] := by
  unfold dtF at h; simp only at h
  cases ho : rdO x with
  | false => rw [ho] at h; cases h
  | true => rw [ho] at h; exact ⟨rfl, h.symm⟩
def dtE {R : Type} (t s : Nat) (z : V) (v : Int) (k : List Rs → Option R) : Option R :=
  bif !ieq (rdE z) 0 then k [.d t z, .d s (.l [])] else
  bnds (0 : Nat) (W64 v) (rdL z).length <| lim (0 + (subV (z.nth 0) (((0 : Nat) : Int)).toNat (W64 v - ((0 : Nat) : Int)).toNat).els.length) <| bnds (W64 v) ((rdL z).length : Nat) (rdL z).length <|
  k [.d t (z.put 0 (subV (z.nth 0) (W64 v).toNat (((rdL z).length : Nat) - W64 v).toNat)), .d s (.l (subV (z.nth 0) (((0 : Nat) : Int)).toNat (W64 v - ((0 : Nat) : Int)).toNat).els)]
def dtG {R : Type} (t s : Nat) (x : V) (n : Int) (k : List Rs → Option R) : Option R :=
  bif rdO x then (fun (y : V) (v : Int) =>
    bif ieq (rdE y) 0 then ln (rdL y).length <| bif ilt (WU ((rdL y).length : Nat)) v then dtE t s ((y.put 1 (.i 61)).put 0 (x.nth 0)) v k else dtE t s y v k else dtE t s y v k) (ctX x (WU (mxI n))) (ctV x (WU (mxI n))) else none
theorem numE_pos (l : List V) : 0 ≤ numE l := by
  cases l with
  | nil => exact Int.le_refl _
  | cons a r =>
    have := bitsOf_inRb .or .u64 (WU (numE r * 2 ^ 8)) (WU a.int)
    unfold inRb at this
    rw [Bool.and_eq_true, ile_iff, ile_iff] at this
    exact this.1
theorem wu_pos (n : Int) : 0 ≤ WU n := (wrap_inR .u64 n).1
theorem pkA_spec (x : V) (most n used : Int) (hn : 0 ≤ n) : 0 ≤ (pkA x most n used).1 ∧ ((pkA x most n used).2.2 = 0 ∨ (pkA x most n used).2.1 = 0) := by
  unfold pkA
  cases (!ieq ((cntL n).length : Nat) used)
  · cases ilt most n
    · exact ⟨hn, .inl rfl⟩
    · exact ⟨Int.le_refl _, .inr rfl⟩
  · exact ⟨Int.le_refl _, .inr rfl⟩
theorem pkX_spec (x : V) (most : Int) : 0 ≤ (pkX x most).1 ∧ ((pkX x most).2.2 = 0 ∨ (pkX x most).2.1 = 0) := by
  have b : ∀ u : Int, 0 ≤ (pkB x most u).1 ∧ ((pkB x most u).2.2 = 0 ∨ (pkB x most u).2.1 = 0) := by
    intro u
    unfold pkB
    cases ilt ((rdL x).length : Nat) u
    · exact pkA_spec x _ _ _ (numE_pos _)
    · exact ⟨Int.le_refl _, .inr rfl⟩
  unfold pkX
  cases ieq ((rdL x).length : Nat) 0
  · cases ieq (hdI x) 253
    · cases ieq (hdI x) 254
      · cases ieq (hdI x) 255
        · cases ilt ((rdL x).length : Nat) 1
          · exact pkA_spec x _ _ _ (wu_pos _)
          · exact ⟨Int.le_refl _, .inr rfl⟩
        · exact b 9
      · exact b 5
    · exact b 3
  · exact ⟨Int.le_refl _, .inr rfl⟩
theorem sub_all (xs : List V) : sub xs 0 (xs.length : Nat) = xs := by unfold sub; simp
theorem sub_tail_len (xs : List V) (u : Int) (h0 : 0 ≤ u) : (sub xs u (xs.length : Nat)).length = xs.length - u.toNat := by
  unfold sub; rw [List.length_take, List.length_drop]; omega
/-- Behind the count: a text. -/
theorem dt_take (t s : Nat) (l : List V) (v : Int) (hl : l.length ≤ 1073741824) (h0 : 0 ≤ v) (hv : v ≤ (l.length : Nat)) :
    dtE t s (.l [.l l, .i 0]) v some = some [.d t (rawX (.l [.l l, .i 0]) (W64 v)), .d s (.l (rawV (.l [.l l, .i 0]) (W64 v)).els)] := by
  unfold dtE rawX rawV
  have eL : rdL (.l [.l l, .i 0]) = l := rfl
  have eE : rdE (.l [.l l, .i 0]) = 0 := rfl
  have e0 : (V.l [.l l, .i 0]).nth 0 = .l l := rfl
  rw [eL, eE, e0, w64_in (n := v) (by omega) (by omega), show (!ieq (0 : Int) 0) = false from rfl]
  simp only [cond_false]
  have hsl : (subV (.l l) (((0 : Nat) : Int)).toNat (v - ((0 : Nat) : Int)).toNat).els = sub l (0 : Nat) v := rfl
  have hsl2 : subV (.l l) v.toNat (((l.length : Nat) : Int) - v).toNat = .l (sub l v (l.length : Nat)) := rfl
  rw [hsl, hsl2]
  have := sub_len l (0 : Nat) v
  rw [bnds_in (by omega) (by omega) (by omega), lim_in (by omega), bnds_in (by omega) (by omega) (by omega)]
  cases h1 : ilt v 1
  · have h1 := not_ilt h1
    have h2 : ilt (l.length : Nat) v = false := by
      cases hq : ilt (l.length : Nat) v with
      | false => rfl
      | true => simp [ilt] at hq; omega
    rw [h2]; rfl
  · have h1 : v = 0 := by simp [ilt] at h1; omega
    subst h1
    rw [sub_all]
    simp only [cond_true]
    rw [show sub l (0 : Nat) 0 = [] by unfold sub; simp]
    rfl
theorem dt_law (t s : Nat) {ys : List Nat} {err n : Int} (hb : Byt ys) (ho : rdO (.l [.l (ys.map nv), .i err]) = true) : dtG t s (.l [.l (ys.map nv), .i err]) n some = some [.d t (txX (.l [.l (ys.map nv), .i err]) n), .d s (.l (txV (.l [.l (ys.map nv), .i err]) n).els)] := by
  have hl : (ys.map nv).length ≤ 1073741824 := Nat.le_of_ble_eq_true ho
  generalize ys.map nv = xs at *
  have eL : rdL (.l [.l xs, .i err]) = xs := rfl
  have eE : rdE (.l [.l xs, .i err]) = err := rfl
  have eN : ctX.isN (.l [.l xs, .i err]) = false := rfl
  have e0 : (V.l [.l xs, .i err]).nth 0 = .l xs := rfl
  unfold dtG txX txV ctX ctV
  rw [ho, eE, eN, eL]
  simp only [cond_true]
  cases he : ieq err 0 with
  | false =>
    simp only [Bool.not_false, cond_true]
    rw [eE, he]
    simp only [cond_false]
    unfold dtE
    rw [eE, he]; rfl
  | true =>
    have he := ieq_iff.1 he
    subst he
    simp only [Bool.not_true, cond_false]
    unfold txI txP txR
    obtain ⟨q0, q1⟩ := pkX_spec (.l [.l xs, .i 0]) (WU (mxI n))
    obtain ⟨q2, q3⟩ := pk_used (x := .l [.l xs, .i 0]) (most := WU (mxI n))
    rw [show rdL (.l [.l xs, .i 0]) = xs from rfl] at q3 ⊢
    generalize pkX (.l [.l xs, .i 0]) (WU (mxI n)) = p at q0 q1 q2 q3 ⊢
    obtain ⟨p1, p2, p3⟩ := p
    simp only at q0 q1 q2 q3 ⊢
    rw [show rdE (.l [.l (sub xs p2 (xs.length : Nat)), .i p3]) = p3 from rfl, show rdL (.l [.l (sub xs p2 (xs.length : Nat)), .i p3]) = sub xs p2 (xs.length : Nat) from rfl]
    have hsl := sub_tail_len xs p2 q2
    cases h3 : ieq p3 0 with
    | false =>
      have hp2 : p2 = 0 := q1.resolve_left (fun h => by rw [h] at h3; cases h3)
      subst hp2
      simp only [cond_false]
      rw [sub_all, h3]
      unfold dtE
      rw [show rdE (.l [.l xs, .i p3]) = p3 from rfl, h3]; rfl
    | true =>
      have h3 := ieq_iff.1 h3
      subst h3
      simp only [cond_true]
      rw [ln_in (by omega), w64_in (n := ((xs.length : Nat) : Int) - p2) (by omega) (by omega), show ((xs.length : Nat) : Int) - p2 = (((sub xs p2 (xs.length : Nat)).length : Nat) : Int) by omega]
      cases h4 : ilt (WU (((sub xs p2 (xs.length : Nat)).length : Nat) : Int)) p1 with
      | true => rfl
      | false =>
        have h4 := not_ilt h4
        rw [wu64_lt (by omega)] at h4
        simp only [cond_false]
        exact dt_take t s _ p1 (by omega) q0 (by omega)
theorem dt_lawN (t s : Nat) {err n : Int} : dtG t s (.l [.n, .i err]) n some = some [.d t (txX (.l [.n, .i err]) n), .d s (.l (txV (.l [.n, .i err]) n).els)] := by
  have ho : rdO (.l [.n, .i err]) = true := rfl
  have eE : rdE (.l [.n, .i err]) = err := rfl
  have eN : ctX.isN (.l [.n, .i err]) = true := rfl
  have eP : ∀ m, pkX (.l [.n, .i 0]) m = (0, 0, 61) := fun m => rfl
  unfold dtG txX txV ctX ctV
  rw [ho, eE, eN]
  simp only [cond_true]
  cases he : ieq err 0 with
  | false =>
    simp only [Bool.not_false, cond_true]
    rw [eE, he]
    simp only [cond_false]
    unfold dtE
    rw [eE, he]; rfl
  | true =>
    have he := ieq_iff.1 he
    subst he
    unfold txI txP txR
    rw [eP]
    rfl
end Go.Vm

namespace Go.Vm
open Go.RowKit
set_option linter.unusedVariables false
set_option linter.constructorNameAsVariable false

/-! ### The document's references: bytes set one by one -/
inductive PRr where
  | m (y s r0 r : V) (a i : Int)
inductive QRr where
  | o (y s r0 r : V) (a i : Int)
def BRr (R : Type) (p : PRr) (K : PRr → Option R) (kx : QRr → Option R) : Option R :=
  match p with
  | .m y s r0 r a i => bif ilt i 32 then (bif ile 0 i && ilt i (y.els.length : Nat) then (bif ile 0 i && ilt i (32 : Nat) then
      K (.m y s r0 (r.put 0 ((r.nth 0).put i.toNat (.i (y.nth i.toNat).int))) a (W64 (i + 1))) else none) else none) else kx (.o y s r0 r a i)
def zRef : V := .l [.l (List.replicate 32 (.i 0)), .i 0]
noncomputable def drrG {R : Type} (t ref : Nat) (x : V) (k : List Rs → Option R) : Option R :=
  bif rdO x then bif rdO (rawX x 32) then
    bif !ieq (rdE (rawX (rawX x 32) (wiI 4))) 0 then k [.d t (rawX (rawX x 32) (wiI 4)), .d ref zRef] else
    lpC (BRr R) (hid FU) (.m (.l (rawV x 32).els) (rawX (rawX x 32) (wiI 4)) zRef zRef (numE (rawV (rawX x 32) (wiI 4)).els) 0) (fun | .o y s r0 r a i => k [.d t s, .d ref (r.put 1 (.i (IntKind.wrap .u32 a)))]) else none else none
theorem set_step {hs : List Nat} {z : List V} {i : Nat} (h1 : i < hs.length) (h2 : hs.length ≤ z.length) : ((hs.map nv).take i ++ z.drop i).set i (.i (V.nth (.l (hs.map nv)) i).int) = (hs.map nv).take (i + 1) ++ z.drop (i + 1) := by
  have e : V.nth (.l (hs.map nv)) i = nv hs[i] := by
    show (hs.map nv).getD i .n = _
    rw [List.getD_eq_getElem?_getD, List.getElem?_map, List.getElem?_eq_getElem h1]; rfl
  rw [e, show V.i (nv hs[i]).int = nv hs[i] from rfl]
  have hl : ((hs.map nv).take i).length = i := by simp; omega
  rw [List.set_append_right _ _ (by omega), hl, Nat.sub_self, List.drop_eq_getElem_cons (by omega), List.set_cons_zero]
  have : (hs.map nv).take (i + 1) = (hs.map nv).take i ++ [nv hs[i]] := by
    rw [List.take_add_one, List.getElem?_map, List.getElem?_eq_getElem h1]; rfl
  rw [this, List.append_assoc]; rfl
theorem rr_loop {R : Type} {hs : List Nat} (h32 : hs.length = 32) {s r0 c : V} {z : List V} (hz : z.length = 32) {a : Int} (k : QRr → Option R) : ∀ (d i fuel : Nat), i + d = 32 → d < fuel →
    lpC (BRr R) fuel (.m (.l (hs.map nv)) s r0 (.l [.l ((hs.map nv).take i ++ z.drop i), c]) a (i : Int)) k = k (.o (.l (hs.map nv)) s r0 (.l [.l (hs.map nv), c]) a 32) := by
  intro d
  induction d with
  | zero =>
    intro i fuel hi hf
    obtain ⟨f, rfl⟩ : ∃ f, fuel = f + 1 := ⟨fuel - 1, by omega⟩
    have : i = 32 := by omega
    subst this
    rw [show (hs.map nv).take 32 = hs.map nv from List.take_of_length_le (by simp; omega), List.drop_eq_nil_of_le (by omega), List.append_nil]
    rfl
  | succ d ih =>
    intro i fuel hi hf
    obtain ⟨f, rfl⟩ : ∃ f, fuel = f + 1 := ⟨fuel - 1, by omega⟩
    show (bif ilt (i : Int) 32 then (bif ile 0 (i : Int) && ilt (i : Int) ((hs.map nv).length : Nat) then (bif ile 0 (i : Int) && ilt (i : Int) (32 : Nat) then lpC (BRr R) f (.m (.l (hs.map nv)) s r0 (.l [.l (((hs.map nv).take i ++ z.drop i).set i (.i (V.nth (.l (hs.map nv)) i).int)), c]) a (W64 ((i : Int) + 1))) k else none) else none) else _) = _
    rw [show ilt (i : Int) 32 = true by rw [show (32 : Int) = ((32 : Nat) : Int) from rfl, ilt_nat]; exact decide_eq_true (by omega), show ile 0 (i : Int) = true from ile_iff.2 (by omega), show ilt (i : Int) ((hs.map nv).length : Nat) = true by rw [ilt_nat]; exact decide_eq_true (by simp; omega), show ilt (i : Int) (32 : Nat) = true by rw [ilt_nat]; exact decide_eq_true (by omega)]
    simp only [Bool.and_self, cond_true]
    rw [set_step (by omega) (by omega), i_next (by omega)]
    exact ih (i + 1) f (by omega) (by omega)
theorem rd_good {xs : List V} {err : Int} (n : Nat) (h0 : 1 ≤ n) (hE : ieq (rdE (rawX (.l [.l xs, .i err]) (n : Int))) 0 = true) : ieq err 0 = true ∧ n ≤ xs.length ∧ (rawV (.l [.l xs, .i err]) (n : Int)).els = xs.take n ∧ rawX (.l [.l xs, .i err]) (n : Int) = .l [.l (xs.drop n), .i err] := by
  unfold rawX rawV at *
  rw [show rdE (.l [.l xs, .i err]) = err from rfl, show rdL (.l [.l xs, .i err]) = xs from rfl] at *
  cases h : ieq err 0 with
  | false => rw [h] at hE; simp only [Bool.not_false, cond_true] at hE; rw [show rdE (.l [.l xs, .i err]) = err from rfl, h] at hE; cases hE
  | true =>
    rw [h] at hE
    have h1 : ilt (n : Int) 1 = false := by rw [show (1 : Int) = ((1 : Nat) : Int) from rfl, ilt_nat]; exact decide_eq_false (by omega)
    rw [h1] at hE ⊢
    rw [ilt_nat] at hE ⊢
    by_cases hc : xs.length < n
    · rw [decide_eq_true hc] at hE; cases hE
    · rw [decide_eq_false hc]
      refine ⟨rfl, by omega, ?_, ?_⟩
      · show sub xs (0 : Nat) (n : Int) = _
        unfold sub; simp
      · show V.l [.l (sub xs (n : Int) (xs.length : Nat)), .i err] = _
        unfold sub
        rw [List.take_of_length_le (by simp)]; rfl
theorem drr_law (t ref : Nat) {ys : List Nat} {err : Int} (hb : Byt ys) (ho : rdO (.l [.l (ys.map nv), .i err]) = true) : drrG t ref (.l [.l (ys.map nv), .i err]) some = some [.d t (rrE (.l [.l (ys.map nv), .i err])), .d ref (rrV (.l [.l (ys.map nv), .i err]))] := by
  unfold drrG rrV rrE
  rw [ho, rawX_ok ho]
  simp only [cond_true]
  cases hE : ieq (rdE (rawX (rawX (.l [.l (ys.map nv), .i err]) 32) (wiI 4))) 0 with
  | false => rfl
  | true =>
    simp only [Bool.not_true, cond_false]
    have hE1 : ieq (rdE (rawX (.l [.l (ys.map nv), .i err]) 32)) 0 = true := by
      cases hq : ieq (rdE (rawX (.l [.l (ys.map nv), .i err]) 32)) 0 with
      | true => rfl
      | false => rw [rawX_bad hq, hq] at hE; cases hE
    obtain ⟨g1, g2, g3, g4⟩ := rd_good 32 (by omega) hE1
    rw [show ((32 : Nat) : Int) = 32 from rfl] at g3 g4
    rw [List.length_map] at g2
    rw [g3]
    have e : (ys.map nv).take 32 = (ys.take 32).map nv := List.map_take.symm
    have h32 : (ys.take 32).length = 32 := by simp; omega
    have hfu : 32 < hid FU := by have := HID; omega
    have hl := rr_loop (R := List Rs) h32 (s := rawX (rawX (.l [.l (ys.map nv), .i err]) 32) (wiI 4)) (r0 := zRef) (c := .i 0) (z := List.replicate 32 (.i 0)) (by simp) (a := numE (rawV (rawX (.l [.l (ys.map nv), .i err]) 32) (wiI 4)).els) (fun | .o y s r0 r a i => some [.d t s, .d ref (r.put 1 (.i (IntKind.wrap .u32 a)))]) 32 0 (hid FU) (by omega) hfu
    rw [e]
    refine hl.trans ?_
    show some [Rs.d t _, Rs.d ref (.l [.l ((ys.take 32).map nv), .i _])] = _
    rw [List.take_of_length_le (show ((ys.take 32).map nv).length ≤ 32 by simp; omega)]
theorem drr_lawN (t ref : Nat) {err : Int} : drrG t ref (.l [.n, .i err]) some = some [.d t (rrE (.l [.n, .i err])), .d ref (rrV (.l [.n, .i err]))] := by
  have ho : rdO (.l [.n, .i err]) = true := rfl
  unfold drrG rrV rrE
  rw [ho, rawX_ok ho]
  simp only [cond_true]
  cases he : ieq err 0 with
  | true =>
    have := ieq_iff.1 he
    subst this; rfl
  | false =>
    have e1 : rawX (.l [.n, .i err]) 32 = .l [.n, .i err] := rawX_bad he
    have e2 : rawX (.l [.n, .i err]) (wiI 4) = .l [.n, .i err] := rawX_bad he
    rw [e1, e2, show rdE (.l [.n, .i err]) = err from rfl, he]; rfl
theorem rrF_at {t ref : Nat} {x : V} {rs : List Rs} (h : rrF t ref (List Rs) [x] some = some rs) : rdO x = true ∧ some rs = some [.d t (rrE x), .d ref (rrV x)] := by
  unfold rrF at h; simp only at h
  cases ho : rdO x with
  | false => rw [ho] at h; cases h
  | true => rw [ho] at h; exact ⟨rfl, h.symm⟩
end Go.Vm

namespace Go.Vm
open Go.RowKit
set_option linter.unusedVariables false
set_option linter.constructorNameAsVariable false

/-! ### The document: whether a request can be -/
def drtT (b : Nat) (x out : V) (m : Int) (nm : List V) : Option (List Rs) :=
  bif veq x out then ln nm.length <| bif ile (nm.length : Nat) 64 then bif ile 0 m then bif ile m 100 then some [.d b (.b true)]
    else some [.d b (.b false)] else some [.d b (.b false)] else some [.d b (.b false)] else some [.d b (.b false)]
def drtG (b : Nat) (k n m : Int) (hs rh nm : List V) : Option (List Rs) :=
  bif ieq k 1 then drtT b (rqv k (.l hs) (.l [.l rh, .i n]) nm m) (zReq.put 0 (.i k)) m nm else
  bif ieq k 2 then drtT b (rqv k (.l hs) (.l [.l rh, .i n]) nm m) ((zReq.put 0 (.i k)).put 1 (.l hs)) m nm else
  bif ieq k 3 then drtT b (rqv k (.l hs) (.l [.l rh, .i n]) nm m) ((zReq.put 0 (.i k)).put 2 (.l [.l rh, .i n])) m nm else
  bif ieq k 4 then drtT b (rqv k (.l hs) (.l [.l rh, .i n]) nm m) ((zReq.put 0 (.i k)).put 3 (.s nm)) m nm else
  bif ieq k 5 then drtT b (rqv k (.l hs) (.l [.l rh, .i n]) nm m) ((zReq.put 0 (.i k)).put 3 (.s nm)) m nm else
  bif ieq k 7 then drtT b (rqv k (.l hs) (.l [.l rh, .i n]) nm m) ((zReq.put 0 (.i k)).put 3 (.s nm)) m nm else
  bif ieq k 6 then drtT b (rqv k (.l hs) (.l [.l rh, .i n]) nm m) (((zReq.put 0 (.i k)).put 3 (.s nm)).put 4 (.i m)) m nm else
  some [.d b (.b false)]
theorem drtT_law {b : Nat} {x out : V} {k m : Int} {nm : List V} (h : nm.length ≤ 9223372036854775807) (h1 : 1 ≤ k) (h7 : k ≤ 7) : drtT b x out m nm = some [.d b (.b (rtB x out k m nm))] := by
  unfold drtT rtB
  rw [ln_in h, ile_iff.2 h1, ile_iff.2 h7]
  cases veq x out <;> cases ile (nm.length : Nat) 64 <;> cases ile 0 m <;> cases ile m 100 <;> rfl
theorem drtG_law {b : Nat} {k n m : Int} {hs rh nm : List V} (h : smN (rqv k (.l hs) (.l [.l rh, .i n]) nm m) = true) : drtG b k n m hs rh nm = some [.d b (.b (rqR (rqv k (.l hs) (.l [.l rh, .i n]) nm m)))] := by
  have hn : nm.length ≤ 9223372036854775807 := Nat.le_of_ble_eq_true h
  show _ = some [Rs.d b (.b (rtB (rqv k (.l hs) (.l [.l rh, .i n]) nm m) (bareV k m (.l hs) (.l [.l rh, .i n]) nm) k m nm))]
  by_cases hk : 1 ≤ k ∧ k ≤ 7
  · obtain ⟨h1, h7⟩ := hk
    have hk : k = 1 ∨ k = 2 ∨ k = 3 ∨ k = 4 ∨ k = 5 ∨ k = 6 ∨ k = 7 := by omega
    rcases hk with rfl | rfl | rfl | rfl | rfl | rfl | rfl <;> exact drtT_law hn h1 h7
  · have n : ∀ j : Int, 1 ≤ j → j ≤ 7 → ieq k j = false := fun j a b => by
      cases hq : ieq k j with
      | false => rfl
      | true => have := ieq_iff.1 hq; omega
    unfold drtG rtB
    rw [n 1 (by omega) (by omega), n 2 (by omega) (by omega), n 3 (by omega) (by omega), n 4 (by omega) (by omega), n 5 (by omega) (by omega), n 6 (by omega) (by omega), n 7 (by omega) (by omega)]
    have : (ile 1 k && (ile k 7 && (ile (nm.length : Nat) 64 && (ile 0 m && ile m 100)))) = false := by
      cases h1 : ile 1 k with
      | false => rfl
      | true =>
        cases h7 : ile k 7 with
        | false => rfl
        | true => exact absurd ⟨ile_iff.1 h1, ile_iff.1 h7⟩ hk
    rw [this, Bool.and_false]; rfl
/-! ### The document: a request of bytes -/
inductive PPq where
  | m (y s r0 r : V) (n i : Int)
inductive QPq where
  | o (y s r0 r : V) (n i : Int)
def BPq (R : Type) (p : PPq) (K : PPq → Option R) (kx : QPq → Option R) : Option R :=
  match p with
  | .m y s r0 r n i => bif ilt i n then (bif ile 0 i && ilt i (y.els.length : Nat) then (bif ile 0 i && ilt i (32 : Nat) then
      K (.m y s r0 (r.put 1 ((r.nth 1).put i.toNat (.i (y.nth i.toNat).int))) n (W64 (i + 1))) else none) else none) else kx (.o y s r0 r n i)
end Go.Vm

namespace Go.Vm
open Go.RowKit
set_option linter.unusedVariables false
set_option linter.constructorNameAsVariable false

def dqE (t it : Nat) (y out : V) : Option (List Rs) :=
  bif !ieq (rdE y) 0 then some [.d t zReq, .d it (.i (rdE y))] else ln (rdL y).length <| bif ilt 0 ((rdL y).length : Nat) then some [.d t zReq, .d it (.i 62)] else
  bif ilt (out.nth 0).int 1 then some [.d t zReq, .d it (.i 62)] else bif ilt 7 (out.nth 0).int then some [.d t zReq, .d it (.i 62)] else some [.d t out, .d it (.i 0)]
def dq6 (t it : Nat) (y out : V) : Option (List Rs) := bif ieq (out.nth 0).int 6 then bif rdO y then dqE t it (ctX y 100) (out.put 4 (.i (W64 (ctV y 100)))) else none else dqE t it y out
noncomputable def dqG (t it : Nat) (b : V) : Option (List Rs) :=
  (fun y0 => bif rdO y0 then (fun k y1 o =>
    bif ieq k 2 then bif rdO y1 then ln (rawV y1 32).els.length <| lpC (BPq (List Rs)) (hid FU) (.m (.l (rawV y1 32).els) (rawX y1 32) zReq o ((rawV y1 32).els.length : Nat) 0) (fun | .o y s r0 r n i => dq6 t it s r) else none else
    bif ieq k 3 then bif rdO y1 then dq6 t it (rrE y1) (o.put 2 (rrV y1)) else none else
    bif ieq k 4 then bif rdO y1 then dq6 t it (txX y1 64) (o.put 3 (.s (txV y1 64).els)) else none else
    bif ieq k 5 then bif rdO y1 then dq6 t it (txX y1 64) (o.put 3 (.s (txV y1 64).els)) else none else
    bif ieq k 6 then bif rdO y1 then dq6 t it (txX y1 64) (o.put 3 (.s (txV y1 64).els)) else none else
    bif ieq k 7 then bif rdO y1 then dq6 t it (txX y1 64) (o.put 3 (.s (txV y1 64).els)) else none else
    dq6 t it y1 o) (pqK y0) (rawX y0 (wiI 1)) (zReq.put 0 (.i (pqK y0))) else none) (.l [b, .i 0])
theorem pq_loop {R : Type} {hs : List Nat} {z : List V} (hz : hs.length ≤ z.length) (hz32 : z.length = 32) {s r0 c0 : V} {rest : List V} (k : QPq → Option R) : ∀ (d i fuel : Nat), i + d = hs.length → d < fuel →
    lpC (BPq R) fuel (.m (.l (hs.map nv)) s r0 (.l (c0 :: .l ((hs.map nv).take i ++ z.drop i) :: rest)) (hs.length : Nat) (i : Int)) k = k (.o (.l (hs.map nv)) s r0 (.l (c0 :: .l (hs.map nv ++ z.drop hs.length) :: rest)) (hs.length : Nat) (hs.length : Nat)) := by
  intro d
  induction d with
  | zero =>
    intro i fuel hi hf
    obtain ⟨f, rfl⟩ : ∃ f, fuel = f + 1 := ⟨fuel - 1, by omega⟩
    have : i = hs.length := by omega
    subst this
    rw [show (hs.map nv).take hs.length = hs.map nv from List.take_of_length_le (by simp)]
    show (bif ilt ((hs.length : Nat) : Int) ((hs.length : Nat) : Int) then _ else _) = _
    rw [ilt_nat, decide_eq_false (by omega)]; rfl
  | succ d ih =>
    intro i fuel hi hf
    obtain ⟨f, rfl⟩ : ∃ f, fuel = f + 1 := ⟨fuel - 1, by omega⟩
    show (bif ilt (i : Int) ((hs.length : Nat) : Int) then (bif ile 0 (i : Int) && ilt (i : Int) ((hs.map nv).length : Nat) then (bif ile 0 (i : Int) && ilt (i : Int) (32 : Nat) then lpC (BPq R) f (.m (.l (hs.map nv)) s r0 (.l (c0 :: .l (((hs.map nv).take i ++ z.drop i).set i (.i (V.nth (.l (hs.map nv)) i).int)) :: rest)) (hs.length : Nat) (W64 ((i : Int) + 1))) k else none) else none) else _) = _
    rw [ilt_nat, decide_eq_true (by omega), show ile 0 (i : Int) = true from ile_iff.2 (by omega), show ilt (i : Int) ((hs.map nv).length : Nat) = true by rw [ilt_nat]; exact decide_eq_true (by simp; omega), show ilt (i : Int) (32 : Nat) = true by rw [ilt_nat]; exact decide_eq_true (by omega)]
    simp only [Bool.and_self, cond_true]
    rw [set_step (by omega) (by omega), i_next (by omega)]
    exact ih (i + 1) f (by omega) (by omega)
theorem pkA_most (x : V) {most n used : Int} (h0 : 0 ≤ most) : (pkA x most n used).1 ≤ most := by
  unfold pkA
  cases (!ieq ((cntL n).length : Nat) used)
  · cases h : ilt most n
    · have := not_ilt h; show n ≤ most; omega
    · exact h0
  · exact h0
theorem pkX_most (x : V) {most : Int} (h0 : 0 ≤ most) : (pkX x most).1 ≤ most := by
  have b : ∀ u : Int, (pkB x most u).1 ≤ most := by
    intro u
    unfold pkB
    cases ilt ((rdL x).length : Nat) u
    · exact pkA_most x h0
    · exact h0
  unfold pkX
  cases ieq ((rdL x).length : Nat) 0
  · cases ieq (hdI x) 253
    · cases ieq (hdI x) 254
      · cases ieq (hdI x) 255
        · cases ilt ((rdL x).length : Nat) 1
          · exact pkA_most x h0
          · exact h0
        · exact b 9
      · exact b 5
    · exact b 3
  · exact h0
theorem ctV_rng (x : V) : 0 ≤ ctV x 100 ∧ ctV x 100 ≤ 100 := by
  unfold ctV
  cases (!ieq (rdE x) 0)
  · exact ⟨(pkX_spec x 100).1, pkX_most x (by omega)⟩
  · exact ⟨Int.le_refl _, show (0 : Int) ≤ 100 by omega⟩
theorem txV_rng (x : V) : (txV x 64).els.length ≤ 64 := by
  unfold txV
  cases (!ieq (rdE x) 0)
  · cases (!ieq (txI x (txP x 64)) 0)
    · refine Nat.le_trans (rawV_le _ _) ?_
      have h1 : 0 ≤ (txP x 64).1 := (pkX_spec x (WU (mxI 64))).1
      have h2 : (txP x 64).1 ≤ 64 := by
        have := pkX_most x (most := WU (mxI 64)) (by decide)
        rw [show WU (mxI 64) = 64 from by decide] at this
        exact this
      rw [w64_in (by omega) (by omega)]; omega
    · exact Nat.zero_le _
  · exact Nat.zero_le _
/-- What is put together of bytes can be, if its kind is one. -/
theorem rq_made {k m : Int} {h r : V} {nm : List V} (h1 : bareV k m h r nm = rqv k h r nm m) (hn : nm.length ≤ 64) (m0 : 0 ≤ m) (m1 : m ≤ 100) : rqR (rqv k h r nm m) = (ile 1 k && ile k 7) := by
  show rtB (rqv k h r nm m) (bareV k m h r nm) k m nm = _
  unfold rtB
  rw [h1, (veq_iff _ _).2 rfl, ile_iff.2 m0, ile_iff.2 m1, show ile (nm.length : Nat) 64 = true from ile_iff.2 (by omega)]
  simp
theorem dqE_law {t it : Nat} {y : V} {k m : Int} {h r : V} {nm : List V} (hy : rdO y = true) (h1 : bareV k m h r nm = rqv k h r nm m) (hn : nm.length ≤ 64) (m0 : 0 ≤ m) (m1 : m ≤ 100) :
    dqE t it y (rqv k h r nm m) = some [.d t (pqVq (y, rqv k h r nm m)), .d it (.i (pqEq (y, rqv k h r nm m)))] := by
  have hl : (rdL y).length ≤ 1073741824 := Nat.le_of_ble_eq_true hy
  unfold dqE pqVq pqEq
  rw [ln_in (by omega)]
  simp only
  rw [rq_made h1 hn m0 m1, show ((rqv k h r nm m).nth 0).int = k from rfl]
  cases ieq (rdE y) 0 <;> cases ilt 0 ((rdL y).length : Nat) <;> simp only [Bool.not_true, Bool.not_false, cond_true, cond_false]
  cases c1 : ilt k 1
  · have c1 := not_ilt c1
    rw [ile_iff.2 (show 1 ≤ k by omega)]
    cases c2 : ilt 7 k
    · have c2 := not_ilt c2
      rw [ile_iff.2 (show k ≤ 7 by omega)]; rfl
    · have c2 : 7 < k := by simpa [ilt] using c2
      rw [show ile k 7 = false by cases hq : ile k 7 with | false => rfl | true => have := ile_iff.1 hq; omega]; rfl
  · have c1 : k < 1 := by simpa [ilt] using c1
    rw [show ile 1 k = false by cases hq : ile 1 k with | false => rfl | true => have := ile_iff.1 hq; omega]; rfl
theorem dq6_law {t it : Nat} {y : V} {k : Int} {h r : V} {nm : List V} (hy : rdO y = true) (h1 : ieq k 6 = false → bareV k 0 h r nm = rqv k h r nm 0) (h6 : ieq k 6 = true → h = zHash ∧ r = zRef) (hn : nm.length ≤ 64) :
    dq6 t it y (rqv k h r nm 0) = some [.d t (pqVq (pqB k (y, rqv k h r nm 0))), .d it (.i (pqEq (pqB k (y, rqv k h r nm 0))))] := by
  unfold dq6 pqB
  rw [show ((rqv k h r nm 0).nth 0).int = k from rfl]
  cases hk : ieq k 6 with
  | false => exact dqE_law hy (h1 hk) hn (Int.le_refl _) (by omega)
  | true =>
    have := ieq_iff.1 hk
    subst this
    obtain ⟨c0, c1⟩ := ctV_rng y
    obtain ⟨rfl, rfl⟩ := h6 rfl
    simp only [cond_true]
    rw [hy, w64_in (by omega) (by omega)]
    exact dqE_law (ctX_ok hy) rfl hn c0 c1
theorem dqG_law {t it : Nat} {b : V} (hb : b = .n ∨ ∃ ns : List Nat, b = .l (ns.map nv)) (hs : b.els.length ≤ 268435456) : dqG t it b = some [.d t (pqV b), .d it (.i (pqE b))] := by
  unfold dqG pqV pqE pqP pqA
  have hy : rdO (.l [b, .i 0]) = true := Nat.ble_eq_true_of_le (by show b.els.length ≤ 1073741824; omega)
  simp only [hy, cond_true]
  have hy1 : rdO (rawX (.l [b, .i 0]) (wiI 1)) = true := rawX_ok hy
  have hraw : ∃ ns : List Nat, (rawV (rawX (.l [b, .i 0]) (wiI 1)) 32).els = ns.map nv := by
    have hL : ∃ ns : List Nat, rdL (rawX (.l [b, .i 0]) (wiI 1)) = ns.map nv := by
      have h0 : ∃ ns : List Nat, rdL (.l [b, .i 0]) = ns.map nv := by
        rcases hb with rfl | ⟨ns, rfl⟩
        · exact ⟨[], rfl⟩
        · exact ⟨ns, rfl⟩
      obtain ⟨ns, h0⟩ := h0
      unfold rawX
      cases (!ieq (rdE (.l [b, .i 0])) 0)
      · cases ilt (wiI 1) 1
        · cases ilt ((rdL (.l [b, .i 0])).length : Nat) (wiI 1)
          · refine ⟨(ns.drop (wiI 1).toNat).take ((((rdL (.l [b, .i 0])).length : Nat) : Int) - wiI 1).toNat, ?_⟩
            show sub (rdL (.l [b, .i 0])) _ _ = _
            rw [h0]; unfold sub; rw [List.map_take, List.map_drop]
          · exact ⟨ns, h0⟩
        · exact ⟨ns, h0⟩
      · exact ⟨ns, h0⟩
    obtain ⟨ns, hL⟩ := hL
    unfold rawV
    cases (!ieq (rdE (rawX (.l [b, .i 0]) (wiI 1))) 0)
    · cases ilt 32 1
      · cases ilt ((rdL (rawX (.l [b, .i 0]) (wiI 1))).length : Nat) 32
        · refine ⟨(ns.drop ((0 : Nat) : Int).toNat).take (32 - ((0 : Nat) : Int)).toNat, ?_⟩
          show sub (rdL _) _ _ = _
          rw [hL]; unfold sub; rw [List.map_take, List.map_drop]
        · exact ⟨[], rfl⟩
      · exact ⟨[], rfl⟩
    · exact ⟨[], rfl⟩
  generalize rawX (.l [b, .i 0]) (wiI 1) = y1 at hy1 hraw ⊢
  generalize pqK (.l [b, .i 0]) = k
  simp only [hy1, cond_true]
  have hr : (rawV y1 32).els.length ≤ 32 := rawV_le y1 32
  have htx := txV_rng y1
  cases h2 : ieq k 2 with
  | true =>
    have := ieq_iff.1 h2
    subst this
    obtain ⟨ns, hns⟩ := hraw
    rw [hns] at hr ⊢
    rw [List.length_map] at hr ⊢
    simp only [cond_true]
    rw [ln_in (by omega)]
    have hfu : ns.length < hid FU := by have := HID; omega
    have hl := pq_loop (R := List Rs) (hs := ns) (z := z32r) (by simp [z32r]; omega) (by simp [z32r]) (s := rawX y1 32) (r0 := zReq) (c0 := .i 2) (rest := [.l [zHash, .i 0], .s [], .i 0]) (fun | .o y s r0 r n i => dq6 t it s r) ns.length 0 (hid FU) (by omega) hfu
    refine hl.trans ?_
    show dq6 t it (rawX y1 32) (rqv 2 (.l (ns.map nv ++ z32r.drop ns.length)) zRef [] 0) = _
    rw [dq6_law (k := 2) (r := zRef) (rawX_ok hy1) (fun _ => rfl) (fun h => by cases h) (by simp)]
    cases ns with
    | nil => rfl
    | cons a r =>
      have : splice z32r 0 ((a :: r).map nv) = (a :: r).map nv ++ z32r.drop (a :: r).length := by
        unfold splice
        rw [List.take_zero, List.nil_append, Nat.zero_add, List.length_map]
      show _ = some [Rs.d t (pqVq (pqB 2 (rawX y1 32, (zReq.put 0 (.i 2)).put 1 (.l (splice z32r 0 ((a :: r).map nv)))))), Rs.d it (.i (pqEq (pqB 2 (rawX y1 32, (zReq.put 0 (.i 2)).put 1 (.l (splice z32r 0 ((a :: r).map nv)))))))]
      rw [this]; rfl
  | false =>
    simp only [cond_false]
    cases h3 : ieq k 3 with
    | true =>
      have := ieq_iff.1 h3
      subst this
      exact dq6_law (k := 3) (h := zHash) (r := rrV y1) (nm := []) (rr_ok hy1) (fun _ => rfl) (fun h => by cases h) (by simp)
    | false =>
      simp only [cond_false]
      have hT : ∀ (_ : k = 4 ∨ k = 5 ∨ k = 6 ∨ k = 7), dq6 t it (txX y1 64) ((zReq.put 0 (.i k)).put 3 (.s (txV y1 64).els)) = some [.d t (pqVq (pqB k (txX y1 64, (zReq.put 0 (.i k)).put 3 (.s (txV y1 64).els)))), .d it (.i (pqEq (pqB k (txX y1 64, (zReq.put 0 (.i k)).put 3 (.s (txV y1 64).els)))))] := fun hk =>
        dq6_law (h := zHash) (r := zRef) (nm := (txV y1 64).els) (txX_ok hy1) (fun h6 => by rcases hk with rfl | rfl | rfl | rfl <;> first | rfl | cases h6) (fun _ => ⟨rfl, rfl⟩) htx
      cases h4 : ieq k 4 with
      | true => exact hT (.inl (ieq_iff.1 h4))
      | false =>
        cases h5 : ieq k 5 with
        | true => exact hT (.inr (.inl (ieq_iff.1 h5)))
        | false =>
          cases h6 : ieq k 6 with
          | true => exact hT (.inr (.inr (.inl (ieq_iff.1 h6))))
          | false =>
            cases h7 : ieq k 7 with
            | true => exact hT (.inr (.inr (.inr (ieq_iff.1 h7))))
            | false => exact dq6_law (k := k) (h := zHash) (r := zRef) (nm := []) hy1 (fun _ => by unfold bareV bareO; rw [h2, h3, h4, h5, h6, h7]; rfl) (fun h => by rw [h6] at h; cases h) (by simp)
end Go.Vm

namespace Go.Vm
open Go.RowKit
set_option linter.unusedVariables false
set_option linter.constructorNameAsVariable false

/-! ### The law QueryBytes -/
def qbE (x : V) : Option Unit :=
  bif rqR x then bif shb (.l (rqB x)) then bif rqR x then (bif veqL (rqB x) (rqB x) then bif ieq (pqE (.l (rqB x))) 0 then bif veq (pqV (.l (rqB x))) x then some () else none else none else none) else none else none else none
def qbI (x : V) : Option Unit := bif smN x then (bif rqR x then qbE x else some ()) else none
def qbM (x : V) : Option Unit := bif smN x then (bif rqR x then (bif smN x then (bif rqR x then qbI x else none) else none) else (bif smN x then (bif rqR x then none else qbI x) else none)) else none
def qbP (x b : V) : Option Unit := bif shb b then bif shb b then bif !veq (pqV b) (pqV b) then none else bif !ieq (pqE b) (pqE b) then none else qbM x else none else none
def qbN (x : V) (nm : List V) (k : Option Unit) : Option Unit := ln nm.length <| bif ilt 200 (nm.length : Nat) then some () else k
def qbL (x : V) (bs : List V) : Option Unit := ln bs.length <| bif ilt 500 (bs.length : Nat) then some () else qbP x (.l bs)
theorem veq_self (x : V) : veq x x = true := (veq_iff _ _).2 rfl
theorem qbE_law {x : V} {p : List Nat} (h : Rq x p) (hR : rqR x = true) : qbE x = some () := by
  have hl := rq_len h
  obtain ⟨a, b⟩ := pq_right h hR
  unfold qbE
  rw [hR, rq_bytes h, a, b, veq_self, show shb (.l (p.map nv)) = true from Nat.ble_eq_true_of_le (by show (p.map nv).length ≤ 268435456; simp; omega), show veqL (p.map nv) (p.map nv) = true from (veqL_iff _ _).2 rfl]
  rfl
theorem qbM_law {x : V} (hx : DReq.has x) (hm : smN x = true) : qbM x = some () := by
  unfold qbM qbI
  rw [hm]
  cases hR : rqR x with
  | false => rfl
  | true =>
    obtain ⟨p, hp⟩ := rq_of hx hR
    simp only [cond_true]
    exact qbE_law hp hR
theorem qbP_law {x b : V} (hx : DReq.has x) (hm : smN x = true) (hb : b.els.length ≤ 500) : qbP x b = some () := by
  have : shb b = true := Nat.ble_eq_true_of_le (by show b.els.length ≤ 268435456; omega)
  unfold qbP
  rw [this, veq_self, ieq_iff.2 rfl, qbM_law hx hm]; rfl
theorem qbL_law {x : V} {bs : List V} (hx : DReq.has x) (hm : smN x = true) (hb : bs.length ≤ 9223372036854775807) : qbL x bs = some () := by
  unfold qbL
  rw [ln_in hb]
  cases h : ilt 500 (bs.length : Nat) with
  | true => rfl
  | false =>
    have h := not_ilt h
    exact qbP_law hx hm (by show bs.length ≤ 500; omega)
theorem qbN_law {x : V} {nm : List V} {k : Option Unit} (hn : nm.length ≤ 9223372036854775807) (hk : k = some ()) : qbN x nm k = some () := by
  unfold qbN
  rw [ln_in hn, hk]
  cases ilt 200 (nm.length : Nat) <;> rfl
theorem smN_ofB {x : V} (hx : DReq.has x) (hm : D.sm DReq x) : smN x = true := by
  obtain ⟨k, hs, rh, n, nm, m, rfl, _⟩ := req_v hx
  exact Nat.ble_eq_true_of_le hm.2.2.2.1
end Go.Vm
end
