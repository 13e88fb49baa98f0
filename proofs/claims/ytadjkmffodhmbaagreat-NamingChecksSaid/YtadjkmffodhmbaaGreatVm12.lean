/- What the operations of a program do, shown once for all programs; and numbers. -/
import Derived.Test.YtadjkmffodhmbaaGreatVm11
import Derived.Test.YtadjkmffodhmbaaGreatVm10
set_option linter.constructorNameAsVariable false
set_option linter.unusedVariables false
set_option linter.unusedSimpArgs false
noncomputable section
namespace Go.Vm
open Go.RowKit
variable {R : Type}
abbrev B2E : D := .struct [.int .i64, .str, .str, .str, .arr 20 (.int .u8)]
def z20 : V := .l (List.replicate 20 (.i 0))
def kD (x : V) : Int := (x.nth 0).int
def w1L (c : List V) : List V := [V.i 81] ++ M9 [.l c] ++ [V.i 109]
def w2L (nm rd vl : List V) : List V := [V.i 82] ++ M9 [.l nm, .l rd, .l vl] ++ [V.i 109, V.i 109]
def w3L (nm vl : List V) : List V := [V.i 83] ++ M9 [.l nm, .l vl] ++ [V.i 109, V.i 117]
def D8 (x : V) : List V := bif G5 (kD x) 1 then w1L (x.nth 4).els else bif G5 (kD x) 2 then w2L (x.nth 1).els (x.nth 3).els (x.nth 2).els else w3L (x.nth 1).els (x.nth 2).els
def A2C (x : V) : Bool :=
 bif G5 (kD x) 1 then F7 (((x.nth 1).els ++ (x.nth 3).els) ++ (x.nth 2).els) [] else
 bif G5 (kD x) 2 then (C2 1 ((x.nth 1).els.length : Nat) && (C2 ((x.nth 1).els.length : Nat) 64 && (C2 1 ((x.nth 3).els.length : Nat) && (C2 ((x.nth 3).els.length : Nat) 32 && (C2 ((x.nth 2).els.length : Nat) 200 && M3 (x.nth 4) z20)))))
 else (C2 1 ((x.nth 1).els.length : Nat) && (C2 ((x.nth 1).els.length : Nat) 64 && (C2 ((x.nth 3).els.length : Nat) 0 && (C2 ((x.nth 2).els.length : Nat) 200 && M3 (x.nth 4) z20))))
def dkB (x : V) : Bool := (C2 1 (kD x) && C2 (kD x) 3) && (Nat.ble (x.nth 1).els.length 60000 && (Nat.ble (x.nth 2).els.length 60000 && Nat.ble (x.nth 3).els.length 60000))
def dkg : List V → Bool
 | [x] => dkB x
 | _ => false
def wdr (t : Nat) : List V → List Rs
 | [x] => [.r t (D8 x) false]
 | _ => []
def C96 (t : Nat) : List V → List Rs
 | [x] => [.d t (.b (A2C x))]
 | _ => []
theorem A2q (x : V) : (A6T x).length ≤ x.els.length + 3 := by
 unfold A6T
 rw [D05]
 have := A4j (F1 x)
 have e : (F1 x).length = x.els.length := by unfold F1; rw [D05]
 omega
theorem B0U (c : List V) : (w1L c).length ≤ c.length + 5 := by
 have := A2q (.l c)
 simp only [V.els] at this
 unfold w1L M9
 simp; omega
theorem B0V (a b c : List V) : (w2L a b c).length ≤ a.length + b.length + c.length + 12 := by
 have h1 := A2q (.l a)
 have h2 := A2q (.l b)
 have h3 := A2q (.l c)
 simp only [V.els] at h1 h2 h3
 unfold w2L M9
 simp; omega
theorem B0W (a b : List V) : (w3L a b).length ≤ a.length + b.length + 9 := by
 have h1 := A2q (.l a)
 have h2 := A2q (.l b)
 simp only [V.els] at h1 h2
 unfold w3L M9
 simp; omega
theorem B0X {x : V} (h : B2E.has x) : ∃ (k : Int) (nm vl rd c : List Nat), x = .l [.i k, .s (nm.map nv), .s (vl.map nv), .s (rd.map nv), .l (c.map nv)] ∧ inR .i64 k ∧ (∀ a ∈ nm, a < 256) ∧ (∀ a ∈ vl, a < 256) ∧ (∀ a ∈ rd, a < 256) ∧ (∀ a ∈ c, a < 256) ∧ c.length = 20 := by
 obtain ⟨ys, rfl, hy⟩ := h
 obtain ⟨a, b, c, d, e, rfl, ⟨k, rfl, hk⟩, ⟨nm, rfl, h1⟩, ⟨vl, rfl, h2⟩, ⟨rd, rfl, h3⟩, zs, rfl, hl, hz⟩ := C89 hy
 obtain ⟨c, rfl, hc⟩ := u8s hz
 exact ⟨k, nm, vl, rd, c, rfl, hk, h1, h2, h3, hc, by rw [← hl, D05]⟩
theorem A5L {k : Int} {r : List V} (h : dkB (.l (.i k :: r)) = true) : k = 1 ∨ k = 2 ∨ k = 3 := by
 have h : ((C2 1 k && C2 k 3) && _) = true := h
 simp only [D02, P0, D1d] at h
 omega
theorem B0Y {k : Int} {nm vl rd : List V} {c : V} (h : dkB (.l [.i k, .s nm, .s vl, .s rd, c]) = true) : nm.length ≤ 60000 ∧ vl.length ≤ 60000 ∧ rd.length ≤ 60000 := by
 have h : ((C2 1 k && C2 k 3) && (Nat.ble nm.length 60000 && (Nat.ble vl.length 60000 && Nat.ble rd.length 60000))) = true := h
 simp only [D02, Nat.ble_eq] at h
 exact ⟨h.2.1, h.2.2.1, h.2.2.2⟩
def C56 (t : Nat) (c : List V) : Option (List Rs) :=
 bif ppg [.l [.i 81], .l [.l ((c.drop 0).take 20)]] then (R9 (([V.i 81] ++ M9 [.l ((c.drop 0).take 20)]).length + 1) <| some [.r t (w1L ((c.drop 0).take 20)) false]) else none
def C57 (t : Nat) (nm rd vl : List V) : Option (List Rs) :=
 bif ppg [.l [.i 82], .l [.l nm, .l rd, .l vl]] then (R9 (([V.i 82] ++ M9 [.l nm, .l rd, .l vl]).length + 2) <| some [.r t (w2L nm rd vl) false]) else none
def C58 (t : Nat) (nm vl : List V) : Option (List Rs) :=
 bif ppg [.l [.i 83], .l [.l nm, .l vl]] then (R9 (([V.i 83] ++ M9 [.l nm, .l vl]).length + 2) <| some [.r t (w3L nm vl) false]) else none
theorem B6L {t : Nat} {c : List Nat} (hc : c.length = 20) : C56 t (c.map nv) = some [.r t (w1L (c.map nv)) false] := by
 unfold C56
 have e : ((c.map nv).drop 0).take 20 = c.map nv := List.take_of_length_le (by simp; omega)
 have hl := B0U (c.map nv)
 rw [D05] at hl
 rw [e, show ppg [.l [.i 81], .l [.l (c.map nv)]] = true by
  show ((!(isN (.l [.i 81])) && Nat.ble 1 100000) && (Nat.ble 1 1000 && ([V.l (c.map nv)].all fun x => Nat.ble x.els.length 60000))) = true
  simp [isN, V.els]; omega, cond_true, D1 (by unfold w1L at hl; simp at hl ⊢; omega)]
theorem B6M {t : Nat} {a b c : List V} (ha : a.length ≤ 60000) (hb : b.length ≤ 60000) (hc : c.length ≤ 60000) : C57 t a b c = some [.r t (w2L a b c) false] := by
 unfold C57
 have hl := B0V a b c
 rw [show ppg [.l [.i 82], .l [.l a, .l b, .l c]] = true by
  show ((!(isN (.l [.i 82])) && Nat.ble 1 100000) && (Nat.ble 3 1000 && ([V.l a, .l b, .l c].all fun x => Nat.ble x.els.length 60000))) = true
  simp [isN, V.els]; omega, cond_true, D1 (by unfold w2L at hl; simp at hl ⊢; omega)]
theorem B6N {t : Nat} {a b : List V} (ha : a.length ≤ 60000) (hb : b.length ≤ 60000) : C58 t a b = some [.r t (w3L a b) false] := by
 unfold C58
 have hl := B0W a b
 rw [show ppg [.l [.i 83], .l [.l a, .l b]] = true by
  show ((!(isN (.l [.i 83])) && Nat.ble 1 100000) && (Nat.ble 2 1000 && ([V.l a, .l b].all fun x => Nat.ble x.els.length 60000))) = true
  simp [isN, V.els]; omega, cond_true, D1 (by unfold w3L at hl; simp at hl ⊢; omega)]
def rb (t : Nat) (q : Bool) : Option (List Rs) := some [.d t (.b q)]
def C59 (t : Nat) (nm rd vl : List V) : Option (List Rs) := R9 (nm.length + rd.length) <| R9 ((nm ++ rd).length + vl.length) <| bif F7 ((nm ++ rd) ++ vl) [] then rb t true else rb t false
def C6a (t : Nat) (nm rd vl : List V) (c : V) : Option (List Rs) :=
 ln nm.length <| bif C2 1 (nm.length : Nat) then (ln nm.length <| bif C2 (nm.length : Nat) 64 then (ln rd.length <| bif C2 1 (rd.length : Nat) then (ln rd.length <| bif C2 (rd.length : Nat) 32 then (ln vl.length <| ln vl.length <| bif C2 (vl.length : Nat) 200 then (bif M3 c z20 then rb t true else rb t false) else rb t false) else rb t false) else rb t false) else rb t false) else rb t false
def C6b (t : Nat) (nm rd vl : List V) (c : V) : Option (List Rs) :=
 ln nm.length <| bif C2 1 (nm.length : Nat) then (ln nm.length <| bif C2 (nm.length : Nat) 64 then (ln rd.length <| ln rd.length <| bif C2 (rd.length : Nat) 0 then (ln vl.length <| ln vl.length <| bif C2 (vl.length : Nat) 200 then (bif M3 c z20 then rb t true else rb t false) else rb t false) else rb t false) else rb t false) else rb t false
theorem C1J {α : Type} (a b : Bool) (x y : α) : (bif a then (bif b then x else y) else y) = bif (a && b) then x else y := by cases a <;> rfl
theorem B6O (t : Nat) (q : Bool) : (bif q then rb t true else rb t false) = rb t q := by cases q <;> rfl
theorem B6P (t : Nat) (a b : Bool) : (bif a then rb t b else rb t false) = rb t (a && b) := by cases a <;> rfl
theorem B6Q {t : Nat} {nm rd vl : List V} {c : V} (h1 : nm.length ≤ 60000) (h2 : rd.length ≤ 60000) (h3 : vl.length ≤ 60000) : C59 t nm rd vl = rb t (A2C (.l [.i 1, .s nm, .s vl, .s rd, c])) := by
 unfold C59
 rw [D1 (by omega), D1 (by simp; omega), B6O]; rfl
theorem B6R {t : Nat} {nm rd vl : List V} {c : V} (h1 : nm.length ≤ 60000) (h2 : rd.length ≤ 60000) (h3 : vl.length ≤ 60000) : C6a t nm rd vl c = rb t (A2C (.l [.i 2, .s nm, .s vl, .s rd, c])) := by
 unfold C6a
 simp only [B5 (show nm.length ≤ _ by omega), B5 (show rd.length ≤ _ by omega), B5 (show vl.length ≤ _ by omega), B6O, B6P, Bool.and_true]; rfl
theorem B6S {t : Nat} {nm rd vl : List V} {c : V} (h1 : nm.length ≤ 60000) (h2 : rd.length ≤ 60000) (h3 : vl.length ≤ 60000) : C6b t nm rd vl c = rb t (A2C (.l [.i 3, .s nm, .s vl, .s rd, c])) := by
 unfold C6b
 simp only [B5 (show nm.length ≤ _ by omega), B5 (show rd.length ≤ _ by omega), B5 (show vl.length ≤ _ by omega), B6O, B6P, Bool.and_true]; rfl
def lkE (t e : Nat) : Option (List Rs) := some [.r t [] true, .d e (.i 81)]
def lkR (t e : Nat) (w : List V) : Option (List Rs) := R9 (w.length + 0) <| some [.r t (w ++ []) false, .d e (.i 0)]
def C6c (t e : Nat) (nm rd vl c : List V) : Option (List Rs) :=
 bif pug [.l [.s ((c.drop 0).take 20)]] then (R9 (1 + (M9 [.s ((c.drop 0).take 20)]).length) <| R9 (([V.i 81] ++ M9 [.s ((c.drop 0).take 20)]).length + 1) <|
  bif F7 nm [] then (bif F7 vl [] then (bif F7 rd [] then lkR t e (w1L ((c.drop 0).take 20)) else lkE t e) else lkE t e) else lkE t e) else none
def C6d (t e : Nat) (nm rd vl : List V) (c : V) : Option (List Rs) :=
 bif pug [.l [.s nm, .s rd, .s vl]] then (R9 (1 + (M9 [.s nm, .s rd, .s vl]).length) <| R9 (([V.i 82] ++ M9 [.s nm, .s rd, .s vl]).length + 2) <|
  ln nm.length <| bif B7 0 (nm.length : Nat) then (ln nm.length <| bif C2 (nm.length : Nat) 64 then (ln rd.length <| bif B7 0 (rd.length : Nat) then (ln rd.length <| bif C2 (rd.length : Nat) 32 then (ln vl.length <| bif C2 (vl.length : Nat) 200 then (bif M3 c z20 then lkR t e (w2L nm rd vl) else lkE t e) else lkE t e) else lkE t e) else lkE t e) else lkE t e) else lkE t e) else none
def C6e (t e : Nat) (nm rd vl : List V) (c : V) : Option (List Rs) :=
 bif pug [.l [.s nm, .s vl]] then (R9 (1 + (M9 [.s nm, .s vl]).length) <| R9 (([V.i 83] ++ M9 [.s nm, .s vl]).length + 2) <|
  ln nm.length <| bif B7 0 (nm.length : Nat) then (ln nm.length <| bif C2 (nm.length : Nat) 64 then (bif F7 rd [] then (ln vl.length <| bif C2 (vl.length : Nat) 200 then (bif M3 c z20 then lkR t e (w3L nm vl) else lkE t e) else lkE t e) else lkE t e) else lkE t e) else lkE t e) else none
def lkF (t e : Nat) (x : V) : Option (List Rs) := some [.r t (bif A2C x then D8 x else []) (!(A2C x)), .d e (.i (bif A2C x then 0 else 81))]
def lkg : List V → Bool
 | [x, r] => dkB x && isN r
 | _ => false
def lkr (t e : Nat) : List V → List Rs
 | [x, r] => [.r t (bif A2C x then D8 x else []) (!(A2C x)), .d e (.i (bif A2C x then 0 else 81))]
 | _ => []
theorem B6T (t e : Nat) {x : V} {w : List V} {q : Bool} (hq : q = A2C x) (hw : w = D8 x) (hl : w.length ≤ 1000000) : (bif q then lkR t e w else lkE t e) = lkF t e x := by
 unfold lkR lkE lkF
 rw [D1 (by omega), ← hq, ← hw, List.append_nil]
 cases q <;> rfl
theorem A9z (l : List V) : F7 l [] = l.isEmpty := by
 cases l with
 | nil => rfl
 | cons a r => simp [F7]
theorem B0Z {l : List V} (h : l.length ≤ 1000) (h2 : ∀ x ∈ l, x.els.length ≤ 60000) : pug [.l l] = true := by
 show (Nat.ble l.length 1000 && l.all fun x => Nat.ble x.els.length 60000) = true
 simp only [D02, Nat.ble_eq, List.all_eq_true]
 exact ⟨h, h2⟩
theorem B6U {t e : Nat} {nm rd vl : List V} {c : List Nat} (hc : c.length = 20) : C6c t e nm rd vl (c.map nv) = lkF t e (.l [.i 1, .s nm, .s vl, .s rd, .l (c.map nv)]) := by
 unfold C6c
 have eq : ((c.map nv).drop 0).take 20 = c.map nv := List.take_of_length_le (by simp; omega)
 have hl := B0U (c.map nv)
 rw [D05] at hl
 have e2 : M9 [.s (c.map nv)] = M9 [.l (c.map nv)] := rfl
 have hl2 := hl
 unfold w1L at hl2
 simp only [D03, D09, List.length_nil] at hl2
 rw [eq, B0Z (by simp) (by intro x hx; simp only [List.mem_singleton] at hx; subst hx; simp [V.els]; omega), cond_true, e2, D1 (by omega), D1 (by simp only [D03, D09, List.length_nil]; omega)]
 rw [C1J, C1J]
 refine B6T t e ?_ rfl (by omega)
 show _ = F7 ((nm ++ rd) ++ vl) []
 simp only [A9z]
 cases nm <;> cases rd <;> cases vl <;> rfl
theorem lt0 (n : Nat) : B7 0 (n : Nat) = C2 1 (n : Nat) := by rw [F8, P0]; simp; omega
theorem B6V {t e : Nat} {nm rd vl : List V} {c : V} (h1 : nm.length ≤ 60000) (h2 : rd.length ≤ 60000) (h3 : vl.length ≤ 60000) : C6d t e nm rd vl c = lkF t e (.l [.i 2, .s nm, .s vl, .s rd, c]) := by
 unfold C6d
 have hl := B0V nm rd vl
 have e2 : M9 [.s nm, .s rd, .s vl] = M9 [.l nm, .l rd, .l vl] := rfl
 have hl2 := hl
 unfold w2L at hl2
 simp only [D03, D09, List.length_nil] at hl2
 rw [B0Z (by simp) (by intro x hx; simp only [List.mem_cons, List.not_mem_nil, or_false] at hx; rcases hx with rfl | rfl | rfl <;> simpa [V.els]), cond_true, e2, D1 (by omega), D1 (by simp only [D03, D09, List.length_nil]; omega)]
 simp only [B5 (show nm.length ≤ _ by omega), B5 (show rd.length ≤ _ by omega), B5 (show vl.length ≤ _ by omega), C1J, lt0]
 exact B6T t e rfl rfl (by omega)
theorem B6W {t e : Nat} {nm rd vl : List V} {c : V} (h1 : nm.length ≤ 60000) (h2 : rd.length ≤ 60000) (h3 : vl.length ≤ 60000) : C6e t e nm rd vl c = lkF t e (.l [.i 3, .s nm, .s vl, .s rd, c]) := by
 unfold C6e
 have hl := B0W nm vl
 have e2 : M9 [.s nm, .s vl] = M9 [.l nm, .l vl] := rfl
 have hl2 := hl
 unfold w3L at hl2
 simp only [D03, D09, List.length_nil] at hl2
 have e3 : F7 rd [] = C2 (rd.length : Nat) 0 := by rw [A9z, P0]; cases rd <;> simp <;> omega
 rw [B0Z (by simp) (by intro x hx; simp only [List.mem_cons, List.not_mem_nil, or_false] at hx; rcases hx with rfl | rfl <;> simpa [V.els]), cond_true, e2, D1 (by omega), D1 (by simp only [D03, D09, List.length_nil]; omega)]
 simp only [B5 (show nm.length ≤ _ by omega), B5 (show vl.length ≤ _ by omega), C1J, lt0, e3]
 exact B6T t e rfl rfl (by omega)
variable {R : Type}
def kS (q : Int) : Int := C6 (C6 (IntKind.wrap .u8 (q - 81)) + 1)
def mS (q : Int) : Int := (V.nth (V.put (V.put (V.put (.l (List.replicate 4 (V.i 0))) 1 (.i 1)) 2 (.i 3)) 3 (.i 2)) (kS q).toNat).int
def xS (bs : List V) : V := .l (List.take (((bs.length : Nat) : Int) - 1).toNat (List.drop 1 bs))
def spE (t a e : Nat) : Option (List Rs) := some [.d t B3, .r a [] true, .d e (.i 81)]
def spN (t a e : Nat) (bs : List V) : Option (List Rs) := R9 ((List.replicate 0 (V.i 0)).length + bs.length) <| some [.d t B3, .r a (List.replicate 0 (V.i 0) ++ bs) false, .d e (.i 0)]
def spT (t a e : Nat) (bs : List V) (d : V) : Option (List Rs) :=
 bif dkB d then (bif dkB d then (bif A2C d then (ln (D8 d).length <| ln bs.length <| bif B7 (bs.length : Nat) ((D8 d).length : Nat) then spE t a e else
  ln (D8 d).length <| bif ((C2 0 (0 : Nat)) && (C2 (0 : Nat) ((D8 d).length : Nat))) && (C2 ((D8 d).length : Nat) (bs.length : Nat)) then
   (bif eqg [.l (D8 d), .l (List.take ((((D8 d).length : Nat) : Int) - (0 : Nat)).toNat (List.drop 0 bs))] then
    (bif F7 (D8 d) (List.take ((((D8 d).length : Nat) : Int) - (0 : Nat)).toNat (List.drop 0 bs)) then
     (ln (D8 d).length <| bif ((C2 0 ((D8 d).length : Nat)) && (C2 ((D8 d).length : Nat) (bs.length : Nat))) && (C2 (bs.length : Nat) (bs.length : Nat)) then
      (R9 ((List.replicate 0 (V.i 0)).length + (List.take (((bs.length : Nat) : Int) - ((D8 d).length : Nat)).toNat (List.drop (((D8 d).length : Nat) : Int).toNat bs)).length) <|
       some [.d t d, .r a (List.replicate 0 (V.i 0) ++ List.take (((bs.length : Nat) : Int) - ((D8 d).length : Nat)).toNat (List.drop (((D8 d).length : Nat) : Int).toNat bs)) false, .d e (.i 0)]) else none)
    else spE t a e) else none) else none) else spE t a e) else none) else none
def C1K (t a e : Nat) (bs : List V) (k : Int) (L : List V) : Option (List Rs) :=
 bif G5 k 2 then (ck 0 L.length <| ck 1 L.length <| ck 2 L.length <| spT t a e bs (.l [.i k, .s (List.getD L 0 .n).els, .s (List.getD L 2 .n).els, .s (List.getD L 1 .n).els, .l (List.replicate 20 (V.i 0))]))
 else bif G5 k 3 then (ck 0 L.length <| ck 1 L.length <| spT t a e bs (.l [.i k, .s (List.getD L 0 .n).els, .s (List.getD L 1 .n).els, .s [], .l (List.replicate 20 (V.i 0))]))
 else spE t a e
def sp1 (t a e : Nat) (bs : List V) (k : Int) (L : List V) : Option (List Rs) :=
 bif G5 k 1 then (ck 0 L.length <| ln (List.getD L 0 .n).els.length <| bif G5 ((List.getD L 0 .n).els.length : Nat) 20 then (ck 0 L.length <| bif Nat.ble 20 (List.getD L 0 .n).els.length then spT t a e bs (.l [.i k, .s [], .s [], .s [], .l (List.take 20 (List.getD L 0 .n).els)]) else none)
  else C1K t a e bs k L) else C1K t a e bs k L
def C1L (t a e : Nat) (bs : List V) (q : Int) : Option (List Rs) :=
 ck 0 bs.length <| bif ((C2 0 1) && (C2 1 (bs.length : Nat))) && (C2 (bs.length : Nat) (bs.length : Nat)) then (ck (kS q) 4 <| bif pdg [xS bs, .i (mS q)] then (bif pdO (xS bs) (mS q) then sp1 t a e bs (kS q) (pdL (xS bs) (mS q)) else spE t a e) else none) else none
def C6f (t a e : Nat) (bs : List V) : Option (List Rs) :=
 ln bs.length <| bif B7 0 (bs.length : Nat) then (ck 0 bs.length <| bif C2 81 (V.nth (.l bs) 0).int then (ck 0 bs.length <| bif B7 (V.nth (.l bs) 0).int 84 then C1L t a e bs (V.nth (.l bs) 0).int else spN t a e bs) else spN t a e bs) else spN t a e bs
def lkW (d : V) : List V := bif A2C d then D8 d else []
def lkQ (d : V) : Int := bif A2C d then 0 else 81
def sqT (t a e : Nat) (bs : List V) (d : V) : Option (List Rs) :=
 bif dkB d && isN .n then (bif !(G5 (lkQ d) 0) then spE t a e else (ln (lkW d).length <| ln bs.length <| bif B7 (bs.length : Nat) ((lkW d).length : Nat) then spE t a e else
  ln (lkW d).length <| bif ((C2 0 (0 : Nat)) && (C2 (0 : Nat) ((lkW d).length : Nat))) && (C2 ((lkW d).length : Nat) (bs.length : Nat)) then
   (bif !(F7 (lkW d) (List.take ((((lkW d).length : Nat) : Int) - (0 : Nat)).toNat (List.drop 0 bs))) then spE t a e else
     (ln (lkW d).length <| bif ((C2 0 ((lkW d).length : Nat)) && (C2 ((lkW d).length : Nat) (bs.length : Nat))) && (C2 (bs.length : Nat) (bs.length : Nat)) then
      (R9 ((List.replicate 0 (V.i 0)).length + (List.take (((bs.length : Nat) : Int) - ((lkW d).length : Nat)).toNat (List.drop (((lkW d).length : Nat) : Int).toNat bs)).length) <|
       some [.d t d, .r a (List.replicate 0 (V.i 0) ++ List.take (((bs.length : Nat) : Int) - ((lkW d).length : Nat)).toNat (List.drop (((lkW d).length : Nat) : Int).toNat bs)) false, .d e (.i 0)]) else none)) else none)) else none
def sqB (t a e : Nat) (bs : List V) (k : V) : Option (List Rs) :=
 E2 (C0t (List Rs)) (A2 FU) (.m bs B3 k (List.replicate 0 (V.s [])) 1) fun q => match q with
 | .o bs1 z1 e1 xs1 a1 => E2 (B5p (List Rs)) (A2 FU) (.m bs1 z1 e1 xs1) fun q => match q with
  | .o bs2 z2 e2 xs2 =>
   bif G5 (V.nth e2 0).int 1 then (ck 0 xs2.length <| ln (List.getD xs2 0 .n).els.length <| bif !(G5 ((List.getD xs2 0 .n).els.length : Nat) 20) then spE t a e else
    E2 (B11 (List Rs)) (A2 FU) (.m bs2 z2 e2 xs2 0) fun q => match q with
    | .o bs3 z3 e3 xs3 i3 => sqT t a e bs3 e3)
   else bif G5 (V.nth e2 0).int 2 then (ck 0 xs2.length <| ck 1 xs2.length <| ck 2 xs2.length <| sqT t a e bs2 (V.put (V.put (V.put e2 1 (.s (List.getD xs2 0 .n).els)) 3 (.s (List.getD xs2 1 .n).els)) 2 (.s (List.getD xs2 2 .n).els)))
   else bif G5 (V.nth e2 0).int 3 then (ck 0 xs2.length <| ck 1 xs2.length <| sqT t a e bs2 (V.put (V.put e2 1 (.s (List.getD xs2 0 .n).els)) 2 (.s (List.getD xs2 1 .n).els)))
   else sqT t a e bs2 e2
def C6g (t a e : Nat) (bs : List V) : Option (List Rs) :=
 ln bs.length <| bif G5 (bs.length : Nat) 0 then spN t a e bs else ck 0 bs.length <| bif B7 (V.nth (.l bs) 0).int 81 then spN t a e bs else
 ck 0 bs.length <| bif B7 83 (V.nth (.l bs) 0).int then spN t a e bs else ck 0 bs.length <| sqB t a e bs (V.put B3 0 (.i (C6 (C6 (V.nth (.l bs) 0).int - 80))))
variable {R : Type}
def B00 (c : Nat) : Nat := if c = 81 then 1 else if c = 82 then 3 else 2
def dOf (c : Nat) (l : List (List Nat)) : Option V :=
 if c = 81 then (match l with
  | [x] => if x.length = 20 then some (.l [.i 1, .s [], .s [], .s [], .l (x.map nv)]) else none
  | _ => none)
 else if c = 82 then (match l with
  | [x, y, z] => some (.l [.i 2, .s (x.map nv), .s (z.map nv), .s (y.map nv), z20])
  | _ => none)
 else (match l with
  | [x, y] => some (.l [.i 3, .s (x.map nv), .s (y.map nv), .s [], z20])
  | _ => none)
def fits (b : List Nat) (d : V) : Bool := A2C d && F7 (D8 d) ((b.map nv).take (D8 d).length)
def A4A (b : List Nat) : Option (V × List Nat) :=
 match b with
 | [] => some (B3, [])
 | c :: r => if 81 ≤ c ∧ c ≤ 83 then
   (match pcs (B00 c) r with
   | none => none
   | some p => match dOf c p.1 with
    | none => none
    | some d => if fits (c :: r) d then some (d, (c :: r).drop (D8 d).length) else none)
  else some (B3, c :: r)
def spD (x : V) : V := match A4A (F1 x) with
 | some q => q.1
 | none => B3
def spR (x : V) : List V := match A4A (F1 x) with
 | some q => q.2.map nv
 | none => []
def spX (x : V) : Bool := (A4A (F1 x)).isNone
def spI (x : V) : Int := bif spX x then 81 else 0
def spg : List V → Bool
 | [x] => Nat.ble x.els.length 30000
 | _ => false
def spr (t a e : Nat) (n : Bool) : List V → List Rs
 | [x] => [.d t (spD x), .r a (spR x) (spX x || (n && isN x)), .d e (.i (spI x))]
 | _ => []
theorem A9A {t a e : Nat} {b : List Nat} {n : Bool} {q : V × List Nat} (h : A4A b = some q) : spr t a e n [.l (b.map nv)] = [.d t q.1, .r a (q.2.map nv) false, .d e (.i 0)] := by
 have eb : F1 (.l (b.map nv)) = b := J5 rfl
 show [Rs.d t (spD (.l (b.map nv))), .r a (spR (.l (b.map nv))) (spX (.l (b.map nv)) || (n && isN (.l (b.map nv)))), .d e (.i (spI (.l (b.map nv))))] = _
 unfold spI spD spR spX
 rw [eb, h]
 cases n <;> rfl
theorem B6X {t a e : Nat} {b : List Nat} {n : Bool} (h : A4A b = none) : spr t a e n [.l (b.map nv)] = [.d t B3, .r a [] true, .d e (.i 81)] := by
 have eb : F1 (.l (b.map nv)) = b := J5 rfl
 show [Rs.d t (spD (.l (b.map nv))), .r a (spR (.l (b.map nv))) (spX (.l (b.map nv)) || (n && isN (.l (b.map nv)))), .d e (.i (spI (.l (b.map nv))))] = _
 unfold spI spD spR spX
 rw [eb, h]
 rfl
theorem A0R : ∀ {n : Nat} {b : List Nat} {p : List (List Nat) × List Nat}, pcs n b = some p → (∀ x ∈ b, x < 256) → p.1.length = n ∧ ∀ x ∈ p.1, (∀ a ∈ x, a < 256) ∧ x.length ≤ b.length := by
 intro n
 induction n with
 | zero => intro b p h hb; cases h; exact ⟨rfl, fun x hx => by cases hx⟩
 | succ n ih =>
  intro b p h hb
  simp only [pcs] at h
  cases hq : nxS b with
  | none => rw [hq] at h; cases h
  | some q =>
   rw [hq] at h
   simp only at h
   cases hp : pcs n (b.drop q.2.2) with
   | none => rw [hp] at h; cases h
   | some p1 =>
    rw [hp] at h
    cases h
    obtain ⟨_, _, u3, u4⟩ := A8U hq hb
    obtain ⟨i1, i2⟩ := ih hp (fun x hx => hb x (List.mem_of_mem_drop hx))
    refine ⟨by simp [i1], fun x hx => ?_⟩
    rcases List.mem_cons.1 hx with rfl | hx
    ·exact ⟨u3, u4⟩
    ·obtain ⟨j1, j2⟩ := i2 x hx
     exact ⟨j1, by simp at j2; omega⟩
theorem A3e {t a e : Nat} {b : List Nat} {n : Bool} (h : A4A b = none) : spE t a e = some (spr t a e n [.l (b.map nv)]) := by rw [B6X h]; rfl
theorem C1M {b : List V} {n : Nat} : List.take ((((n : Nat) : Int)) - (0 : Nat)).toNat (List.drop 0 b) = b.take n := by
 rw [List.drop_zero, show ((((n : Nat) : Int)) - ((0 : Nat) : Int)).toNat = n by omega]
theorem A4O {t a e : Nat} {b : List Nat} {d : V} {n : Bool} (hl : b.length ≤ 30000) (hw : (D8 d).length ≤ 100000) (hk : dkB d = true) (hs : A4A b = if fits b d then some (d, b.drop (D8 d).length) else none) :
  spT t a e (b.map nv) d = some (spr t a e n [.l (b.map nv)]) ∧ sqT t a e (b.map nv) d = some (spr t a e n [.l (b.map nv)]) := by
 unfold spT sqT lkW lkQ
 rw [hk]
 simp only [cond_true, show isN .n = true from rfl, Bool.and_self]
 by_cases hr : A2C d = true
 ·simp only [hr, cond_true, S5, decide_true, Bool.not_true, cond_false]
  have ln1 : ∀ k : Option (List Rs), ln (D8 d).length k = k := fun k => B5 (by omega)
  have ln2 : ∀ k : Option (List Rs), ln b.length k = k := fun k => B5 (by omega)
  simp only [ln1, D05, ln2, F8]
  by_cases hc : b.length < (D8 d).length
  ·rw [show decide ((b.length : Int) < ((D8 d).length : Nat)) = true by simp; omega, cond_true, cond_true]
   have hf : fits b d = false := by
    unfold fits
    rw [hr, Bool.true_and, ← Bool.not_eq_true, L0]
    intro h
    have := congrArg List.length h
    simp at this; omega
   rw [hf] at hs
   exact ⟨A3e hs, A3e hs⟩
  ·rw [show decide ((b.length : Int) < ((D8 d).length : Nat)) = false by simp; omega, cond_false, cond_false, show ((C2 0 ((0 : Nat) : Int) && C2 ((0 : Nat) : Int) ((D8 d).length : Nat)) && C2 ((D8 d).length : Nat) (b.length : Nat)) = true by simp only [P0, D02, D1d]; omega, cond_true, cond_true, C1M]
   rw [show eqg [.l (D8 d), .l (List.take (D8 d).length (b.map nv))] = true by
    show (Nat.ble (D8 d).length 100000 && Nat.ble (List.take (D8 d).length (b.map nv)).length 100000) = true
    simp only [D02, Nat.ble_eq, List.length_take, D05]; omega, cond_true]
   rw [show ((C2 0 ((D8 d).length : Nat) && C2 ((D8 d).length : Nat) (b.length : Nat)) && C2 (b.length : Nat) (b.length : Nat)) = true by simp only [P0, D02, D1d]; omega, cond_true]
   have ed : List.take (((b.length : Nat) : Int) - ((D8 d).length : Nat)).toNat (List.drop (((D8 d).length : Nat) : Int).toNat (b.map nv)) = (b.drop (D8 d).length).map nv := by
    rw [show (((D8 d).length : Nat) : Int).toNat = (D8 d).length by omega, List.take_of_length_le (by simp <;> omega), List.map_drop]
   rw [ed, D1 (by simp; omega)]
   have hf : fits b d = F7 (D8 d) ((b.map nv).take (D8 d).length) := by unfold fits; rw [hr, Bool.true_and]
   cases hv : F7 (D8 d) (List.take (D8 d).length (b.map nv)) with
   | true =>
    rw [hf, hv] at hs
    rw [A9A hs]
    exact ⟨rfl, rfl⟩
   | false =>
    rw [hf, hv] at hs
    exact ⟨A3e hs, A3e hs⟩
 ·simp only [Bool.not_eq_true] at hr
  have hf : fits b d = false := by unfold fits; rw [hr]; rfl
  rw [hf] at hs
  simp only [hr, cond_false, S5, show decide ((81 : Int) = 0) = false by decide, Bool.not_false, cond_true]
  exact ⟨A3e hs, A3e hs⟩
theorem A3X {k : Int} {nm vl rd c : List V} (h1 : nm.length ≤ 30000) (h2 : vl.length ≤ 30000) (h3 : rd.length ≤ 30000) (h4 : c.length ≤ 50) : (D8 (.l [.i k, .s nm, .s vl, .s rd, .l c])).length ≤ 100000 := by
 have l1 := B0U c
 have l2 := B0V nm rd vl
 have l3 := B0W nm vl
 show (bif G5 k 1 then w1L c else bif G5 k 2 then w2L nm rd vl else w3L nm vl).length ≤ 100000
 cases G5 k 1
 ·cases G5 k 2
  ·simp only [cond_false]; omega
  ·simp only [cond_false, cond_true]; omega
 ·simp only [cond_true]; omega
theorem A8j {c : Nat} {l : List (List Nat)} {d : V} (h : dOf c l = some d) (hx : ∀ x ∈ l, x.length ≤ 30000) : dkB d = true ∧ (D8 d).length ≤ 100000 := by
 have len : ∀ {x : List Nat}, x ∈ l → (x.map nv).length ≤ 30000 := fun hm => by rw [D05]; exact hx _ hm
 have dk : ∀ (k : Int) (nm vl rd : List V) (z : V), (C2 1 k && C2 k 3) = true → nm.length ≤ 30000 → vl.length ≤ 30000 → rd.length ≤ 30000 → dkB (.l [.i k, .s nm, .s vl, .s rd, z]) = true := by
  intro k nm vl rd z h0 h1 h2 h3
  show ((C2 1 k && C2 k 3) && (Nat.ble nm.length 60000 && (Nat.ble vl.length 60000 && Nat.ble rd.length 60000))) = true
  rw [h0]; simp only [D02, Nat.ble_eq]; exact ⟨trivial, by omega, by omega, by omega⟩
 unfold dOf at h
 split at h
 ·split at h
  ·rename_i x
   split at h
   ·rename_i h20
    cases h
    exact ⟨dk 1 [] [] [] _ (by decide) (by simp) (by simp) (by simp), A3X (by simp) (by simp) (by simp) (by simp; omega)⟩
   ·cases h
  ·cases h
 ·split at h
  ·split at h
   ·rename_i x y z
    cases h
    exact ⟨dk 2 _ _ _ _ (by decide) (len (by simp)) (len (by simp)) (len (by simp)), A3X (len (by simp)) (len (by simp)) (len (by simp)) (by decide)⟩
   ·cases h
  ·split at h
   ·rename_i x y
    cases h
    exact ⟨dk 3 _ _ _ _ (by decide) (len (by simp)) (len (by simp)) (by simp), A3X (len (by simp)) (len (by simp)) (by simp) (by decide)⟩
   ·cases h
theorem A2r {t a e : Nat} {b : List Nat} {n : Bool} (hl : b.length ≤ 30000) (h : A4A b = some (B3, b)) : spN t a e (b.map nv) = some (spr t a e n [.l (b.map nv)]) := by
 unfold spN
 rw [D1 (by simp; omega), A9A h]; rfl
theorem A3f {c : Nat} {r : List Nat} (h : ¬ (81 ≤ c ∧ c ≤ 83)) : A4A (c :: r) = some (B3, c :: r) := by
 simp only [A4A]; rw [if_neg h]
theorem A8k {c : Nat} {r : List Nat} (h : 81 ≤ c ∧ c ≤ 83) : A4A (c :: r) = (match pcs (B00 c) r with
   | none => none
   | some p => match dOf c p.1 with
    | none => none
    | some d => if fits (c :: r) d then some (d, (c :: r).drop (D8 d).length) else none) := by
 simp only [A4A]; rw [if_pos h]
theorem C1N {t a e c m : Nat} {k : Int} {r : List Nat} (hk : kS c = k) (hm : mS c = (m : Nat)) (h1 : 1 ≤ m ∧ m ≤ 3) (hk4 : 0 ≤ k ∧ k < 4) (hl : (c :: r).length ≤ 30000) : C1L t a e ((c :: r).map nv) (c : Nat) = (match pcs m r with
  | some p => sp1 t a e ((c :: r).map nv) k (lsW p.1)
  | none => spE t a e) := by
 have ex : xS ((c :: r).map nv) = .l (r.map nv) := by
  unfold xS
  show V.l (List.take _ (r.map nv)) = _
  rw [List.take_of_length_le (by simp only [D05, D09]; omega)]
 unfold C1L
 have hlen : (c :: r).length = r.length + 1 := rfl
 rw [hk, hm, ex, D05, C1 (by omega) (by simp <;> omega), show ((C2 0 1 && C2 1 ((c :: r).length : Nat)) && C2 ((c :: r).length : Nat) ((c :: r).length : Nat)) = true by simp only [P0, D02, D1d]; omega, cond_true, C1 (by omega) (by omega)]
 rw [show pdg [.l (r.map nv), .i (m : Nat)] = true by
  show ((!(isN (.l (r.map nv))) && Nat.ble (r.map nv).length 1000000) && (C2 1 (m : Nat) && C2 (m : Nat) 3)) = true
  simp only [P0, D02, D1d, Nat.ble_eq, D05]
  exact ⟨⟨rfl, by omega⟩, by omega, by omega⟩, cond_true]
 have eb : F1 (.l (r.map nv)) = r := J5 rfl
 unfold pdO pdL
 rw [eb, show ((m : Int)).toNat = m by omega]
 cases pcs m r <;> rfl
theorem B6Y {t a e : Nat} {b : List Nat} (hb : ∀ x ∈ b, x < 256) (hl : b.length ≤ 30000) : C6f t a e (b.map nv) = some (spr t a e true [.l (b.map nv)]) := by
 unfold C6f
 have ln1 : ∀ k : Option (List Rs), ln (b.map nv).length k = k := fun k => B5 (by simp; omega)
 rw [ln1, D05, F8]
 cases b with
 | nil => exact A2r (b := []) (by simp) rfl
 | cons c r =>
  have hc := hb c (by simp)
  have hlen : (c :: r).length = r.length + 1 := rfl
  rw [show decide ((0 : Int) < ((c :: r).length : Nat)) = true by simp <;> omega, cond_true, C1 (by omega) (by simp <;> omega), C1 (by omega) (by simp <;> omega), A6S c r 0 rfl, P0, F8]
  by_cases h1 : 81 ≤ c
  ·rw [show decide (81 ≤ (c : Int)) = true by simp; omega, cond_true]
   by_cases h2 : c ≤ 83
   ·rw [show decide ((c : Int) < 84) = true by simp; omega, cond_true]
    have hs := A8k (r := r) ⟨h1, h2⟩
    have go : ∀ (k : Int) (m : Nat), kS c = k → mS c = (m : Nat) → (1 ≤ m ∧ m ≤ 3) → (0 ≤ k ∧ k < 4) → B00 c = m →
      (∀ p, pcs m r = some p → sp1 t a e ((c :: r).map nv) k (lsW p.1) = match dOf c p.1 with
       | none => spE t a e
       | some d => spT t a e ((c :: r).map nv) d) → C1L t a e ((c :: r).map nv) (c : Nat) = some (spr t a e true [.l ((c :: r).map nv)]) := by
     intro k m hk hm h3 h4 hcn hsp
     rw [C1N hk hm h3 h4 hl]
     rw [hcn] at hs
     cases hp : pcs m r with
     | none => rw [hp] at hs; exact A3e hs
     | some p =>
      rw [hp] at hs
      simp only at hs ⊢
      rw [hsp p hp]
      cases hd : dOf c p.1 with
      | none => rw [hd] at hs; exact A3e hs
      | some d =>
       rw [hd] at hs
       simp only at hs ⊢
       obtain ⟨_, q2⟩ := A0R hp (fun x hx => hb x (by simp [hx]))
       obtain ⟨d1, d2⟩ := A8j hd (fun x hx => by have := (q2 x hx).2; omega)
       exact (A4O hl d2 d1 hs).1
    obtain rfl | rfl | rfl : c = 81 ∨ c = 82 ∨ c = 83 := by omega
    ·refine go 1 1 (by decide) (by decide) (by omega) (by omega) rfl (fun p hp => ?_)
     obtain ⟨q1, q2⟩ := A0R hp (fun x hx => hb x (by simp [hx]))
     match hpl : p.1, q1 with
     | [x], _ =>
      rw [hpl] at q2
      have hxl := (q2 x (by simp)).2
      show (bif G5 1 1 then (ck 0 1 <| ln (x.map nv).length <| bif G5 ((x.map nv).length : Nat) 20 then (ck 0 1 <| bif Nat.ble 20 (x.map nv).length then spT t a e _ (.l [.i 1, .s [], .s [], .s [], .l (List.take 20 (x.map nv))]) else none) else C1K t a e _ 1 _) else C1K t a e _ 1 _) = (match (if x.length = 20 then some (V.l [.i 1, .s [], .s [], .s [], .l (x.map nv)]) else none) with
       | none => spE t a e
       | some d => spT t a e _ d)
      rw [show G5 1 1 = true by decide, cond_true, C1 (by omega) (by omega), D05, B5 (by omega), S5]
      by_cases h20 : x.length = 20
      ·rw [if_pos h20, show decide ((x.length : Int) = 20) = true by simp; omega, cond_true, C1 (by omega) (by omega), D1b (by omega), cond_true, List.take_of_length_le (by simp; omega)]
      ·rw [if_neg h20, show decide ((x.length : Int) = 20) = false by simp; omega, cond_false]; rfl
    ·refine go 2 3 (by decide) (by decide) (by omega) (by omega) rfl (fun p hp => ?_)
     obtain ⟨q1, q2⟩ := A0R hp (fun x hx => hb x (by simp [hx]))
     match hpl : p.1, q1 with
     | [x, y, z], _ => rfl
    ·refine go 3 2 (by decide) (by decide) (by omega) (by omega) rfl (fun p hp => ?_)
     obtain ⟨q1, q2⟩ := A0R hp (fun x hx => hb x (by simp [hx]))
     match hpl : p.1, q1 with
     | [x, y], _ => rfl
   ·rw [show decide ((c : Int) < 84) = false by simp; omega, cond_false]
    exact A2r hl (A3f (by omega))
  ·rw [show decide (81 ≤ (c : Int)) = false by simp; omega, cond_false]
   exact A2r hl (A3f (by omega))
variable {R : Type}
def pcl : Nat → List Nat → List (List Nat)
 | 0, _ => []
 | n + 1, b => match nxS b with
  | none => []
  | some q => q.2.1 :: pcl n (b.drop q.2.2)
def lsS (l : List (List Nat)) : List V := l.map fun x => .s (x.map nv)
theorem C1O : ∀ (n : Nat) (b : List Nat), (pcl n b).length ≤ n := by
 intro n
 induction n with
 | zero => intro b; simp [pcl]
 | succ n ih =>
  intro b
  simp only [pcl]
  cases nxS b with
  | none => simp
  | some q => have := ih (b.drop q.2.2); simp; omega
theorem C6h : ∀ (n : Nat) (b : List Nat), (∀ x ∈ b, x < 256) → ∀ x ∈ pcl n b, (∀ a ∈ x, a < 256) ∧ x.length ≤ b.length := by
 intro n
 induction n with
 | zero => intro b hb x hx; cases hx
 | succ n ih =>
  intro b hb x hx
  simp only [pcl] at hx
  cases hq : nxS b with
  | none => rw [hq] at hx; cases hx
  | some q =>
   rw [hq] at hx
   obtain ⟨_, _, u3, u4⟩ := A8U hq hb
   rcases List.mem_cons.1 hx with rfl | hx
   ·exact ⟨u3, u4⟩
   ·obtain ⟨j1, j2⟩ := ih (b.drop q.2.2) (fun x hx => hb x (List.mem_of_mem_drop hx)) x hx
    exact ⟨j1, by simp at j2; omega⟩
theorem A8l : ∀ (n m : Nat) (b : List Nat) (p : List (List Nat) × List Nat), pcs n b = some p → pcl (n + m) b = p.1 ++ pcl m p.2 := by
 intro n
 induction n with
 | zero => intro m b p h; cases h; simp
 | succ n ih =>
  intro m b p h
  simp only [pcs] at h
  rw [show n + 1 + m = (n + m) + 1 by omega]
  simp only [pcl]
  cases hq : nxS b with
  | none => rw [hq] at h; cases h
  | some q =>
   rw [hq] at h
   simp only at h ⊢
   cases hp : pcs n (b.drop q.2.2) with
   | none => rw [hp] at h; cases h
   | some p1 =>
    rw [hp] at h; cases h
    rw [ih m _ _ hp]; rfl
theorem B6Z : ∀ (n m : Nat) (b : List Nat), pcs n b = none → (pcl (n + m) b).length < n := by
 intro n
 induction n with
 | zero => intro m b h; cases h
 | succ n ih =>
  intro m b h
  simp only [pcs] at h
  rw [show n + 1 + m = (n + m) + 1 by omega]
  simp only [pcl]
  cases hq : nxS b with
  | none => simp
  | some q =>
   rw [hq] at h
   simp only at h ⊢
   cases hp : pcs n (b.drop q.2.2) with
   | none => have := ih m _ hp; simp; omega
   | some p1 => rw [hp] at h; cases h
theorem C1P {x s : List Nat} (hx : x.length < 65536) : ∃ c, nxS (S6 x ++ s) = some (c, x, (S6 x).length) := by
 unfold S6
 by_cases h1 : x.length < 76
 ·rw [if_pos h1]
  refine ⟨x.length, ?_⟩
  show (if x.length ≤ 75 then tkS x.length 1 x.length (x.length :: (x ++ s)) else _) = _
  rw [if_pos (by omega)]
  unfold tkS
  rw [if_pos (by simp; omega)]
  simp; omega
 ·rw [if_neg h1]
  by_cases h2 : x.length < 256
  ·rw [if_pos h2]
   refine ⟨76, ?_⟩
   show tkS 76 2 x.length (76 :: x.length :: (x ++ s)) = _
   unfold tkS
   rw [if_pos (by simp; omega)]
   simp; omega
  ·rw [if_neg h2]
   refine ⟨77, ?_⟩
   show tkS 77 3 (x.length % 256 + 256 * (x.length / 256)) (77 :: (x.length % 256) :: (x.length / 256) :: (x ++ s)) = _
   rw [Nat.mod_add_div]
   unfold tkS
   rw [if_pos (by simp; omega)]
   simp; omega
theorem A16 {n : Nat} {x s : List Nat} (hx : x.length < 65536) : pcs (n + 1) (S6 x ++ s) = (match pcs n s with
  | none => none
  | some p => some (x :: p.1, p.2)) := by
 obtain ⟨c, hc⟩ := C1P (s := s) hx
 simp only [pcs]
 rw [hc]
 simp only [List.drop_left]
 cases pcs n s <;> rfl
theorem C1Q {kx : C8O → Option R} {ko : List V → Option R} {z e : V} {B : List Nat} (hk : ∀ xs a, kx (.o (B.map nv) z e xs a) = ko xs) (hb : ∀ x ∈ B, x < 256) (hl : B.length ≤ 100000) : ∀ (m at_ : Nat) (xs : List V) (fuel : Nat), xs.length + m = 3 → at_ ≤ B.length → m < fuel →
  E2 (C0t R) fuel (.m (B.map nv) z e xs (at_ : Nat)) kx = ko (xs ++ lsS (pcl m (B.drop at_))) := by
 intro m
 induction m with
 | zero =>
  intro at_ xs fuel hx ha hf
  obtain ⟨f, rfl⟩ : ∃ f, fuel = f + 1 := ⟨fuel - 1, by omega⟩
  rw [E2, C0u, B5 (by omega), F8, show decide ((xs.length : Int) < 3) = false by simp; omega, cond_false, hk]
  simp [pcl, lsS]
 | succ m ih =>
  intro at_ xs fuel hx ha hf
  obtain ⟨f, rfl⟩ : ∃ f, fuel = f + 1 := ⟨fuel - 1, by omega⟩
  have e1 : List.take (((B.map nv).length : Int) - (at_ : Nat)).toNat (List.drop ((at_ : Nat) : Int).toNat (B.map nv)) = (B.drop at_).map nv := by
   rw [show ((at_ : Nat) : Int).toNat = at_ by omega, List.take_of_length_le (by simp <;> omega), List.map_drop]
  obtain ⟨n1, n2⟩ := @B0f (B.drop at_)
  rw [E2, C0u, B5 (by omega), F8, show decide ((xs.length : Int) < 3) = true by simp; omega, cond_true, e1]
  simp only [D05]
  rw [B5 (by omega), P0, show decide (((at_ : Nat) : Int) ≤ (B.length : Nat)) = true by simp; omega, cond_true, show ((C2 0 ((at_ : Nat) : Int) && true) && C2 ((B.length : Nat) : Int) ((B.length : Nat) : Int)) = true by simp only [P0, D02, D1d, Bool.and_true]; omega, cond_true, D1b (by simp; omega), cond_true]
  simp only [pcl]
  cases hq : nxS (B.drop at_) with
  | none =>
   rw [n2 hq, S5, show decide ((71 : Int) = 0) = false by decide, Bool.not_false, cond_true, hk]
   simp [lsS]
  | some q =>
   obtain ⟨q1, q2, q3⟩ := n1 q hq
   obtain ⟨u1, u2, u3, _⟩ := A8U hq (fun x hx => hb x (List.mem_of_mem_drop hx))
   simp only [List.length_drop] at u1
   rw [q1, q2, q3, S5, show decide ((0 : Int) = 0) = true by decide, Bool.not_true, cond_false, D1 (by simp; omega), F0 (by omega) (by omega)]
   have := ih (at_ + q.2.2) (xs ++ [.s (q.2.1.map nv)]) f (by simp; omega) (by omega) (by omega)
   rw [show (((at_ + q.2.2 : Nat)) : Int) = (at_ : Int) + (q.2.2 : Nat) by omega] at this
   refine this.trans ?_
   show ko (xs ++ [.s (q.2.1.map nv)] ++ lsS (pcl m (B.drop (at_ + q.2.2)))) = ko (xs ++ lsS (q.2.1 :: pcl m ((B.drop at_).drop q.2.2)))
   rw [List.drop_drop]
   simp [lsS]
theorem C1R {kx : C8P → Option R} {z e : V} {bs : List V} : ∀ (m : Nat) (xs : List V) (fuel : Nat), xs.length + m = 3 → m < fuel →
  E2 (B5p R) fuel (.m bs z e xs) kx = kx (.o bs z e (xs ++ List.replicate m (.s []))) := by
 intro m
 induction m with
 | zero =>
  intro xs fuel hx hf
  obtain ⟨f, rfl⟩ : ∃ f, fuel = f + 1 := ⟨fuel - 1, by omega⟩
  rw [E2, C0v, B5 (by omega), F8, show decide ((xs.length : Int) < 3) = false by simp; omega, cond_false]
  simp
 | succ m ih =>
  intro xs fuel hx hf
  obtain ⟨f, rfl⟩ : ∃ f, fuel = f + 1 := ⟨fuel - 1, by omega⟩
  rw [E2, C0v, B5 (by omega), F8, show decide ((xs.length : Int) < 3) = true by simp; omega, cond_true, D1 (by simp; omega), ih _ _ (by simp; omega) (by omega)]
  simp [List.replicate_succ]
theorem C1S {kx : C8Q → Option R} {z k a b c : V} {bs xs : List V} {x : List Nat} (hx : List.getD xs 0 .n = .s (x.map nv)) (h0 : 0 < xs.length) (hxl : x.length = 20) : ∀ (m i : Nat) (r : List V) (fuel : Nat), i + m = 20 → r.length = m → m < fuel →
  E2 (B11 R) fuel (.m bs z (.l [k, a, b, c, .l ((x.take i).map nv ++ r)]) xs (i : Nat)) kx = kx (.o bs z (.l [k, a, b, c, .l (x.map nv)]) xs ((20 : Nat) : Int)) := by
 intro m
 induction m with
 | zero =>
  intro i r fuel hi hr hf
  obtain ⟨f, rfl⟩ : ∃ f, fuel = f + 1 := ⟨fuel - 1, by omega⟩
  obtain rfl : i = 20 := by omega
  obtain rfl : r = [] := List.length_eq_zero_iff.1 hr
  rw [E2, C0w, F8, show decide (((20 : Nat) : Int) < 20) = false by decide, cond_false, List.append_nil, List.take_of_length_le (by omega)]
 | succ m ih =>
  intro i r fuel hi hr hf
  obtain ⟨f, rfl⟩ : ∃ f, fuel = f + 1 := ⟨fuel - 1, by omega⟩
  have il : i < x.length := by omega
  have hel : (List.getD xs 0 .n).els = x.map nv := by rw [hx]; rfl
  have hg : (List.getD (x.map nv) i .n).int = (x[i] : Nat) := by
   rw [List.getD_eq_getElem?_getD, List.getElem?_map, D1e il]; rfl
  rw [E2, C0w, F8, show decide (((i : Nat) : Int) < 20) = true by simp; omega, cond_true, C1 (by omega) (by omega), hel, D05, C1 (by omega) (by omega), C1 (by omega) (by omega), show ((i : Nat) : Int).toNat = i by omega, hg, L1 (by omega)]
  cases r with
  | nil => simp at hr
  | cons y r =>
   have e2 : V.put (V.l [k, a, b, c, .l ((x.take i).map nv ++ y :: r)]) 4 (V.put (V.nth (V.l [k, a, b, c, .l ((x.take i).map nv ++ y :: r)]) 4) i (.i (x[i] : Nat))) = .l [k, a, b, c, .l ((x.take (i + 1)).map nv ++ r)] := by
    have : ((x.take i).map nv ++ y :: r).set i (.i (x[i] : Nat)) = (x.take (i + 1)).map nv ++ r := by
     rw [List.set_append_right _ _ (by simp; omega)]
     simp only [D05, List.length_take, show i - min i x.length = 0 by omega, List.set_cons_zero]
     rw [List.take_succ_eq_append_getElem il, List.map_append, List.append_assoc]; rfl
    show V.l [k, a, b, c, .l (((x.take i).map nv ++ y :: r).set i (.i (x[i] : Nat)))] = _
    rw [this]
   rw [e2]
   exact ih (i + 1) r f (by omega) (by simpa using hr) (by omega)
def w2N (a b c : List Nat) : List Nat := 82 :: (S6 a ++ (S6 b ++ (S6 c ++ [109, 109])))
def w3N (a b : List Nat) : List Nat := 83 :: (S6 a ++ (S6 b ++ [109, 117]))
theorem C6i (a b c : List Nat) : w2L (a.map nv) (b.map nv) (c.map nv) = (w2N a b c).map nv := by
 unfold w2L w2N M9
 simp only [List.map_cons, List.map_nil, Z4 (x := .l (a.map nv)) rfl, Z4 (x := .l (b.map nv)) rfl, Z4 (x := .l (c.map nv)) rfl, List.flatten_cons, List.flatten_nil, List.map_append]
 simp [nv]
theorem C6j (a b : List Nat) : w3L (a.map nv) (b.map nv) = (w3N a b).map nv := by
 unfold w3L w3N M9
 simp only [List.map_cons, List.map_nil, Z4 (x := .l (a.map nv)) rfl, Z4 (x := .l (b.map nv)) rfl, List.flatten_cons, List.flatten_nil, List.map_append]
 simp [nv]
theorem B60 {w b : List Nat} (h : F7 (w.map nv) ((b.map nv).take (w.map nv).length) = true) : ∃ s, b = w ++ s := by
 rw [L0, ← List.map_take] at h
 have := C0s h
 rw [D05] at this
 exact ⟨b.drop w.length, (List.take_append_drop w.length b).symm.trans (by rw [← this])⟩
theorem C9b {c : Nat} {r x y z : List Nat} (hx : x.length ≤ 30000) (hy : y.length ≤ 30000) (hz : z.length ≤ 30000) (h : fits (c :: r) (.l [.i 2, .s (x.map nv), .s (z.map nv), .s (y.map nv), z20]) = true) : ∃ s, pcs 3 r = some ([x, y, z], s) := by
 unfold fits at h
 rw [D02] at h
 have h2 := h.2
 have e : D8 (.l [.i 2, .s (x.map nv), .s (z.map nv), .s (y.map nv), z20]) = (w2N x y z).map nv := C6i x y z
 rw [e] at h2
 obtain ⟨s, hs⟩ := B60 h2
 have : r = S6 x ++ (S6 y ++ (S6 z ++ ([109, 109] ++ s))) := by
  have := (List.cons.inj hs).2
  rw [this]; simp
 refine ⟨[109, 109] ++ s, ?_⟩
 rw [this, A16 (by omega), A16 (by omega), A16 (by omega)]
 rfl
theorem C9c {c : Nat} {r x y : List Nat} (hx : x.length ≤ 30000) (hy : y.length ≤ 30000) (h : fits (c :: r) (.l [.i 3, .s (x.map nv), .s (y.map nv), .s [], z20]) = true) : ∃ s, pcs 2 r = some ([x, y], s) := by
 unfold fits at h
 rw [D02] at h
 have h2 := h.2
 have e : D8 (.l [.i 3, .s (x.map nv), .s (y.map nv), .s [], z20]) = (w3N x y).map nv := C6j x y
 rw [e] at h2
 obtain ⟨s, hs⟩ := B60 h2
 have : r = S6 x ++ (S6 y ++ ([109, 117] ++ s)) := by
  have := (List.cons.inj hs).2
  rw [this]; simp
 refine ⟨[109, 117] ++ s, ?_⟩
 rw [this, A16 (by omega), A16 (by omega)]
 rfl
theorem C97 (l : List (List Nat)) (h : l.length ≤ 3) : lsS l ++ List.replicate (3 - l.length) (.s []) = [.s ((l.getD 0 []).map nv), .s ((l.getD 1 []).map nv), .s ((l.getD 2 []).map nv)] := by
 match l, h with
 | [], _ => rfl
 | [a], _ => rfl
 | [a, b], _ => rfl
 | [a, b, c], _ => rfl
 | _ :: _ :: _ :: _ :: _, h => simp at h
theorem B61 {t a e : Nat} {b : List Nat} (hb : ∀ x ∈ b, x < 256) (hl : b.length ≤ 30000) : C6g t a e (b.map nv) = some (spr t a e false [.l (b.map nv)]) := by
 unfold C6g
 have ln1 : ∀ k : Option (List Rs), ln (b.map nv).length k = k := fun k => B5 (by simp; omega)
 rw [ln1, D05, S5]
 cases b with
 | nil => exact A2r (b := []) (by simp) rfl
 | cons c r =>
  have hc := hb c (by simp)
  have hlen : (c :: r).length = r.length + 1 := rfl
  have ck1 : ∀ k : Option (List Rs), ck 0 (c :: r).length k = k := fun k => C1 (by omega) (by simp <;> omega)
  simp only [ck1]
  rw [show decide ((((c :: r).length : Nat) : Int) = 0) = false by simp <;> omega, cond_false, A6S c r 0 rfl, F8, F8]
  by_cases h1 : 81 ≤ c
  ·rw [show decide ((c : Int) < 81) = false by simp; omega, cond_false]
   by_cases h2 : c ≤ 83
   ·rw [show decide (83 < (c : Int)) = false by simp; omega, cond_false, A1u (by omega), F0 (by omega) (by omega)]
    have hs := A8k (r := r) ⟨h1, h2⟩
    have hq := P6
    have hlen3 := C1O 3 r
    have hpok := C6h 3 r (fun x hx => hb x (by simp [hx]))
    have hget : ∀ i, ((pcl 3 r).getD i []).length ≤ 30000 := fun i => by
     rw [List.getD_eq_getElem?_getD]
     cases hg : (pcl 3 r)[i]? with
     | none => simp
     | some x => have := (hpok x (List.mem_of_getElem? hg)).2; simp; omega
    generalize hX : (pcl 3 r).getD 0 [] = X at hget
    have hX0 := hget 0
    rw [hX] at hX0
    have hY0 := hget 1
    have hZ0 := hget 2
    generalize hY : (pcl 3 r).getD 1 [] = Y at hY0
    generalize hZ : (pcl 3 r).getD 2 [] = Z at hZ0
    unfold sqB
    refine (C1Q (ko := fun xs => E2 (B5p (List Rs)) (A2 FU) (.m ((c :: r).map nv) B3 _ xs) fun q => match q with
     | .o bs2 z2 e2 xs2 =>
      bif G5 (V.nth e2 0).int 1 then (ck 0 xs2.length <| ln (List.getD xs2 0 .n).els.length <| bif !(G5 ((List.getD xs2 0 .n).els.length : Nat) 20) then spE t a e else
       E2 (B11 (List Rs)) (A2 FU) (.m bs2 z2 e2 xs2 0) fun q => match q with
       | .o bs3 z3 e3 xs3 i3 => sqT t a e bs3 e3)
      else bif G5 (V.nth e2 0).int 2 then (ck 0 xs2.length <| ck 1 xs2.length <| ck 2 xs2.length <| sqT t a e bs2 (V.put (V.put (V.put e2 1 (.s (List.getD xs2 0 .n).els)) 3 (.s (List.getD xs2 1 .n).els)) 2 (.s (List.getD xs2 2 .n).els)))
      else bif G5 (V.nth e2 0).int 3 then (ck 0 xs2.length <| ck 1 xs2.length <| sqT t a e bs2 (V.put (V.put e2 1 (.s (List.getD xs2 0 .n).els)) 2 (.s (List.getD xs2 1 .n).els)))
      else sqT t a e bs2 e2) (fun _ _ => rfl) hb (by omega) 3 1 (List.replicate 0 (V.s [])) (A2 FU) rfl (by omega) (by omega)).trans ?_
    refine (C1R (3 - (pcl 3 r).length) _ (A2 FU) (by simp [lsS]; omega) (by omega)).trans ?_
    rw [show (List.replicate 0 (V.s []) ++ lsS (pcl 3 ((c :: r).drop 1))) ++ List.replicate (3 - (pcl 3 r).length) (V.s []) = [.s (X.map nv), .s (Y.map nv), .s (Z.map nv)] by
     rw [← hX, ← hY, ← hZ]; exact C97 _ hlen3]
    obtain rfl | rfl | rfl : c = 81 ∨ c = 82 ∨ c = 83 := by omega
    ·-- a first word
     show (ck 0 3 <| ln (X.map nv).length <| bif !(G5 ((X.map nv).length : Nat) 20) then spE t a e else
       E2 (B11 (List Rs)) (A2 FU) (.m ((81 :: r).map nv) B3 (.l [.i 1, .s [], .s [], .s [], .l (List.replicate 20 (.i 0))]) [.s (X.map nv), .s (Y.map nv), .s (Z.map nv)] 0) fun q => match q with
       | .o bs3 z3 e3 xs3 i3 => sqT t a e bs3 e3) = _
     rw [C1 (by omega) (by omega), D05, B5 (by omega), S5]
     rw [show B00 81 = 1 from rfl] at hs
     have h20 : ∀ p, pcs 1 r = some p → p.1 = [X] := fun p hp => by
      obtain ⟨q1, _⟩ := A0R hp (fun x hx => hb x (by simp [hx]))
      have := A8l 1 2 r p hp
      match hpl : p.1, q1 with
      | [x], _ =>
       rw [hpl] at this
       rw [show pcl 3 r = pcl (1 + 2) r from rfl, this] at hX
       simp at hX; rw [hX]
     by_cases hx : X.length = 20
     ·rw [show decide ((X.length : Int) = 20) = true by simp; omega, Bool.not_true, cond_false]
      have hsome : ∃ p, pcs 1 r = some p := by
       cases hp : pcs 1 r with
       | some p => exact ⟨p, rfl⟩
       | none =>
        have := B6Z 1 2 r hp
        have hz : pcl 3 r = [] := List.length_eq_zero_iff.1 (by show (pcl (1 + 2) r).length = 0; omega)
        rw [hz] at hX
        have : X = [] := by rw [← hX]; rfl
        rw [this] at hx; cases hx
      obtain ⟨p, hp⟩ := hsome
      rw [hp] at hs
      have hd : dOf 81 p.1 = some (.l [.i 1, .s [], .s [], .s [], .l (X.map nv)]) := by
       rw [h20 p hp]; show (if X.length = 20 then _ else _) = _; rw [if_pos hx]
      simp only [hd] at hs
      obtain ⟨d1, d2⟩ := A8j hd (fun x hx' => by rw [h20 p hp] at hx'; simp at hx'; rw [hx']; omega)
      refine (C1S (x := X) rfl (by simp) hx 20 0 (List.replicate 20 (.i 0)) (A2 FU) rfl (by simp) (by omega)).trans ?_
      exact (A4O hl d2 d1 hs).2
     ·rw [show decide ((X.length : Int) = 20) = false by simp; omega, Bool.not_false, cond_true]
      refine A3e ?_
      rw [hs]
      cases hp : pcs 1 r with
      | none => rfl
      | some p =>
       have hd : dOf 81 p.1 = none := by
        rw [h20 p hp]; show (if X.length = 20 then _ else _) = _; rw [if_neg hx]
       simp only [hd]
    ·show (ck 0 3 <| ck 1 3 <| ck 2 3 <| sqT t a e ((82 :: r).map nv) (.l [.i 2, .s (X.map nv), .s (Z.map nv), .s (Y.map nv), z20])) = _
     rw [C1 (by omega) (by omega), C1 (by omega) (by omega), C1 (by omega) (by omega)]
     rw [show B00 82 = 3 from rfl] at hs
     obtain ⟨d1, d2⟩ := A8j (c := 82) (l := [X, Y, Z]) (d := .l [.i 2, .s (X.map nv), .s (Z.map nv), .s (Y.map nv), z20]) rfl (fun x hx => by
      simp only [List.mem_cons, List.not_mem_nil, or_false] at hx
      rcases hx with rfl | rfl | rfl <;> assumption)
     refine (A4O hl d2 d1 ?_).2
     rw [hs]
     cases hp : pcs 3 r with
     | none =>
      have : fits (82 :: r) (.l [.i 2, .s (X.map nv), .s (Z.map nv), .s (Y.map nv), z20]) = false := by
       rw [← Bool.not_eq_true]
       intro hf
       obtain ⟨s, h3⟩ := C9b hX0 hY0 hZ0 hf
       rw [hp] at h3; cases h3
      rw [this]; rfl
     | some p =>
      obtain ⟨q1, _⟩ := A0R hp (fun x hx => hb x (by simp [hx]))
      have := A8l 3 0 r p hp
      have hp1 : p.1 = [X, Y, Z] := by
       have e3 : pcl 3 r = p.1 := by rw [show pcl 3 r = pcl (3 + 0) r from rfl, this]; simp [pcl]
       rw [e3] at hX hY hZ
       match hpl : p.1, q1 with
       | [x, y, z], _ => rw [hpl] at hX hY hZ; simp at hX hY hZ; rw [hX, hY, hZ]
      simp only [hp1]
      rfl
    ·show (ck 0 3 <| ck 1 3 <| sqT t a e ((83 :: r).map nv) (.l [.i 3, .s (X.map nv), .s (Y.map nv), .s [], z20])) = _
     rw [C1 (by omega) (by omega), C1 (by omega) (by omega)]
     rw [show B00 83 = 2 from rfl] at hs
     obtain ⟨d1, d2⟩ := A8j (c := 83) (l := [X, Y]) (d := .l [.i 3, .s (X.map nv), .s (Y.map nv), .s [], z20]) rfl (fun x hx => by
      simp only [List.mem_cons, List.not_mem_nil, or_false] at hx
      rcases hx with rfl | rfl <;> assumption)
     refine (A4O hl d2 d1 ?_).2
     rw [hs]
     cases hp : pcs 2 r with
     | none =>
      have : fits (83 :: r) (.l [.i 3, .s (X.map nv), .s (Y.map nv), .s [], z20]) = false := by
       rw [← Bool.not_eq_true]
       intro hf
       obtain ⟨s, h3⟩ := C9c hX0 hY0 hf
       rw [hp] at h3; cases h3
      rw [this]; rfl
     | some p =>
      obtain ⟨q1, _⟩ := A0R hp (fun x hx => hb x (by simp [hx]))
      have := A8l 2 1 r p hp
      have hp1 : p.1 = [X, Y] := by
       match hpl : p.1, q1 with
       | [x, y], _ =>
        have e3 : pcl 3 r = [x, y] ++ pcl 1 p.2 := by rw [show pcl 3 r = pcl (2 + 1) r from rfl, this, hpl]
        rw [e3] at hX hY
        simp at hX hY; rw [hX, hY]
      simp only [hp1]
      rfl
   ·rw [show decide (83 < (c : Int)) = true by simp; omega, cond_true]
    exact A2r hl (A3f (by omega))
  ·rw [show decide ((c : Int) < 81) = true by simp; omega, cond_true]
   exact A2r hl (A3f (by omega))
def cmV (b : List Nat) : V := .l ((A7Y (A3Z b)).els.take 20)
def cm1 (t : Nat) (x y : List V) : Option (List Rs) := bif dsg [.l [.l x, .l y]] then some [.d t (cmV (A1X [.l x, .l y]))] else none
def cm2 (t : Nat) (x y : List V) : Option (List Rs) := R9 (x.length + y.length) <| bif Nat.ble (x ++ y).length 1000000000 then some [.d t (cmV (F1 (.l (x ++ y))))] else none
def cmt (x y : V) : V := cmV (F1 x ++ F1 y)
def cmg : List V → Bool
 | [x, y] => Nat.ble x.els.length 100000 && Nat.ble y.els.length 100000
 | _ => false
def cmr (t : Nat) : List V → List Rs
 | [x, y] => [.d t (cmt x y)]
 | _ => []
theorem B62 {t : Nat} {x y : List V} (hg : cmg [.s x, .s y] = true) : cm1 t x y = some (cmr t [.s x, .s y]) ∧ cm2 t x y = some (cmr t [.s x, .s y]) := by
 have hg : (Nat.ble x.length 100000 && Nat.ble y.length 100000) = true := hg
 simp only [D02, Nat.ble_eq] at hg
 have e0 : cmr t [.s x, .s y] = [.d t (cmV (F1 (.s x) ++ F1 (.s y)))] := rfl
 have e1 : A1X [.l x, .l y] = F1 (.s x) ++ F1 (.s y) := by
  show F1 (.l x) ++ (F1 (.l y) ++ []) = _
  rw [List.append_nil]; rfl
 have e2 : F1 (.l (x ++ y)) = F1 (.s x) ++ F1 (.s y) := by
  show (x ++ y).map _ = x.map _ ++ y.map _
  rw [List.map_append]
 rw [e0]
 constructor
 ·unfold cm1
  rw [e1, show dsg [.l [.l x, .l y]] = true by
   show (bif Nat.ble (x.length + (y.length + 0)) 1000000000 then Nat.ble 2 100000000 else false) = true
   rw [D1b (by omega)]; rfl, cond_true]
 ·unfold cm2
  rw [e2, D1 (by omega), D1b (by simp; omega), cond_true]
inductive B4f where
 | m (z : V) (u : Int) (v : Int) (d : V) (a : Int) (l : V) (n : Int) (i : Int)
inductive C6k where
 | o (z : V) (u : Int) (v : Int) (d : V) (a : Int) (l : V) (n : Int) (i : Int)
 | r (z : V) (u : Int) (v : Int) (d : V) (a : Int) (l : V) (n : Int) (i : Int)
def B63 (R : Type) (p : B4f) (K : B4f → Option R) (kx : C6k → Option R) : Option R :=
 match p with
 | .m z u v d a l n i =>
  bif B7 i n then
   ck i ((l.els).length) <|
   bif Nat.ble ((((V.nth (V.nth l i.toNat) 1)).els).length) 30000 then
   bif !(G5 (spI (V.nth (V.nth l i.toNat) 1)) 0) then
   kx (.r B3 (.negSucc 0) 171 d a l n i)
   else
   bif !(G5 (((V.nth (spD (V.nth (V.nth l i.toNat) 1)) 0)).int) 0) then
   bif C2 0 a then
   kx (.r B3 (.negSucc 0) 171 d a l n i)
   else
   bif !(G5 (((V.nth (spD (V.nth (V.nth l i.toNat) 1)) 0)).int) 0) then
   K (.m z u v (spD (V.nth (V.nth l i.toNat) 1)) i l n (C6 (i + 1)))
   else
   K (.m z u v d a l n (C6 (i + 1)))
   else
   bif !(G5 (((V.nth (spD (V.nth (V.nth l i.toNat) 1)) 0)).int) 0) then
   K (.m z u v (spD (V.nth (V.nth l i.toNat) 1)) i l n (C6 (i + 1)))
   else
   K (.m z u v d a l n (C6 (i + 1)))
   else
   none
   else
   kx (.o z u v d a l n i)
abbrev B64 := @B63.eq_1
inductive B4g where
 | m (z : V) (u : Int) (v : Int) (d : V) (a : Int) (m : Int) (l : V) (n : Int) (i : Int)
inductive B65 where
 | o (z : V) (u : Int) (v : Int) (d : V) (a : Int) (m : Int) (l : V) (n : Int) (i : Int)
 | r (z : V) (u : Int) (v : Int) (d : V) (a : Int) (m : Int) (l : V) (n : Int) (i : Int)
def B4h (R : Type) (p : B4g) (K : B4g → Option R) (kx : B65 → Option R) : Option R :=
 match p with
 | .m z u v d a m l n i =>
  bif B7 i n then
   ck i ((l.els).length) <|
   bif Nat.ble ((((V.nth (V.nth l i.toNat) 1)).els).length) 30000 then
   bif !(G5 (spI (V.nth (V.nth l i.toNat) 1)) 0) then
   kx (.r B3 (.negSucc 0) 171 d a m l n i)
   else
   bif !(G5 (((V.nth (spD (V.nth (V.nth l i.toNat) 1)) 0)).int) 0) then
   K (.m z u v (spD (V.nth (V.nth l i.toNat) 1)) i (C6 (m + 1)) l n (C6 (i + 1)))
   else
   K (.m z u v d a m l n (C6 (i + 1)))
   else
   none
   else
   kx (.o z u v d a m l n i)
abbrev A8m := @B4h.eq_1
inductive B4i where
 | m (z : V) (h : V) (l : V) (n : Int) (i : Int)
inductive C6l where
 | o (z : V) (h : V) (l : V) (n : Int) (i : Int)
 | r (z : V) (h : V) (l : V) (n : Int) (i : Int)
def B66 (R : Type) (p : B4i) (K : B4i → Option R) (kx : C6l → Option R) : Option R :=
 match p with
 | .m z h l n i =>
  bif B7 i n then
   ck i ((l.els).length) <|
   bif Nat.ble ((((V.nth (V.nth (V.nth l i.toNat) 0) 1)).els).length) 30000 then
   bif !(G5 (spI (V.nth (V.nth (V.nth l i.toNat) 0) 1)) 0) then
   K (.m z h l n (C6 (i + 1)))
   else
   bif G5 (((V.nth (spD (V.nth (V.nth (V.nth l i.toNat) 0) 1)) 0)).int) 0 then
   K (.m z h l n (C6 (i + 1)))
   else
   bif C2 0 (((V.nth h 2)).int) then
   kx (.r (.l [(V.l [(V.i 0), (V.s ([] : List V)), (V.s ([] : List V)), (V.s ([] : List V)), (V.l (List.replicate 20 (V.i 0)))]), (V.l [(V.l [(V.i 0), .n]), (V.i 0), (V.b false)]), (V.i 0)]) h l n i)
   else
   K (.m z (V.put (V.put (V.put (.l [(V.l [(V.i 0), (V.s ([] : List V)), (V.s ([] : List V)), (V.s ([] : List V)), (V.l (List.replicate 20 (V.i 0)))]), (V.l [(V.l [(V.i 0), .n]), (V.i 0), (V.b false)]), (V.i 0)]) 0 (spD (V.nth (V.nth (V.nth l i.toNat) 0) 1))) 1 (V.nth l i.toNat)) 2 (.i i)) l n (C6 (i + 1)))
   else
   none
   else
   kx (.o z h l n i)
abbrev B67 := @B66.eq_1
inductive B4j where
 | m (e : V) (c : V) (h : Int) (t : V) (z : V) (r : Int) (y : V) (d : V) (a : Int) (x : V) (j : Int) (m : Int) (l : V) (n : Int) (i : Int)
inductive C6m where
 | o (e : V) (c : V) (h : Int) (t : V) (z : V) (r : Int) (y : V) (d : V) (a : Int) (x : V) (j : Int) (m : Int) (l : V) (n : Int) (i : Int)
def B68 (R : Type) (p : B4j) (K : B4j → Option R) (kx : C6m → Option R) : Option R :=
 match p with
 | .m e c h t z r y d a x j m l n i =>
  bif B7 i n then
   ck i ((l.els).length) <|
   bif Nat.ble ((((V.nth (V.nth (V.nth l i.toNat) 0) 1)).els).length) 30000 then
   bif G5 (spI (V.nth (V.nth (V.nth l i.toNat) 0) 1)) 0 then
   bif !(G5 (((V.nth (spD (V.nth (V.nth (V.nth l i.toNat) 0) 1)) 0)).int) 0) then
   K (.m e c h t z r y d a (spD (V.nth (V.nth (V.nth l i.toNat) 0) 1)) i (C6 (m + 1)) l n (C6 (i + 1)))
   else
   K (.m e c h t z r y d a x j m l n (C6 (i + 1)))
   else
   K (.m e c h t z r y d a x j m l n (C6 (i + 1)))
   else
   none
   else
   kx (.o e c h t z r y d a x j m l n i)
abbrev B69 := @B68.eq_1
inductive B4k where
 | m (t : V) (l : V) (n : Int) (i : Int)
inductive C6n where
 | o (t : V) (l : V) (n : Int) (i : Int)
 | r (t : V) (l : V) (n : Int) (i : Int)
def B7a (R : Type) (p : B4k) (K : B4k → Option R) (kx : C6n → Option R) : Option R :=
 match p with
 | .m t l n i =>
  bif B7 i n then
   ck i ((l.els).length) <|
   ln ((((V.nth (V.nth l i.toNat) 1)).els).length) <|
   bif B7 500 ((((V.nth (V.nth l i.toNat) 1)).els).length : Nat) then
   kx (.r t l n i)
   else
   K (.m t l n (C6 (i + 1)))
   else
   kx (.o t l n i)
abbrev B7b := @B7a.eq_1
inductive B4l where
 | m (t : V) (l : V) (n : Int) (i : Int)
inductive C6o where
 | o (t : V) (l : V) (n : Int) (i : Int)
 | r (t : V) (l : V) (n : Int) (i : Int)
def B4m (R : Type) (p : B4l) (K : B4l → Option R) (kx : C6o → Option R) : Option R :=
 match p with
 | .m t l n i =>
  bif B7 i n then
   ck i ((l.els).length) <|
   ln ((((V.nth (V.nth l i.toNat) 1)).els).length) <|
   bif B7 300 ((((V.nth (V.nth l i.toNat) 1)).els).length : Nat) then
   kx (.r t l n i)
   else
   K (.m t l n (C6 (i + 1)))
   else
   kx (.o t l n i)
abbrev B7c := @B4m.eq_1
inductive B4n where
 | m (e : V) (s : V) (t : V) (xs : List V) (l : V) (n : Int) (i : Int)
inductive C6p where
 | o (e : V) (s : V) (t : V) (xs : List V) (l : V) (n : Int) (i : Int)
 | r (e : V) (s : V) (t : V) (xs : List V) (l : V) (n : Int) (i : Int)
def B7d (R : Type) (p : B4n) (K : B4n → Option R) (kx : C6p → Option R) : Option R :=
 match p with
 | .m e s t xs l n i =>
  bif B7 i n then
   ck i ((s.els).length) <|
   bif B7 (((V.nth (V.nth (V.nth s i.toNat) 1) 1)).int) 0 then
   kx (.r e s t xs l n i)
   else
   bif B7 1000000000 (((V.nth (V.nth (V.nth s i.toNat) 1) 1)).int) then
   kx (.r e s t xs l n i)
   else
   ln ((((V.nth (V.nth (V.nth (V.nth s i.toNat) 1) 0) 1)).els).length) <|
   bif B7 500 ((((V.nth (V.nth (V.nth (V.nth s i.toNat) 1) 0) 1)).els).length : Nat) then
   kx (.r e s t xs l n i)
   else
   R9 (xs.length + ([(V.nth (V.nth s i.toNat) 1)]).length) <|
   K (.m e s t (xs ++ [(V.nth (V.nth s i.toNat) 1)]) l n (C6 (i + 1)))
   else
   kx (.o e s t xs l n i)
abbrev B7e := @B7d.eq_1
variable {R : Type}
def tdL : List V → Int → V → Int → Option (V × Int)
 | [], _, d, a => some (d, a)
 | o :: r, i, d, a => bif spX (o.nth 1) then none else bif !(G5 (V.nth (spD (o.nth 1)) 0).int 0) then (bif C2 0 a then none else tdL r (i + 1) (spD (o.nth 1)) i) else tdL r (i + 1) d a
def tdS (t : V) : Option (V × Int) := tdL (t.nth 2).els 0 B3 (-1)
def tdD (t : V) : V := match tdS t with
 | some q => q.1
 | none => B3
def tdA (t : V) : Int := match tdS t with
 | some q => q.2
 | none => -1
def tdE (t : V) : Int := match tdS t with
 | some _ => 0
 | none => 171
def X7 (l : List V) : Bool := Nat.ble l.length 1000 && l.all fun o => Nat.ble (o.nth 1).els.length 30000
def tdg : List V → Bool
 | [t] => X7 (t.nth 2).els
 | _ => false
def tdr (a b c : Nat) : List V → List Rs
 | [t] => [.d a (tdD t), .d b (.i (tdA t)), .d c (.i (tdE t))]
 | _ => []
def tdF (a b c : Nat) : Option (V × Int) → Option (List Rs)
 | some q => some [.d a q.1, .d b (.i q.2), .d c (.i 0)]
 | none => some [.d a B3, .d b (.i (-1)), .d c (.i 171)]
theorem C6q {a b c : Nat} {t : V} : tdF a b c (tdS t) = some (tdr a b c [t]) := by
 show _ = some [Rs.d a (tdD t), .d b (.i (tdA t)), .d c (.i (tdE t))]
 unfold tdD tdA tdE
 cases tdS t <;> rfl
theorem A4t {l : List V} (h : X7 l = true) : l.length ≤ 1000 ∧ ∀ o ∈ l, (o.nth 1).els.length ≤ 30000 := by
 unfold X7 at h
 simpa only [D02, Nat.ble_eq, List.all_eq_true] using h
theorem A8n (x : V) : (!(G5 (spI x) 0)) = spX x := by unfold spI; cases spX x <;> rfl
theorem C6r (x : V) : G5 (spI x) 0 = !(spX x) := by unfold spI; cases spX x <;> rfl
theorem C6s {kx : C6k → Option R} {ko : V → Int → Option R} {kr : Option R} {z l : V} {u v : Int} (ho : ∀ d a n i, kx (.o z u v d a l n i) = ko d a) (hr : ∀ d a n i, kx (.r B3 (-1) 171 d a l n i) = kr) : ∀ (r b : List V) (d : V) (a : Int) (fuel : Nat), l.els = b ++ r → (∀ o ∈ r, (o.nth 1).els.length ≤ 30000) → b.length + r.length ≤ 1000 → r.length < fuel →
  E2 (B63 R) fuel (.m z u v d a l (l.els.length : Nat) (b.length : Nat)) kx = (match tdL r (b.length : Nat) d a with
   | some q => ko q.1 q.2
   | none => kr) := by
 intro r
 induction r with
 | nil =>
  intro b d a fuel he hg hb hf
  obtain ⟨f, rfl⟩ : ∃ f, fuel = f + 1 := ⟨fuel - 1, by omega⟩
  rw [List.append_nil] at he
  rw [E2, B64, A2K he, cond_false, ho]; rfl
 | cons o r ih =>
  intro b d a fuel he hg hb hf
  obtain ⟨f, rfl⟩ : ∃ f, fuel = f + 1 := ⟨fuel - 1, by omega⟩
  simp only [D09] at hb hf
  have hle : l.els.length = b.length + (r.length + 1) := by rw [he]; simp
  have hat : l.nth ((b.length : Nat) : Int).toNat = o := U5 he
  have ih := fun d a => ih (b ++ [o]) d a f (by rw [he]; simp) (fun x hx => hg x (by simp [hx])) (by simp; omega) (by omega)
  simp only [D03, D1a] at ih
  rw [E2, B64, A2J he, cond_true, C1 (by omega) (by omega), hat, D1b (hg o (by simp)), cond_true, A8n, L1 (by omega), ih, ih]
  simp only [tdL]
  cases spX (o.nth 1) with
  | true => rw [cond_true, cond_true]; exact hr _ _ _ _
  | false =>
   rw [cond_false, cond_false]
   cases !(G5 (V.nth (spD (o.nth 1)) 0).int 0) with
   | true =>
    simp only [cond_true]
    cases C2 0 a with
    | true => simp only [cond_true]; exact hr _ _ _ _
    | false => simp only [cond_false]; rw [show ((b.length + 1 : Nat) : Int) = (b.length : Nat) + 1 by omega]
   | false => simp only [cond_false]; rw [show ((b.length + 1 : Nat) : Int) = (b.length : Nat) + 1 by omega]
theorem C1T {kx : B65 → Option R} {kr : Option R} {z l : V} {u v : Int} (ho : ∀ d a m n i, 2 ≤ m → kx (.o z u v d a m l n i) = kr) (hr : ∀ d a m n i, kx (.r B3 (-1) 171 d a m l n i) = kr) : ∀ (r b : List V) (d : V) (a m : Int) (fuel : Nat), l.els = b ++ r → (∀ o ∈ r, (o.nth 1).els.length ≤ 30000) → b.length + r.length ≤ 1000 → r.length < fuel → 2 ≤ m → m + r.length ≤ 2000 →
  E2 (B4h R) fuel (.m z u v d a m l (l.els.length : Nat) (b.length : Nat)) kx = kr := by
 intro r
 induction r with
 | nil =>
  intro b d a m fuel he hg hb hf hm hm2
  obtain ⟨f, rfl⟩ : ∃ f, fuel = f + 1 := ⟨fuel - 1, by omega⟩
  rw [List.append_nil] at he
  rw [E2, A8m, A2K he, cond_false, ho _ _ _ _ _ hm]
 | cons o r ih =>
  intro b d a m fuel he hg hb hf hm hm2
  obtain ⟨f, rfl⟩ : ∃ f, fuel = f + 1 := ⟨fuel - 1, by omega⟩
  simp only [D09] at hb hf hm2
  have hle : l.els.length = b.length + (r.length + 1) := by rw [he]; simp
  have hat : l.nth ((b.length : Nat) : Int).toNat = o := U5 he
  have ih := fun d a m => ih (b ++ [o]) d a m f (by rw [he]; simp) (fun x hx => hg x (by simp [hx])) (by simp; omega) (by omega)
  simp only [D03, D1a] at ih
  rw [E2, A8m, A2J he, cond_true, C1 (by omega) (by omega), hat, D1b (hg o (by simp)), cond_true, A8n, L1 (by omega), F0 (n := m + 1) (by omega) (by omega), ih _ _ _ (by omega) (by omega), ih _ _ _ (by omega) (by omega), show kx (B65.r B3 (Int.negSucc 0) 171 d a m l (l.els.length : Nat) (b.length : Nat)) = kr from hr _ _ _ _ _]
  cases spX (o.nth 1) <;> cases !(G5 (V.nth (spD (o.nth 1)) 0).int 0) <;> rfl
theorem C6t {kx : B65 → Option R} {ko : V → Int → Option R} {kr : Option R} {z l : V} {u v : Int} (ho : ∀ d a m n i, m ≤ 1 → kx (.o z u v d a m l n i) = ko d a) (ho2 : ∀ d a m n i, 2 ≤ m → kx (.o z u v d a m l n i) = kr) (hr : ∀ d a m n i, kx (.r B3 (-1) 171 d a m l n i) = kr) : ∀ (r b : List V) (d : V) (a m : Int) (fuel : Nat), l.els = b ++ r → (∀ o ∈ r, (o.nth 1).els.length ≤ 30000) → b.length + r.length ≤ 1000 → r.length < fuel → (m = 0 ∧ a < 0 ∨ m = 1 ∧ 0 ≤ a) →
  E2 (B4h R) fuel (.m z u v d a m l (l.els.length : Nat) (b.length : Nat)) kx = (match tdL r (b.length : Nat) d a with
   | some q => ko q.1 q.2
   | none => kr) := by
 intro r
 induction r with
 | nil =>
  intro b d a m fuel he hg hb hf hm
  obtain ⟨f, rfl⟩ : ∃ f, fuel = f + 1 := ⟨fuel - 1, by omega⟩
  rw [List.append_nil] at he
  rw [E2, A8m, A2K he, cond_false, ho _ _ _ _ _ (by omega)]; rfl
 | cons o r ih =>
  intro b d a m fuel he hg hb hf hm
  obtain ⟨f, rfl⟩ : ∃ f, fuel = f + 1 := ⟨fuel - 1, by omega⟩
  simp only [D09] at hb hf
  have hle : l.els.length = b.length + (r.length + 1) := by rw [he]; simp
  have hat : l.nth ((b.length : Nat) : Int).toNat = o := U5 he
  have ih := fun d a m => ih (b ++ [o]) d a m f (by rw [he]; simp) (fun x hx => hg x (by simp [hx])) (by simp; omega) (by omega)
  simp only [D03, D1a] at ih
  rw [E2, A8m, A2J he, cond_true, C1 (by omega) (by omega), hat, D1b (hg o (by simp)), cond_true, A8n, L1 (by omega), F0 (n := m + 1) (by omega) (by omega)]
  simp only [tdL]
  cases spX (o.nth 1) with
  | true => rw [cond_true, cond_true]; exact hr _ _ _ _ _
  | false =>
   rw [cond_false, cond_false]
   cases !(G5 (V.nth (spD (o.nth 1)) 0).int 0) with
   | true =>
    simp only [cond_true, P0]
    rcases hm with ⟨rfl, ha⟩ | ⟨rfl, ha⟩
    ·rw [show decide (0 ≤ a) = false by simp; omega, cond_false]
     refine (ih _ _ _ (.inr ⟨rfl, by omega⟩)).trans ?_
     rw [show ((b.length + 1 : Nat) : Int) = (b.length : Nat) + 1 by omega]
    ·rw [show decide (0 ≤ a) = true by simp; omega, cond_true]
     have := C1T (R := R) (kx := kx) (kr := kr) (z := z) (l := l) (u := u) (v := v) ho2 hr r (b ++ [o]) (spD (o.nth 1)) ((b.length : Nat) : Int) (1 + 1) f (by rw [he]; simp) (fun x hx => hg x (by simp [hx])) (by simp; omega) (by omega) (by omega) (by omega)
     simp only [D03, D1a] at this
     exact this
   | false =>
    simp only [cond_false]
    refine (ih _ _ _ hm).trans ?_
    rw [show ((b.length + 1 : Nat) : Int) = (b.length : Nat) + 1 by omega]
def C6u (p q e : Nat) (y : V) : Option (List Rs) := ln y.els.length <| E2 (B63 (List Rs)) (A2 FU) (.m B3 0 0 B3 (-1) y (y.els.length : Nat) 0) fun s => match s with
 | .o z1 u1 v1 d1 a1 l1 n1 i1 => some [.d p d1, .d q (.i a1), .d e (.i 0)]
 | .r z1 u1 v1 d1 a1 l1 n1 i1 => some [.d p z1, .d q (.i u1), .d e (.i v1)]
def C6v (p q e : Nat) (y : V) : Option (List Rs) := ln y.els.length <| E2 (B4h (List Rs)) (A2 FU) (.m B3 0 0 B3 (-1) 0 y (y.els.length : Nat) 0) fun s => match s with
 | .o z1 u1 v1 d1 a1 m1 l1 n1 i1 => bif B7 1 m1 then some [.d p B3, .d q (.i (-1)), .d e (.i 171)] else some [.d p d1, .d q (.i a1), .d e (.i 0)]
 | .r z1 u1 v1 d1 a1 m1 l1 n1 i1 => some [.d p z1, .d q (.i u1), .d e (.i v1)]
theorem B2F {p q e : Nat} {v u : Int} {x y : V} (hg : tdg [.l [.i v, x, y, .i u]] = true) : C6u p q e y = some (tdr p q e [.l [.i v, x, y, .i u]]) ∧ C6v p q e y = some (tdr p q e [.l [.i v, x, y, .i u]]) := by
 obtain ⟨h1, h2⟩ := A4t (l := y.els) hg
 have hq := P6
 rw [← C6q]
 have et : tdS (.l [.i v, x, y, .i u]) = tdL y.els 0 B3 (-1) := rfl
 rw [et]
 constructor
 ·unfold C6u
  rw [B5 (by omega)]
  refine (C6s (l := y) (ko := fun d a => some [.d p d, .d q (.i a), .d e (.i 0)]) (kr := some [.d p B3, .d q (.i (-1)), .d e (.i 171)]) (fun _ _ _ _ => rfl) (fun _ _ _ _ => rfl) y.els [] B3 (-1) (A2 FU) rfl h2 (by simp; omega) (by omega)).trans ?_
  show (match tdL y.els 0 B3 (-1) with
   | some q => _
   | none => _) = _
  cases tdL y.els 0 B3 (-1) <;> rfl
 ·unfold C6v
  rw [B5 (by omega)]
  refine (C6t (l := y) (ko := fun d a => some [.d p d, .d q (.i a), .d e (.i 0)]) (kr := some [.d p B3, .d q (.i (-1)), .d e (.i 171)]) (fun d a m n i hm => ?_) (fun d a m n i hm => ?_) (fun _ _ _ _ _ => rfl) y.els [] B3 (-1) 0 (A2 FU) rfl h2 (by simp; omega) (by omega) (.inl ⟨rfl, by omega⟩)).trans ?_
  ·show (bif B7 1 m then _ else _) = _
   rw [F8, show decide (1 < m) = false by simp; omega]; rfl
  ·show (bif B7 1 m then _ else _) = _
   rw [F8, show decide (1 < m) = true by simp; omega]; rfl
  ·show (match tdL y.els 0 B3 (-1) with
    | some q => _
    | none => _) = _
   cases tdL y.els 0 B3 (-1) <;> rfl
def A5M : V := .l [.l [.i 0, .n], .i 0, .b false]
def lkC (c : V) : V := V.nth (c.nth 0) 1
def hoL : List V → Int → V → Option V
 | [], _, h => some h
 | c :: r, i, h => bif spX (lkC c) then hoL r (i + 1) h else bif G5 (V.nth (spD (lkC c)) 0).int 0 then hoL r (i + 1) h else bif C2 0 (h.nth 2).int then none else hoL r (i + 1) (.l [spD (lkC c), c, .i i])
def h0 : V := .l [B3, A5M, .i (-1)]
def hoS (l : V) : Option V := hoL l.els 0 h0
def hoH (l : V) : V := match hoS l with
 | some h => h
 | none => .l [B3, A5M, .i 0]
def hoB (l : V) : Bool := (hoS l).isSome
def A0S (l : List V) : Bool := Nat.ble l.length 1000 && l.all fun c => Nat.ble (lkC c).els.length 30000
def hog : List V → Bool
 | [l] => A0S l.els
 | _ => false
def hor (a b : Nat) : List V → List Rs
 | [l] => [.d a (hoH l), .d b (.b (hoB l))]
 | _ => []
theorem A1F {l : List V} (h : A0S l = true) : l.length ≤ 1000 ∧ ∀ c ∈ l, (lkC c).els.length ≤ 30000 := by
 unfold A0S at h
 simpa only [D02, Nat.ble_eq, List.all_eq_true] using h
theorem C1U {kx : C6l → Option R} {ko : V → Option R} {kr : Option R} {z l : V} (ho : ∀ h n i, kx (.o z h l n i) = ko h) (hr : ∀ h n i, kx (.r (.l [B3, A5M, .i 0]) h l n i) = kr) : ∀ (r b : List V) (h : V) (fuel : Nat), l.els = b ++ r → (∀ o ∈ r, (lkC o).els.length ≤ 30000) → b.length + r.length ≤ 1000 → r.length < fuel →
  E2 (B66 R) fuel (.m z h l (l.els.length : Nat) (b.length : Nat)) kx = (match hoL r (b.length : Nat) h with
   | some q => ko q
   | none => kr) := by
 intro r
 induction r with
 | nil =>
  intro b h fuel he hg hb hf
  obtain ⟨f, rfl⟩ : ∃ f, fuel = f + 1 := ⟨fuel - 1, by omega⟩
  rw [List.append_nil] at he
  rw [E2, B67, A2K he, cond_false, ho]; rfl
 | cons o r ih =>
  intro b h fuel he hg hb hf
  obtain ⟨f, rfl⟩ : ∃ f, fuel = f + 1 := ⟨fuel - 1, by omega⟩
  simp only [D09] at hb hf
  have hle : l.els.length = b.length + (r.length + 1) := by rw [he]; simp
  have hat : l.nth ((b.length : Nat) : Int).toNat = o := U5 he
  have ih := fun h => ih (b ++ [o]) h f (by rw [he]; simp) (fun x hx => hg x (by simp [hx])) (by simp; omega) (by omega)
  simp only [D03, D1a] at ih
  have hgo : (V.nth (V.nth o 0) 1).els.length ≤ 30000 := hg o (by simp)
  rw [E2, B67, A2J he, cond_true, C1 (by omega) (by omega), hat, D1b hgo, cond_true, A8n, L1 (by omega)]
  simp only [ih, hoL]
  show (bif spX (lkC o) then _ else bif G5 (V.nth (spD (lkC o)) 0).int 0 then _ else bif C2 0 (h.nth 2).int then _ else _) = _
  rw [show ((b.length + 1 : Nat) : Int) = (b.length : Nat) + 1 by omega]
  cases spX (lkC o) with
  | true => rfl
  | false =>
   cases G5 (V.nth (spD (lkC o)) 0).int 0 with
   | true => rfl
   | false =>
    cases C2 0 (h.nth 2).int with
    | true => exact hr _ _ _
    | false => rfl
def hoG (p b : Nat) (l : V) : Option (List Rs) := ln l.els.length <| E2 (B66 (List Rs)) (A2 FU) (.m (.l [B3, A5M, .i 0]) (V.put (.l [B3, A5M, .i 0]) 2 (.i (-1))) l (l.els.length : Nat) 0) fun s => match s with
 | .o z1 h1 l1 n1 i1 => some [.d p h1, .d b (.b true)]
 | .r z1 h1 l1 n1 i1 => some [.d p z1, .d b (.b false)]
theorem C1V {p b : Nat} {l : V} (hg : hog [l] = true) : hoG p b l = some (hor p b [l]) := by
 obtain ⟨h1, h2⟩ := A1F (l := l.els) hg
 have hq := P6
 unfold hoG
 rw [B5 (by omega)]
 refine (C1U (l := l) (ko := fun h => some [.d p h, .d b (.b true)]) (kr := some [.d p (.l [B3, A5M, .i 0]), .d b (.b false)]) (fun _ _ _ => rfl) (fun _ _ _ => rfl) l.els [] _ (A2 FU) rfl h2 (by simp; omega) (by omega)).trans ?_
 show (match hoS l with
  | some q => some [Rs.d p q, .d b (.b true)]
  | none => some [Rs.d p (.l [B3, A5M, .i 0]), .d b (.b false)]) = some [Rs.d p (hoH l), .d b (.b (hoB l))]
 unfold hoH hoB
 cases hoS l <;> rfl
def C1W (t : V) : Bool := B7 12 ((t.nth 1).els.length : Nat) || (B7 12 ((t.nth 2).els.length : Nat) || (((t.nth 2).els.any fun o => B7 500 ((o.nth 1).els.length : Nat)) || ((t.nth 1).els.any fun o => B7 300 ((o.nth 1).els.length : Nat))))
def szB (l : List V) : Bool := Nat.ble l.length MX && l.all fun o => Nat.ble (o.nth 1).els.length MX
def gkg : List V → Bool
 | [t] => szB (t.nth 1).els && szB (t.nth 2).els
 | _ => false
def gkr (b : Nat) : List V → List Rs
 | [t] => [.d b (.b (C1W t))]
 | _ => []
theorem C6w {kx : C6n → Option R} {ko kr : Option R} {t l : V} (ho : ∀ n i, kx (.o t l n i) = ko) (hr : ∀ n i, kx (.r t l n i) = kr) : ∀ (r b : List V) (fuel : Nat), l.els = b ++ r → (∀ o ∈ r, (o.nth 1).els.length ≤ MX) → b.length + r.length ≤ 1000 → r.length < fuel →
  E2 (B7a R) fuel (.m t l (l.els.length : Nat) (b.length : Nat)) kx = bif (r.any fun o => B7 500 ((o.nth 1).els.length : Nat)) then kr else ko := by
 intro r
 induction r with
 | nil =>
  intro b fuel he hg hb hf
  obtain ⟨f, rfl⟩ : ∃ f, fuel = f + 1 := ⟨fuel - 1, by omega⟩
  rw [List.append_nil] at he
  rw [E2, B7b, A2K he, cond_false, ho]; rfl
 | cons o r ih =>
  intro b fuel he hg hb hf
  obtain ⟨f, rfl⟩ : ∃ f, fuel = f + 1 := ⟨fuel - 1, by omega⟩
  simp only [D09] at hb hf
  have hle : l.els.length = b.length + (r.length + 1) := by rw [he]; simp
  have hat : l.nth ((b.length : Nat) : Int).toNat = o := U5 he
  have ih := ih (b ++ [o]) f (by rw [he]; simp) (fun x hx => hg x (by simp [hx])) (by simp; omega) (by omega)
  simp only [D03, D1a] at ih
  rw [E2, B7b, A2J he, cond_true, C1 (by omega) (by omega), hat, B5 (Nat.le_trans (hg o (by simp)) (by decide)), L1 (by omega), ih, hr]
  simp only [List.any_cons]
  cases B7 500 ((o.nth 1).els.length : Nat) <;> rfl
theorem C6x {kx : C6o → Option R} {ko kr : Option R} {t l : V} (ho : ∀ n i, kx (.o t l n i) = ko) (hr : ∀ n i, kx (.r t l n i) = kr) : ∀ (r b : List V) (fuel : Nat), l.els = b ++ r → (∀ o ∈ r, (o.nth 1).els.length ≤ MX) → b.length + r.length ≤ 1000 → r.length < fuel →
  E2 (B4m R) fuel (.m t l (l.els.length : Nat) (b.length : Nat)) kx = bif (r.any fun o => B7 300 ((o.nth 1).els.length : Nat)) then kr else ko := by
 intro r
 induction r with
 | nil =>
  intro b fuel he hg hb hf
  obtain ⟨f, rfl⟩ : ∃ f, fuel = f + 1 := ⟨fuel - 1, by omega⟩
  rw [List.append_nil] at he
  rw [E2, B7c, A2K he, cond_false, ho]; rfl
 | cons o r ih =>
  intro b fuel he hg hb hf
  obtain ⟨f, rfl⟩ : ∃ f, fuel = f + 1 := ⟨fuel - 1, by omega⟩
  simp only [D09] at hb hf
  have hle : l.els.length = b.length + (r.length + 1) := by rw [he]; simp
  have hat : l.nth ((b.length : Nat) : Int).toNat = o := U5 he
  have ih := ih (b ++ [o]) f (by rw [he]; simp) (fun x hx => hg x (by simp [hx])) (by simp; omega) (by omega)
  simp only [D03, D1a] at ih
  rw [E2, B7c, A2J he, cond_true, C1 (by omega) (by omega), hat, B5 (Nat.le_trans (hg o (by simp)) (by decide)), L1 (by omega), ih, hr]
  simp only [List.any_cons]
  cases B7 300 ((o.nth 1).els.length : Nat) <;> rfl
def gkG (q : Nat) (v u : Int) (x y : V) : Option (List Rs) :=
 ln x.els.length <| bif B7 12 (x.els.length : Nat) then some [.d q (.b true)] else ln y.els.length <| bif B7 12 (y.els.length : Nat) then some [.d q (.b true)] else
 ln y.els.length <| E2 (B7a (List Rs)) (A2 FU) (.m (.l [.i v, x, y, .i u]) y (y.els.length : Nat) 0) fun s => match s with
  | .o t1 l1 n1 i1 => ln (V.nth t1 1).els.length <| E2 (B4m (List Rs)) (A2 FU) (.m t1 (V.nth t1 1) ((V.nth t1 1).els.length : Nat) 0) fun s => match s with
   | .o t2 l2 n2 i2 => some [.d q (.b false)]
   | .r t2 l2 n2 i2 => some [.d q (.b true)]
  | .r t1 l1 n1 i1 => some [.d q (.b true)]
theorem C1X {q : Nat} {v u : Int} {x y : V} (hg : gkg [.l [.i v, x, y, .i u]] = true) : gkG q v u x y = some (gkr q [.l [.i v, x, y, .i u]]) := by
 have hg : ((Nat.ble x.els.length MX && x.els.all fun o => Nat.ble (o.nth 1).els.length MX) && (Nat.ble y.els.length MX && y.els.all fun o => Nat.ble (o.nth 1).els.length MX)) = true := hg
 simp only [D02, Nat.ble_eq, List.all_eq_true] at hg
 obtain ⟨⟨x1, x2⟩, y1, y2⟩ := hg
 have hq := P6
 have l1 : ∀ k : Option (List Rs), ln x.els.length k = k := fun k => B5 (Nat.le_trans x1 (by decide))
 have l2 : ∀ k : Option (List Rs), ln y.els.length k = k := fun k => B5 (Nat.le_trans y1 (by decide))
 unfold gkG
 show _ = some [Rs.d q (.b (B7 12 (x.els.length : Nat) || (B7 12 (y.els.length : Nat) || ((y.els.any fun o => B7 500 ((o.nth 1).els.length : Nat)) || (x.els.any fun o => B7 300 ((o.nth 1).els.length : Nat))))))]
 rw [l1, l2, l2]
 cases hx : B7 12 (x.els.length : Nat) with
 | true => rfl
 | false =>
  cases hy : B7 12 (y.els.length : Nat) with
  | true => rfl
  | false =>
   rw [F8] at hx hy
   simp only [decide_eq_false_iff_not] at hx hy
   rw [cond_false, cond_false]
   refine (C6w (l := y) (ko := E2 (B4m (List Rs)) (A2 FU) (.m (.l [.i v, x, y, .i u]) x (x.els.length : Nat) 0) fun s => match s with
     | .o t2 l2 n2 i2 => some [.d q (.b false)]
     | .r t2 l2 n2 i2 => some [.d q (.b true)]) (kr := some [.d q (.b true)]) (fun n i => l1 _) (fun n i => rfl) y.els [] (A2 FU) rfl y2 (by simp; omega) (by omega)).trans ?_
   have hgi := C6x (R := List Rs) (t := .l [.i v, x, y, .i u]) (l := x) (kx := fun s => match s with
     | .o t2 l2 n2 i2 => some [.d q (.b false)]
     | .r t2 l2 n2 i2 => some [.d q (.b true)]) (ko := some [.d q (.b false)]) (kr := some [.d q (.b true)]) (fun n i => rfl) (fun n i => rfl) x.els [] (A2 FU) rfl x2 (by simp; omega) (by omega)
   simp only [List.length_nil, Int.ofNat_zero, Int.natCast_zero] at hgi
   refine (congrArg (fun z => bif (y.els.any fun o => B7 500 ((o.nth 1).els.length : Nat)) then some [.d q (.b true)] else z) hgi).trans ?_
   cases (y.els.any fun o => B7 500 ((o.nth 1).els.length : Nat)) <;> cases (x.els.any fun o => B7 300 ((o.nth 1).els.length : Nat)) <;> rfl
variable {R : Type}
theorem B7f {c : Nat} {l : List (List Nat)} {d : V} (h : dOf c l = some d) (hx : ∀ x ∈ l, x.length ≤ 30000) : (1 ≤ kD d ∧ kD d ≤ 3) ∧ (d.nth 1).els.length ≤ 30000 ∧ (d.nth 3).els.length ≤ 30000 := by
 unfold dOf at h
 split at h
 ·split at h
  ·split at h
   ·cases h; exact ⟨⟨(by decide : (1 : Int) ≤ 1), (by decide : (1 : Int) ≤ 3)⟩, (by decide : ([] : List V).length ≤ 30000), (by decide : ([] : List V).length ≤ 30000)⟩
   ·cases h
  ·cases h
 ·split at h
  ·split at h
   ·rename_i x y z
    cases h
    refine ⟨⟨(by decide : (1 : Int) ≤ 2), (by decide : (2 : Int) ≤ 3)⟩, ?_, ?_⟩
    ·show (x.map nv).length ≤ 30000; rw [D05]; exact hx x (by simp)
    ·show (y.map nv).length ≤ 30000; rw [D05]; exact hx y (by simp)
   ·cases h
  ·split at h
   ·rename_i x y
    cases h
    refine ⟨⟨(by decide : (1 : Int) ≤ 3), (by decide : (3 : Int) ≤ 3)⟩, ?_, (by decide : ([] : List V).length ≤ 30000)⟩
    show (x.map nv).length ≤ 30000; rw [D05]; exact hx x (by simp)
   ·cases h
theorem B7g {x : V} (h : (D.slice (.int .u8)).has x) (hl : x.els.length ≤ 30000) : (0 ≤ kD (spD x) ∧ kD (spD x) ≤ 3) ∧ ((spD x).nth 1).els.length ≤ 30000 ∧ ((spD x).nth 3).els.length ≤ 30000 := by
 obtain ⟨b, hb, hb2⟩ := A07 h
 rw [hb, D05] at hl
 unfold spD
 rw [J5 hb]
 have z : (0 ≤ kD B3 ∧ kD B3 ≤ 3) ∧ (B3.nth 1).els.length ≤ 30000 ∧ (B3.nth 3).els.length ≤ 30000 := by decide
 cases b with
 | nil => exact z
 | cons c r =>
  by_cases hc : 81 ≤ c ∧ c ≤ 83
  ·rw [A8k hc]
   cases hp : pcs (B00 c) r with
   | none => exact z
   | some p =>
    simp only
    cases hd : dOf c p.1 with
    | none => exact z
    | some d =>
     simp only
     obtain ⟨_, q2⟩ := A0R hp (fun x hx => hb2 x (by simp [hx]))
     obtain ⟨k1, k2, k3⟩ := B7f hd (fun x hx => by have := (q2 x hx).2; simp at hl; omega)
     by_cases hf : fits (c :: r) d = true
     ·rw [if_pos hf]; exact ⟨⟨by show 0 ≤ kD d; omega, k1.2⟩, k2, k3⟩
     ·rw [if_neg hf]; exact z
  ·rw [A3f hc]; exact z
theorem C6y : ∀ (r : List V) (i : Int) (d : V) (a : Int), (∀ o ∈ r, (D.slice (.int .u8)).has (o.nth 1) ∧ (o.nth 1).els.length ≤ 30000) → ((0 ≤ kD d ∧ kD d ≤ 3) ∧ (d.nth 1).els.length ≤ 30000 ∧ (d.nth 3).els.length ≤ 30000) → (a < 0 ∨ a < i) → 0 ≤ i → ∀ q, tdL r i d a = some q →
  ((0 ≤ kD q.1 ∧ kD q.1 ≤ 3) ∧ (q.1.nth 1).els.length ≤ 30000 ∧ (q.1.nth 3).els.length ≤ 30000) ∧ (q.2 < 0 ∨ q.2 < i + r.length) := by
 intro r
 induction r with
 | nil => intro i d a hr hd ha hi q h; cases h; exact ⟨hd, by simpa using ha⟩
 | cons o r ih =>
  intro i d a hr hd ha hi q h
  obtain ⟨o1, o2⟩ := hr o (by simp)
  have hk := B7g o1 o2
  simp only [tdL] at h
  have hr' : ∀ o ∈ r, (D.slice (.int .u8)).has (o.nth 1) ∧ (o.nth 1).els.length ≤ 30000 := fun x hx => hr x (by simp [hx])
  simp only [D09]
  cases hx : spX (o.nth 1) with
  | true => rw [hx] at h; cases h
  | false =>
   rw [hx] at h
   simp only [cond_false] at h
   cases hk0 : !(G5 (V.nth (spD (o.nth 1)) 0).int 0) with
   | false =>
    rw [hk0] at h
    obtain ⟨p1, p2⟩ := ih (i + 1) d a hr' hd (by omega) (by omega) q h
    exact ⟨p1, by omega⟩
   | true =>
    rw [hk0] at h
    simp only [cond_true] at h
    cases ha0 : C2 0 a with
    | true => rw [ha0] at h; cases h
    | false =>
     rw [ha0] at h
     obtain ⟨p1, p2⟩ := ih (i + 1) _ i hr' hk (by omega) (by omega) q h
     exact ⟨p1, by omega⟩
def crL : List V → Int → V → Int → Int → V × Int × Int
 | [], _, x, j, m => (x, j, m)
 | c :: r, i, x, j, m => bif spX (lkC c) then crL r (i + 1) x j m else bif G5 (V.nth (spD (lkC c)) 0).int 0 then crL r (i + 1) x j m else crL r (i + 1) (spD (lkC c)) i (m + 1)
theorem C6z {kx : C6m → Option R} {e c t z y d l : V} {h r a : Int} : ∀ (s b : List V) (x : V) (j m : Int) (fuel : Nat), l.els = b ++ s → (∀ o ∈ s, (lkC o).els.length ≤ 30000) → b.length + s.length ≤ 1000 → s.length < fuel → 0 ≤ m → m + s.length ≤ 2000 →
  E2 (B68 R) fuel (.m e c h t z r y d a x j m l (l.els.length : Nat) (b.length : Nat)) kx = kx (.o e c h t z r y d a (crL s (b.length : Nat) x j m).1 (crL s (b.length : Nat) x j m).2.1 (crL s (b.length : Nat) x j m).2.2 l (l.els.length : Nat) (l.els.length : Nat)) := by
 intro s
 induction s with
 | nil =>
  intro b x j m fuel he hg hb hf hm hm2
  obtain ⟨f, rfl⟩ : ∃ f, fuel = f + 1 := ⟨fuel - 1, by omega⟩
  rw [List.append_nil] at he
  rw [E2, B69, A2K he, cond_false]
  simp only [crL, he]
 | cons o s ih =>
  intro b x j m fuel he hg hb hf hm hm2
  obtain ⟨f, rfl⟩ : ∃ f, fuel = f + 1 := ⟨fuel - 1, by omega⟩
  simp only [D09] at hb hf hm2
  have hle : l.els.length = b.length + (s.length + 1) := by rw [he]; simp
  have hat : l.nth ((b.length : Nat) : Int).toNat = o := U5 he
  have ih := fun x j m => ih (b ++ [o]) x j m f (by rw [he]; simp) (fun x hx => hg x (by simp [hx])) (by simp; omega) (by omega)
  simp only [D03, D1a] at ih
  have hgo : (V.nth (V.nth o 0) 1).els.length ≤ 30000 := hg o (by simp)
  rw [E2, B69, A2J he, cond_true, C1 (by omega) (by omega), hat, D1b hgo, cond_true, C6r, L1 (by omega), F0 (n := m + 1) (by omega) (by omega), ih _ _ _ (by omega) (by omega), ih _ _ _ (by omega) (by omega)]
  simp only [crL]
  show (bif !(spX (lkC o)) then (bif !(G5 (V.nth (spD (lkC o)) 0).int 0) then _ else _) else _) = _
  rw [show ((b.length + 1 : Nat) : Int) = (b.length : Nat) + 1 by omega]
  cases spX (lkC o) with
  | true => rfl
  | false => cases G5 (V.nth (spD (lkC o)) 0).int 0 <;> rfl
def C6A (l : List V) (H x : V) (j m : Int) : Prop := (m = 0 ∧ (H.nth 2).int = -1 ∧ H.nth 0 = x ∧ x = B3) ∨ (m = 1 ∧ H.nth 0 = x ∧ (∃ k : Nat, j = k ∧ (H.nth 2).int = k ∧ l[k]? = some (H.nth 1)))
theorem C1Y : ∀ (s : List V) (i : Int) (x : V) (j m : Int), m ≤ (crL s i x j m).2.2 := by
 intro s
 induction s with
 | nil => intro i x j m; exact Int.le_refl m
 | cons o s ih =>
  intro i x j m
  simp only [crL]
  cases spX (lkC o) with
  | true => exact ih _ _ _ _
  | false =>
   cases G5 (V.nth (spD (lkC o)) 0).int 0 with
   | true => exact ih _ _ _ _
   | false => have := ih (i + 1) (spD (lkC o)) i (m + 1); simp only [cond_false]; omega
theorem B7h {l : List V} : ∀ (s b : List V) (H x : V) (j m : Int), l = b ++ s → C6A l H x j m → (match hoL s (b.length : Nat) H with
  | none => 2 ≤ (crL s (b.length : Nat) x j m).2.2
  | some H' => C6A l H' (crL s (b.length : Nat) x j m).1 (crL s (b.length : Nat) x j m).2.1 (crL s (b.length : Nat) x j m).2.2) := by
 intro s
 induction s with
 | nil => intro b H x j m he hr; exact hr
 | cons o s ih =>
  intro b H x j m he hr
  have ih := fun H x j m => ih (b ++ [o]) H x j m (by rw [he]; simp)
  simp only [D03, D1a] at ih
  rw [show ((b.length + 1 : Nat) : Int) = (b.length : Nat) + 1 by omega] at ih
  simp only [hoL, crL]
  cases spX (lkC o) with
  | true => exact ih H x j m hr
  | false =>
   cases G5 (V.nth (spD (lkC o)) 0).int 0 with
   | true => exact ih H x j m hr
   | false =>
    simp only [cond_false, P0]
    rcases hr with ⟨h1, h2, h3, h4⟩ | ⟨h1, h2, k, h3, h4, h5⟩
    ·rw [show decide (0 ≤ (H.nth 2).int) = false by rw [h2]; rfl, cond_false]
     refine ih _ _ _ _ (.inr ⟨by omega, rfl, b.length, rfl, rfl, ?_⟩)
     rw [he]; simp; rfl
    ·rw [show decide (0 ≤ (H.nth 2).int) = true by rw [h4]; simp, cond_true]
     have := C1Y s ((b.length : Nat) + 1) (spD (lkC o)) (b.length : Nat) (m + 1)
     simp only
     omega
def W8 (p q : Nat) (d : V) (e : Int) : Option (List Rs) := some [.d p d, .d q (.i e)]
def B2G (p q : Nat) (e c : V) (h : Int) (t y d x : V) (j m : Int) : Option (List Rs) :=
 bif G5 (d.nth 0).int 0 then (bif B7 0 m then W8 p q y 171 else W8 p q d 0) else
 bif G5 (d.nth 0).int 1 then (bif B7 0 m then W8 p q y 171 else W8 p q d 0) else
 bif G5 (d.nth 0).int 2 then (bif !(G5 (x.nth 0).int 1) then W8 p q y 171 else
  bif Nat.ble (d.nth 3).els.length 100000 && Nat.ble (d.nth 1).els.length 100000 then (bif !(M3 (x.nth 4) (cmt (.s (d.nth 3).els) (.s (d.nth 1).els))) then W8 p q y 171 else
   ck j c.els.length <| bif B7 h (C6 ((V.nth (c.nth j.toNat) 1).int + 3)) then W8 p q y 162 else
   bif Nat.ble e.els.length 10000 then (bif T7 (d.nth 1).els e h then W8 p q y 172 else W8 p q d 0) else none) else none) else
 bif G5 (d.nth 0).int 3 then (bif B7 (x.nth 0).int 2 then W8 p q y 171 else bif !(F7 (x.nth 1).els (d.nth 1).els) then W8 p q y 171 else
  bif Nat.ble e.els.length 10000 then (bif T7 (d.nth 1).els e h then (ck j (t.nth 1).els.length <| bif !(M3 (V.nth (A0j (d.nth 1).els e h) 3) (V.nth (V.nth (t.nth 1) j.toNat) 0)) then W8 p q y 173 else W8 p q d 0) else W8 p q y 173) else none) else
 W8 p q d 0
def C6B (p q : Nat) (e c : V) (h v u : Int) (x y : V) : Option (List Rs) :=
 bif X7 y.els then (bif !(G5 (tdE (.l [.i v, x, y, .i u])) 0) then W8 p q B3 (tdE (.l [.i v, x, y, .i u])) else
 ln c.els.length <| E2 (B68 (List Rs)) (A2 FU) (.m e c h (.l [.i v, x, y, .i u]) B3 0 B3 (tdD (.l [.i v, x, y, .i u])) (tdA (.l [.i v, x, y, .i u])) B3 (-1) 0 c (c.els.length : Nat) 0) fun s => match s with
 | .o e1 c1 h1 t1 z1 r1 y1 d1 a1 x1 j1 m1 l1 n1 i1 =>
  bif B7 1 m1 then W8 p q y1 171 else bif C2 0 a1 then (ck a1 (t1.nth 2).els.length <| bif B7 (V.nth (V.nth (t1.nth 2) a1.toNat) 0).int 1000000 then W8 p q y1 171 else B2G p q e1 c1 h1 t1 y1 d1 x1 j1 m1) else B2G p q e1 c1 h1 t1 y1 d1 x1 j1 m1) else none
def B01 (e : V) (h : Int) (t d H : V) : V × Int :=
 bif G5 (d.nth 0).int 2 then (bif !(G5 (V.nth (H.nth 0) 0).int 1) then (B3, 171) else bif !(M3 (V.nth (H.nth 0) 4) (cmt (.s (d.nth 3).els) (.s (d.nth 1).els))) then (B3, 171) else
  bif B7 h ((V.nth (H.nth 1) 1).int + 3) then (B3, 162) else bif T7 (d.nth 1).els e h then (B3, 172) else (d, 0)) else
 bif G5 (d.nth 0).int 3 then (bif B7 (V.nth (H.nth 0) 0).int 2 then (B3, 171) else bif !(F7 (V.nth (H.nth 0) 1).els (d.nth 1).els) then (B3, 171) else
  bif T7 (d.nth 1).els e h then (bif !(M3 (V.nth (A0j (d.nth 1).els e h) 3) (V.nth (V.nth (t.nth 1) (H.nth 2).int.toNat) 0)) then (B3, 173) else (d, 0)) else (B3, 173)) else
 bif C2 0 (H.nth 2).int then (B3, 171) else (d, 0)
def B2H (t : V) (a : Int) : Bool := C2 0 a && B7 (V.nth (V.nth (t.nth 2) a.toNat) 0).int 1000000
def A7t (e c : V) (h : Int) (t : V) : V × Int :=
 match tdS t with
 | none => (B3, 171)
 | some q => match hoS c with
  | none => (B3, 171)
  | some H => bif B2H t q.2 then (B3, 171) else B01 e h t q.1 H
def C1Z (e c : V) (h : Int) (t : V) : V := (A7t e c h t).1
def C10 (e c : V) (h : Int) (t : V) : Int := (A7t e c h t).2
def A7u (e c : V) (t : V) : Bool := (Nat.ble e.els.length 10000 && X7 (t.nth 2).els) && (A0S c.els && (Nat.ble c.els.length (t.nth 1).els.length && c.els.all fun x => C2 0 (x.nth 1).int && C2 (x.nth 1).int 1000000000))
def C9d : List V → Bool
 | [e, t, c, h] => A7u e c t
 | _ => false
def C6C (p q : Nat) : List V → List Rs
 | [e, t, c, h] => [.d p (C1Z e c h.int t), .d q (.i (C10 e c h.int t))]
 | _ => []
theorem B4o {p q : Nat} {e c : V} {h : Int} {t d x H : V} {j m : Int} (hr : C6A c.els H x j m) (he : e.els.length ≤ 10000) (hk : (0 ≤ kD d ∧ kD d ≤ 3) ∧ (d.nth 1).els.length ≤ 30000 ∧ (d.nth 3).els.length ≤ 30000) (hc : c.els.length ≤ (t.nth 1).els.length) (hh : ∀ x ∈ c.els, 0 ≤ (x.nth 1).int ∧ (x.nth 1).int ≤ 1000000000) :
  B2G p q e c h t B3 d x j m = W8 p q (B01 e h t d H).1 (B01 e h t d H).2 := by
 obtain ⟨⟨k0, k3⟩, n1, n3⟩ := hk
 unfold B2G B01
 have bl1 : Nat.ble (d.nth 3).els.length 100000 = true := D1b (by omega)
 have bl2 : Nat.ble (d.nth 1).els.length 100000 = true := D1b (by omega)
 have bl3 : Nat.ble e.els.length 10000 = true := D1b he
 rw [bl1, bl2, bl3]
 simp only [Bool.and_self, cond_true, S5, F8]
 have hk' : (d.nth 0).int = 0 ∨ (d.nth 0).int = 1 ∨ (d.nth 0).int = 2 ∨ (d.nth 0).int = 3 := by
  have : kD d = (d.nth 0).int := rfl
  omega
 have none2 : ∀ (hm : m = 0 ∧ (H.nth 2).int = -1 ∧ H.nth 0 = x ∧ x = B3), (x.nth 0).int = 0 := fun hm => by rw [hm.2.2.2]; rfl
 have m0 : decide (0 < m) = C2 0 (H.nth 2).int := by
  rw [P0]
  rcases hr with ⟨r1, r2, _⟩ | ⟨r1, r2, k, r3, r4, r5⟩
  ·rw [r1, r2]; rfl
  ·rw [r1, r4]; simp
 rcases hk' with h0 | h0 | h0 | h0
 ·rw [h0]
  simp only [decide_true, cond_true, show decide ((0 : Int) = 2) = false by decide, show decide ((0 : Int) = 3) = false by decide, cond_false, m0]
  cases C2 0 (H.nth 2).int <;> rfl
 ·rw [h0]
  simp only [decide_true, cond_true, show decide ((1 : Int) = 2) = false by decide, show decide ((1 : Int) = 3) = false by decide, show decide ((1 : Int) = 0) = false by decide, cond_false, m0]
  cases C2 0 (H.nth 2).int <;> rfl
 ·rw [h0]
  simp only [decide_true, cond_true, show decide ((2 : Int) = 0) = false by decide, show decide ((2 : Int) = 1) = false by decide, cond_false]
  rcases hr with hm | ⟨r1, r2, k, r3, r4, r5⟩
  ·have hx := none2 hm
   rw [hm.2.2.1, hx]; rfl
  ·rw [r2]
   cases !(decide ((x.nth 0).int = 1)) with
   | true => rfl
   | false =>
    simp only [cond_false]
    cases !(M3 (x.nth 4) (cmt (.s (d.nth 3).els) (.s (d.nth 1).els))) with
    | true => rfl
    | false =>
     simp only [cond_false]
     have hkl : k < c.els.length := (List.getElem?_eq_some_iff.1 r5).1
     have hck : c.nth j.toNat = H.nth 1 := by
      rw [r3]; unfold V.nth; rw [List.getD_eq_getElem?_getD, show ((k : Int)).toNat = k by omega, r5]; rfl
     obtain ⟨e1, e2⟩ := hh _ (List.mem_of_getElem? r5)
     rw [C1 (by omega) (by omega), hck, F0 (by omega) (by omega)]
     cases decide (h < (V.nth (H.nth 1) 1).int + 3) with
     | true => rfl
     | false => cases T7 (d.nth 1).els e h <;> rfl
 ·rw [h0]
  simp only [decide_true, cond_true, show decide ((3 : Int) = 0) = false by decide, show decide ((3 : Int) = 1) = false by decide, show decide ((3 : Int) = 2) = false by decide, cond_false]
  rcases hr with hm | ⟨r1, r2, k, r3, r4, r5⟩
  ·have hx := none2 hm
   rw [hm.2.2.1, hx]; rfl
  ·rw [r2]
   cases decide ((x.nth 0).int < 2) with
   | true => rfl
   | false =>
    simp only [cond_false]
    cases !(F7 (x.nth 1).els (d.nth 1).els) with
    | true => rfl
    | false =>
     simp only [cond_false]
     have hkl : k < c.els.length := (List.getElem?_eq_some_iff.1 r5).1
     rw [C1 (by omega) (by omega), r4, r3]
     cases T7 (d.nth 1).els e h with
     | false => rfl
     | true => cases !(M3 (V.nth (A0j (d.nth 1).els e h) 3) (V.nth (V.nth (t.nth 1) ((k : Int)).toNat) 0)) <;> rfl
theorem B7i {t : V} (ht : DTx.has t) : ∀ o ∈ (t.nth 2).els, (D.slice (.int .u8)).has (o.nth 1) := by
 obtain ⟨v, a, b, u, rfl, _, _, hb, _⟩ := B0l ht
 intro o ho
 obtain ⟨ys, rfl, hy⟩ := Q3 hb o ho
 obtain ⟨p, q, rfl, _, hq⟩ := Z6 hy
 exact hq
theorem B2I {t : V} (ht : DTx.has t) (hg : X7 (t.nth 2).els = true) {q : V × Int} (h : tdS t = some q) : ((0 ≤ kD q.1 ∧ kD q.1 ≤ 3) ∧ (q.1.nth 1).els.length ≤ 30000 ∧ (q.1.nth 3).els.length ≤ 30000) ∧ (q.2 < 0 ∨ q.2 < (t.nth 2).els.length) := by
 obtain ⟨g1, g2⟩ := A4t hg
 have hl := B7i ht
 obtain ⟨p1, p2⟩ := C6y (t.nth 2).els 0 B3 (-1) (fun o ho => ⟨hl o ho, g2 o ho⟩) (by decide) (.inl (by omega)) (by omega) q h
 exact ⟨p1, by omega⟩
theorem A2R {e c t : V} (h : A7u e c t = true) : e.els.length ≤ 10000 ∧ X7 (t.nth 2).els = true ∧ A0S c.els = true ∧ c.els.length ≤ (t.nth 1).els.length ∧ ∀ x ∈ c.els, 0 ≤ (x.nth 1).int ∧ (x.nth 1).int ≤ 1000000000 := by
 unfold A7u at h
 simp only [D02, Nat.ble_eq, List.all_eq_true, P0, D1d] at h
 exact ⟨h.1.1, h.1.2, h.2.1, h.2.2.1, h.2.2.2⟩
theorem B7j {p q : Nat} {e c : V} {h v u : Int} {x y : V} (ht : DTx.has (.l [.i v, x, y, .i u])) (hg : C9d [e, .l [.i v, x, y, .i u], c, .i h] = true) : C6B p q e c h v u x y = some (C6C p q [e, .l [.i v, x, y, .i u], c, .i h]) := by
 obtain ⟨g1, g2, g3, g4, g5⟩ := A2R (e := e) (c := c) (t := .l [.i v, x, y, .i u]) hg
 obtain ⟨c1, c2⟩ := A1F g3
 have hq := P6
 have hkind := fun q hq => B2I ht g2 (q := q) hq
 generalize hT : V.l [.i v, x, y, .i u] = t at *
 have e0 : C6C p q [e, t, c, .i h] = [.d p (A7t e c h t).1, .d q (.i (A7t e c h t).2)] := rfl
 rw [e0]
 unfold C6B
 have g2' : X7 y.els = true := by rw [← hT] at g2; exact g2
 rw [g2', cond_true, hT]
 unfold tdE tdD tdA A7t
 cases hs : tdS t with
 | none => rfl
 | some s =>
  obtain ⟨k1, k2⟩ := hkind s hs
  simp only [S5, show decide ((0 : Int) = 0) = true by decide, Bool.not_true, cond_false]
  rw [B5 (by omega)]
  refine (C6z (l := c) c.els [] B3 (-1) 0 (A2 FU) rfl c2 (by simp; omega) (by omega) (by omega) (by omega)).trans ?_
  have hrel := B7h (l := c.els) c.els [] h0 B3 (-1) 0 rfl (.inl ⟨rfl, rfl, rfl, rfl⟩)
  simp only [List.length_nil, Int.natCast_zero] at hrel ⊢
  have hho : hoS c = hoL c.els 0 h0 := rfl
  rw [hho]
  cases hH : hoL c.els 0 h0 with
  | none =>
   rw [hH] at hrel
   simp only at hrel
   rw [F8, show decide (1 < (crL c.els 0 B3 (-1) 0).2.2) = true by simp; omega]; rfl
  | some H =>
   rw [hH] at hrel
   simp only at hrel
   have hm : (crL c.els 0 B3 (-1) 0).2.2 ≤ 1 := by rcases hrel with ⟨r1, _⟩ | ⟨r1, _⟩ <;> omega
   rw [F8, show decide (1 < (crL c.els 0 B3 (-1) 0).2.2) = false by simp; omega, cond_false]
   have hsw := B4o (p := p) (q := q) (e := e) (h := h) (t := t) (d := s.1) hrel g1 k1 g4 g5
   show (bif C2 0 s.2 then (ck s.2 (t.nth 2).els.length <| bif B7 (V.nth (V.nth (t.nth 2) s.2.toNat) 0).int 1000000 then W8 p q B3 171 else _) else _) = _
   rw [hsw]
   simp only
   unfold B2H
   cases ha : C2 0 s.2 with
   | false => rfl
   | true =>
    rw [P0, D1d] at ha
    rw [C1 ha (by omega)]
    cases B7 (V.nth (V.nth (t.nth 2) s.2.toNat) 0).int 1000000 <;> rfl
variable {R : Type}
def chF (t : V) (k : V → Int → Option R) : Option R := bif !(G5 (tdE t) 0) then k B3 (tdE t) else k (tdD t) 0
def C6D (es : List (V × V × Bool)) (t c : V) (h : Int) (k : V → Int → Option R) : Option R :=
 bif !(F7 (V.nth (V.nth (hoH c) 0) 1).els (V.nth (tdD t) 1).els) then k B3 171 else
 lvP es (V.nth (tdD t) 1).els h fun e is => bif is then (bif !(M3 (V.nth e 3) (V.nth (V.nth (t.nth 1) (V.nth (hoH c) 2).int.toNat) 0)) then k B3 173 else k (tdD t) 0) else k B3 173
def chU (es : List (V × V × Bool)) (t c : V) (h : Int) (k : V → Int → Option R) : Option R :=
 ck (V.nth (hoH c) 2).int (t.nth 1).els.length <| bif G5 (V.nth (V.nth (hoH c) 0) 0).int 2 then C6D es t c h k else bif G5 (V.nth (V.nth (hoH c) 0) 0).int 3 then C6D es t c h k else k B3 171
def C6E (es : List (V × V × Bool)) (t c : V) (h : Int) (k : V → Int → Option R) : Option R := bif G5 (V.nth (tdD t) 0).int 3 then chU es t c h k else chF t k
def chI (es : List (V × V × Bool)) (t c : V) (h : Int) (k : V → Int → Option R) : Option R :=
 bif !(G5 (V.nth (V.nth (hoH c) 0) 0).int 1) then k B3 171 else
 bif Nat.ble (V.nth (tdD t) 3).els.length 100000 && Nat.ble (V.nth (tdD t) 1).els.length 100000 then
  (bif !(M3 (V.nth (V.nth (hoH c) 0) 4) (cmt (.s (V.nth (tdD t) 3).els) (.s (V.nth (tdD t) 1).els))) then k B3 171 else
  bif B7 (C6 (h - (V.nth (V.nth (hoH c) 1) 1).int)) 3 then k B3 162 else
  lvP es (V.nth (tdD t) 1).els h fun e is => bif is then k B3 172 else k (tdD t) 0) else none
def C11 (es : List (V × V × Bool)) (t c : V) (h : Int) (k : V → Int → Option R) : Option R :=
 bif G5 (V.nth (tdD t) 0).int 2 then chI es t c h k else
 bif G5 (V.nth (tdD t) 0).int 3 then (bif B7 (V.nth (hoH c) 2).int 0 then k B3 171 else ln (t.nth 1).els.length <| bif C2 ((t.nth 1).els.length : Nat) (V.nth (hoH c) 2).int then k B3 171 else C6E es t c h k) else C6E es t c h k
def chS (es : List (V × V × Bool)) (t c : V) (h : Int) (k : V → Int → Option R) : Option R :=
 bif G5 (V.nth (tdD t) 0).int 2 then C11 es t c h k else bif G5 (V.nth (tdD t) 0).int 3 then C11 es t c h k else bif C2 0 (V.nth (hoH c) 2).int then k B3 171 else C11 es t c h k
def chW (es : List (V × V × Bool)) (t c : V) (h : Int) (k : V → Int → Option R) : Option R :=
 bif X7 (t.nth 2).els then (bif A0S c.els then (bif hoB c then
  (bif !(G5 (tdE t) 0) then k B3 171 else bif C2 0 (tdA t) then (ck (tdA t) (t.nth 2).els.length <| bif B7 (V.nth (V.nth (t.nth 2) (tdA t).toNat) 0).int 1000000 then k B3 171 else chS es t c h k) else chS es t c h k)
  else (bif !(G5 (tdE t) 0) then k B3 171 else k B3 171)) else none) else none
def A8o (st : Nat) (l s : V) (v u : Int) (x y : V) : Option Unit :=
 bif rng [l] then bif Z2 l.els 0 then
  bif szB x.els && szB y.els then
  bif C1W (.l [.i v, x, y, .i u]) then some () else ln s.els.length <| ln x.els.length <| bif B7 (s.els.length : Nat) (C6 ((x.els.length : Nat) + 1)) then some () else
  ln x.els.length <| E2 (B7d Unit) (A2 FU) (.m l s (.l [.i v, x, y, .i u]) (List.replicate 0 (V.l [.l [.i 0, .n], .i 0, .b false])) x (x.els.length : Nat) 0) fun q => match q with
  | .o e1 s1 t1 xs1 l1 n1 i1 =>
   ln (t1.nth 1).els.length <| ck ((t1.nth 1).els.length : Nat) s1.els.length <|
   bif B7 (V.nth (V.nth (V.nth s1 (t1.nth 1).els.length) 1) 1).int 0 then some () else bif B7 1000000000 (V.nth (V.nth (V.nth s1 (t1.nth 1).els.length) 1) 1).int then some () else
   ln e1.els.length <| E2 (BNn Unit) (A2 FU) (.m e1 [] (e1.els.length : Nat) 0) fun q => match q with
   | .o l2 es n2 i2 =>
    chW es t1 (.l xs1) (V.nth (V.nth (V.nth s1 (t1.nth 1).els.length) 1) 1).int fun d e =>
     bif A7u e1 (.l xs1) t1 then bif X7 (t1.nth 2).els then bif X7 (t1.nth 2).els then
     bif M3 d (C1Z e1 (.l xs1) (V.nth (V.nth (V.nth s1 (t1.nth 1).els.length) 1) 1).int t1) then bif G5 e (C10 e1 (.l xs1) (V.nth (V.nth (V.nth s1 (t1.nth 1).els.length) 1) 1).int t1) then
     bif M3 (tdD t1) (tdD t1) then bif G5 (tdA t1) (tdA t1) then bif G5 (tdE t1) (tdE t1) then
     C8D st es fun ks => E2 (BAw Unit) (A2 FU) (.m es [] true ks ks.isEmpty (ks.length : Nat) 0) fun q => match q with
     | .o es4 xs4 nl4 ks4 nk4 n4 i4 => bif Nat.ble e1.els.length 10000 then C4a nl4 xs4 (A3D e1.els (E8 [] e1.els) []) (some ()) else none
     else none else none else none else none else none else none else none else none
  | .r e1 s1 t1 xs1 l1 n1 i1 => some ()
  else none
 else some () else none
variable {R : Type}
theorem B7k : ∀ (r : List V) (i : Int) (H H' : V), (∀ c ∈ r, (D.slice (.int .u8)).has (lkC c) ∧ (lkC c).els.length ≤ 30000) → (0 ≤ kD (H.nth 0) ∧ kD (H.nth 0) ≤ 3) → hoL r i H = some H' → 0 ≤ kD (H'.nth 0) ∧ kD (H'.nth 0) ≤ 3 := by
 intro r
 induction r with
 | nil => intro i H H' hr hk h; cases h; exact hk
 | cons o r ih =>
  intro i H H' hr hk h
  obtain ⟨o1, o2⟩ := hr o (by simp)
  have hr' : ∀ c ∈ r, (D.slice (.int .u8)).has (lkC c) ∧ (lkC c).els.length ≤ 30000 := fun c hc => hr c (by simp [hc])
  simp only [hoL] at h
  cases hx : spX (lkC o) with
  | true => rw [hx] at h; exact ih _ _ _ hr' hk h
  | false =>
   rw [hx] at h
   simp only [cond_false] at h
   cases h0 : G5 (V.nth (spD (lkC o)) 0).int 0 with
   | true => rw [h0] at h; exact ih _ _ _ hr' hk h
   | false =>
    rw [h0] at h
    simp only [cond_false] at h
    cases h2 : C2 0 (H.nth 2).int with
    | true => rw [h2] at h; cases h
    | false =>
     rw [h2] at h
     have hk3 := (B7g o1 o2).1
     simp only [cond_false] at h
     generalize spD (lkC o) = z at h hk3
     exact ih _ (.l [z, o, .i i]) _ hr' hk3 h
theorem B4p {c : V} (h : A7n.has c) : (D.slice (.int .u8)).has (lkC c) := by
 obtain ⟨v, k, n, q, rfl, hk⟩ := C52 h
 exact hk
theorem C12 {es : List (V × V × Bool)} {l t c : V} {h : Int} (k : V → Int → Option R) (hl : LOK l) (hi : A1O l.els es) (ha : 0 ≤ h) (ha2 : h ≤ 1000000000) (ht : DTx.has t) (hc : ∀ x ∈ c.els, A7n.has x) (hg : A7u l c t = true) (hn : (t.nth 1).els.length ≤ 1000) : chW es t c h k = k (C1Z l c h t) (C10 l c h t) := by
 obtain ⟨g1, g2, g3, g4, g5⟩ := A2R hg
 obtain ⟨c1, c2⟩ := A1F g3
 have hkind := fun q hq => B2I ht g2 (q := q) hq
 have hho : hoS c = hoL c.els 0 h0 := rfl
 unfold chW
 rw [g2, g3, cond_true, cond_true]
 unfold C1Z C10 A7t
 cases hs : tdS t with
 | none =>
  have eE : tdE t = 171 := by unfold tdE; rw [hs]
  rw [eE]
  cases hoB c <;> rfl
 | some s =>
  have eE : tdE t = 0 := by unfold tdE; rw [hs]
  have eD : tdD t = s.1 := by unfold tdD; rw [hs]
  have eA : tdA t = s.2 := by unfold tdA; rw [hs]
  obtain ⟨⟨⟨k0, k3⟩, n1, n3⟩, k2⟩ := hkind s hs
  rw [eE, eA]
  simp only [S5, show decide ((0 : Int) = 0) = true by decide, Bool.not_true, cond_false]
  have hrel := B7h (l := c.els) c.els [] h0 B3 (-1) 0 rfl (.inl ⟨rfl, rfl, rfl, rfl⟩)
  simp only [List.length_nil, Int.natCast_zero] at hrel
  rw [hho]
  cases hH : hoL c.els 0 h0 with
  | none =>
   have : hoB c = false := by unfold hoB; rw [hho, hH]; rfl
   rw [this]; rfl
  | some H =>
   have eB : hoB c = true := by unfold hoB; rw [hho, hH]; rfl
   have eH : hoH c = H := by unfold hoH; rw [hho, hH]
   rw [hH] at hrel
   simp only at hrel
   have hHk := B7k c.els 0 h0 H (fun x hx => ⟨B4p (hc x hx), c2 x hx⟩) (by decide) hH
   rw [eB]
   simp only [cond_true]
   have hsw : chS es t c h k = k (B01 l h t s.1 H).1 (B01 l h t s.1 H).2 := by
    have hk' : (s.1.nth 0).int = 0 ∨ (s.1.nth 0).int = 1 ∨ (s.1.nth 0).int = 2 ∨ (s.1.nth 0).int = 3 := by
     have : kD s.1 = (s.1.nth 0).int := rfl
     omega
    have hF : chF t k = k s.1 0 := by
     unfold chF
     rw [eE, eD, S5, show decide ((0 : Int) = 0) = true by decide, Bool.not_true, cond_false]
    have jj : ((H.nth 2).int = -1 ∧ H.nth 0 = B3) ∨ (∃ q : Nat, (H.nth 2).int = q ∧ c.els[q]? = some (H.nth 1)) := by
     rcases hrel with ⟨r1, r2, r3, r4⟩ | ⟨r1, r2, q, r3, r4, r5⟩
     ·exact .inl ⟨r2, by rw [r3, r4]⟩
     ·exact .inr ⟨q, r4, r5⟩
    unfold chS C11 C6E chU C6D chI
    rw [eD, eH, hF]
    unfold B01
    have lv := fun nm (kk : V → Bool → Option R) => C4d hl hi (nm := nm) ha ha2 kk
    simp only [lv]
    rcases hk' with e0 | e0 | e0 | e0
    ·simp only [e0, S5, show decide ((0 : Int) = 2) = false by decide, show decide ((0 : Int) = 3) = false by decide, cond_false]
     cases C2 0 (H.nth 2).int <;> rfl
    ·simp only [e0, S5, show decide ((1 : Int) = 2) = false by decide, show decide ((1 : Int) = 3) = false by decide, cond_false]
     cases C2 0 (H.nth 2).int <;> rfl
    ·simp only [e0, S5, decide_true, cond_true]
     rw [D1b (show (s.1.nth 3).els.length ≤ 100000 by omega), D1b (show (s.1.nth 1).els.length ≤ 100000 by omega)]
     simp only [Bool.and_self, cond_true]
     rcases jj with ⟨j1, j2⟩ | ⟨q, j1, j2⟩
     ·rw [j2]; rfl
     ·cases !(decide ((V.nth (H.nth 0) 0).int = 1)) with
      | true => rfl
      | false =>
       simp only [cond_false]
       cases !(M3 (V.nth (H.nth 0) 4) (cmt (.s (s.1.nth 3).els) (.s (s.1.nth 1).els))) with
       | true => rfl
       | false =>
        simp only [cond_false]
        obtain ⟨e1, e2⟩ := g5 _ (List.mem_of_getElem? j2)
        rw [F0 (by omega) (by omega), show B7 (h - (V.nth (H.nth 1) 1).int) 3 = B7 h ((V.nth (H.nth 1) 1).int + 3) by rw [F8, F8]; exact decide_eq_decide.2 (by omega)]
        cases B7 h ((V.nth (H.nth 1) 1).int + 3) with
        | true => rfl
        | false => cases T7 (s.1.nth 1).els l h <;> rfl
    ·simp only [e0, S5, show decide ((3 : Int) = 2) = false by decide, decide_true, cond_true, cond_false]
     rcases jj with ⟨j1, j2⟩ | ⟨q, j1, j2⟩
     ·rw [j1, j2]; rfl
     ·have hql : q < c.els.length := (List.getElem?_eq_some_iff.1 j2).1
      have ln1 : ∀ kk : Option R, ln (t.nth 1).els.length kk = kk := fun kk => B5 (by omega)
      simp only [j1, P0, F8]
      rw [show decide (((q : Nat) : Int) < 0) = false by simp, show decide ((((t.nth 1).els.length : Nat) : Int) ≤ (q : Nat)) = false by simp; omega, ln1, C1 (by omega) (by omega)]
      simp only [cond_false, F8]
      have hz : (V.nth (H.nth 0) 0).int = kD (H.nth 0) := rfl
      obtain ⟨z0, z3⟩ := hHk
      rw [hz]
      have fin : (bif !(F7 (V.nth (H.nth 0) 1).els (s.1.nth 1).els) then k B3 171 else bif T7 (s.1.nth 1).els l h then (bif !(M3 (V.nth (A0j (s.1.nth 1).els l h) 3) (V.nth (V.nth (t.nth 1) ((q : Int)).toNat) 0)) then k B3 173 else k s.1 0) else k B3 173) =
        k (bif !(F7 (V.nth (H.nth 0) 1).els (s.1.nth 1).els) then (B3, (171 : Int)) else bif T7 (s.1.nth 1).els l h then (bif !(M3 (V.nth (A0j (s.1.nth 1).els l h) 3) (V.nth (V.nth (t.nth 1) ((q : Int)).toNat) 0)) then (B3, 173) else (s.1, 0)) else (B3, 173)).1 (bif !(F7 (V.nth (H.nth 0) 1).els (s.1.nth 1).els) then (B3, (171 : Int)) else bif T7 (s.1.nth 1).els l h then (bif !(M3 (V.nth (A0j (s.1.nth 1).els l h) 3) (V.nth (V.nth (t.nth 1) ((q : Int)).toNat) 0)) then (B3, 173) else (s.1, 0)) else (B3, 173)).2 := by
       cases !(F7 (V.nth (H.nth 0) 1).els (s.1.nth 1).els) with
       | true => rfl
       | false =>
        simp only [cond_false]
        cases T7 (s.1.nth 1).els l h with
        | false => rfl
        | true => cases !(M3 (V.nth (A0j (s.1.nth 1).els l h) 3) (V.nth (V.nth (t.nth 1) ((q : Int)).toNat) 0)) <;> rfl
      rcases (show kD (H.nth 0) = 0 ∨ kD (H.nth 0) = 1 ∨ kD (H.nth 0) = 2 ∨ kD (H.nth 0) = 3 by omega) with z | z | z | z
      ·rw [z]; rfl
      ·rw [z]; rfl
      ·rw [z]; exact fin
      ·rw [z]; exact fin
   cases hap : C2 0 s.2 with
   | false =>
    simp only [cond_false]
    rw [hsw]
    unfold B2H
    rw [hap]; rfl
   | true =>
    have hap' := hap
    rw [P0, D1d] at hap'
    simp only [cond_true]
    rw [C1 hap' (by omega), hsw]
    unfold B2H
    rw [hap]
    cases B7 (V.nth (V.nth (t.nth 2) s.2.toNat) 0).int 1000000 <;> rfl
variable {R : Type}
theorem C13 {v u : Int} {x y : V} (h : C1W (.l [.i v, x, y, .i u]) = false) : x.els.length ≤ 12 ∧ y.els.length ≤ 12 ∧ (∀ o ∈ y.els, (o.nth 1).els.length ≤ 500) ∧ ∀ o ∈ x.els, (o.nth 1).els.length ≤ 300 := by
 have h : (B7 12 (x.els.length : Nat) || (B7 12 (y.els.length : Nat) || ((y.els.any fun o => B7 500 ((o.nth 1).els.length : Nat)) || (x.els.any fun o => B7 300 ((o.nth 1).els.length : Nat))))) = false := h
 simp only [Bool.or_eq_false_iff, F8, decide_eq_false_iff_not, List.any_eq_false, D1d] at h
 obtain ⟨h1, h2, h3, h4⟩ := h
 exact ⟨by omega, by omega, fun o ho => by have := h3 o ho; omega, fun o ho => by have := h4 o ho; omega⟩
theorem B4q {l : List V} (h1 : l.length ≤ 1000) (h2 : ∀ o ∈ l, (o.nth 1).els.length ≤ 30000) : X7 l = true := by
 unfold X7
 simp only [D02, Nat.ble_eq, List.all_eq_true]
 exact ⟨h1, h2⟩
def B7l (s : V) : Bool := !(B7 (V.nth (s.nth 1) 1).int 0) && (!(B7 1000000000 (V.nth (s.nth 1) 1).int) && !(B7 500 ((lkC (s.nth 1)).els.length : Nat)))
theorem C14 {kx : C6p → Option R} {kr : Option R} {e s t l : V} (hr : ∀ xs n i, kx (.r e s t xs l n i) = kr) (hm : ∀ o ∈ s.els, (lkC (o.nth 1)).els.length ≤ MX) (hs : l.els.length ≤ s.els.length) (hl : l.els.length ≤ 1000) : ∀ (k b : Nat) (xs : List V) (fuel : Nat), b + k = l.els.length → xs.length ≤ b → k < fuel →
  E2 (B7d R) fuel (.m e s t xs l (l.els.length : Nat) (b : Nat)) kx = bif ((s.els.drop b).take k).all B7l then kx (.o e s t (xs ++ ((s.els.drop b).take k).map fun o => o.nth 1) l (l.els.length : Nat) (l.els.length : Nat)) else kr := by
 intro k
 induction k with
 | zero =>
  intro b xs fuel hb hx hf
  obtain ⟨f, rfl⟩ : ∃ f, fuel = f + 1 := ⟨fuel - 1, by omega⟩
  rw [E2, B7e, F8, show decide (((b : Nat) : Int) < ((l.els.length : Nat) : Int)) = false by simp; omega, cond_false, show b = l.els.length by omega]
  simp
 | succ k ih =>
  intro b xs fuel hb hx hf
  obtain ⟨f, rfl⟩ : ∃ f, fuel = f + 1 := ⟨fuel - 1, by omega⟩
  have hbl : b < s.els.length := by omega
  have hat : V.nth s ((b : Nat) : Int).toNat = s.els[b] := by
   unfold V.nth
   rw [show ((b : Nat) : Int).toNat = b by omega, List.getD_eq_getElem?_getD, D1e hbl]; rfl
  have hmb := hm _ (List.getElem_mem hbl)
  have ih := fun xs => ih (b + 1) xs f (by omega)
  rw [E2, B7e, F8, show decide (((b : Nat) : Int) < ((l.els.length : Nat) : Int)) = true by simp; omega, cond_true, C1 (by omega) (by omega), hat, L1 (by omega)]
  rw [List.drop_eq_getElem_cons hbl, List.take_succ_cons, List.all_cons, List.map_cons]
  have ln1 : ∀ kk : Option R, ln (V.nth (V.nth (V.nth s.els[b] 1) 0) 1).els.length kk = kk := fun kk => B5 (Nat.le_trans hmb (by decide))
  rw [ln1, hr]
  have e0 : B7l s.els[b] = (!(B7 (V.nth (V.nth s.els[b] 1) 1).int 0) && (!(B7 1000000000 (V.nth (V.nth s.els[b] 1) 1).int) && !(B7 500 ((V.nth (V.nth (V.nth s.els[b] 1) 0) 1).els.length : Nat)))) := rfl
  rw [e0]
  cases B7 (V.nth (V.nth s.els[b] 1) 1).int 0 with
  | true => rfl
  | false =>
   cases B7 1000000000 (V.nth (V.nth s.els[b] 1) 1).int with
   | true => rfl
   | false =>
    cases B7 500 ((V.nth (V.nth (V.nth s.els[b] 1) 0) 1).els.length : Nat) with
    | true => rfl
    | false =>
     simp only [cond_false, Bool.not_false, Bool.true_and]
     rw [D1 (by simp; omega)]
     refine (ih _ (by simp; omega) (by omega)).trans ?_
     rw [List.append_assoc]; rfl
theorem B02 {st : Nat} {l s : V} {v u : Int} {x y : V} (hd : (D.slice A1d).has l) (hs : (D.slice A1d).sm l) (ht : DTx.has (.l [.i v, x, y, .i u])) (hts : DTx.sm (.l [.i v, x, y, .i u])) (hp : (D.slice A3S).has s) (hps : (D.slice A3S).sm s) : A8o st l s v u x y = some () := by
 have hq := P6
 have hg : rng [l] = true := by
  show (Nat.ble l.els.length MX && l.els.all fun x => Nat.ble (U0 x).length MX && Nat.ble (x.nth 1).els.length MX) = true
  obtain ⟨h1, h2⟩ := hs
  simp only [D02, Nat.ble_eq, List.all_eq_true]
  refine ⟨by simp only [ML, MX] at *; omega, fun x hx => ?_⟩
  obtain ⟨n, v, k, r, rfl, _, _⟩ := C9a (Q3 hd x hx)
  have h3 := h2 _ hx
  obtain ⟨h4, h5, _⟩ := h3
  exact ⟨Nat.le_trans h4 (by decide), Nat.le_trans h5 (by decide)⟩
 unfold A8o
 rw [hg, cond_true]
 cases hr : Z2 l.els 0 with
 | false => rfl
 | true =>
 obtain ⟨r1, r2⟩ := B5l hr
 have hlen : l.els.length ≤ 41 := by
  rcases r2 with r2 | r2
  ·rw [r2]; decide
  ·omega
 have hl : LOK l := ⟨fun e he => by
   obtain ⟨ys, rfl, hy⟩ := Q3 hd e he
   obtain ⟨a, b, c, d, rfl, ⟨na, rfl, _⟩, _⟩ := A9b hy
   exact ⟨na, rfl⟩, fun e he => (r1 e he).1, fun e he => (r1 e he).2.2, by omega⟩
 obtain ⟨_, x1, y1, _⟩ := hts
 obtain ⟨v', a', b', u', e0, _, hxa, hyb, _⟩ := B0l ht
 injection e0 with e0
 injection e0 with e1 e0
 injection e0 with e2 e0
 injection e0 with e3 e0
 subst e2; subst e3
 obtain ⟨x1, x2⟩ := x1
 obtain ⟨y1, y2⟩ := y1
 have hsz : (szB x.els && szB y.els) = true := by
  unfold szB
  simp only [D02, Nat.ble_eq, List.all_eq_true]
  refine ⟨⟨Nat.le_trans x1 (by decide), fun o ho => ?_⟩, Nat.le_trans y1 (by decide), fun o ho => ?_⟩
  ·obtain ⟨r, b, n, rfl, _⟩ := C9X (Q3 hxa o ho)
   have h3 := x2 _ ho
   obtain ⟨_, h4, _⟩ := h3
   exact Nat.le_trans h4.1 (by decide)
  ·obtain ⟨ys, rfl, hy⟩ := Q3 hyb o ho
   obtain ⟨a, b, rfl, _, _⟩ := Z6 hy
   have h3 := y2 _ ho
   obtain ⟨_, h4, _⟩ := h3
   exact Nat.le_trans h4.1 (by decide)
 rw [cond_true, hsz, cond_true]
 cases hgr : C1W (.l [.i v, x, y, .i u]) with
 | true => rfl
 | false =>
 obtain ⟨q1, q2, q3, q4⟩ := C13 hgr
 obtain ⟨s1, s2⟩ := hps
 rw [cond_false, B5 (Nat.le_trans s1 (by decide)), B5 (by omega), F0 (by omega) (by omega), F8]
 by_cases hsl : s.els.length < x.els.length + 1
 ·rw [show decide (((s.els.length : Nat) : Int) < ((x.els.length : Nat) : Int) + 1) = true by simp; omega]; rfl
 rw [show decide (((s.els.length : Nat) : Int) < ((x.els.length : Nat) : Int) + 1) = false by simp; omega, cond_false, B5 (by omega)]
 refine (C14 (kr := some ()) (fun _ _ _ => rfl) (fun o ho => ?_) (by omega) (by omega) x.els.length 0 _ (A2 FU) (by omega) (by simp) (by omega)).trans ?_
 ·obtain ⟨ys, rfl, hy⟩ := Q3 hp o ho
  obtain ⟨a, b, rfl, _, hb⟩ := Z6 hy
  obtain ⟨ys2, rfl, hy2⟩ := hb
  obtain ⟨c, d, f, rfl, hc, _, _⟩ := A9a hy2
  obtain ⟨ys3, rfl, hy3⟩ := hc
  obtain ⟨w, z, rfl, _, _⟩ := Z6 hy3
  have h3 := s2 _ ho
  obtain ⟨_, h4, _⟩ := h3
  obtain ⟨h5, _⟩ := h4
  obtain ⟨_, h6, _⟩ := h5
  exact Nat.le_trans h6.1 (by decide)
 rw [List.drop_zero]
 generalize hC : s.els.take x.els.length = C
 have hCl : C.length = x.els.length := by rw [← hC]; simp; omega
 have hCm : ∀ o ∈ C, o ∈ s.els := fun o ho => by rw [← hC] at ho; exact List.mem_of_mem_take ho
 cases hall : C.all B7l with
 | false => rfl
 | true =>
 simp only [List.all_eq_true] at hall
 rw [cond_true]
 simp only [List.replicate_zero, List.nil_append]
 show (ln x.els.length <| ck (x.els.length : Nat) s.els.length <| _) = _
 rw [B5 (by omega), C1 (by omega) (by omega)]
 show (bif B7 (V.nth (V.nth (V.nth s x.els.length) 1) 1).int 0 then some () else bif B7 1000000000 (V.nth (V.nth (V.nth s x.els.length) 1) 1).int then some () else _) = _
 cases h2 : B7 (V.nth (V.nth (V.nth s x.els.length) 1) 1).int 0 with
 | true => rfl
 | false =>
 cases h3 : B7 1000000000 (V.nth (V.nth (V.nth s x.els.length) 1) 1).int with
 | true => rfl
 | false =>
 rw [F8] at h2 h3
 simp only [decide_eq_false_iff_not] at h2 h3
 have ha : 0 ≤ (V.nth (V.nth (V.nth s x.els.length) 1) 1).int := by omega
 have ha2 : (V.nth (V.nth (V.nth s x.els.length) 1) 1).int ≤ 1000000000 := by omega
 rw [cond_false, cond_false, B5 (by omega)]
 obtain ⟨es, hi, hrun⟩ := C8E (R := Unit) (l := l) hl.nm l.els [] [] (A2 FU) rfl (by simp; omega) A1O.nil (by omega)
 refine (hrun _).trans ?_
 have hok : A7u l (.l (C.map fun o => o.nth 1)) (.l [.i v, x, y, .i u]) = true := by
  show ((Nat.ble l.els.length 10000 && X7 y.els) && (A0S (C.map fun o => o.nth 1) && (Nat.ble (C.map fun o => o.nth 1).length x.els.length && (C.map fun o => o.nth 1).all fun x => C2 0 (x.nth 1).int && C2 (x.nth 1).int 1000000000))) = true
  unfold A0S
  simp only [D02, Nat.ble_eq, List.all_eq_true, D05, List.mem_map, forall_exists_index, and_imp, forall_apply_eq_imp_iff₂, P0, D1d]
  refine ⟨⟨by omega, B4q (by omega) (fun o ho => by have := q3 o ho; omega)⟩, ⟨by omega, fun o ho => ?_⟩, by omega, fun o ho => ?_⟩
  ·have := hall o ho
   unfold B7l at this
   simp only [D02, Bool.not_eq_true', F8, decide_eq_false_iff_not] at this
   omega
  ·have := hall o ho
   unfold B7l at this
   simp only [D02, Bool.not_eq_true', F8, decide_eq_false_iff_not] at this
   omega
 refine (C12 (t := .l [.i v, x, y, .i u]) (c := .l (C.map fun o => o.nth 1)) _ hl hi ha ha2 ht (fun c hc => ?_) hok (by show x.els.length ≤ 1000; omega)).trans ?_
 ·obtain ⟨o, ho, rfl⟩ := List.mem_map.1 hc
  obtain ⟨ys, rfl, hy⟩ := Q3 hp o (hCm o ho)
  obtain ⟨a, b, rfl, _, hb⟩ := Z6 hy
  exact hb
 have hok' := (A2R hok).2.1
 have e9 : V.nth (V.l [.i v, x, y, .i u]) 1 = x := rfl
 simp only [e9]
 rw [hok', hok, (J0 _ _).2 rfl, H7.2 rfl, (J0 _ _).2 rfl, H7.2 rfl, H7.2 rfl]
 simp only [cond_true]
 rw [C0o hl hi]
 exact C8J hl hlen hi (fun xs nl i => rfl)
end Go.Vm
end