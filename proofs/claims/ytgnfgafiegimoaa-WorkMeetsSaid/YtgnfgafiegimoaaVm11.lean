/- What the operations of a program do, shown once for all programs; and numbers. -/
import Derived.Test.YtgnfgafiegimoaaVm10
set_option linter.constructorNameAsVariable false
set_option linter.unusedVariables false
set_option linter.unusedSimpArgs false
noncomputable section
namespace Go.Vm
open Go.RowKit
variable {P : Program} {T : TT} {R : Type} {c : Ctx} {e : Env} {of : Nat → Option Ob}
set_option linter.unusedVariables false
set_option linter.constructorNameAsVariable false

theorem put_agree : ∀ (l : List (Nat × Ob)) {f g : Nat → Option Ob} {id : Nat}, f id = g id → put f l id = put g l id := by
  intro l
  induction l with
  | nil => intro f g id h; exact h
  | cons p r ih =>
    intro f g id h
    refine ih ?_
    simp only [upd]
    split
    · rfl
    · exact h
def aggT (T : TT) (t : Nat) : Bool :=
  match kOf T t with
  | some k => k.agg
  | none => false
/-- A method on a box of data, by its run at a box alone. -/
theorem pureM_ok {f : FuncId} {s : SymC} (hn : s.nat) (hs : SymOK P T f s.dir) {t : Nat} {ts : List Nat} {rk : List RK} {F : FC} (hFn : F.nat) (hts : ts.all (fun t => (T t).isSome) = true) (hag : aggT T t = true)
    (hF : ∀ x xs rs, TV T (t :: ts) (x :: xs) → F (List Rs) (x :: xs) some = some rs → s (List Rs) (.p 0 t [] :: mkAs T ts xs) (box0 t x) 1 (fun out => resM T t x rk out) = some rs) : SymOK P T f (pureM T t ts F).dir := by
  intro c e of of' args vals nx out hos hrun hro hu hvals
  unfold SymC.dir pureM at hrun
  split at hrun <;> try (cases hrun; done)
  rename_i id t' as
  cases hb0 : Nat.beq t' t with
  | false => rw [hb0] at hrun; cases hrun
  | true =>
  rw [hb0] at hrun
  have := Nat.eq_of_beq_eq_true hb0; subst this
  simp only [cond_true] at hrun
  split at hrun <;> try (cases hrun; done)
  rename_i x w0 h0
  split at hrun <;> try (cases hrun; done)
  rename_i xs wo h1
  cases hop : openB (put (put of w0) wo) t' id with
  | false => rw [hop] at hrun; cases hrun
  | true =>
  rw [hop] at hrun
  simp only [cond_true] at hrun
  rw [hFn Eff] at hrun
  obtain ⟨rs, hrs, hout⟩ := ob_some hrun
  split at hout <;> try (cases hout; done)
  rename_i t1 y rs'
  cases hb1 : Nat.beq t1 t' with
  | false => rw [hb1] at hout; cases hout
  | true =>
  rw [hb1] at hout
  have := Nat.eq_of_beq_eq_true hb1; subst this
  simp only [cond_true, Option.some.injEq] at hout
  subst hout
  -- the box, its content
  obtain ⟨a, hof, htv⟩ := boxV_spec h0
  have hid : of' id = of id := hro id (by simp)
  have hof' := hid.trans hof
  obtain ⟨u1, u2, u3, u4, b, cs, ty, fz, g1, g2, g3, g4, g5, g6⟩ := hos.ok _ _ hof'
  have htv' := (toV_congr (T := T) DEP).1 of of' _ _ _ _ htv (fun j hj => hro j (by simp [hj]))
  obtain ⟨eA, a1, a2, a3, a4, a5⟩ := (toV_both DEP).1 e of' t1 a x w0 cs.toList hos htv' g5
  obtain ⟨v0, vs0, hv0, r1, r2⟩ : ∃ v0 vs0, vals.toList = v0 :: vs0 ∧ Rep T e (.p id t1 []) v0 ∧ Reps T e as vs0 := by
    generalize vals.toList = l at hvals
    cases hvals with
    | cons q1 q2 => exact ⟨_, _, rfl, q1, q2⟩
  obtain ⟨eS, s1, s2, s3, s4, s5⟩ := argsV_spec a2 h1 (fun j hj => put_agree w0 (hro j (by simp [hj]))) (r2.mono a3)
  have hw : eS.w = e.w := s1.trans a1
  have leS : e.le eS := a3.trans s3
  obtain ⟨a0, hop'⟩ := openB_spec hop
  have hop2 : put (put of' w0) wo id = some (.box t1 a0 false) := by rw [put_agree wo (put_agree w0 hid)]; exact hop'
  obtain ⟨U1, U2, U3, U4, b', cs', ty', fz', G1, G2, G3, G4, G5, G6⟩ := s2.ok _ _ hop2
  have hι : eS.ι id = some (b, 0) := by rw [(leS.obj _ u1 (U2.trans u2.symm)).1]; exact g1
  rw [hι] at G1; cases G1
  rw [hw, g2] at G2; cases G2
  have hx : RV T eS [t1] [x] cs.toList := a5.mono s3
  have hbS : ∀ i, ¬ eS.S b i := G6 rfl
  have hblt : b < e.w.heap.size := (Array.getElem?_eq_some_iff.1 g2).1
  -- nobody's objects but the box
  have hagg : AggIff T t1 (.agg cs) := by
    refine ⟨fun _ => ⟨cs, rfl⟩, fun _ => ?_⟩
    unfold aggT at hag
    split at hag
    · rename_i k hk; exact ⟨k, hk, hag⟩
    · cases hag
  have hTt : (T t1).isSome = true := by
    unfold aggT at hag
    split at hag
    · rename_i k hk
      unfold kOf at hk
      split at hk
      · rename_i te hte; rw [hte]; rfl
      · cases hk
    · cases hag
  have hrun0 := hF x xs _ ⟨eS, .agg cs :: vs0, .cons hx hagg s5⟩ hrs
  rw [hn] at hrun0
  obtain ⟨out0, hout0, hres⟩ := ob_some hrun0
  let e0 : Env := { w := e.w, ι := fun j => if j = 0 then some (b, 0) else none, S := eS.S, bn := fun _ => 0, U := fun j => j = 0, ty := fun _ => t1, ln := fun _ => 0 }
  let c0 : Ctx := { w0 := e.w, M := fun k => k = b, S0 := eS.S }
  have fz0 : ∀ a ds, Fz eS a ds → Fz e0 a ds := fun a ds q => ⟨q.1, fun j y hj => by
    obtain ⟨p1, p2⟩ := q.2 j y hj
    rw [hw] at p1
    exact ⟨p1, p2⟩⟩
  have hbox0 : box0 t1 x 0 = some (.box t1 (.v t1 x) false) := rfl
  have hboxn : ∀ j o, box0 t1 x j = some o → j = 0 ∧ o = .box t1 (.v t1 x) false := fun j o hj => by
    unfold box0 at hj
    cases hq : Nat.beq j 0 with
    | false => rw [hq] at hj; cases hj
    | true =>
      rw [hq] at hj
      simp only [cond_true, Option.some.injEq] at hj
      exact ⟨Nat.eq_of_beq_eq_true hq, hj.symm⟩
  have hbox1 : ∀ j, (box0 t1 x j).isSome → j = 0 := fun j hj => by
    obtain ⟨o, ho⟩ := Option.isSome_iff_exists.1 hj
    exact (hboxn j o ho).1
  have hos0 : OSim T c0 e0 (box0 t1 x) := by
    refine ⟨fun j o hj => ?_, fun i j b1 o1 b2 o2 hi hj _ _ hne => ?_, fun j b1 o1 hj hb1 => ?_, fun j b1 o1 hj hb1 => ?_, fun b1 i hs' => ?_, fun _ _ hs' => hs', fun _ _ hs' => .inl hs', rfl, rfl, rfl, Nat.le_refl _, fun _ _ _ => rfl⟩
    · obtain ⟨rfl, rfl⟩ := hboxn j o hj
      exact ⟨rfl, rfl, rfl, by show Nat.beq t1 t1 = true; exact Nat.beq_refl _, b, cs, ty, fz, by simp [e0], g2, g3, g4, RA.v (hx.change fz0) .nil |> (by simpa using ·), fun _ => hbS⟩
    · rw [hbox1 i hi, hbox1 j hj] at hne; exact absurd rfl hne
    · have hb1 : (if j = 0 then some (b, 0) else none) = some (b1, o1) := hb1
      rw [if_pos (hbox1 j hj)] at hb1; cases hb1; exact .inr rfl
    · have hj : j = 0 := hj
      have hb1 : (if j = 0 then some (b, 0) else none) = some (b1, o1) := hb1
      rw [if_pos hj] at hb1; cases hb1; exact hblt
    · have := s2.slt b1 i hs'; rwa [hw] at this
  have hreps0 : Reps T e0 (.p 0 t1 [] :: mkAs T ts xs) vals.toList := by
    rw [hv0]
    refine .cons ?_ ((s5.change (e' := e0) fz0).reps hts)
    obtain ⟨b2, off, _, _, k1, k2, hv⟩ := rep_p_inv r1
    rw [g1] at k1; cases k1
    rw [u3] at k2
    cases k2
    exact RA.r ⟨b, 0, rfl, rfl, by simp [e0], .nil, hv⟩ (by rw [hv]; rfl) .nil
  refine does_mono (hs c0 e0 (box0 t1 x) (box0 t1 x) _ vals 1 out0 hos0 hout0 (fun _ _ => rfl) (fun j h1 _ (h : j = 0) => by omega) hreps0) ?_
  rintro x1 w' ⟨e1, rfl, k1, k2, k3, k4⟩
  obtain ⟨vs, hvs, hxv⟩ : ∃ vs, Reps T e1 (outL out0.val) vs ∧ ((isT out0.val = true ∧ x1 = .tuple vs.toArray) ∨ (isT out0.val = false ∧ vs = [x1])) := by
    cases hv : out0.val with
    | t l =>
      rw [hv] at k4
      obtain ⟨X, rfl, h2, h3⟩ := k4
      exact ⟨X.toList, reps_tuple (by simpa [outL] using h2) (fun i v x a b => h3 i v x a (by simpa using b)), .inl ⟨rfl, by simp⟩⟩
    | _ => rw [hv] at k4; exact ⟨[x1], .cons k4 .nil, .inr ⟨rfl, rfl⟩⟩
  unfold resM at hres
  cases hsh1 : (Nat.beq rk.length 1 == isT out0.val) with
  | true => rw [hsh1] at hres; cases hres
  | false =>
  rw [hsh1] at hres
  simp only [cond_false] at hres
  split at hres <;> try (cases hres; done)
  rename_i y1 w1 hbv
  split at hres <;> try (cases hres; done)
  rename_i ys w2 hdl
  cases hcnt : (Nat.ble (cntR rk) 1 && openB (put (put (put (box0 t1 x) out0.wo) w1) w2) t1 0) with
  | false => rw [hcnt] at hres; cases hres
  | true =>
  rw [hcnt] at hres
  simp only [cond_true] at hres
  simp only [Bool.and_eq_true] at hcnt
  obtain ⟨hcnt, hop3⟩ := hcnt
  split at hres <;> try (cases hres; done)
  rename_i rs2 hrl
  simp only [Option.some.injEq, List.cons.injEq, Rs.d.injEq, true_and] at hres
  obtain ⟨rfl, rfl⟩ := hres
  -- the box behind the call
  obtain ⟨a1', hof1, htv1⟩ := boxV_spec hbv
  obtain ⟨d1, d2, d3, d4, b1, cs1, ty1, fz1, f1, f2, f3, f4, f5, f6⟩ := k1.ok _ _ hof1
  have hι1 : e1.ι 0 = some (b, 0) := by rw [(k2.obj 0 rfl d2).1]; rfl
  rw [hι1] at f1; cases f1
  obtain ⟨eB, l1, l2, l3, l4, l5⟩ := (toV_both DEP).1 e1 _ t1 a1' y1 w1 cs1.toList k1 htv1 f5
  obtain ⟨e2, q1, q2, q3, q4, q6, q5⟩ := dL_spec l2 hdl (hvs.mono l3)
  have hw2 : e2.w = e1.w := q1.trans l1
  have le2 : e0.le e2 := k2.trans (l3.trans q3)
  obtain ⟨a2', hof2⟩ := openB_spec hop3
  obtain ⟨D1, D2, D3, D4, b2, cs2, ty2, fz2, F1, F2, F3, F4, F5, F6⟩ := q2.ok _ _ hof2
  have hι2 : e2.ι 0 = some (b, 0) := by rw [(le2.obj 0 rfl D2).1]; rfl
  rw [hι2] at F1; cases F1
  rw [hw2, f2] at F2; cases F2
  have hy : RV T e2 [t1] [y1] cs1.toList := l5.mono q3
  have hb2S : ∀ i, ¬ e2.S b i := F6 rfl
  have hRR := q5 rs2 hrl e.w.heap.size (fun j el v xs nl sh' bb o hj hιj => by
    rcases q2.own j bb o (by rw [hj]; rfl) hιj with h | h
    · exact h
    · have hj0 : j ≠ 0 := by intro q; subst q; rw [hof2] at hj; cases hj
      exact absurd h (q2.sep j 0 bb o b 0 (by rw [hj]; rfl) (by rw [hof2]; rfl) hιj hι2 hj0))
  -- back to where the call was made: the box let go, the world grown, the box taken again
  let ofD : Nat → Option Ob := fun j => if j = id then none else put (put of' w0) wo j
  have hsubD : ∀ j o, ofD j = some o → put (put of' w0) wo j = some o := fun j o hj => by
    by_cases hji : j = id
    · simp [ofD, hji] at hj
    · simpa [ofD, hji] using hj
  have osD : OSim T c eS ofD := s2.sub hsubD
  have hsomeD : ∀ j, (ofD j).isSome → j ≠ id ∧ (put (put of' w0) wo j).isSome := fun j hj => by
    obtain ⟨o, ho⟩ := Option.isSome_iff_exists.1 hj
    refine ⟨fun q => ?_, by rw [hsubD j o ho]; rfl⟩
    subst q; simp [ofD] at ho
  have hownB : c.w0.heap.size ≤ b ∨ c.M b := s2.own id b 0 (by rw [hop2]; rfl) hι
  have hszS : eS.w.heap.size = e.w.heap.size := by rw [hw]
  obtain ⟨gg1, gg2⟩ := osD.grownB (B := b) (by rw [hszS]; exact hblt) hownB (fun j q hj hιj => absurd rfl (s2.sep j id b q b 0 (hsomeD j hj).2 (by rw [hop2]; rfl) hιj hι (hsomeD j hj).1)) hbS (w' := e2.w) (S2 := e2.S)
    (by rw [hszS]; exact q2.size) (fun k hk hkb => by rw [hw]; exact q2.block k (by rw [← hszS]; exact hk) hkb) (by rw [hw]; exact le2.keep b hblt) (by rw [hw]; exact q2.os) (by rw [hw]; exact q2.tape) (by rw [hw]; exact q2.output) (fun k i h => q2.slt k i h)
  have fzG : ∀ a ds, Fz e2 a ds → Fz (eS.grown e2.w e2.S) a ds := fun a ds q => ⟨q.1, fun j y hj => by
    obtain ⟨p1, p2⟩ := q.2 j y hj
    refine ⟨p1, ?_⟩
    rcases q2.snew _ _ p2 with h | h | h
    · exact .inl h
    · exact .inr ⟨by rw [hszS]; exact h, p2⟩
    · have h : a.block = b := h
      rw [h] at p2
      exact absurd p2 (hb2S _)⟩
  have okB : OK T (eS.grown e2.w e2.S) id (.box t1 (.v t1 y1) false) :=
    ⟨U1, U2, U3, by show Nat.beq t1 t1 = true; exact Nat.beq_refl _, b, cs1, ty1, fz1, hι, by show e2.w.heap[b]? = _; rw [hw2]; exact f2, F3, f4, by simpa using RA.v (hy.change fzG) .nil, fun _ i hs' => by
      rcases hs' with h | ⟨h, _⟩
      · exact hbS i h
      · omega⟩
  have osB := gg1.back okB (fun bb q hq => by
    have hq : eS.ι id = some (bb, q) := hq
    rw [hι] at hq; cases hq; exact hownB) (fun j bb q b2 q2' hji hj hq1 hq2 => by
    have hq1 : eS.ι id = some (bb, q) := hq1
    have hq2 : eS.ι j = some (b2, q2') := hq2
    rw [hι] at hq1; cases hq1
    exact s2.sep j id b2 q2' b 0 (hsomeD j hj).2 (by rw [hop2]; rfl) hq2 hι hji)
  have hofB : upd ofD id (some (.box t1 (.v t1 y1) false)) = put of' ((w0 ++ wo) ++ [(id, .box t1 (.v t1 y1) false)]) := by
    rw [put_append, put_append]
    funext j
    show upd ofD id _ j = upd (put (put of' w0) wo) id _ j
    by_cases hji : j = id
    · subst hji; rw [upd_same, upd_same]
    · rw [upd_ne _ _ hji, upd_ne _ _ hji]; simp [ofD, hji]
  rw [hofB] at osB
  have hRA : RR T true (eS.grown e2.w e2.S) e.w.heap.size rk rs2 vs := RR.flat (e := e2) (e' := eS.grown e2.w e2.S) rfl (fun _ => fzG) (fun k i hB hS => by
      rcases hS with h | h
      · have := s2.slt k i h; omega
      · exact h.2) hRR
  obtain ⟨v00, e', v1, v2, v3, v4, v5⟩ := RR.take (nx := nx) osB hRA (Nat.le_of_ble_eq_true hcnt) (fun j h1 h2 hU => hu j h1 h2 (a4 j (s4 j hU))) hos.size (fun j bb o hj hιj => by
    have hιj : eS.ι j = some (bb, o) := hιj
    obtain ⟨ob1, hob1⟩ := Option.isSome_iff_exists.1 hj
    have hUj : eS.U j := (osB.ok j ob1 hob1).use
    have := s2.lt j bb o hUj hιj
    rwa [hszS] at this)
  refine ⟨e', v1.trans hw2, ?_, leS.trans (gg2.trans v3), fun j hj => (v4 j hj).imp (fun h => a4 j (s4 j h)) (fun h => h), ?_⟩
  · show OSim T c e' (put of' ((w0 ++ wo) ++ ((id, .box t1 (.v t1 y1) false) :: (mkRs T nx rs2).2.1)))
    rw [show (w0 ++ wo) ++ ((id, Ob.box t1 (.v t1 y1) false) :: (mkRs T nx rs2).2.1) = ((w0 ++ wo) ++ [(id, .box t1 (.v t1 y1) false)]) ++ (mkRs T nx rs2).2.1 by simp, put_append]
    exact v2
  · show Rep T e' (oneT (mkRs T nx rs2).1) x1
    have hlen : (mkRs T nx rs2).1.length = rk.length := by rw [mkRs_len, rL_len hrl]
    rcases hxv with ⟨ht, rfl⟩ | ⟨ht, rfl⟩
    · have hne : (mkRs T nx rs2).1.length ≠ 1 := by
        rw [hlen]; intro h; rw [h, ht] at hsh1; cases hsh1
      have : oneT (mkRs T nx rs2).1 = .t (mkRs T nx rs2).1 := by
        unfold oneT
        split
        · rename_i a h; rw [h] at hne; exact absurd rfl hne
        · rfl
      rw [this]
      exact tuple_reps v5 (mkRs_not (nx := nx))
    · have h1 := v5.get.1
      obtain ⟨a, ha⟩ : ∃ a, (mkRs T nx rs2).1 = [a] := List.length_eq_one_iff.1 (by simpa using h1.symm)
      rw [ha] at v5 ⊢
      cases v5 with
      | cons h _ => exact h
end Go.Vm

namespace Go.Vm
open Go.RowKit
variable {P : Program} {T : TT} {R : Type}
set_option linter.unusedVariables false
set_option linter.constructorNameAsVariable false

/-! ### Methods on a box of data: contracts at a table -/
theorem pureM_con (hm : P.follows .mixedOrders = true) (hT : TOK T P) {tab : List (Nat × SymC)} (h : TabOK P T tab) {f d fu : Nat} {Lo : Nat → LC} {t : Nat} {ts : List Nat} {rk : List RK} {F : FC} (hFn : F.nat) (hts : ts.all (fun t => (T t).isSome) = true) (hag : aggT T t = true)
    (hL : LoopsC P T f Lo)
    (hF : ∀ x xs rs, TV T (t :: ts) (x :: xs) → F (List Rs) (x :: xs) some = some rs → runFC P T (runAC P T tab false fu d) Lo false fu f (List Rs) (.p 0 t [] :: mkAs T ts xs) (box0 t x) 1 (fun out => resM T t x rk out) = some rs) :
    TabOK P T ((f, pureM T t ts F) :: tab) :=
  h.cons (pureM_nat hFn) (pureM_ok (runFC_nat (runAC_nat h d) hL.nat) (runFC_ok hm hT (runAC_nat h d) (runAC_ok hm hT h d) hL.nat hL.ok) hFn hts hag hF)
/-- A struct of a slice and a number. -/
theorem tv_two {t s el er : Nat} {k : IntKind} {x : V} {e : Env} {cs : List Value} (ht : kOf T t = some (.struct [s, er])) (hs : kOf T s = some (.slice el)) (hr : kOf T er = some (.int k)) (h : RV T e [t] [x] cs) : ∃ y n, x = .l [y, .i n] ∧ inR k n ∧ (y = .n ∨ ∃ ys, y = .l ys) := by
  obtain ⟨ys, rfl, hy⟩ := h.struct_inv ht
  obtain ⟨as, bs, c1, c2, rfl, rfl, h1, h2⟩ := RV.split [s] hy
  have l1 := h1.length.2
  have l2 := h2.length.2
  obtain ⟨a, rfl⟩ := List.length_eq_one_iff.1 l1
  obtain ⟨b, rfl⟩ := List.length_eq_one_iff.1 l2
  obtain ⟨n, rfl, hn⟩ : ∃ n, b = .i n ∧ inR k n := by
    cases h2 with
    | int g1 _ g3 g4 => rw [hr] at g1; cases g1; exact ⟨_, rfl, g3⟩
    | bool g1 => rw [hr] at g1; cases g1
    | str g1 => rw [hr] at g1; cases g1
    | ptr g1 => rw [hr] at g1; cases g1
    | nils g1 => rw [hr] at g1; cases g1
    | map g1 => rw [hr] at g1; cases g1
    | func g1 => rw [hr] at g1; cases g1
    | fn g1 => rw [hr] at g1; cases g1
    | slice g1 => rw [hr] at g1; cases g1
    | arr g1 => rw [hr] at g1; cases g1
    | struct g1 => rw [hr] at g1; cases g1
  refine ⟨a, n, rfl, hn, ?_⟩
  rcases h1.slice_inv hs with ⟨rfl, _⟩ | ⟨ys, ds, ad, cap, rfl, _⟩
  · exact .inl rfl
  · exact .inr ⟨ys, rfl⟩
/-- Bytes. -/
theorem tv_bytes {t el : Nat} {x : V} {e : Env} {cs : List Value} (ht : kOf T t = some (.slice el)) (he : kOf T el = some (.int .u8)) (h : RV T e [t] [x] cs) : x = .n ∨ ∃ ns : List Nat, x = .l (ns.map nv) ∧ ∀ a ∈ ns, a < 256 := by
  rcases h.slice_inv ht with ⟨rfl, _⟩ | ⟨ys, ds, a, cap, rfl, _, _, _, g⟩
  · exact .inl rfl
  · obtain ⟨ns, rfl, hn⟩ := int_row he rfl g
    exact .inr ⟨ns, rfl, lt256 hn⟩
/-- A number. -/
theorem tv_int {t : Nat} {k : IntKind} {x : V} {e : Env} {cs : List Value} (ht : kOf T t = some (.int k)) (h : RV T e [t] [x] cs) : ∃ n, x = .i n ∧ inR k n := by
  cases h with
  | int g1 _ g3 g4 => rw [ht] at g1; cases g1; exact ⟨_, rfl, g3⟩
  | bool g1 => rw [ht] at g1; cases g1
  | str g1 => rw [ht] at g1; cases g1
  | ptr g1 => rw [ht] at g1; cases g1
  | nils g1 => rw [ht] at g1; cases g1
  | map g1 => rw [ht] at g1; cases g1
  | func g1 => rw [ht] at g1; cases g1
  | fn g1 => rw [ht] at g1; cases g1
  | slice g1 => rw [ht] at g1; cases g1
  | arr g1 => rw [ht] at g1; cases g1
  | struct g1 => rw [ht] at g1; cases g1

/-! ### Numbers and texts as bytes, and how they are read: what the functions of 'piece' compute -/
/-- The number of bytes, the lowest first. -/
def numE : List V → Int
  | [] => 0
  | a :: r => bitsOf .or .u64 (WU (numE r * 2 ^ 8)) (WU a.int)
def numF (u64 : Nat) : FC := fun R xs k => match xs with
  | [x] => bif Nat.ble x.els.length 8 then k [.d u64 (.i (numE x.els))] else none
  | _ => none
theorem numF_nat (u64 : Nat) : FC.nat (numF u64) := by
  intro R xs k
  unfold numF
  split
  · rename_i x; cases Nat.ble x.els.length 8 <;> rfl
  · rfl
theorem numF_at {u64 : Nat} {ns : List Nat} {rs : List Rs} (h : numF u64 (List Rs) [.l (ns.map nv)] some = some rs) : ns.length ≤ 8 ∧ some rs = some [.d u64 (.i (numE (ns.map nv)))] := by
  unfold numF at h
  simp only [V.els, List.length_map] at h
  cases hl : Nat.ble ns.length 8 with
  | false => rw [hl] at h; cases h
  | true => rw [hl] at h; exact ⟨Nat.le_of_ble_eq_true hl, h.symm⟩
/-- Bounds of a part; a part. -/
def bnds {R : Type} (lo hi : Int) (n : Nat) (k : Option R) : Option R := bif ile 0 lo && ile lo hi && ile hi n then k else none
def sub (xs : List V) (lo hi : Int) : List V := (xs.drop lo.toNat).take (hi - lo).toNat
theorem bnds_in {lo hi : Int} {n : Nat} {k : Option R} (h1 : 0 ≤ lo) (h2 : lo ≤ hi) (h3 : hi ≤ n) : bnds lo hi n k = k := by
  unfold bnds
  rw [ile_iff.2 h1, ile_iff.2 h2, ile_iff.2 h3]; rfl
theorem sub_len (xs : List V) (lo hi : Int) : (sub xs lo hi).length ≤ xs.length := by
  unfold sub; simp; omega
/-- A reader: what is left, what is wrong. -/
def rdL (x : V) : List V := (x.nth 0).els
def rdE (x : V) : Int := (x.nth 1).int
def rdO (x : V) : Bool := Nat.ble (rdL x).length LIM
/-- The next bytes. -/
def rawX (x : V) (n : Int) : V := bif !ieq (rdE x) 0 then x else bif ilt n 1 then x else bif ilt ((rdL x).length : Nat) n then .l [x.nth 0, .i 61] else .l [.l (sub (rdL x) n ((rdL x).length : Nat)), .i (rdE x)]
def rawV (x : V) (n : Int) : V := bif !ieq (rdE x) 0 then .n else bif ilt n 1 then .n else bif ilt ((rdL x).length : Nat) n then .n else .l (sub (rdL x) (0 : Nat) n)
def rawF (t s : Nat) : FC := fun R xs k => match xs with
  | [x, n] => bif rdO x then k [.d t (rawX x n.int), .d s (rawV x n.int)] else none
  | _ => none
theorem rawF_nat (t s : Nat) : FC.nat (rawF t s) := by
  intro R xs k
  unfold rawF
  split
  · rename_i x n; cases rdO x <;> rfl
  · rfl
def rawG {R : Type} (t s : Nat) (xs : List V) (err n : Int) (k : List Rs → Option R) : Option R :=
  bif !ieq err 0 then k [.d t (.l [.l xs, .i err]), .d s .n] else
  bif ilt n 1 then k [.d t (.l [.l xs, .i err]), .d s .n] else
  ln xs.length <| bif ilt (xs.length : Nat) n then k [.d t (.l [.l xs, .i 61]), .d s .n] else
  bnds (0 : Nat) n xs.length <| lim (0 + (sub xs (0 : Nat) n).length) <| bnds n (xs.length : Nat) xs.length <|
  k [.d t (.l [.l (sub xs n (xs.length : Nat)), .i err]), .d s (.l (sub xs (0 : Nat) n))]
def rawN {R : Type} (t s : Nat) (err n : Int) (k : List Rs → Option R) : Option R :=
  bif !ieq err 0 then k [.d t (.l [.n, .i err]), .d s .n] else
  bif ilt n 1 then k [.d t (.l [.n, .i err]), .d s .n] else
  bif ilt (0 : Nat) n then k [.d t (.l [.n, .i 61]), .d s .n] else
  bnds (0 : Nat) n 0 <| bnds n (0 : Nat) 0 <| k [.d t (.l [.n, .i err]), .d s .n]
theorem raw_law (t s : Nat) {xs : List V} {err n : Int} {rs : List Rs} (h : rawF t s (List Rs) [.l [.l xs, .i err], .i n] some = some rs) : rawG t s xs err n some = some rs := by
  unfold rawF at h
  simp only at h
  cases ho : rdO (.l [.l xs, .i err]) with
  | false => rw [ho] at h; cases h
  | true =>
  rw [ho] at h
  have hlen : xs.length ≤ 1073741824 := Nat.le_of_ble_eq_true ho
  simp only [cond_true, Option.some.injEq] at h
  subst h
  have e0 : rdE (.l [.l xs, .i err]) = err := rfl
  have e1 : rdL (.l [.l xs, .i err]) = xs := rfl
  have e2 : (V.l [.l xs, .i err]).nth 0 = .l xs := rfl
  have e3 : (V.i n).int = n := rfl
  simp only [rawG, rawX, rawV, e0, e1, e2, e3]
  cases h1 : (!ieq err 0)
  · cases h2 : ilt n 1
    · rw [ln_in (by omega)]
      cases h3 : ilt (xs.length : Nat) n
      · have h2 : ¬ n < 1 := fun q => by rw [show ilt n 1 = true by simp [ilt, q]] at h2; cases h2
        have h3 : ¬ (xs.length : Int) < n := fun q => by rw [show ilt (xs.length : Nat) n = true by simp [ilt, q]] at h3; cases h3
        have := sub_len xs (0 : Nat) n
        simp only [cond_false]
        rw [bnds_in (by omega) (by omega) (by omega), lim_in (by omega), bnds_in (by omega) (by omega) (by omega)]
      · rfl
    · rfl
  · rfl
theorem raw_lawN (t s : Nat) {err n : Int} {rs : List Rs} (h : rawF t s (List Rs) [.l [.n, .i err], .i n] some = some rs) : rawN t s err n some = some rs := by
  unfold rawF at h
  simp only at h
  cases ho : rdO (.l [.n, .i err]) with
  | false => rw [ho] at h; cases h
  | true =>
  rw [ho] at h
  simp only [cond_true, Option.some.injEq] at h
  subst h
  have e0 : rdE (.l [.n, .i err]) = err := rfl
  have e1 : rdL (.l [.n, .i err]) = [] := rfl
  have e2 : (V.l [.n, .i err]).nth 0 = .n := rfl
  have e3 : (V.i n).int = n := rfl
  simp only [rawN, rawX, rawV, e0, e1, e2, e3]
  cases h1 : (!ieq err 0)
  · cases h2 : ilt n 1
    · have h2 : ¬ n < 1 := fun q => by rw [show ilt n 1 = true by simp [ilt, q]] at h2; cases h2
      have h3 : ilt (0 : Nat) n = true := by simp [ilt]; omega
      simp only [List.length_nil, h3, cond_false, cond_true]
    · rfl
  · rfl
end Go.Vm

namespace Go.Vm
open Go.RowKit
variable {P : Program} {T : TT} {R : Type}
set_option linter.unusedVariables false
set_option linter.constructorNameAsVariable false

/-! ### A number in as many bytes as it needs -/
def leV : Nat → Int → List V
  | 0, _ => []
  | m + 1, n => .i (IntKind.wrap .u8 n) :: leV m (n.fdiv (2 ^ 8))
def cntL (n : Int) : List V :=
  bif ilt n 253 then leV 1 n else bif ilt n 65536 then .i 253 :: leV 2 n else bif ilt n 4294967296 then .i 254 :: leV 4 n else .i 255 :: leV 8 n
def cntF (s : Nat) : FC := fun R xs k => match xs with
  | [.n, n] => k [.d s (.l (cntL n.int))]
  | _ => none
theorem cntF_nat (s : Nat) : FC.nat (cntF s) := by
  intro R xs k
  unfold cntF
  split <;> rfl
def cntG {R : Type} (s : Nat) (n : Int) (k : List Rs → Option R) : Option R :=
  bif ilt n 253 then k [.d s (.l (leV 1 n))] else bif ilt n 65536 then k [.d s (.l (.i 253 :: leV 2 n))] else bif ilt n 4294967296 then k [.d s (.l (.i 254 :: leV 4 n))] else k [.d s (.l (.i 255 :: leV 8 n))]
theorem cnt_law (s : Nat) {n : Int} {k : List Rs → Option R} : cntG s n k = k [.d s (.l (cntL n))] := by
  unfold cntG cntL
  cases ilt n 253 <;> cases ilt n 65536 <;> cases ilt n 4294967296 <;> rfl
theorem cntL_len (n : Int) : 1 ≤ (cntL n).length ∧ (cntL n).length ≤ 9 := by
  unfold cntL
  cases ilt n 253 <;> cases ilt n 65536 <;> cases ilt n 4294967296 <;> simp [leV]

/-! ### The first bytes' count: what it is, how many bytes it has, or what is wrong -/
def hdI (x : V) : Int := elV (x.nth 0) 0
def pkA (x : V) (most n used : Int) : Int × Int × Int := bif !ieq ((cntL n).length : Nat) used then (0, 0, 62) else bif ilt most n then (0, 0, 62) else (n, used, 0)
def pkB (x : V) (most used : Int) : Int × Int × Int := bif ilt ((rdL x).length : Nat) used then (0, 0, 61) else pkA x most (numE (sub (rdL x) 1 used)) used
def pkX (x : V) (most : Int) : Int × Int × Int :=
  bif ieq ((rdL x).length : Nat) 0 then (0, 0, 61) else bif ieq (hdI x) 253 then pkB x most 3 else bif ieq (hdI x) 254 then pkB x most 5 else bif ieq (hdI x) 255 then pkB x most 9 else
    bif ilt ((rdL x).length : Nat) 1 then (0, 0, 61) else pkA x most (WU (hdI x)) 1
def pkR (t u er it : Nat) (x : V) (p : Int × Int × Int) : List Rs := [.d t x, .d u (.i p.1), .d it (.i p.2.1), .d er (.i p.2.2)]
def pkF (t u er it : Nat) : FC := fun R xs k => match xs with
  | [x, m] => bif rdO x then k (pkR t u er it x (pkX x m.int)) else none
  | _ => none
theorem pkF_nat (t u er it : Nat) : FC.nat (pkF t u er it) := by
  intro R xs k
  unfold pkF
  split
  · rename_i x m; cases rdO x <;> rfl
  · rfl
def pkGE {R : Type} (x : V) (most n used : Int) (k : Int × Int × Int → Option R) : Option R :=
  ln (cntL n).length <| bif !ieq ((cntL n).length : Nat) used then k (0, 0, 62) else bif ilt most n then k (0, 0, 62) else k (n, used, 0)
def pkGS {R : Type} (x : V) (xs : List V) (most used : Int) (k : Int × Int × Int → Option R) : Option R :=
  ln xs.length <| bif ilt (xs.length : Nat) used then k (0, 0, 61) else bnds 1 used xs.length <| bif Nat.ble (sub xs 1 used).length 8 then pkGE x most (numE (sub xs 1 used)) used k else none
def pkG0 {R : Type} (x : V) (xs : List V) (most : Int) (k : Int × Int × Int → Option R) : Option R :=
  ln xs.length <| bif ilt (xs.length : Nat) 1 then k (0, 0, 61) else bnds 1 1 xs.length <| bif Nat.ble (sub xs 1 1).length 8 then ck 0 xs.length (pkGE x most (WU (elV (.l xs) 0)) 1 k) else none
def pkG {R : Type} (x : V) (xs : List V) (most : Int) (k : Int × Int × Int → Option R) : Option R :=
  ln xs.length <| bif ieq (xs.length : Nat) 0 then k (0, 0, 61) else ck 0 xs.length <|
    bif ieq (elV (.l xs) 0) 253 then pkGS x xs most 3 k else bif ieq (elV (.l xs) 0) 254 then pkGS x xs most 5 k else bif ieq (elV (.l xs) 0) 255 then pkGS x xs most 9 k else pkG0 x xs most k
end Go.Vm

namespace Go.Vm
open Go.RowKit
variable {P : Program} {T : TT} {R : Type}
set_option linter.unusedVariables false
set_option linter.constructorNameAsVariable false

theorem not_ilt {a b : Int} (h : ilt a b = false) : ¬ a < b := fun q => by rw [show ilt a b = true by simp [ilt, q]] at h; cases h
theorem cntL_short (n : Int) : (cntL n).length ≤ 1073741824 := by have := cntL_len n; omega
theorem pkE_law {x : V} {most n used : Int} {k : Int × Int × Int → Option R} : pkGE x most n used k = k (pkA x most n used) := by
  unfold pkGE pkA
  have := cntL_len n
  rw [ln_in (by omega)]
  cases (!ieq ((cntL n).length : Nat) used) <;> cases ilt most n <;> rfl
theorem sub_len2 (xs : List V) {lo hi : Int} (h : lo ≤ hi) : ((sub xs lo hi).length : Int) ≤ hi - lo := by
  unfold sub; simp; omega
theorem pkS_law {xs : List V} {err most used : Int} {k : Int × Int × Int → Option R} (hl : xs.length ≤ LIM) (h1 : 1 ≤ used) (h2 : used ≤ 9) : pkGS (.l [.l xs, .i err]) xs most used k = k (pkB (.l [.l xs, .i err]) most used) := by
  have e1 : rdL (.l [.l xs, .i err]) = xs := rfl
  have hl : xs.length ≤ 1073741824 := hl
  unfold pkGS pkB
  rw [e1, ln_in (by omega)]
  cases h3 : ilt (xs.length : Nat) used
  · have h3 := not_ilt h3
    have h4 := sub_len2 xs h1
    simp only [cond_false]
    rw [bnds_in (by omega) h1 (by omega), show Nat.ble (sub xs 1 used).length 8 = true from Nat.ble_eq_true_of_le (by omega)]
    exact pkE_law
  · rfl
theorem pk_law {xs : List V} {err most : Int} {k : Int × Int × Int → Option R} (hl : xs.length ≤ LIM) : pkG (.l [.l xs, .i err]) xs most k = k (pkX (.l [.l xs, .i err]) most) := by
  have e1 : rdL (.l [.l xs, .i err]) = xs := rfl
  have e2 : hdI (.l [.l xs, .i err]) = elV (.l xs) 0 := rfl
  have hl' : xs.length ≤ 1073741824 := hl
  unfold pkG pkX
  rw [e1, e2, ln_in (by omega)]
  cases h0 : ieq (xs.length : Nat) 0
  · have h0 : (xs.length : Int) ≠ 0 := fun q => by rw [ieq_yes q] at h0; cases h0
    simp only [cond_false]
    rw [ck_in (by omega) (by omega)]
    cases ieq (elV (.l xs) 0) 253
    · cases ieq (elV (.l xs) 0) 254
      · cases ieq (elV (.l xs) 0) 255
        · simp only [cond_false]
          unfold pkG0
          rw [ln_in (by omega)]
          have h1 : ilt (xs.length : Nat) 1 = false := by simp [ilt]; omega
          have h4 := sub_len2 xs (lo := 1) (hi := 1) (by omega)
          simp only [h1, cond_false]
          rw [bnds_in (by omega) (by omega) (by omega), show Nat.ble (sub xs 1 1).length 8 = true from Nat.ble_eq_true_of_le (by omega), cond_true, ck_in (by omega) (by omega)]
          exact pkE_law
        · exact pkS_law hl (by omega) (by omega)
      · exact pkS_law hl (by omega) (by omega)
    · exact pkS_law hl (by omega) (by omega)
  · rfl
end Go.Vm

namespace Go.Vm
open Go.RowKit
variable {P : Program} {T : TT} {R : Type}
set_option linter.unusedVariables false
set_option linter.constructorNameAsVariable false

/-! ### Reader.Fixed -/
def wiI (n : Int) : Int := (fun m => bif ilt 0 m then m else 0) (bif ilt 8 n then 8 else n)
def fxF (t u : Nat) : FC := fun R xs k => match xs with
  | [x, n] => bif rdO x then k [.d t (rawX x (wiI n.int)), .d u (.i (numE (rawV x (wiI n.int)).els))] else none
  | _ => none
theorem fxF_nat (t u : Nat) : FC.nat (fxF t u) := by
  intro R xs k
  unfold fxF
  split
  · rename_i x n; cases rdO x <;> rfl
  · rfl
def fxG {R : Type} (t u : Nat) (x : V) (n : Int) (k : List Rs → Option R) : Option R :=
  bif rdO x then bif Nat.ble (rawV x (wiI n)).els.length 8 then k [.d t (rawX x (wiI n)), .d u (.i (numE (rawV x (wiI n)).els))] else none else none
theorem wiI_in (n : Int) : 0 ≤ wiI n ∧ wiI n ≤ 8 := by
  unfold wiI
  simp only
  cases h1 : ilt 8 n
  · have := not_ilt h1
    simp only [cond_false]
    cases h2 : ilt 0 n
    · simp
    · have := ilt_iff.1 h2; simp only [cond_true]; omega
  · simp only [cond_true]
    cases h2 : ilt 0 8
    · simp
    · simp
theorem raw_short {x : V} {n : Int} : ((rawV x n).els.length : Int) ≤ max n 0 := by
  unfold rawV
  cases (!ieq (rdE x) 0)
  · cases h : ilt n 1
    · cases ilt ((rdL x).length : Nat) n
      · have h := not_ilt h
        have := sub_len2 (rdL x) (lo := (0 : Nat)) (hi := n) (by omega)
        simp only [cond_false]
        show (((sub (rdL x) (0 : Nat) n)).length : Int) ≤ _
        omega
      · exact Int.le_max_right ..
    · exact Int.le_max_right ..
  · exact Int.le_max_right ..
theorem fx_law (t u : Nat) {x : V} {n : Int} {rs : List Rs} (h : fxF t u (List Rs) [x, .i n] some = some rs) : fxG t u x n some = some rs := by
  unfold fxF at h
  simp only at h
  unfold fxG
  have := wiI_in n
  have := raw_short (x := x) (n := wiI n)
  rw [show Nat.ble (rawV x (wiI n)).els.length 8 = true from Nat.ble_eq_true_of_le (by omega)]
  exact h

/-! ### Reader.Count -/
def ctX (x : V) (most : Int) : V := bif !ieq (rdE x) 0 then x else .l [bif isN x then .n else .l (sub (rdL x) (pkX x most).2.1 ((rdL x).length : Nat)), .i (pkX x most).2.2]
where isN (x : V) : Bool := match x.nth 0 with | .n => true | _ => false
def ctV (x : V) (most : Int) : Int := bif !ieq (rdE x) 0 then 0 else (pkX x most).1
def ctF (t u : Nat) : FC := fun R xs k => match xs with
  | [x, m] => bif rdO x then k [.d t (ctX x m.int), .d u (.i (ctV x m.int))] else none
  | _ => none
theorem ctF_nat (t u : Nat) : FC.nat (ctF t u) := by
  intro R xs k
  unfold ctF
  split
  · rename_i x m; cases rdO x <;> rfl
  · rfl
def ctG {R : Type} (t u : Nat) (xs : List V) (err most : Int) (k : List Rs → Option R) : Option R :=
  bif !ieq err 0 then k [.d t (.l [.l xs, .i err]), .d u (.i 0)] else
  bif rdO (.l [.l xs, .i err]) then
    bnds (pkX (.l [.l xs, .i err]) most).2.1 (xs.length : Nat) xs.length <|
    k [.d t (.l [.l (sub xs (pkX (.l [.l xs, .i err]) most).2.1 (xs.length : Nat)), .i (pkX (.l [.l xs, .i err]) most).2.2]), .d u (.i (pkX (.l [.l xs, .i err]) most).1)] else none
def ctN {R : Type} (t u : Nat) (err : Int) (k : List Rs → Option R) : Option R :=
  bif !ieq err 0 then k [.d t (.l [.n, .i err]), .d u (.i 0)] else
  bif rdO (.l [.n, .i err]) then k [.d t (.l [.n, .i 61]), .d u (.i 0)] else none
theorem pk_used {x : V} {most : Int} : 0 ≤ (pkX x most).2.1 ∧ (pkX x most).2.1 ≤ ((rdL x).length : Nat) := by
  have ha : ∀ n u : Int, 0 ≤ u → u ≤ ((rdL x).length : Nat) → 0 ≤ (pkA x most n u).2.1 ∧ (pkA x most n u).2.1 ≤ ((rdL x).length : Nat) := by
    intro n u h1 h2
    unfold pkA
    cases (!ieq ((cntL n).length : Nat) u) <;> cases ilt most n <;> simp only [cond_true, cond_false] <;> omega
  have hb : ∀ u : Int, 0 ≤ u → 0 ≤ (pkB x most u).2.1 ∧ (pkB x most u).2.1 ≤ ((rdL x).length : Nat) := by
    intro u h1
    unfold pkB
    cases h : ilt ((rdL x).length : Nat) u
    · have := not_ilt h
      exact ha _ _ h1 (by omega)
    · simp only [cond_true]; omega
  unfold pkX
  cases ieq ((rdL x).length : Nat) 0
  · cases ieq (hdI x) 253
    · cases ieq (hdI x) 254
      · cases ieq (hdI x) 255
        · cases h : ilt ((rdL x).length : Nat) 1
          · have := not_ilt h
            exact ha _ _ (by omega) (by omega)
          · simp only [cond_true, cond_false]; omega
        · exact hb 9 (by omega)
      · exact hb 5 (by omega)
    · exact hb 3 (by omega)
  · simp only [cond_true]; omega
theorem ct_law (t u : Nat) {xs : List V} {err most : Int} {rs : List Rs} (h : ctF t u (List Rs) [.l [.l xs, .i err], .i most] some = some rs) : ctG t u xs err most some = some rs := by
  unfold ctF at h
  simp only at h
  cases ho : rdO (.l [.l xs, .i err]) with
  | false => rw [ho] at h; cases h
  | true =>
  rw [ho] at h
  simp only [cond_true, Option.some.injEq] at h
  subst h
  have hu := pk_used (x := .l [.l xs, .i err]) (most := most)
  have e1 : rdL (.l [.l xs, .i err]) = xs := rfl
  rw [e1] at hu
  unfold ctG
  rw [ho]
  cases h1 : (!ieq err 0)
  · simp only [cond_false, cond_true]
    rw [bnds_in hu.1 hu.2 (by omega)]
    show _ = some [Rs.d t (ctX _ most), Rs.d u (.i (ctV _ most))]
    unfold ctX ctV
    rw [show rdE (.l [.l xs, .i err]) = err from rfl, h1]
    rfl
  · show _ = some [Rs.d t (ctX _ most), Rs.d u (.i (ctV _ most))]
    unfold ctX ctV
    rw [show rdE (.l [.l xs, .i err]) = err from rfl, h1]
    rfl
theorem ct_lawN (t u : Nat) {err most : Int} {rs : List Rs} (h : ctF t u (List Rs) [.l [.n, .i err], .i most] some = some rs) : ctN t u err some = some rs := by
  unfold ctF at h
  simp only at h
  have ho : rdO (.l [.n, .i err]) = true := rfl
  rw [ho] at h
  simp only [cond_true, Option.some.injEq] at h
  subst h
  unfold ctN
  rw [ho]
  show _ = some [Rs.d t (ctX _ most), Rs.d u (.i (ctV _ most))]
  unfold ctX ctV
  rw [show rdE (.l [.n, .i err]) = err from rfl]
  cases h1 : (!ieq err 0) <;> rfl
end Go.Vm

namespace Go.Vm
open Go.RowKit
variable {P : Program} {T : TT} {R : Type}
set_option linter.unusedVariables false
set_option linter.constructorNameAsVariable false

/-! ### Reader.Text -/
def mxI (n : Int) : Int := bif ilt n 0 then 0 else n
def txE {R : Type} (t s : Nat) (xs : List V) (err : Int) (p : Int × Int × Int) (e : Int) (k : List Rs → Option R) : Option R :=
  bif !ieq e 0 then k [.d t (.l [.l xs, .i e]), .d s .n] else
  bnds p.2.1 (xs.length : Nat) xs.length <| bif rdO (.l [.l (sub xs p.2.1 (xs.length : Nat)), .i err]) then k [.d t (rawX (.l [.l (sub xs p.2.1 (xs.length : Nat)), .i err]) (W64 p.1)), .d s (rawV (.l [.l (sub xs p.2.1 (xs.length : Nat)), .i err]) (W64 p.1))] else none
def txG {R : Type} (t s : Nat) (xs : List V) (err most : Int) (k : List Rs → Option R) : Option R :=
  bif !ieq err 0 then k [.d t (.l [.l xs, .i err]), .d s .n] else
  bif rdO (.l [.l xs, .i err]) then (fun p : Int × Int × Int =>
    bif ieq p.2.2 0 then ln xs.length <| bif ilt (WU (W64 ((xs.length : Nat) - p.2.1))) p.1 then txE t s xs err p 61 k else txE t s xs err p p.2.2 k else txE t s xs err p p.2.2 k) (pkX (.l [.l xs, .i err]) (WU (mxI most))) else none
def txN {R : Type} (t s : Nat) (err : Int) (k : List Rs → Option R) : Option R :=
  bif !ieq err 0 then k [.d t (.l [.n, .i err]), .d s .n] else
  bif rdO (.l [.n, .i err]) then k [.d t (.l [.n, .i 61]), .d s .n] else none
/-- What is left behind the count. -/
def txR (x : V) (p : Int × Int × Int) : V := .l [.l (sub (rdL x) p.2.1 ((rdL x).length : Nat)), .i (rdE x)]
def txP (x : V) (most : Int) : Int × Int × Int := pkX x (WU (mxI most))
/-- Why it is no text. -/
def txI (x : V) (p : Int × Int × Int) : Int := bif ieq p.2.2 0 then bif ilt (WU (W64 (((rdL x).length : Nat) - p.2.1))) p.1 then 61 else 0 else p.2.2
def txX (x : V) (most : Int) : V := bif !ieq (rdE x) 0 then x else bif !ieq (txI x (txP x most)) 0 then .l [x.nth 0, .i (txI x (txP x most))] else rawX (txR x (txP x most)) (W64 (txP x most).1)
def txV (x : V) (most : Int) : V := bif !ieq (rdE x) 0 then .n else bif !ieq (txI x (txP x most)) 0 then .n else rawV (txR x (txP x most)) (W64 (txP x most).1)
def txF (t s : Nat) : FC := fun R xs k => match xs with
  | [x, m] => bif rdO x then k [.d t (txX x m.int), .d s (txV x m.int)] else none
  | _ => none
theorem txF_nat (t s : Nat) : FC.nat (txF t s) := by
  intro R xs k
  unfold txF
  split
  · rename_i x m; cases rdO x <;> rfl
  · rfl
theorem tx_law (t s : Nat) {xs : List V} {err most : Int} {rs : List Rs} (h : txF t s (List Rs) [.l [.l xs, .i err], .i most] some = some rs) : txG t s xs err most some = some rs := by
  unfold txF at h
  simp only at h
  cases ho : rdO (.l [.l xs, .i err]) with
  | false => rw [ho] at h; cases h
  | true =>
  rw [ho] at h
  have hlen : xs.length ≤ 1073741824 := Nat.le_of_ble_eq_true ho
  simp only [cond_true, Option.some.injEq] at h
  subst h
  have hu := pk_used (x := .l [.l xs, .i err]) (most := WU (mxI most))
  have e1 : rdL (.l [.l xs, .i err]) = xs := rfl
  have e0 : rdE (.l [.l xs, .i err]) = err := rfl
  have e2 : (V.l [.l xs, .i err]).nth 0 = .l xs := rfl
  rw [e1] at hu
  unfold txG
  rw [ho]
  show _ = some [Rs.d t (txX _ most), Rs.d s (txV _ most)]
  unfold txX txV
  rw [e0, e2]
  cases h1 : (!ieq err 0)
  · simp only [cond_false, cond_true]
    rw [ln_in (by omega)]
    have hE : ∀ e, txE t s xs err (pkX (.l [.l xs, .i err]) (WU (mxI most))) e some = some [Rs.d t (bif !ieq e 0 then .l [.l xs, .i e] else rawX (txR (.l [.l xs, .i err]) (txP (.l [.l xs, .i err]) most)) (W64 (txP (.l [.l xs, .i err]) most).1)), Rs.d s (bif !ieq e 0 then .n else rawV (txR (.l [.l xs, .i err]) (txP (.l [.l xs, .i err]) most)) (W64 (txP (.l [.l xs, .i err]) most).1))] := by
      intro e
      unfold txE
      cases (!ieq e 0)
      · simp only [cond_false]
        rw [bnds_in hu.1 hu.2 (by omega)]
        have hs := sub_len xs (pkX (.l [.l xs, .i err]) (WU (mxI most))).2.1 (xs.length : Nat)
        have ho2 : rdO (.l [.l (sub xs (pkX (.l [.l xs, .i err]) (WU (mxI most))).2.1 (xs.length : Nat)), .i err]) = true := by
          show Nat.ble (sub xs _ _).length 1073741824 = true
          exact Nat.ble_eq_true_of_le (by omega)
        rw [ho2]
        rfl
      · rfl
    show (bif ieq (txP (.l [.l xs, .i err]) most).2.2 0 then bif ilt (WU (W64 ((xs.length : Nat) - (txP (.l [.l xs, .i err]) most).2.1))) (txP (.l [.l xs, .i err]) most).1 then txE t s xs err (txP (.l [.l xs, .i err]) most) 61 some else txE t s xs err (txP (.l [.l xs, .i err]) most) (txP (.l [.l xs, .i err]) most).2.2 some else txE t s xs err (txP (.l [.l xs, .i err]) most) (txP (.l [.l xs, .i err]) most).2.2 some) = _
    have hE' := fun e => hE e
    change ∀ e, txE t s xs err (txP (.l [.l xs, .i err]) most) e some = _ at hE'
    have hI : txI (.l [.l xs, .i err]) (txP (.l [.l xs, .i err]) most) = bif ieq (txP (.l [.l xs, .i err]) most).2.2 0 then bif ilt (WU (W64 ((xs.length : Nat) - (txP (.l [.l xs, .i err]) most).2.1))) (txP (.l [.l xs, .i err]) most).1 then 61 else 0 else (txP (.l [.l xs, .i err]) most).2.2 := rfl
    rw [hI, hE', hE']
    cases h2 : ieq (txP (.l [.l xs, .i err]) most).2.2 0
    · simp only [cond_false, h2]
    · have h2 := ieq_iff.1 h2
      cases ilt (WU (W64 ((xs.length : Nat) - (txP (.l [.l xs, .i err]) most).2.1))) (txP (.l [.l xs, .i err]) most).1
      · rw [h2]; rfl
      · rfl
  · rfl
theorem tx_lawN (t s : Nat) {err most : Int} {rs : List Rs} (h : txF t s (List Rs) [.l [.n, .i err], .i most] some = some rs) : txN t s err some = some rs := by
  unfold txF at h
  simp only at h
  have ho : rdO (.l [.n, .i err]) = true := rfl
  rw [ho] at h
  simp only [cond_true, Option.some.injEq] at h
  subst h
  unfold txN
  rw [ho]
  show _ = some [Rs.d t (txX _ most), Rs.d s (txV _ most)]
  unfold txX txV
  rw [show rdE (.l [.n, .i err]) = err from rfl]
  cases h1 : (!ieq err 0) <;> rfl
end Go.Vm

namespace Go.Vm
open Go.RowKit
variable {P : Program} {T : TT} {R : Type}
set_option linter.unusedVariables false
set_option linter.constructorNameAsVariable false

theorem pk_at {t u er it : Nat} {xs : List V} {err most : Int} {rs : List Rs} (h : pkF t u er it (List Rs) [.l [.l xs, .i err], .i most] some = some rs) : pkG (.l [.l xs, .i err]) xs most (fun p => some (pkR t u er it (.l [.l xs, .i err]) p)) = some rs := by
  unfold pkF at h
  simp only at h
  cases ho : rdO (.l [.l xs, .i err]) with
  | false => rw [ho] at h; cases h
  | true =>
  rw [ho] at h
  have hl : xs.length ≤ LIM := Nat.le_of_ble_eq_true ho
  rw [pk_law hl]
  exact h
theorem pk_atN {t u er it : Nat} {err most : Int} {rs : List Rs} (h : pkF t u er it (List Rs) [.l [.n, .i err], .i most] some = some rs) : some (pkR t u er it (.l [.n, .i err]) (0, 0, 61)) = some rs := h
theorem cnt_at {s : Nat} {n : Int} {rs : List Rs} (h : cntF s (List Rs) [.n, .i n] some = some rs) : cntG s n some = some rs := by
  rw [cnt_law]; exact h
end Go.Vm

namespace Go.Vm
open Go.RowKit
variable {P : Program} {T : TT} {R : Type}
set_option linter.unusedVariables false
set_option linter.constructorNameAsVariable false

/-! ### What a reader has behind a reading -/
theorem rawX_ok {x : V} {n : Int} (h : rdO x = true) : rdO (rawX x n) = true := by
  unfold rawX
  cases (!ieq (rdE x) 0)
  · cases h1 : ilt n 1
    · cases ilt ((rdL x).length : Nat) n
      · have hl : (rdL x).length ≤ LIM := Nat.le_of_ble_eq_true h
        have := sub_len (rdL x) n ((rdL x).length : Nat)
        exact Nat.ble_eq_true_of_le (n := (sub (rdL x) n ((rdL x).length : Nat)).length) (Nat.le_trans this hl)
      · exact h
    · exact h
  · exact h
/-- Is all right behind it, then it was, and the bytes were there. -/
theorem rawX_err {x : V} {n : Int} (hn : 1 ≤ n) (h : ieq (rdE (rawX x n)) 0 = true) : ieq (rdE x) 0 = true ∧ (rawV x n).els.length = n.toNat := by
  have h1 : ilt n 1 = false := by simp [ilt]; omega
  unfold rawX at h
  unfold rawV
  cases h0 : ieq (rdE x) 0
  · rw [h0] at h
    exact absurd h (by rw [show (bif !false then x else _) = x from rfl, h0]; simp)
  · rw [h0] at h
    simp only [h1, Bool.not_true, cond_false] at h ⊢
    cases h2 : ilt ((rdL x).length : Nat) n
    · have h2 := not_ilt h2
      refine ⟨trivial, ?_⟩
      show (sub (rdL x) (0 : Nat) n).length = _
      unfold sub
      simp
      omega
    · rw [h2] at h
      exact absurd (show ieq 61 0 = true from h) (by decide)
/-! ### coin.RefRead -/
def rrE (x : V) : V := rawX (rawX x 32) (wiI 4)
def rrV (x : V) : V := bif !ieq (rdE (rrE x)) 0 then .l [.l (List.replicate 32 (.i 0)), .i 0] else .l [.l ((rawV x 32).els.take 32), .i (IntKind.wrap .u32 (numE (rawV (rawX x 32) (wiI 4)).els))]
def rrF (t ref : Nat) : FC := fun R xs k => match xs with
  | [x] => bif rdO x then k [.d t (rrE x), .d ref (rrV x)] else none
  | _ => none
theorem rrF_nat (t ref : Nat) : FC.nat (rrF t ref) := by
  intro R xs k
  unfold rrF
  split
  · rename_i x; cases rdO x <;> rfl
  · rfl
def rrG {R : Type} (t ref : Nat) (x : V) (k : List Rs → Option R) : Option R :=
  bif rdO x then bif rdO (rawX x 32) then
    bif !ieq (rdE (rawX (rawX x 32) (wiI 4))) 0 then k [.d t (rawX (rawX x 32) (wiI 4)), .d ref (.l [.l (List.replicate 32 (.i 0)), .i 0])] else
    bif Nat.ble 32 (rawV x 32).els.length then k [.d t (rawX (rawX x 32) (wiI 4)), .d ref (.l [.l ((rawV x 32).els.take 32), .i (IntKind.wrap .u32 (numE (rawV (rawX x 32) (wiI 4)).els))])] else none else none else none
theorem rr_law (t ref : Nat) {x : V} {rs : List Rs} (h : rrF t ref (List Rs) [x] some = some rs) : rrG t ref x some = some rs := by
  unfold rrF at h
  simp only at h
  cases ho : rdO x with
  | false => rw [ho] at h; cases h
  | true =>
  rw [ho] at h
  simp only [cond_true, Option.some.injEq] at h
  subst h
  unfold rrG rrE rrV rrE
  rw [ho, rawX_ok ho]
  cases h1 : ieq (rdE (rawX (rawX x 32) (wiI 4))) 0
  · simp only [Bool.not_false, cond_true]
  · have h2 := rawX_err (by decide) h1
    have h3 := rawX_err (by decide) h2.1
    rw [h3.2]
    simp only [Bool.not_true, cond_true, cond_false]
    rfl
end Go.Vm

namespace Go.Vm
open Go.RowKit
variable {P : Program} {T : TT}
set_option linter.unusedVariables false
set_option linter.constructorNameAsVariable false

/-! ### ledger.EntriesParse -/
def epH (y : V) : Int := IntKind.wrap .i64 (numE (rawV (txX y 200) (wiI 8)).els)
def epY (y : V) : V := rrE (rawX (txX y 200) (wiI 8))
def epV (nm : List V) (y : V) : V := .l [.s nm, .s (txV y 200).els, .i (epH y), rrV (rawX (txX y 200) (wiI 8))]
def epR {R : Type} (nm : List V) (y : V) (n : Int) (xs : List V) (K : V → V → Option R) (kr : V → Option R) : Option R :=
  bif rdO y then bif rdO (txX y 200) then bif rdO (rawX (txX y 200) (wiI 8)) then
    bif ilt (epH y) 0 then kr (epY y) else bif ilt 1000000000 (epH y) then kr (epY y) else lim (xs.length + 1) <| K (epY y) (epV nm y) else none else none else none
inductive PEp where
  | m0 (nm : List V) (y : V) (n : Int)
  | m1 (nm : List V) (y : V) (xs : List V) (n : Int)
inductive QEp where
  | o0 (nm : List V) (y : V) (n : Int)
  | o1 (nm : List V) (y : V) (xs : List V) (n : Int)
  | r0 (nm : List V) (y : V) (n : Int)
  | r1 (nm : List V) (y : V) (xs : List V) (n : Int)
def BEp (R : Type) (p : PEp) (K : PEp → Option R) (kx : QEp → Option R) : Option R :=
  match p with
  | .m0 nm y n =>
    bif ilt 0 n then bif ieq (rdE y) 0 then epR nm y n [] (fun y' e => K (.m1 nm y' [e] (WU (n - 1)))) (fun y' => kx (.r0 nm y' n)) else kx (.o0 nm y n) else kx (.o0 nm y n)
  | .m1 nm y xs n =>
    bif ilt 0 n then bif ieq (rdE y) 0 then epR nm y n xs (fun y' e => K (.m1 nm y' (xs ++ [e]) (WU (n - 1)))) (fun y' => kx (.r1 nm y' xs n)) else kx (.o1 nm y xs n) else kx (.o1 nm y xs n)
def epE {R : Type} (t er : Nat) (y : V) (v : V) (k : List Rs → Option R) : Option R :=
  bif !ieq (rdE y) 0 then k [.d t .n, .d er (.i 62)] else ln (rdL y).length <| bif ilt 0 ((rdL y).length : Nat) then k [.d t .n, .d er (.i 62)] else k [.d t v, .d er (.i 0)]
def epK {R : Type} (t er : Nat) (k : List Rs → Option R) : QEp → Option R
  | .o0 nm y n => epE t er y .n k
  | .o1 nm y xs n => epE t er y (.l xs) k
  | .r0 nm y n => k [.d t .n, .d er (.i 62)]
  | .r1 nm y xs n => k [.d t .n, .d er (.i 62)]
noncomputable def epB {R : Type} (t er : Nat) (nm : List V) (x : V) (k : List Rs → Option R) : Option R :=
  bif rdO x then lpC (BEp R) (hid FU) (.m0 nm (ctX x 100000) (ctV x 100000)) (epK t er k) else none
noncomputable def epG {R : Type} (bs : List V) (t er : Nat) (nm : List V) (k : List Rs → Option R) : Option R := lim (0 + bs.length) <| epB t er nm (.l [.l bs, .i 0]) k
noncomputable def epN {R : Type} (t er : Nat) (nm : List V) (k : List Rs → Option R) : Option R := epB t er nm (.l [.n, .i 0]) k

/-- So many entries at most, behind others: is one bad, what is left, all. -/
def epS (nm : List V) : Nat → V → List V → Bool × V × List V
  | 0, y, xs => (false, y, xs)
  | m + 1, y, xs => bif ieq (rdE y) 0 then bif ilt (epH y) 0 || ilt 1000000000 (epH y) then (true, epY y, xs) else epS nm m (epY y) (xs ++ [epV nm y]) else (false, y, xs)
def epOk (p : Bool × V × List V) : Bool := !p.1 && (ieq (rdE p.2.1) 0 && !ilt 0 ((rdL p.2.1).length : Nat))
def lV : List V → V
  | [] => .n
  | a :: r => .l (a :: r)
def epO (t er : Nat) (p : Bool × V × List V) : List Rs := [.d t (bif epOk p then lV p.2.2 else .n), .d er (.i (bif epOk p then 0 else 62))]
theorem lV_ne {xs : List V} (h : xs ≠ []) : lV xs = .l xs := by
  cases xs with
  | nil => exact absurd rfl h
  | cons a r => rfl
theorem txX_ok {x : V} {m : Int} (h : rdO x = true) : rdO (txX x m) = true := by
  have hr : ∀ p, rdO (txR x p) = true := by
    intro p
    have hl : (rdL x).length ≤ LIM := Nat.le_of_ble_eq_true h
    have := sub_len (rdL x) p.2.1 ((rdL x).length : Nat)
    exact Nat.ble_eq_true_of_le (n := (sub (rdL x) p.2.1 ((rdL x).length : Nat)).length) (Nat.le_trans this hl)
  unfold txX
  cases (!ieq (rdE x) 0)
  · cases (!ieq (txI x (txP x m)) 0)
    · exact rawX_ok (hr _)
    · exact h
  · exact h
theorem epY_ok {y : V} (h : rdO y = true) : rdO (epY y) = true := rawX_ok (rawX_ok (rawX_ok (txX_ok h)))
variable {R : Type}
theorem epE_law {t er : Nat} {y : V} {xs : List V} {k : List Rs → Option R} (h : rdO y = true) : epE t er y (lV xs) k = k (epO t er (false, y, xs)) := by
  have hl : (rdL y).length ≤ 1073741824 := Nat.le_of_ble_eq_true h
  unfold epE epO epOk
  rw [ln_in (by omega)]
  cases ieq (rdE y) 0
  · rfl
  · cases ilt 0 ((rdL y).length : Nat) <;> rfl
theorem ep_m1 {t er : Nat} {nm : List V} {k : List Rs → Option R} : ∀ (m fuel : Nat) (y : V) (xs : List V), m < fuel → m < 2 ^ 63 → rdO y = true → xs.length + m ≤ LIM → xs ≠ [] → lpC (BEp R) fuel (.m1 nm y xs (m : Int)) (epK t er k) = k (epO t er (epS nm m y xs)) := by
  intro m
  induction m with
  | zero =>
    intro fuel y xs h1 h2 h3 h4 h5
    obtain ⟨f, rfl⟩ : ∃ f, fuel = f + 1 := ⟨fuel - 1, by omega⟩
    show epE t er y (.l xs) k = _
    rw [← lV_ne h5]
    exact epE_law h3
  | succ m ih =>
    intro fuel y xs h1 h2 h3 h4 h5
    obtain ⟨f, rfl⟩ : ∃ f, fuel = f + 1 := ⟨fuel - 1, by omega⟩
    show (bif ilt 0 ((m + 1 : Nat) : Int) then bif ieq (rdE y) 0 then epR nm y ((m + 1 : Nat) : Int) xs (fun y' e => lpC (BEp R) f (.m1 nm y' (xs ++ [e]) (WU (((m + 1 : Nat) : Int) - 1))) (epK t er k)) (fun y' => epK t er k (.r1 nm y' xs ((m + 1 : Nat) : Int))) else epE t er y (.l xs) k else epE t er y (.l xs) k) = _
    have h0 : ilt 0 ((m + 1 : Nat) : Int) = true := ilt_iff.2 (by omega)
    rw [h0]
    unfold epS
    cases h6 : ieq (rdE y) 0
    · simp only [cond_true, cond_false]
      rw [← lV_ne h5]
      exact epE_law h3
    · simp only [cond_true]
      unfold epR
      rw [h3, txX_ok h3, rawX_ok (txX_ok h3)]
      simp only [cond_true]
      cases h7 : ilt (epH y) 0
      · cases h8 : ilt 1000000000 (epH y)
        · have hl : xs.length + (m + 1) ≤ 1073741824 := h4
          simp only [cond_false, Bool.or_false]
          rw [lim_in (by omega)]
          have hw : WU (((m + 1 : Nat) : Int) - 1) = (m : Int) := by
            rw [show (((m + 1 : Nat) : Int) - 1) = ((m : Nat) : Int) by omega]
            exact wu64_lt (by omega)
          rw [hw]
          exact ih f (epY y) (xs ++ [epV nm y]) (by omega) (by omega) (epY_ok h3) (by rw [List.length_append]; show xs.length + 1 + m ≤ 1073741824; omega) (by simp)
        · rfl
      · rfl
theorem ep_m0 {t er : Nat} {nm : List V} {k : List Rs → Option R} (m fuel : Nat) (y : V) (h1 : m < fuel) (h2 : m < 2 ^ 63) (h3 : rdO y = true) (h4 : m ≤ LIM) : lpC (BEp R) fuel (.m0 nm y (m : Int)) (epK t er k) = k (epO t er (epS nm m y [])) := by
  obtain ⟨f, rfl⟩ : ∃ f, fuel = f + 1 := ⟨fuel - 1, by omega⟩
  cases m with
  | zero =>
    show epE t er y (lV []) k = _
    exact epE_law h3
  | succ m =>
    show (bif ilt 0 ((m + 1 : Nat) : Int) then bif ieq (rdE y) 0 then epR nm y ((m + 1 : Nat) : Int) [] (fun y' e => lpC (BEp R) f (.m1 nm y' [e] (WU (((m + 1 : Nat) : Int) - 1))) (epK t er k)) (fun y' => epK t er k (.r0 nm y' ((m + 1 : Nat) : Int))) else epE t er y (lV []) k else epE t er y (lV []) k) = _
    have h0 : ilt 0 ((m + 1 : Nat) : Int) = true := ilt_iff.2 (by omega)
    rw [h0]
    unfold epS
    cases h6 : ieq (rdE y) 0
    · simp only [cond_true, cond_false]
      exact epE_law h3
    · simp only [cond_true]
      unfold epR
      rw [h3, txX_ok h3, rawX_ok (txX_ok h3)]
      simp only [cond_true]
      cases h7 : ilt (epH y) 0
      · cases h8 : ilt 1000000000 (epH y)
        · have hl : m + 1 ≤ 1073741824 := h4
          simp only [cond_false, Bool.or_false]
          rw [lim_in (by simp)]
          have hw : WU (((m + 1 : Nat) : Int) - 1) = (m : Int) := by
            rw [show (((m + 1 : Nat) : Int) - 1) = ((m : Nat) : Int) by omega]
            exact wu64_lt (by omega)
          rw [hw]
          exact ep_m1 m f (epY y) [epV nm y] (by omega) (by omega) (epY_ok h3) (by show 1 + m ≤ 1073741824; omega) (by simp)
        · rfl
      · rfl
theorem wrap_u64 (n : Int) : 0 ≤ IntKind.wrap .u64 n := by
  unfold IntKind.wrap
  simp [IntKind.bits, IntKind.signed]
  omega
theorem numE_nn (l : List V) : 0 ≤ numE l := by
  cases l with
  | nil => exact Int.le_refl 0
  | cons a r => exact wrap_u64 _
theorem pkA_in {x : V} {most n u : Int} (hm : 0 ≤ most) (hn : 0 ≤ n) : 0 ≤ (pkA x most n u).1 ∧ (pkA x most n u).1 ≤ most := by
  unfold pkA
  cases (!ieq ((cntL n).length : Nat) u)
  · cases h : ilt most n
    · have := not_ilt h
      simp only [cond_false]; omega
    · simp only [cond_true, cond_false]; omega
  · simp only [cond_true]; omega
theorem pkX_in {x : V} {most : Int} (hm : 0 ≤ most) : 0 ≤ (pkX x most).1 ∧ (pkX x most).1 ≤ most := by
  have hb : ∀ u, 0 ≤ (pkB x most u).1 ∧ (pkB x most u).1 ≤ most := by
    intro u
    unfold pkB
    cases ilt ((rdL x).length : Nat) u
    · exact pkA_in (x := x) hm (numE_nn _)
    · simp only [cond_true]; omega
  unfold pkX
  cases ieq ((rdL x).length : Nat) 0
  · cases ieq (hdI x) 253
    · cases ieq (hdI x) 254
      · cases ieq (hdI x) 255
        · cases ilt ((rdL x).length : Nat) 1
          · exact pkA_in (x := x) hm (wrap_u64 _)
          · simp only [cond_true, cond_false]; omega
        · exact hb 9
      · exact hb 5
    · exact hb 3
  · simp only [cond_true]; omega
theorem ctV_in {x : V} {most : Int} (hm : 0 ≤ most) : 0 ≤ ctV x most ∧ ctV x most ≤ most := by
  unfold ctV
  cases (!ieq (rdE x) 0)
  · exact pkX_in hm
  · simp only [cond_true]; omega
theorem ctX_ok {x : V} {m : Int} (h : rdO x = true) : rdO (ctX x m) = true := by
  unfold ctX
  cases (!ieq (rdE x) 0)
  · cases ctX.isN x
    · have hl : (rdL x).length ≤ LIM := Nat.le_of_ble_eq_true h
      have := sub_len (rdL x) (pkX x m).2.1 ((rdL x).length : Nat)
      exact Nat.ble_eq_true_of_le (n := (sub (rdL x) (pkX x m).2.1 ((rdL x).length : Nat)).length) (Nat.le_trans this hl)
    · rfl
  · exact h
/-- All of it: the entries of bytes. -/
def epX (nm : List V) (b : V) : Bool × V × List V := epS nm (ctV (.l [b, .i 0]) 100000).toNat (ctX (.l [b, .i 0]) 100000) []
def epF (t er : Nat) : FC := fun R xs k => match xs with
  | [nm, b] => bif Nat.ble b.els.length LIM then k (epO t er (epX nm.els b)) else none
  | _ => none
theorem epF_nat (t er : Nat) : FC.nat (epF t er) := by
  intro R xs k
  unfold epF
  split
  · rename_i nm b; cases Nat.ble b.els.length LIM <;> rfl
  · rfl
theorem epB_law {t er : Nat} {nm : List V} {b : V} {k : List Rs → Option R} (h : Nat.ble b.els.length LIM = true) : epB t er nm (.l [b, .i 0]) k = k (epO t er (epX nm b)) := by
  have ho : rdO (.l [b, .i 0]) = true := h
  have hv := ctV_in (x := .l [b, .i 0]) (most := 100000) (by omega)
  obtain ⟨m, hm⟩ : ∃ m : Nat, ctV (.l [b, .i 0]) 100000 = (m : Int) := ⟨(ctV (.l [b, .i 0]) 100000).toNat, by omega⟩
  unfold epB epX
  rw [ho, hm]
  simp only [cond_true, Int.toNat_natCast]
  have hf := fq_le2
  exact ep_m0 m _ _ (by omega) (by omega) (ctX_ok ho) (by show m ≤ 1073741824; omega)
where fq_le2 : 200000 ≤ hid FU := by rw [hid_eq]; decide
end Go.Vm

namespace Go.Vm
open Go.RowKit
variable {P : Program} {T : TT} {R : Type}
set_option linter.unusedVariables false
set_option linter.constructorNameAsVariable false

/-- A text. -/
theorem tv_str {t : Nat} {x : V} {e : Env} {cs : List Value} (ht : kOf T t = some .str) (h : RV T e [t] [x] cs) : ∃ l, x = .s l := by
  cases h with
  | str g1 => exact ⟨_, rfl⟩
  | int g1 => rw [ht] at g1; cases g1
  | bool g1 => rw [ht] at g1; cases g1
  | ptr g1 => rw [ht] at g1; cases g1
  | nils g1 => rw [ht] at g1; cases g1
  | map g1 => rw [ht] at g1; cases g1
  | func g1 => rw [ht] at g1; cases g1
  | fn g1 => rw [ht] at g1; cases g1
  | slice g1 => rw [ht] at g1; cases g1
  | arr g1 => rw [ht] at g1; cases g1
  | struct g1 => rw [ht] at g1; cases g1
/-- The same, its answers apart. -/
def epF2 (t er : Nat) : FC := fun R xs k => match xs with
  | [nm, b] => bif Nat.ble b.els.length LIM then
      (bif epOk (epX nm.els b) then (match (epX nm.els b).2.2.isEmpty with
        | true => k [.d t .n, .d er (.i 0)]
        | false => k [.d t (.l (epX nm.els b).2.2), .d er (.i 0)]) else k [.d t .n, .d er (.i 62)]) else none
  | _ => none
theorem epF2_nat (t er : Nat) : FC.nat (epF2 t er) := by
  intro R xs k
  unfold epF2
  split
  · rename_i nm b
    cases Nat.ble b.els.length LIM
    · rfl
    · simp only [cond_true]
      cases epOk (epX nm.els b)
      · rfl
      · simp only [cond_true]
        cases (epX nm.els b).2.2.isEmpty <;> rfl
  · rfl
theorem epF2_at {t er : Nat} {xs : List V} {rs : List Rs} (h : epF2 t er (List Rs) xs some = some rs) : epF t er (List Rs) xs some = some rs := by
  unfold epF2 at h
  unfold epF
  split at h
  · rename_i nm b
    try simp only
    cases ho : Nat.ble b.els.length LIM with
    | false => rw [ho] at h; cases h
    | true =>
      rw [ho] at h
      simp only [cond_true] at h ⊢
      unfold epO
      cases hp : epOk (epX nm.els b) with
      | false => rw [hp] at h; exact h
      | true =>
        rw [hp] at h
        simp only [cond_true] at h ⊢
        cases hq : (epX nm.els b).2.2 with
        | nil => rw [hq] at h; exact h
        | cons y r => rw [hq] at h; exact h
  · cases h
theorem ep_law {t er : Nat} {nm bs : List V} {rs : List Rs} (h : epF t er (List Rs) [.s nm, .l bs] some = some rs) : epG bs t er nm some = some rs := by
  unfold epF at h
  simp only at h
  cases ho : Nat.ble (V.l bs).els.length LIM with
  | false => rw [ho] at h; cases h
  | true =>
  rw [ho] at h
  have hl : bs.length ≤ 1073741824 := Nat.le_of_ble_eq_true ho
  unfold epG
  rw [lim_in (by omega), epB_law ho]
  exact h
theorem ep_lawN {t er : Nat} {nm : List V} {rs : List Rs} (h : epF t er (List Rs) [.s nm, .n] some = some rs) : epN t er nm some = some rs := by
  unfold epF at h
  simp only at h
  have ho : Nat.ble (V.n).els.length LIM = true := rfl
  rw [ho] at h
  unfold epN
  rw [epB_law ho]
  exact h
end Go.Vm

namespace Go.Vm
open Go.RowKit
variable {P : Program} {T : TT} {R : Type}
set_option linter.unusedVariables false
set_option linter.constructorNameAsVariable false

/-! ### Numbers and texts put behind bytes -/
def pFix {R : Type} : Nat → Int → List V → (List V → Option R) → Option R
  | 0, n, xs, k => k xs
  | m + 1, n, xs, k => lim (xs.length + 1) <| pFix m (n.fdiv (2 ^ 8)) (xs ++ [.i (IntKind.wrap .u8 n)]) k
theorem pFix_law : ∀ (m : Nat) (n : Int) (xs : List V) (k : List V → Option R), xs.length + m ≤ LIM → pFix m n xs k = k (xs ++ leV m n) := by
  intro m
  induction m with
  | zero => intro n xs k h; simp [pFix, leV]
  | succ m ih =>
    intro n xs k h
    have h : xs.length + (m + 1) ≤ 1073741824 := h
    unfold pFix leV
    rw [lim_in (by omega), ih _ _ _ (by rw [List.length_append]; show xs.length + 1 + m ≤ 1073741824; omega)]
    simp
end Go.Vm

namespace Go.Vm
open Go.RowKit
variable {P : Program} {T : TT} {R : Type}
set_option linter.unusedVariables false
set_option linter.constructorNameAsVariable false

/-! ### What data of a type look like -/
inductive D where
  | int (k : IntKind) | bool | str | slice (d : D) | arr (n : Nat) (d : D) | struct (ds : List D)
mutual
def D.has : D → V → Prop
  | .int k, x => ∃ n, x = .i n ∧ inR k n
  | .bool, x => ∃ b, x = .b b
  | .str, x => ∃ ns : List Nat, x = .s (ns.map nv) ∧ ∀ a ∈ ns, a < 256
  | .slice d, x => x = .n ∨ ∃ ys, x = .l ys ∧ ∀ y ∈ ys, D.has d y
  | .arr n d, x => ∃ ys, x = .l ys ∧ ys.length = n ∧ ∀ y ∈ ys, D.has d y
  | .struct ds, x => ∃ ys, x = .l ys ∧ D.hasL ds ys
def D.hasL : List D → List V → Prop
  | [], [] => True
  | d :: ds, x :: xs => D.has d x ∧ D.hasL ds xs
  | _, _ => False
end
mutual
def descT (T : TT) : Nat → Nat → Option D
  | 0, _ => none
  | n + 1, t => match kOf T t with
    | some (.int k) => some (.int k)
    | some .bool => some .bool
    | some .str => some .str
    | some (.slice el) => match descT T n el with
      | some d => some (.slice d)
      | none => none
    | some (.arr m el) => match descT T n el with
      | some d => some (.arr m d)
      | none => none
    | some (.struct fs) => match descL T n fs with
      | some ds => some (.struct ds)
      | none => none
    | _ => none
def descL (T : TT) : Nat → List Nat → Option (List D)
  | _, [] => some []
  | 0, _ :: _ => none
  | n + 1, t :: ts => match descT T n t with
    | some d => match descL T n ts with
      | some ds => some (d :: ds)
      | none => none
    | none => none
end
theorem rv_cons {e : Env} {t : Nat} {ts : List Nat} {xs : List V} {cs : List Value} (h : RV T e (t :: ts) xs cs) : ∃ x r c1 c2, xs = x :: r ∧ RV T e [t] [x] c1 ∧ RV T e ts r c2 := by
  obtain ⟨as, bs, c1, c2, rfl, rfl, h1, h2⟩ := RV.split [t] (ts' := ts) h
  obtain ⟨a, rfl⟩ := List.length_eq_one_iff.1 h1.length.2
  exact ⟨a, bs, c1, c2, rfl, h1, h2⟩
theorem rv_rep {e : Env} {el : Nat} {p : V → Prop} (hp : ∀ x cs, RV T e [el] [x] cs → p x) : ∀ {n : Nat} {xs : List V} {cs : List Value}, RV T e (List.replicate n el) xs cs → ∀ x ∈ xs, p x := by
  intro n
  induction n with
  | zero => intro xs cs h x hx; cases h; cases hx
  | succ n ih =>
    intro xs cs h x hx
    rw [List.replicate_succ] at h
    obtain ⟨y, r, c1, c2, rfl, h1, h2⟩ := rv_cons h
    rcases List.mem_cons.1 hx with rfl | hx
    · exact hp _ _ h1
    · exact ih h2 x hx
theorem desc_has : ∀ (n : Nat) {e : Env}, (∀ (t : Nat) (d : D), descT T n t = some d → ∀ x cs, RV T e [t] [x] cs → d.has x) ∧ (∀ (ts : List Nat) (ds : List D), descL T n ts = some ds → ∀ xs cs, RV T e ts xs cs → D.hasL ds xs) := by
  intro n
  induction n with
  | zero =>
    intro e
    refine ⟨fun t d h => (by rw [descT] at h; cases h), fun ts ds h xs cs hx => ?_⟩
    cases ts with
    | nil => rw [descL] at h; cases h; cases hx; trivial
    | cons t ts => rw [descL] at h; cases h
  | succ n ih =>
    intro e
    refine ⟨fun t d h x cs hx => ?_, fun ts ds h xs cs hx => ?_⟩
    · rw [descT] at h
      split at h
      · rename_i k hk; cases h; obtain ⟨m, rfl, _, hr⟩ := hx.int_inv hk; exact ⟨m, rfl, hr⟩
      · rename_i hk; cases h
        cases hx with
        | bool _ _ _ => exact ⟨_, rfl⟩
        | int g1 => rw [hk] at g1; cases g1
        | str g1 => rw [hk] at g1; cases g1
        | ptr g1 => rw [hk] at g1; cases g1
        | nils g1 => rw [hk] at g1; cases g1
        | map g1 => rw [hk] at g1; cases g1
        | func g1 => rw [hk] at g1; cases g1
        | fn g1 => rw [hk] at g1; cases g1
        | slice g1 => rw [hk] at g1; cases g1
        | arr g1 => rw [hk] at g1; cases g1
        | struct g1 => rw [hk] at g1; cases g1
      · rename_i hk; cases h
        cases hx with
        | @str _ s _ _ _ _ _ _ =>
          refine ⟨s.data.toList.map fun b => b.toNat, ?_, fun a ha => ?_⟩
          · unfold txt; rw [List.map_map]; rfl
          · obtain ⟨b, _, rfl⟩ := List.mem_map.1 ha; exact b.toNat_lt
        | int g1 => rw [hk] at g1; cases g1
        | bool g1 => rw [hk] at g1; cases g1
        | ptr g1 => rw [hk] at g1; cases g1
        | nils g1 => rw [hk] at g1; cases g1
        | map g1 => rw [hk] at g1; cases g1
        | func g1 => rw [hk] at g1; cases g1
        | fn g1 => rw [hk] at g1; cases g1
        | slice g1 => rw [hk] at g1; cases g1
        | arr g1 => rw [hk] at g1; cases g1
        | struct g1 => rw [hk] at g1; cases g1
      · rename_i el hk
        split at h <;> cases h
        rename_i d hd
        rcases hx.slice_inv hk with ⟨rfl, _⟩ | ⟨ys, ds, a, cap, rfl, _, _, _, g⟩
        · exact .inl rfl
        · exact .inr ⟨ys, rfl, rv_rep (fun x cs hx => (ih (e := e)).1 el d hd x cs hx) g⟩
      · rename_i m el hk
        split at h <;> cases h
        rename_i d hd
        obtain ⟨ys, rfl, hl, g⟩ := hx.arr_inv hk
        exact ⟨ys, rfl, hl, rv_rep (fun x cs hx => (ih (e := e)).1 el d hd x cs hx) g⟩
      · rename_i fs hk
        split at h <;> cases h
        rename_i ds hd
        obtain ⟨ys, rfl, g⟩ := hx.struct_inv hk
        exact ⟨ys, rfl, (ih (e := e)).2 fs ds hd _ _ g⟩
      · cases h
    · cases ts with
      | nil => rw [descL] at h; cases h; cases hx; trivial
      | cons t ts =>
        rw [descL] at h
        split at h <;> try (cases h; done)
        rename_i d hd
        split at h <;> cases h
        rename_i ds hds
        obtain ⟨x, r, c1, c2, rfl, h1, h2⟩ := rv_cons hx
        exact ⟨(ih (e := e)).1 t d hd _ _ h1, (ih (e := e)).2 ts ds hds _ _ h2⟩
theorem TV.has : ∀ {ts : List Nat} {xs : List V} (n : Nat) {ds : List D}, TV T ts xs → descL T n ts = some ds → D.hasL ds xs := by
  intro ts
  induction ts with
  | nil =>
    intro xs n ds h hd
    have := h.len
    cases xs with
    | nil => cases n <;> (rw [descL] at hd; cases hd; trivial)
    | cons _ _ => cases this
  | cons t ts ih =>
    intro xs n ds h hd
    cases n with
    | zero => rw [descL] at hd; cases hd
    | succ n =>
      rw [descL] at hd
      split at hd <;> try (cases hd; done)
      rename_i d hd1
      split at hd <;> cases hd
      rename_i ds hd2
      cases xs with
      | nil => have := h.len; cases this
      | cons x xs =>
        obtain ⟨e, cs, hx⟩ := h.head
        exact ⟨(desc_has n).1 t d hd1 x cs hx, ih n h.tail hd2⟩
theorem hasL1 {d0 : D} {xs : List V} (h : D.hasL [d0] xs) : ∃ a, xs = [a] ∧ d0.has a := by
  cases xs with
  | nil => exact (h).elim
  | cons x0 r0 =>
  cases r0 with
  | cons _ _ => exact (h.2).elim
  | nil => exact ⟨x0, rfl, h.1⟩
theorem hasL2 {d0 d1 : D} {xs : List V} (h : D.hasL [d0, d1] xs) : ∃ a b, xs = [a, b] ∧ d0.has a ∧ d1.has b := by
  cases xs with
  | nil => exact (h).elim
  | cons x0 r0 =>
  cases r0 with
  | nil => exact (h.2).elim
  | cons x1 r1 =>
  cases r1 with
  | cons _ _ => exact (h.2.2).elim
  | nil => exact ⟨x0, x1, rfl, h.1, h.2.1⟩
theorem hasL3 {d0 d1 d2 : D} {xs : List V} (h : D.hasL [d0, d1, d2] xs) : ∃ a b c, xs = [a, b, c] ∧ d0.has a ∧ d1.has b ∧ d2.has c := by
  cases xs with
  | nil => exact (h).elim
  | cons x0 r0 =>
  cases r0 with
  | nil => exact (h.2).elim
  | cons x1 r1 =>
  cases r1 with
  | nil => exact (h.2.2).elim
  | cons x2 r2 =>
  cases r2 with
  | cons _ _ => exact (h.2.2.2).elim
  | nil => exact ⟨x0, x1, x2, rfl, h.1, h.2.1, h.2.2.1⟩
theorem hasL4 {d0 d1 d2 d3 : D} {xs : List V} (h : D.hasL [d0, d1, d2, d3] xs) : ∃ a b c d, xs = [a, b, c, d] ∧ d0.has a ∧ d1.has b ∧ d2.has c ∧ d3.has d := by
  cases xs with
  | nil => exact (h).elim
  | cons x0 r0 =>
  cases r0 with
  | nil => exact (h.2).elim
  | cons x1 r1 =>
  cases r1 with
  | nil => exact (h.2.2).elim
  | cons x2 r2 =>
  cases r2 with
  | nil => exact (h.2.2.2).elim
  | cons x3 r3 =>
  cases r3 with
  | cons _ _ => exact (h.2.2.2.2).elim
  | nil => exact ⟨x0, x1, x2, x3, rfl, h.1, h.2.1, h.2.2.1, h.2.2.2.1⟩
theorem hasL5 {d0 d1 d2 d3 d4 : D} {xs : List V} (h : D.hasL [d0, d1, d2, d3, d4] xs) : ∃ a b c d e, xs = [a, b, c, d, e] ∧ d0.has a ∧ d1.has b ∧ d2.has c ∧ d3.has d ∧ d4.has e := by
  cases xs with
  | nil => exact (h).elim
  | cons x0 r0 =>
  cases r0 with
  | nil => exact (h.2).elim
  | cons x1 r1 =>
  cases r1 with
  | nil => exact (h.2.2).elim
  | cons x2 r2 =>
  cases r2 with
  | nil => exact (h.2.2.2).elim
  | cons x3 r3 =>
  cases r3 with
  | nil => exact (h.2.2.2.2).elim
  | cons x4 r4 =>
  cases r4 with
  | cons _ _ => exact (h.2.2.2.2.2).elim
  | nil => exact ⟨x0, x1, x2, x3, x4, rfl, h.1, h.2.1, h.2.2.1, h.2.2.2.1, h.2.2.2.2.1⟩
theorem hasL6 {d0 d1 d2 d3 d4 d5 : D} {xs : List V} (h : D.hasL [d0, d1, d2, d3, d4, d5] xs) : ∃ a b c d e f, xs = [a, b, c, d, e, f] ∧ d0.has a ∧ d1.has b ∧ d2.has c ∧ d3.has d ∧ d4.has e ∧ d5.has f := by
  cases xs with
  | nil => exact (h).elim
  | cons x0 r0 =>
  cases r0 with
  | nil => exact (h.2).elim
  | cons x1 r1 =>
  cases r1 with
  | nil => exact (h.2.2).elim
  | cons x2 r2 =>
  cases r2 with
  | nil => exact (h.2.2.2).elim
  | cons x3 r3 =>
  cases r3 with
  | nil => exact (h.2.2.2.2).elim
  | cons x4 r4 =>
  cases r4 with
  | nil => exact (h.2.2.2.2.2).elim
  | cons x5 r5 =>
  cases r5 with
  | cons _ _ => exact (h.2.2.2.2.2.2).elim
  | nil => exact ⟨x0, x1, x2, x3, x4, x5, rfl, h.1, h.2.1, h.2.2.1, h.2.2.2.1, h.2.2.2.2.1, h.2.2.2.2.2.1⟩
/-- Bytes. -/
theorem u8s {ys : List V} (h : ∀ y ∈ ys, (D.int .u8).has y) : ∃ ns : List Nat, ys = ns.map nv ∧ ∀ a ∈ ns, a < 256 := by
  induction ys with
  | nil => exact ⟨[], rfl, fun a ha => by cases ha⟩
  | cons y ys ih =>
    obtain ⟨ns, rfl, hn⟩ := ih (fun z hz => h z (List.mem_cons_of_mem _ hz))
    obtain ⟨m, rfl, h1, h2⟩ := h y (List.mem_cons_self ..)
    simp only [lo, hi] at h1 h2
    refine ⟨m.toNat :: ns, ?_, fun a ha => ?_⟩
    · simp only [List.map_cons, nv]; rw [show ((m.toNat : Nat) : Int) = m by omega]
    · rcases List.mem_cons.1 ha with rfl | ha
      · omega
      · exact hn a ha
/-! ### Contracts: where they hold, what they answer -/
def gF (g : List V → Bool) (r : List V → List Rs) : FC := fun R xs k => bif g xs then k (r xs) else none
theorem gF_nat (g : List V → Bool) (r : List V → List Rs) : FC.nat (gF g r) := by
  intro R xs k
  unfold gF
  cases g xs <;> rfl
theorem gF_at {g : List V → Bool} {r : List V → List Rs} {xs : List V} {rs : List Rs} (h : gF g r (List Rs) xs some = some rs) : g xs = true ∧ rs = r xs := by
  unfold gF at h
  cases hg : g xs with
  | false => rw [hg] at h; cases h
  | true => rw [hg] at h; simp only [cond_true, Option.some.injEq] at h; exact ⟨rfl, h.symm⟩
theorem pure_conG (hm : P.follows .mixedOrders = true) (hT : TOK T P) {tab : List (Nat × SymC)} (h : TabOK P T tab) {f d fu : Nat} {Lo : Nat → LC} {sh : Bool} {ts : List Nat} {rk : List RK} {g : List V → Bool} {r : List V → List Rs} (hts : ts.all (fun t => (T t).isSome) = true)
    (hL : LoopsC P T f Lo) (n : Nat) {ds : List D} (hd : descL T n ts = some ds)
    (hF : ∀ xs, D.hasL ds xs → g xs = true → runFC P T (runAC P T tab false fu d) Lo false fu f (List Rs) (mkAs T ts xs) (fun _ => none) 0 (fun out => resC T sh rk out) = some (r xs)) :
    TabOK P T ((f, pureS T sh ts (gF g r)) :: tab) :=
  pure_con hm hT h (gF_nat g r) hts hL fun xs rs htv hrs => by
    obtain ⟨h1, rfl⟩ := gF_at hrs
    exact hF xs (htv.has n hd) h1
/-- A method on a box of data: what it leaves there, what it answers. -/
def gM (t : Nat) (g : List V → Bool) (y : List V → V) (r : List V → List Rs) : FC := gF g fun xs => .d t (y xs) :: r xs
theorem pureM_conG (hm : P.follows .mixedOrders = true) (hT : TOK T P) {tab : List (Nat × SymC)} (h : TabOK P T tab) {f d fu : Nat} {Lo : Nat → LC} {t : Nat} {ts : List Nat} {rk : List RK} {g : List V → Bool} {y : List V → V} {r : List V → List Rs} (hts : ts.all (fun t => (T t).isSome) = true) (hag : aggT T t = true)
    (hL : LoopsC P T f Lo) (n : Nat) {ds : List D} (hd : descL T n (t :: ts) = some ds)
    (hF : ∀ x xs, D.hasL ds (x :: xs) → g (x :: xs) = true → runFC P T (runAC P T tab false fu d) Lo false fu f (List Rs) (.p 0 t [] :: mkAs T ts xs) (box0 t x) 1 (fun out => resM T t x rk out) = some (.d t (y (x :: xs)) :: r (x :: xs))) :
    TabOK P T ((f, pureM T t ts (gM t g y r)) :: tab) :=
  pureM_con hm hT h (gF_nat _ _) hts hag hL fun x xs rs htv hrs => by
    obtain ⟨h1, rfl⟩ := gF_at hrs
    exact hF x xs (htv.has n hd) h1
end Go.Vm

namespace Go.Vm
open Go.RowKit
variable {P : Program} {T : TT} {R : Type}
set_option linter.unusedVariables false
set_option linter.constructorNameAsVariable false

/-! ### Writers: numbers and texts put behind bytes -/
abbrev LB : Nat := 268435456
def shb (x : V) : Bool := Nat.ble x.els.length LB
theorem shb_le {x : V} (h : shb x = true) : x.els.length ≤ 268435456 := Nat.le_of_ble_eq_true h
theorem leV_len : ∀ (m : Nat) (n : Int), (leV m n).length = m := by
  intro m
  induction m with
  | zero => intro n; rfl
  | succ m ih => intro n; show (leV m _).length + 1 = m + 1; rw [ih]
def cntC {R : Type} (n : Int) (bs : List V) (k : List V → Option R) : Option R :=
  bif ilt n 253 then lim (bs.length + 1) <| k (bs ++ [.i (IntKind.wrap .u8 n)]) else
  bif ilt n 65536 then lim (bs.length + 1) <| pFix 2 n (bs ++ [.i 253]) k else
  bif ilt n 4294967296 then lim (bs.length + 1) <| pFix 4 n (bs ++ [.i 254]) k else lim (bs.length + 1) <| pFix 8 n (bs ++ [.i 255]) k
theorem cntC_law {n : Int} {bs : List V} {k : List V → Option R} (h : bs.length ≤ 1073741800) : cntC n bs k = k (bs ++ cntL n) := by
  unfold cntC cntL
  have hp : ∀ (m : Nat) (b : V), m ≤ 8 → pFix m n (bs ++ [b]) k = k (bs ++ b :: leV m n) := fun m b hm => by
    rw [pFix_law m n _ _ (by rw [List.length_append]; show bs.length + 1 + m ≤ 1073741824; omega)]
    simp
  rw [lim_in (by omega), lim_in (by omega), lim_in (by omega), lim_in (by omega), hp _ _ (by omega), hp _ _ (by omega), hp _ _ (by omega)]
  cases ilt n 253 <;> cases ilt n 65536 <;> cases ilt n 4294967296 <;> rfl
def txt1 {R : Type} (bs xs : List V) (k : List V → Option R) : Option R := ln xs.length <| cntC (WU (xs.length : Nat)) bs (fun ys => lim (ys.length + xs.length) <| k (ys ++ xs))
/-- A text with its length. -/
def txtL (xs : List V) : List V := cntL (xs.length : Nat) ++ xs
theorem txt1_law {bs xs : List V} {k : List V → Option R} (h1 : bs.length ≤ 536870912) (h2 : xs.length ≤ 268435456) : txt1 bs xs k = k (bs ++ txtL xs) := by
  unfold txt1 txtL
  have := cntL_len (xs.length : Nat)
  rw [ln_in (by omega), wu64_lt (by omega), cntC_law (by omega), lim_in (by rw [List.length_append]; omega), List.append_assoc]
/-- Where the document divides. -/
def leD : Nat → Int → List V
  | 0, _ => []
  | m + 1, n => .i (IntKind.wrap .u8 (n.tmod 256)) :: leD m (IntKind.wrap .u64 (n.tdiv 256))
theorem leD_len : ∀ (m : Nat) (n : Int), (leD m n).length = m := by
  intro m
  induction m with
  | zero => intro n; rfl
  | succ m ih => intro n; show (leD m _).length + 1 = m + 1; rw [ih]
theorem wrap_u8 (n : Int) : IntKind.wrap .u8 n = n % 256 := by
  unfold IntKind.wrap
  simp [IntKind.bits, IntKind.signed]
theorem leD_leV : ∀ (m : Nat) {n : Int}, 0 ≤ n → n < 18446744073709551616 → leD m n = leV m n := by
  intro m
  induction m with
  | zero => intro n _ _; rfl
  | succ m ih =>
    intro n h1 h2
    have e1 : IntKind.wrap .u64 (n.tdiv 256) = n.fdiv (2 ^ 8) := by
      obtain ⟨q, rfl⟩ := Int.eq_ofNat_of_zero_le h1
      have : ((q : Nat) : Int).tdiv 256 = ((q / 256 : Nat) : Int) := rfl
      rw [this]
      show WU _ = _
      rw [wu64_lt (by omega), Int.fdiv_eq_ediv_of_nonneg _ (by decide)]
      omega
    have e2 : IntKind.wrap .u8 (n.tmod 256) = IntKind.wrap .u8 n := by
      obtain ⟨q, rfl⟩ := Int.eq_ofNat_of_zero_le h1
      have : ((q : Nat) : Int).tmod 256 = ((q % 256 : Nat) : Int) := rfl
      rw [this, wrap_u8, wrap_u8]; omega
    have h3 : n.fdiv (2 ^ 8) = n / 256 := Int.fdiv_eq_ediv_of_nonneg n (by decide)
    show V.i _ :: leD m _ = V.i _ :: leV m _
    rw [e1, e2, ih (by rw [h3]; omega) (by rw [h3]; omega)]
def cntD {R : Type} (n : Int) (k : List V → Option R) : Option R :=
  bif ile n 252 then k [.i (IntKind.wrap .u8 n)] else
  bif ile n 65535 then k (.i 253 :: leD 2 n) else
  bif ile n 4294967295 then k (.i 254 :: leD 4 n) else k (.i 255 :: leD 8 n)
theorem ile_ilt (a b : Int) : ile a b = ilt a (b + 1) := by
  simp only [ile, ilt, ileN_dec, iltN_dec]
  rw [Bool.eq_iff_iff, decide_eq_true_eq, decide_eq_true_eq]; omega
theorem cntD_law {n : Int} {k : List V → Option R} (h1 : 0 ≤ n) (h2 : n < 18446744073709551616) : cntD n k = k (cntL n) := by
  unfold cntD cntL
  rw [show ile n 252 = ilt n 253 from ile_ilt n 252, show ile n 65535 = ilt n 65536 from ile_ilt n 65535, show ile n 4294967295 = ilt n 4294967296 from ile_ilt n 4294967295, leD_leV 2 h1 h2, leD_leV 4 h1 h2, leD_leV 8 h1 h2]
  cases ilt n 253 <;> cases ilt n 65536 <;> cases ilt n 4294967296 <;> rfl
/-! Where these hold, what they answer. -/
def wFixg : List V → Bool
  | [b, n, s] => (ieq s.int 8 || ieq s.int 4) && shb b
  | _ => false
def wFixr (el : Nat) : List V → List Rs
  | [b, n, s] => [.r el (b.els ++ leV s.int.toNat n.int) false]
  | _ => []
def wTxtg : List V → Bool
  | [b, .l [x]] => shb b && shb x
  | _ => false
def wTxtr (el : Nat) : List V → List Rs
  | [b, .l [x]] => [.r el (b.els ++ txtL x.els) false]
  | _ => []
def wCntg : List V → Bool
  | [b, n] => shb b
  | _ => false
def wCntr (el : Nat) : List V → List Rs
  | [b, n] => [.r el (b.els ++ cntL n.int) false]
  | _ => []
/-- Behind what is there, cut off at its end. -/
def cntE {R : Type} (n : Int) (bs : List V) (k : List V → Option R) : Option R :=
  ln bs.length <| ln bs.length <| bif ieq (bs.length : Nat) (bs.length : Nat) then bif ile ((0 : Nat) : Int) ((0 : Nat) : Int) && ile ((0 : Nat) : Int) (bs.length : Nat) && ile (bs.length : Nat) (bs.length : Nat) then
    cntC n (subV (.l bs) 0 (((bs.length : Nat) : Int) - ((0 : Nat) : Int)).toNat).els k else none else none
theorem cntE_law {R : Type} {n : Int} {bs : List V} {k : List V → Option R} (h : bs.length ≤ 1073741800) : cntE n bs k = k (bs ++ cntL n) := by
  unfold cntE
  rw [ln_in (by omega), ln_in (by omega), ieq_iff.2 rfl, ile_iff.2 (by omega), ile_iff.2 (by omega), ile_iff.2 (by omega)]
  have : (subV (.l bs) 0 (((bs.length : Nat) : Int) - ((0 : Nat) : Int)).toNat).els = bs := by
    show (bs.drop 0).take _ = bs
    rw [List.drop_zero, List.take_of_length_le (by omega)]
  simp only [Bool.and_self, cond_true]
  rw [this]
  exact cntC_law h
/-- A reference. -/
def refB (x : V) : List V := (x.nth 0).els ++ leV 4 (x.nth 1).int
def wRefg : List V → Bool
  | [_] => true
  | _ => false
def wRefr (el : Nat) : List V → List Rs
  | [x] => [.r el (refB x) false]
  | _ => []
def dFixg : List V → Bool
  | [n, s] => ieq s.int 8 || ieq s.int 4
  | _ => false
def dFixr (el : Nat) : List V → List Rs
  | [n, s] => [.r el (leV s.int.toNat n.int) false]
  | _ => []
def dCntg : List V → Bool
  | [n] => true
  | _ => false
def dCntr (el : Nat) : List V → List Rs
  | [n] => [.r el (cntL n.int) false]
  | _ => []
def dTxtg : List V → Bool
  | [x] => shb x
  | _ => false
def dTxtr (el : Nat) : List V → List Rs
  | [x] => [.r el (txtL x.els) false]
  | _ => []
theorem el_or {s : Int} (h : (ieq s 8 || ieq s 4) = true) : s = 8 ∨ s = 4 := by
  rw [Bool.or_eq_true] at h
  exact h.imp ieq_iff.1 ieq_iff.1
theorem wFix_at {b : V} {n s : Int} (h : wFixg [b, .i n, .i s] = true) : (s = 8 ∨ s = 4) ∧ shb b = true := by
  rw [wFixg, Bool.and_eq_true] at h
  exact ⟨el_or h.1, h.2⟩
theorem dFix_at {n s : Int} (h : dFixg [.i n, .i s] = true) : s = 8 ∨ s = 4 := by
  rw [dFixg] at h
  exact el_or h
theorem wFixr_8 (el : Nat) (b : V) (n : Int) : wFixr el [b, .i n, .i 8] = [.r el (b.els ++ leV 8 n) false] := by rw [wFixr, show (V.i 8).int.toNat = 8 from by decide]; rfl
theorem wFixr_4 (el : Nat) (b : V) (n : Int) : wFixr el [b, .i n, .i 4] = [.r el (b.els ++ leV 4 n) false] := by rw [wFixr, show (V.i 4).int.toNat = 4 from by decide]; rfl
theorem dFixr_8 (el : Nat) (n : Int) : dFixr el [.i n, .i 8] = [.r el (leV 8 n) false] := by rw [dFixr, show (V.i 8).int.toNat = 8 from by decide]; rfl
theorem dFixr_4 (el : Nat) (n : Int) : dFixr el [.i n, .i 4] = [.r el (leV 4 n) false] := by rw [dFixr, show (V.i 4).int.toNat = 4 from by decide]; rfl
theorem bytes_v {x : V} (h : (D.slice (.int .u8)).has x) : x = .n ∨ ∃ ys, x = .l ys := h.imp id fun ⟨ys, q, _⟩ => ⟨ys, q⟩
/-- A reference's parts. -/
theorem ref_v {x : V} (h : (D.struct [.arr 32 (.int .u8), .int .u32]).has x) : ∃ hs n, x = .l [.l hs, .i n] ∧ hs.length = 32 ∧ 0 ≤ n ∧ n < 4294967296 := by
  obtain ⟨ys, rfl, hy⟩ := h
  match ys, hy with
  | [a, b], hy =>
    obtain ⟨⟨hs, rfl, hl, _⟩, ⟨n, rfl, hn⟩, _⟩ := hy
    refine ⟨hs, n, rfl, hl, hn.1, ?_⟩
    have := hn.2; simp only [hi] at this; omega
end Go.Vm

namespace Go.Vm
open Go.RowKit
variable {P : Program} {T : TT} {R : Type}
set_option linter.unusedVariables false
set_option linter.constructorNameAsVariable false

/-! ### Entries as bytes -/
def atV (xs : List V) (i : Int) : V := (V.l xs).nth i.toNat
/- An entry. -/
def entB (e : V) : List V := txtL (e.nth 1).els ++ (leV 8 (WU (e.nth 2).int) ++ refB (e.nth 3))
def entsB (l : List V) : List V := (l.map entB).flatten
inductive PEn where
  | m (xs bs : List V) (n i : Int)
inductive QEn where
  | o (xs bs : List V) (n i : Int)
def BEn (R : Type) (p : PEn) (K : PEn → Option R) (kx : QEn → Option R) : Option R :=
  match p with
  | .m xs bs n i =>
    bif ilt i n then ck i xs.length <| bif wTxtg [.l bs, .l [.l ((atV xs i).nth 1).els]] then
      bif wFixg [.l (bs ++ txtL ((atV xs i).nth 1).els), .i (WU ((atV xs i).nth 2).int), .i 8] then
      lim ((bs ++ txtL ((atV xs i).nth 1).els ++ leV 8 (WU ((atV xs i).nth 2).int)).length + (refB ((atV xs i).nth 3)).length) <|
      K (.m xs (bs ++ txtL ((atV xs i).nth 1).els ++ leV 8 (WU ((atV xs i).nth 2).int) ++ refB ((atV xs i).nth 3)) n (W64 (i + 1))) else none else none
    else kx (.o xs bs n i)
def BEd (R : Type) (p : PEn) (K : PEn → Option R) (kx : QEn → Option R) : Option R :=
  match p with
  | .m xs bs n i =>
    bif ilt i n then ck i xs.length <| bif dTxtg [.l ((atV xs i).nth 1).els] then
      lim (bs.length + (txtL ((atV xs i).nth 1).els).length) <|
      lim ((bs ++ txtL ((atV xs i).nth 1).els).length + (leV 8 (WU ((atV xs i).nth 2).int)).length) <|
      lim ((bs ++ txtL ((atV xs i).nth 1).els ++ leV 8 (WU ((atV xs i).nth 2).int)).length + (refB ((atV xs i).nth 3)).length) <|
      K (.m xs (bs ++ txtL ((atV xs i).nth 1).els ++ leV 8 (WU ((atV xs i).nth 2).int) ++ refB ((atV xs i).nth 3)) n (W64 (i + 1))) else none
    else kx (.o xs bs n i)
abbrev PEd := PEn
abbrev QEd := QEn
def okE (e : V) : Bool := Nat.ble (e.nth 1).els.length 4000
def goodE (e : V) : Prop := (e.nth 1).els.length ≤ 4000 ∧ (refB (e.nth 3)).length = 36
theorem i_next {n : Nat} (h : n < 1000000000) : W64 ((n : Int) + 1) = ((n + 1 : Nat) : Int) := by rw [w64_in (by omega) (by omega)]; omega
def ensg : List V → Bool
  | [x] => Nat.ble x.els.length 4000 && x.els.all okE
  | _ => false
def ensr (el : Nat) : List V → List Rs
  | [x] => [.r el (cntL (x.els.length : Nat) ++ entsB x.els) false]
  | _ => []
abbrev DRef : D := .struct [.arr 32 (.int .u8), .int .u32]
abbrev DEnt : D := .struct [.str, .str, .int .i64, DRef]
/- What is done ahead of the rounds, and behind them. -/
noncomputable def enG (B : (R : Type) → PEn → (PEn → Option R) → (QEn → Option R) → Option R) (el : Nat) (xs : List V) : Option (List Rs) :=
  ln xs.length <| ln xs.length <| lpC (B (List Rs)) (hid FU) (.m xs (cntL (WU (xs.length : Nat))) (xs.length : Nat) 0) fun q => match q with
    | .o xs bs n i => some [.r el bs false]
end Go.Vm

namespace Go.Vm
open Go.RowKit
variable {P : Program} {T : TT}
set_option linter.unusedVariables false
set_option linter.constructorNameAsVariable false

/-! ### Arguments, opened: what the row's reading says, as data -/
abbrev ML : Nat := 9223372036854775807
mutual
/-- None is longer than may be. -/
def D.sm : D → V → Prop
  | .str, x => x.els.length ≤ ML
  | .slice d, x => x.els.length ≤ ML ∧ ∀ y ∈ x.els, D.sm d y
  | .arr _ d, x => ∀ y ∈ x.els, D.sm d y
  | .struct ds, x => D.smL ds x.els
  | _, _ => True
def D.smL : List D → List V → Prop
  | d :: ds, x :: xs => D.sm d x ∧ D.smL ds xs
  | _, _ => True
end
theorem TOK.zero (hT : TOK T P) {t : Nat} {k : TK} (hk : kOf T t = some k) (ho : k ≠ .other) : ∃ x cs, ∀ e, RV T e [t] [x] cs := by
  obtain ⟨te, h1, rfl⟩ := kOf_some hk
  obtain ⟨i, d, z, _, _, _, _, _, _, h7, _⟩ := (hT _ _ h1).fits
  rcases h7 with h7 | h7
  · exact ⟨_, _, h7⟩
  · exact absurd h7 ho
theorem RV.sz1 {e : Env} {t : Nat} {x : V} {cs : List Value} {k : TK} (hk : kOf T t = some k) (ha : k.agg = false) (h : RV T e [t] [x] cs) : szT T t = 1 := by
  cases h with
  | int _ h2 => exact h2
  | bool _ h2 => exact h2
  | str _ h2 => exact h2
  | ptr _ h2 => exact h2
  | nils _ h2 => exact h2
  | map _ h2 => exact h2
  | func _ h2 => exact h2
  | fn _ h2 => exact h2
  | slice _ h2 => exact h2
  | arr h1 => rw [hk] at h1; cases h1; cases ha
  | struct h1 => rw [hk] at h1; cases h1; cases ha
def e0 : Env := { w := default, ι := fun _ => none, S := fun _ _ => False, bn := fun _ => 0, U := fun _ => False, ty := fun _ => 0, ln := fun _ => 0 }
theorem TOK.sz1 (hT : TOK T P) {t : Nat} {k : TK} (hk : kOf T t = some k) (ha : k.agg = false) (ho : k ≠ .other) : szT T t = 1 := by
  obtain ⟨x, cs, h⟩ := hT.zero hk ho
  exact (h e0).sz1 hk ha
theorem TOK.szS (hT : TOK T P) {t : Nat} {fs : List Nat} (hk : kOf T t = some (.struct fs)) : szT T t = szs T fs := by
  obtain ⟨x, cs, h⟩ := hT.zero hk (by intro h; cases h)
  obtain ⟨ys, rfl, g⟩ := (h e0).struct_inv hk
  have h1 := (h e0).length.1
  have h2 := g.length.1
  simp only [szs] at h1; omega
theorem TOK.szA (hT : TOK T P) {t n el : Nat} (hk : kOf T t = some (.arr n el)) : szT T t = n * szT T el := by
  obtain ⟨x, cs, h⟩ := hT.zero hk (by intro h; cases h)
  obtain ⟨ys, rfl, _, g⟩ := (h e0).arr_inv hk
  have h1 := (h e0).length.1
  have h2 := g.length.1
  rw [szs_replicate] at h2
  simp only [szs] at h1; omega
theorem TOK.cells (hT : TOK T P) {t : Nat} {k : TK} (hk : kOf T t = some k) : P.cellsOf t = szT T t := by
  obtain ⟨te, h1, rfl⟩ := kOf_some hk
  obtain ⟨i, d, z, g1, _, g3, _⟩ := (hT _ _ h1).fits
  unfold Program.cellsOf
  rw [g1, szT_of h1, ← g3]; rfl
theorem inR_wf {k : IntKind} {n : Int} (h : (Lit.int k n).wf = true) : inR k n := by
  have : k.min ≤ n ∧ n ≤ k.max := by simpa [Lit.wf, Bool.and_eq_true, decide_eq_true_eq] using h
  cases k <;> simpa [inR, lo, hi, IntKind.min, IntKind.max, IntKind.signed, IntKind.bits] using this
theorem add_add (a : Addr) (p q : Nat) : (a.add p).add q = a.add (p + q) := by
  unfold Addr.add
  by_cases h1 : p = 0
  · subst h1; simp
  · by_cases h2 : q = 0
    · subst h2; simp [h1]
    · simp [h1, h2, show p + q ≠ 0 by omega, Nat.add_assoc]
theorem cells_get {w : World} {b0 : Nat} {a : Addr} {n : Nat} {l : List Value} (h : w.cells? b0 a n = some l) : l.length = n ∧ ∀ k, k < n → w.cell? (a.add k) = l[k]? := by
  unfold World.cells? at h
  split at h <;> try (cases h; done)
  have h1 := mapM_some_length h
  refine ⟨by simpa using h1, fun k hk => ?_⟩
  exact mapM_some_get h k k (by simp [hk])
section
variable {w : World} {H : Type} {enc : TypeId × Value → H}
theorem rv_parts {el : Nat} {e : Env} {q : V → Prop} : ∀ (n : Nat) (cs : List Value), cs.length = n * szT T el → (∀ i, i < n → ∃ y, RV T e [el] [y] ((cs.drop (i * szT T el)).take (szT T el)) ∧ q y) → ∃ ys, ys.length = n ∧ RV T e (List.replicate n el) ys cs ∧ ∀ y ∈ ys, q y := by
  intro n
  induction n with
  | zero =>
    intro cs hl _
    have : cs = [] := List.eq_nil_of_length_eq_zero (by simpa using hl)
    subst this
    exact ⟨[], rfl, .nil, fun y hy => by cases hy⟩
  | succ n ih =>
    intro cs hl hp
    rw [Nat.succ_mul] at hl
    obtain ⟨y, hy, hq⟩ := hp 0 (by omega)
    rw [Nat.zero_mul, List.drop_zero] at hy
    obtain ⟨ys, h1, h2, h3⟩ := ih (cs.drop (szT T el)) (by rw [List.length_drop]; omega) (fun i hi => by
      obtain ⟨z, hz, hqz⟩ := hp (i + 1) (by omega)
      refine ⟨z, ?_, hqz⟩
      rw [List.drop_drop, show szT T el + i * szT T el = (i + 1) * szT T el by rw [Nat.succ_mul]; omega]
      exact hz)
    refine ⟨y :: ys, by simp [h1], ?_, fun z hz => ?_⟩
    · have := RV.append hy h2
      rw [List.take_append_drop] at this
      exact this
    · rcases List.mem_cons.1 hz with rfl | hz
      · exact hq
      · exact h3 z hz
theorem rv_fields {e : Env} : ∀ (fs : List Nat) (n : Nat) (ds : List D) (cs : List Value), descL T n fs = some ds → cs.length = szs T fs → (∀ (j f m : Nat) (d : D), m ≤ n → fs[j]? = some f → descT T m f = some d → ∃ y, RV T e [f] [y] ((cs.drop (szs T (fs.take j))).take (szT T f)) ∧ d.sm y) → ∃ ys, RV T e fs ys cs ∧ D.smL ds ys := by
  intro fs
  induction fs with
  | nil =>
    intro n ds cs hd hl _
    have : cs = [] := List.eq_nil_of_length_eq_zero hl
    subst this
    rw [descL] at hd; cases hd
    exact ⟨[], .nil, trivial⟩
  | cons f r ih =>
    intro n ds cs hd hl hp
    cases n with
    | zero => rw [descL] at hd; cases hd
    | succ n =>
    rw [descL] at hd
    split at hd <;> try (cases hd; done)
    rename_i d hd1
    split at hd <;> cases hd
    rename_i ds' hds
    simp only [szs] at hl
    obtain ⟨y, hy, hq⟩ := hp 0 f n d (by omega) rfl hd1
    simp only [List.take_zero, szs, List.drop_zero] at hy
    obtain ⟨ys, h2, h3⟩ := ih n ds' (cs.drop (szT T f)) hds (by rw [List.length_drop]; omega) (fun j g m d' hm hj hd' => by
      obtain ⟨z, hz, hqz⟩ := hp (j + 1) g m d' (by omega) (by simpa using hj) hd'
      refine ⟨z, ?_, hqz⟩
      rw [List.drop_drop]
      simpa only [List.take_succ_cons, szs] using hz)
    refine ⟨y :: ys, ?_, hq, h3⟩
    have := RV.append hy h2
    rw [List.take_append_drop] at this
    exact this
theorem descL_at : ∀ {ts : List Nat} {n : Nat} {ds : List D}, descL T n ts = some ds → ∀ (j t : Nat), ts[j]? = some t → ∃ m d, m ≤ n ∧ descT T m t = some d := by
  intro ts
  induction ts with
  | nil => intro n ds _ j t hj; simp at hj
  | cons u r ih =>
    intro n ds h j t hj
    cases n with
    | zero => rw [descL] at h; cases h
    | succ n =>
      rw [descL] at h
      split at h <;> try (cases h; done)
      rename_i d hd
      split at h <;> cases h
      rename_i ds' hds
      cases j with
      | zero => simp at hj; subst hj; exact ⟨n, d, by omega, hd⟩
      | succ j => obtain ⟨m, d', h1, h2⟩ := ih hds j t (by simpa using hj); exact ⟨m, d', by omega, h2⟩
theorem trod_rv (hT : TOK T P) : ∀ (n m : Nat), m ≤ n → ∀ (t : Nat) (d : D), descT T m t = some d → ∀ (fuel : Nat) (cs : List Value) (x : DataW H × List MemPlace), DataW.trod enc P w 0 (fun _ => true) true fuel t cs = some x → ∃ y, RV T (base w) [t] [y] cs ∧ d.sm y := by
  intro n
  induction n with
  | zero => intro m hm t d h; obtain rfl : m = 0 := by omega
            rw [descT] at h; cases h
  | succ n ih =>
    intro m hm t d h fuel cs x hx
    cases m with
    | zero => rw [descT] at h; cases h
    | succ m =>
    have hm : m ≤ n := by omega
    rw [descT] at h
    split at h
    · rename_i k hk
      obtain ⟨te, h1, h2⟩ := kOf_some hk
      obtain ⟨v, rfl, _, hw⟩ := DataW.trod_int (under_int (hT _ _ h1) h2) hx
      cases h; exact ⟨.i v, .int hk (hT.sz1 hk rfl (by intro h; cases h)) (inR_wf hw) .nil, trivial⟩
    · rename_i hk
      obtain ⟨te, h1, h2⟩ := kOf_some hk
      obtain ⟨b, rfl, _⟩ := DataW.trod_bool (under_bool (hT _ _ h1) h2) hx
      cases h; exact ⟨.b b, .bool hk (hT.sz1 hk rfl (by intro h; cases h)) .nil, trivial⟩
    · rename_i hk
      obtain ⟨te, h1, h2⟩ := kOf_some hk
      obtain ⟨s, rfl, _, hsz⟩ := DataW.trod_string (under_str (hT _ _ h1) h2) hx
      cases h
      refine ⟨.s (txt s), .str hk (hT.sz1 hk rfl (by intro h; cases h)) .nil, ?_⟩
      show (txt s).length ≤ ML
      unfold txt
      rw [List.length_map, Array.length_toList]
      exact Nat.le_trans hsz (by decide)
    · rename_i el hk
      split at h <;> cases h
      rename_i d hd
      obtain ⟨te, h1, h2⟩ := kOf_some hk
      have hz1 := hT.sz1 hk rfl (by intro h; cases h)
      rcases DataW.trod_slice (under_slice (hT _ _ h1) h2) hx with ⟨rfl, _⟩ | ⟨a, len, cap, elems, rest, k, _, rfl, _, _, hcap, hmx, hel, he, _, _⟩
      · exact ⟨.n, .nils hk hz1 .nil, Nat.zero_le _, fun y hy => by cases hy⟩
      · have hsz : P.cellsOf el = szT T el := by
          cases hke : kOf T el with
          | none => cases m with
            | zero => rw [descT] at hd; cases hd
            | succ m => rw [descT, hke] at hd; cases hd
          | some ke => exact hT.cells hke
        rw [hsz] at he
        have key : ∀ i, i < len → ∃ l y, l.length = szT T el ∧ (∀ k, k < szT T el → w.cell? (a.add (i * szT T el + k)) = l[k]?) ∧ RV T (base w) [el] [y] l ∧ d.sm y := fun i hi => by
          have h3 := he i hi
          rw [List.getElem?_eq_getElem (by omega)] at h3
          obtain ⟨l, g1, g2⟩ := Option.bind_eq_some_iff.1 h3
          obtain ⟨g3, g4⟩ := cells_get g1
          obtain ⟨y, hy, hq⟩ := ih m hm el d hd _ _ _ g2
          exact ⟨l, y, g3, fun k hk => by rw [← g4 k hk, add_add], hy, hq⟩
        have hcell : ∀ j, j < len * szT T el → ∃ v, w.cell? (a.add j) = some v := fun j hj => by
          have hpos : 0 < szT T el := by
            rcases Nat.eq_zero_or_pos (szT T el) with h0 | h0
            · rw [h0] at hj; omega
            · exact h0
          have hi : j / szT T el < len := Nat.div_lt_of_lt_mul (by rw [Nat.mul_comm]; exact hj)
          obtain ⟨l, y, g1, g2, _⟩ := key _ hi
          have hk := Nat.mod_lt j hpos
          have := g2 _ hk
          rw [show j / szT T el * szT T el + j % szT T el = j by rw [Nat.mul_comm]; exact Nat.div_add_mod j _, List.getElem?_eq_getElem (by omega)] at this
          exact ⟨_, this⟩
        let ds : List Value := (List.range (len * szT T el)).map fun j => (w.cell? (a.add j)).getD undef
        have hds : ds.length = len * szT T el := by simp [ds]
        have hget : ∀ j, j < len * szT T el → ds[j]? = w.cell? (a.add j) := fun j hj => by
          obtain ⟨v, hv⟩ := hcell j hj
          simp only [ds, List.getElem?_map, List.getElem?_range hj, Option.map_some, hv, Option.getD_some]
        have hparts : ∀ i, i < len → ∃ y, RV T (base w) [el] [y] ((ds.drop (i * szT T el)).take (szT T el)) ∧ d.sm y := fun i hi => by
          obtain ⟨l, y, g1, g2, g3, g4⟩ := key i hi
          refine ⟨y, ?_, g4⟩
          have : (ds.drop (i * szT T el)).take (szT T el) = l := by
            apply List.ext_getElem?
            intro k
            rcases Nat.lt_or_ge k (szT T el) with hk | hk
            · have : (i + 1) * szT T el ≤ len * szT T el := Nat.mul_le_mul_right _ (by omega)
              rw [Nat.succ_mul] at this
              rw [List.getElem?_take_of_lt hk, List.getElem?_drop, hget _ (by omega), g2 k hk]
            · rw [List.getElem?_eq_none (by simp; omega), List.getElem?_eq_none (by omega)]
          rw [this]; exact g3
        obtain ⟨ys, h4, h5, h6⟩ := rv_parts len ds hds hparts
        refine ⟨.l ys, .slice hk hz1 h4 hcap ⟨fun hne => ?_, fun j y hj => ?_⟩ h5 .nil, ?_, h6⟩
        · have hpos : 0 < len * szT T el := by
            rcases Nat.eq_zero_or_pos (len * szT T el) with h0 | h0
            · exact absurd (List.eq_nil_of_length_eq_zero (hds.trans h0)) hne
            · exact h0
          obtain ⟨v, hv⟩ := hcell 0 hpos
          simpa [Addr.add] using World.cell?_spot hv
        · have hjl : j < len * szT T el := by rw [← hds]; exact (List.getElem?_eq_some_iff.1 hj).1
          rw [hget j hjl] at hj
          refine ⟨hj, ?_⟩
          have := cell_block hj
          rw [add_block'] at this
          exact this
        · show ys.length ≤ ML
          rw [h4]; exact Nat.le_trans hcap (Nat.le_trans hmx (by decide))
    · rename_i k el hk
      split at h <;> cases h
      rename_i d hd
      obtain ⟨te, h1, h2⟩ := kOf_some hk
      obtain ⟨xs, m', _, _, hl, hn, hi⟩ := DataW.trod_array (under_arr (hT _ _ h1) h2) hx
      have hsz : P.cellsOf el = szT T el := by
        cases hke : kOf T el with
        | none => cases m with
          | zero => rw [descT] at hd; cases hd
          | succ m => rw [descT, hke] at hd; cases hd
        | some ke => exact hT.cells hke
      rw [hT.cells hk, hT.szA hk] at hl
      obtain ⟨ys, h4, h5, h6⟩ := rv_parts (q := d.sm) k cs hl (fun i h => by
        have h3 := hi i h
        rw [hsz, List.getElem?_eq_getElem (by omega)] at h3
        exact ih m hm el d hd _ _ _ h3)
      refine ⟨.l ys, ?_, h6⟩
      have := RV.arr hk (by rw [hT.szA hk, hl]) h5 (RV.nil (T := T) (e := base w))
      rwa [List.append_nil] at this
    · rename_i fs hk
      split at h <;> cases h
      rename_i ds hd
      obtain ⟨te, h1, h2⟩ := kOf_some hk
      obtain ⟨gs, g1, g2, g3⟩ := under_struct (hT _ _ h1) h2
      obtain ⟨xs, m', _, _, hl, hn, hi⟩ := DataW.trod_struct g1 hx
      rw [hT.cells hk, hT.szS hk] at hl
      obtain ⟨ys, h5, h6⟩ := rv_fields fs m ds cs hd hl (fun j f m1 d1 hm1 hj hd1 => by
        obtain ⟨g, q1, rfl⟩ := struct_field g2 hj
        have h3 := hi j g q1
        have hlt : j < xs.length := by rw [hn]; exact (Array.getElem?_eq_some_iff.1 q1).1
        have hsz : P.cellsOf g.type = szT T g.type := by
          cases hke : kOf T g.type with
          | none => cases m1 with
            | zero => rw [descT] at hd1; cases hd1
            | succ m1 => rw [descT, hke] at hd1; cases hd1
          | some ke => exact hT.cells hke
        rw [hsz, g3 j g q1, List.getElem?_eq_getElem hlt] at h3
        exact ih m1 (by omega) _ d1 hd1 _ _ _ h3)
      refine ⟨.l ys, ?_, h6⟩
      have := RV.struct hk (by rw [hT.szS hk, hl]) h5 (RV.nil (T := T) (e := base w))
      rwa [List.append_nil] at this
    · cases h
theorem agg_wide (hT : TOK T P) {t m b : Nat} {v : Value} {d : D} (hd : descT T m t = some d) {r : Reach} (h : Value.okWide P w r b t v) : AggIff T t v := by
  cases m with
  | zero => rw [descT] at hd; cases hd
  | succ m =>
  have no : ∀ {k : TK} {u : TypeDesc}, kOf T t = some k → k.agg = false → P.underlying t = some u → (u = .bool ∨ u = .string ∨ (∃ k, u = .int k) ∨ ∃ e, u = .slice e) → AggIff T t v := fun {k u} hk ha hu hc => by
    refine ⟨fun ⟨k', hk', ha'⟩ => (by rw [hk] at hk'; cases hk'; rw [ha] at ha'; cases ha'), fun ⟨cs, hv⟩ => ?_⟩
    subst hv
    rcases hc with rfl | rfl | ⟨k', rfl⟩ | ⟨e', rfl⟩ <;> simp [Value.okWide, Cell.okWide, Cell.ok, hu] at h
  rw [descT] at hd
  split at hd
  · rename_i k hk; obtain ⟨te, h1, h2⟩ := kOf_some hk
    exact no hk rfl (under_int (hT _ _ h1) h2) (.inr (.inr (.inl ⟨_, rfl⟩)))
  · rename_i hk; obtain ⟨te, h1, h2⟩ := kOf_some hk
    exact no hk rfl (under_bool (hT _ _ h1) h2) (.inl rfl)
  · rename_i hk; obtain ⟨te, h1, h2⟩ := kOf_some hk
    exact no hk rfl (under_str (hT _ _ h1) h2) (.inr (.inl rfl))
  · rename_i el hk; obtain ⟨te, h1, h2⟩ := kOf_some hk
    exact no hk rfl (under_slice (hT _ _ h1) h2) (.inr (.inr (.inr ⟨_, rfl⟩)))
  · rename_i k el hk; obtain ⟨te, h1, h2⟩ := kOf_some hk
    have hu := under_arr (hT _ _ h1) h2
    unfold Value.okWide at h
    rw [hu] at h
    obtain ⟨cs, rfl, _⟩ := h
    exact ⟨fun _ => ⟨cs, rfl⟩, fun _ => ⟨_, hk, rfl⟩⟩
  · rename_i fs hk; obtain ⟨te, h1, h2⟩ := kOf_some hk
    obtain ⟨gs, hu, _⟩ := under_struct (hT _ _ h1) h2
    unfold Value.okWide at h
    rw [hu] at h
    obtain ⟨cs, rfl, _⟩ := h
    exact ⟨fun _ => ⟨cs, rfl⟩, fun _ => ⟨_, hk, rfl⟩⟩
  · cases hd
theorem open_args (hT : TOK T P) {r : Reach} {b : Nat} : ∀ (ts : List Nat) {n : Nat} {Ds : List D} (vs : List Value) {ds : List (DataW H)} {ps : List MemPlace}, descL T n ts = some Ds → DataW.TrodAll enc P w 0 (fun _ => true) true ts vs ds ps →
    (∀ (j : Nat) t v, ts[j]? = some t → vs[j]? = some v → Value.okWide P w r b t v) → ∃ xs, RP T (base w) ts xs vs ∧ D.smL Ds xs := by
  intro ts
  induction ts with
  | nil =>
    intro n Ds vs ds ps _ h _
    cases vs with
    | nil => exact ⟨[], .nil, by cases Ds <;> exact trivial⟩
    | cons v vs => cases ds <;> exact h.elim
  | cons t ts ih =>
    intro n Ds vs ds ps hd h hv
    cases vs with
    | nil => cases ds <;> exact h.elim
    | cons v vs =>
      cases ds with
      | nil => exact h.elim
      | cons d ds =>
        obtain ⟨p, q, ⟨fuel, h1⟩, h2, _⟩ := h
        cases n with
        | zero => rw [descL] at hd; cases hd
        | succ n =>
          rw [descL] at hd
          split at hd <;> try (cases hd; done)
          rename_i D hD
          split at hd <;> cases hd
          rename_i Ds' hDs
          obtain ⟨y, hy, hq⟩ := trod_rv hT n n (Nat.le_refl _) t D hD fuel _ _ h1
          obtain ⟨xs, hxs, hqs⟩ := ih vs hDs h2 (fun j t v h1 h2 => hv (j + 1) t v (by simpa using h1) (by simpa using h2))
          exact ⟨y :: xs, .cons hy (agg_wide hT hD (hv 0 t v rfl rfl)) hxs, hq, hqs⟩
end
/-- Does it answer true? -/
def tellT : Eff → Option Unit := fun out => bif ansB true (some out) then some () else none
theorem ans_of {s : SymC} (hn : s.nat) {args : List A} (h : s Unit args (fun _ => none) 0 tellT = some ()) : ansB true (s.dir args (fun _ => none) 0) = true := by
  rw [hn] at h
  obtain ⟨out, h1, h2⟩ := ob_some h
  rw [h1]
  unfold tellT at h2
  cases hq : ansB true (some out) with
  | true => rfl
  | false => rw [hq] at h2; cases h2
/-- A law of data, by its run. -/
theorem calls_law (hT : TOK T P) {f : FuncId} {fn : Func} {code : Code} {s : SymC} (hf : P.funcs[f]? = some fn) (hb : fn.body = some code) (hn : (fn.name == "runtime.NumGoroutine") = false) (hs : SymOK P T f s.dir) (hnat : s.nat) {ts : List Nat} (hts : ts.all (fun t => (T t).isSome) = true) (n : Nat) {Ds : List D} (hd : descL T n ts = some Ds)
    (hrun : ∀ xs, D.hasL Ds xs → D.smL Ds xs → s Unit (mkAs T ts xs) (fun _ => none) 0 tellT = some ()) {w : World} {vals : Array Value} (ha : ∃ xs, RP T (base w) ts xs vals.toList ∧ D.smL Ds xs) : Calls P f vals w fun en w' => en = .returned (.bool true) ∧ Still w w' := by
  obtain ⟨xs, hx, hq⟩ := ha
  exact calls_of_sym hf hb hn hs (ans_of hnat (hrun xs (TV.has n ⟨_, _, hx⟩ hd) hq)) (hx.reps hts)
end Go.Vm

namespace Go.Vm
open Go.RowKit
set_option linter.unusedVariables false
set_option linter.constructorNameAsVariable false

/-! ### Bytes, plainly -/
def Byt (l : List Nat) : Prop := ∀ a ∈ l, a < 256
/- A number's bytes, the lowest first; the number of bytes. -/
def leB : Nat → Nat → List Nat
  | 0, _ => []
  | m + 1, n => n % 256 :: leB m (n / 256)
def leN : List Nat → Nat
  | [] => 0
  | a :: r => a + 256 * leN r
/-! ### Counts -/
def cntB (n : Nat) : List Nat := if n < 253 then [n] else if n < 65536 then 253 :: leB 2 n else if n < 4294967296 then 254 :: leB 4 n else 255 :: leB 8 n
theorem ilt_nat (a b : Nat) : ilt (a : Int) (b : Int) = decide (a < b) := by
  simp only [ilt, iltN_dec]
  rw [Bool.eq_iff_iff, decide_eq_true_eq, decide_eq_true_eq]; omega
/-! ### A reader of bytes -/
def rd (r : List Nat) : V := .l [.l (r.map nv), .i 0]
/-! What stands at the head. -/
def szOf (a : Nat) : Nat := if a = 253 then 2 else if a = 254 then 4 else if a = 255 then 8 else 0
/- The first bytes' count. -/
def pkP (r : List Nat) (most : Nat) : Int × Int × Int :=
  match r with
  | [] => (0, 0, 61)
  | a :: r => if r.length < szOf a then (0, 0, 61) else
      let n := if szOf a = 0 then a else leN (r.take (szOf a))
      if (cntB n).length ≠ szOf a + 1 then (0, 0, 62) else if most < n then (0, 0, 62) else ((n : Int), ((szOf a + 1 : Nat) : Int), 0)
/- A count as it is written is read. -/
/- A count that is read is as it is written. -/
end Go.Vm
end
