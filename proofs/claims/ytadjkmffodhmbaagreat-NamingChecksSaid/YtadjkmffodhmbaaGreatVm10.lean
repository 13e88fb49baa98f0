/- What the operations of a program do, shown once for all programs; and numbers. -/
import Derived.Test.YtadjkmffodhmbaaGreatVm9
import Derived.Maps.RangeRun
import Derived.WalkKit
set_option linter.constructorNameAsVariable false
set_option linter.unusedVariables false
set_option linter.unusedSimpArgs false
noncomputable section
namespace Go.Vm
open Go.RowKit
variable {P : Program} {T : TT} {R : Type} {c : Q0} {e : B4} {of : Nat → Option Ob}
def Y0 (of : Nat → Option Ob) : Nat → List Nat → List Nat → List Nat
 | 0, _, acc => acc
 | _ + 1, [], acc => acc
 | f + 1, id :: r, acc => bif mem id acc then Y0 of f r acc else
  match of id with
  | some o => Y0 of f (A1N o ++ r) (acc ++ [id])
  | none => acc
def M6 : List Nat → Nat → Nat
 | [], _ => 0
 | k :: r, id => bif Nat.beq k id then 0 else M6 r id + 1
def T6 (of : Nat → Option Ob) (id : Nat) : Nat :=
 match of id with
 | some (.row _ v _ _ _) => v
 | _ => 0
def A3H : List Nat → Bool
 | [] => true
 | k :: r => !mem k r && A3H r
def B0g (L : List Nat) : List Nat → Bool
 | [] => true
 | k :: r => mem k L && B0g L r
def B3p (of : Nat → Option Ob) (L : List Nat) : List Nat → Bool
 | [] => true
 | id :: r => (match of id with
  | some o => okT o && B0g L (A1N o)
  | none => false) && B3p of L r
def A7V (of : Nat → Option Ob) (id ver : Nat) : Option Nat := bif Nat.beq (T6 of id) ver then some 1 else none
def W9 (of : Nat → Option Ob) (L : List Nat) : List Nat → List Ob
 | [] => []
 | id :: r => (match of id with
  | some o => rnO (M6 L) (A7V of) id o
  | none => .lp none) :: W9 of L r
def ofL : List Ob → Nat → Option Ob
 | [], _ => none
 | o :: _, 0 => some o
 | _ :: r, n + 1 => ofL r n
def A3I : List Nat → Nat → Option Nat
 | [], _ => none
 | k :: _, 0 => some k
 | _ :: r, n + 1 => A3I r n
def J2 (L : List Nat) (nx : Nat) (j : Nat) : Nat :=
 match A3I L j with
 | some id => id
 | none => nx + (j - L.length)
def A6U (of : Nat → Option Ob) (L : List Nat) (j ver : Nat) : Option Nat :=
 match A3I L j with
 | some id => some (ver + (T6 of id - 1))
 | none => some ver
def A0g (of : Nat → Option Ob) (L : List Nat) (nx : Nat) : List (Nat × Ob) → List (Nat × Ob)
 | [] => []
 | p :: r => (J2 L nx p.1, rnO (J2 L nx) (A6U of L) p.1 p.2) :: A0g of L nx r
def B3q : List (Nat × Ob) → Bool
 | [] => true
 | p :: r => okT p.2 && B3q r
def A1v : Nat → List Ob → List (Nat × Ob)
 | _, [] => []
 | j, o :: r => (j, o) :: A1v (j + 1) r
def trS (s : E7) : E7 := fun R args of nx k =>
 (fun L : List Nat => bif A3H L && (B3p of L L && B0g L (F2 args)) then
  s R (rnL (M6 L) (A7V of) args) (ofL (W9 of L L)) L.length fun out => bif Nat.ble L.length out.nx && B3q out.wo then
   k ⟨rnA (J2 L nx) (A6U of L) out.val, A0g of L nx (A1v 0 (W9 of L L) ++ out.wo), L, nx + (out.nx - L.length)⟩ else none
  else none) (Y0 of 64 (F2 args) [])
theorem A2i {s : E7} (hs : s.nat) : (trS s).nat := by
 intro R args of nx k
 unfold E7.dir trS
 simp only
 cases (A3H (Y0 of 64 (F2 args) []) && (B3p of (Y0 of 64 (F2 args) []) (Y0 of 64 (F2 args) []) && B0g (Y0 of 64 (F2 args) []) (F2 args)))
 ·rfl
 ·simp only [cond_true]
  rw [hs R, hs V9]
  cases s.dir (rnL (M6 (Y0 of 64 (F2 args) [])) (A7V of) args) (ofL (W9 of (Y0 of 64 (F2 args) []) (Y0 of 64 (F2 args) []))) (Y0 of 64 (F2 args) []).length with
  | none => rfl
  | some out =>
   simp only [ob]
   cases (Nat.ble (Y0 of 64 (F2 args) []).length out.nx && B3q out.wo) <;> rfl
theorem A7d {L : List Nat} : ∀ {l : List Nat}, B0g L l = true → ∀ id ∈ l, id ∈ L := by
 intro l
 induction l with
 | nil => intro _ id h; cases h
 | cons k r ih =>
  intro h id A2
  simp only [B0g, D02, mem_iff] at h
  rcases List.mem_cons.1 A2 with rfl | A2
  ·exact h.1
  ·exact ih h.2 id A2
theorem A8V : ∀ {l : List Nat}, A3H l = true → l.Nodup := by
 intro l
 induction l with
 | nil => intro _; exact .nil
 | cons k r ih =>
  intro h
  simp only [A3H, D02, Bool.not_eq_true'] at h
  refine List.nodup_cons.2 ⟨fun hk => ?_, ih h.2⟩
  rw [mem_iff.2 hk] at h; cases h.1
theorem B3r {L : List Nat} : ∀ {l : List Nat}, B3p of L l = true → ∀ id ∈ l, ∃ o, of id = some o ∧ okT o = true ∧ ∀ k ∈ A1N o, k ∈ L := by
 intro l
 induction l with
 | nil => intro _ id h; cases h
 | cons k r ih =>
  intro h id A2
  simp only [B3p, D02] at h
  rcases List.mem_cons.1 A2 with rfl | A2
  ·obtain ⟨h1, _⟩ := h
   split at h1
   ·rename_i o ho
    simp only [D02] at h1
    exact ⟨o, ho, h1.1, A7d h1.2⟩
   ·cases h1
  ·exact ih h.2 id A2
theorem A7e {l : List Nat} : ∀ {j : Nat}, j < l.length → ∃ id, A3I l j = some id ∧ id ∈ l := by
 induction l with
 | nil => intro j h; cases h
 | cons k r ih =>
  intro j h
  cases j with
  | zero => exact ⟨k, rfl, by simp⟩
  | succ j => obtain ⟨id, h1, h2⟩ := ih (j := j) (by simpa using h); exact ⟨id, h1, by simp [h2]⟩
theorem A0s {l : List Nat} : ∀ {j : Nat}, l.length ≤ j → A3I l j = none := by
 induction l with
 | nil => intro j _; rfl
 | cons k r ih => intro j h; cases j with
  | zero => cases h
  | succ j => exact ih (by simpa using h)
theorem B12 {l : List Nat} : ∀ {j id : Nat}, A3I l j = some id → j < l.length := by
 intro j id h
 by_cases hj : j < l.length
 ·exact hj
 ·rw [A0s (by omega)] at h; cases h
theorem C0x {l : List Nat} (hn : l.Nodup) : ∀ {j id : Nat}, A3I l j = some id → M6 l id = j := by
 induction l with
 | nil => intro j id h; cases h
 | cons k r ih =>
  intro j id h
  obtain ⟨n1, n2⟩ := List.nodup_cons.1 hn
  cases j with
  | zero => cases h; unfold M6; rw [Nat.beq_refl]; rfl
  | succ j =>
   have h' : A3I r j = some id := h
   have A2 : id ∈ r := by
    obtain ⟨id', h1, h2⟩ := A7e (B12 h')
    rw [h'] at h1; cases h1; exact h2
   have : k ≠ id := fun q => n1 (q ▸ A2)
   unfold M6; rw [A6m this]
   show M6 r id + 1 = j + 1
   rw [ih n2 h']
theorem B13 {l : List Nat} : ∀ {id : Nat}, id ∈ l → A3I l (M6 l id) = some id ∧ M6 l id < l.length := by
 induction l with
 | nil => intro id h; cases h
 | cons k r ih =>
  intro id h
  unfold M6
  by_cases hk : k = id
  ·subst hk; rw [Nat.beq_refl]; exact ⟨rfl, by simp⟩
  ·rw [A6m hk]
   obtain ⟨h1, h2⟩ := ih ((List.mem_cons.1 h).resolve_left (fun q => hk q.symm))
   exact ⟨h1, by show M6 r id + 1 < _; simp; omega⟩
theorem B14 {L : List Nat} : ∀ {l : List Nat} {j : Nat}, ofL (W9 of L l) j = (A3I l j).map fun id => match of id with
  | some o => rnO (M6 L) (A7V of) id o
  | none => .lp none := by
 intro l
 induction l with
 | nil => intro j; rfl
 | cons k r ih => intro j; cases j with
  | zero => rfl
  | succ j => exact ih
theorem B15 : ∀ (l : List Ob) (n : Nat) (f : Nat → Option Ob) (j : Nat), put f (A1v n l) j = if n ≤ j then (match ofL l (j - n) with | some o => some o | none => f j) else f j := by
 intro l
 induction l with
 | nil => intro n f j; simp [A1v, put, ofL]
 | cons o r ih =>
  intro n f j
  simp only [A1v, put]
  rw [ih]
  by_cases h1 : n + 1 ≤ j
  ·rw [if_pos h1, if_pos (by omega), show j - n = (j - (n + 1)) + 1 by omega]
   simp only [ofL]
   cases ofL r (j - (n + 1)) with
   | some _ => rfl
   | none => simp only; rw [A3 _ _ (by omega)]
  ·rw [if_neg h1]
   by_cases h2 : n ≤ j
   ·have : j = n := by omega
    subst this
    rw [if_pos (Nat.le_refl _), Nat.sub_self, upd_same]; rfl
   ·rw [if_neg h2, A3 _ _ (by omega)]
theorem A5c {L : List Nat} {nx : Nat} : ∀ (l : List (Nat × Ob)) (f g : Nat → Option Ob) (j : Nat), (∀ i ∈ V3 l, J2 L nx i = J2 L nx j → i = j) →
  g (J2 L nx j) = (f j).map (rnO (J2 L nx) (A6U of L) j) → put g (A0g of L nx l) (J2 L nx j) = (put f l j).map (rnO (J2 L nx) (A6U of L) j) := by
 intro l
 induction l with
 | nil => intro f g j _ h; exact h
 | cons p r ih =>
  intro f g j hi h
  obtain ⟨k, o⟩ := p
  simp only [A0g, put]
  refine ih _ _ j (fun i A2 => hi i (by simp only [V3, List.map_cons, List.mem_cons]; exact .inr A2)) ?_
  by_cases hk : j = k
  ·subst hk; rw [upd_same, upd_same]; rfl
  ·have hne : J2 L nx j ≠ J2 L nx k := fun q => hk (hi k (by simp [V3]) q.symm).symm
   rw [A3 _ _ hne, A3 _ _ hk]; exact h
theorem C0y {L : List Nat} {nx : Nat} : ∀ (l : List (Nat × Ob)) (g : Nat → Option Ob) (id : Nat), (∀ i ∈ V3 l, J2 L nx i ≠ id) → put g (A0g of L nx l) id = g id := by
 intro l
 induction l with
 | nil => intro g id _; rfl
 | cons p r ih =>
  intro g id hi
  simp only [A0g, put]
  rw [ih _ id (fun i A2 => hi i (by simp only [V3, List.map_cons, List.mem_cons]; exact .inr A2))]
  exact A3 _ _ fun q => hi p.1 (by simp [V3]) q.symm
theorem B0h : ∀ (l : List (Nat × Ob)) (f : Nat → Option Ob) (j : Nat), (j ∈ V3 l ∨ (f j).isSome) → (put f l j).isSome := by
 intro l
 induction l with
 | nil => intro f j h; exact h.resolve_left (fun q => by cases q)
 | cons p r ih =>
  intro f j h
  refine ih _ j ?_
  by_cases hj : j = p.1
  ·right; subst hj; rw [upd_same]; rfl
  ·rcases h with h | h
   ·left; simp only [V3, List.map_cons, List.mem_cons] at h; exact h.resolve_left hj
   ·right; rw [A3 _ _ hj]; exact h
theorem B5r : ∀ (l : List (Nat × Ob)) (f : Nat → Option Ob), B3q l = true → (∀ j o, f j = some o → okT o = true) → ∀ j o, put f l j = some o → okT o = true := by
 intro l
 induction l with
 | nil => intro f _ h j o; exact h j o
 | cons p r ih =>
  intro f ha h j o hj
  simp only [B3q, D02] at ha
  refine ih _ ha.2 (fun j o hj => ?_) j o hj
  by_cases hk : j = p.1
  ·subst hk; rw [upd_same] at hj; cases hj; exact ha.1
  ·rw [A3 _ _ hk] at hj; exact h j o hj
theorem C5i {ρ : Nat → Nat} {τ : Nat → Nat → Option Nat} {id : Nat} {o : Ob} : okT (rnO ρ τ id o) = true := by
 cases o with
 | lp q => rfl
 | it q => cases q <;> rfl
 | _ => rfl
theorem C7.usedR {a : A} {v : Value} (h : C7 T e a v) : ∀ id ∈ E3 a, e.U id := by
 by_cases ht : ∃ l, a = .t l
 ·obtain ⟨l, rfl⟩ := ht
  obtain ⟨xs, rfl, h2, h3⟩ := h
  have key : ∀ (l : List A) (k0 : Nat), (∀ (i : Nat) v, l[i]? = some v → ∃ x, H6 T e v x) → ∀ id ∈ F2 l, e.U id := by
   intro l
   induction l with
   | nil => intro _ _ id A2; cases A2
   | cons a r ih =>
    intro k0 h id A2
    simp only [F2, D1c] at A2
    rcases A2 with A2 | A2
    ·obtain ⟨x, hx⟩ := h 0 a rfl; exact hx.used id A2
    ·exact ih 0 (fun i v hv => h (i + 1) v (by simpa using hv)) id A2
  intro id A2
  refine key l 0 (fun i v hv => ?_) id (by simpa [E3] using A2)
  have hi : i < xs.size := by
   have := (List.getElem?_eq_some_iff.1 hv).1; omega
  exact ⟨xs[i], h3 i v _ hv (by simp [hi])⟩
 ·exact (A4R h fun l hl => ht ⟨l, hl⟩).used
def C4q (P : Program) (T : TT) (f : FuncId) (s : Sym) : Prop :=
 ∀ (c : Q0) (e : B4) (of : Nat → Option Ob) (args : List A) (vals : Array Value) (nx : Nat) (out : V9), A6 T c e of → s args of nx = some out → (∀ id, nx ≤ id → id < out.nx → ¬ e.U id) → T8 T e args vals.toList → E0 P (callFunc f vals) e.w (X5 T c e of nx out)
theorem N3.at_ {f : FuncId} {s : Sym} (h : N3 P T f s) : C4q P T f s := fun c e of args vals nx out hos hr hu hv => h c e of of args vals nx out hos hr (fun _ _ => rfl) hu hv
theorem A3J {f : FuncId} {s : E7} (hn : s.nat) (hs : C4q P T f s.dir) : N3 P T f (trS s).dir := by
 intro c e of of' args vals nx out hos hrun hro hu hvals
 unfold E7.dir trS at hrun
 simp only at hrun
 generalize Y0 of 64 (F2 args) [] = L at hrun
 cases hc : (A3H L && (B3p of L L && B0g L (F2 args))) with
 | false => rw [hc] at hrun; cases hrun
 | true =>
 rw [hc] at hrun
 simp only [cond_true] at hrun
 rw [hn V9] at hrun
 obtain ⟨out0, hout0, hk⟩ := A3g hrun
 cases hc2 : (Nat.ble L.length out0.nx && B3q out0.wo) with
 | false => rw [hc2] at hk; cases hk
 | true =>
 rw [hc2] at hk
 simp only [cond_true, D04] at hk
 subst hk
 simp only [D02] at hc hc2
 obtain ⟨hnd, hck, hsa⟩ := hc
 obtain ⟨hm, hat⟩ := hc2
 have hm := D07 hm
 have hnd := A8V hnd
 have hck := B3r hck
 have hsa := A7d hsa
 have hobj : ∀ id ∈ L, ∃ o, of id = some o ∧ of' id = some o ∧ okT o = true ∧ (∀ k ∈ A1N o, k ∈ L) ∧ OK T e id o := fun id A2 => by
  obtain ⟨o, h1, h2, h3⟩ := hck id A2
  have h4 : of' id = some o := (hro id A2).trans h1
  exact ⟨o, h1, h4, h2, h3, hos.ok id o h4⟩
 have hbn : ∀ id ∈ L, e.bn id = T6 of id := fun id A2 => by
  obtain ⟨o, h1, h2, h3, h4, h5⟩ := hobj id A2
  unfold T6
  rw [h1]
  cases o with
  | row el ver xs nl sh => exact h5.2.2.1
  | box t a sh => exact h5.2.1
  | map kt et es => exact h5.2.1
  | vm kt et es => exact h5.2.1
  | sm kt st el es ho => exact h5.2.1
  | lp q => cases q <;> exact h5.2.1
  | it q => cases q <;> exact h5.2.1
 have hU : ∀ id ∈ L, e.U id := fun id A2 => by
  obtain ⟨o, _, _, _, _, h5⟩ := hobj id A2; exact h5.use
 have hpos : ∀ id ∈ L, ∀ el ver xs nl sh, of id = some (.row el ver xs nl sh) → 0 < ver := fun id A2 el ver xs nl sh h => by
  obtain ⟨o, h1, _, _, _, h5⟩ := hobj id A2
  rw [h1] at h; cases h; exact h5.2.1
 let g : Nat → Nat := fun j => (A3I L j).getD 0
 have hg : ∀ j, j < L.length → A3I L j = some (g j) ∧ g j ∈ L := fun j hj => by
  obtain ⟨id, h1, h2⟩ := A7e hj
  simp only [g, h1]; exact ⟨rfl, h2⟩
 let e0 : B4 := { w := e.w, ι := fun j => if j < L.length then e.ι (g j) else none, S := e.S, bn := fun j => if T6 of (g j) = 0 then 0 else 1, U := fun j => j < L.length, ty := fun j => e.ty (g j), ln := fun j => e.ln (g j), G := fun a b => e.G a b ∧ ∃ id ∈ L, ∃ o, e.ι id = some (a, o) }
 let c0 : Q0 := { w0 := e.w, M := fun b => (∃ id ∈ L, ∃ o, e.ι id = some (b, o)) ∨ ∃ a, e.G a b ∧ ∃ id ∈ L, ∃ o, e.ι id = some (a, o), S0 := e.S }
 have hgi : ∀ id ∈ L, g (M6 L id) = id ∧ M6 L id < L.length := fun id A2 => by
  obtain ⟨h1, h2⟩ := B13 A2
  simp only [g, h1]; exact ⟨rfl, h2⟩
 have hig : ∀ j, j < L.length → M6 L (g j) = j := fun j hj => C0x hnd (hg j hj).1
 have ren0 : REN e e0 (M6 L) (A7V of) (fun id => id ∈ L) := by
  refine ⟨rfl, fun _ _ => Iff.rfl, fun id A2 _ => (hgi id A2).2, fun id A2 _ => ?_, fun id A2 _ => ?_, fun id A2 _ => ?_, fun id A2 _ hb => ?_, fun id ver v A2 _ hτ h0 hle => ?_, fun id a o b A2 _ hι hG => ⟨hG, id, A2, o, hι⟩⟩
  ·show (if M6 L id < L.length then e.ι (g (M6 L id)) else none) = _
   rw [if_pos (hgi id A2).2, (hgi id A2).1]
  ·show e.ty (g (M6 L id)) = _; rw [(hgi id A2).1]
  ·show e.ln (g (M6 L id)) = _; rw [(hgi id A2).1]
  ·show (if T6 of (g (M6 L id)) = 0 then 0 else 1) = 0
   rw [(hgi id A2).1, ← hbn id A2, if_pos hb]
  ·unfold A7V at hτ
   cases hq : Nat.beq (T6 of id) ver with
   | false => rw [hq] at hτ; cases hτ
   | true =>
    rw [hq] at hτ; cases hτ
    have hq := D01 hq
    refine ⟨by omega, ?_, fun _ => by rw [hbn id A2, hq]⟩
    show 1 ≤ (if T6 of (g (M6 L id)) = 0 then 0 else 1)
    rw [(hgi id A2).1, hq, if_neg (by omega)]; exact Nat.le_refl 1
 have hcan : ∀ j o, ofL (W9 of L L) j = some o → j < L.length ∧ ∃ o1, of (g j) = some o1 ∧ o = rnO (M6 L) (A7V of) (g j) o1 := fun j o hj => by
  rw [B14] at hj
  cases hgj : A3I L j with
  | none => rw [hgj] at hj; cases hj
  | some id =>
   have hlt := B12 hgj
   obtain ⟨h1, h2⟩ := hg j hlt
   rw [h1] at hj
   obtain ⟨o1, p1, _⟩ := hobj _ h2
   simp only [Option.map_some, D04, p1] at hj
   exact ⟨hlt, o1, p1, hj.symm⟩
 have hcan1 : ∀ j, j < L.length → (ofL (W9 of L L) j).isSome := fun j hj => by
  rw [B14, (hg j hj).1]; rfl
 have hsome' : ∀ id ∈ L, (of' id).isSome := fun id A2 => by
  obtain ⟨o, _, h2, _⟩ := hobj id A2; rw [h2]; rfl
 have hos0 : A6 T c0 e0 (ofL (W9 of L L)) := by
  refine ⟨fun j o hj => ?_, fun i j b o b' o' hi hj hbi hbj hne => ?_, fun j b o hj hb => ?_, fun j b o hj hb => ?_, fun b i h => hos.slt b i h, fun _ _ h => h, fun _ _ h => .inl h, rfl, rfl, rfl, Nat.le_refl _, fun _ _ _ => rfl, ⟨fun a b hG j b' o hj hb => ?_, fun a a' b h1 h2 => hos.g.uniq a a' b h1.1 h2.1, fun a b hG => .inr (.inr ⟨a, hG.1, hG.2⟩), fun a b hG => hos.g.lt a b hG.1⟩⟩
  ·obtain ⟨hlt, o1, h1, rfl⟩ := hcan j o hj
   obtain ⟨o2, p1, p2, p3, p4, p5⟩ := hobj _ (hg j hlt).2
   rw [h1] at p1; cases p1
   have := p5.ren ren0 (hg j hlt).2 p4 p3 (fun el ver xs nl sh he => by
    subst he
    have hv : T6 of (g j) = ver := by unfold T6; rw [h1]
    have hp := hpos _ (hg j hlt).2 _ _ _ _ _ h1
    refine ⟨1, by unfold A7V; rw [hv, Nat.beq_refl]; rfl, ?_⟩
    show (if T6 of (g (M6 L (g j))) = 0 then 0 else 1) = 1
    rw [hig j hlt, hv, if_neg (by omega)])
   rw [hig j hlt] at this
   exact this
  ·obtain ⟨oi, hi⟩ := D06.1 hi
   obtain ⟨oj, hj⟩ := D06.1 hj
   obtain ⟨li, _⟩ := hcan i oi hi
   obtain ⟨lj, _⟩ := hcan j oj hj
   have hbi : (if i < L.length then e.ι (g i) else none) = some (b, o) := hbi
   have hbj : (if j < L.length then e.ι (g j) else none) = some (b', o') := hbj
   rw [if_pos li] at hbi; rw [if_pos lj] at hbj
   exact hos.sep _ _ _ _ _ _ (hsome' _ (hg i li).2) (hsome' _ (hg j lj).2) hbi hbj (fun q => hne (by rw [← hig i li, q, hig j lj]))
  ·obtain ⟨oj, hj⟩ := D06.1 hj
   obtain ⟨lj, _⟩ := hcan j oj hj
   have hb : (if j < L.length then e.ι (g j) else none) = some (b, o) := hb
   rw [if_pos lj] at hb
   exact .inr (.inl ⟨g j, (hg j lj).2, o, hb⟩)
  ·have lj : j < L.length := hj
   have hb : (if j < L.length then e.ι (g j) else none) = some (b, o) := hb
   rw [if_pos lj] at hb
   exact hos.lt _ _ _ (hU _ (hg j lj).2) hb
  ·obtain ⟨oj, hj⟩ := D06.1 hj
   obtain ⟨lj, _⟩ := hcan j oj hj
   have hb : (if j < L.length then e.ι (g j) else none) = some (b', o) := hb
   rw [if_pos lj] at hb
   exact hos.g.sep a b hG.1 (g j) b' o (hsome' _ (hg j lj).2) hb
 have hreps0 : T8 T e0 (rnL (M6 L) (A7V of) args) vals.toList := hvals.ren ren0 hsa
 refine F9 (hs c0 e0 (ofL (W9 of L L)) _ vals L.length out0 hos0 hout0 (fun j h1 _ (h : j < L.length) => by omega) hreps0) ?_
 rintro x w' ⟨e1, rfl, k1, k2, k3, k4⟩
 have k3 : ∀ j, e1.U j → j < out0.nx := fun j hj => by
  rcases k3 j hj with h | h
  ·have h : j < L.length := h; omega
  ·exact h.2
 have k3' : ∀ j, j < L.length → e1.U j := fun j hj => k2.use j hj
 let img : Nat → Prop := fun id => id ∈ L ∨ (nx ≤ id ∧ id < nx + (out0.nx - L.length))
 let inv : Nat → Nat := fun id => if id ∈ L then M6 L id else L.length + (id - nx)
 let dl : Nat → Nat := fun j => if j < L.length then T6 of (g j) - 1 else 0
 haveI : ∀ id, Decidable (img id) := fun id => inferInstanceAs (Decidable (id ∈ L ∨ (nx ≤ id ∧ id < nx + (out0.nx - L.length))))
 let e2 : B4 := { w := e1.w, S := e1.S, ι := fun id => if img id then e1.ι (inv id) else e.ι id, bn := fun id => if img id then e1.bn (inv id) + dl (inv id) else e.bn id, U := fun id => if img id then e1.U (inv id) else e.U id, ty := fun id => if img id then e1.ty (inv id) else e.ty id, ln := fun id => if img id then e1.ln (inv id) else e.ln id, G := fun a b => e1.G a b ∨ (e.G a b ∧ ¬ ∃ id ∈ L, ∃ o, e.ι id = some (a, o)) }
 have hnew : ∀ id, nx ≤ id → id < nx + (out0.nx - L.length) → id ∉ L := fun id h1 h2 A2 => hu id h1 h2 (hU id A2)
 have hrho : ∀ j, j < out0.nx → img (J2 L nx j) ∧ inv (J2 L nx j) = j := fun j hj => by
  by_cases hl : j < L.length
  ·obtain ⟨h1, h2⟩ := hg j hl
   have : J2 L nx j = g j := by unfold J2; rw [h1]
   rw [this]
   refine ⟨.inl h2, ?_⟩
   simp only [inv]; rw [if_pos h2, hig j hl]
  ·have : J2 L nx j = nx + (j - L.length) := by unfold J2; rw [A0s (by omega)]
   rw [this]
   have hlt : nx + (j - L.length) < nx + (out0.nx - L.length) := by omega
   refine ⟨.inr ⟨by omega, hlt⟩, ?_⟩
   simp only [inv]; rw [if_neg (hnew _ (by omega) hlt)]; omega
 have hinv : ∀ id, img id → inv id < out0.nx ∧ J2 L nx (inv id) = id := fun id A2 => by
  by_cases hl : id ∈ L
  ·obtain ⟨h1, h2⟩ := B13 hl
   simp only [inv]; rw [if_pos hl]
   refine ⟨by omega, ?_⟩
   unfold J2; rw [h1]
  ·have A2 := A2.resolve_left hl
   simp only [inv]; rw [if_neg hl]
   refine ⟨by omega, ?_⟩
   unfold J2; rw [A0s (by omega)]; simp only; omega
 have hrinj : ∀ i j, i < out0.nx → j < out0.nx → J2 L nx i = J2 L nx j → i = j := fun i j hi hj h => by
  rw [← (hrho i hi).2, ← (hrho j hj).2, h]
 have ren1 : REN e1 e2 (J2 L nx) (A6U of L) (fun j => e1.U j) := by
  refine ⟨rfl, fun _ _ => Iff.rfl, fun j _ hj => ?_, fun j _ hj => ?_, fun j _ hj => ?_, fun j _ hj => ?_, fun j _ hj hb => ?_, fun j ver v _ hj hτ h0 hle => ?_, fun _ _ _ _ _ _ _ hG => .inl hG⟩
  ·show if img (J2 L nx j) then e1.U (inv (J2 L nx j)) else e.U (J2 L nx j)
   obtain ⟨h1, h2⟩ := hrho j (k3 j hj)
   rw [if_pos h1, h2]; exact hj
  ·show (if img (J2 L nx j) then e1.ι (inv (J2 L nx j)) else e.ι (J2 L nx j)) = _
   obtain ⟨h1, h2⟩ := hrho j (k3 j hj)
   rw [if_pos h1, h2]
  ·show (if img (J2 L nx j) then e1.ty (inv (J2 L nx j)) else e.ty (J2 L nx j)) = _
   obtain ⟨h1, h2⟩ := hrho j (k3 j hj)
   rw [if_pos h1, h2]
  ·show (if img (J2 L nx j) then e1.ln (inv (J2 L nx j)) else e.ln (J2 L nx j)) = _
   obtain ⟨h1, h2⟩ := hrho j (k3 j hj)
   rw [if_pos h1, h2]
  ·show (if img (J2 L nx j) then e1.bn (inv (J2 L nx j)) + dl (inv (J2 L nx j)) else e.bn (J2 L nx j)) = 0
   obtain ⟨h1, h2⟩ := hrho j (k3 j hj)
   rw [if_pos h1, h2, hb]
   simp only [dl]
   by_cases hl : j < L.length
   ·rw [if_pos hl]
    have := k2.up j hl
    have hq : (if T6 of (g j) = 0 then 0 else 1) ≤ e1.bn j := this
    by_cases hv : T6 of (g j) = 0
    ·omega
    ·rw [if_neg hv] at hq; omega
   ·rw [if_neg hl]
  ·have e2bn : e2.bn (J2 L nx j) = e1.bn j + dl j := by
    show (if img (J2 L nx j) then e1.bn (inv (J2 L nx j)) + dl (inv (J2 L nx j)) else e.bn (J2 L nx j)) = _
    obtain ⟨h1, h2⟩ := hrho j (k3 j hj)
    rw [if_pos h1, h2]
   have hv : v = ver + dl j := by
    unfold A6U at hτ
    simp only [dl]
    by_cases hl : j < L.length
    ·rw [(hg j hl).1] at hτ; rw [if_pos hl]; simpa using hτ.symm
    ·rw [A0s (by omega)] at hτ; rw [if_neg hl]; simpa using hτ.symm
   rw [e2bn, hv]
   exact ⟨by omega, by omega, fun h => by omega⟩
 have imgU : ∀ id, img id → e.U id → id ∈ L := fun id A2 hU' => by
  rcases A2 with h | h
  ·exact h
  ·exact absurd hU' (hu id h.1 h.2)
 have le2 : e.le e2 := by
  refine ⟨fun b i h => ⟨(k2.S b i h).1, fun y hy => (k2.S b i h).2 y hy⟩, fun id A2 => ?_, fun id A2 hbe => ?_, fun id A2 hb => ?_, fun id A2 => ?_, fun id A2 => ?_, k2.grow, k2.keep⟩
  ·show if img id then e1.U (inv id) else e.U id
   by_cases hi : img id
   ·have hl := imgU id hi A2
    rw [if_pos hi]
    refine k3' _ ?_
    simp only [inv]; rw [if_pos hl]; exact (hgi id hl).2
   ·rw [if_neg hi]; exact A2
  ·by_cases hi : img id
   ·have hl := imgU id hi A2
    have hiv : inv id = M6 L id := by simp only [inv]; rw [if_pos hl]
    have hbe : (if img id then e1.bn (inv id) + dl (inv id) else e.bn id) = e.bn id := hbe
    rw [if_pos hi, hiv] at hbe
    have hlt := (hgi id hl).2
    have hdl : dl (M6 L id) = T6 of id - 1 := by simp only [dl]; rw [if_pos hlt, (hgi id hl).1]
    have hb0 : e0.bn (M6 L id) = if T6 of id = 0 then 0 else 1 := by
     show (if T6 of (g (M6 L id)) = 0 then 0 else 1) = _
     rw [(hgi id hl).1]
    have hup := k2.up _ hlt
    rw [hbn id hl, hdl] at hbe
    have heq : e1.bn (M6 L id) = e0.bn (M6 L id) := by
     rw [hb0] at hup ⊢
     by_cases hv : T6 of id = 0
     ·rw [if_pos hv] at hup ⊢; omega
     ·rw [if_neg hv] at hup ⊢; omega
    obtain ⟨q1, q2, q3⟩ := k2.obj _ hlt heq
    have i0 : e0.ι (M6 L id) = e.ι id := by
     show (if M6 L id < L.length then e.ι (g (M6 L id)) else none) = _
     rw [if_pos hlt, (hgi id hl).1]
    refine ⟨?_, ?_, fun b o hb => ?_⟩
    ·show (if img id then e1.ι (inv id) else e.ι id) = _
     rw [if_pos hi, hiv, q1, i0]
    ·show (if img id then e1.ln (inv id) else e.ln id) = _
     rw [if_pos hi, hiv, q2]
     show e.ln (g (M6 L id)) = _
     rw [(hgi id hl).1]
    ·exact q3 b o (by rw [i0]; exact hb)
   ·refine ⟨?_, ?_, fun b o hb => k2.keep b (hos.lt _ _ _ A2 hb)⟩
    ·show (if img id then e1.ι (inv id) else e.ι id) = _; rw [if_neg hi]
    ·show (if img id then e1.ln (inv id) else e.ln id) = _; rw [if_neg hi]
  ·show (if img id then e1.bn (inv id) + dl (inv id) else e.bn id) = 0
   by_cases hi : img id
   ·have hl := imgU id hi A2
    have hiv : inv id = M6 L id := by simp only [inv]; rw [if_pos hl]
    have hlt := (hgi id hl).2
    have hv : T6 of id = 0 := by rw [← hbn id hl]; exact hb
    rw [if_pos hi, hiv]
    have hb0 : e0.bn (M6 L id) = 0 := by
     show (if T6 of (g (M6 L id)) = 0 then 0 else 1) = 0
     rw [(hgi id hl).1, if_pos hv]
    have := k2.box _ hlt hb0
    have hdl : dl (M6 L id) = 0 := by simp only [dl]; rw [if_pos hlt, (hgi id hl).1]; omega
    omega
   ·rw [if_neg hi]; exact hb
  ·show e.bn id ≤ (if img id then e1.bn (inv id) + dl (inv id) else e.bn id)
   by_cases hi : img id
   ·have hl := imgU id hi A2
    have hiv : inv id = M6 L id := by simp only [inv]; rw [if_pos hl]
    have hlt := (hgi id hl).2
    rw [if_pos hi, hiv, hbn id hl]
    have hup := k2.up _ hlt
    have hb0 : e0.bn (M6 L id) = if T6 of id = 0 then 0 else 1 := by
     show (if T6 of (g (M6 L id)) = 0 then 0 else 1) = _
     rw [(hgi id hl).1]
    have hdl : dl (M6 L id) = T6 of id - 1 := by simp only [dl]; rw [if_pos hlt, (hgi id hl).1]
    rw [hb0] at hup
    by_cases hv : T6 of id = 0
    ·omega
    ·rw [if_neg hv] at hup; omega
   ·rw [if_neg hi]; exact Nat.le_refl _
  ·show (if img id then e1.ty (inv id) else e.ty id) = _
   by_cases hi : img id
   ·have hl := imgU id hi A2
    have hiv : inv id = M6 L id := by simp only [inv]; rw [if_pos hl]
    have hlt := (hgi id hl).2
    rw [if_pos hi, hiv, k2.ty _ hlt]
    show e.ty (g (M6 L id)) = _
    rw [(hgi id hl).1]
   ·rw [if_neg hi]
 have hfin : ∀ j, put (ofL (W9 of L L)) out0.wo j = put (put (fun _ => none) (A1v 0 (W9 of L L))) out0.wo j := fun j => by
  refine A3R _ ?_
  rw [B15, if_pos (Nat.zero_le _), Nat.sub_zero]
  cases ofL (W9 of L L) j <;> rfl
 have hids : ∀ i ∈ V3 (A1v 0 (W9 of L L) ++ out0.wo), i < out0.nx := fun i hi => by
  have hs1 : (put (ofL (W9 of L L)) out0.wo i).isSome := by
   rw [hfin, ← H4]
   exact B0h _ _ _ (.inl hi)
  obtain ⟨o, ho⟩ := D06.1 hs1
  exact k3 _ (k1.ok _ _ ho).use
 have hput1 : ∀ j, j < out0.nx → put of' (A0g of L nx (A1v 0 (W9 of L L) ++ out0.wo)) (J2 L nx j) = (put (ofL (W9 of L L)) out0.wo j).map (rnO (J2 L nx) (A6U of L) j) := fun j hj => by
  rw [hfin, ← H4]
  by_cases hl : j < L.length
  ·-- overwritten by its own
   have : put of' (A0g of L nx (A1v 0 (W9 of L L) ++ out0.wo)) (J2 L nx j) = put (fun _ => none) (A0g of L nx (A1v 0 (W9 of L L) ++ out0.wo)) (J2 L nx j) := by
    have happ : A0g of L nx (A1v 0 (W9 of L L) ++ out0.wo) = A0g of L nx (A1v 0 (W9 of L L)) ++ A0g of L nx out0.wo := by
     generalize A1v 0 (W9 of L L) = l1
     induction l1 with
     | nil => rfl
     | cons p r ih => simp only [List.cons_append, A0g, ih]
    rw [happ, H4, H4]
    refine A3R _ ?_
    have hsomeN : (put (fun _ => none) (A1v 0 (W9 of L L)) j).isSome := by
     rw [B15, if_pos (Nat.zero_le _), Nat.sub_zero]
     obtain ⟨o, ho⟩ := D06.1 (hcan1 j hl)
     rw [ho]; rfl
    have hin : ∀ i ∈ V3 (A1v 0 (W9 of L L)), J2 L nx i = J2 L nx j → i = j := fun i hi h => hrinj i j (hids i (by simp only [V3, List.map_append, D1c]; exact .inl hi)) hj h
    have key : ∀ (l : List (Nat × Ob)) (f g : Nat → Option Ob) (id : Nat), (put (fun _ => none) l id).isSome ∨ f id = g id → put f l id = put g l id := by
     intro l
     induction l with
     | nil => intro f g id h; rcases h with h | h
              ·cases h
              ·exact h
     | cons p r ih =>
      intro f g id h
      refine ih _ _ id ?_
      by_cases A2 : id = p.1
      ·right; subst A2; rw [upd_same, upd_same]
      ·rw [A3 _ _ A2, A3 _ _ A2]
       rcases h with h | h
       ·left
        have : put (G6 (fun _ => none) p.1 (some p.2)) r id = put (fun _ => none) r id := A3R r (A3 _ _ A2)
        rw [← this]; exact h
       ·exact .inr h
    refine key _ _ _ _ (.inl ?_)
    rw [A5c (of := of) (A1v 0 (W9 of L L)) (fun _ => none) (fun _ => none) j hin rfl]
    obtain ⟨o, ho⟩ := D06.1 hsomeN
    rw [ho]; rfl
   rw [this]
   exact A5c (of := of) _ _ _ j (fun i hi h => hrinj i j (hids i hi) hj h) rfl
  ·refine A5c (of := of) _ _ _ j (fun i hi h => hrinj i j (hids i hi) hj h) ?_
   have hr : J2 L nx j = nx + (j - L.length) := by unfold J2; rw [A0s (by omega)]
   cases hq : of' (J2 L nx j) with
   | none => rfl
   | some o =>
    have := (hos.ok _ _ hq).use
    rw [hr] at this
    exact absurd this (hu _ (by omega) (by show nx + (j - L.length) < nx + (out0.nx - L.length); omega))
 have hput2 : ∀ id, ¬ img id → put of' (A0g of L nx (A1v 0 (W9 of L L) ++ out0.wo)) id = of' id := fun id A2 => C0y _ _ _ (fun i hi h => A2 (h ▸ (hrho i (hids i hi)).1))
 have hall : ∀ j o, put (ofL (W9 of L L)) out0.wo j = some o → okT o = true := B5r _ _ hat (fun j o hj => by
  obtain ⟨_, o1, _, rfl⟩ := hcan j o hj; exact C5i)
 have himgO : ∀ id o, img id → put of' (A0g of L nx (A1v 0 (W9 of L L) ++ out0.wo)) id = some o → ∃ o1, put (ofL (W9 of L L)) out0.wo (inv id) = some o1 ∧ o = rnO (J2 L nx) (A6U of L) (inv id) o1 := fun id o A2 ho => by
  obtain ⟨h1, h2⟩ := hinv id A2
  rw [← h2, hput1 _ h1] at ho
  cases hq : put (ofL (W9 of L L)) out0.wo (inv id) with
  | none => rw [hq] at ho; cases ho
  | some o1 => rw [hq] at ho; exact ⟨o1, rfl, by simpa using ho.symm⟩
 have hι2 : ∀ id, img id → e2.ι id = e1.ι (inv id) := fun id A2 => by
  show (if img id then e1.ι (inv id) else e.ι id) = _; rw [if_pos A2]
 have hι2' : ∀ id, ¬ img id → e2.ι id = e.ι id := fun id A2 => by
  show (if img id then e1.ι (inv id) else e.ι id) = _; rw [if_neg A2]
 have hM : ∀ b, c0.M b → c.w0.heap.size ≤ b ∨ c.M b := fun b hb => by
  rcases hb with ⟨id, A2, o, hb⟩ | ⟨a, hG, _⟩
  ·exact hos.own id b o (hsome' id A2) hb
  ·exact hos.g.own a b hG
 have hGM : ∀ a b, e.G a b → (¬ ∃ id ∈ L, ∃ o, e.ι id = some (a, o)) → ¬ c0.M b := fun a b hG hn hb => by
  rcases hb with ⟨id, A2, o, hb⟩ | ⟨a', hG', hL⟩
  ·exact hos.g.sep a b hG id b o (hsome' id A2) hb rfl
  ·exact hn (hos.g.uniq _ _ _ hG hG' ▸ hL)
 have hnM : ∀ id b o, ¬ img id → (of' id).isSome → e.ι id = some (b, o) → ¬ c0.M b ∧ b < e.w.heap.size := fun id b o A2 hs1 hb => by
  obtain ⟨o1, ho1⟩ := D06.1 hs1
  refine ⟨fun hMb => ?_, hos.lt _ _ _ (hos.ok _ _ ho1).use hb⟩
  rcases hMb with ⟨id', hid', o', hb'⟩ | ⟨a, hG, _⟩
  ·exact absurd rfl (hos.sep id id' b o b o' hs1 (hsome' id' hid') hb hb' (fun q => A2 (.inl (q ▸ hid'))))
  ·exact hos.g.sep a b hG id b o hs1 hb rfl
 refine ⟨e2, rfl, ?_, le2, fun id A2 => ?_, ?_⟩
 ·show A6 T c e2 (put of' (A0g of L nx (A1v 0 (W9 of L L) ++ out0.wo)))
  refine ⟨fun id o ho => ?_, fun i j b o b' o' hi hj hbi hbj hne => ?_, fun id b o A2 hb => ?_, fun id b o A2 hb => ?_, fun b i h => k1.slt b i h, fun b i h => (k2.S b i (hos.s0 b i h)).1, fun b i h => ?_, k1.os.trans hos.os, k1.tape.trans hos.tape, k1.output.trans hos.output, Nat.le_trans hos.size k1.size, fun k hk hm' => ?_, ⟨fun a b hG j b' o hj hb => ?_, fun a a' b h1 h2 => ?_, fun a b hG => ?_, fun a b hG => ?_⟩⟩
  ·by_cases hi : img id
   ·obtain ⟨o1, h1, rfl⟩ := himgO id o hi ho
    have hok1 := k1.ok _ _ h1
    have := hok1.ren ren1 hok1.use (fun k hk => hok1.used k hk) (hall _ _ h1) (fun el ver xs nl sh he => by
     subst he
     have hj := k3 _ hok1.use
     have hτ : A6U of L (inv id) ver = some (ver + dl (inv id)) := by
      unfold A6U
      simp only [dl]
      by_cases hl : inv id < L.length
      ·rw [(hg _ hl).1, if_pos hl]
      ·rw [A0s (by omega), if_neg hl]; rfl
     refine ⟨_, hτ, ?_⟩
     show (if img (J2 L nx (inv id)) then e1.bn (inv (J2 L nx (inv id))) + dl (inv (J2 L nx (inv id))) else e.bn (J2 L nx (inv id))) = _
     obtain ⟨q1, q2⟩ := hrho _ hj
     rw [if_pos q1, q2, hok1.2.2.1])
    rw [(hinv id hi).2] at this
    exact this
   ·rw [hput2 id hi] at ho
    refine (hos.ok id o ho).keep le2 (by show (if img id then e1.bn (inv id) + dl (inv id) else e.bn id) = _; rw [if_neg hi]) (fun b o' hb => ?_) (fun b o' i hb hs' => ?_) (fun a o' b hb hG => ?_)
    ·obtain ⟨h1, h2⟩ := hnM id b o' hi (by rw [ho]; rfl) hb
     exact k1.block b h2 h1
    ·obtain ⟨h1, h2⟩ := hnM id b o' hi (by rw [ho]; rfl) hb
     rcases k1.snew b i hs' with h | h | h
     ·exact h
     ·have h : e.w.heap.size ≤ b := h; omega
     ·exact absurd h h1
    ·obtain ⟨h1, h2⟩ := hnM id a o' hi (by rw [ho]; rfl) hb
     have hn : ¬ ∃ id ∈ L, ∃ o, e.ι id = some (a, o) := fun q => h1 (.inl q)
     have hb1 := hGM a b hG hn
     have hlt := hos.g.lt a b hG
     refine ⟨.inr ⟨hG, hn⟩, k1.block b hlt hb1, fun i hs' => ?_⟩
     rcases k1.snew b i hs' with h | h | h
     ·exact h
     ·have h : e.w.heap.size ≤ b := h; omega
     ·exact absurd h hb1
  ·by_cases h1 : img i <;> by_cases h2 : img j
   ·rw [hι2 i h1] at hbi; rw [hι2 j h2] at hbj
    obtain ⟨oi, hi⟩ := D06.1 hi
    obtain ⟨oj, hj⟩ := D06.1 hj
    obtain ⟨o1, p1, _⟩ := himgO i oi h1 hi
    obtain ⟨o2, p2, _⟩ := himgO j oj h2 hj
    exact k1.sep _ _ _ _ _ _ (by rw [p1]; rfl) (by rw [p2]; rfl) hbi hbj (fun q => hne (by rw [← (hinv i h1).2, q, (hinv j h2).2]))
   ·rw [hι2 i h1] at hbi; rw [hι2' j h2] at hbj
    obtain ⟨oi, hi⟩ := D06.1 hi
    obtain ⟨o1, p1, _⟩ := himgO i oi h1 hi
    rw [hput2 j h2] at hj
    obtain ⟨q1, q2⟩ := hnM j b' o' h2 hj hbj
    rcases k1.own _ b o (by rw [p1]; rfl) hbi with h | h
    ·have h : e.w.heap.size ≤ b := h; intro q; omega
    ·intro q; exact q1 (q ▸ h)
   ·rw [hι2' i h1] at hbi; rw [hι2 j h2] at hbj
    obtain ⟨oj, hj⟩ := D06.1 hj
    obtain ⟨o2, p2, _⟩ := himgO j oj h2 hj
    rw [hput2 i h1] at hi
    obtain ⟨q1, q2⟩ := hnM i b o h1 hi hbi
    rcases k1.own _ b' o' (by rw [p2]; rfl) hbj with h | h
    ·have h : e.w.heap.size ≤ b' := h; intro q; omega
    ·intro q; exact q1 (q ▸ h)
   ·rw [hι2' i h1] at hbi; rw [hι2' j h2] at hbj
    rw [hput2 i h1] at hi; rw [hput2 j h2] at hj
    exact hos.sep _ _ _ _ _ _ hi hj hbi hbj hne
  ·by_cases h1 : img id
   ·rw [hι2 id h1] at hb
    obtain ⟨o1, A2⟩ := D06.1 A2
    obtain ⟨o2, p1, _⟩ := himgO id o1 h1 A2
    rcases k1.own _ b o (by rw [p1]; rfl) hb with h | h
    ·have h : e.w.heap.size ≤ b := h
     have := hos.size; exact .inl (by omega)
    ·exact hM b h
   ·rw [hι2' id h1] at hb; rw [hput2 id h1] at A2
    exact hos.own id b o A2 hb
  ·by_cases h1 : img id
   ·rw [hι2 id h1] at hb
    have A2 : if img id then e1.U (inv id) else e.U id := A2
    rw [if_pos h1] at A2
    exact k1.lt _ _ _ A2 hb
   ·rw [hι2' id h1] at hb
    have A2 : if img id then e1.U (inv id) else e.U id := A2
    rw [if_neg h1] at A2
    have := hos.lt _ _ _ A2 hb
    have := k2.grow
    have : e.w.heap.size ≤ e1.w.heap.size := this
    show b < e1.w.heap.size; omega
  ·rcases k1.snew b i h with h | h | h
   ·exact hos.snew b i h
   ·have h : e.w.heap.size ≤ b := h
    have := hos.size; exact .inr (.inl (by omega))
   ·exact .inr (hM b h)
  ·have hnm : ¬ c0.M k := fun h => by
    rcases hM k h with h | h
    ·omega
    ·exact hm' h
   exact (k1.block k (Nat.lt_of_lt_of_le hk hos.size) hnm).trans (hos.block k hk hm')
  ·have hG : e1.G a b ∨ (e.G a b ∧ ¬ ∃ id ∈ L, ∃ o, e.ι id = some (a, o)) := hG
   by_cases h1 : img j
   ·rw [hι2 j h1] at hb
    obtain ⟨o1, hj⟩ := D06.1 hj
    obtain ⟨o2, p1, _⟩ := himgO j o1 h1 hj
    rcases hG with hG | ⟨hG, hn⟩
    ·exact k1.g.sep a b hG (inv j) b' o (by rw [p1]; rfl) hb
    ·have hlt := hos.g.lt a b hG
     rcases k1.own _ b' o (by rw [p1]; rfl) hb with h | h
     ·have h : e.w.heap.size ≤ b' := h; intro q; omega
     ·intro q; exact hGM a b hG hn (q ▸ h)
   ·rw [hι2' j h1] at hb
    rw [hput2 j h1] at hj
    obtain ⟨q1, q2⟩ := hnM j b' o h1 hj hb
    rcases hG with hG | ⟨hG, hn⟩
    ·rcases k1.g.own a b hG with h | h
     ·have h : e.w.heap.size ≤ b := h; intro q; omega
     ·intro q; exact q1 (q ▸ h)
    ·exact hos.g.sep a b hG j b' o hj hb
  ·have h1 : e1.G a b ∨ (e.G a b ∧ ¬ ∃ id ∈ L, ∃ o, e.ι id = some (a, o)) := h1
   have h2 : e1.G a' b ∨ (e.G a' b ∧ ¬ ∃ id ∈ L, ∃ o, e.ι id = some (a', o)) := h2
   have cross : ∀ a a', e1.G a b → e.G a' b → (¬ ∃ id ∈ L, ∃ o, e.ι id = some (a', o)) → False := fun a a' g1 g2 hn => by
    have hlt := hos.g.lt a' b g2
    rcases k1.g.own a b g1 with h | h
    ·have h : e.w.heap.size ≤ b := h; omega
    ·exact hGM a' b g2 hn h
   rcases h1 with h1 | ⟨h1, n1⟩ <;> rcases h2 with h2 | ⟨h2, n2⟩
   ·exact k1.g.uniq _ _ _ h1 h2
   ·exact (cross a a' h1 h2 n2).elim
   ·exact (cross a' a h2 h1 n1).elim
   ·exact hos.g.uniq _ _ _ h1 h2
  ·have hG : e1.G a b ∨ (e.G a b ∧ ¬ ∃ id ∈ L, ∃ o, e.ι id = some (a, o)) := hG
   rcases hG with hG | ⟨hG, _⟩
   ·rcases k1.g.own a b hG with h | h
    ·have h : e.w.heap.size ≤ b := h
     have := hos.size; exact .inl (by omega)
    ·exact hM b h
   ·exact hos.g.own a b hG
  ·have hG : e1.G a b ∨ (e.G a b ∧ ¬ ∃ id ∈ L, ∃ o, e.ι id = some (a, o)) := hG
   rcases hG with hG | ⟨hG, _⟩
   ·exact k1.g.lt a b hG
   ·have := hos.g.lt a b hG
    have := k2.grow
    have : e.w.heap.size ≤ e1.w.heap.size := this
    show b < e1.w.heap.size; omega
 ·have A2 : if img id then e1.U (inv id) else e.U id := A2
  by_cases h1 : img id
  ·rcases h1 with h | h
   ·exact .inl (hU id h)
   ·exact .inr h
  ·rw [if_neg h1] at A2; exact .inl A2
 ·exact k4.ren ren1 (fun id A2 => k4.usedR id A2)
variable {P : Program} {T : TT} {c : Q0} {e eb : B4} {of of' : Nat → Option Ob}
def B5s (of : Nat → Option Ob) : Nat → List (Nat × Ob)
 | 0 => []
 | n + 1 => match of n with
  | some o => (n, o) :: B5s of n
  | none => B5s of n
def dnL : Nat → List Nat
 | 0 => []
 | n + 1 => n :: dnL n
def B0i (of : Nat → Option Ob) (n : Nat) : Tr := A0N .e (B5s of n)
theorem C0z {n id : Nat} (h : id < n) : id ∈ dnL n := by
 induction n with
 | zero => cases h
 | succ n ih =>
  simp only [dnL, List.mem_cons]
  by_cases A2 : id = n
  ·exact .inl A2
  ·exact .inr (ih (by omega))
theorem B5t {n : Nat} : (∀ id, id < n → of' id = of id) → put of' (B5s of n) = of' := by
 induction n with
 | zero => intro _; rfl
 | succ n ih =>
  intro h
  have e := ih (fun id A2 => h id (by omega))
  simp only [B5s]
  cases ho : of n with
  | none => exact e
  | some o =>
   simp only [put]
   have : G6 of' n (some o) = of' := by
    funext k
    by_cases hk : k = n
    ·subst hk; rw [upd_same, h k (by omega), ho]
    ·rw [A3 _ _ hk]
   rw [this]; exact e
theorem B3s {n : Nat} (h : ∀ id, id < n → of' id = of id) : D7 (B0i of n) of' = of' := by
 unfold B0i
 rw [A0x]
 have : D7 Tr.e of' = of' := by funext id; unfold D7; rw [Tr.get_e]
 rw [this]; exact B5t h
def runP (P : Program) (T : TT) (K : KS) (Lo : Nat → A31) (fu f : Nat) : Sym := fun args of nx =>
 match P.funcs[f]? with
 | some fn => match fn.body with
  | some code => if !(fn.name == "runtime.NumGoroutine") && Nat.ble args.length fn.ntmps then
    (match Q7 T K (Lo nx) fu fn.ntmps of code ⟨A3o 0 args, B0i of nx, dnL nx, nx, some []⟩ with
    | some (ex, σ) => if B4N ex then
      (match σ.mks with
      | some ms => if A8x nx σ.nx σ.ob.get ms then
       (match A34 T (H2 σ.sl) (D7 σ.ob of) fn.results.toList with
       | some (v, ro) => some (A4w ms (A3n nx v σ ro))
       | none => none) else none
      | none => none) else none
    | none => none) else none
  | none => none
 | none => none
theorem C0A (hm : P.follows .mixedOrders = true) (hT : K0 T P) {K : KS} (hK : X2 P T K) {Lo : Nat → A31} {fu f : Nat} (hL : ∀ n0 fn code, P.funcs[f]? = some fn → fn.body = some code → N2 P T fn.ntmps n0 (Lo n0) code) : N3 P T f (runP P T K Lo fu f) := by
 intro c e of of' args vals nx out hos hr hro hu hvals
 unfold runP at hr
 split at hr <;> try (cases hr; done)
 rename_i fn hf
 split at hr <;> try (cases hr; done)
 rename_i code hb
 split at hr <;> try (cases hr; done)
 rename_i hcc
 simp only [D02, Bool.not_eq_true'] at hcc
 obtain ⟨hn, hargs⟩ := hcc
 have hargs := D07 hargs
 split at hr <;> try (cases hr; done)
 rename_i ex σ hx
 split at hr <;> try (cases hr; done)
 rename_i hend
 split at hr <;> try (cases hr; done)
 rename_i ms hmk
 split at hr <;> try (cases hr; done)
 rename_i hmb
 obtain ⟨hms, hnd⟩ := A7F _ hmb
 split at hr <;> try (cases hr; done)
 rename_i v ro hres
 injection hr with hr
 obtain ⟨q1, q2, q3, q4⟩ := A53 ms (A3n nx v σ ro)
 obtain ⟨o1, o2, o3, o4⟩ := A2u nx v σ ro
 rw [hr] at q1 q2 q3 q4
 have o1 := q1.trans o1
 have o2 := q2.trans o2
 have o3 := q3.trans o3
 have hcall : (callFunc f vals).run P e.w = .ok (.enter f vals) e.w := by
  have hn' : ¬ fn.name = "runtime.NumGoroutine" := by simpa using hn
  simp [callFunc, hf, hn', hb]
 refine .inr (.inr (.inl ⟨f, vals, e.w, hcall, ?_⟩))
 refine (callsIn_wide (n := 0)).1 (callsIn_of_wp_marks (F := WF none) hf hb trivial ?_ rfl)
 have hlen := hvals.get.1
 rw [D08] at hlen
 obtain ⟨l1, k1⟩ := A3m (of := of) (n0 := nx) hm hT hK code (hL nx fn code hf hb) _ _ _ hx
 have hsim : Sim T { c with rd := none } e of' nx fn.ntmps ⟨A3o 0 args, B0i of nx, dnL nx, nx, some []⟩ { tmps := vals ++ Array.replicate (fn.ntmps - vals.size) undef, defers := [] } e.w := by
  refine ⟨e, rfl, ?_, B4.le.refl e, fun id A2 => .inl A2, fun t => ?_, ⟨rfl, .nil⟩, by simp; omega⟩
  ·have : D7 (B0i of nx) of' = of' := B3s fun id A2 => hro id (by rw [o2]; exact S9 _ _ _ _ (l1.1 _ (C0z A2)))
   rw [this]; exact hos.ctx none
  ·show C7 T e (H2 (A3o 0 args) t) _
   rw [A7E, if_neg (by omega), Nat.sub_zero]
   by_cases ht : t < args.length
   ·have h1 : args[t]? = some args[t] := D1e ht
    have h2 : vals.toList[t]? = some vals[t] := by rw [Array.getElem?_toList]; exact Array.getElem?_eq_getElem (by omega)
    have := hvals.get.2 t _ _ h1 h2
    have e1 : args.getD t .x = args[t] := by simp [List.getD, h1]
    have e2 : (vals ++ Array.replicate (fn.ntmps - vals.size) undef).getD t undef = vals[t] := by
     have : t < vals.size := by omega
     simp [Array.getD, Array.getElem_append_left this]
     omega
    rw [e1]
    show C7 T e _ ((vals ++ Array.replicate (fn.ntmps - vals.size) undef).getD t undef)
    rw [e2]; exact this
   ·rw [show args.getD t .x = .x by simp [List.getD, List.getElem?_eq_none (by omega : args.length ≤ t)]]
    trivial
 have hfit : A2B of of' e nx σ := ⟨fun id A2 => hro id (by rw [o2]; exact S9 _ _ _ _ A2), fun id h1 h2 => hu id h1 (by rw [o3]; exact h2)⟩
 refine S1 ?_ (k1 0 of' { c with rd := none } e _ _ (Nat.le_refl _) hfit hos.ok hsim)
 rintro ex' a w ⟨rfl, e', rfl, hst⟩
 have hmarks := hst.def_
 rw [hmk] at hmarks
 have hms' : ∀ id ∈ ms, D7 σ.ob of' id = some (.lp none) := fun id A2 => A2t (hms id A2).1
 have fin : LeavesInM (WF none) 0 P fn a.tmps (fun en w' => ∃ x, en = .returned x ∧ X5 T c e of' nx out x w') a.defers .returning e'.w := by
  refine A3p ms a.defers e' (D7 σ.ob of') hmarks.2 hms' hnd hst.os (fun e2 hle hu2 hos2 => ?_)
  have hst2 : X6 T { c with rd := none } e (H2 σ.sl) (A0h ms (D7 σ.ob of')) (fun id => e.U id ∨ (nx ≤ id ∧ id < σ.nx)) fn.ntmps σ.mks a e2 :=
   ⟨hos2, hst.le.trans hle, fun id A2 => hst.U id (hu2 id A2), fun t => (hst.sl t).mono hle, hst.def_.mono hle, hst.nt⟩
  have hres2 : A34 T (H2 σ.sl) (A0h ms (D7 σ.ob of)) fn.results.toList = some (v, ro) := by
   refine A54 (fun id t b sh A2 => ?_) hres
   unfold A0h
   have : mem id ms = false := by
    rw [← Bool.not_eq_true]; intro q
    rw [A2t (of := of) (hms id (mem_iff.1 q)).1] at A2; cases A2
   rw [this]; exact A2
  have hagree := Y5 (ob := σ.ob) (rd := out.ro) (ro := ro) (l := σ.rd) (of := of) (of' := of') (fun id A2 => hro id A2) (by rw [o2]; exact fun _ h => h)
  obtain ⟨x, g1, g2⟩ := B2S hT fn hst2 hres2 (fun id A2 => by
   unfold A0h
   rw [hagree id A2])
  refine ⟨x, g1, x, rfl, e2, rfl, ?_, hst2.le, fun id A2 => by rw [o3]; exact hst2.U id A2, by rw [o1]; exact g2⟩
  refine (hos2.unctx).sub (fun id o ho => ?_)
  rcases q4 of' id o ho with ⟨h1, h2⟩ | ⟨h1, h2⟩
  ·obtain ⟨_, h3, h4⟩ := hms id h1
   exact absurd (hos.ok _ _ h2).use (hfit.fr id h3 h4)
  ·have := A52 (of' := of') hos.ok hfit.fr id o h2
   unfold A0h
   have hm' : mem id ms = false := by
    rw [← Bool.not_eq_true]; intro q; exact h1 (mem_iff.1 q)
   rw [hm']; exact this
 cases ex' with
 | ret => exact fin
 | normal => exact fin
 | _ => cases hend
variable {R : Type}
def A0z (P : Program) (T : TT) (K : KC) (Lo : Nat → LC) (fl : Bool) (fu f : Nat) : E7 := fun R args of nx k =>
 match P.funcs[f]? with
 | some fn => match fn.body with
  | some code => bif !(fn.name == "runtime.NumGoroutine") && Nat.ble args.length fn.ntmps then
    E5 T K (Lo nx) fl fu fn.ntmps of R code ⟨A3o 0 args, B0i of nx, dnL nx, nx, some []⟩ fun ex σ => bif B4N ex then
     (match σ.mks with
     | some ms => bif A8x nx σ.nx σ.ob.get ms then
      (match A34 T (H2 σ.sl) (D7 σ.ob of) fn.results.toList with
      | some p => k (A4w ms (A3n nx p.1 σ p.2))
      | none => none) else none
     | none => none) else none
    else none
  | none => none
 | none => none
theorem A5d {P : Program} {K : KC} (hK : K.nat) {Lo : Nat → LC} (hL : ∀ n0, A1S (Lo n0)) {fl : Bool} {fu f : Nat} (R : Type) (args : List A) (of : Nat → Option Ob) (nx : Nat) (k : V9 → Option R) :
  A0z P T K Lo fl fu f R args of nx k = ob (runP P T K.dir (fun n0 => X1 (Lo n0)) fu f args of nx) k := by
 unfold A0z runP
 cases hf : P.funcs[f]? with
 | none => rfl
 | some fn =>
  simp only
  cases hb : fn.body with
  | none => rfl
  | some code =>
   simp only [N4]
   cases (!(fn.name == "runtime.NumGoroutine") && Nat.ble args.length fn.ntmps)
   ·rfl
   ·simp only [cond_true]
    rw [A17 hK (hL nx) of R code]
    cases Q7 T K.dir (X1 (Lo nx)) fu fn.ntmps of code ⟨A3o 0 args, B0i of nx, dnL nx, nx, some []⟩ with
    | none => rfl
    | some p =>
     obtain ⟨ex, σ⟩ := p
     simp only [ob2, N4]
     cases B4N ex
     ·rfl
     ·simp only [cond_true]
      cases σ.mks with
      | none => rfl
      | some ms =>
       simp only [N4]
       cases A8x nx σ.nx σ.ob.get ms
       ·rfl
       ·simp only [cond_true]
        cases A34 T (H2 σ.sl) (D7 σ.ob of) fn.results.toList <;> rfl
theorem N7 {P : Program} {K : KC} (hK : K.nat) {Lo : Nat → LC} (hL : ∀ n0, A1S (Lo n0)) {fl : Bool} {fu f : Nat} : (A0z P T K Lo fl fu f).nat := by
 intro R args of nx k
 rw [A5d hK hL]
 have : (A0z P T K Lo fl fu f).dir args of nx = runP P T K.dir (fun n0 => X1 (Lo n0)) fu f args of nx := by
  show A0z P T K Lo fl fu f V9 args of nx some = _
  rw [A5d hK hL]
  cases runP P T K.dir (fun n0 => X1 (Lo n0)) fu f args of nx <;> rfl
 rw [this]
theorem A06 {P : Program} (hm : P.follows .mixedOrders = true) (hT : K0 T P) {K : KC} (hK : K.nat) (hS : X2 P T K.dir) {Lo : Nat → LC} (hL : ∀ n0, A1S (Lo n0)) {fl : Bool} {fu f : Nat} (hO : ∀ n0 fn code, P.funcs[f]? = some fn → fn.body = some code → N2 P T fn.ntmps n0 (X1 (Lo n0)) code) : N3 P T f (A0z P T K Lo fl fu f).dir := by
 have : (A0z P T K Lo fl fu f).dir = runP P T K.dir (fun n0 => X1 (Lo n0)) fu f := by
  funext args of nx
  show A0z P T K Lo fl fu f V9 args of nx some = _
  rw [A5d hK hL]
  cases runP P T K.dir (fun n0 => X1 (Lo n0)) fu f args of nx <;> rfl
 rw [this]
 exact C0A hm hT hS hO
theorem D6.runP (hm : P.follows .mixedOrders = true) (hT : K0 T P) {tab : List (Nat × E7)} (h : D6 P T tab) {f d fu : Nat} {Lo : Nat → LC} (hL : G7 P T f Lo) : D6 P T ((f, trS (A0z P T (F5 P T tab false fu d) Lo false fu f)) :: tab) :=
 h.cons (A2i (N7 (A9 h d) hL.nat)) (A3J (N7 (A9 h d) hL.nat) (A06 hm hT (A9 h d) (B6 hm hT h d) hL.nat hL.ok).at_)
variable {R : Type}
def bd3 (lo hi : Int) (n : Nat) (k : Option R) : Option R := bif C2 0 lo && C2 lo hi && C2 hi n then k else none
theorem A7W {lo hi : Int} {n : Nat} {k : Option R} (h1 : 0 ≤ lo) (h2 : lo ≤ hi) (h3 : hi ≤ n) : bd3 lo hi n k = k := by
 unfold bd3
 rw [L5.2 h1, L5.2 h2, L5.2 h3]; rfl
def mxO (s : V) (xs : List V) (K : V → Nat → Nat → Option R) : Option R :=
 bd3 (0 : Nat) 64 xs.length <| bif Nat.ble (0 + 0 + 64) xs.length then (bif Nat.ble 64 ((xs.drop (0 + 0)).take 64).length then bd3 64 (xs.length : Nat) xs.length <| K (A8s s (.l ((xs.drop (0 + 0)).take 64))) (0 + 64) (((xs.length : Nat) : Int) - 64).toNat else none) else none
def mxW (s : V) (xs : List V) (off q : Nat) (K : V → Nat → Nat → Option R) : Option R :=
 bd3 (0 : Nat) 64 q <| bif Nat.ble (off + 0 + 64) xs.length then (bif Nat.ble 64 ((xs.drop (off + 0)).take 64).length then bd3 64 (q : Nat) q <| K (A8s s (.l ((xs.drop (off + 0)).take 64))) (off + 64) (((q : Nat) : Int) - 64).toNat else none) else none
inductive PHi where
 | b (s : V) (m : Int) (l xs : List V) (n i : Int) (nl sh : Bool)
 | c (s : V) (m : Int) (l xs : List V) (n i : Int) (off q : Nat) (sh : Bool)
inductive QHi where
 | b (s : V) (m : Int) (l xs : List V) (n i : Int) (nl sh : Bool)
 | c (s : V) (m : Int) (l xs : List V) (n i : Int) (off q : Nat) (sh : Bool)
def BHi (R : Type) (p : PHi) (K : PHi → Option R) (kx : QHi → Option R) : Option R :=
 match p with
 | .b s m l xs n i nl sh => match nl with
  | false => ln xs.length <| bif C2 64 (xs.length : Nat) then mxO s xs (fun s' o q => K (.c s' m l xs n i o q sh)) else kx (.b s m l xs n i false sh)
  | true => ln xs.length <| bif C2 64 (xs.length : Nat) then none else kx (.b s m l xs n i true sh)
 | .c s m l xs n i off q sh => bif Nat.ble (off + q) xs.length then (ln ((xs.drop off).take q).length <| bif C2 64 (((xs.drop off).take q).length : Nat) then mxW s xs off q (fun s' o q' => K (.c s' m l xs n i o q' sh)) else kx (.c s m l xs n i off q sh)) else none
def elL (l : List V) (i : Int) : List V := (V.nth (.l l) i.toNat).els
def ckL (i : Int) (n : Nat) (k : Option R) : Option R := bif C2 0 i && B7 i (n : Nat) then k else none
inductive PHo where
 | a (s : V) (m : Int) (l : List V) (n i : Int)
 | b (s : V) (m : Int) (l xs : List V) (n i : Int) (nl sh : Bool)
 | c (s : V) (m : Int) (l xs : List V) (n i : Int) (off q : Nat) (sh : Bool)
inductive QHo where
 | a (s : V) (m : Int) (l : List V) (n i : Int)
 | b (s : V) (m : Int) (l xs : List V) (n i : Int) (nl sh : Bool)
 | c (s : V) (m : Int) (l xs : List V) (n i : Int) (off q : Nat) (sh : Bool)
def hiK (K : PHo → Option R) : QHi → Option R
 | .b s m l xs n i nl sh => K (.b s m l xs n (C6 (i + 1)) nl sh)
 | .c s m l xs n i off q sh => K (.c s m l xs n (C6 (i + 1)) off q sh)
def BHo (R : Type) (p : PHo) (K : PHo → Option R) (kx : QHo → Option R) : Option R :=
 match p with
 | .a s m l n i => bif B7 i n then ckL i l.length <| ln (elL l i).length <| R9 (elL l i).length <| E2 (BHi R) (A2 FU) (.b s (WU (m + WU ((elL l i).length : Nat))) l (elL l i) n i (elL l i).isEmpty false) (hiK K) else kx (.a s m l n i)
 | .b s m l xs n i nl sh => bif B7 i n then ckL i l.length <| ln (elL l i).length <| R9 (xs.length + (elL l i).length) <| E2 (BHi R) (A2 FU) (.b s (WU (m + WU ((elL l i).length : Nat))) l (xs ++ elL l i) n i (nl && (elL l i).isEmpty) sh) (hiK K) else kx (.b s m l xs n i nl sh)
 | .c s m l xs n i off q sh => bif B7 i n then ckL i l.length <| ln (elL l i).length <| bif Nat.ble (off + q) xs.length then (bif Nat.beq (off + q) xs.length || !sh then R9 (q + (elL l i).length) <| E2 (BHi R) (A2 FU) (.b s (WU (m + WU ((elL l i).length : Nat))) l ((xs.drop off).take q ++ elL l i) n i false sh) (hiK K) else none) else none else kx (.c s m l xs n i off q sh)
inductive PHp where
 | b (s : V) (m : Int) (rs : List V) (nl sh : Bool) (z : V) (xs : List V)
 | c (s : V) (m : Int) (rs : List V) (off q : Nat) (sh : Bool) (z : V) (xs : List V)
inductive QHp where
 | b (s : V) (m : Int) (rs : List V) (nl sh : Bool) (z : V) (xs : List V)
 | c (s : V) (m : Int) (rs : List V) (off q : Nat) (sh : Bool) (z : V) (xs : List V)
def hpB (xs : List V) (K : List V → Option R) (kx : Option R) : Option R :=
 ln xs.length <| bif !(G5 ((xs.length : Int).tmod 64) 56) then R9 (xs.length + 1) <| K (xs ++ [.i 0]) else kx
def BHp (R : Type) (p : PHp) (K : PHp → Option R) (kx : QHp → Option R) : Option R :=
 match p with
 | .b s m rs nl sh z xs => hpB xs (fun ys => K (.b s m rs nl sh z ys)) (kx (.b s m rs nl sh z xs))
 | .c s m rs off q sh z xs => hpB xs (fun ys => K (.c s m rs off q sh z ys)) (kx (.c s m rs off q sh z xs))
inductive PHm where
 | b0 (s : V) (m : Int) (rs : List V) (nl sh : Bool) (z st : V) (xs : List V)
 | b1 (s : V) (m : Int) (rs : List V) (nl sh : Bool) (z st : V) (xs : List V) (o2 q2 : Nat)
 | c0 (s : V) (m : Int) (rs : List V) (off q : Nat) (sh : Bool) (z st : V) (xs : List V)
 | c1 (s : V) (m : Int) (rs : List V) (off q : Nat) (sh : Bool) (z st : V) (xs : List V) (o2 q2 : Nat)
inductive QHm where
 | b0 (s : V) (m : Int) (rs : List V) (nl sh : Bool) (z st : V) (xs : List V)
 | b1 (s : V) (m : Int) (rs : List V) (nl sh : Bool) (z st : V) (xs : List V) (o2 q2 : Nat)
 | c0 (s : V) (m : Int) (rs : List V) (off q : Nat) (sh : Bool) (z st : V) (xs : List V)
 | c1 (s : V) (m : Int) (rs : List V) (off q : Nat) (sh : Bool) (z st : V) (xs : List V) (o2 q2 : Nat)
def hm0 (st : V) (xs : List V) (K : V → Nat → Nat → Option R) (kx : Option R) : Option R := ln xs.length <| bif B7 0 (xs.length : Nat) then mxO st xs K else kx
def hm1 (st : V) (xs : List V) (o2 q2 : Nat) (K : V → Nat → Nat → Option R) (kx : Option R) : Option R :=
 bif Nat.ble (o2 + q2) xs.length then (ln ((xs.drop o2).take q2).length <| bif B7 0 (((xs.drop o2).take q2).length : Nat) then mxW st xs o2 q2 K else kx) else none
def BHm (R : Type) (p : PHm) (K : PHm → Option R) (kx : QHm → Option R) : Option R :=
 match p with
 | .b0 s m rs nl sh z st xs => hm0 st xs (fun t o q => K (.b1 s m rs nl sh z t xs o q)) (kx (.b0 s m rs nl sh z st xs))
 | .b1 s m rs nl sh z st xs o2 q2 => hm1 st xs o2 q2 (fun t o q => K (.b1 s m rs nl sh z t xs o q)) (kx (.b1 s m rs nl sh z st xs o2 q2))
 | .c0 s m rs off q sh z st xs => hm0 st xs (fun t o q' => K (.c1 s m rs off q sh z t xs o q')) (kx (.c0 s m rs off q sh z st xs))
 | .c1 s m rs off q sh z st xs o2 q2 => hm1 st xs o2 q2 (fun t o q' => K (.c1 s m rs off q sh z t xs o q')) (kx (.c1 s m rs off q sh z st xs o2 q2))
def hbV (n : Int) (j : Nat) : V := .i (IntKind.wrap .u8 (n.fdiv (2 ^ (8 * j))))
def A8W (n : Int) : Nat → List V → (List V → Option R) → Option R
 | 0, xs, k => k xs
 | j + 1, xs, k => R9 (xs.length + 1) <| A8W n j (xs ++ [hbV n j]) k
def hs4 (j : Nat) (n : Int) (h : V) : V := (((h.put (4 * j) (hbV n 3)).put (4 * j + 1) (hbV n 2)).put (4 * j + 2) (hbV n 1)).put (4 * j + 3) (.i (IntKind.wrap .u8 n))
def hs8 (v : V) : Nat → Nat → V → V
 | 0, _, h => h
 | m + 1, j, h => hs8 v m (j + 1) (hs4 j (elV v j) h)
def hmK (k : V → Option R) : QHm → Option R
 | .b0 _ _ _ _ _ _ st _ => k (hs8 st 8 0 z32)
 | .b1 _ _ _ _ _ _ st _ _ _ => k (hs8 st 8 0 z32)
 | .c0 _ _ _ _ _ _ _ st _ => k (hs8 st 8 0 z32)
 | .c1 _ _ _ _ _ _ _ st _ _ _ => k (hs8 st 8 0 z32)
def hpK (k : V → Option R) : QHp → Option R
 | .b s m rs nl sh z xs => A8W (WU (8 * m)) 8 xs fun ys => E2 (BHm R) (A2 FU) (.b0 s m rs nl sh z s ys) (hmK k)
 | .c s m rs off q sh z xs => A8W (WU (8 * m)) 8 xs fun ys => E2 (BHm R) (A2 FU) (.c0 s m rs off q sh z s ys) (hmK k)
def hoK (k : V → Option R) : QHo → Option R
 | .a s m _ _ _ => k (hs8 (A8s s (.l (.i 128 :: (List.replicate 55 (.i 0) ++ [hbV (WU (8 * m)) 7, hbV (WU (8 * m)) 6, hbV (WU (8 * m)) 5, hbV (WU (8 * m)) 4, hbV (WU (8 * m)) 3, hbV (WU (8 * m)) 2, hbV (WU (8 * m)) 1, hbV (WU (8 * m)) 0])))) 8 0 z32)
 | .b s m _ xs _ _ nl sh => R9 (0 + xs.length) <| R9 (xs.length + 1) <| E2 (BHp R) (A2 FU) (.b s m xs nl sh z32 (xs ++ [.i 128])) (hpK k)
 | .c s m _ xs _ _ off q sh => bif Nat.ble (off + q) xs.length then (R9 (0 + ((xs.drop off).take q).length) <| R9 (((xs.drop off).take q).length + 1) <| E2 (BHp R) (A2 FU) (.c s m xs off q sh z32 ((xs.drop off).take q ++ [.i 128])) (hpK k)) else none
def dsG (l : List V) (k : V → Option R) : Option R :=
 ln l.length <| E2 (BHo R) (A2 FU) (.a s0V 0 l (l.length : Nat) 0) (hoK k)
variable {R : Type}
theorem C8U (S : S8) : s8 (P9 S) = S := by cases S; rfl
theorem A5e (S : S8) (X : List Nat) : A8s (P9 S) (.l (X.map nv)) = P9 (A18 S X) := by
 unfold A8s
 rw [C8U, J5 (x := .l (X.map nv)) rfl]
theorem V8 {d : Nat} {S : S8} {L : List Nat} (h : L ≠ []) : J4 (d + 1) S L = J4 d (A18 S (L.take 64)) (L.drop 64) := by
 cases L with
 | nil => exact absurd rfl h
 | cons a r => rfl
theorem A3K : ∀ (a b : Nat) (S : S8) (X Y : List Nat), X.length = 64 * a → J4 (a + b) S (X ++ Y) = J4 b (J4 a S X) Y := by
 intro a
 induction a with
 | zero =>
  intro b S X Y h
  have : X = [] := List.length_eq_zero_iff.1 (by omega)
  subst this
  rw [Nat.zero_add]; rfl
 | succ a ih =>
  intro b S X Y h
  have hne : X ≠ [] := by intro q; subst q; simp at h
  have hne2 : X ++ Y ≠ [] := by intro q; exact hne (List.append_eq_nil_iff.1 q).1
  rw [show a + 1 + b = (a + b) + 1 by omega, V8 hne2, V8 hne, List.take_append_of_le_length (by omega), List.drop_append_of_le_length (by omega)]
  exact ih b _ _ _ (by rw [List.length_drop]; omega)
theorem B0j : ∀ (a : Nat) (S : S8) (X Y : List Nat), X.length = 64 * a → J4 a S (X ++ Y) = J4 a S X := by
 intro a S X Y h
 have := A3K a 0 S X Y h
 rw [Nat.add_zero] at this
 rw [this]; rfl
theorem B5u {X Y : List Nat} {a : Nat} (b : Nat) (h : X.length = a) : (X ++ Y).drop (a + b) = Y.drop b := by
 subst h
 rw [List.drop_append, List.drop_eq_nil_of_le (by omega)]; simp
theorem B5v {X Y : List Nat} {a : Nat} (b : Nat) (h : X.length = a) : (X ++ Y).take (a + b) = X ++ Y.take b := by
 subst h
 rw [List.take_append, List.take_of_length_le (by omega)]; simp
structure A3L (C : List Nat) (S : S8) (B : List Nat) : Prop where
 s : S = J4 (C.length / 64) s0N (C.take (64 * (C.length / 64)))
 r : B = C.drop (64 * (C.length / 64))
theorem A3L.len {C B : List Nat} {S : S8} (h : A3L C S B) : B.length = C.length % 64 := by
 rw [h.r, List.length_drop]; omega
theorem B5w : A3L [] s0N [] := ⟨rfl, rfl⟩
theorem A3L.add {C B D : List Nat} {S : S8} (h : A3L C S B) : A3L (C ++ D) (J4 ((B ++ D).length / 64) S (B ++ D)) ((B ++ D).drop (64 * ((B ++ D).length / 64))) := by
 have hl := h.len
 have hC : C.take (64 * (C.length / 64)) ++ B = C := by rw [h.r, List.take_append_drop]
 have hX : (C.take (64 * (C.length / 64))).length = 64 * (C.length / 64) := by rw [List.length_take]; omega
 have hn : (C ++ D).length / 64 = C.length / 64 + (B ++ D).length / 64 := by
  rw [D03, D03, hl]; omega
 have hCD : C ++ D = C.take (64 * (C.length / 64)) ++ (B ++ D) := by rw [← List.append_assoc, hC]
 have hq : (B ++ D).take (64 * ((B ++ D).length / 64)) ++ (B ++ D).drop (64 * ((B ++ D).length / 64)) = B ++ D := List.take_append_drop _ _
 have hql : ((B ++ D).take (64 * ((B ++ D).length / 64))).length = 64 * ((B ++ D).length / 64) := by rw [List.length_take]; omega
 refine ⟨?_, ?_⟩
 ·have e1 : (C ++ D).take (64 * ((C ++ D).length / 64)) = C.take (64 * (C.length / 64)) ++ (B ++ D).take (64 * ((B ++ D).length / 64)) := by
   rw [hn, Nat.mul_add]
   conv => lhs; rw [hCD]
   exact B5v _ hX
  rw [e1, hn, A3K _ _ _ _ _ hX, ← h.s]
  have := B0j _ S _ ((B ++ D).drop (64 * ((B ++ D).length / 64))) hql
  rw [hq] at this
  exact this
 ·rw [hn, Nat.mul_add]
  conv => rhs; rw [hCD]
  exact (B5u _ hX).symm
theorem B0k {C B : List Nat} {S : S8} (h : A3L C S B) : J4 ((B ++ L3 C.length).length / 64) S (B ++ L3 C.length) = J4 (C.length / 64 + 2) s0N (C ++ L3 C.length) := by
 have hl := h.len
 have hC : C.take (64 * (C.length / 64)) ++ B = C := by rw [h.r, List.take_append_drop]
 have hX : (C.take (64 * (C.length / 64))).length = 64 * (C.length / 64) := by rw [List.length_take]; omega
 have hp := A1b C.length
 have e : (B ++ L3 C.length).length / 64 ≤ 2 := by rw [D03]; omega
 have e1 : (B ++ L3 C.length).length % 64 = 0 := by rw [D03]; omega
 have hCD : C ++ L3 C.length = C.take (64 * (C.length / 64)) ++ (B ++ L3 C.length) := by rw [← List.append_assoc, hC]
 rw [hCD, A3K _ _ _ _ _ hX, ← h.s]
 have := A4m ((B ++ L3 C.length).length / 64) (2 - (B ++ L3 C.length).length / 64) S (B ++ L3 C.length) (by omega)
 rw [← this]
 congr 1; omega
theorem B16 {S : S8} {B : List Nat} {j : Nat} (h : 64 * (j + 1) ≤ B.length) (K : V → Nat → Nat → Option R) :
  mxW (P9 S) (B.map nv) (64 * j) (B.length - 64 * j) K = K (P9 (A18 S ((B.drop (64 * j)).take 64))) (64 * (j + 1)) (B.length - 64 * (j + 1)) := by
 have e : (((B.map nv).drop (64 * j + 0)).take 64) = (((B.drop (64 * j)).take 64).map nv) := by rw [Nat.add_zero, List.map_take, List.map_drop]
 have hl : ((((B.drop (64 * j)).take 64)).map nv).length = 64 := by simp; omega
 unfold mxW
 rw [A7W (by omega) (by omega) (by omega), e, hl, show Nat.ble (64 * j + 0 + 64) (B.map nv).length = true from D1b (by rw [D05]; omega), show Nat.ble 64 64 = true from rfl, cond_true, cond_true, A7W (by omega) (by omega) (by omega), A5e]
 congr 1; omega
theorem B17 {S : S8} {B : List Nat} (h : 64 ≤ B.length) (K : V → Nat → Nat → Option R) :
  mxO (P9 S) (B.map nv) K = K (P9 (A18 S (B.take 64))) (64 * 1) (B.length - 64 * 1) := by
 have e : (((B.map nv).drop (0 + 0)).take 64) = ((B.take 64).map nv) := by rw [List.drop_zero, List.map_take]
 have hl : ((B.take 64).map nv).length = 64 := by simp; omega
 unfold mxO
 rw [e, hl, D05, A7W (by omega) (by omega) (by omega), show Nat.ble (0 + 0 + 64) B.length = true from D1b (by omega), show Nat.ble 64 64 = true from rfl, cond_true, cond_true, A7W (by omega) (by omega) (by omega), A5e]
 congr 1; omega
theorem C9U {B : List Nat} (hB : B.length ≤ 2000000000) {m n i : Int} {l : List V} {sh : Bool} (k : QHi → Option R) : ∀ (d j fuel : Nat) (S : S8), d = (B.length - 64 * j) / 64 → 64 * j ≤ B.length → d < fuel →
  E2 (BHi R) fuel (.c (P9 S) m l (B.map nv) n i (64 * j) (B.length - 64 * j) sh) k = k (.c (P9 (J4 d S (B.drop (64 * j)))) m l (B.map nv) n i (64 * (j + d)) (B.length - 64 * (j + d)) sh) := by
 intro d
 induction d with
 | zero =>
  intro j fuel S hd hj hf
  obtain ⟨f, rfl⟩ : ∃ f, fuel = f + 1 := ⟨fuel - 1, by omega⟩
  show (bif Nat.ble (64 * j + (B.length - 64 * j)) (B.map nv).length then (ln (((B.map nv).drop (64 * j)).take (B.length - 64 * j)).length <| bif C2 64 ((((B.map nv).drop (64 * j)).take (B.length - 64 * j)).length : Nat) then _ else _) else none) = _
  have hl : (((B.map nv).drop (64 * j)).take (B.length - 64 * j)).length = B.length - 64 * j := by simp
  rw [hl, show Nat.ble (64 * j + (B.length - 64 * j)) (B.map nv).length = true from D1b (by rw [D05]; omega), cond_true, B5 (by omega)]
  have : C2 64 ((B.length - 64 * j : Nat) : Int) = false := by
   cases hq : C2 64 ((B.length - 64 * j : Nat) : Int) with
   | false => rfl
   | true => have := L5.1 hq; omega
  rw [this]; rfl
 | succ d ih =>
  intro j fuel S hd hj hf
  obtain ⟨f, rfl⟩ : ∃ f, fuel = f + 1 := ⟨fuel - 1, by omega⟩
  show (bif Nat.ble (64 * j + (B.length - 64 * j)) (B.map nv).length then (ln (((B.map nv).drop (64 * j)).take (B.length - 64 * j)).length <| bif C2 64 ((((B.map nv).drop (64 * j)).take (B.length - 64 * j)).length : Nat) then mxW (P9 S) (B.map nv) (64 * j) (B.length - 64 * j) (fun s' o q' => E2 (BHi R) f (.c s' m l (B.map nv) n i o q' sh) k) else _) else none) = _
  have hl : (((B.map nv).drop (64 * j)).take (B.length - 64 * j)).length = B.length - 64 * j := by simp
  rw [hl, show Nat.ble (64 * j + (B.length - 64 * j)) (B.map nv).length = true from D1b (by rw [D05]; omega), cond_true, B5 (by omega), L5.2 (show (64 : Int) ≤ ((B.length - 64 * j : Nat) : Int) by omega), cond_true, B16 (by omega), ih (j + 1) f _ (by omega) (by omega) (by omega)]
  have hne : B.drop (64 * j) ≠ [] := by intro q; have := congrArg List.length q; simp at this; omega
  rw [V8 hne, List.drop_drop, show 64 * j + 64 = 64 * (j + 1) by omega, show j + 1 + d = j + (d + 1) by omega]
def B5x (S : S8) (m : Int) (l : List V) (B : List Nat) (n i : Int) (nl sh : Bool) : QHi :=
 if B.length < 64 then .b (P9 S) m l (B.map nv) n i nl sh else .c (P9 (J4 (B.length / 64) S B)) m l (B.map nv) n i (64 * (B.length / 64)) (B.length - 64 * (B.length / 64)) sh
theorem C9V {B : List Nat} (hB : B.length ≤ 2000000000) {S : S8} {m n i : Int} {l : List V} {nl sh : Bool} (hn : nl = true → B = []) (k : QHi → Option R) (fuel : Nat) (hf : B.length < fuel) :
  E2 (BHi R) fuel (.b (P9 S) m l (B.map nv) n i nl sh) k = k (B5x S m l B n i nl sh) := by
 obtain ⟨f, rfl⟩ : ∃ f, fuel = f + 1 := ⟨fuel - 1, by omega⟩
 unfold B5x
 cases nl with
 | true =>
  have := hn rfl
  subst this
  rfl
 | false =>
  show (ln (B.map nv).length <| bif C2 64 ((B.map nv).length : Nat) then mxO (P9 S) (B.map nv) (fun s' o q => E2 (BHi R) f (.c s' m l (B.map nv) n i o q sh) k) else _) = _
  rw [D05, B5 (by omega)]
  by_cases h : B.length < 64
  ·have : C2 64 ((B.length : Nat) : Int) = false := by
    cases hq : C2 64 ((B.length : Nat) : Int) with
    | false => rfl
    | true => have := L5.1 hq; omega
   rw [this, if_pos h]; rfl
  ·rw [L5.2 (show (64 : Int) ≤ (B.length : Nat) by omega), cond_true, B17 (by omega), if_neg h]
   obtain ⟨d, hd⟩ : ∃ d, B.length / 64 = d + 1 := ⟨B.length / 64 - 1, by omega⟩
   have := C9U hB (m := m) (n := n) (i := i) (l := l) (sh := sh) k d 1 f (A18 S (B.take 64)) (by omega) (by omega) (by omega)
   rw [this]
   have hne : B ≠ [] := by intro q; subst q; simp at h
   rw [hd, V8 hne, show 1 + d = d + 1 by omega]
variable {R : Type}
def A1X (l : List V) : List Nat := l.flatMap F1
def C5j (p : PHo) (l : List V) (n i : Int) (C : List Nat) : Prop :=
 (C = [] ∧ p = .a s0V 0 l n i) ∨
 (∃ (S : S8) (B : List Nat) (nl sh : Bool), A3L C S B ∧ (nl = true → B = []) ∧ p = .b (P9 S) (C.length : Nat) l (B.map nv) n i nl sh) ∨
 (∃ (S : S8) (B X : List Nat) (off : Nat) (sh : Bool), A3L C S B ∧ X.drop off = B ∧ off + B.length = X.length ∧ p = .c (P9 S) (C.length : Nat) l (X.map nv) n i off B.length sh)
def C5k (q : QHo) (C : List Nat) : Prop :=
 (C = [] ∧ ∃ l n i, q = .a s0V 0 l n i) ∨
 (∃ (S : S8) (B : List Nat) (nl sh : Bool) (l : List V) (n i : Int), A3L C S B ∧ q = .b (P9 S) (C.length : Nat) l (B.map nv) n i nl sh) ∨
 (∃ (S : S8) (B X : List Nat) (off : Nat) (sh : Bool) (l : List V) (n i : Int), A3L C S B ∧ X.drop off = B ∧ off + B.length = X.length ∧ q = .c (P9 S) (C.length : Nat) l (X.map nv) n i off B.length sh)
theorem B5y {C B D : List Nat} {S : S8} (h : A3L C S B) (hl : C.length + D.length ≤ 1000000000) {l : List V} {n i : Int} {nl sh : Bool} (hn : nl = true → B ++ D = []) (K : PHo → Option R) :
  ∃ p, C5j p l n (C6 (i + 1)) (C ++ D) ∧ E2 (BHi R) (A2 FU) (.b (P9 S) (WU ((C.length : Nat) + WU ((D.map nv).length : Nat))) l ((B ++ D).map nv) n i nl sh) (hiK K) = K p := by
 have hbl := h.len
 have hBD : (B ++ D).length ≤ 2000000000 := by rw [D03]; omega
 have hF : (B ++ D).length < A2 FU := by rw [A2T]; show _ < 4611686018427387904; omega
 rw [C9V hBD hn _ _ hF, D05]
 have hm : WU ((C.length : Nat) + WU ((D.length : Nat) : Int)) = (((C ++ D).length : Nat) : Int) := by
  rw [F6 (by omega), ← Int.natCast_add, F6 (by omega), D03]
 rw [hm]
 have ha := h.add (D := D)
 unfold B5x
 by_cases hc : (B ++ D).length < 64
 ·rw [if_pos hc]
  rw [show (B ++ D).length / 64 = 0 by omega] at ha
  exact ⟨_, .inr (.inl ⟨S, B ++ D, nl, sh, ha, hn, rfl⟩), rfl⟩
 ·rw [if_neg hc]
  refine ⟨_, .inr (.inr ⟨_, _, B ++ D, 64 * ((B ++ D).length / 64), sh, ha, rfl, ?_, rfl⟩), ?_⟩
  ·rw [List.length_drop]; omega
  ·rw [List.length_drop]; rfl
theorem C5l {i : Int} {n : Nat} {k : Option R} (h0 : 0 ≤ i) (h1 : i < n) : ckL i n k = k := by
 unfold ckL
 rw [L5.2 h0, show B7 i (n : Nat) = true by simp [B7]; exact h1]; rfl
theorem C5m (k : QHo → Option R) : ∀ (r a : List V) (C : List Nat) (p : PHo) (fuel : Nat), (∀ y ∈ r, ∃ D : List Nat, y.els = D.map nv) → C5j p (a ++ r) ((a ++ r).length : Nat) (a.length : Nat) C →
  C.length + (A1X r).length ≤ 1000000000 → (a ++ r).length ≤ 100000000 → r.length < fuel → ∃ q, C5k q (C ++ A1X r) ∧ E2 (BHo R) fuel p k = k q := by
 intro r
 induction r with
 | nil =>
  intro a C p fuel _ hi hl ha hf
  obtain ⟨f, rfl⟩ : ∃ f, fuel = f + 1 := ⟨fuel - 1, by omega⟩
  rw [show A1X [] = [] from rfl, List.append_nil]
  have no : B7 ((a ++ []).length : Nat) (((a ++ []).length : Nat) : Int) = false := by rw [A25]; exact decide_eq_false (by omega)
  have na : B7 (a.length : Nat) (((a ++ []).length : Nat) : Int) = false := by rw [A25]; exact decide_eq_false (by simp)
  rcases hi with ⟨h1, rfl⟩ | ⟨S, B, nl, sh, h1, h2, rfl⟩ | ⟨S, B, X, off, sh, h1, h2, h3, rfl⟩
  ·refine ⟨.a s0V 0 (a ++ []) ((a ++ []).length : Nat) (a.length : Nat), .inl ⟨h1, _, _, _, rfl⟩, ?_⟩
   show (bif B7 (a.length : Nat) ((a ++ []).length : Nat) then _ else _) = _
   rw [na]; rfl
  ·refine ⟨.b (P9 S) (C.length : Nat) (a ++ []) (B.map nv) ((a ++ []).length : Nat) (a.length : Nat) nl sh, .inr (.inl ⟨S, B, nl, sh, _, _, _, h1, rfl⟩), ?_⟩
   show (bif B7 (a.length : Nat) ((a ++ []).length : Nat) then _ else _) = _
   rw [na]; rfl
  ·refine ⟨.c (P9 S) (C.length : Nat) (a ++ []) (X.map nv) ((a ++ []).length : Nat) (a.length : Nat) off B.length sh, .inr (.inr ⟨S, B, X, off, sh, _, _, _, h1, h2, h3, rfl⟩), ?_⟩
   show (bif B7 (a.length : Nat) ((a ++ []).length : Nat) then _ else _) = _
   rw [na]; rfl
 | cons y r ih =>
  intro a C p fuel ht hi hl ha hf
  obtain ⟨f, rfl⟩ : ∃ f, fuel = f + 1 := ⟨fuel - 1, by omega⟩
  obtain ⟨D, hD⟩ := ht y (by simp)
  have hb : F1 y = D := J5 hD
  have hcat : A1X (y :: r) = D ++ A1X r := by
   show F1 y ++ A1X r = _; rw [hb]
  rw [hcat] at hl ⊢
  rw [D03] at hl
  have yes : B7 (a.length : Nat) (((a ++ y :: r).length : Nat) : Int) = true := by rw [A25]; exact decide_eq_true (by simp)
  have hel : elL (a ++ y :: r) (a.length : Nat) = D.map nv := by
   unfold elL V.nth
   show ((a ++ y :: r).getD a.length .n).els = _
   rw [List.getD_eq_getElem?_getD, List.getElem?_append_right (Nat.le_refl _), Nat.sub_self]; exact hD
  have hck : ∀ k' : Option R, ckL (a.length : Nat) (a ++ y :: r).length k' = k' := fun k' => C5l (by omega) (by simp; omega)
  have happ : a ++ y :: r = (a ++ [y]) ++ r := by simp
  have fin : ∀ (pn : PHo), C5j pn (a ++ y :: r) ((a ++ y :: r).length : Nat) (C6 ((a.length : Nat) + 1)) (C ++ D) → ∃ q, C5k q (C ++ (D ++ A1X r)) ∧ E2 (BHo R) f pn k = k q := fun pn hp => by
   rw [L1 (by simp at ha; omega)] at hp
   have := ih (a ++ [y]) (C ++ D) pn f (fun z hz => ht z (by simp [hz])) (by rw [← happ]; simpa using hp) (by rw [D03]; omega) (by rw [← happ]; exact ha) (by simp at hf; omega)
   rw [List.append_assoc] at this
   exact this
  rcases hi with ⟨h1, rfl⟩ | ⟨S, B, nl, sh, h1, h2, rfl⟩ | ⟨S, B, X, off, sh, h1, h2, h3, rfl⟩
  ·subst h1
   obtain ⟨pn, g1, g2⟩ := B5y (R := R) B5w (D := D) (by omega) (l := a ++ y :: r) (n := ((a ++ y :: r).length : Nat)) (i := (a.length : Nat)) (nl := (D.map nv).isEmpty) (sh := false) (fun h => by
    cases D with
    | nil => rfl
    | cons _ _ => cases h) (fun x' => E2 (BHo R) f x' k)
   obtain ⟨q, q1, q2⟩ := fin pn g1
   refine ⟨q, q1, ?_⟩
   show (bif B7 (a.length : Nat) ((a ++ y :: r).length : Nat) then ckL (a.length : Nat) (a ++ y :: r).length _ else _) = _
   rw [yes, cond_true, hck, hel, D05, B5 (by omega), D1 (by omega), ← q2, ← g2, D05]; rfl
  ·have hbl := h1.len
   obtain ⟨pn, g1, g2⟩ := B5y (R := R) h1 (D := D) (by omega) (l := a ++ y :: r) (n := ((a ++ y :: r).length : Nat)) (i := (a.length : Nat)) (nl := nl && (D.map nv).isEmpty) (sh := sh) (fun h => by
    rw [D02] at h
    rw [h2 h.1]
    cases D with
    | nil => rfl
    | cons _ _ => cases h.2) (fun x' => E2 (BHo R) f x' k)
   obtain ⟨q, q1, q2⟩ := fin pn g1
   refine ⟨q, q1, ?_⟩
   show (bif B7 (a.length : Nat) ((a ++ y :: r).length : Nat) then ckL (a.length : Nat) (a ++ y :: r).length _ else _) = _
   rw [yes, cond_true, hck, hel, D05, D05, B5 (by omega), D1 (by omega), ← q2, ← g2, D05, List.map_append]
  ·have hbl := h1.len
   obtain ⟨pn, g1, g2⟩ := B5y (R := R) h1 (D := D) (by omega) (l := a ++ y :: r) (n := ((a ++ y :: r).length : Nat)) (i := (a.length : Nat)) (nl := false) (sh := sh) (fun h => by cases h) (fun x' => E2 (BHo R) f x' k)
   obtain ⟨q, q1, q2⟩ := fin pn g1
   refine ⟨q, q1, ?_⟩
   show (bif B7 (a.length : Nat) ((a ++ y :: r).length : Nat) then ckL (a.length : Nat) (a ++ y :: r).length _ else _) = _
   have hx : ((X.map nv).drop off).take B.length = B.map nv := by
    rw [← List.map_drop, h2, List.take_of_length_le (by simp)]
   rw [yes, cond_true, hck, hel, D05, D05, B5 (by omega), show Nat.ble (off + B.length) X.length = true from D1b (by omega), cond_true, show (Nat.beq (off + B.length) X.length || !sh) = true by rw [h3, Nat.beq_refl]; rfl, cond_true, D1 (by omega), hx, ← q2, ← g2, D05, List.map_append]
theorem B18 {P Q : Type} {B : P → (P → Option R) → (Q → Option R) → Option R} (e : List V → P) (e' : List V → Q) (he : ∀ xs K kx, B (e xs) K kx = hpB xs (fun ys => K (e ys)) (kx (e' xs))) (k : Q → Option R) : ∀ (m n : Nat) (xs : List V), (xs.length + m) % 64 = 56 → m < 64 → xs.length + m ≤ 1073741824 → m < n →
  E2 B n (e xs) k = k (e' (xs ++ List.replicate m (.i 0))) := by
 intro m
 induction m with
 | zero =>
  intro n xs h1 h2 h3 h4
  obtain ⟨n, rfl⟩ : ∃ n', n = n' + 1 := ⟨n - 1, by omega⟩
  rw [E2, he]
  show ln xs.length (bif !(G5 ((xs.length : Int).tmod 64) 56) then _ else _) = _
  rw [B5 (by omega), show (64 : Int) = ((64 : Nat) : Int) from rfl, A1a, B2t (by omega)]
  simp
 | succ m ih =>
  intro n xs h1 h2 h3 h4
  obtain ⟨n, rfl⟩ : ∃ n', n = n' + 1 := ⟨n - 1, by omega⟩
  rw [E2, he]
  show ln xs.length (bif !(G5 ((xs.length : Int).tmod 64) 56) then R9 (xs.length + 1) _ else _) = _
  rw [B5 (by omega), show (64 : Int) = ((64 : Nat) : Int) from rfl, A1a, B56 (by omega), D1 (by omega)]
  simp only [Bool.not_false, cond_true]
  rw [ih n (xs ++ [V.i 0]) (by simp; omega) (by omega) (by simp; omega) (by omega)]
  simp [List.replicate_succ]
theorem A7X {n : Nat} (j : Nat) : hbV (n : Int) j = nv (n / 2 ^ (8 * j) % 256) := by
 unfold hbV
 rw [A0c, Nat.shiftRight_eq_div_pow]
 have : IntKind.wrap .u8 ((n / 2 ^ (8 * j) : Nat) : Int) = ((n / 2 ^ (8 * j) % 256 : Nat) : Int) := by
  unfold IntKind.wrap
  simp [IntKind.bits, IntKind.signed]
 rw [this]; rfl
theorem B19 {n : Int} : ∀ (j : Nat) (xs : List V) (k : List V → Option R), xs.length + j ≤ 1073741824 → A8W n j xs k = k (xs ++ ((List.range j).reverse.map (hbV n))) := by
 intro j
 induction j with
 | zero => intro xs k h; simp [A8W]
 | succ j ih =>
  intro xs k h
  rw [A8W, D1 (by omega), ih _ _ (by simp; omega)]
  simp [List.range_succ]
theorem C5n {s : S8} (h : OkS s) : hs8 (P9 s) 8 0 z32 = .l ((C6K s).map nv) := by
 have one : ∀ (j a : Nat) (h : V), a < P5 → hs4 j (a : Int) h = (((h.put (4 * j) (nv (a / 16777216 % 256))).put (4 * j + 1) (nv (a / 65536 % 256))).put (4 * j + 2) (nv (a / 256 % 256))).put (4 * j + 3) (nv (a % 256)) := by
  intro j a h ha
  have ha : a < 4294967296 := ha
  have w : IntKind.wrap .u8 (a : Int) = ((a % 256 : Nat) : Int) := by
   unfold IntKind.wrap; simp [IntKind.bits, IntKind.signed]
  unfold hs4
  rw [A7X 3, A7X 2, A7X 1, w]; rfl
 have e : hs8 (P9 s) 8 0 z32 = hs4 7 (s.h : Int) (hs4 6 (s.g : Int) (hs4 5 (s.f : Int) (hs4 4 (s.e : Int) (hs4 3 (s.d : Int) (hs4 2 (s.c : Int) (hs4 1 (s.b : Int) (hs4 0 (s.a : Int) z32))))))) := by kernel_rfl
 rw [e, one _ _ _ h.a, one _ _ _ h.b, one _ _ _ h.c, one _ _ _ h.d, one _ _ _ h.e, one _ _ _ h.f, one _ _ _ h.g, one _ _ _ h.h]
 refine (?_ : @Eq V _ _)
 kernel_rfl
theorem C9W {P Q : Type} {Bm : P → (P → Option R) → (Q → Option R) → Option R} {B : List Nat} (e : V → Nat → Nat → P) (e' : V → Nat → Nat → Q) (he : ∀ st o q K kx, Bm (e st o q) K kx = hm1 st (B.map nv) o q (fun t o' q' => K (e t o' q')) (kx (e' st o q)))
  (hB : B.length ≤ 2000000000) (k : Q → Option R) : ∀ (d j fuel : Nat) (S : S8), B.length = 64 * (j + d) → d < fuel → E2 Bm fuel (e (P9 S) (64 * j) (B.length - 64 * j)) k = k (e' (P9 (J4 d S (B.drop (64 * j)))) (64 * (j + d)) (B.length - 64 * (j + d))) := by
 intro d
 induction d with
 | zero =>
  intro j fuel S hl hf
  obtain ⟨f, rfl⟩ : ∃ f, fuel = f + 1 := ⟨fuel - 1, by omega⟩
  rw [E2, he]
  unfold hm1
  have h0 : (((B.map nv).drop (64 * j)).take (B.length - 64 * j)).length = 0 := by simp; omega
  rw [h0, show Nat.ble (64 * j + (B.length - 64 * j)) (B.map nv).length = true from D1b (by rw [D05]; omega), cond_true, B5 (by omega)]
  rfl
 | succ d ih =>
  intro j fuel S hl hf
  obtain ⟨f, rfl⟩ : ∃ f, fuel = f + 1 := ⟨fuel - 1, by omega⟩
  rw [E2, he]
  unfold hm1
  have h0 : (((B.map nv).drop (64 * j)).take (B.length - 64 * j)).length = B.length - 64 * j := by simp
  rw [h0, show Nat.ble (64 * j + (B.length - 64 * j)) (B.map nv).length = true from D1b (by rw [D05]; omega), cond_true, B5 (by omega), show B7 0 ((B.length - 64 * j : Nat) : Int) = true by rw [show (0 : Int) = ((0 : Nat) : Int) from rfl, A25]; exact decide_eq_true (by omega), cond_true, B16 (by omega), ih (j + 1) f _ (by omega) (by omega)]
  have hne : B.drop (64 * j) ≠ [] := by intro q; have := congrArg List.length q; simp at this; omega
  rw [V8 hne, List.drop_drop, show 64 * j + 64 = 64 * (j + 1) by omega, show j + 1 + d = j + (d + 1) by omega]
theorem B5z {P Q : Type} {Bm : P → (P → Option R) → (Q → Option R) → Option R} {B : List Nat} (e0 : V → P) (e : V → Nat → Nat → P) (e0' : V → Q) (e' : V → Nat → Nat → Q) (he0 : ∀ st K kx, Bm (e0 st) K kx = hm0 st (B.map nv) (fun t o' q' => K (e t o' q')) (kx (e0' st)))
  (he : ∀ st o q K kx, Bm (e st o q) K kx = hm1 st (B.map nv) o q (fun t o' q' => K (e t o' q')) (kx (e' st o q)))
  (hB : B.length ≤ 2000000000) (k : Q → Option R) (d fuel : Nat) (S : S8) (hl : B.length = 64 * (d + 1)) (hf : d + 1 < fuel) : ∃ o q, E2 Bm fuel (e0 (P9 S)) k = k (e' (P9 (J4 (d + 1) S B)) o q) := by
 obtain ⟨f, rfl⟩ : ∃ f, fuel = f + 1 := ⟨fuel - 1, by omega⟩
 have h := C9W e e' he hB k d 1 f (A18 S (B.take 64)) (by omega) (by omega)
 refine ⟨64 * (1 + d), B.length - 64 * (1 + d), ?_⟩
 rw [E2, he0]
 unfold hm0
 rw [D05, B5 (by omega), show B7 0 ((B.length : Nat) : Int) = true by rw [show (0 : Int) = ((0 : Nat) : Int) from rfl, A25]; exact decide_eq_true (by omega), cond_true, B17 (by omega), h]
 have hne : B ≠ [] := by intro q; subst q; simp at hl
 rw [V8 hne]
theorem A3M {C B : List Nat} (hl : C.length ≤ 1000000000) : (B.map nv ++ [V.i 128] ++ List.replicate ((119 - C.length % 64) % 64) (.i 0)) ++ ((List.range 8).reverse.map (hbV (WU (8 * ((C.length : Nat) : Int))))) = (B ++ L3 C.length).map nv := by
 have e : WU (8 * ((C.length : Nat) : Int)) = ((8 * C.length : Nat) : Int) := by
  rw [show (8 : Int) * ((C.length : Nat) : Int) = ((8 * C.length : Nat) : Int) by omega]; exact F6 (by omega)
 rw [e]
 unfold L3
 simp only [List.map_append, List.map_cons, List.map_replicate, List.append_assoc]
 congr 1
 have h8 : (List.range 8).reverse.map (hbV ((8 * C.length : Nat) : Int)) = [8 * C.length / 2 ^ 56 % 256, 8 * C.length / 2 ^ 48 % 256, 8 * C.length / 2 ^ 40 % 256, 8 * C.length / 2 ^ 32 % 256, 8 * C.length / 2 ^ 24 % 256, 8 * C.length / 2 ^ 16 % 256, 8 * C.length / 2 ^ 8 % 256, 8 * C.length % 256].map nv := by
  show [hbV _ 7, hbV _ 6, hbV _ 5, hbV _ 4, hbV _ 3, hbV _ 2, hbV _ 1, hbV _ 0] = _
  simp only [A7X]
  simp [Nat.div_one]
 rw [h8]; rfl
theorem C5o {q : QHo} {C : List Nat} (h : C5k q C) (hl : C.length ≤ 1000000000) (k : V → Option R) : hoK k q = k (.l ((A3Z C).map nv)) := by
 have hF : ∀ n : Nat, n < 4000000000 → n < A2 FU := fun n hn => by rw [A2T]; show n < 4611686018427387904; omega
 have fin : ∀ {B : List Nat} {S : S8}, A3L C S B → ((B ++ L3 C.length).length / 64 ≥ 1 ∧ (B ++ L3 C.length).length % 64 = 0) ∧ hs8 (P9 (J4 ((B ++ L3 C.length).length / 64) S (B ++ L3 C.length))) 8 0 z32 = .l ((A3Z C).map nv) := fun {B S} ht => by
  have hb := ht.len
  have hp := A1b C.length
  refine ⟨by rw [D03]; omega, ?_⟩
  rw [B0k ht, C5n (A7k _ _ _ B6a)]; rfl
 rcases h with ⟨rfl, l, n, i, rfl⟩ | ⟨S, B, nl, sh, l, n, i, ht, rfl⟩ | ⟨S, B, X, off, sh, l, n, i, ht, h2, h3, rfl⟩
 ·have f := fin B5w
  have e : (V.i 128 :: (List.replicate 55 (V.i 0) ++ [hbV (WU (8 * 0)) 7, hbV (WU (8 * 0)) 6, hbV (WU (8 * 0)) 5, hbV (WU (8 * 0)) 4, hbV (WU (8 * 0)) 3, hbV (WU (8 * 0)) 2, hbV (WU (8 * 0)) 1, hbV (WU (8 * 0)) 0])) = ([] ++ L3 ([] : List Nat).length).map nv := by
   have := A3M (C := []) (B := []) (by simp)
   exact this
  have e1 : J4 (([] ++ L3 ([] : List Nat).length).length / 64) s0N ([] ++ L3 ([] : List Nat).length) = A18 s0N ([] ++ L3 ([] : List Nat).length) := by
   have hlen : ([] ++ L3 ([] : List Nat).length).length = 64 := by rw [List.nil_append, A1b]; rfl
   have hne : ([] ++ L3 ([] : List Nat).length) ≠ [] := by intro q; rw [q] at hlen; cases hlen
   rw [hlen, show 64 / 64 = 0 + 1 from rfl, V8 hne, A7j]; rfl
  show k (hs8 (A8s s0V (.l _)) 8 0 z32) = _
  rw [e, show s0V = P9 s0N from rfl, A5e, ← e1, f.2]
 ·have hb := ht.len
  obtain ⟨⟨f1, f1'⟩, f2⟩ := fin ht
  show (R9 (0 + (B.map nv).length) <| R9 ((B.map nv).length + 1) <| E2 (BHp R) (A2 FU) (.b (P9 S) _ (B.map nv) nl sh z32 (B.map nv ++ [.i 128])) (hpK k)) = _
  rw [D05, D1 (by omega), D1 (by omega)]
  have h1 := B18 (B := BHp R) (fun xs => .b (P9 S) ((C.length : Nat) : Int) (B.map nv) nl sh z32 xs) (fun xs => .b (P9 S) ((C.length : Nat) : Int) (B.map nv) nl sh z32 xs) (fun _ _ _ => rfl) (hpK k) ((119 - C.length % 64) % 64) (A2 FU) (B.map nv ++ [V.i 128]) (by simp; omega) (by omega) (by simp; omega) (hF _ (by omega))
  rw [h1]
  show A8W (WU (8 * ((C.length : Nat) : Int))) 8 _ _ = _
  rw [B19 8 _ _ (by simp; omega), A3M hl]
  obtain ⟨d, hd⟩ : ∃ d, (B ++ L3 C.length).length / 64 = d + 1 := ⟨(B ++ L3 C.length).length / 64 - 1, by omega⟩
  have hlen : (B ++ L3 C.length).length = 64 * (d + 1) := by omega
  have hp := A1b C.length
  obtain ⟨o, q, h3⟩ := B5z (Bm := BHm R) (B := B ++ L3 C.length) (fun st => .b0 (P9 S) ((C.length : Nat) : Int) (B.map nv) nl sh z32 st ((B ++ L3 C.length).map nv)) (fun st o q => .b1 (P9 S) ((C.length : Nat) : Int) (B.map nv) nl sh z32 st ((B ++ L3 C.length).map nv) o q)
   (fun st => .b0 (P9 S) ((C.length : Nat) : Int) (B.map nv) nl sh z32 st ((B ++ L3 C.length).map nv)) (fun st o q => .b1 (P9 S) ((C.length : Nat) : Int) (B.map nv) nl sh z32 st ((B ++ L3 C.length).map nv) o q)
   (fun _ _ _ => rfl) (fun _ _ _ _ _ => rfl) (by rw [D03]; omega) (hmK k) d (A2 FU) S hlen (hF _ (by rw [D03] at hlen; omega))
  rw [h3]
  show k (hs8 (P9 (J4 (d + 1) S (B ++ L3 C.length))) 8 0 z32) = _
  rw [← hd, f2]
 ·have hb := ht.len
  obtain ⟨⟨f1, f1'⟩, f2⟩ := fin ht
  have hx : ((X.map nv).drop off).take B.length = B.map nv := by
   rw [← List.map_drop, h2, List.take_of_length_le (by simp)]
  show (bif Nat.ble (off + B.length) (X.map nv).length then (R9 (0 + (((X.map nv).drop off).take B.length).length) <| R9 ((((X.map nv).drop off).take B.length).length + 1) <| E2 (BHp R) (A2 FU) (.c (P9 S) _ (X.map nv) off B.length sh z32 (((X.map nv).drop off).take B.length ++ [.i 128])) (hpK k)) else none) = _
  rw [hx, D05, D05, show Nat.ble (off + B.length) X.length = true from D1b (by omega), cond_true, D1 (by omega), D1 (by omega)]
  have h1 := B18 (B := BHp R) (fun xs => .c (P9 S) ((C.length : Nat) : Int) (X.map nv) off B.length sh z32 xs) (fun xs => .c (P9 S) ((C.length : Nat) : Int) (X.map nv) off B.length sh z32 xs) (fun _ _ _ => rfl) (hpK k) ((119 - C.length % 64) % 64) (A2 FU) (B.map nv ++ [V.i 128]) (by simp; omega) (by omega) (by simp; omega) (hF _ (by omega))
  rw [h1]
  show A8W (WU (8 * ((C.length : Nat) : Int))) 8 _ _ = _
  rw [B19 8 _ _ (by simp; omega), A3M hl]
  obtain ⟨d, hd⟩ : ∃ d, (B ++ L3 C.length).length / 64 = d + 1 := ⟨(B ++ L3 C.length).length / 64 - 1, by omega⟩
  have hlen : (B ++ L3 C.length).length = 64 * (d + 1) := by omega
  have hp := A1b C.length
  obtain ⟨o, q, h4⟩ := B5z (Bm := BHm R) (B := B ++ L3 C.length) (fun st => .c0 (P9 S) ((C.length : Nat) : Int) (X.map nv) off B.length sh z32 st ((B ++ L3 C.length).map nv)) (fun st o q => .c1 (P9 S) ((C.length : Nat) : Int) (X.map nv) off B.length sh z32 st ((B ++ L3 C.length).map nv) o q)
   (fun st => .c0 (P9 S) ((C.length : Nat) : Int) (X.map nv) off B.length sh z32 st ((B ++ L3 C.length).map nv)) (fun st o q => .c1 (P9 S) ((C.length : Nat) : Int) (X.map nv) off B.length sh z32 st ((B ++ L3 C.length).map nv) o q)
   (fun _ _ _ => rfl) (fun _ _ _ _ _ => rfl) (by rw [D03]; omega) (hmK k) d (A2 FU) S hlen (hF _ (by rw [D03] at hlen; omega))
  rw [h4]
  show k (hs8 (P9 (J4 (d + 1) S (B ++ L3 C.length))) 8 0 z32) = _
  rw [← hd, f2]
theorem C5p {l : List V} (ht : ∀ y ∈ l, ∃ D : List Nat, y.els = D.map nv) (hc : (A1X l).length ≤ 1000000000) (hl : l.length ≤ 100000000) (k : V → Option R) : dsG l k = k (.l ((A3Z (A1X l)).map nv)) := by
 unfold dsG
 rw [B5 (by omega)]
 obtain ⟨q, h1, h2⟩ := C5m (R := R) (hoK k) l [] [] (.a s0V 0 l (l.length : Nat) 0) (A2 FU) ht (.inl ⟨rfl, rfl⟩) (by simpa using hc) (by simpa using hl) (by rw [A2T]; show l.length < 4611686018427387904; omega)
 rw [h2]
 exact C5o h1 hc k
variable {R : Type}
def B3t : List V → Nat
 | [] => 0
 | y :: l => y.els.length + B3t l
def dsg : List V → Bool := fun xs => match xs with
 | [.l l] => bif Nat.ble (B3t l) 1000000000 then Nat.ble l.length 100000000 else false
 | _ => false
def A7Y (l : List Nat) : V := .l ((A3Z l).map nv)
def dsr (h : Nat) : List V → List Rs := fun xs => match xs with
 | [x] => [.d h (A7Y (A1X x.els))]
 | _ => []
def dtr (h : Nat) : List V → List Rs := fun xs => match xs with
 | [x] => [.d h (A7Y (A3Z (A1X x.els)))]
 | _ => []
theorem A07 {y : V} (h : (D.slice (.int .u8)).has y) : ∃ D : List Nat, y.els = D.map nv ∧ ∀ a ∈ D, a < 256 := by
 rcases h with rfl | ⟨ys, rfl, hy⟩
 ·exact ⟨[], rfl, fun a ha => by cases ha⟩
 ·obtain ⟨ns, rfl, hn⟩ := u8s hy
  exact ⟨ns, rfl, hn⟩
theorem B5A {l : List V} (h : ∀ y ∈ l, ∃ D : List Nat, y.els = D.map nv) : (A1X l).length = B3t l := by
 induction l with
 | nil => rfl
 | cons y l ih =>
  obtain ⟨D, hD⟩ := h y (by simp)
  show (F1 y ++ A1X l).length = y.els.length + B3t l
  rw [D03, ih (fun z hz => h z (by simp [hz])), J5 hD, hD, D05]
theorem C5q {l : List V} (hd : (D.slice (.slice (.int .u8))).has (.l l)) (hg : dsg [.l l] = true) (k : V → Option R) : dsG l k = k (A7Y (A1X l)) := by
 have ht : ∀ y ∈ l, ∃ D : List Nat, y.els = D.map nv := fun y hy => by
  rcases hd with q | ⟨ys, q, hys⟩
  ·cases q
  ·cases q; obtain ⟨D, h1, _⟩ := A07 (hys y hy); exact ⟨D, h1⟩
 have hg' : (bif Nat.ble (B3t l) 1000000000 then Nat.ble l.length 100000000 else false) = true := hg
 cases h1 : Nat.ble (B3t l) 1000000000 with
 | false => rw [h1] at hg'; cases hg'
 | true =>
  rw [h1, cond_true] at hg'
  exact C5p ht (by rw [B5A ht]; exact D07 h1) (D07 hg') k
theorem C4r {x : V} (hg : dsg [x] = true) : ∃ l, x = .l l := by
 cases x with
 | l l => exact ⟨l, rfl⟩
 | _ => cases hg
variable {R : Type}
def dwg : List V → Bool := fun xs => match xs with
 | [.l l] => Nat.ble l.length 1000000000
 | _ => false
def dwr (h : Nat) : List V → List Rs := fun xs => match xs with
 | [x] => [.d h (A7Y (A3Z (F1 x)))]
 | _ => []
theorem C8V {x : V} (hg : dwg [x] = true) : ∃ l, x = .l l ∧ Nat.ble l.length 1000000000 = true := by
 cases x with
 | l l => exact ⟨l, rfl, hg⟩
 | _ => cases hg
variable {R : Type}
variable {T : TT} {P : Program} {c : Q0} {e eb : B4} {of of' : Nat → Option Ob}
variable {R : Type}
abbrev DIn : D := .struct [B6l, .slice (.int .u8), .int .u32]
abbrev C8W : D := .struct [.int .i64, .slice (.int .u8)]
abbrev DTx : D := .struct [.int .u32, .slice DIn, .slice C8W, .int .u32]
theorem C9X {x : V} (h : DIn.has x) : ∃ r b n, x = .l [r, b, .i n] ∧ B6l.has r ∧ (D.slice (.int .u8)).has b ∧ inR .u32 n := by
 obtain ⟨ys, rfl, hy⟩ := h
 obtain ⟨a, b, c, rfl, ha, hb, n, rfl, hn⟩ := A9a hy
 exact ⟨a, b, n, rfl, ha, hb, hn⟩
theorem B0l {x : V} (h : DTx.has x) : ∃ v a b u, x = .l [.i v, a, b, .i u] ∧ inR .u32 v ∧ (D.slice DIn).has a ∧ (D.slice C8W).has b ∧ inR .u32 u := by
 obtain ⟨ys, rfl, hy⟩ := h
 obtain ⟨a, b, c, d, rfl, ⟨v, rfl, hv⟩, hb, hc, u, rfl, hu⟩ := A9b hy
 exact ⟨v, b, c, u, rfl, hv, hb, hc, hu⟩
theorem Q3 {d : D} {x : V} (h : (D.slice d).has x) : ∀ y ∈ x.els, d.has y := by
 rcases h with rfl | ⟨ys, rfl, hy⟩
 ·intro y hy; cases hy
 ·exact hy
variable {R : Type}
variable {R : Type}
theorem P0 (a b : Int) : C2 a b = decide (a ≤ b) := by simp [C2]
theorem F8 (a b : Int) : B7 a b = decide (a < b) := by simp [B7]
theorem A2J {a r : List V} {x : V} {l : V} (he : l.els = a ++ x :: r) : B7 (a.length : Nat) (l.els.length : Nat) = true := by rw [he]; simp [B7]; omega
theorem A2K {a : List V} {l : V} (he : l.els = a) : B7 (a.length : Nat) (l.els.length : Nat) = false := by rw [he]; simp [B7]
abbrev MX : Nat := 9223372036854775807
variable {T : TT} {P : Program} {c : Q0} {e : B4} {of of' : Nat → Option Ob}
variable {R : Type}
variable {R : Type}
variable {R : Type}
inductive PRn where
 | m (l : V) (n : Int) (i : Int)
inductive QRn where
 | o (l : V) (n : Int) (i : Int)
 | r (l : V) (n : Int) (i : Int)
def BRn (R : Type) (p : PRn) (K : PRn → Option R) (kx : QRn → Option R) : Option R :=
 match p with
 | .m l n i =>
  bif B7 i n then
   ck i ((l.els).length) <|
   bif B7 40 i then
   kx (.r l n i)
   else
   ln ((((V.nth (V.nth l i.toNat) 0)).els).length) <|
   bif B7 100 ((((V.nth (V.nth l i.toNat) 0)).els).length : Nat) then
   kx (.r l n i)
   else
   ln ((((V.nth (V.nth l i.toNat) 1)).els).length) <|
   bif B7 300 ((((V.nth (V.nth l i.toNat) 1)).els).length : Nat) then
   kx (.r l n i)
   else
   bif B7 (((V.nth (V.nth l i.toNat) 2)).int) 0 then
   kx (.r l n i)
   else
   bif B7 1000000000 (((V.nth (V.nth l i.toNat) 2)).int) then
   kx (.r l n i)
   else
   K (.m l n (C6 (i + 1)))
   else
   kx (.o l n i)
abbrev C4s := @BRn.eq_1
inductive PSa where
 | m (a : V) (b : V) (n : Int) (i : Int)
inductive QSa where
 | o (a : V) (b : V) (n : Int) (i : Int)
 | r (a : V) (b : V) (n : Int) (i : Int)
def BSa (R : Type) (p : PSa) (K : PSa → Option R) (kx : QSa → Option R) : Option R :=
 match p with
 | .m a b n i =>
  bif B7 i n then
   ck i ((a.els).length) <|
   ck i ((b.els).length) <|
   bif !(M3 (V.nth a i.toNat) (V.nth b i.toNat)) then
   kx (.r a b n i)
   else
   K (.m a b n (C6 (i + 1)))
   else
   kx (.o a b n i)
abbrev C4t := @BSa.eq_1
inductive PSx where
 | m (a : V) (b : V) (n : Int) (i : Int)
inductive QSx where
 | o (a : V) (b : V) (n : Int) (i : Int)
 | r (a : V) (b : V) (n : Int) (i : Int)
def BSx (R : Type) (p : PSx) (K : PSx → Option R) (kx : QSx → Option R) : Option R :=
 match p with
 | .m a b n i =>
  bif B7 i n then
   ck i ((a.els).length) <|
   ck i ((b.els).length) <|
   bif !(F7 (((V.nth a i.toNat)).els) (((V.nth b i.toNat)).els)) then
   kx (.r a b n i)
   else
   K (.m a b n (C6 (i + 1)))
   else
   kx (.o a b n i)
abbrev C4u := @BSx.eq_1
inductive PNn where
 | m (l : V) (es : List (V × V × Bool)) (n : Int) (i : Int)
inductive QNn where
 | o (l : V) (es : List (V × V × Bool)) (n : Int) (i : Int)
def BNn (R : Type) (p : PNn) (K : PNn → Option R) (kx : QNn → Option R) : Option R :=
 match p with
 | .m l es n i =>
  bif B7 i n then
   ck i ((l.els).length) <|
   bif M8 (.s (((V.nth (V.nth l i.toNat) 0)).els)) es then
   bif A1W (.s (((V.nth (V.nth l i.toNat) 0)).els)) es then
   R9 ((((Q9 (.s (((V.nth (V.nth l i.toNat) 0)).els)) es)).els).length + ([(V.nth l i.toNat)]).length) <|
   bif M3 (.s (((V.nth (V.nth l i.toNat) 0)).els)) (.s (((V.nth (V.nth l i.toNat) 0)).els)) then
   K (.m l (A1o (.s (((V.nth (V.nth l i.toNat) 0)).els)) (.l (((Q9 (.s (((V.nth (V.nth l i.toNat) 0)).els)) es)).els ++ [(V.nth l i.toNat)])) true es) n (C6 (i + 1)))
   else
   none
   else
   none
   else
   K (.m l (A1o (.s (((V.nth (V.nth l i.toNat) 0)).els)) (.l [(V.nth l i.toNat)]) true es) n (C6 (i + 1)))
   else
   kx (.o l es n i)
abbrev C4v := @BNn.eq_1
inductive PHn where
 | m (nm : List V) (l : V) (xs : List V) (n : Int) (i : Int)
inductive QHn where
 | o (nm : List V) (l : V) (xs : List V) (n : Int) (i : Int)
def BHn (R : Type) (p : PHn) (K : PHn → Option R) (kx : QHn → Option R) : Option R :=
 match p with
 | .m nm l xs n i =>
  bif B7 i n then
   ck i ((l.els).length) <|
   bif F7 (((V.nth (V.nth l i.toNat) 0)).els) nm then
   R9 (xs.length + ([(V.nth l i.toNat)]).length) <|
   K (.m nm l (xs ++ [(V.nth l i.toNat)]) n (C6 (i + 1)))
   else
   K (.m nm l xs n (C6 (i + 1)))
   else
   kx (.o nm l xs n i)
abbrev C4w := @BHn.eq_1
inductive PNi where
 | m (xs : List V) (e : V) (a : Int) (l : V) (n : Int) (i : Int)
inductive QNi where
 | o (xs : List V) (e : V) (a : Int) (l : V) (n : Int) (i : Int)
def BNi (R : Type) (p : PNi) (K : PNi → Option R) (kx : QNi → Option R) : Option R :=
 match p with
 | .m xs e a l n i =>
  ln xs.length <|
   bif B7 a (xs.length : Nat) then
   ck a xs.length <|
   bif sLt (((List.getD xs a.toNat .n)).els) (((V.nth e 0)).els) then
   K (.m xs e (C6 (a + 1)) l n i)
   else
   kx (.o xs e a l n i)
   else
   kx (.o xs e a l n i)
abbrev C4x := @BNi.eq_1
inductive PNo where
 | m (xs : List V) (l : V) (n : Int) (i : Int)
inductive QNo where
 | o (xs : List V) (l : V) (n : Int) (i : Int)
def BNo (R : Type) (p : PNo) (K : PNo → Option R) (kx : QNo → Option R) : Option R :=
 match p with
 | .m xs l n i =>
  bif B7 i n then
   ck i ((l.els).length) <|
   (E2 (BNi R) (A2 FU) (.m xs (V.nth l i.toNat) 0 l n i) fun q => match q with
   | .o xs1 e1 a1 l1 n1 i1 =>
   ln xs1.length <|
   bif G5 a1 (xs1.length : Nat) then
   bif ((C2 0 a1) && (C2 a1 (xs1.length : Nat))) && (C2 (xs1.length : Nat) (xs1.length : Nat)) then
   bif Nat.ble ((0 + a1.toNat) + (((xs1.length : Nat) - a1)).toNat) xs1.length then
   R9 (((List.replicate 0 (V.s []))).length + ((List.take ((((xs1.length : Nat) - a1)).toNat) (List.drop (0 + a1.toNat) xs1))).length) <|
   bif G5 a1 a1 then
   bif ((C2 0 (0 : Nat)) && (C2 (0 : Nat) a1)) && (C2 a1 (xs1.length : Nat)) then
   R9 (((List.take (((a1 - (0 : Nat))).toNat) (List.drop 0 xs1))).length + ([(V.s (((V.nth e1 0)).els))]).length) <|
   R9 ((((List.take (((a1 - (0 : Nat))).toNat) (List.drop 0 xs1)) ++ [(V.s (((V.nth e1 0)).els))])).length + (((List.replicate 0 (V.s [])) ++ (List.take ((((xs1.length : Nat) - a1)).toNat) (List.drop (0 + a1.toNat) xs1)))).length) <|
   K (.m (((List.take (((a1 - (0 : Nat))).toNat) (List.drop 0 xs1)) ++ [(V.s (((V.nth e1 0)).els))]) ++ ((List.replicate 0 (V.s [])) ++ (List.take ((((xs1.length : Nat) - a1)).toNat) (List.drop (0 + a1.toNat) xs1)))) l1 n1 (C6 (i1 + 1)))
   else
   none
   else
   none
   else
   none
   else
   none
   else
   ck a1 xs1.length <|
   bif !(F7 (((List.getD xs1 a1.toNat .n)).els) (((V.nth e1 0)).els)) then
   bif ((C2 0 a1) && (C2 a1 (xs1.length : Nat))) && (C2 (xs1.length : Nat) (xs1.length : Nat)) then
   bif Nat.ble ((0 + a1.toNat) + (((xs1.length : Nat) - a1)).toNat) xs1.length then
   R9 (((List.replicate 0 (V.s []))).length + ((List.take ((((xs1.length : Nat) - a1)).toNat) (List.drop (0 + a1.toNat) xs1))).length) <|
   bif G5 a1 a1 then
   bif ((C2 0 (0 : Nat)) && (C2 (0 : Nat) a1)) && (C2 a1 (xs1.length : Nat)) then
   R9 (((List.take (((a1 - (0 : Nat))).toNat) (List.drop 0 xs1))).length + ([(V.s (((V.nth e1 0)).els))]).length) <|
   R9 ((((List.take (((a1 - (0 : Nat))).toNat) (List.drop 0 xs1)) ++ [(V.s (((V.nth e1 0)).els))])).length + (((List.replicate 0 (V.s [])) ++ (List.take ((((xs1.length : Nat) - a1)).toNat) (List.drop (0 + a1.toNat) xs1)))).length) <|
   K (.m (((List.take (((a1 - (0 : Nat))).toNat) (List.drop 0 xs1)) ++ [(V.s (((V.nth e1 0)).els))]) ++ ((List.replicate 0 (V.s [])) ++ (List.take ((((xs1.length : Nat) - a1)).toNat) (List.drop (0 + a1.toNat) xs1)))) l1 n1 (C6 (i1 + 1)))
   else
   none
   else
   none
   else
   none
   else
   none
   else
   K (.m xs1 l1 n1 (C6 (i1 + 1))))
   else
   kx (.o xs l n i)
abbrev C4y := @BNo.eq_1
variable {R : Type}
theorem A5f : ∀ (x y : List V), sLt x y = !V0 y x := by
 intro x
 induction x with
 | nil => intro y; cases y <;> rfl
 | cons a x ih =>
  intro y
  cases y with
  | nil => rfl
  | cons b y =>
   simp only [sLt, V0, ih]
   by_cases h1 : b.int < a.int
   ·have e1 : B7 b.int a.int = true := by simp [B7, h1]
    have e2 : B7 a.int b.int = false := by simp [B7]; omega
    have e3 : G5 a.int b.int = false := by rw [← Bool.not_eq_true, H7]; omega
    simp [e1, e2, e3]
   ·have e1 : B7 b.int a.int = false := by simp [B7]; omega
    by_cases h2 : a.int < b.int
    ·have e2 : B7 a.int b.int = true := by simp [B7, h2]
     simp [e1, e2]
    ·have e2 : B7 a.int b.int = false := by simp [B7]; omega
     have e3 : G5 a.int b.int = true := by rw [H7]; omega
     simp [e1, e2, e3]
theorem B3u : ∀ x : List V, V0 x x = true := by
 intro x
 induction x with
 | nil => rfl
 | cons a x ih =>
  have e1 : B7 a.int a.int = false := by simp [B7]
  simp only [V0, e1, cond_false, ih]
theorem A8X : ∀ x y : List V, V0 x y = true ∨ V0 y x = true := by
 intro x
 induction x with
 | nil => intro y; exact .inl rfl
 | cons a x ih =>
  intro y
  cases y with
  | nil => exact .inr rfl
  | cons b y =>
   simp only [V0]
   by_cases h1 : a.int < b.int
   ·left; have : B7 a.int b.int = true := by simp [B7, h1]
    rw [this]; rfl
   ·have e1 : B7 a.int b.int = false := by simp [B7]; omega
    by_cases h2 : b.int < a.int
    ·right; have : B7 b.int a.int = true := by simp [B7, h2]
     rw [this]; rfl
    ·have e2 : B7 b.int a.int = false := by simp [B7]; omega
     simp only [e1, e2, cond_false]
     exact ih y
theorem B2a : ∀ {x y z : List V}, V0 x y = true → V0 y z = true → V0 x z = true := by
 intro x
 induction x with
 | nil => intro y z _ _; rfl
 | cons a x ih =>
  intro y z h1 h2
  cases y with
  | nil => cases h1
  | cons b y => cases z with
   | nil => cases h2
   | cons c z =>
    simp only [V0] at h1 h2 ⊢
    simp only [F8] at h1 h2 ⊢
    by_cases a1 : a.int < b.int
    ·by_cases b1 : b.int < c.int
     ·have : a.int < c.int := by omega
      simp [this]
     ·by_cases b2 : c.int < b.int
      ·simp [b1, b2] at h2
      ·have : a.int < c.int := by omega
       simp [this]
    ·by_cases a2 : b.int < a.int
     ·simp [a1, a2] at h1
     ·simp only [a1, a2, decide_false, cond_false] at h1
      by_cases b1 : b.int < c.int
      ·have : a.int < c.int := by omega
       simp [this]
      ·by_cases b2 : c.int < b.int
       ·simp [b1, b2] at h2
       ·simp only [b1, b2, decide_false, cond_false] at h2
        have c1 : ¬ a.int < c.int := by omega
        have c2 : ¬ c.int < a.int := by omega
        simp only [c1, c2, decide_false, cond_false]
        exact ih h1 h2
def A4y (x : List V) : Prop := ∃ ns : List Nat, x = ns.map nv
theorem A7f {x y : List V} (hx : A4y x) (hy : A4y y) (h1 : V0 x y = true) (h2 : V0 y x = true) : x = y := by
 obtain ⟨ns, rfl⟩ := hx
 obtain ⟨ms, rfl⟩ := hy
 induction ns generalizing ms with
 | nil => cases ms with
  | nil => rfl
  | cons b ms => cases h2
 | cons a ns ih => cases ms with
  | nil => cases h1
  | cons b ms =>
   simp only [List.map_cons, V0, nv, V.int, F8] at h1 h2
   by_cases a1 : (a : Int) < b
   ·have : ¬ (b : Int) < a := by omega
    simp [a1, this] at h2
   ·by_cases a2 : (b : Int) < a
    ·simp [a1, a2] at h1
    ·simp only [a1, a2, decide_false, cond_false] at h1 h2
     have : a = b := by omega
     subst this
     rw [List.map_cons, List.map_cons, ih ms h1 h2]
def NmV (x : V) : Prop := ∃ nm, x = .s nm ∧ A4y nm
def StS (xs : List V) : Prop := xs.Pairwise (fun a b => sLt a.els b.els = true) ∧ ∀ x ∈ xs, NmV x
def A0k (nm : List V) : List V → List V
 | [] => [.s nm]
 | x :: r => bif sLt x.els nm then x :: A0k nm r else bif F7 x.els nm then x :: r else .s nm :: x :: r
theorem B5B {nm : List V} : ∀ {xs : List V}, StS xs → V.s nm ∈ xs → A0k nm xs = xs := by
 intro xs
 induction xs with
 | nil => intro _ h; cases h
 | cons x r ih =>
  intro hs h
  obtain ⟨h1, h2⟩ := hs
  rw [List.pairwise_cons] at h1
  rcases List.mem_cons.1 h with rfl | h
  ·have : sLt (V.s nm).els nm = false := by rw [A5f, show (V.s nm).els = nm from rfl, B3u]; rfl
   have e2 : F7 (V.s nm).els nm = true := (L0 _ _).2 rfl
   simp only [A0k, this, cond_false, e2, cond_true]
  ·have : sLt x.els nm = true := h1.1 _ h
   simp only [A0k, this, cond_true]
   rw [ih ⟨h1.2, fun y hy => h2 y (by simp [hy])⟩ h]
theorem B5C {nm : List V} : ∀ {xs : List V}, (∀ x ∈ xs, NmV x) → V.s nm ∉ xs → A0k nm xs = A23 (.s nm) xs := by
 intro xs
 induction xs with
 | nil => intro _ _; rfl
 | cons x r ih =>
  intro hs h
  simp only [List.mem_cons, not_or] at h
  obtain ⟨nx, rfl, _⟩ := hs x (by simp)
  have hne : F7 (V.s nx).els nm = false := by
   rw [← Bool.not_eq_true, L0]
   intro q; exact h.1 (by rw [← show nx = nm from q])
  simp only [A0k, A23, A5f, hne, cond_false, show (V.s nm).els = nm from rfl]
  cases V0 nm (V.s nx).els
  ·simp only [Bool.not_false, cond_true, cond_false]
   rw [ih (fun y hy => hs y (by simp [hy])) h.2]
  ·rfl
theorem B5D {a x : V} : ∀ {l : List V}, x ∈ A23 a l ↔ x = a ∨ x ∈ l := by
 intro l
 induction l with
 | nil => simp [A23]
 | cons b r ih =>
  simp only [A23]
  cases V0 a.els b.els
  ·simp only [cond_false, List.mem_cons, ih]
   constructor
   ·rintro (h | h | h) <;> simp [h]
   ·rintro (h | h | h) <;> simp [h]
  ·simp
theorem B3v (a : V) : ∀ l : List V, (A23 a l).Perm (a :: l) := by
 intro l
 induction l with
 | nil => exact List.Perm.refl _
 | cons b r ih =>
  simp only [A23]
  cases V0 a.els b.els
  ·exact (ih.cons b).trans (List.Perm.swap _ _ _)
  ·exact List.Perm.refl _
theorem W1 : ∀ l : List V, (X9 l).Perm l := by
 intro l
 induction l with
 | nil => exact List.Perm.refl _
 | cons a r ih => exact (B3v a _).trans (ih.cons a)
theorem A8Y (a : V) : ∀ l : List V, l.Pairwise (fun x y => V0 x.els y.els = true) → (A23 a l).Pairwise (fun x y => V0 x.els y.els = true) := by
 intro l
 induction l with
 | nil => intro _; exact List.pairwise_singleton _ _
 | cons b r ih =>
  intro h
  rw [List.pairwise_cons] at h
  simp only [A23]
  cases hab : V0 a.els b.els
  ·rw [cond_false, List.pairwise_cons]
   refine ⟨fun x hx => ?_, ih h.2⟩
   rcases B5D.1 hx with rfl | hx
   ·rcases A8X x.els b.els with q | q
    ·rw [q] at hab; cases hab
    ·exact q
   ·exact h.1 x hx
  ·rw [cond_true, List.pairwise_cons]
   refine ⟨fun x hx => ?_, List.pairwise_cons.2 h⟩
   rcases List.mem_cons.1 hx with rfl | hx
   ·exact hab
   ·exact B2a hab (h.1 x hx)
theorem A20 : ∀ l : List V, (X9 l).Pairwise (fun x y => V0 x.els y.els = true) := by
 intro l
 induction l with
 | nil => exact List.Pairwise.nil
 | cons a r ih => exact A8Y a _ ih
theorem B0m {l m : List V} (h : l.Perm m) (hn : ∀ x ∈ l, NmV x) : X9 l = X9 m := by
 have hp : (X9 l).Perm (X9 m) := ((W1 l).trans h).trans (W1 m).symm
 refine List.Perm.eq_of_pairwise (le := fun a b => V0 a.els b.els = true) (fun a b ha hb h1 h2 => ?_) (A20 l) (A20 m) hp
 obtain ⟨na, rfl, h3⟩ := hn a ((W1 l).mem_iff.1 ha)
 obtain ⟨nb, rfl, h4⟩ := hn b (h.mem_iff.2 ((W1 m).mem_iff.1 hb))
 rw [A7f h3 h4 h1 h2]
theorem A5g {nm : List V} {x : V} : ∀ {xs : List V}, x ∈ A0k nm xs → x = .s nm ∨ x ∈ xs := by
 intro xs
 induction xs with
 | nil => intro h; simpa [A0k] using h
 | cons y r ih =>
  intro h
  simp only [A0k] at h
  cases c1 : sLt y.els nm with
  | true =>
   rw [c1, cond_true] at h
   rcases List.mem_cons.1 h with rfl | h
   ·exact .inr (by simp)
   ·exact (ih h).imp id (fun q => by simp [q])
  | false =>
   rw [c1, cond_false] at h
   cases c2 : F7 y.els nm with
   | true => rw [c2, cond_true] at h; exact .inr h
   | false =>
    rw [c2, cond_false] at h
    rcases List.mem_cons.1 h with rfl | h
    ·exact .inl rfl
    ·exact .inr h
theorem C5r {x y : List V} (hx : A4y x) (hy : A4y y) (h1 : V0 x y = true) (h2 : x ≠ y) : sLt x y = true := by
 rw [A5f]
 cases h : V0 y x with
 | false => rfl
 | true => exact absurd (A7f hx hy h1 h) h2
theorem C5s {x y z : List V} (h1 : sLt x y = true) (h2 : sLt y z = true) : sLt x z = true := by
 rw [A5f] at *
 simp only [Bool.not_eq_true'] at *
 cases h : V0 z x with
 | false => rfl
 | true =>
  rcases A8X y z with q | q
  ·have := B2a q h
   rw [this] at h1; cases h1
  ·rw [q] at h2; cases h2
theorem C0B {nm : List V} (hn : A4y nm) : ∀ {xs : List V}, StS xs → StS (A0k nm xs) := by
 intro xs
 induction xs with
 | nil => intro _; exact ⟨List.pairwise_singleton _ _, fun x hx => by simp only [A0k, List.mem_singleton] at hx; subst hx; exact ⟨nm, rfl, hn⟩⟩
 | cons y r ih =>
  intro hs
  have hm : ∀ x ∈ A0k nm (y :: r), NmV x := fun x hx => by
   rcases A5g hx with rfl | hx
   ·exact ⟨nm, rfl, hn⟩
   ·exact hs.2 x hx
  refine ⟨?_, hm⟩
  obtain ⟨h1, h2⟩ := hs
  have h1' := h1
  rw [List.pairwise_cons] at h1
  simp only [A0k]
  obtain ⟨ny, rfl, hny⟩ := h2 y (by simp)
  cases c1 : sLt (V.s ny).els nm with
  | true =>
   rw [cond_true, List.pairwise_cons]
   refine ⟨fun x hx => ?_, (ih ⟨h1.2, fun z hz => h2 z (by simp [hz])⟩).1⟩
   rcases A5g hx with rfl | hx
   ·exact c1
   ·exact h1.1 x hx
  | false =>
   rw [cond_false]
   cases c2 : F7 (V.s ny).els nm with
   | true => exact h1'
   | false =>
    rw [cond_false, List.pairwise_cons]
    have hlt : sLt nm (V.s ny).els = true := by
     rw [A5f] at c1
     simp only [Bool.not_eq_false'] at c1
     exact C5r hn hny c1 (fun q => by
      have : F7 (V.s ny).els nm = true := (L0 _ _).2 q.symm
      rw [this] at c2; cases c2)
    refine ⟨fun x hx => ?_, h1'⟩
    rcases List.mem_cons.1 hx with rfl | hx
    ·exact hlt
    ·exact C5s hlt (h1.1 x hx)
abbrev U0 (e : V) : List V := (e.nth 0).els
def E8 (xs l : List V) : List V := l.foldl (fun xs e => A0k (U0 e) xs) xs
def C9 (nm : List V) (l : List V) : List V := l.filter fun e => F7 (U0 e) nm
end Go.Vm
end