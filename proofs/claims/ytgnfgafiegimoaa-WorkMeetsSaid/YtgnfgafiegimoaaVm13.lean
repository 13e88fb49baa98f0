/- What the operations of a program do, shown once for all programs; and numbers. -/
import Derived.Test.YtgnfgafiegimoaaVm12
import Derived.Test.YtgnfgafiegimoaaVm11
set_option linter.constructorNameAsVariable false
set_option linter.unusedVariables false
set_option linter.unusedSimpArgs false
noncomputable section
namespace Go.Vm
open Go.RowKit
variable {P : Program} {T : TT} {R : Type} {c : Ctx} {e : Env} {of : Nat → Option Ob}
set_option linter.unusedVariables false
set_option linter.constructorNameAsVariable false

/-! ### What a function does at a small store it does at every store -/
/-- What is reached, in the order met. -/
def reachO (of : Nat → Option Ob) : Nat → List Nat → List Nat → List Nat
  | 0, _, acc => acc
  | _ + 1, [], acc => acc
  | f + 1, id :: r, acc => bif mem id acc then reachO of f r acc else
    match of id with
    | some o => reachO of f (refO o ++ r) (acc ++ [id])
    | none => acc
def idxL : List Nat → Nat → Nat
  | [], _ => 0
  | k :: r, id => bif Nat.beq k id then 0 else idxL r id + 1
def verOf (of : Nat → Option Ob) (id : Nat) : Nat :=
  match of id with
  | some (.row _ v _ _ _) => v
  | _ => 0
def nodupB : List Nat → Bool
  | [] => true
  | k :: r => !mem k r && nodupB r
def subB (L : List Nat) : List Nat → Bool
  | [] => true
  | k :: r => mem k L && subB L r
def chkR (of : Nat → Option Ob) (L : List Nat) : List Nat → Bool
  | [] => true
  | id :: r => (match of id with
    | some o => okT o && subB L (refO o)
    | none => false) && chkR of L r
def tau0 (of : Nat → Option Ob) (id ver : Nat) : Option Nat := bif Nat.beq (verOf of id) ver then some 1 else none
def canL (of : Nat → Option Ob) (L : List Nat) : List Nat → List Ob
  | [] => []
  | id :: r => (match of id with
    | some o => rnO (idxL L) (tau0 of) id o
    | none => .lp none) :: canL of L r
def ofL : List Ob → Nat → Option Ob
  | [], _ => none
  | o :: _, 0 => some o
  | _ :: r, n + 1 => ofL r n
def getN : List Nat → Nat → Option Nat
  | [], _ => none
  | k :: _, 0 => some k
  | _ :: r, n + 1 => getN r n
/-- Back: the number, the version. -/
def rho1 (L : List Nat) (nx : Nat) (j : Nat) : Nat :=
  match getN L j with
  | some id => id
  | none => nx + (j - L.length)
def tau1 (of : Nat → Option Ob) (L : List Nat) (j ver : Nat) : Option Nat :=
  match getN L j with
  | some id => some (ver + (verOf of id - 1))
  | none => some ver
def backL (of : Nat → Option Ob) (L : List Nat) (nx : Nat) : List (Nat × Ob) → List (Nat × Ob)
  | [] => []
  | p :: r => (rho1 L nx p.1, rnO (rho1 L nx) (tau1 of L) p.1 p.2) :: backL of L nx r
def allT : List (Nat × Ob) → Bool
  | [] => true
  | p :: r => okT p.2 && allT r
def numL : Nat → List Ob → List (Nat × Ob)
  | _, [] => []
  | j, o :: r => (j, o) :: numL (j + 1) r
def trS (s : SymC) : SymC := fun R args of nx k =>
  (fun L : List Nat => bif nodupB L && (chkR of L L && subB L (refL args)) then
    s R (rnL (idxL L) (tau0 of) args) (ofL (canL of L L)) L.length fun out => bif Nat.ble L.length out.nx && allT out.wo then
      k ⟨rnA (rho1 L nx) (tau1 of L) out.val, backL of L nx (numL 0 (canL of L L) ++ out.wo), L, nx + (out.nx - L.length)⟩ else none
    else none) (reachO of 64 (refL args) [])
theorem trS_nat {s : SymC} (hs : s.nat) : (trS s).nat := by
  intro R args of nx k
  unfold SymC.dir trS
  simp only
  cases (nodupB (reachO of 64 (refL args) []) && (chkR of (reachO of 64 (refL args) []) (reachO of 64 (refL args) []) && subB (reachO of 64 (refL args) []) (refL args)))
  · rfl
  · simp only [cond_true]
    rw [hs R, hs Eff]
    cases s.dir (rnL (idxL (reachO of 64 (refL args) [])) (tau0 of) args) (ofL (canL of (reachO of 64 (refL args) []) (reachO of 64 (refL args) []))) (reachO of 64 (refL args) []).length with
    | none => rfl
    | some out =>
      simp only [ob]
      cases (Nat.ble (reachO of 64 (refL args) []).length out.nx && allT out.wo) <;> rfl
theorem subB_spec {L : List Nat} : ∀ {l : List Nat}, subB L l = true → ∀ id ∈ l, id ∈ L := by
  intro l
  induction l with
  | nil => intro _ id h; cases h
  | cons k r ih =>
    intro h id hid
    simp only [subB, Bool.and_eq_true, mem_iff] at h
    rcases List.mem_cons.1 hid with rfl | hid
    · exact h.1
    · exact ih h.2 id hid
theorem nodupB_spec : ∀ {l : List Nat}, nodupB l = true → l.Nodup := by
  intro l
  induction l with
  | nil => intro _; exact .nil
  | cons k r ih =>
    intro h
    simp only [nodupB, Bool.and_eq_true, Bool.not_eq_true'] at h
    refine List.nodup_cons.2 ⟨fun hk => ?_, ih h.2⟩
    rw [mem_iff.2 hk] at h; cases h.1
theorem chkR_spec {L : List Nat} : ∀ {l : List Nat}, chkR of L l = true → ∀ id ∈ l, ∃ o, of id = some o ∧ okT o = true ∧ ∀ k ∈ refO o, k ∈ L := by
  intro l
  induction l with
  | nil => intro _ id h; cases h
  | cons k r ih =>
    intro h id hid
    simp only [chkR, Bool.and_eq_true] at h
    rcases List.mem_cons.1 hid with rfl | hid
    · obtain ⟨h1, _⟩ := h
      split at h1
      · rename_i o ho
        simp only [Bool.and_eq_true] at h1
        exact ⟨o, ho, h1.1, subB_spec h1.2⟩
      · cases h1
    · exact ih h.2 id hid
theorem getN_some {l : List Nat} : ∀ {j : Nat}, j < l.length → ∃ id, getN l j = some id ∧ id ∈ l := by
  induction l with
  | nil => intro j h; cases h
  | cons k r ih =>
    intro j h
    cases j with
    | zero => exact ⟨k, rfl, by simp⟩
    | succ j => obtain ⟨id, h1, h2⟩ := ih (j := j) (by simpa using h); exact ⟨id, h1, by simp [h2]⟩
theorem getN_none {l : List Nat} : ∀ {j : Nat}, l.length ≤ j → getN l j = none := by
  induction l with
  | nil => intro j _; rfl
  | cons k r ih => intro j h; cases j with
    | zero => cases h
    | succ j => exact ih (by simpa using h)
theorem getN_lt {l : List Nat} : ∀ {j id : Nat}, getN l j = some id → j < l.length := by
  intro j id h
  by_cases hj : j < l.length
  · exact hj
  · rw [getN_none (by omega)] at h; cases h
theorem idx_get {l : List Nat} (hn : l.Nodup) : ∀ {j id : Nat}, getN l j = some id → idxL l id = j := by
  induction l with
  | nil => intro j id h; cases h
  | cons k r ih =>
    intro j id h
    obtain ⟨n1, n2⟩ := List.nodup_cons.1 hn
    cases j with
    | zero => cases h; unfold idxL; rw [Nat.beq_refl]; rfl
    | succ j =>
      have h' : getN r j = some id := h
      have hid : id ∈ r := by
        obtain ⟨id', h1, h2⟩ := getN_some (getN_lt h')
        rw [h'] at h1; cases h1; exact h2
      have : k ≠ id := fun q => n1 (q ▸ hid)
      unfold idxL; rw [beq_ne this]
      show idxL r id + 1 = j + 1
      rw [ih n2 h']
theorem get_idx {l : List Nat} : ∀ {id : Nat}, id ∈ l → getN l (idxL l id) = some id ∧ idxL l id < l.length := by
  induction l with
  | nil => intro id h; cases h
  | cons k r ih =>
    intro id h
    unfold idxL
    by_cases hk : k = id
    · subst hk; rw [Nat.beq_refl]; exact ⟨rfl, by simp⟩
    · rw [beq_ne hk]
      obtain ⟨h1, h2⟩ := ih ((List.mem_cons.1 h).resolve_left (fun q => hk q.symm))
      exact ⟨h1, by show idxL r id + 1 < _; simp; omega⟩
theorem ofL_can {L : List Nat} : ∀ {l : List Nat} {j : Nat}, ofL (canL of L l) j = (getN l j).map fun id => match of id with
    | some o => rnO (idxL L) (tau0 of) id o
    | none => .lp none := by
  intro l
  induction l with
  | nil => intro j; rfl
  | cons k r ih => intro j; cases j with
    | zero => rfl
    | succ j => exact ih
theorem put_num : ∀ (l : List Ob) (n : Nat) (f : Nat → Option Ob) (j : Nat), put f (numL n l) j = if n ≤ j then (match ofL l (j - n) with | some o => some o | none => f j) else f j := by
  intro l
  induction l with
  | nil => intro n f j; simp [numL, put, ofL]
  | cons o r ih =>
    intro n f j
    simp only [numL, put]
    rw [ih]
    by_cases h1 : n + 1 ≤ j
    · rw [if_pos h1, if_pos (by omega), show j - n = (j - (n + 1)) + 1 by omega]
      simp only [ofL]
      cases ofL r (j - (n + 1)) with
      | some _ => rfl
      | none => simp only; rw [upd_ne _ _ (by omega)]
    · rw [if_neg h1]
      by_cases h2 : n ≤ j
      · have : j = n := by omega
        subst this
        rw [if_pos (Nat.le_refl _), Nat.sub_self, upd_same]; rfl
      · rw [if_neg h2, upd_ne _ _ (by omega)]
theorem put_back {L : List Nat} {nx : Nat} : ∀ (l : List (Nat × Ob)) (f g : Nat → Option Ob) (j : Nat), (∀ i ∈ ids l, rho1 L nx i = rho1 L nx j → i = j) →
    g (rho1 L nx j) = (f j).map (rnO (rho1 L nx) (tau1 of L) j) → put g (backL of L nx l) (rho1 L nx j) = (put f l j).map (rnO (rho1 L nx) (tau1 of L) j) := by
  intro l
  induction l with
  | nil => intro f g j _ h; exact h
  | cons p r ih =>
    intro f g j hi h
    obtain ⟨k, o⟩ := p
    simp only [backL, put]
    refine ih _ _ j (fun i hid => hi i (by simp only [ids, List.map_cons, List.mem_cons]; exact .inr hid)) ?_
    by_cases hk : j = k
    · subst hk; rw [upd_same, upd_same]; rfl
    · have hne : rho1 L nx j ≠ rho1 L nx k := fun q => hk (hi k (by simp [ids]) q.symm).symm
      rw [upd_ne _ _ hne, upd_ne _ _ hk]; exact h
theorem put_not {L : List Nat} {nx : Nat} : ∀ (l : List (Nat × Ob)) (g : Nat → Option Ob) (id : Nat), (∀ i ∈ ids l, rho1 L nx i ≠ id) → put g (backL of L nx l) id = g id := by
  intro l
  induction l with
  | nil => intro g id _; rfl
  | cons p r ih =>
    intro g id hi
    simp only [backL, put]
    rw [ih _ id (fun i hid => hi i (by simp only [ids, List.map_cons, List.mem_cons]; exact .inr hid))]
    exact upd_ne _ _ fun q => hi p.1 (by simp [ids]) q.symm
theorem put_isSome : ∀ (l : List (Nat × Ob)) (f : Nat → Option Ob) (j : Nat), (j ∈ ids l ∨ (f j).isSome) → (put f l j).isSome := by
  intro l
  induction l with
  | nil => intro f j h; exact h.resolve_left (fun q => by cases q)
  | cons p r ih =>
    intro f j h
    refine ih _ j ?_
    by_cases hj : j = p.1
    · right; subst hj; rw [upd_same]; rfl
    · rcases h with h | h
      · left; simp only [ids, List.map_cons, List.mem_cons] at h; exact h.resolve_left hj
      · right; rw [upd_ne _ _ hj]; exact h
theorem allT_put : ∀ (l : List (Nat × Ob)) (f : Nat → Option Ob), allT l = true → (∀ j o, f j = some o → okT o = true) → ∀ j o, put f l j = some o → okT o = true := by
  intro l
  induction l with
  | nil => intro f _ h j o; exact h j o
  | cons p r ih =>
    intro f ha h j o hj
    simp only [allT, Bool.and_eq_true] at ha
    refine ih _ ha.2 (fun j o hj => ?_) j o hj
    by_cases hk : j = p.1
    · subst hk; rw [upd_same] at hj; cases hj; exact ha.1
    · rw [upd_ne _ _ hk] at hj; exact h j o hj
theorem okT_rn {ρ : Nat → Nat} {τ : Nat → Nat → Option Nat} {id : Nat} {o : Ob} : okT (rnO ρ τ id o) = true := by
  cases o with
  | lp q => rfl
  | it q => cases q <;> rfl
  | _ => rfl
theorem Rep.usedR {a : A} {v : Value} (h : Rep T e a v) : ∀ id ∈ refA a, e.U id := by
  by_cases ht : ∃ l, a = .t l
  · obtain ⟨l, rfl⟩ := ht
    obtain ⟨xs, rfl, h2, h3⟩ := h
    have key : ∀ (l : List A) (k0 : Nat), (∀ (i : Nat) v, l[i]? = some v → ∃ x, Rep1 T e v x) → ∀ id ∈ refL l, e.U id := by
      intro l
      induction l with
      | nil => intro _ _ id hid; cases hid
      | cons a r ih =>
        intro k0 h id hid
        simp only [refL, List.mem_append] at hid
        rcases hid with hid | hid
        · obtain ⟨x, hx⟩ := h 0 a rfl; exact hx.used id hid
        · exact ih 0 (fun i v hv => h (i + 1) v (by simpa using hv)) id hid
    intro id hid
    refine key l 0 (fun i v hv => ?_) id (by simpa [refA] using hid)
    have hi : i < xs.size := by
      have := (List.getElem?_eq_some_iff.1 hv).1; omega
    exact ⟨xs[i], h3 i v _ hv (by simp [hi])⟩
  · exact (rep1_of h fun l hl => ht ⟨l, hl⟩).used
/-- At a store that is known whole. -/
def SymAt (P : Program) (T : TT) (f : FuncId) (s : Sym) : Prop :=
  ∀ (c : Ctx) (e : Env) (of : Nat → Option Ob) (args : List A) (vals : Array Value) (nx : Nat) (out : Eff), OSim T c e of → s args of nx = some out → (∀ id, nx ≤ id → id < out.nx → ¬ e.U id) → Reps T e args vals.toList → Does P (callFunc f vals) e.w (LeftN T c e of nx out)
theorem SymOK.at_ {f : FuncId} {s : Sym} (h : SymOK P T f s) : SymAt P T f s := fun c e of args vals nx out hos hr hu hv => h c e of of args vals nx out hos hr (fun _ _ => rfl) hu hv
/-- A function by what it comes to, at whatever stands there. -/
theorem SymAt.same {f : FuncId} {s s' : Sym} (hs : SymAt P T f s) (h : ∀ (c : Ctx) (e : Env) (of : Nat → Option Ob) (args : List A) (vals : List Value) (nx : Nat) (out : Eff), OSim T c e of → Reps T e args vals → s' args of nx = some out → s args of nx = some out) : SymAt P T f s' :=
  fun c e of args vals nx out hos hr hu hv => hs c e of args vals nx out hos (h c e of args _ nx out hos hv hr) hu hv
theorem trS_ok {f : FuncId} {s : SymC} (hn : s.nat) (hs : SymAt P T f s.dir) : SymOK P T f (trS s).dir := by
  intro c e of of' args vals nx out hos hrun hro hu hvals
  unfold SymC.dir trS at hrun
  simp only at hrun
  generalize reachO of 64 (refL args) [] = L at hrun
  cases hc : (nodupB L && (chkR of L L && subB L (refL args))) with
  | false => rw [hc] at hrun; cases hrun
  | true =>
  rw [hc] at hrun
  simp only [cond_true] at hrun
  rw [hn Eff] at hrun
  obtain ⟨out0, hout0, hk⟩ := ob_some hrun
  cases hc2 : (Nat.ble L.length out0.nx && allT out0.wo) with
  | false => rw [hc2] at hk; cases hk
  | true =>
  rw [hc2] at hk
  simp only [cond_true, Option.some.injEq] at hk
  subst hk
  simp only [Bool.and_eq_true] at hc hc2
  obtain ⟨hnd, hck, hsa⟩ := hc
  obtain ⟨hm, hat⟩ := hc2
  have hm := Nat.le_of_ble_eq_true hm
  have hnd := nodupB_spec hnd
  have hck := chkR_spec hck
  have hsa := subB_spec hsa
  -- the objects as they are
  have hobj : ∀ id ∈ L, ∃ o, of id = some o ∧ of' id = some o ∧ okT o = true ∧ (∀ k ∈ refO o, k ∈ L) ∧ OK T e id o := fun id hid => by
    obtain ⟨o, h1, h2, h3⟩ := hck id hid
    have h4 : of' id = some o := (hro id hid).trans h1
    exact ⟨o, h1, h4, h2, h3, hos.ok id o h4⟩
  have hbn : ∀ id ∈ L, e.bn id = verOf of id := fun id hid => by
    obtain ⟨o, h1, h2, h3, h4, h5⟩ := hobj id hid
    unfold verOf
    rw [h1]
    cases o with
    | row el ver xs nl sh => exact h5.2.2.1
    | box t a sh => exact h5.2.1
    | map kt et es => exact h5.2.1
    | vm kt et es => exact h5.2.1
    | lp q => cases q <;> exact h5.2.1
    | it q => cases q <;> exact h5.2.1
  have hU : ∀ id ∈ L, e.U id := fun id hid => by
    obtain ⟨o, _, _, _, _, h5⟩ := hobj id hid; exact h5.use
  have hpos : ∀ id ∈ L, ∀ el ver xs nl sh, of id = some (.row el ver xs nl sh) → 0 < ver := fun id hid el ver xs nl sh h => by
    obtain ⟨o, h1, _, _, _, h5⟩ := hobj id hid
    rw [h1] at h; cases h; exact h5.2.1
  let g : Nat → Nat := fun j => (getN L j).getD 0
  have hg : ∀ j, j < L.length → getN L j = some (g j) ∧ g j ∈ L := fun j hj => by
    obtain ⟨id, h1, h2⟩ := getN_some hj
    simp only [g, h1]; exact ⟨rfl, h2⟩
  let e0 : Env := { w := e.w, ι := fun j => if j < L.length then e.ι (g j) else none, S := e.S, bn := fun j => if verOf of (g j) = 0 then 0 else 1, U := fun j => j < L.length, ty := fun j => e.ty (g j), ln := fun j => e.ln (g j) }
  let c0 : Ctx := { w0 := e.w, M := fun b => ∃ id ∈ L, ∃ o, e.ι id = some (b, o), S0 := e.S }
  have hgi : ∀ id ∈ L, g (idxL L id) = id ∧ idxL L id < L.length := fun id hid => by
    obtain ⟨h1, h2⟩ := get_idx hid
    simp only [g, h1]; exact ⟨rfl, h2⟩
  have hig : ∀ j, j < L.length → idxL L (g j) = j := fun j hj => idx_get hnd (hg j hj).1
  have ren0 : REN e e0 (idxL L) (tau0 of) (fun id => id ∈ L) := by
    refine ⟨rfl, fun _ _ => Iff.rfl, fun id hid _ => (hgi id hid).2, fun id hid _ => ?_, fun id hid _ => ?_, fun id hid _ => ?_, fun id hid _ hb => ?_, fun id ver v hid _ hτ h0 hle => ?_⟩
    · show (if idxL L id < L.length then e.ι (g (idxL L id)) else none) = _
      rw [if_pos (hgi id hid).2, (hgi id hid).1]
    · show e.ty (g (idxL L id)) = _; rw [(hgi id hid).1]
    · show e.ln (g (idxL L id)) = _; rw [(hgi id hid).1]
    · show (if verOf of (g (idxL L id)) = 0 then 0 else 1) = 0
      rw [(hgi id hid).1, ← hbn id hid, if_pos hb]
    · unfold tau0 at hτ
      cases hq : Nat.beq (verOf of id) ver with
      | false => rw [hq] at hτ; cases hτ
      | true =>
        rw [hq] at hτ; cases hτ
        have hq := Nat.eq_of_beq_eq_true hq
        refine ⟨by omega, ?_, fun _ => by rw [hbn id hid, hq]⟩
        show 1 ≤ (if verOf of (g (idxL L id)) = 0 then 0 else 1)
        rw [(hgi id hid).1, hq, if_neg (by omega)]; exact Nat.le_refl 1
  have hcan : ∀ j o, ofL (canL of L L) j = some o → j < L.length ∧ ∃ o1, of (g j) = some o1 ∧ o = rnO (idxL L) (tau0 of) (g j) o1 := fun j o hj => by
    rw [ofL_can] at hj
    cases hgj : getN L j with
    | none => rw [hgj] at hj; cases hj
    | some id =>
      have hlt := getN_lt hgj
      obtain ⟨h1, h2⟩ := hg j hlt
      rw [h1] at hj
      obtain ⟨o1, p1, _⟩ := hobj _ h2
      simp only [Option.map_some, Option.some.injEq, p1] at hj
      exact ⟨hlt, o1, p1, hj.symm⟩
  have hcan1 : ∀ j, j < L.length → (ofL (canL of L L) j).isSome := fun j hj => by
    rw [ofL_can, (hg j hj).1]; rfl
  have hsome' : ∀ id ∈ L, (of' id).isSome := fun id hid => by
    obtain ⟨o, _, h2, _⟩ := hobj id hid; rw [h2]; rfl
  have hos0 : OSim T c0 e0 (ofL (canL of L L)) := by
    refine ⟨fun j o hj => ?_, fun i j b o b' o' hi hj hbi hbj hne => ?_, fun j b o hj hb => ?_, fun j b o hj hb => ?_, fun b i h => hos.slt b i h, fun _ _ h => h, fun _ _ h => .inl h, rfl, rfl, rfl, Nat.le_refl _, fun _ _ _ => rfl⟩
    · obtain ⟨hlt, o1, h1, rfl⟩ := hcan j o hj
      obtain ⟨o2, p1, p2, p3, p4, p5⟩ := hobj _ (hg j hlt).2
      rw [h1] at p1; cases p1
      have := p5.ren ren0 (hg j hlt).2 p4 p3 (fun el ver xs nl sh he => by
        subst he
        have hv : verOf of (g j) = ver := by unfold verOf; rw [h1]
        have hp := hpos _ (hg j hlt).2 _ _ _ _ _ h1
        refine ⟨1, by unfold tau0; rw [hv, Nat.beq_refl]; rfl, ?_⟩
        show (if verOf of (g (idxL L (g j))) = 0 then 0 else 1) = 1
        rw [hig j hlt, hv, if_neg (by omega)])
      rw [hig j hlt] at this
      exact this
    · obtain ⟨oi, hi⟩ := Option.isSome_iff_exists.1 hi
      obtain ⟨oj, hj⟩ := Option.isSome_iff_exists.1 hj
      obtain ⟨li, _⟩ := hcan i oi hi
      obtain ⟨lj, _⟩ := hcan j oj hj
      have hbi : (if i < L.length then e.ι (g i) else none) = some (b, o) := hbi
      have hbj : (if j < L.length then e.ι (g j) else none) = some (b', o') := hbj
      rw [if_pos li] at hbi; rw [if_pos lj] at hbj
      exact hos.sep _ _ _ _ _ _ (hsome' _ (hg i li).2) (hsome' _ (hg j lj).2) hbi hbj (fun q => hne (by rw [← hig i li, q, hig j lj]))
    · obtain ⟨oj, hj⟩ := Option.isSome_iff_exists.1 hj
      obtain ⟨lj, _⟩ := hcan j oj hj
      have hb : (if j < L.length then e.ι (g j) else none) = some (b, o) := hb
      rw [if_pos lj] at hb
      exact .inr ⟨g j, (hg j lj).2, o, hb⟩
    · have lj : j < L.length := hj
      have hb : (if j < L.length then e.ι (g j) else none) = some (b, o) := hb
      rw [if_pos lj] at hb
      exact hos.lt _ _ _ (hU _ (hg j lj).2) hb
  have hreps0 : Reps T e0 (rnL (idxL L) (tau0 of) args) vals.toList := hvals.ren ren0 hsa
  refine does_mono (hs c0 e0 (ofL (canL of L L)) _ vals L.length out0 hos0 hout0 (fun j h1 _ (h : j < L.length) => by omega) hreps0) ?_
  rintro x w' ⟨e1, rfl, k1, k2, k3, k4⟩
  have k3 : ∀ j, e1.U j → j < out0.nx := fun j hj => by
    rcases k3 j hj with h | h
    · have h : j < L.length := h; omega
    · exact h.2
  have k3' : ∀ j, j < L.length → e1.U j := fun j hj => k2.use j hj
  -- where it comes back to
  let img : Nat → Prop := fun id => id ∈ L ∨ (nx ≤ id ∧ id < nx + (out0.nx - L.length))
  let inv : Nat → Nat := fun id => if id ∈ L then idxL L id else L.length + (id - nx)
  let dl : Nat → Nat := fun j => if j < L.length then verOf of (g j) - 1 else 0
  haveI : ∀ id, Decidable (img id) := fun id => inferInstanceAs (Decidable (id ∈ L ∨ (nx ≤ id ∧ id < nx + (out0.nx - L.length))))
  let e2 : Env := { w := e1.w, S := e1.S, ι := fun id => if img id then e1.ι (inv id) else e.ι id, bn := fun id => if img id then e1.bn (inv id) + dl (inv id) else e.bn id, U := fun id => if img id then e1.U (inv id) else e.U id, ty := fun id => if img id then e1.ty (inv id) else e.ty id, ln := fun id => if img id then e1.ln (inv id) else e.ln id }
  have hnew : ∀ id, nx ≤ id → id < nx + (out0.nx - L.length) → id ∉ L := fun id h1 h2 hid => hu id h1 h2 (hU id hid)
  have hrho : ∀ j, j < out0.nx → img (rho1 L nx j) ∧ inv (rho1 L nx j) = j := fun j hj => by
    by_cases hl : j < L.length
    · obtain ⟨h1, h2⟩ := hg j hl
      have : rho1 L nx j = g j := by unfold rho1; rw [h1]
      rw [this]
      refine ⟨.inl h2, ?_⟩
      simp only [inv]; rw [if_pos h2, hig j hl]
    · have : rho1 L nx j = nx + (j - L.length) := by unfold rho1; rw [getN_none (by omega)]
      rw [this]
      have hlt : nx + (j - L.length) < nx + (out0.nx - L.length) := by omega
      refine ⟨.inr ⟨by omega, hlt⟩, ?_⟩
      simp only [inv]; rw [if_neg (hnew _ (by omega) hlt)]; omega
  have hinv : ∀ id, img id → inv id < out0.nx ∧ rho1 L nx (inv id) = id := fun id hid => by
    by_cases hl : id ∈ L
    · obtain ⟨h1, h2⟩ := get_idx hl
      simp only [inv]; rw [if_pos hl]
      refine ⟨by omega, ?_⟩
      unfold rho1; rw [h1]
    · have hid := hid.resolve_left hl
      simp only [inv]; rw [if_neg hl]
      refine ⟨by omega, ?_⟩
      unfold rho1; rw [getN_none (by omega)]; simp only; omega
  have hrinj : ∀ i j, i < out0.nx → j < out0.nx → rho1 L nx i = rho1 L nx j → i = j := fun i j hi hj h => by
    rw [← (hrho i hi).2, ← (hrho j hj).2, h]
  have ren1 : REN e1 e2 (rho1 L nx) (tau1 of L) (fun j => e1.U j) := by
    refine ⟨rfl, fun _ _ => Iff.rfl, fun j _ hj => ?_, fun j _ hj => ?_, fun j _ hj => ?_, fun j _ hj => ?_, fun j _ hj hb => ?_, fun j ver v _ hj hτ h0 hle => ?_⟩
    · show if img (rho1 L nx j) then e1.U (inv (rho1 L nx j)) else e.U (rho1 L nx j)
      obtain ⟨h1, h2⟩ := hrho j (k3 j hj)
      rw [if_pos h1, h2]; exact hj
    · show (if img (rho1 L nx j) then e1.ι (inv (rho1 L nx j)) else e.ι (rho1 L nx j)) = _
      obtain ⟨h1, h2⟩ := hrho j (k3 j hj)
      rw [if_pos h1, h2]
    · show (if img (rho1 L nx j) then e1.ty (inv (rho1 L nx j)) else e.ty (rho1 L nx j)) = _
      obtain ⟨h1, h2⟩ := hrho j (k3 j hj)
      rw [if_pos h1, h2]
    · show (if img (rho1 L nx j) then e1.ln (inv (rho1 L nx j)) else e.ln (rho1 L nx j)) = _
      obtain ⟨h1, h2⟩ := hrho j (k3 j hj)
      rw [if_pos h1, h2]
    · show (if img (rho1 L nx j) then e1.bn (inv (rho1 L nx j)) + dl (inv (rho1 L nx j)) else e.bn (rho1 L nx j)) = 0
      obtain ⟨h1, h2⟩ := hrho j (k3 j hj)
      rw [if_pos h1, h2, hb]
      simp only [dl]
      by_cases hl : j < L.length
      · rw [if_pos hl]
        have := k2.up j hl
        have hq : (if verOf of (g j) = 0 then 0 else 1) ≤ e1.bn j := this
        by_cases hv : verOf of (g j) = 0
        · omega
        · rw [if_neg hv] at hq; omega
      · rw [if_neg hl]
    · have e2bn : e2.bn (rho1 L nx j) = e1.bn j + dl j := by
        show (if img (rho1 L nx j) then e1.bn (inv (rho1 L nx j)) + dl (inv (rho1 L nx j)) else e.bn (rho1 L nx j)) = _
        obtain ⟨h1, h2⟩ := hrho j (k3 j hj)
        rw [if_pos h1, h2]
      have hv : v = ver + dl j := by
        unfold tau1 at hτ
        simp only [dl]
        by_cases hl : j < L.length
        · rw [(hg j hl).1] at hτ; rw [if_pos hl]; simpa using hτ.symm
        · rw [getN_none (by omega)] at hτ; rw [if_neg hl]; simpa using hτ.symm
      rw [e2bn, hv]
      exact ⟨by omega, by omega, fun h => by omega⟩
  have imgU : ∀ id, img id → e.U id → id ∈ L := fun id hid hU' => by
    rcases hid with h | h
    · exact h
    · exact absurd hU' (hu id h.1 h.2)
  have le2 : e.le e2 := by
    refine ⟨fun b i h => ⟨(k2.S b i h).1, fun y hy => (k2.S b i h).2 y hy⟩, fun id hid => ?_, fun id hid hbe => ?_, fun id hid hb => ?_, fun id hid => ?_, fun id hid => ?_, k2.grow, k2.keep⟩
    · show if img id then e1.U (inv id) else e.U id
      by_cases hi : img id
      · have hl := imgU id hi hid
        rw [if_pos hi]
        refine k3' _ ?_
        simp only [inv]; rw [if_pos hl]; exact (hgi id hl).2
      · rw [if_neg hi]; exact hid
    · by_cases hi : img id
      · have hl := imgU id hi hid
        have hiv : inv id = idxL L id := by simp only [inv]; rw [if_pos hl]
        have hbe : (if img id then e1.bn (inv id) + dl (inv id) else e.bn id) = e.bn id := hbe
        rw [if_pos hi, hiv] at hbe
        have hlt := (hgi id hl).2
        have hdl : dl (idxL L id) = verOf of id - 1 := by simp only [dl]; rw [if_pos hlt, (hgi id hl).1]
        have hb0 : e0.bn (idxL L id) = if verOf of id = 0 then 0 else 1 := by
          show (if verOf of (g (idxL L id)) = 0 then 0 else 1) = _
          rw [(hgi id hl).1]
        have hup := k2.up _ hlt
        rw [hbn id hl, hdl] at hbe
        have heq : e1.bn (idxL L id) = e0.bn (idxL L id) := by
          rw [hb0] at hup ⊢
          by_cases hv : verOf of id = 0
          · rw [if_pos hv] at hup ⊢; omega
          · rw [if_neg hv] at hup ⊢; omega
        obtain ⟨q1, q2, q3⟩ := k2.obj _ hlt heq
        have i0 : e0.ι (idxL L id) = e.ι id := by
          show (if idxL L id < L.length then e.ι (g (idxL L id)) else none) = _
          rw [if_pos hlt, (hgi id hl).1]
        refine ⟨?_, ?_, fun b o hb => ?_⟩
        · show (if img id then e1.ι (inv id) else e.ι id) = _
          rw [if_pos hi, hiv, q1, i0]
        · show (if img id then e1.ln (inv id) else e.ln id) = _
          rw [if_pos hi, hiv, q2]
          show e.ln (g (idxL L id)) = _
          rw [(hgi id hl).1]
        · exact q3 b o (by rw [i0]; exact hb)
      · refine ⟨?_, ?_, fun b o hb => k2.keep b (hos.lt _ _ _ hid hb)⟩
        · show (if img id then e1.ι (inv id) else e.ι id) = _; rw [if_neg hi]
        · show (if img id then e1.ln (inv id) else e.ln id) = _; rw [if_neg hi]
    · show (if img id then e1.bn (inv id) + dl (inv id) else e.bn id) = 0
      by_cases hi : img id
      · have hl := imgU id hi hid
        have hiv : inv id = idxL L id := by simp only [inv]; rw [if_pos hl]
        have hlt := (hgi id hl).2
        have hv : verOf of id = 0 := by rw [← hbn id hl]; exact hb
        rw [if_pos hi, hiv]
        have hb0 : e0.bn (idxL L id) = 0 := by
          show (if verOf of (g (idxL L id)) = 0 then 0 else 1) = 0
          rw [(hgi id hl).1, if_pos hv]
        have := k2.box _ hlt hb0
        have hdl : dl (idxL L id) = 0 := by simp only [dl]; rw [if_pos hlt, (hgi id hl).1]; omega
        omega
      · rw [if_neg hi]; exact hb
    · show e.bn id ≤ (if img id then e1.bn (inv id) + dl (inv id) else e.bn id)
      by_cases hi : img id
      · have hl := imgU id hi hid
        have hiv : inv id = idxL L id := by simp only [inv]; rw [if_pos hl]
        have hlt := (hgi id hl).2
        rw [if_pos hi, hiv, hbn id hl]
        have hup := k2.up _ hlt
        have hb0 : e0.bn (idxL L id) = if verOf of id = 0 then 0 else 1 := by
          show (if verOf of (g (idxL L id)) = 0 then 0 else 1) = _
          rw [(hgi id hl).1]
        have hdl : dl (idxL L id) = verOf of id - 1 := by simp only [dl]; rw [if_pos hlt, (hgi id hl).1]
        rw [hb0] at hup
        by_cases hv : verOf of id = 0
        · omega
        · rw [if_neg hv] at hup; omega
      · rw [if_neg hi]; exact Nat.le_refl _
    · show (if img id then e1.ty (inv id) else e.ty id) = _
      by_cases hi : img id
      · have hl := imgU id hi hid
        have hiv : inv id = idxL L id := by simp only [inv]; rw [if_pos hl]
        have hlt := (hgi id hl).2
        rw [if_pos hi, hiv, k2.ty _ hlt]
        show e.ty (g (idxL L id)) = _
        rw [(hgi id hl).1]
      · rw [if_neg hi]
  -- the store behind the call
  have hfin : ∀ j, put (ofL (canL of L L)) out0.wo j = put (put (fun _ => none) (numL 0 (canL of L L))) out0.wo j := fun j => by
    refine put_agree _ ?_
    rw [put_num, if_pos (Nat.zero_le _), Nat.sub_zero]
    cases ofL (canL of L L) j <;> rfl
  have hids : ∀ i ∈ ids (numL 0 (canL of L L) ++ out0.wo), i < out0.nx := fun i hi => by
    have hs1 : (put (ofL (canL of L L)) out0.wo i).isSome := by
      rw [hfin, ← put_append]
      exact put_isSome _ _ _ (.inl hi)
    obtain ⟨o, ho⟩ := Option.isSome_iff_exists.1 hs1
    exact k3 _ (k1.ok _ _ ho).use
  have hput1 : ∀ j, j < out0.nx → put of' (backL of L nx (numL 0 (canL of L L) ++ out0.wo)) (rho1 L nx j) = (put (ofL (canL of L L)) out0.wo j).map (rnO (rho1 L nx) (tau1 of L) j) := fun j hj => by
    rw [hfin, ← put_append]
    by_cases hl : j < L.length
    · -- overwritten by its own
      have : put of' (backL of L nx (numL 0 (canL of L L) ++ out0.wo)) (rho1 L nx j) = put (fun _ => none) (backL of L nx (numL 0 (canL of L L) ++ out0.wo)) (rho1 L nx j) := by
        have happ : backL of L nx (numL 0 (canL of L L) ++ out0.wo) = backL of L nx (numL 0 (canL of L L)) ++ backL of L nx out0.wo := by
          generalize numL 0 (canL of L L) = l1
          induction l1 with
          | nil => rfl
          | cons p r ih => simp only [List.cons_append, backL, ih]
        rw [happ, put_append, put_append]
        refine put_agree _ ?_
        have hsomeN : (put (fun _ => none) (numL 0 (canL of L L)) j).isSome := by
          rw [put_num, if_pos (Nat.zero_le _), Nat.sub_zero]
          obtain ⟨o, ho⟩ := Option.isSome_iff_exists.1 (hcan1 j hl)
          rw [ho]; rfl
        have hin : ∀ i ∈ ids (numL 0 (canL of L L)), rho1 L nx i = rho1 L nx j → i = j := fun i hi h => hrinj i j (hids i (by simp only [ids, List.map_append, List.mem_append]; exact .inl hi)) hj h
        -- both stores answer with what was put last
        have key : ∀ (l : List (Nat × Ob)) (f g : Nat → Option Ob) (id : Nat), (put (fun _ => none) l id).isSome ∨ f id = g id → put f l id = put g l id := by
          intro l
          induction l with
          | nil => intro f g id h; rcases h with h | h
                   · cases h
                   · exact h
          | cons p r ih =>
            intro f g id h
            refine ih _ _ id ?_
            by_cases hid : id = p.1
            · right; subst hid; rw [upd_same, upd_same]
            · rw [upd_ne _ _ hid, upd_ne _ _ hid]
              rcases h with h | h
              · left
                have : put (upd (fun _ => none) p.1 (some p.2)) r id = put (fun _ => none) r id := put_agree r (upd_ne _ _ hid)
                rw [← this]; exact h
              · exact .inr h
        refine key _ _ _ _ (.inl ?_)
        rw [put_back (of := of) (numL 0 (canL of L L)) (fun _ => none) (fun _ => none) j hin rfl]
        obtain ⟨o, ho⟩ := Option.isSome_iff_exists.1 hsomeN
        rw [ho]; rfl
      rw [this]
      exact put_back (of := of) _ _ _ j (fun i hi h => hrinj i j (hids i hi) hj h) rfl
    · refine put_back (of := of) _ _ _ j (fun i hi h => hrinj i j (hids i hi) hj h) ?_
      -- a new number: nothing was there
      have hr : rho1 L nx j = nx + (j - L.length) := by unfold rho1; rw [getN_none (by omega)]
      cases hq : of' (rho1 L nx j) with
      | none => rfl
      | some o =>
        have := (hos.ok _ _ hq).use
        rw [hr] at this
        exact absurd this (hu _ (by omega) (by show nx + (j - L.length) < nx + (out0.nx - L.length); omega))
  have hput2 : ∀ id, ¬ img id → put of' (backL of L nx (numL 0 (canL of L L) ++ out0.wo)) id = of' id := fun id hid => put_not _ _ _ (fun i hi h => hid (h ▸ (hrho i (hids i hi)).1))
  have hall : ∀ j o, put (ofL (canL of L L)) out0.wo j = some o → okT o = true := allT_put _ _ hat (fun j o hj => by
    obtain ⟨_, o1, _, rfl⟩ := hcan j o hj; exact okT_rn)
  have himgO : ∀ id o, img id → put of' (backL of L nx (numL 0 (canL of L L) ++ out0.wo)) id = some o → ∃ o1, put (ofL (canL of L L)) out0.wo (inv id) = some o1 ∧ o = rnO (rho1 L nx) (tau1 of L) (inv id) o1 := fun id o hid ho => by
    obtain ⟨h1, h2⟩ := hinv id hid
    rw [← h2, hput1 _ h1] at ho
    cases hq : put (ofL (canL of L L)) out0.wo (inv id) with
    | none => rw [hq] at ho; cases ho
    | some o1 => rw [hq] at ho; exact ⟨o1, rfl, by simpa using ho.symm⟩
  have hι2 : ∀ id, img id → e2.ι id = e1.ι (inv id) := fun id hid => by
    show (if img id then e1.ι (inv id) else e.ι id) = _; rw [if_pos hid]
  have hι2' : ∀ id, ¬ img id → e2.ι id = e.ι id := fun id hid => by
    show (if img id then e1.ι (inv id) else e.ι id) = _; rw [if_neg hid]
  have hM : ∀ b, c0.M b → c.w0.heap.size ≤ b ∨ c.M b := fun b ⟨id, hid, o, hb⟩ => hos.own id b o (hsome' id hid) hb
  have hMs : ∀ b, c0.M b → b < e.w.heap.size := fun b ⟨id, hid, o, hb⟩ => hos.lt id b o (hU id hid) hb
  have hnM : ∀ id b o, ¬ img id → (of' id).isSome → e.ι id = some (b, o) → ¬ c0.M b ∧ b < e.w.heap.size := fun id b o hid hs1 hb => by
    obtain ⟨o1, ho1⟩ := Option.isSome_iff_exists.1 hs1
    refine ⟨fun ⟨id', hid', o', hb'⟩ => ?_, hos.lt _ _ _ (hos.ok _ _ ho1).use hb⟩
    exact absurd rfl (hos.sep id id' b o b o' hs1 (hsome' id' hid') hb hb' (fun q => hid (.inl (q ▸ hid'))))
  refine ⟨e2, rfl, ?_, le2, fun id hid => ?_, ?_⟩
  · show OSim T c e2 (put of' (backL of L nx (numL 0 (canL of L L) ++ out0.wo)))
    refine ⟨fun id o ho => ?_, fun i j b o b' o' hi hj hbi hbj hne => ?_, fun id b o hid hb => ?_, fun id b o hid hb => ?_, fun b i h => k1.slt b i h, fun b i h => (k2.S b i (hos.s0 b i h)).1, fun b i h => ?_, k1.os.trans hos.os, k1.tape.trans hos.tape, k1.output.trans hos.output, Nat.le_trans hos.size k1.size, fun k hk hm' => ?_⟩
    · by_cases hi : img id
      · obtain ⟨o1, h1, rfl⟩ := himgO id o hi ho
        have hok1 := k1.ok _ _ h1
        have := hok1.ren ren1 hok1.use (fun k hk => hok1.used k hk) (hall _ _ h1) (fun el ver xs nl sh he => by
          subst he
          have hj := k3 _ hok1.use
          have hτ : tau1 of L (inv id) ver = some (ver + dl (inv id)) := by
            unfold tau1
            simp only [dl]
            by_cases hl : inv id < L.length
            · rw [(hg _ hl).1, if_pos hl]
            · rw [getN_none (by omega), if_neg hl]; rfl
          refine ⟨_, hτ, ?_⟩
          show (if img (rho1 L nx (inv id)) then e1.bn (inv (rho1 L nx (inv id))) + dl (inv (rho1 L nx (inv id))) else e.bn (rho1 L nx (inv id))) = _
          obtain ⟨q1, q2⟩ := hrho _ hj
          rw [if_pos q1, q2, hok1.2.2.1])
        rw [(hinv id hi).2] at this
        exact this
      · rw [hput2 id hi] at ho
        refine (hos.ok id o ho).keep le2 (by show (if img id then e1.bn (inv id) + dl (inv id) else e.bn id) = _; rw [if_neg hi]) (fun b o' hb => ?_) (fun b o' i hb hs' => ?_)
        · obtain ⟨h1, h2⟩ := hnM id b o' hi (by rw [ho]; rfl) hb
          exact k1.block b h2 h1
        · obtain ⟨h1, h2⟩ := hnM id b o' hi (by rw [ho]; rfl) hb
          rcases k1.snew b i hs' with h | h | h
          · exact h
          · have h : e.w.heap.size ≤ b := h; omega
          · exact absurd h h1
    · by_cases h1 : img i <;> by_cases h2 : img j
      · rw [hι2 i h1] at hbi; rw [hι2 j h2] at hbj
        obtain ⟨oi, hi⟩ := Option.isSome_iff_exists.1 hi
        obtain ⟨oj, hj⟩ := Option.isSome_iff_exists.1 hj
        obtain ⟨o1, p1, _⟩ := himgO i oi h1 hi
        obtain ⟨o2, p2, _⟩ := himgO j oj h2 hj
        exact k1.sep _ _ _ _ _ _ (by rw [p1]; rfl) (by rw [p2]; rfl) hbi hbj (fun q => hne (by rw [← (hinv i h1).2, q, (hinv j h2).2]))
      · rw [hι2 i h1] at hbi; rw [hι2' j h2] at hbj
        obtain ⟨oi, hi⟩ := Option.isSome_iff_exists.1 hi
        obtain ⟨o1, p1, _⟩ := himgO i oi h1 hi
        rw [hput2 j h2] at hj
        obtain ⟨q1, q2⟩ := hnM j b' o' h2 hj hbj
        rcases k1.own _ b o (by rw [p1]; rfl) hbi with h | h
        · have h : e.w.heap.size ≤ b := h; intro q; omega
        · intro q; exact q1 (q ▸ h)
      · rw [hι2' i h1] at hbi; rw [hι2 j h2] at hbj
        obtain ⟨oj, hj⟩ := Option.isSome_iff_exists.1 hj
        obtain ⟨o2, p2, _⟩ := himgO j oj h2 hj
        rw [hput2 i h1] at hi
        obtain ⟨q1, q2⟩ := hnM i b o h1 hi hbi
        rcases k1.own _ b' o' (by rw [p2]; rfl) hbj with h | h
        · have h : e.w.heap.size ≤ b' := h; intro q; omega
        · intro q; exact q1 (q ▸ h)
      · rw [hι2' i h1] at hbi; rw [hι2' j h2] at hbj
        rw [hput2 i h1] at hi; rw [hput2 j h2] at hj
        exact hos.sep _ _ _ _ _ _ hi hj hbi hbj hne
    · by_cases h1 : img id
      · rw [hι2 id h1] at hb
        obtain ⟨o1, hid⟩ := Option.isSome_iff_exists.1 hid
        obtain ⟨o2, p1, _⟩ := himgO id o1 h1 hid
        rcases k1.own _ b o (by rw [p1]; rfl) hb with h | h
        · have h : e.w.heap.size ≤ b := h
          have := hos.size; exact .inl (by omega)
        · exact hM b h
      · rw [hι2' id h1] at hb; rw [hput2 id h1] at hid
        exact hos.own id b o hid hb
    · by_cases h1 : img id
      · rw [hι2 id h1] at hb
        have hid : if img id then e1.U (inv id) else e.U id := hid
        rw [if_pos h1] at hid
        exact k1.lt _ _ _ hid hb
      · rw [hι2' id h1] at hb
        have hid : if img id then e1.U (inv id) else e.U id := hid
        rw [if_neg h1] at hid
        have := hos.lt _ _ _ hid hb
        have := k2.grow
        have : e.w.heap.size ≤ e1.w.heap.size := this
        show b < e1.w.heap.size; omega
    · rcases k1.snew b i h with h | h | h
      · exact hos.snew b i h
      · have h : e.w.heap.size ≤ b := h
        have := hos.size; exact .inr (.inl (by omega))
      · exact .inr (hM b h)
    · have hnm : ¬ c0.M k := fun h => by
        rcases hM k h with h | h
        · omega
        · exact hm' h
      exact (k1.block k (Nat.lt_of_lt_of_le hk hos.size) hnm).trans (hos.block k hk hm')
  · have hid : if img id then e1.U (inv id) else e.U id := hid
    by_cases h1 : img id
    · rcases h1 with h | h
      · exact .inl (hU id h)
      · exact .inr h
    · rw [if_neg h1] at hid; exact .inl hid
  · exact k4.ren ren1 (fun id hid => k4.usedR id hid)
end Go.Vm

namespace Go.Vm
open Go.RowKit
variable {P : Program} {T : TT} {c : Ctx} {e eb : Env} {of of' : Nat → Option Ob}
set_option linter.unusedVariables false
set_option linter.constructorNameAsVariable false

/-! ### A function run at a small store, its objects laid at hand -/
def preW (of : Nat → Option Ob) : Nat → List (Nat × Ob)
  | 0 => []
  | n + 1 => match of n with
    | some o => (n, o) :: preW of n
    | none => preW of n
def dnL : Nat → List Nat
  | 0 => []
  | n + 1 => n :: dnL n
def preT (of : Nat → Option Ob) (n : Nat) : Tr := setL .e (preW of n)
theorem dnL_mem {n id : Nat} (h : id < n) : id ∈ dnL n := by
  induction n with
  | zero => cases h
  | succ n ih =>
    simp only [dnL, List.mem_cons]
    by_cases hid : id = n
    · exact .inl hid
    · exact .inr (ih (by omega))
theorem preW_put {n : Nat} : (∀ id, id < n → of' id = of id) → put of' (preW of n) = of' := by
  induction n with
  | zero => intro _; rfl
  | succ n ih =>
    intro h
    have e := ih (fun id hid => h id (by omega))
    simp only [preW]
    cases ho : of n with
    | none => exact e
    | some o =>
      simp only [put]
      have : upd of' n (some o) = of' := by
        funext k
        by_cases hk : k = n
        · subst hk; rw [upd_same, h k (by omega), ho]
        · rw [upd_ne _ _ hk]
      rw [this]; exact e
theorem preT_over {n : Nat} (h : ∀ id, id < n → of' id = of id) : over (preT of n) of' = of' := by
  unfold preT
  rw [over_setL]
  have : over Tr.e of' = of' := by funext id; unfold over; rw [Tr.get_e]
  rw [this]; exact preW_put h
def runP (P : Program) (T : TT) (K : KS) (Lo : Nat → LTab) (fu f : Nat) : Sym := fun args of nx =>
  match P.funcs[f]? with
  | some fn => match fn.body with
    | some code => if !(fn.name == "runtime.NumGoroutine") && Nat.ble args.length fn.ntmps then
        (match exec T K (Lo nx) fu fn.ntmps of code ⟨argS 0 args, preT of nx, dnL nx, nx, some []⟩ with
        | some (ex, σ) => if endB ex then
            (match σ.mks with
            | some ms => if mksB nx σ.nx σ.ob.get ms then
              (match resA T (getS σ.sl) (over σ.ob of) fn.results.toList with
              | some (v, ro) => some (lessW ms (pack nx v σ ro))
              | none => none) else none
            | none => none) else none
        | none => none) else none
    | none => none
  | none => none
theorem runP_ok (hm : P.follows .mixedOrders = true) (hT : TOK T P) {K : KS} (hK : KOK P T K) {Lo : Nat → LTab} {fu f : Nat} (hL : ∀ n0 fn code, P.funcs[f]? = some fn → fn.body = some code → LoopsOK P T fn.ntmps n0 (Lo n0) code) : SymOK P T f (runP P T K Lo fu f) := by
  intro c e of of' args vals nx out hos hr hro hu hvals
  unfold runP at hr
  split at hr <;> try (cases hr; done)
  rename_i fn hf
  split at hr <;> try (cases hr; done)
  rename_i code hb
  split at hr <;> try (cases hr; done)
  rename_i hcc
  simp only [Bool.and_eq_true, Bool.not_eq_true'] at hcc
  obtain ⟨hn, hargs⟩ := hcc
  have hargs := Nat.le_of_ble_eq_true hargs
  split at hr <;> try (cases hr; done)
  rename_i ex σ hx
  split at hr <;> try (cases hr; done)
  rename_i hend
  split at hr <;> try (cases hr; done)
  rename_i ms hmk
  split at hr <;> try (cases hr; done)
  rename_i hmb
  obtain ⟨hms, hnd⟩ := mksB_spec _ hmb
  split at hr <;> try (cases hr; done)
  rename_i v ro hres
  injection hr with hr
  obtain ⟨q1, q2, q3, q4⟩ := lessW_spec ms (pack nx v σ ro)
  obtain ⟨o1, o2, o3, o4⟩ := pack_spec nx v σ ro
  rw [hr] at q1 q2 q3 q4
  have o1 := q1.trans o1
  have o2 := q2.trans o2
  have o3 := q3.trans o3
  have hcall : (callFunc f vals).run P e.w = .ok (.enter f vals) e.w := by
    have hn' : ¬ fn.name = "runtime.NumGoroutine" := by simpa using hn
    simp [callFunc, hf, hn', hb]
  refine .inr (.inr (.inl ⟨f, vals, e.w, hcall, ?_⟩))
  refine (callsIn_wide (n := 0)).1 (callsIn_of_wp_marks (F := WF none) hf hb trivial ?_ rfl)
  have hlen := hvals.get.1
  rw [Array.length_toList] at hlen
  obtain ⟨l1, k1⟩ := exec_ok (of := of) (n0 := nx) hm hT hK code (hL nx fn code hf hb) _ _ _ hx
  have hsim : Sim T { c with rd := none } e of' nx fn.ntmps ⟨argS 0 args, preT of nx, dnL nx, nx, some []⟩ { tmps := vals ++ Array.replicate (fn.ntmps - vals.size) undef, defers := [] } e.w := by
    refine ⟨e, rfl, ?_, Env.le.refl e, fun id hid => .inl hid, fun t => ?_, ⟨rfl, .nil⟩, by simp; omega⟩
    · have : over (preT of nx) of' = of' := preT_over fun id hid => hro id (by rw [o2]; exact addR_mono _ _ _ _ (l1.1 _ (dnL_mem hid)))
      rw [this]; exact hos.ctx none
    · show Rep T e (getS (argS 0 args) t) _
      rw [getS_argS, if_neg (by omega), Nat.sub_zero]
      by_cases ht : t < args.length
      · have h1 : args[t]? = some args[t] := List.getElem?_eq_getElem ht
        have h2 : vals.toList[t]? = some vals[t] := by rw [Array.getElem?_toList]; exact Array.getElem?_eq_getElem (by omega)
        have := hvals.get.2 t _ _ h1 h2
        have e1 : args.getD t .x = args[t] := by simp [List.getD, h1]
        have e2 : (vals ++ Array.replicate (fn.ntmps - vals.size) undef).getD t undef = vals[t] := by
          have : t < vals.size := by omega
          simp [Array.getD, Array.getElem_append_left this]
          omega
        rw [e1]
        show Rep T e _ ((vals ++ Array.replicate (fn.ntmps - vals.size) undef).getD t undef)
        rw [e2]; exact this
      · rw [show args.getD t .x = .x by simp [List.getD, List.getElem?_eq_none (by omega : args.length ≤ t)]]
        trivial
  have hfit : Fits of of' e nx σ := ⟨fun id hid => hro id (by rw [o2]; exact addR_mono _ _ _ _ hid), fun id h1 h2 => hu id h1 (by rw [o3]; exact h2)⟩
  refine wpI_mono ?_ (k1 0 of' { c with rd := none } e _ _ (Nat.le_refl _) hfit hos.ok hsim)
  rintro ex' a w ⟨rfl, e', rfl, hst⟩
  have hmarks := hst.def_
  rw [hmk] at hmarks
  have hms' : ∀ id ∈ ms, over σ.ob of' id = some (.lp none) := fun id hid => over_ge (hms id hid).1
  have fin : LeavesInM (WF none) 0 P fn a.tmps (fun en w' => ∃ x, en = .returned x ∧ LeftN T c e of' nx out x w') a.defers .returning e'.w := by
    refine leaves_marks ms a.defers e' (over σ.ob of') hmarks.2 hms' hnd hst.os (fun e2 hle hu2 hos2 => ?_)
    have hst2 : Stands T { c with rd := none } e (getS σ.sl) (dropO ms (over σ.ob of')) (fun id => e.U id ∨ (nx ≤ id ∧ id < σ.nx)) fn.ntmps σ.mks a e2 :=
      ⟨hos2, hst.le.trans hle, fun id hid => hst.U id (hu2 id hid), fun t => (hst.sl t).mono hle, hst.def_.mono hle, hst.nt⟩
    have hres2 : resA T (getS σ.sl) (dropO ms (over σ.ob of)) fn.results.toList = some (v, ro) := by
      refine resA_congr (fun id t b sh hid => ?_) hres
      unfold dropO
      have : mem id ms = false := by
        rw [← Bool.not_eq_true]; intro q
        rw [over_ge (of := of) (hms id (mem_iff.1 q)).1] at hid; cases hid
      rw [this]; exact hid
    have hagree := over_agree (ob := σ.ob) (rd := out.ro) (ro := ro) (l := σ.rd) (of := of) (of' := of') (fun id hid => hro id hid) (by rw [o2]; exact fun _ h => h)
    obtain ⟨x, g1, g2⟩ := resA_ok hT fn hst2 hres2 (fun id hid => by
      unfold dropO
      rw [hagree id hid])
    refine ⟨x, g1, x, rfl, e2, rfl, ?_, hst2.le, fun id hid => by rw [o3]; exact hst2.U id hid, by rw [o1]; exact g2⟩
    refine (hos2.unctx).sub (fun id o ho => ?_)
    rcases q4 of' id o ho with ⟨h1, h2⟩ | ⟨h1, h2⟩
    · obtain ⟨_, h3, h4⟩ := hms id h1
      exact absurd (hos.ok _ _ h2).use (hfit.fr id h3 h4)
    · have := pack_sub (of' := of') hos.ok hfit.fr id o h2
      unfold dropO
      have hm' : mem id ms = false := by
        rw [← Bool.not_eq_true]; intro q; exact h1 (mem_iff.1 q)
      rw [hm']; exact this
  cases ex' with
  | ret => exact fin
  | normal => exact fin
  | _ => cases hend
variable {R : Type}
def runPC (P : Program) (T : TT) (K : KC) (Lo : Nat → LC) (fl : Bool) (fu f : Nat) : SymC := fun R args of nx k =>
  match P.funcs[f]? with
  | some fn => match fn.body with
    | some code => bif !(fn.name == "runtime.NumGoroutine") && Nat.ble args.length fn.ntmps then
        execC T K (Lo nx) fl fu fn.ntmps of R code ⟨argS 0 args, preT of nx, dnL nx, nx, some []⟩ fun ex σ => bif endB ex then
          (match σ.mks with
          | some ms => bif mksB nx σ.nx σ.ob.get ms then
            (match resA T (getS σ.sl) (over σ.ob of) fn.results.toList with
            | some p => k (lessW ms (pack nx p.1 σ p.2))
            | none => none) else none
          | none => none) else none
        else none
    | none => none
  | none => none
theorem runPC_eq {P : Program} {K : KC} (hK : K.nat) {Lo : Nat → LC} (hL : ∀ n0, LoNat (Lo n0)) {fl : Bool} {fu f : Nat} (R : Type) (args : List A) (of : Nat → Option Ob) (nx : Nat) (k : Eff → Option R) :
    runPC P T K Lo fl fu f R args of nx k = ob (runP P T K.dir (fun n0 => dirL (Lo n0)) fu f args of nx) k := by
  unfold runPC runP
  cases hf : P.funcs[f]? with
  | none => rfl
  | some fn =>
    simp only
    cases hb : fn.body with
    | none => rfl
    | some code =>
      simp only [ob_if]
      cases (!(fn.name == "runtime.NumGoroutine") && Nat.ble args.length fn.ntmps)
      · rfl
      · simp only [cond_true]
        rw [execC_eq hK (hL nx) of R code]
        cases exec T K.dir (dirL (Lo nx)) fu fn.ntmps of code ⟨argS 0 args, preT of nx, dnL nx, nx, some []⟩ with
        | none => rfl
        | some p =>
          obtain ⟨ex, σ⟩ := p
          simp only [ob2, ob_if]
          cases endB ex
          · rfl
          · simp only [cond_true]
            cases σ.mks with
            | none => rfl
            | some ms =>
              simp only [ob_if]
              cases mksB nx σ.nx σ.ob.get ms
              · rfl
              · simp only [cond_true]
                cases resA T (getS σ.sl) (over σ.ob of) fn.results.toList <;> rfl
theorem runPC_nat {P : Program} {K : KC} (hK : K.nat) {Lo : Nat → LC} (hL : ∀ n0, LoNat (Lo n0)) {fl : Bool} {fu f : Nat} : (runPC P T K Lo fl fu f).nat := by
  intro R args of nx k
  rw [runPC_eq hK hL]
  have : (runPC P T K Lo fl fu f).dir args of nx = runP P T K.dir (fun n0 => dirL (Lo n0)) fu f args of nx := by
    show runPC P T K Lo fl fu f Eff args of nx some = _
    rw [runPC_eq hK hL]
    cases runP P T K.dir (fun n0 => dirL (Lo n0)) fu f args of nx <;> rfl
  rw [this]
theorem runPC_ok {P : Program} (hm : P.follows .mixedOrders = true) (hT : TOK T P) {K : KC} (hK : K.nat) (hS : KOK P T K.dir) {Lo : Nat → LC} (hL : ∀ n0, LoNat (Lo n0)) {fl : Bool} {fu f : Nat} (hO : ∀ n0 fn code, P.funcs[f]? = some fn → fn.body = some code → LoopsOK P T fn.ntmps n0 (dirL (Lo n0)) code) : SymOK P T f (runPC P T K Lo fl fu f).dir := by
  have : (runPC P T K Lo fl fu f).dir = runP P T K.dir (fun n0 => dirL (Lo n0)) fu f := by
    funext args of nx
    show runPC P T K Lo fl fu f Eff args of nx some = _
    rw [runPC_eq hK hL]
    cases runP P T K.dir (fun n0 => dirL (Lo n0)) fu f args of nx <;> rfl
  rw [this]
  exact runP_ok hm hT hS hO

theorem TabOK.runP (hm : P.follows .mixedOrders = true) (hT : TOK T P) {tab : List (Nat × SymC)} (h : TabOK P T tab) {f d fu : Nat} {Lo : Nat → LC} (hL : LoopsC P T f Lo) : TabOK P T ((f, trS (runPC P T (runAC P T tab false fu d) Lo false fu f)) :: tab) :=
  h.cons (trS_nat (runPC_nat (runAC_nat h d) hL.nat)) (trS_ok (runPC_nat (runAC_nat h d) hL.nat) (runPC_ok hm hT (runAC_nat h d) (runAC_ok hm hT h d) hL.nat hL.ok).at_)
end Go.Vm

namespace Go.Vm
open Go.RowKit
variable {R : Type}
set_option linter.unusedVariables false
set_option linter.constructorNameAsVariable false

/-! ### The hasher: bytes taken in one by one, sums made at the end -/
def bd3 (lo hi : Int) (n : Nat) (k : Option R) : Option R := bif ile 0 lo && ile lo hi && ile hi n then k else none
theorem bd3_in {lo hi : Int} {n : Nat} {k : Option R} (h1 : 0 ≤ lo) (h2 : lo ≤ hi) (h3 : hi ≤ n) : bd3 lo hi n k = k := by
  unfold bd3
  rw [ile_iff.2 h1, ile_iff.2 h2, ile_iff.2 h3]; rfl
def mxO (s : V) (xs : List V) (K : V → Nat → Nat → Option R) : Option R :=
  bd3 (0 : Nat) 64 xs.length <| bif Nat.ble (0 + 0 + 64) xs.length then (bif Nat.ble 64 ((xs.drop (0 + 0)).take 64).length then bd3 64 (xs.length : Nat) xs.length <| K (mixV s (.l ((xs.drop (0 + 0)).take 64))) (0 + 64) (((xs.length : Nat) : Int) - 64).toNat else none) else none
def mxW (s : V) (xs : List V) (off q : Nat) (K : V → Nat → Nat → Option R) : Option R :=
  bd3 (0 : Nat) 64 q <| bif Nat.ble (off + 0 + 64) xs.length then (bif Nat.ble 64 ((xs.drop (off + 0)).take 64).length then bd3 64 (q : Nat) q <| K (mixV s (.l ((xs.drop (off + 0)).take 64))) (off + 64) (((q : Nat) : Int) - 64).toNat else none) else none
inductive PHi where
  | b (s : V) (m : Int) (l xs : List V) (n i : Int) (nl sh : Bool)
  | c (s : V) (m : Int) (l xs : List V) (n i : Int) (off q : Nat) (sh : Bool)
inductive QHi where
  | b (s : V) (m : Int) (l xs : List V) (n i : Int) (nl sh : Bool)
  | c (s : V) (m : Int) (l xs : List V) (n i : Int) (off q : Nat) (sh : Bool)
def BHi (R : Type) (p : PHi) (K : PHi → Option R) (kx : QHi → Option R) : Option R :=
  match p with
  | .b s m l xs n i nl sh => match nl with
    | false => ln xs.length <| bif ile 64 (xs.length : Nat) then mxO s xs (fun s' o q => K (.c s' m l xs n i o q sh)) else kx (.b s m l xs n i false sh)
    | true => ln xs.length <| bif ile 64 (xs.length : Nat) then none else kx (.b s m l xs n i true sh)
  | .c s m l xs n i off q sh => bif Nat.ble (off + q) xs.length then (ln ((xs.drop off).take q).length <| bif ile 64 (((xs.drop off).take q).length : Nat) then mxW s xs off q (fun s' o q' => K (.c s' m l xs n i o q' sh)) else kx (.c s m l xs n i off q sh)) else none
def elL (l : List V) (i : Int) : List V := (V.nth (.l l) i.toNat).els
def ckL (i : Int) (n : Nat) (k : Option R) : Option R := bif ile 0 i && ilt i (n : Nat) then k else none
inductive PHo where
  | a (s : V) (m : Int) (l : List V) (n i : Int)
  | b (s : V) (m : Int) (l xs : List V) (n i : Int) (nl sh : Bool)
  | c (s : V) (m : Int) (l xs : List V) (n i : Int) (off q : Nat) (sh : Bool)
inductive QHo where
  | a (s : V) (m : Int) (l : List V) (n i : Int)
  | b (s : V) (m : Int) (l xs : List V) (n i : Int) (nl sh : Bool)
  | c (s : V) (m : Int) (l xs : List V) (n i : Int) (off q : Nat) (sh : Bool)
def hiK (K : PHo → Option R) : QHi → Option R
  | .b s m l xs n i nl sh => K (.b s m l xs n (W64 (i + 1)) nl sh)
  | .c s m l xs n i off q sh => K (.c s m l xs n (W64 (i + 1)) off q sh)
noncomputable def BHo (R : Type) (p : PHo) (K : PHo → Option R) (kx : QHo → Option R) : Option R :=
  match p with
  | .a s m l n i => bif ilt i n then ckL i l.length <| ln (elL l i).length <| lim (elL l i).length <| lpC (BHi R) (hid FU) (.b s (WU (m + WU ((elL l i).length : Nat))) l (elL l i) n i (elL l i).isEmpty false) (hiK K) else kx (.a s m l n i)
  | .b s m l xs n i nl sh => bif ilt i n then ckL i l.length <| ln (elL l i).length <| lim (xs.length + (elL l i).length) <| lpC (BHi R) (hid FU) (.b s (WU (m + WU ((elL l i).length : Nat))) l (xs ++ elL l i) n i (nl && (elL l i).isEmpty) sh) (hiK K) else kx (.b s m l xs n i nl sh)
  | .c s m l xs n i off q sh => bif ilt i n then ckL i l.length <| ln (elL l i).length <| bif Nat.ble (off + q) xs.length then (bif Nat.beq (off + q) xs.length || !sh then lim (q + (elL l i).length) <| lpC (BHi R) (hid FU) (.b s (WU (m + WU ((elL l i).length : Nat))) l ((xs.drop off).take q ++ elL l i) n i false sh) (hiK K) else none) else none else kx (.c s m l xs n i off q sh)
/-! The padding. -/
inductive PHp where
  | b (s : V) (m : Int) (rs : List V) (nl sh : Bool) (z : V) (xs : List V)
  | c (s : V) (m : Int) (rs : List V) (off q : Nat) (sh : Bool) (z : V) (xs : List V)
inductive QHp where
  | b (s : V) (m : Int) (rs : List V) (nl sh : Bool) (z : V) (xs : List V)
  | c (s : V) (m : Int) (rs : List V) (off q : Nat) (sh : Bool) (z : V) (xs : List V)
def hpB (xs : List V) (K : List V → Option R) (kx : Option R) : Option R :=
  ln xs.length <| bif !(ieq ((xs.length : Int).tmod 64) 56) then lim (xs.length + 1) <| K (xs ++ [.i 0]) else kx
def BHp (R : Type) (p : PHp) (K : PHp → Option R) (kx : QHp → Option R) : Option R :=
  match p with
  | .b s m rs nl sh z xs => hpB xs (fun ys => K (.b s m rs nl sh z ys)) (kx (.b s m rs nl sh z xs))
  | .c s m rs off q sh z xs => hpB xs (fun ys => K (.c s m rs off q sh z ys)) (kx (.c s m rs off q sh z xs))
/-! The last pieces. -/
inductive PHm where
  | b0 (s : V) (m : Int) (rs : List V) (nl sh : Bool) (z st : V) (xs : List V)
  | b1 (s : V) (m : Int) (rs : List V) (nl sh : Bool) (z st : V) (xs : List V) (o2 q2 : Nat)
  | c0 (s : V) (m : Int) (rs : List V) (off q : Nat) (sh : Bool) (z st : V) (xs : List V)
  | c1 (s : V) (m : Int) (rs : List V) (off q : Nat) (sh : Bool) (z st : V) (xs : List V) (o2 q2 : Nat)
inductive QHm where
  | b0 (s : V) (m : Int) (rs : List V) (nl sh : Bool) (z st : V) (xs : List V)
  | b1 (s : V) (m : Int) (rs : List V) (nl sh : Bool) (z st : V) (xs : List V) (o2 q2 : Nat)
  | c0 (s : V) (m : Int) (rs : List V) (off q : Nat) (sh : Bool) (z st : V) (xs : List V)
  | c1 (s : V) (m : Int) (rs : List V) (off q : Nat) (sh : Bool) (z st : V) (xs : List V) (o2 q2 : Nat)
def hm0 (st : V) (xs : List V) (K : V → Nat → Nat → Option R) (kx : Option R) : Option R := ln xs.length <| bif ilt 0 (xs.length : Nat) then mxO st xs K else kx
def hm1 (st : V) (xs : List V) (o2 q2 : Nat) (K : V → Nat → Nat → Option R) (kx : Option R) : Option R :=
  bif Nat.ble (o2 + q2) xs.length then (ln ((xs.drop o2).take q2).length <| bif ilt 0 (((xs.drop o2).take q2).length : Nat) then mxW st xs o2 q2 K else kx) else none
def BHm (R : Type) (p : PHm) (K : PHm → Option R) (kx : QHm → Option R) : Option R :=
  match p with
  | .b0 s m rs nl sh z st xs => hm0 st xs (fun t o q => K (.b1 s m rs nl sh z t xs o q)) (kx (.b0 s m rs nl sh z st xs))
  | .b1 s m rs nl sh z st xs o2 q2 => hm1 st xs o2 q2 (fun t o q => K (.b1 s m rs nl sh z t xs o q)) (kx (.b1 s m rs nl sh z st xs o2 q2))
  | .c0 s m rs off q sh z st xs => hm0 st xs (fun t o q' => K (.c1 s m rs off q sh z t xs o q')) (kx (.c0 s m rs off q sh z st xs))
  | .c1 s m rs off q sh z st xs o2 q2 => hm1 st xs o2 q2 (fun t o q' => K (.c1 s m rs off q sh z t xs o q')) (kx (.c1 s m rs off q sh z st xs o2 q2))
def hbV (n : Int) (j : Nat) : V := .i (IntKind.wrap .u8 (n.fdiv (2 ^ (8 * j))))
def ap8h (n : Int) : Nat → List V → (List V → Option R) → Option R
  | 0, xs, k => k xs
  | j + 1, xs, k => lim (xs.length + 1) <| ap8h n j (xs ++ [hbV n j]) k
def hs4 (j : Nat) (n : Int) (h : V) : V := (((h.put (4 * j) (hbV n 3)).put (4 * j + 1) (hbV n 2)).put (4 * j + 2) (hbV n 1)).put (4 * j + 3) (.i (IntKind.wrap .u8 n))
def hs8 (v : V) : Nat → Nat → V → V
  | 0, _, h => h
  | m + 1, j, h => hs8 v m (j + 1) (hs4 j (elV v j) h)
def hmK (k : V → Option R) : QHm → Option R
  | .b0 _ _ _ _ _ _ st _ => k (hs8 st 8 0 z32)
  | .b1 _ _ _ _ _ _ st _ _ _ => k (hs8 st 8 0 z32)
  | .c0 _ _ _ _ _ _ _ st _ => k (hs8 st 8 0 z32)
  | .c1 _ _ _ _ _ _ _ st _ _ _ => k (hs8 st 8 0 z32)
noncomputable def hpK (k : V → Option R) : QHp → Option R
  | .b s m rs nl sh z xs => ap8h (WU (8 * m)) 8 xs fun ys => lpC (BHm R) (hid FU) (.b0 s m rs nl sh z s ys) (hmK k)
  | .c s m rs off q sh z xs => ap8h (WU (8 * m)) 8 xs fun ys => lpC (BHm R) (hid FU) (.c0 s m rs off q sh z s ys) (hmK k)
noncomputable def hoK (k : V → Option R) : QHo → Option R
  | .a s m _ _ _ => k (hs8 (mixV s (.l (.i 128 :: (List.replicate 55 (.i 0) ++ [hbV (WU (8 * m)) 7, hbV (WU (8 * m)) 6, hbV (WU (8 * m)) 5, hbV (WU (8 * m)) 4, hbV (WU (8 * m)) 3, hbV (WU (8 * m)) 2, hbV (WU (8 * m)) 1, hbV (WU (8 * m)) 0])))) 8 0 z32)
  | .b s m _ xs _ _ nl sh => lim (0 + xs.length) <| lim (xs.length + 1) <| lpC (BHp R) (hid FU) (.b s m xs nl sh z32 (xs ++ [.i 128])) (hpK k)
  | .c s m _ xs _ _ off q sh => bif Nat.ble (off + q) xs.length then (lim (0 + ((xs.drop off).take q).length) <| lim (((xs.drop off).take q).length + 1) <| lpC (BHp R) (hid FU) (.c s m xs off q sh z32 ((xs.drop off).take q ++ [.i 128])) (hpK k)) else none
noncomputable def dsG (l : List V) (k : V → Option R) : Option R :=
  ln l.length <| lpC (BHo R) (hid FU) (.a s0V 0 l (l.length : Nat) 0) (hoK k)
end Go.Vm

namespace Go.Vm
open Go.RowKit
variable {R : Type}
set_option linter.unusedVariables false
set_option linter.constructorNameAsVariable false

/-! ### The hasher makes SHA-256 of all that it took in -/
theorem s8_st (S : S8) : s8 (stV S) = S := by cases S; rfl
theorem mixV_nat (S : S8) (X : List Nat) : mixV (stV S) (.l (X.map nv)) = stV (mixN S X) := by
  unfold mixV
  rw [s8_st, bytesN_eq (x := .l (X.map nv)) rfl]
theorem mixes_succ {d : Nat} {S : S8} {L : List Nat} (h : L ≠ []) : mixesN (d + 1) S L = mixesN d (mixN S (L.take 64)) (L.drop 64) := by
  cases L with
  | nil => exact absurd rfl h
  | cons a r => rfl
theorem mixes_app : ∀ (a b : Nat) (S : S8) (X Y : List Nat), X.length = 64 * a → mixesN (a + b) S (X ++ Y) = mixesN b (mixesN a S X) Y := by
  intro a
  induction a with
  | zero =>
    intro b S X Y h
    have : X = [] := List.length_eq_zero_iff.1 (by omega)
    subst this
    rw [Nat.zero_add]; rfl
  | succ a ih =>
    intro b S X Y h
    have hne : X ≠ [] := by intro q; subst q; simp at h
    have hne2 : X ++ Y ≠ [] := by intro q; exact hne (List.append_eq_nil_iff.1 q).1
    rw [show a + 1 + b = (a + b) + 1 by omega, mixes_succ hne2, mixes_succ hne, List.take_append_of_le_length (by omega), List.drop_append_of_le_length (by omega)]
    exact ih b _ _ _ (by rw [List.length_drop]; omega)
theorem mixes_take : ∀ (a : Nat) (S : S8) (X Y : List Nat), X.length = 64 * a → mixesN a S (X ++ Y) = mixesN a S X := by
  intro a S X Y h
  have := mixes_app a 0 S X Y h
  rw [Nat.add_zero] at this
  rw [this]; rfl
theorem drop_app {X Y : List Nat} {a : Nat} (b : Nat) (h : X.length = a) : (X ++ Y).drop (a + b) = Y.drop b := by
  subst h
  rw [List.drop_append, List.drop_eq_nil_of_le (by omega)]; simp
theorem take_app {X Y : List Nat} {a : Nat} (b : Nat) (h : X.length = a) : (X ++ Y).take (a + b) = X ++ Y.take b := by
  subst h
  rw [List.take_append, List.take_of_length_le (by omega)]; simp
/-- What is taken in: whole pieces are mixed, the rest waits. -/
structure Took (C : List Nat) (S : S8) (B : List Nat) : Prop where
  s : S = mixesN (C.length / 64) s0N (C.take (64 * (C.length / 64)))
  r : B = C.drop (64 * (C.length / 64))
theorem Took.len {C B : List Nat} {S : S8} (h : Took C S B) : B.length = C.length % 64 := by
  rw [h.r, List.length_drop]; omega
theorem took_0 : Took [] s0N [] := ⟨rfl, rfl⟩
theorem Took.add {C B D : List Nat} {S : S8} (h : Took C S B) : Took (C ++ D) (mixesN ((B ++ D).length / 64) S (B ++ D)) ((B ++ D).drop (64 * ((B ++ D).length / 64))) := by
  have hl := h.len
  have hC : C.take (64 * (C.length / 64)) ++ B = C := by rw [h.r, List.take_append_drop]
  have hX : (C.take (64 * (C.length / 64))).length = 64 * (C.length / 64) := by rw [List.length_take]; omega
  have hn : (C ++ D).length / 64 = C.length / 64 + (B ++ D).length / 64 := by
    rw [List.length_append, List.length_append, hl]; omega
  have hCD : C ++ D = C.take (64 * (C.length / 64)) ++ (B ++ D) := by rw [← List.append_assoc, hC]
  have hq : (B ++ D).take (64 * ((B ++ D).length / 64)) ++ (B ++ D).drop (64 * ((B ++ D).length / 64)) = B ++ D := List.take_append_drop _ _
  have hql : ((B ++ D).take (64 * ((B ++ D).length / 64))).length = 64 * ((B ++ D).length / 64) := by rw [List.length_take]; omega
  refine ⟨?_, ?_⟩
  · have e1 : (C ++ D).take (64 * ((C ++ D).length / 64)) = C.take (64 * (C.length / 64)) ++ (B ++ D).take (64 * ((B ++ D).length / 64)) := by
      rw [hn, Nat.mul_add]
      conv => lhs; rw [hCD]
      exact take_app _ hX
    rw [e1, hn, mixes_app _ _ _ _ _ hX, ← h.s]
    have := mixes_take _ S _ ((B ++ D).drop (64 * ((B ++ D).length / 64))) hql
    rw [hq] at this
    exact this
  · rw [hn, Nat.mul_add]
    conv => rhs; rw [hCD]
    exact (drop_app _ hX).symm
theorem tooked_pad {C B : List Nat} {S : S8} (h : Took C S B) : mixesN ((B ++ padN C.length).length / 64) S (B ++ padN C.length) = mixesN (C.length / 64 + 2) s0N (C ++ padN C.length) := by
  have hl := h.len
  have hC : C.take (64 * (C.length / 64)) ++ B = C := by rw [h.r, List.take_append_drop]
  have hX : (C.take (64 * (C.length / 64))).length = 64 * (C.length / 64) := by rw [List.length_take]; omega
  have hp := padN_len C.length
  have e : (B ++ padN C.length).length / 64 ≤ 2 := by rw [List.length_append]; omega
  have e1 : (B ++ padN C.length).length % 64 = 0 := by rw [List.length_append]; omega
  have hCD : C ++ padN C.length = C.take (64 * (C.length / 64)) ++ (B ++ padN C.length) := by rw [← List.append_assoc, hC]
  rw [hCD, mixes_app _ _ _ _ _ hX, ← h.s]
  have := mixesN_more ((B ++ padN C.length).length / 64) (2 - (B ++ padN C.length).length / 64) S (B ++ padN C.length) (by omega)
  rw [← this]
  congr 1; omega
/-! One slice more. -/
theorem mxW_law {S : S8} {B : List Nat} {j : Nat} (h : 64 * (j + 1) ≤ B.length) (K : V → Nat → Nat → Option R) :
    mxW (stV S) (B.map nv) (64 * j) (B.length - 64 * j) K = K (stV (mixN S ((B.drop (64 * j)).take 64))) (64 * (j + 1)) (B.length - 64 * (j + 1)) := by
  have e : (((B.map nv).drop (64 * j + 0)).take 64) = (((B.drop (64 * j)).take 64).map nv) := by rw [Nat.add_zero, List.map_take, List.map_drop]
  have hl : ((((B.drop (64 * j)).take 64)).map nv).length = 64 := by simp; omega
  unfold mxW
  rw [bd3_in (by omega) (by omega) (by omega), e, hl, show Nat.ble (64 * j + 0 + 64) (B.map nv).length = true from Nat.ble_eq_true_of_le (by rw [List.length_map]; omega), show Nat.ble 64 64 = true from rfl, cond_true, cond_true, bd3_in (by omega) (by omega) (by omega), mixV_nat]
  congr 1; omega
theorem mxO_law {S : S8} {B : List Nat} (h : 64 ≤ B.length) (K : V → Nat → Nat → Option R) :
    mxO (stV S) (B.map nv) K = K (stV (mixN S (B.take 64))) (64 * 1) (B.length - 64 * 1) := by
  have e : (((B.map nv).drop (0 + 0)).take 64) = ((B.take 64).map nv) := by rw [List.drop_zero, List.map_take]
  have hl : ((B.take 64).map nv).length = 64 := by simp; omega
  unfold mxO
  rw [e, hl, List.length_map, bd3_in (by omega) (by omega) (by omega), show Nat.ble (0 + 0 + 64) B.length = true from Nat.ble_eq_true_of_le (by omega), show Nat.ble 64 64 = true from rfl, cond_true, cond_true, bd3_in (by omega) (by omega) (by omega), mixV_nat]
  congr 1; omega
theorem hi_c {B : List Nat} (hB : B.length ≤ 2000000000) {m n i : Int} {l : List V} {sh : Bool} (k : QHi → Option R) : ∀ (d j fuel : Nat) (S : S8), d = (B.length - 64 * j) / 64 → 64 * j ≤ B.length → d < fuel →
    lpC (BHi R) fuel (.c (stV S) m l (B.map nv) n i (64 * j) (B.length - 64 * j) sh) k = k (.c (stV (mixesN d S (B.drop (64 * j)))) m l (B.map nv) n i (64 * (j + d)) (B.length - 64 * (j + d)) sh) := by
  intro d
  induction d with
  | zero =>
    intro j fuel S hd hj hf
    obtain ⟨f, rfl⟩ : ∃ f, fuel = f + 1 := ⟨fuel - 1, by omega⟩
    show (bif Nat.ble (64 * j + (B.length - 64 * j)) (B.map nv).length then (ln (((B.map nv).drop (64 * j)).take (B.length - 64 * j)).length <| bif ile 64 ((((B.map nv).drop (64 * j)).take (B.length - 64 * j)).length : Nat) then _ else _) else none) = _
    have hl : (((B.map nv).drop (64 * j)).take (B.length - 64 * j)).length = B.length - 64 * j := by simp
    rw [hl, show Nat.ble (64 * j + (B.length - 64 * j)) (B.map nv).length = true from Nat.ble_eq_true_of_le (by rw [List.length_map]; omega), cond_true, ln_in (by omega)]
    have : ile 64 ((B.length - 64 * j : Nat) : Int) = false := by
      cases hq : ile 64 ((B.length - 64 * j : Nat) : Int) with
      | false => rfl
      | true => have := ile_iff.1 hq; omega
    rw [this]; rfl
  | succ d ih =>
    intro j fuel S hd hj hf
    obtain ⟨f, rfl⟩ : ∃ f, fuel = f + 1 := ⟨fuel - 1, by omega⟩
    show (bif Nat.ble (64 * j + (B.length - 64 * j)) (B.map nv).length then (ln (((B.map nv).drop (64 * j)).take (B.length - 64 * j)).length <| bif ile 64 ((((B.map nv).drop (64 * j)).take (B.length - 64 * j)).length : Nat) then mxW (stV S) (B.map nv) (64 * j) (B.length - 64 * j) (fun s' o q' => lpC (BHi R) f (.c s' m l (B.map nv) n i o q' sh) k) else _) else none) = _
    have hl : (((B.map nv).drop (64 * j)).take (B.length - 64 * j)).length = B.length - 64 * j := by simp
    rw [hl, show Nat.ble (64 * j + (B.length - 64 * j)) (B.map nv).length = true from Nat.ble_eq_true_of_le (by rw [List.length_map]; omega), cond_true, ln_in (by omega), ile_iff.2 (show (64 : Int) ≤ ((B.length - 64 * j : Nat) : Int) by omega), cond_true, mxW_law (by omega), ih (j + 1) f _ (by omega) (by omega) (by omega)]
    have hne : B.drop (64 * j) ≠ [] := by intro q; have := congrArg List.length q; simp at this; omega
    rw [mixes_succ hne, List.drop_drop, show 64 * j + 64 = 64 * (j + 1) by omega, show j + 1 + d = j + (d + 1) by omega]
/-- The pieces that are whole are mixed. -/
def hiEnd (S : S8) (m : Int) (l : List V) (B : List Nat) (n i : Int) (nl sh : Bool) : QHi :=
  if B.length < 64 then .b (stV S) m l (B.map nv) n i nl sh else .c (stV (mixesN (B.length / 64) S B)) m l (B.map nv) n i (64 * (B.length / 64)) (B.length - 64 * (B.length / 64)) sh
theorem hi_b {B : List Nat} (hB : B.length ≤ 2000000000) {S : S8} {m n i : Int} {l : List V} {nl sh : Bool} (hn : nl = true → B = []) (k : QHi → Option R) (fuel : Nat) (hf : B.length < fuel) :
    lpC (BHi R) fuel (.b (stV S) m l (B.map nv) n i nl sh) k = k (hiEnd S m l B n i nl sh) := by
  obtain ⟨f, rfl⟩ : ∃ f, fuel = f + 1 := ⟨fuel - 1, by omega⟩
  unfold hiEnd
  cases nl with
  | true =>
    have := hn rfl
    subst this
    rfl
  | false =>
    show (ln (B.map nv).length <| bif ile 64 ((B.map nv).length : Nat) then mxO (stV S) (B.map nv) (fun s' o q => lpC (BHi R) f (.c s' m l (B.map nv) n i o q sh) k) else _) = _
    rw [List.length_map, ln_in (by omega)]
    by_cases h : B.length < 64
    · have : ile 64 ((B.length : Nat) : Int) = false := by
        cases hq : ile 64 ((B.length : Nat) : Int) with
        | false => rfl
        | true => have := ile_iff.1 hq; omega
      rw [this, if_pos h]; rfl
    · rw [ile_iff.2 (show (64 : Int) ≤ (B.length : Nat) by omega), cond_true, mxO_law (by omega), if_neg h]
      obtain ⟨d, hd⟩ : ∃ d, B.length / 64 = d + 1 := ⟨B.length / 64 - 1, by omega⟩
      have := hi_c hB (m := m) (n := n) (i := i) (l := l) (sh := sh) k d 1 f (mixN S (B.take 64)) (by omega) (by omega) (by omega)
      rw [this]
      have hne : B ≠ [] := by intro q; subst q; simp at h
      rw [hd, mixes_succ hne, show 1 + d = d + 1 by omega]
end Go.Vm

namespace Go.Vm
open Go.RowKit
variable {R : Type}
set_option linter.unusedVariables false
set_option linter.constructorNameAsVariable false

def catB (l : List V) : List Nat := l.flatMap bytesN
def InvO (p : PHo) (l : List V) (n i : Int) (C : List Nat) : Prop :=
  (C = [] ∧ p = .a s0V 0 l n i) ∨
  (∃ (S : S8) (B : List Nat) (nl sh : Bool), Took C S B ∧ (nl = true → B = []) ∧ p = .b (stV S) (C.length : Nat) l (B.map nv) n i nl sh) ∨
  (∃ (S : S8) (B X : List Nat) (off : Nat) (sh : Bool), Took C S B ∧ X.drop off = B ∧ off + B.length = X.length ∧ p = .c (stV S) (C.length : Nat) l (X.map nv) n i off B.length sh)
def EndO (q : QHo) (C : List Nat) : Prop :=
  (C = [] ∧ ∃ l n i, q = .a s0V 0 l n i) ∨
  (∃ (S : S8) (B : List Nat) (nl sh : Bool) (l : List V) (n i : Int), Took C S B ∧ q = .b (stV S) (C.length : Nat) l (B.map nv) n i nl sh) ∨
  (∃ (S : S8) (B X : List Nat) (off : Nat) (sh : Bool) (l : List V) (n i : Int), Took C S B ∧ X.drop off = B ∧ off + B.length = X.length ∧ q = .c (stV S) (C.length : Nat) l (X.map nv) n i off B.length sh)
theorem ho_in {C B D : List Nat} {S : S8} (h : Took C S B) (hl : C.length + D.length ≤ 1000000000) {l : List V} {n i : Int} {nl sh : Bool} (hn : nl = true → B ++ D = []) (K : PHo → Option R) :
    ∃ p, InvO p l n (W64 (i + 1)) (C ++ D) ∧ lpC (BHi R) (hid FU) (.b (stV S) (WU ((C.length : Nat) + WU ((D.map nv).length : Nat))) l ((B ++ D).map nv) n i nl sh) (hiK K) = K p := by
  have hbl := h.len
  have hBD : (B ++ D).length ≤ 2000000000 := by rw [List.length_append]; omega
  have hF : (B ++ D).length < hid FU := by rw [hid_eq]; show _ < 4611686018427387904; omega
  rw [hi_b hBD hn _ _ hF, List.length_map]
  have hm : WU ((C.length : Nat) + WU ((D.length : Nat) : Int)) = (((C ++ D).length : Nat) : Int) := by
    rw [wu64_lt (by omega), ← Int.natCast_add, wu64_lt (by omega), List.length_append]
  rw [hm]
  have ha := h.add (D := D)
  unfold hiEnd
  by_cases hc : (B ++ D).length < 64
  · rw [if_pos hc]
    rw [show (B ++ D).length / 64 = 0 by omega] at ha
    exact ⟨_, .inr (.inl ⟨S, B ++ D, nl, sh, ha, hn, rfl⟩), rfl⟩
  · rw [if_neg hc]
    refine ⟨_, .inr (.inr ⟨_, _, B ++ D, 64 * ((B ++ D).length / 64), sh, ha, rfl, ?_, rfl⟩), ?_⟩
    · rw [List.length_drop]; omega
    · rw [List.length_drop]; rfl
theorem ckL_in {i : Int} {n : Nat} {k : Option R} (h0 : 0 ≤ i) (h1 : i < n) : ckL i n k = k := by
  unfold ckL
  rw [ile_iff.2 h0, show ilt i (n : Nat) = true by simp [ilt]; exact h1]; rfl
theorem ho_law (k : QHo → Option R) : ∀ (r a : List V) (C : List Nat) (p : PHo) (fuel : Nat), (∀ y ∈ r, ∃ D : List Nat, y.els = D.map nv) → InvO p (a ++ r) ((a ++ r).length : Nat) (a.length : Nat) C →
    C.length + (catB r).length ≤ 1000000000 → (a ++ r).length ≤ 100000000 → r.length < fuel → ∃ q, EndO q (C ++ catB r) ∧ lpC (BHo R) fuel p k = k q := by
  intro r
  induction r with
  | nil =>
    intro a C p fuel _ hi hl ha hf
    obtain ⟨f, rfl⟩ : ∃ f, fuel = f + 1 := ⟨fuel - 1, by omega⟩
    rw [show catB [] = [] from rfl, List.append_nil]
    have no : ilt ((a ++ []).length : Nat) (((a ++ []).length : Nat) : Int) = false := by rw [ilt_nat]; exact decide_eq_false (by omega)
    have na : ilt (a.length : Nat) (((a ++ []).length : Nat) : Int) = false := by rw [ilt_nat]; exact decide_eq_false (by simp)
    rcases hi with ⟨h1, rfl⟩ | ⟨S, B, nl, sh, h1, h2, rfl⟩ | ⟨S, B, X, off, sh, h1, h2, h3, rfl⟩
    · refine ⟨.a s0V 0 (a ++ []) ((a ++ []).length : Nat) (a.length : Nat), .inl ⟨h1, _, _, _, rfl⟩, ?_⟩
      show (bif ilt (a.length : Nat) ((a ++ []).length : Nat) then _ else _) = _
      rw [na]; rfl
    · refine ⟨.b (stV S) (C.length : Nat) (a ++ []) (B.map nv) ((a ++ []).length : Nat) (a.length : Nat) nl sh, .inr (.inl ⟨S, B, nl, sh, _, _, _, h1, rfl⟩), ?_⟩
      show (bif ilt (a.length : Nat) ((a ++ []).length : Nat) then _ else _) = _
      rw [na]; rfl
    · refine ⟨.c (stV S) (C.length : Nat) (a ++ []) (X.map nv) ((a ++ []).length : Nat) (a.length : Nat) off B.length sh, .inr (.inr ⟨S, B, X, off, sh, _, _, _, h1, h2, h3, rfl⟩), ?_⟩
      show (bif ilt (a.length : Nat) ((a ++ []).length : Nat) then _ else _) = _
      rw [na]; rfl
  | cons y r ih =>
    intro a C p fuel ht hi hl ha hf
    obtain ⟨f, rfl⟩ : ∃ f, fuel = f + 1 := ⟨fuel - 1, by omega⟩
    obtain ⟨D, hD⟩ := ht y (by simp)
    have hb : bytesN y = D := bytesN_eq hD
    have hcat : catB (y :: r) = D ++ catB r := by
      show bytesN y ++ catB r = _; rw [hb]
    rw [hcat] at hl ⊢
    rw [List.length_append] at hl
    have yes : ilt (a.length : Nat) (((a ++ y :: r).length : Nat) : Int) = true := by rw [ilt_nat]; exact decide_eq_true (by simp)
    have hel : elL (a ++ y :: r) (a.length : Nat) = D.map nv := by
      unfold elL V.nth
      show ((a ++ y :: r).getD a.length .n).els = _
      rw [List.getD_eq_getElem?_getD, List.getElem?_append_right (Nat.le_refl _), Nat.sub_self]; exact hD
    have hck : ∀ k' : Option R, ckL (a.length : Nat) (a ++ y :: r).length k' = k' := fun k' => ckL_in (by omega) (by simp; omega)
    have happ : a ++ y :: r = (a ++ [y]) ++ r := by simp
    have fin : ∀ (pn : PHo), InvO pn (a ++ y :: r) ((a ++ y :: r).length : Nat) (W64 ((a.length : Nat) + 1)) (C ++ D) → ∃ q, EndO q (C ++ (D ++ catB r)) ∧ lpC (BHo R) f pn k = k q := fun pn hp => by
      rw [i_next (by simp at ha; omega)] at hp
      have := ih (a ++ [y]) (C ++ D) pn f (fun z hz => ht z (by simp [hz])) (by rw [← happ]; simpa using hp) (by rw [List.length_append]; omega) (by rw [← happ]; exact ha) (by simp at hf; omega)
      rw [List.append_assoc] at this
      exact this
    rcases hi with ⟨h1, rfl⟩ | ⟨S, B, nl, sh, h1, h2, rfl⟩ | ⟨S, B, X, off, sh, h1, h2, h3, rfl⟩
    · subst h1
      obtain ⟨pn, g1, g2⟩ := ho_in (R := R) took_0 (D := D) (by omega) (l := a ++ y :: r) (n := ((a ++ y :: r).length : Nat)) (i := (a.length : Nat)) (nl := (D.map nv).isEmpty) (sh := false) (fun h => by
        cases D with
        | nil => rfl
        | cons _ _ => cases h) (fun x' => lpC (BHo R) f x' k)
      obtain ⟨q, q1, q2⟩ := fin pn g1
      refine ⟨q, q1, ?_⟩
      show (bif ilt (a.length : Nat) ((a ++ y :: r).length : Nat) then ckL (a.length : Nat) (a ++ y :: r).length _ else _) = _
      rw [yes, cond_true, hck, hel, List.length_map, ln_in (by omega), lim_in (by omega), ← q2, ← g2, List.length_map]; rfl
    · have hbl := h1.len
      obtain ⟨pn, g1, g2⟩ := ho_in (R := R) h1 (D := D) (by omega) (l := a ++ y :: r) (n := ((a ++ y :: r).length : Nat)) (i := (a.length : Nat)) (nl := nl && (D.map nv).isEmpty) (sh := sh) (fun h => by
        rw [Bool.and_eq_true] at h
        rw [h2 h.1]
        cases D with
        | nil => rfl
        | cons _ _ => cases h.2) (fun x' => lpC (BHo R) f x' k)
      obtain ⟨q, q1, q2⟩ := fin pn g1
      refine ⟨q, q1, ?_⟩
      show (bif ilt (a.length : Nat) ((a ++ y :: r).length : Nat) then ckL (a.length : Nat) (a ++ y :: r).length _ else _) = _
      rw [yes, cond_true, hck, hel, List.length_map, List.length_map, ln_in (by omega), lim_in (by omega), ← q2, ← g2, List.length_map, List.map_append]
    · have hbl := h1.len
      obtain ⟨pn, g1, g2⟩ := ho_in (R := R) h1 (D := D) (by omega) (l := a ++ y :: r) (n := ((a ++ y :: r).length : Nat)) (i := (a.length : Nat)) (nl := false) (sh := sh) (fun h => by cases h) (fun x' => lpC (BHo R) f x' k)
      obtain ⟨q, q1, q2⟩ := fin pn g1
      refine ⟨q, q1, ?_⟩
      show (bif ilt (a.length : Nat) ((a ++ y :: r).length : Nat) then ckL (a.length : Nat) (a ++ y :: r).length _ else _) = _
      have hx : ((X.map nv).drop off).take B.length = B.map nv := by
        rw [← List.map_drop, h2, List.take_of_length_le (by simp)]
      rw [yes, cond_true, hck, hel, List.length_map, List.length_map, ln_in (by omega), show Nat.ble (off + B.length) X.length = true from Nat.ble_eq_true_of_le (by omega), cond_true, show (Nat.beq (off + B.length) X.length || !sh) = true by rw [h3, Nat.beq_refl]; rfl, cond_true, lim_in (by omega), hx, ← q2, ← g2, List.length_map, List.map_append]
/-! The end. -/
theorem hp_loop {P Q : Type} {B : P → (P → Option R) → (Q → Option R) → Option R} (e : List V → P) (e' : List V → Q) (he : ∀ xs K kx, B (e xs) K kx = hpB xs (fun ys => K (e ys)) (kx (e' xs))) (k : Q → Option R) : ∀ (m n : Nat) (xs : List V), (xs.length + m) % 64 = 56 → m < 64 → xs.length + m ≤ 1073741824 → m < n →
    lpC B n (e xs) k = k (e' (xs ++ List.replicate m (.i 0))) := by
  intro m
  induction m with
  | zero =>
    intro n xs h1 h2 h3 h4
    obtain ⟨n, rfl⟩ : ∃ n', n = n' + 1 := ⟨n - 1, by omega⟩
    rw [lpC, he]
    show ln xs.length (bif !(ieq ((xs.length : Int).tmod 64) 56) then _ else _) = _
    rw [ln_in (by omega), show (64 : Int) = ((64 : Nat) : Int) from rfl, tmod_nat, ieq_yes (by omega)]
    simp
  | succ m ih =>
    intro n xs h1 h2 h3 h4
    obtain ⟨n, rfl⟩ : ∃ n', n = n' + 1 := ⟨n - 1, by omega⟩
    rw [lpC, he]
    show ln xs.length (bif !(ieq ((xs.length : Int).tmod 64) 56) then lim (xs.length + 1) _ else _) = _
    rw [ln_in (by omega), show (64 : Int) = ((64 : Nat) : Int) from rfl, tmod_nat, ieq_no (by omega), lim_in (by omega)]
    simp only [Bool.not_false, cond_true]
    rw [ih n (xs ++ [V.i 0]) (by simp; omega) (by omega) (by simp; omega) (by omega)]
    simp [List.replicate_succ]
theorem hbV_eq {n : Nat} (j : Nat) : hbV (n : Int) j = nv (n / 2 ^ (8 * j) % 256) := by
  unfold hbV
  rw [fdiv_pow, Nat.shiftRight_eq_div_pow]
  have : IntKind.wrap .u8 ((n / 2 ^ (8 * j) : Nat) : Int) = ((n / 2 ^ (8 * j) % 256 : Nat) : Int) := by
    unfold IntKind.wrap
    simp [IntKind.bits, IntKind.signed]
  rw [this]; rfl
theorem ap8h_eq {n : Int} : ∀ (j : Nat) (xs : List V) (k : List V → Option R), xs.length + j ≤ 1073741824 → ap8h n j xs k = k (xs ++ ((List.range j).reverse.map (hbV n))) := by
  intro j
  induction j with
  | zero => intro xs k h; simp [ap8h]
  | succ j ih =>
    intro xs k h
    rw [ap8h, lim_in (by omega), ih _ _ (by simp; omega)]
    simp [List.range_succ]
theorem hs_out {s : S8} (h : OkS s) : hs8 (stV s) 8 0 z32 = .l ((outN s).map nv) := by
  have one : ∀ (j a : Nat) (h : V), a < M32 → hs4 j (a : Int) h = (((h.put (4 * j) (nv (a / 16777216 % 256))).put (4 * j + 1) (nv (a / 65536 % 256))).put (4 * j + 2) (nv (a / 256 % 256))).put (4 * j + 3) (nv (a % 256)) := by
    intro j a h ha
    have ha : a < 4294967296 := ha
    have w : IntKind.wrap .u8 (a : Int) = ((a % 256 : Nat) : Int) := by
      unfold IntKind.wrap; simp [IntKind.bits, IntKind.signed]
    unfold hs4
    rw [hbV_eq 3, hbV_eq 2, hbV_eq 1, w]; rfl
  have e : hs8 (stV s) 8 0 z32 = hs4 7 (s.h : Int) (hs4 6 (s.g : Int) (hs4 5 (s.f : Int) (hs4 4 (s.e : Int) (hs4 3 (s.d : Int) (hs4 2 (s.c : Int) (hs4 1 (s.b : Int) (hs4 0 (s.a : Int) z32))))))) := by kernel_rfl
  rw [e, one _ _ _ h.a, one _ _ _ h.b, one _ _ _ h.c, one _ _ _ h.d, one _ _ _ h.e, one _ _ _ h.f, one _ _ _ h.g, one _ _ _ h.h]
  refine (?_ : @Eq V _ _)
  kernel_rfl
theorem hm_w {P Q : Type} {Bm : P → (P → Option R) → (Q → Option R) → Option R} {B : List Nat} (e : V → Nat → Nat → P) (e' : V → Nat → Nat → Q) (he : ∀ st o q K kx, Bm (e st o q) K kx = hm1 st (B.map nv) o q (fun t o' q' => K (e t o' q')) (kx (e' st o q)))
    (hB : B.length ≤ 2000000000) (k : Q → Option R) : ∀ (d j fuel : Nat) (S : S8), B.length = 64 * (j + d) → d < fuel → lpC Bm fuel (e (stV S) (64 * j) (B.length - 64 * j)) k = k (e' (stV (mixesN d S (B.drop (64 * j)))) (64 * (j + d)) (B.length - 64 * (j + d))) := by
  intro d
  induction d with
  | zero =>
    intro j fuel S hl hf
    obtain ⟨f, rfl⟩ : ∃ f, fuel = f + 1 := ⟨fuel - 1, by omega⟩
    rw [lpC, he]
    unfold hm1
    have h0 : (((B.map nv).drop (64 * j)).take (B.length - 64 * j)).length = 0 := by simp; omega
    rw [h0, show Nat.ble (64 * j + (B.length - 64 * j)) (B.map nv).length = true from Nat.ble_eq_true_of_le (by rw [List.length_map]; omega), cond_true, ln_in (by omega)]
    rfl
  | succ d ih =>
    intro j fuel S hl hf
    obtain ⟨f, rfl⟩ : ∃ f, fuel = f + 1 := ⟨fuel - 1, by omega⟩
    rw [lpC, he]
    unfold hm1
    have h0 : (((B.map nv).drop (64 * j)).take (B.length - 64 * j)).length = B.length - 64 * j := by simp
    rw [h0, show Nat.ble (64 * j + (B.length - 64 * j)) (B.map nv).length = true from Nat.ble_eq_true_of_le (by rw [List.length_map]; omega), cond_true, ln_in (by omega), show ilt 0 ((B.length - 64 * j : Nat) : Int) = true by rw [show (0 : Int) = ((0 : Nat) : Int) from rfl, ilt_nat]; exact decide_eq_true (by omega), cond_true, mxW_law (by omega), ih (j + 1) f _ (by omega) (by omega)]
    have hne : B.drop (64 * j) ≠ [] := by intro q; have := congrArg List.length q; simp at this; omega
    rw [mixes_succ hne, List.drop_drop, show 64 * j + 64 = 64 * (j + 1) by omega, show j + 1 + d = j + (d + 1) by omega]
theorem hm_law {P Q : Type} {Bm : P → (P → Option R) → (Q → Option R) → Option R} {B : List Nat} (e0 : V → P) (e : V → Nat → Nat → P) (e0' : V → Q) (e' : V → Nat → Nat → Q) (he0 : ∀ st K kx, Bm (e0 st) K kx = hm0 st (B.map nv) (fun t o' q' => K (e t o' q')) (kx (e0' st)))
    (he : ∀ st o q K kx, Bm (e st o q) K kx = hm1 st (B.map nv) o q (fun t o' q' => K (e t o' q')) (kx (e' st o q)))
    (hB : B.length ≤ 2000000000) (k : Q → Option R) (d fuel : Nat) (S : S8) (hl : B.length = 64 * (d + 1)) (hf : d + 1 < fuel) : ∃ o q, lpC Bm fuel (e0 (stV S)) k = k (e' (stV (mixesN (d + 1) S B)) o q) := by
  obtain ⟨f, rfl⟩ : ∃ f, fuel = f + 1 := ⟨fuel - 1, by omega⟩
  have h := hm_w e e' he hB k d 1 f (mixN S (B.take 64)) (by omega) (by omega)
  refine ⟨64 * (1 + d), B.length - 64 * (1 + d), ?_⟩
  rw [lpC, he0]
  unfold hm0
  rw [List.length_map, ln_in (by omega), show ilt 0 ((B.length : Nat) : Int) = true by rw [show (0 : Int) = ((0 : Nat) : Int) from rfl, ilt_nat]; exact decide_eq_true (by omega), cond_true, mxO_law (by omega), h]
  have hne : B ≠ [] := by intro q; subst q; simp at hl
  rw [mixes_succ hne]
theorem pad_bytes {C B : List Nat} (hl : C.length ≤ 1000000000) : (B.map nv ++ [V.i 128] ++ List.replicate ((119 - C.length % 64) % 64) (.i 0)) ++ ((List.range 8).reverse.map (hbV (WU (8 * ((C.length : Nat) : Int))))) = (B ++ padN C.length).map nv := by
  have e : WU (8 * ((C.length : Nat) : Int)) = ((8 * C.length : Nat) : Int) := by
    rw [show (8 : Int) * ((C.length : Nat) : Int) = ((8 * C.length : Nat) : Int) by omega]; exact wu64_lt (by omega)
  rw [e]
  unfold padN
  simp only [List.map_append, List.map_cons, List.map_replicate, List.append_assoc]
  congr 1
  have h8 : (List.range 8).reverse.map (hbV ((8 * C.length : Nat) : Int)) = [8 * C.length / 2 ^ 56 % 256, 8 * C.length / 2 ^ 48 % 256, 8 * C.length / 2 ^ 40 % 256, 8 * C.length / 2 ^ 32 % 256, 8 * C.length / 2 ^ 24 % 256, 8 * C.length / 2 ^ 16 % 256, 8 * C.length / 2 ^ 8 % 256, 8 * C.length % 256].map nv := by
    show [hbV _ 7, hbV _ 6, hbV _ 5, hbV _ 4, hbV _ 3, hbV _ 2, hbV _ 1, hbV _ 0] = _
    simp only [hbV_eq]
    simp [Nat.div_one]
  rw [h8]; rfl
theorem ho_end {q : QHo} {C : List Nat} (h : EndO q C) (hl : C.length ≤ 1000000000) (k : V → Option R) : hoK k q = k (.l ((shaN C).map nv)) := by
  have hF : ∀ n : Nat, n < 4000000000 → n < hid FU := fun n hn => by rw [hid_eq]; show n < 4611686018427387904; omega
  -- what is done behind the padding
  have fin : ∀ {B : List Nat} {S : S8}, Took C S B → ((B ++ padN C.length).length / 64 ≥ 1 ∧ (B ++ padN C.length).length % 64 = 0) ∧ hs8 (stV (mixesN ((B ++ padN C.length).length / 64) S (B ++ padN C.length))) 8 0 z32 = .l ((shaN C).map nv) := fun {B S} ht => by
    have hb := ht.len
    have hp := padN_len C.length
    refine ⟨by rw [List.length_append]; omega, ?_⟩
    rw [tooked_pad ht, hs_out (okS_mixes _ _ _ okS_0)]; rfl
  rcases h with ⟨rfl, l, n, i, rfl⟩ | ⟨S, B, nl, sh, l, n, i, ht, rfl⟩ | ⟨S, B, X, off, sh, l, n, i, ht, h2, h3, rfl⟩
  · have f := fin took_0
    have e : (V.i 128 :: (List.replicate 55 (V.i 0) ++ [hbV (WU (8 * 0)) 7, hbV (WU (8 * 0)) 6, hbV (WU (8 * 0)) 5, hbV (WU (8 * 0)) 4, hbV (WU (8 * 0)) 3, hbV (WU (8 * 0)) 2, hbV (WU (8 * 0)) 1, hbV (WU (8 * 0)) 0])) = ([] ++ padN ([] : List Nat).length).map nv := by
      have := pad_bytes (C := []) (B := []) (by simp)
      exact this
    have e1 : mixesN (([] ++ padN ([] : List Nat).length).length / 64) s0N ([] ++ padN ([] : List Nat).length) = mixN s0N ([] ++ padN ([] : List Nat).length) := by
      have hlen : ([] ++ padN ([] : List Nat).length).length = 64 := by rw [List.nil_append, padN_len]; rfl
      have hne : ([] ++ padN ([] : List Nat).length) ≠ [] := by intro q; rw [q] at hlen; cases hlen
      rw [hlen, show 64 / 64 = 0 + 1 from rfl, mixes_succ hne, mixN_take]; rfl
    show k (hs8 (mixV s0V (.l _)) 8 0 z32) = _
    rw [e, show s0V = stV s0N from rfl, mixV_nat, ← e1, f.2]
  · have hb := ht.len
    obtain ⟨⟨f1, f1'⟩, f2⟩ := fin ht
    show (lim (0 + (B.map nv).length) <| lim ((B.map nv).length + 1) <| lpC (BHp R) (hid FU) (.b (stV S) _ (B.map nv) nl sh z32 (B.map nv ++ [.i 128])) (hpK k)) = _
    rw [List.length_map, lim_in (by omega), lim_in (by omega)]
    have h1 := hp_loop (B := BHp R) (fun xs => .b (stV S) ((C.length : Nat) : Int) (B.map nv) nl sh z32 xs) (fun xs => .b (stV S) ((C.length : Nat) : Int) (B.map nv) nl sh z32 xs) (fun _ _ _ => rfl) (hpK k) ((119 - C.length % 64) % 64) (hid FU) (B.map nv ++ [V.i 128]) (by simp; omega) (by omega) (by simp; omega) (hF _ (by omega))
    rw [h1]
    show ap8h (WU (8 * ((C.length : Nat) : Int))) 8 _ _ = _
    rw [ap8h_eq 8 _ _ (by simp; omega), pad_bytes hl]
    obtain ⟨d, hd⟩ : ∃ d, (B ++ padN C.length).length / 64 = d + 1 := ⟨(B ++ padN C.length).length / 64 - 1, by omega⟩
    have hlen : (B ++ padN C.length).length = 64 * (d + 1) := by omega
    have hp := padN_len C.length
    obtain ⟨o, q, h3⟩ := hm_law (Bm := BHm R) (B := B ++ padN C.length) (fun st => .b0 (stV S) ((C.length : Nat) : Int) (B.map nv) nl sh z32 st ((B ++ padN C.length).map nv)) (fun st o q => .b1 (stV S) ((C.length : Nat) : Int) (B.map nv) nl sh z32 st ((B ++ padN C.length).map nv) o q)
      (fun st => .b0 (stV S) ((C.length : Nat) : Int) (B.map nv) nl sh z32 st ((B ++ padN C.length).map nv)) (fun st o q => .b1 (stV S) ((C.length : Nat) : Int) (B.map nv) nl sh z32 st ((B ++ padN C.length).map nv) o q)
      (fun _ _ _ => rfl) (fun _ _ _ _ _ => rfl) (by rw [List.length_append]; omega) (hmK k) d (hid FU) S hlen (hF _ (by rw [List.length_append] at hlen; omega))
    rw [h3]
    show k (hs8 (stV (mixesN (d + 1) S (B ++ padN C.length))) 8 0 z32) = _
    rw [← hd, f2]
  · have hb := ht.len
    obtain ⟨⟨f1, f1'⟩, f2⟩ := fin ht
    have hx : ((X.map nv).drop off).take B.length = B.map nv := by
      rw [← List.map_drop, h2, List.take_of_length_le (by simp)]
    show (bif Nat.ble (off + B.length) (X.map nv).length then (lim (0 + (((X.map nv).drop off).take B.length).length) <| lim ((((X.map nv).drop off).take B.length).length + 1) <| lpC (BHp R) (hid FU) (.c (stV S) _ (X.map nv) off B.length sh z32 (((X.map nv).drop off).take B.length ++ [.i 128])) (hpK k)) else none) = _
    rw [hx, List.length_map, List.length_map, show Nat.ble (off + B.length) X.length = true from Nat.ble_eq_true_of_le (by omega), cond_true, lim_in (by omega), lim_in (by omega)]
    have h1 := hp_loop (B := BHp R) (fun xs => .c (stV S) ((C.length : Nat) : Int) (X.map nv) off B.length sh z32 xs) (fun xs => .c (stV S) ((C.length : Nat) : Int) (X.map nv) off B.length sh z32 xs) (fun _ _ _ => rfl) (hpK k) ((119 - C.length % 64) % 64) (hid FU) (B.map nv ++ [V.i 128]) (by simp; omega) (by omega) (by simp; omega) (hF _ (by omega))
    rw [h1]
    show ap8h (WU (8 * ((C.length : Nat) : Int))) 8 _ _ = _
    rw [ap8h_eq 8 _ _ (by simp; omega), pad_bytes hl]
    obtain ⟨d, hd⟩ : ∃ d, (B ++ padN C.length).length / 64 = d + 1 := ⟨(B ++ padN C.length).length / 64 - 1, by omega⟩
    have hlen : (B ++ padN C.length).length = 64 * (d + 1) := by omega
    have hp := padN_len C.length
    obtain ⟨o, q, h4⟩ := hm_law (Bm := BHm R) (B := B ++ padN C.length) (fun st => .c0 (stV S) ((C.length : Nat) : Int) (X.map nv) off B.length sh z32 st ((B ++ padN C.length).map nv)) (fun st o q => .c1 (stV S) ((C.length : Nat) : Int) (X.map nv) off B.length sh z32 st ((B ++ padN C.length).map nv) o q)
      (fun st => .c0 (stV S) ((C.length : Nat) : Int) (X.map nv) off B.length sh z32 st ((B ++ padN C.length).map nv)) (fun st o q => .c1 (stV S) ((C.length : Nat) : Int) (X.map nv) off B.length sh z32 st ((B ++ padN C.length).map nv) o q)
      (fun _ _ _ => rfl) (fun _ _ _ _ _ => rfl) (by rw [List.length_append]; omega) (hmK k) d (hid FU) S hlen (hF _ (by rw [List.length_append] at hlen; omega))
    rw [h4]
    show k (hs8 (stV (mixesN (d + 1) S (B ++ padN C.length))) 8 0 z32) = _
    rw [← hd, f2]
theorem ds_law {l : List V} (ht : ∀ y ∈ l, ∃ D : List Nat, y.els = D.map nv) (hc : (catB l).length ≤ 1000000000) (hl : l.length ≤ 100000000) (k : V → Option R) : dsG l k = k (.l ((shaN (catB l)).map nv)) := by
  unfold dsG
  rw [ln_in (by omega)]
  obtain ⟨q, h1, h2⟩ := ho_law (R := R) (hoK k) l [] [] (.a s0V 0 l (l.length : Nat) 0) (hid FU) ht (.inl ⟨rfl, rfl⟩) (by simpa using hc) (by simpa using hl) (by rw [hid_eq]; show l.length < 4611686018427387904; omega)
  rw [h2]
  exact ho_end h1 hc k
end Go.Vm

namespace Go.Vm
open Go.RowKit
variable {R : Type}
set_option linter.unusedVariables false
/-! digest.Sum, Twice as functions of their arguments. -/
def sumL : List V → Nat
  | [] => 0
  | y :: l => y.els.length + sumL l
def dsg : List V → Bool := fun xs => match xs with
  | [.l l] => bif Nat.ble (sumL l) 1000000000 then Nat.ble l.length 100000000 else false
  | _ => false
def shaB (l : List Nat) : V := .l ((shaN l).map nv)
def dsr (h : Nat) : List V → List Rs := fun xs => match xs with
  | [x] => [.d h (shaB (catB x.els))]
  | _ => []
def dtr (h : Nat) : List V → List Rs := fun xs => match xs with
  | [x] => [.d h (shaB (shaN (catB x.els)))]
  | _ => []
theorem bytes_els {y : V} (h : (D.slice (.int .u8)).has y) : ∃ D : List Nat, y.els = D.map nv ∧ ∀ a ∈ D, a < 256 := by
  rcases h with rfl | ⟨ys, rfl, hy⟩
  · exact ⟨[], rfl, fun a ha => by cases ha⟩
  · obtain ⟨ns, rfl, hn⟩ := u8s hy
    exact ⟨ns, rfl, hn⟩
theorem catB_len {l : List V} (h : ∀ y ∈ l, ∃ D : List Nat, y.els = D.map nv) : (catB l).length = sumL l := by
  induction l with
  | nil => rfl
  | cons y l ih =>
    obtain ⟨D, hD⟩ := h y (by simp)
    show (bytesN y ++ catB l).length = y.els.length + sumL l
    rw [List.length_append, ih (fun z hz => h z (by simp [hz])), bytesN_eq hD, hD, List.length_map]
theorem ds_run {l : List V} (hd : (D.slice (.slice (.int .u8))).has (.l l)) (hg : dsg [.l l] = true) (k : V → Option R) : dsG l k = k (shaB (catB l)) := by
  have ht : ∀ y ∈ l, ∃ D : List Nat, y.els = D.map nv := fun y hy => by
    rcases hd with q | ⟨ys, q, hys⟩
    · cases q
    · cases q; obtain ⟨D, h1, _⟩ := bytes_els (hys y hy); exact ⟨D, h1⟩
  have hg' : (bif Nat.ble (sumL l) 1000000000 then Nat.ble l.length 100000000 else false) = true := hg
  cases h1 : Nat.ble (sumL l) 1000000000 with
  | false => rw [h1] at hg'; cases hg'
  | true =>
    rw [h1, cond_true] at hg'
    exact ds_law ht (by rw [catB_len ht]; exact Nat.le_of_ble_eq_true h1) (Nat.le_of_ble_eq_true hg') k
theorem dsg_l {x : V} (hg : dsg [x] = true) : ∃ l, x = .l l := by
  cases x with
  | l l => exact ⟨l, rfl⟩
  | _ => cases hg
end Go.Vm

namespace Go.Vm
open Go.RowKit
variable {R : Type}
set_option linter.unusedVariables false
set_option linter.constructorNameAsVariable false
/-! A head's bytes and its name. -/
def DHead : D := .struct [.int .u32, .arr 32 (.int .u8), .arr 32 (.int .u8), .int .u32, .int .u32, .int .u32]
theorem head_v {x : V} (h : DHead.has x) : ∃ (v t b n : Nat) (ps rs : List Nat), x = .l [.i v, .l (ps.map nv), .l (rs.map nv), .i t, .i b, .i n] ∧ ps.length = 32 ∧ rs.length = 32 ∧ (∀ a ∈ ps, a < 256) ∧ (∀ a ∈ rs, a < 256) ∧ v < 4294967296 ∧ t < 4294967296 ∧ b < 4294967296 ∧ n < 4294967296 := by
  obtain ⟨ys, rfl, hy⟩ := h
  match ys, hy with
  | [v, p, r, t, b, n], hy =>
    obtain ⟨⟨v, rfl, v1, v2⟩, ⟨ps, rfl, p1, p2⟩, ⟨rs, rfl, r1, r2⟩, ⟨t, rfl, t1, t2⟩, ⟨b, rfl, b1, b2⟩, ⟨n, rfl, n1, n2⟩, _⟩ := hy
    simp only [lo, hi] at v1 v2 t1 t2 b1 b2 n1 n2
    obtain ⟨ps, rfl, p3⟩ := u8s p2
    obtain ⟨rs, rfl, r3⟩ := u8s r2
    obtain ⟨v, rfl⟩ := Int.eq_ofNat_of_zero_le v1
    obtain ⟨t, rfl⟩ := Int.eq_ofNat_of_zero_le t1
    obtain ⟨b, rfl⟩ := Int.eq_ofNat_of_zero_le b1
    obtain ⟨n, rfl⟩ := Int.eq_ofNat_of_zero_le n1
    exact ⟨v, t, b, n, ps, rs, rfl, by simpa using p1, by simpa using r1, p3, r3, by omega, by omega, by omega, by omega⟩
def dwg : List V → Bool := fun xs => match xs with
  | [.l l] => Nat.ble l.length 1000000000
  | _ => false
def dwr (h : Nat) : List V → List Rs := fun xs => match xs with
  | [x] => [.d h (shaB (shaN (bytesN x)))]
  | _ => []
theorem dwg_l {x : V} (hg : dwg [x] = true) : ∃ l, x = .l l ∧ Nat.ble l.length 1000000000 = true := by
  cases x with
  | l l => exact ⟨l, rfl, hg⟩
  | _ => cases hg
def wFx4 : List V → Bool
  | [b, n, s] => ieq s.int 4 && shb b
  | _ => false
theorem wFx4_at {b : V} {n s : Int} (h : wFx4 [b, .i n, .i s] = true) : s = 4 ∧ shb b = true := by
  rw [wFx4, Bool.and_eq_true] at h
  exact ⟨ieq_iff.1 h.1, h.2⟩
def dFx4 : List V → Bool
  | [n, s] => ieq s.int 4
  | _ => false
theorem dFx4_at {n s : Int} (h : dFx4 [.i n, .i s] = true) : s = 4 := ieq_iff.1 h
end Go.Vm

namespace Go.Vm
open Go.RowKit
variable {R : Type}
set_option linter.unusedVariables false
set_option linter.constructorNameAsVariable false
def l32 (f : Nat → V) : List V := [f 0, f 1, f 2, f 3, f 4, f 5, f 6, f 7, f 8, f 9, f 10, f 11, f 12, f 13, f 14, f 15, f 16, f 17, f 18, f 19, f 20, f 21, f 22, f 23, f 24, f 25, f 26, f 27, f 28, f 29, f 30, f 31]
theorem l32_of {l : List V} (h : l.length = 32) : l = l32 (fun i => l.getD i .n) := by
  have e : l = (List.range l.length).map (fun i => l.getD i .n) := by
    apply List.ext_getElem (by simp)
    intro i h1 h2
    simp [h1]
  rw [h] at e
  exact e
def hdB (v t b n : Int) (ps rs : List V) : List V := leV 4 (WU v) ++ ps ++ rs ++ leV 4 (WU t) ++ leV 4 (WU b) ++ leV 4 (WU n)
def hbr (el : Nat) : List V → List Rs := fun xs => match xs with
  | [x] => [.r el (hdB (x.nth 0).int (x.nth 3).int (x.nth 4).int (x.nth 5).int (x.nth 1).els (x.nth 2).els) false]
  | _ => []
def idr (h : Nat) : List V → List Rs := fun xs => match xs with
  | [x] => [.d h (shaB (shaN (bytesN (.l (hdB (x.nth 0).int (x.nth 3).int (x.nth 4).int (x.nth 5).int (x.nth 1).els (x.nth 2).els)))))]
  | _ => []
theorem l32_len (f : Nat → V) : (l32 f).length = 32 := rfl
theorem hdB_len {v t b n : Int} {ps rs : List V} (h1 : ps.length = 32) (h2 : rs.length = 32) : (hdB v t b n ps rs).length = 80 := by
  have := leV_len
  unfold hdB
  simp [h1, h2, this]
end Go.Vm

namespace Go.Vm
open Go.RowKit
variable {R : Type}
set_option linter.unusedVariables false
set_option linter.constructorNameAsVariable false
namespace Wd
/-! wide.From -/
def orS (w x m : Int) : Int := bitsOf .or .u64 w (IntKind.wrap .u64 (IntKind.wrap .u64 x * m))
def orW (a : Nat → Int) (t : Nat) : Int :=
  orS (orS (orS (orS (orS (orS (orS (orS 0 (a t) 1) (a (t - 1)) 256) (a (t - 2)) 65536) (a (t - 3)) 16777216) (a (t - 4)) 4294967296) (a (t - 5)) 1099511627776) (a (t - 6)) 281474976710656) (a (t - 7)) 72057594037927936
def frV (a : Nat → Int) : V := .l [.i (orW a 31), .i (orW a 23), .i (orW a 15), .i (orW a 7)]
def frS (x : V) (w : Nat) (b m : Int) : V := x.put w (.i (orS (x.nth w).int b m))
def frC (a : Nat → Int) : V := (frS (frS (frS (frS (frS (frS (frS (frS (frS (frS (frS (frS (frS (frS (frS (frS (frS (frS (frS (frS (frS (frS (frS (frS (frS (frS (frS (frS (frS (frS (frS (frS (.l (List.replicate 4 (.i 0))) 0 (a 31) 1) 0 (a 30) 256) 0 (a 29) 65536) 0 (a 28) 16777216) 0 (a 27) 4294967296) 0 (a 26) 1099511627776) 0 (a 25) 281474976710656) 0 (a 24) 72057594037927936) 1 (a 23) 1) 1 (a 22) 256) 1 (a 21) 65536) 1 (a 20) 16777216) 1 (a 19) 4294967296) 1 (a 18) 1099511627776) 1 (a 17) 281474976710656) 1 (a 16) 72057594037927936) 2 (a 15) 1) 2 (a 14) 256) 2 (a 13) 65536) 2 (a 12) 16777216) 2 (a 11) 4294967296) 2 (a 10) 1099511627776) 2 (a 9) 281474976710656) 2 (a 8) 72057594037927936) 3 (a 7) 1) 3 (a 6) 256) 3 (a 5) 65536) 3 (a 4) 16777216) 3 (a 3) 4294967296) 3 (a 2) 1099511627776) 3 (a 1) 281474976710656) 3 (a 0) 72057594037927936)
theorem frC_eq (a : Nat → Int) : frC a = frV a := by
  have z : (.l (List.replicate 4 (.i 0)) : V) = .l [.i 0, .i 0, .i 0, .i 0] := rfl
  have f0 : ∀ (p b m : Int) (q r s : V), frS (.l [.i p, q, r, s]) 0 b m = .l [.i (orS p b m), q, r, s] := fun _ _ _ _ _ _ => rfl
  have f1 : ∀ (p b m : Int) (q r s : V), frS (.l [q, .i p, r, s]) 1 b m = .l [q, .i (orS p b m), r, s] := fun _ _ _ _ _ _ => rfl
  have f2 : ∀ (p b m : Int) (q r s : V), frS (.l [q, r, .i p, s]) 2 b m = .l [q, r, .i (orS p b m), s] := fun _ _ _ _ _ _ => rfl
  have f3 : ∀ (p b m : Int) (q r s : V), frS (.l [q, r, s, .i p]) 3 b m = .l [q, r, s, .i (orS p b m)] := fun _ _ _ _ _ _ => rfl
  unfold frC frV
  rw [z]
  simp only [f0, f1, f2, f3, orW]
def leN : List Nat → Nat
  | [] => 0
  | b :: l => b + 256 * leN l
theorem leN_lt : ∀ {l : List Nat}, (∀ a ∈ l, a < 256) → leN l < 256 ^ l.length
  | [], _ => by simp [leN]
  | b :: l, h => by
    have h1 := h b (by simp)
    have h2 := leN_lt (l := l) (fun a ha => h a (by simp [ha]))
    rw [leN, List.length_cons, Nat.pow_succ]
    omega
theorem orS_nat {w x j : Nat} (hw : w < 2 ^ (8 * j)) (hx : x < 256) (hj : j < 8) {m : Int} (hm : m = ((2 ^ (8 * j) : Nat) : Int)) : orS (w : Int) (x : Int) m = ((w + 2 ^ (8 * j) * x : Nat) : Int) := by
  subst hm
  have h8 : 2 ^ (8 * j) ≤ 2 ^ 56 := Nat.pow_le_pow_right (by omega) (by omega)
  have hb : 2 ^ (8 * j) * x < 2 ^ 64 := by
    have : 2 ^ (8 * j) * x ≤ 2 ^ 56 * 255 := Nat.mul_le_mul h8 (by omega)
    omega
  have wr : ∀ n : Nat, n < 2 ^ 64 → IntKind.wrap .u64 (n : Int) = (n : Int) := fun n hn => by
    exact wu64_lt (by omega)
  unfold orS
  rw [wr x (by omega), ← Int.natCast_mul, Nat.mul_comm, wr _ hb, bits_or_nat (by omega) hb, Nat.or_comm, ← Nat.two_pow_add_eq_or_of_lt hw, Nat.add_comm]
theorem orW_nat {n : Nat → Nat} (h : ∀ i, n i < 256) (t : Nat) : orW (fun i => (n i : Int)) t = ((n t + 256 * (n (t - 1) + 256 * (n (t - 2) + 256 * (n (t - 3) + 256 * (n (t - 4) + 256 * (n (t - 5) + 256 * (n (t - 6) + 256 * n (t - 7))))))) : Nat) : Int) := by
  have h0 := h t
  have h1 := h (t - 1)
  have h2 := h (t - 2)
  have h3 := h (t - 3)
  have h4 := h (t - 4)
  have h5 := h (t - 5)
  have h6 := h (t - 6)
  have h7 := h (t - 7)
  unfold orW
  dsimp only
  rw [show (0 : Int) = ((0 : Nat) : Int) from rfl,
    orS_nat (j := 0) (m := 1) (by omega) h0 (by omega) rfl, orS_nat (j := 1) (m := 256) (by omega) h1 (by omega) rfl, orS_nat (j := 2) (m := 65536) (by omega) h2 (by omega) rfl, orS_nat (j := 3) (m := 16777216) (by omega) h3 (by omega) rfl,
    orS_nat (j := 4) (m := 4294967296) (by omega) h4 (by omega) rfl, orS_nat (j := 5) (m := 1099511627776) (by omega) h5 (by omega) rfl, orS_nat (j := 6) (m := 281474976710656) (by omega) h6 (by omega) rfl, orS_nat (j := 7) (m := 72057594037927936) (by omega) h7 (by omega) rfl]
  congr 1
  omega
theorem le_key (a b c d e f g h y : Nat) : a + 256 * (b + 256 * (c + 256 * (d + 256 * (e + 256 * (f + 256 * (g + 256 * (h + 256 * y))))))) = (a + 256 * (b + 256 * (c + 256 * (d + 256 * (e + 256 * (f + 256 * (g + 256 * h))))))) + 2 ^ 64 * y := by omega
theorem frC_law {n : Nat → Nat} (h : ∀ i, n i < 256) : frC (fun i => (n i : Int)) = wV (leN (bytesN (.l (l32 fun i => .i (n i : Int)))).reverse) := by
  rw [frC_eq]
  unfold frV
  rw [orW_nat h, orW_nat h, orW_nat h, orW_nat h]
  have e : ∃ p q r s : Nat, p = n 31 + 256 * (n 30 + 256 * (n 29 + 256 * (n 28 + 256 * (n 27 + 256 * (n 26 + 256 * (n 25 + 256 * n 24)))))) ∧ q = n 23 + 256 * (n 22 + 256 * (n 21 + 256 * (n 20 + 256 * (n 19 + 256 * (n 18 + 256 * (n 17 + 256 * n 16)))))) ∧
      r = n 15 + 256 * (n 14 + 256 * (n 13 + 256 * (n 12 + 256 * (n 11 + 256 * (n 10 + 256 * (n 9 + 256 * n 8)))))) ∧ s = n 7 + 256 * (n 6 + 256 * (n 5 + 256 * (n 4 + 256 * (n 3 + 256 * (n 2 + 256 * (n 1 + 256 * n 0)))))) := ⟨_, _, _, _, rfl, rfl, rfl, rfl⟩
  obtain ⟨p, q, r, s, hp, hq, hr, hs⟩ := e
  have lp : p < 2 ^ 64 := by have := h 31; have := h 30; have := h 29; have := h 28; have := h 27; have := h 26; have := h 25; have := h 24; omega
  have lq : q < 2 ^ 64 := by have := h 23; have := h 22; have := h 21; have := h 20; have := h 19; have := h 18; have := h 17; have := h 16; omega
  have lr : r < 2 ^ 64 := by have := h 15; have := h 14; have := h 13; have := h 12; have := h 11; have := h 10; have := h 9; have := h 8; omega
  have ls : s < 2 ^ 64 := by have := h 7; have := h 6; have := h 5; have := h 4; have := h 3; have := h 2; have := h 1; have := h 0; omega
  have hN : leN (bytesN (.l (l32 fun i => .i (n i : Int)))).reverse = p + 2 ^ 64 * (q + 2 ^ 64 * (r + 2 ^ 64 * s)) := by
    rw [bytesN_eq (x := .l (l32 fun i => .i (n i : Int))) (bs := [n 0, n 1, n 2, n 3, n 4, n 5, n 6, n 7, n 8, n 9, n 10, n 11, n 12, n 13, n 14, n 15, n 16, n 17, n 18, n 19, n 20, n 21, n 22, n 23, n 24, n 25, n 26, n 27, n 28, n 29, n 30, n 31]) rfl, show [n 0, n 1, n 2, n 3, n 4, n 5, n 6, n 7, n 8, n 9, n 10, n 11, n 12, n 13, n 14, n 15, n 16, n 17, n 18, n 19, n 20, n 21, n 22, n 23, n 24, n 25, n 26, n 27, n 28, n 29, n 30, n 31].reverse = [n 31, n 30, n 29, n 28, n 27, n 26, n 25, n 24, n 23, n 22, n 21, n 20, n 19, n 18, n 17, n 16, n 15, n 14, n 13, n 12, n 11, n 10, n 9, n 8, n 7, n 6, n 5, n 4, n 3, n 2, n 1, n 0] from rfl]
    simp only [leN, Nat.mul_zero, Nat.add_zero]
    rw [le_key, le_key, le_key, ← hp, ← hq, ← hr, ← hs]
  rw [hN]
  simp only [Nat.sub_zero, Nat.reduceSub]
  rw [← hp, ← hq, ← hr, ← hs]
  unfold wV
  have h0 : lm (p + 2 ^ 64 * (q + 2 ^ 64 * (r + 2 ^ 64 * s))) 0 = p := by unfold lm; rw [Nat.mul_zero, Nat.pow_zero, Nat.div_one]; omega
  have h1 : lm (p + 2 ^ 64 * (q + 2 ^ 64 * (r + 2 ^ 64 * s))) 1 = q := by unfold lm; omega
  have h2 : lm (p + 2 ^ 64 * (q + 2 ^ 64 * (r + 2 ^ 64 * s))) 2 = r := by
    unfold lm
    rw [show 2 ^ (64 * 2) = 2 ^ 64 * 2 ^ 64 from rfl, ← Nat.div_div_eq_div_mul]; omega
  have h3 : lm (p + 2 ^ 64 * (q + 2 ^ 64 * (r + 2 ^ 64 * s))) 3 = s := by
    unfold lm
    rw [show 2 ^ (64 * 3) = 2 ^ 64 * 2 ^ 64 * 2 ^ 64 from rfl, ← Nat.div_div_eq_div_mul, ← Nat.div_div_eq_div_mul]; omega
  rw [h0, h1, h2, h3]
end Wd
theorem l32_nat {ns : List Nat} (h : ns.length = 32) : ns.map nv = l32 (fun i => .i ((ns.getD i 0 : Nat) : Int)) := by
  have e : ns = (List.range ns.length).map (fun i => ns.getD i 0) := by
    apply List.ext_getElem (by simp)
    intro i h1 h2
    simp [h1]
  rw [h] at e
  exact (congrArg (List.map nv) e).trans rfl
theorem getD_256 {ns : List Nat} (h : ∀ a ∈ ns, a < 256) (i : Nat) : ns.getD i 0 < 256 := by
  by_cases hi : i < ns.length
  · rw [List.getD_eq_getElem?_getD, List.getElem?_eq_getElem hi]; exact h _ (List.getElem_mem hi)
  · rw [List.getD_eq_getElem?_getD, List.getElem?_eq_none (by omega)]; simp
abbrev DHash : D := .arr 32 (.int .u8)
theorem hash_v {x : V} (h : DHash.has x) : ∃ ns : List Nat, x = .l (ns.map nv) ∧ ns.length = 32 ∧ ∀ a ∈ ns, a < 256 := by
  obtain ⟨ys, rfl, hl, hy⟩ := h
  obtain ⟨ns, rfl, hn⟩ := u8s hy
  exact ⟨ns, rfl, by simpa using hl, hn⟩
/-! Meets -/
namespace Wd
def hdN (x : V) : List Nat := shaN (shaN (bytesN (.l (hdB (x.nth 0).int (x.nth 3).int (x.nth 4).int (x.nth 5).int (x.nth 1).els (x.nth 2).els))))
def mtI (x : V) (X : V) (k : Bool → Option R) : Option R :=
  bif ieq (eerr (x.nth 4).int.toNat : Int) 0 then bif decide (wN (wV (tgt (x.nth 4).int.toNat)) < wN (wV (leN (bytesN X).reverse))) then k false else k true else k false
def mtr (t : Nat) : List V → List Rs := fun xs => match xs with
  | [x] => [.d t (.b (ieq (eerr (x.nth 4).int.toNat : Int) 0 && !decide (tgt (x.nth 4).int.toNat < leN (hdN x))))]
  | _ => []
end Wd
theorem be4_lt {a : Nat} : ∀ y ∈ be4 a, y < 256 := by
  intro y hy
  unfold be4 at hy
  simp only [List.mem_cons, List.not_mem_nil, or_false] at hy
  omega
theorem shaN_lt (l : List Nat) : ∀ y ∈ shaN l, y < 256 := by
  intro y hy
  unfold shaN outN at hy
  simp only [List.mem_append] at hy
  rcases hy with h | h | h | h | h | h | h | h <;> exact be4_lt y h
theorem shaN_len (l : List Nat) : (shaN l).length = 32 := by
  unfold shaN outN be4
  simp
namespace Wd
theorem hdN_lt (x : V) : leN (hdN x) < 2 ^ 256 := by
  have h := leN_lt (shaN_lt (shaN (bytesN (.l (hdB (x.nth 0).int (x.nth 3).int (x.nth 4).int (x.nth 5).int (x.nth 1).els (x.nth 2).els)))))
  rw [shaN_len] at h
  exact h
theorem mt_law (x : V) (k : Bool → Option R) : mtI x (.l ((hdN x).map nv).reverse) k = k (ieq (eerr (x.nth 4).int.toNat) 0 && !decide (tgt (x.nth 4).int.toNat < leN (hdN x))) := by
  have e : (bytesN (.l ((hdN x).map nv).reverse)).reverse = hdN x := by
    rw [bytesN_eq (x := .l ((hdN x).map nv).reverse) (bs := (hdN x).reverse) (by rw [List.map_reverse]; rfl), List.reverse_reverse]
  unfold mtI
  rw [e, wN_wV (tgt_lt _), wN_wV (hdN_lt x)]
  cases ieq (eerr (x.nth 4).int.toNat) 0 <;> cases decide (tgt (x.nth 4).int.toNat < leN (hdN x)) <;> rfl
end Wd
end Go.Vm
end
