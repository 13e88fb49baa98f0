/- What the operations of a program do, shown once for all programs; and numbers. -/
import Derived.Test.YteoeonfajlnggaaGreatVm5
import Derived.Orders
import Derived.OrdersIn
import Derived.LoopNIn
import Derived.RangeFuncIn
import Derived.LoopN
set_option linter.constructorNameAsVariable false
set_option linter.unusedVariables false
set_option linter.unusedSimpArgs false
noncomputable section
namespace Go.Vm
open Go.RowKit
variable {P : Program} {T : TT} {c : Ctx} {e eb : Env} {of : Nat → Option Ob}
set_option linter.unusedVariables false
set_option linter.constructorNameAsVariable false

/-! ### A store by numbers -/
inductive Tr where
  | e
  | n (v : Option Ob) (l r : Tr)
def Tr.get : Tr → Nat → Option Ob
  | .e, _ => none
  | .n v l r, k => match k with
    | 0 => v
    | k + 1 => match Nat.mod k 2 with
      | 0 => l.get (Nat.div k 2)
      | _ => r.get (Nat.div k 2)
def Tr.setF : Nat → Tr → Nat → Ob → Tr
  | 0, t, _, _ => t
  | f + 1, .e, k, o => match k with
    | 0 => .n (some o) .e .e
    | k + 1 => match Nat.mod k 2 with
      | 0 => .n none (setF f .e (Nat.div k 2) o) .e
      | _ => .n none .e (setF f .e (Nat.div k 2) o)
  | f + 1, .n v l r, k, o => match k with
    | 0 => .n (some o) l r
    | k + 1 => match Nat.mod k 2 with
      | 0 => .n v (setF f l (Nat.div k 2) o) r
      | _ => .n v l (setF f r (Nat.div k 2) o)
def Tr.set (t : Tr) (k : Nat) (o : Ob) : Tr := setF (k + 1) t k o
theorem Tr.get_e (k : Nat) : Tr.get .e k = none := by cases k <;> rfl
theorem Tr.get_s (v : Option Ob) (l r : Tr) (k : Nat) : Tr.get (.n v l r) (k + 1) = if k % 2 = 0 then l.get (k / 2) else r.get (k / 2) := by
  show (match Nat.mod k 2 with | 0 => l.get (Nat.div k 2) | _ => r.get (Nat.div k 2)) = _
  have e1 : Nat.mod k 2 = k % 2 := rfl
  have e2 : Nat.div k 2 = k / 2 := rfl
  rw [e1, e2]
  rcases Nat.mod_two_eq_zero_or_one k with h | h <;> rw [h] <;> rfl
theorem Tr.get_setF : ∀ (f : Nat) (t : Tr) (k : Nat) (o : Ob) (j : Nat), k < f → (setF f t k o).get j = if j = k then some o else t.get j := by
  intro f
  induction f with
  | zero => intro t k o j h; omega
  | succ f ih =>
    intro t k o j h
    have hdiv : ∀ m : Nat, m + 1 < f + 1 → m / 2 < f := fun m hm => by omega
    have key : ∀ (m : Nat) (hm : k = m + 1) (v : Option Ob) (l r : Tr), (match Nat.mod m 2 with | 0 => Tr.n v (setF f l (Nat.div m 2) o) r | _ => Tr.n v l (setF f r (Nat.div m 2) o)).get j = if j = k then some o else (Tr.n v l r).get j := by
      intro m hm v l r
      subst hm
      have e1 : Nat.mod m 2 = m % 2 := rfl
      have e2 : Nat.div m 2 = m / 2 := rfl
      rw [e1, e2]
      cases j with
      | zero =>
        rw [if_neg (by omega)]
        rcases Nat.mod_two_eq_zero_or_one m with h' | h' <;> rw [h'] <;> rfl
      | succ j =>
        rcases Nat.mod_two_eq_zero_or_one m with h' | h' <;> rw [h']
        · show Tr.get (.n v (setF f l (m / 2) o) r) (j + 1) = _
          rw [get_s, get_s, ih l (m / 2) o (j / 2) (hdiv m h)]
          by_cases hj : j % 2 = 0
          · rw [if_pos hj, if_pos hj]
            by_cases hjm : j = m
            · subst hjm; simp
            · rw [if_neg (by omega), if_neg (by omega)]
          · rw [if_neg hj, if_neg hj, if_neg (by omega)]
        · show Tr.get (.n v l (setF f r (m / 2) o)) (j + 1) = _
          rw [get_s, get_s, ih r (m / 2) o (j / 2) (hdiv m h)]
          by_cases hj : j % 2 = 0
          · rw [if_pos hj, if_pos hj, if_neg (by omega)]
          · rw [if_neg hj, if_neg hj]
            by_cases hjm : j = m
            · subst hjm; simp
            · rw [if_neg (by omega), if_neg (by omega)]
    cases t with
    | e =>
      cases k with
      | zero =>
        cases j with
        | zero => rfl
        | succ j => rw [if_neg (by omega)]; show Tr.get (.n (some o) .e .e) (j + 1) = _; rw [get_s]; simp [get_e]
      | succ m =>
        have := key m rfl none .e .e
        have e0 : (Tr.n none .e .e).get j = Tr.get .e j := by
          cases j with
          | zero => rfl
          | succ j => rw [get_s]; simp [get_e]
        rw [e0] at this
        exact this
    | n v l r =>
      cases k with
      | zero =>
        cases j with
        | zero => rfl
        | succ j => rw [if_neg (by omega)]; show Tr.get (.n (some o) l r) (j + 1) = _; rw [get_s, get_s]
      | succ m => exact key m rfl v l r
theorem Tr.get_set (t : Tr) (k : Nat) (o : Ob) (j : Nat) : (t.set k o).get j = if j = k then some o else t.get j := get_setF _ _ _ _ _ (Nat.lt_succ_self _)
def Tr.toL : Tr → (Nat → Nat) → List (Nat × Ob)
  | .e, _ => []
  | .n v l r, f => match v with
    | some o => (f 0, o) :: (l.toL (fun j => f (2 * j + 1)) ++ r.toL (fun j => f (2 * j + 2)))
    | none => l.toL (fun j => f (2 * j + 1)) ++ r.toL (fun j => f (2 * j + 2))
def over (t : Tr) (base : Nat → Option Ob) (id : Nat) : Option Ob :=
  match t.get id with
  | some o => some o
  | none => base id
theorem put_toL : ∀ (t : Tr) (f : Nat → Nat) (base : Nat → Option Ob), (∀ i j, f i = f j → i = j) →
    (∀ j, put base (t.toL f) (f j) = match t.get j with | some o => some o | none => base (f j)) ∧ ∀ id, (∀ j, f j ≠ id) → put base (t.toL f) id = base id := by
  intro t
  induction t with
  | e => intro f base _; exact ⟨fun j => by rw [Tr.get_e]; rfl, fun id _ => rfl⟩
  | n v l r ihl ihr =>
    intro f base hf
    have i1 : ∀ i j, f (2 * i + 1) = f (2 * j + 1) → i = j := fun i j h => by have := hf _ _ h; omega
    have i2 : ∀ i j, f (2 * i + 2) = f (2 * j + 2) → i = j := fun i j h => by have := hf _ _ h; omega
    -- the rest, onto whatever base
    have rest : ∀ b : Nat → Option Ob, put b (l.toL (fun j => f (2 * j + 1)) ++ r.toL (fun j => f (2 * j + 2))) (f 0) = b (f 0) ∧
        (∀ j, put b (l.toL (fun j => f (2 * j + 1)) ++ r.toL (fun j => f (2 * j + 2))) (f (j + 1)) = match (if j % 2 = 0 then l.get (j / 2) else r.get (j / 2)) with | some o => some o | none => b (f (j + 1))) ∧
        ∀ id, (∀ j, f j ≠ id) → put b (l.toL (fun j => f (2 * j + 1)) ++ r.toL (fun j => f (2 * j + 2))) id = b id := by
      intro b
      rw [put_append]
      obtain ⟨l1, l2⟩ := ihl (fun j => f (2 * j + 1)) b i1
      obtain ⟨r1, r2⟩ := ihr (fun j => f (2 * j + 2)) (put b (l.toL (fun j => f (2 * j + 1)))) i2
      refine ⟨?_, fun j => ?_, fun id hid => ?_⟩
      · rw [r2 (f 0) (fun j h => by have := hf _ _ h; omega), l2 (f 0) (fun j h => by have := hf _ _ h; omega)]
      · by_cases hj : j % 2 = 0
        · have e1 : j + 1 = 2 * (j / 2) + 1 := by omega
          rw [r2 (f (j + 1)) (fun k h => by have := hf _ _ h; omega), if_pos hj]
          have := l1 (j / 2)
          simp only [← e1] at this
          exact this
        · have e1 : j + 1 = 2 * (j / 2) + 2 := by omega
          rw [if_neg hj]
          have := r1 (j / 2)
          simp only [← e1] at this
          rw [this, l2 (f (j + 1)) (fun k h => by have := hf _ _ h; omega)]
      · rw [r2 id (fun j => hid _), l2 id (fun j => hid _)]
    cases v with
    | none =>
      obtain ⟨a1, a2, a3⟩ := rest base
      refine ⟨fun j => ?_, a3⟩
      cases j with
      | zero => exact a1
      | succ j => rw [Tr.get_s]; exact a2 j
    | some o =>
      obtain ⟨a1, a2, a3⟩ := rest (upd base (f 0) (some o))
      refine ⟨fun j => ?_, fun id hid => ?_⟩
      · cases j with
        | zero => exact a1.trans (upd_same _ _ _)
        | succ j =>
          rw [Tr.get_s]
          refine (a2 j).trans ?_
          rw [upd_ne _ _ (fun h => by have := hf _ _ h; omega)]
      · exact (a3 id hid).trans (upd_ne _ _ (fun h => hid 0 h.symm))
theorem put_toL_id (t : Tr) (base : Nat → Option Ob) : put base (t.toL fun j => j) = over t base := by
  funext id
  exact (put_toL t (fun j => j) base (fun _ _ h => h)).1 id
def setL (t : Tr) : List (Nat × Ob) → Tr
  | [] => t
  | (id, o) :: r => setL (t.set id o) r
theorem over_set (t : Tr) (base : Nat → Option Ob) (k : Nat) (o : Ob) : over (t.set k o) base = upd (over t base) k (some o) := by
  funext id
  simp only [over, upd, Tr.get_set]
  by_cases h : id = k
  · rw [if_pos h, if_pos h]
  · rw [if_neg h, if_neg h]
theorem over_setL : ∀ (l : List (Nat × Ob)) (t : Tr) (base : Nat → Option Ob), over (setL t l) base = put (over t base) l := by
  intro l
  induction l with
  | nil => intro t base; rfl
  | cons p r ih => intro t base; obtain ⟨k, o⟩ := p; simp only [setL, put]; rw [ih, over_set]
end Go.Vm


namespace Go.Vm
open Go.RowKit
variable {P : Program} {T : TT} {c : Ctx} {e eb : Env} {of of' : Nat → Option Ob}
set_option linter.unusedVariables false
set_option linter.constructorNameAsVariable false

/-! ### States -/
structure St where
  sl : List (Nat × A)
  ob : Tr
  rd : List Nat
  nx : Nat
  mks : Option (List Nat)
def getSc : List (Nat × A) → Nat → A
  | [], _ => .x
  | (k, v) :: r, t => bif Nat.beq k t then v else getSc r t
/-- (By recursors: quick for the kernel.) -/
noncomputable def getS (l : List (Nat × A)) (t : Nat) : A := List.rec (motive := fun _ => A) A.x (fun p _ ih => Bool.rec (motive := fun _ => A) ih p.2 (Nat.beq p.1 t)) l
theorem getS_eq_c : @getS = @getSc := by
  funext l t
  induction l with
  | nil => rfl
  | cons p r ih =>
    obtain ⟨k, v⟩ := p
    show Bool.rec (motive := fun _ => A) (getS r t) v (Nat.beq k t) = bif Nat.beq k t then v else getSc r t
    rw [ih]
    cases Nat.beq k t <;> rfl
theorem getS_cons (k : Nat) (v : A) (r : List (Nat × A)) : getS ((k, v) :: r) = upd (getS r) k v := by
  funext t
  show Bool.rec (motive := fun _ => A) (getS r t) v (Nat.beq k t) = upd (getS r) k v t
  simp only [upd]
  by_cases h : t = k
  · subst h; rw [if_pos rfl, show Nat.beq t t = true from Nat.beq_refl t]
  · rw [if_neg h]
    have : Nat.beq k t = false := by
      rw [← Bool.not_eq_true]; intro q; exact h (Nat.eq_of_beq_eq_true q).symm
    rw [this]
def mem (t : Nat) : List Nat → Bool
  | [] => false
  | k :: r => Nat.beq k t || mem t r
theorem mem_iff {t : Nat} {l : List Nat} : mem t l = true ↔ t ∈ l := by
  induction l with
  | nil => simp [mem]
  | cons k r ih =>
    simp only [mem, Bool.or_eq_true, ih, List.mem_cons]
    constructor
    · rintro (h | h)
      · exact .inl (Nat.eq_of_beq_eq_true h).symm
      · exact .inr h
    · rintro (h | h)
      · subst h; exact .inl (Nat.beq_refl t)
      · exact .inr h
/-- What of all that was there before was read. -/
def addR (ob : Tr) : List Nat → List Nat → List Nat
  | [], rd => rd
  | id :: r, rd => match ob.get id with
    | some _ => addR ob r rd
    | none => bif mem id rd then addR ob r rd else addR ob r (id :: rd)
theorem addR_mono (ob : Tr) : ∀ (l rd : List Nat), ∀ id ∈ rd, id ∈ addR ob l rd := by
  intro l
  induction l with
  | nil => intro rd id h; exact h
  | cons k r ih =>
    intro rd id h
    simp only [addR]
    cases ob.get k with
    | some o => exact ih _ _ h
    | none =>
      cases mem k rd with
      | true => exact ih _ _ h
      | false => exact ih _ _ (List.mem_cons_of_mem _ h)
theorem addR_mem (ob : Tr) : ∀ (l rd : List Nat), ∀ id ∈ l, (∃ o, ob.get id = some o) ∨ id ∈ addR ob l rd := by
  intro l
  induction l with
  | nil => intro rd id h; cases h
  | cons k r ih =>
    intro rd id h
    rcases List.mem_cons.1 h with rfl | h
    · cases hk : ob.get id with
      | some o => exact .inl ⟨o, rfl⟩
      | none =>
        right
        simp only [addR, hk]
        cases hm : mem id rd with
        | true => exact addR_mono _ _ _ _ (mem_iff.1 hm)
        | false => exact addR_mono _ _ _ _ (List.mem_cons_self ..)
    · simp only [addR]
      cases hk : ob.get k with
      | some o => exact ih _ _ h
      | none =>
        cases mem k rd with
        | true => exact ih _ _ h
        | false => exact ih _ _ h

/-- The marks that ranges over functions have left among an activation's deferred calls: in a round there are none. -/
inductive MarksL (e : Env) : List Nat → List Deferred → Prop
  | nil : MarksL e [] []
  | cons {id b l ds} : e.U id → e.bn id = 0 → e.ι id = some (b, 0) → MarksL e l ds → MarksL e (id :: l) ({ target := .collected b, args := #[] } :: ds)
def Marks (e : Env) (rd : Option Nat) : Option (List Nat) → List Deferred → Prop
  | none, ds => ds = []
  | some l, ds => rd = none ∧ MarksL e l ds
theorem MarksL.mono {e e' : Env} (he : e.le e') {l : List Nat} {ds : List Deferred} (h : MarksL e l ds) : MarksL e' l ds := by
  induction h with
  | nil => exact .nil
  | cons h1 h2 h3 _ ih =>
    have h0 := he.box _ h1 h2
    exact .cons (he.use _ h1) h0 (by rw [(he.obj _ h1 (by omega)).1]; exact h3) ih
theorem Marks.mono {e e' : Env} (he : e.le e') {rd : Option Nat} {l : Option (List Nat)} {ds : List Deferred} (h : Marks e rd l ds) : Marks e' rd l ds := by
  cases l with
  | none => exact h
  | some l => exact ⟨h.1, h.2.mono he⟩
/-- How the machine stands to a state. -/
structure Stands (T : TT) (c : Ctx) (eb : Env) (sl : Nat → A) (of : Nat → Option Ob) (U : Nat → Prop) (nt : Nat) (mk : Option (List Nat)) (a : Act) (e : Env) : Prop where
  os : OSim T c e of
  le : eb.le e
  U : ∀ id, e.U id → U id
  sl : ∀ t, Rep T e (sl t) (a.tmps.getD t undef)
  def_ : Marks e c.rd mk a.defers
  nt : a.tmps.size = nt
def Sim (T : TT) (c : Ctx) (eb : Env) (of : Nat → Option Ob) (n0 nt : Nat) (σ : St) (a : Act) (w : World) : Prop :=
  ∃ e, e.w = w ∧ Stands T c eb (getS σ.sl) (over σ.ob of) (fun id => eb.U id ∨ (n0 ≤ id ∧ id < σ.nx)) nt σ.mks a e

/-! ### Operations of a region -/
structure Ent where
  dst : Option Nat
  val : A
  wo : List (Nat × Ob)
  rs : List Nat
  ro : List Nat
  lo : Nat
  hi : Nat
def Ent.mk1 (o : Oper) (rs : List Nat) (nx : Nat) (out : Eff) : Ent := ⟨o.dst, out.val, out.wo, rs, out.ro, nx, out.nx⟩
def Ent.skip (o : Oper) (rs : List Nat) (nx : Nat) : Ent := ⟨o.dst, .t [], [], rs, [], nx, nx⟩
def entOp (T : TT) (K : KS) (ops : Array Oper) (sl : Nat → A) (of : Nat → Option Ob) (nx : Nat) (o : Oper) : Option Ent :=
  match o.guard with
  | none => match stepOp T K (evO sl) of nx o with
    | some out => if Nat.ble nx out.nx then some (.mk1 o (o.looksAt ops) nx out) else none
    | none => none
  | some (g, want) => match (ops[g]?).bind (·.dst) with
    | some d => match sl d with
      | .t _ => some (.skip o (o.looksAt ops) nx)
      | .b q => if q = want then (match stepOp T K (evO sl) of nx o with
          | some out => if Nat.ble nx out.nx then some (.mk1 o (o.looksAt ops) nx out) else none
          | none => none) else some (.skip o (o.looksAt ops) nx)
      | _ => none
    | none => none
theorem stepOp_congr {K : KS} {of : Nat → Option Ob} {nx : Nat} {o : Oper} {ev ev' : Operand → A} (h : ∀ x ∈ o.op.operands, ev x = ev' x) : stepOp T K ev of nx o = stepOp T K ev' of nx o := by
  obtain ⟨dst, op, ty, pos, after, guard⟩ := o
  have hp : ∀ (ps : Array (Nat × Operand)), (∀ x ∈ (ps.toList.map (·.2)).toArray, ev x = ev' x) → partsA ev ps.toList = partsA ev' ps.toList := fun ps hps => by
    unfold partsA
    apply List.map_congr_left
    intro p hpm
    rw [hps p.2 (by simpa using ⟨p.1, by simpa using hpm⟩)]
  cases op <;> simp only [stepOp] <;> simp only [Op.operands] at h
  case move x => rw [h x (by simp)]
  case assign x => rw [h x (by simp)]
  case pick q a b => rw [h q (by simp), h a (by simp), h b (by simp)]
  case box el x => rw [h x (by simp)]
  case build t parts => rw [hp parts h]
  case buildSlice t len parts => rw [hp parts h]
  case load t a => rw [h a (by simp)]
  case store t a x => rw [h a (by simp), h x (by simp)]
  case sliceToArrayPointer t x => rw [h x (by simp)]
  case nilCheck x => rw [h x (by simp)]
  case binOp op t x y t2 => rw [h x (by simp), h y (by simp)]
  case unOp op t x => rw [h x (by simp)]
  case convert s t x => rw [h x (by simp)]
  case makeFunc fn first captured =>
    have : captured.toList.map ev = captured.toList.map ev' := List.map_congr_left (fun x hx => h x (by simp; exact .inr (by simpa using hx)))
    rw [this]
  case makeSlice t l k => rw [h l (by simp), h k (by simp)]
  case makeMap t r =>
    have e1 : r.map ev = r.map ev' := by cases r with | none => rfl | some y => simp only [Option.map_some]; rw [h y (by simp)]
    rw [e1]
  case lookup t m k ok => rw [h m (by simp), h k (by simp)]
  case mapUpdate t m k v => rw [h m (by simp), h k (by simp), h v (by simp)]
  case insert t m k v => rw [h m (by simp), h k (by simp), h v (by simp)]
  case slice t x lo hi mx =>
    have e1 : lo.map ev = lo.map ev' := by cases lo with | none => rfl | some y => simp only [Option.map_some]; rw [h y (by simp)]
    have e2 : hi.map ev = hi.map ev' := by cases hi with | none => rfl | some y => simp only [Option.map_some]; rw [h y (by simp)]
    have e3 : mx.map ev = mx.map ev' := by cases mx with | none => rfl | some y => simp only [Option.map_some]; rw [h y (by simp)]
    rw [h x (by simp), e1, e2, e3]
  case fieldAddr s x f => rw [h x (by simp)]
  case field s x f => rw [h x (by simp)]
  case indexAddr t x ix => rw [h x (by simp), h ix (by simp)]
  case index t x ix => rw [h x (by simp), h ix (by simp)]
  case extract x i => rw [h x (by simp)]
  case range t x => rw [h x (by simp)]
  case next x str => rw [h x (by simp)]
  case call k =>
    have e1 : ∀ x ∈ k.args, ev x = ev' x := fun x hx => h x (by unfold Call.operands; simp [hx])
    have e2 : k.args.toList.map ev = k.args.toList.map ev' := List.map_congr_left (fun x hx => e1 x (by simpa using hx))
    unfold callA
    split
    · rename_i f hk
      rw [h f (by unfold Call.operands; simp [hk]), e2]
    · split
      · rename_i hx; rw [e1 _ (by have := arr1 hx; rw [this]; simp)]
      · rfl
    · split
      · rename_i hx; rw [e1 _ (by have := arr1 hx; rw [this]; simp)]
      · rfl
    · split
      · rename_i hx; rw [e1 _ (by have := arr2 hx; rw [this]; simp), e1 _ (by have := arr2 hx; rw [this]; simp)]
      · rfl
    · split
      · rename_i hx; rw [e1 _ (by have := arr2 hx; rw [this]; simp), e1 _ (by have := arr2 hx; rw [this]; simp)]
      · rfl
    · split
      · rename_i hx; rw [e1 _ (by have := arr2 hx; rw [this]; simp), e1 _ (by have := arr2 hx; rw [this]; simp)]
      · rfl
    · split
      · rename_i hx; rw [e1 _ (by have := arr2 hx; rw [this]; simp), e1 _ (by have := arr2 hx; rw [this]; simp)]
      · rfl
    · split
      · rename_i hx; rw [e1 _ (by have := arr2 hx; rw [this]; simp), e1 _ (by have := arr2 hx; rw [this]; simp)]
      · rfl
    · rfl
/-- The fence that asks nothing, in a round or out of rounds. -/
abbrev WF (rd : Option Nat) : Fence := { Fence.wide with round := rd }
theorem wpI_mono {rd : Option Nat} {m : Nat} {cd : Code} {Q Q' : Exit → Act → World → Prop} {a : Act} {w : World} (hq : ∀ e a w, Q e a w → Q' e a w) (h : cd.wpIn (WF rd) m P Q a w) : cd.wpIn (WF rd) m P Q' a w := wpIn_mono h hq
theorem callsIn_wf {rd : Option Nat} {m : Nat} {f : FuncId} {args : Array Value} {w : World} {R : Ending → World → Prop} (h : Calls P f args w R) : CallsIn (WF rd) m P f args w R := (callsIn_wide (n := m)).2 h
theorem roundIn_wf {rd : Option Nat} {m l : Nat} {f : FuncId} {tmps : Array Value} {asg body : Code} {w : World} {R : Ending → World → Prop} (h : RoundIn Fence.wide 0 P l f tmps asg body w R) : RoundIn (WF rd) m P l f tmps asg body w R := by
  refine ⟨trivial, fun c cs hr => ?_⟩
  exact h.2 c cs (by intro d hd; cases hd)
theorem wpIn_of_does {rd : Option Nat} {m : Nat} {o : Oper} {a : Act} {w : World} {next : Act → World → Prop} {Q : Exit → Act → World → Prop} {R : Value → World → Prop} (hd : ∀ c, o.op ≠ .defer c)
    (h : Does P (execOp a.eval o) w R) (hn : ∀ x w', R x w' → next (a.put o.dst x) w') : o.wpIn (WF rd) m P a w next Q := by
  refine ⟨fun _ _ => trivial, ?_⟩
  rw [Oper.semAt_eq _ _ _ hd]
  rcases h with ⟨x, w', h, hr⟩ | ⟨w', h, hr⟩ | ⟨f, args, w1, h, hc⟩ | ⟨l, f, tmps, asg, body, w1, h, hc⟩
  · rw [h]; exact hn _ _ hr
  · rw [h]; exact hn _ _ hr
  · rw [h]
    refine ⟨fun q => (by cases q), CallsIn.mono (callsIn_wf hc) fun en w' he => ?_⟩
    obtain ⟨x, rfl, hr⟩ := he
    exact hn _ _ hr
  · rw [h]
    refine ⟨fun q => (by cases q), (roundIn_wf hc).mono fun en w' he => ?_⟩
    obtain ⟨x, rfl, hr⟩ := he
    exact hn _ _ hr
theorem stepOp_defer {K : KS} {ev : Operand → A} {nx : Nat} {o : Oper} {E : Eff} (h : stepOp T K ev of nx o = some E) : ∀ c, o.op ≠ .defer c := by
  intro c hc
  unfold stepOp at h
  rw [hc] at h
  cases h
/-- An operation's part, from where all that it looks at is as it was. -/
theorem entOp_ok {rd : Option Nat} {m : Nat} (hT : TOK T P) {K : KS} (hK : KOK P T K) {ops : Array Oper} {Q : Exit → Act → World → Prop} {i : Nat} {o : Oper} (hi : ops[i]? = some o) {sl : Nat → A} {nx : Nat} {E : Ent} {a : Act} (h : OSim T c e of') (hr : entOp T K ops sl of nx o = some E)
    (ho : ∀ id ∈ E.ro, of' id = of id) (hu : ∀ id, E.lo ≤ id → id < E.hi → ¬ e.U id) (hs : ∀ t ∈ E.rs, Rep T e (sl t) (a.tmps.getD t undef)) {K' : Act → World → Prop}
    (hK' : ∀ x w', LeftN T c e of' E.lo ⟨E.val, E.wo, E.ro, E.hi⟩ x w' → K' (a.put E.dst x) w') : wpOpIn (WF rd) m P ops Q i K' a e.w := by
  have go : (match stepOp T K (evO sl) of nx o with
      | some out => if Nat.ble nx out.nx then some (Ent.mk1 o (o.looksAt ops) nx out) else none
      | none => none) = some E → Region.wanted o (yielded ops a.tmps) = true → wpOpIn (WF rd) m P ops Q i K' a e.w := by
    intro hg hw
    split at hg <;> try (cases hg; done)
    rename_i out hst
    split at hg <;> try (cases hg; done)
    injection hg with hg; subst hg
    unfold wpOpIn
    simp only [hi, hw, if_true]
    have hmem : ∀ t, .tmp t ∈ o.op.operands → t ∈ o.looksAt ops := fun t ht => by
      unfold Oper.looksAt
      refine List.mem_append_left _ (List.mem_filterMap.2 ⟨.tmp t, by simpa using ht, rfl⟩)
    rw [stepOp_congr (ev' := evO fun t => if t ∈ o.looksAt ops then sl t else .x) (fun x hx => by
      cases x with
      | tmp t => simp only [evO]; rw [if_pos (hmem t hx)]
      | _ => rfl)] at hst
    refine (wpIn_of_does (stepOp_defer hst) (stepOp_ok hT hK h hst ho hu (fun _ => rfl) (fun x => evO_ok (fun t ht => ?_))) (fun x w' hl => hK' x w' hl))
    subst ht
    split
    · rename_i hin; exact hs t hin
    · trivial
  have skip : E = Ent.skip o (o.looksAt ops) nx → Region.wanted o (yielded ops a.tmps) = false → wpOpIn (WF rd) m P ops Q i K' a e.w := by
    intro hE hw
    subst hE
    unfold wpOpIn
    simp only [hi, hw, Bool.false_eq_true, if_false]
    refine ⟨fun _ _ => trivial, ?_⟩
    exact hK' undef e.w ⟨e, rfl, h, Env.le.refl e, fun _ hu => .inl hu, ⟨#[], rfl, rfl, fun i v x hv => by simp at hv⟩⟩
  have hrs : E.rs = o.looksAt ops := by
    unfold entOp at hr
    repeat' split at hr
    all_goals first | (cases hr; done) | (injection hr with hr; subst hr; rfl)
  rw [hrs] at hs
  unfold entOp at hr
  split at hr
  · rename_i hg
    exact go hr (by simp [Region.wanted, hg])
  · rename_i g want hg
    split at hr <;> try (cases hr; done)
    rename_i d hd
    have hdm : d ∈ o.looksAt ops := by simp [Oper.looksAt, hg, hd]
    have hsd := hs d hdm
    split at hr <;> try (cases hr; done)
    · rename_i l hl
      injection hr with hr
      refine skip hr.symm ?_
      rw [hl] at hsd
      obtain ⟨xs, hxs, _⟩ := hsd
      have : yielded ops a.tmps g = none := by
        unfold yielded
        rw [hd]
        simp only [Option.bind_some]
        cases hx : a.tmps[d]? with
        | none => rfl
        | some v =>
          have : a.tmps.getD d undef = v := by simp [hx]
          rw [this] at hxs; subst hxs; rfl
      simp [Region.wanted, hg, this]
    · rename_i q hq
      rw [hq] at hsd
      have hv := rep_b_inv hsd
      have hy : yielded ops a.tmps g = some q := by
        unfold yielded
        rw [hd]
        simp only [Option.bind_some]
        cases hx : a.tmps[d]? with
        | none => simp [hx, undef] at hv
        | some v =>
          have : a.tmps.getD d undef = v := by simp [hx]
          rw [this] at hv; subst hv; rfl
      split at hr
      · rename_i hqw
        exact go hr (by simp [Region.wanted, hg, hy, hqw])
      · rename_i hqw
        injection hr with hr
        exact skip hr.symm (by simp [Region.wanted, hg, hy, hqw])
theorem entOp_lo {K : KS} {ops : Array Oper} {sl : Nat → A} {nx : Nat} {o : Oper} {E : Ent} (hr : entOp T K ops sl of nx o = some E) : E.lo = nx ∧ nx ≤ E.hi ∧ E.dst = o.dst ∧ E.rs = o.looksAt ops := by
  unfold entOp at hr
  repeat' split at hr
  all_goals first | (cases hr; done) | (injection hr with hr; subst hr; exact ⟨rfl, Nat.le_refl _, rfl, rfl⟩) | (rename_i hb; injection hr with hr; subst hr; exact ⟨rfl, Nat.le_of_ble_eq_true hb, rfl, rfl⟩)
end Go.Vm


namespace Go.Vm
open Go.RowKit
variable {P : Program} {T : TT} {c : Ctx} {e eb : Env} {of of' : Nat → Option Ob}

/-! ### Writings -/
section
variable {β : Type}
def wr (f : Nat → β) : List (Nat × β) → Nat → β
  | [] => f
  | (k, v) :: r => wr (upd f k v) r
def keys (l : List (Nat × β)) : List Nat := l.map (·.1)
theorem wr_other : ∀ (l : List (Nat × β)) (f : Nat → β) (t : Nat), t ∉ keys l → wr f l t = f t := by
  intro l
  induction l with
  | nil => intro f t _; rfl
  | cons p r ih =>
    intro f t h
    obtain ⟨k, v⟩ := p
    simp only [keys, List.map_cons, List.mem_cons, not_or] at h
    simp only [wr]
    rw [ih _ _ h.2, upd_ne _ _ h.1]
theorem wr_local : ∀ (l : List (Nat × β)) (f g : Nat → β) (t : Nat), (t ∉ keys l → f t = g t) → wr f l t = wr g l t := by
  intro l
  induction l with
  | nil => intro f g t h; exact h (by simp [keys])
  | cons p r ih =>
    intro f g t h
    obtain ⟨k, v⟩ := p
    simp only [wr]
    refine ih _ _ t (fun ht => ?_)
    by_cases hk : t = k
    · subst hk; simp
    · rw [upd_ne _ _ hk, upd_ne _ _ hk]
      exact h (by simp only [keys, List.map_cons, List.mem_cons, not_or]; exact ⟨hk, ht⟩)
theorem wr_comm (f : Nat → β) (l m : List (Nat × β)) (h : ∀ t, t ∈ keys l → t ∉ keys m) : wr (wr f l) m = wr (wr f m) l := by
  funext t
  by_cases ht : t ∈ keys l
  · rw [wr_other m _ _ (h t ht)]
    exact wr_local l _ _ t (fun h' => absurd ht h')
  · rw [wr_other l _ _ ht]
    exact wr_local m _ _ t (fun _ => wr_other l _ _ ht)
def foldW (D : Nat → Bool) : Nat → List (List (Nat × β)) → (Nat → β) → Nat → β
  | _, [], f => f
  | k, l :: r, f => foldW D (k + 1) r (if D k then wr f l else f)
theorem foldW_wr (D : Nat → Bool) (m : List (Nat × β)) : ∀ (Ls : List (List (Nat × β))) (k : Nat) (f : Nat → β), (∀ q l, Ls[q]? = some l → D (k + q) = true → ∀ t, t ∈ keys m → t ∉ keys l) →
    foldW D k Ls (wr f m) = wr (foldW D k Ls f) m := by
  intro Ls
  induction Ls with
  | nil => intro k f _; rfl
  | cons l r ih =>
    intro k f h
    simp only [foldW]
    have hr := fun f => ih (k + 1) f (fun q l' hq hD => h (q + 1) l' (by simpa using hq) (by rw [← hD]; congr 1; omega))
    by_cases hD : D k = true
    · rw [if_pos hD, if_pos hD, ← hr, wr_comm _ _ _ (h 0 l rfl hD)]
    · rw [if_neg hD, if_neg hD, hr]
theorem foldW_congr {D D' : Nat → Bool} : ∀ (Ls : List (List (Nat × β))) (k : Nat) (f : Nat → β), (∀ q, q < Ls.length → D (k + q) = D' (k + q)) → foldW D k Ls f = foldW D' k Ls f := by
  intro Ls
  induction Ls with
  | nil => intro k f _; rfl
  | cons l r ih =>
    intro k f h
    simp only [foldW]
    rw [show D k = D' k from h 0 (by simp), ih (k + 1) _ (fun q hq => by have := h (q + 1) (by simpa using hq); rwa [show k + (q + 1) = k + 1 + q by omega] at this)]
theorem foldW_insert {D : Nat → Bool} : ∀ (Ls : List (List (Nat × β))) (k p : Nat) (f : Nat → β) (l : List (Nat × β)), Ls[p]? = some l → D (k + p) = false → (∀ q l', p < q → Ls[q]? = some l' → D (k + q) = true → ∀ t, t ∈ keys l → t ∉ keys l') →
    foldW (fun j => j == k + p || D j) k Ls f = wr (foldW D k Ls f) l := by
  intro Ls
  induction Ls with
  | nil => intro k p f l h; simp at h
  | cons l0 r ih =>
    intro k p f l h hD hd
    cases p with
    | zero =>
      simp only [List.getElem?_cons_zero, Option.some.injEq] at h
      subst h
      simp only [Nat.add_zero] at hD
      simp only [foldW, Nat.add_zero, beq_self_eq_true, Bool.true_or, if_true, hD, Bool.false_eq_true, if_false]
      rw [foldW_congr (D' := D) r (k + 1) _ (fun q _ => by
        have : (k + 1 + q == k) = false := by simp; omega
        simp [this])]
      exact foldW_wr D l0 r (k + 1) f (fun q l' hq hD' => hd (q + 1) l' (by omega) (by simpa using hq) (by rw [← hD']; congr 1; omega))
    | succ p =>
      have hk : (k == k + (p + 1)) = false := by simp
      simp only [foldW, hk, Bool.false_or]
      have := ih (k + 1) p (if D k then wr f l0 else f) l (by simpa using h) (by rw [← hD]; congr 1; omega) (fun q l' hpq hq hD' => hd (q + 1) l' (by omega) (by simpa using hq) (by rw [← hD']; congr 1; omega))
      rw [← this]
      refine foldW_congr r (k + 1) _ (fun q _ => ?_)
      rw [show k + 1 + p = k + (p + 1) by omega]
theorem foldW_read {D D' : Nat → Bool} {t : Nat} : ∀ (Ls : List (List (Nat × β))) (k : Nat) (f g : Nat → β), f t = g t → (∀ q l, Ls[q]? = some l → t ∈ keys l → D (k + q) = D' (k + q)) → foldW D k Ls f t = foldW D' k Ls g t := by
  intro Ls
  induction Ls with
  | nil => intro k f g h _; exact h
  | cons l r ih =>
    intro k f g h hd
    simp only [foldW]
    refine ih (k + 1) _ _ ?_ (fun q l' hq ht => by have := hd (q + 1) l' (by simpa using hq) ht; rwa [show k + (q + 1) = k + 1 + q by omega] at this)
    by_cases ht : t ∈ keys l
    · have := hd 0 l rfl ht
      rw [Nat.add_zero] at this
      rw [this]
      by_cases hD : D' k = true
      · rw [if_pos hD, if_pos hD]; exact wr_local l _ _ t (fun h' => absurd ht h')
      · rw [if_neg hD, if_neg hD]; exact h
    · have h1 : (if D k = true then wr f l else f) t = f t := by split; exact wr_other l _ _ ht; rfl
      have h2 : (if D' k = true then wr g l else g) t = g t := by split; exact wr_other l _ _ ht; rfl
      rw [h1, h2, h]
theorem foldW_none {D : Nat → Bool} : ∀ (Ls : List (List (Nat × β))) (k : Nat) (f : Nat → β), (∀ j, k ≤ j → D j = false) → foldW D k Ls f = f := by
  intro Ls
  induction Ls with
  | nil => intro k f _; rfl
  | cons l r ih => intro k f h; simp only [foldW]; rw [h k (Nat.le_refl _)]; exact ih (k + 1) f (fun j hj => h j (by omega))
theorem foldW_prefix : ∀ (Ls : List (List (Nat × β))) (k p : Nat) (f : Nat → β), foldW (fun j => decide (j < k + p)) k Ls f = (Ls.take p).foldl wr f := by
  intro Ls
  induction Ls with
  | nil => intro k p f; simp [foldW]
  | cons l r ih =>
    intro k p f
    cases p with
    | zero => simp only [List.take_zero, List.foldl_nil, Nat.add_zero]; exact foldW_none _ _ _ (fun j hj => by simp; omega)
    | succ p =>
      simp only [foldW, List.take_succ_cons, List.foldl_cons]
      rw [if_pos (by simp), ← ih (k + 1) p]
      refine foldW_congr r (k + 1) _ (fun q _ => ?_)
      rw [show k + (p + 1) = k + 1 + p by omega]
end
end Go.Vm


namespace Go.Vm
open Go.RowKit
variable {P : Program} {T : TT} {c : Ctx} {e eb : Env} {of of' : Nat → Option Ob}
set_option linter.unusedVariables false
set_option linter.constructorNameAsVariable false

def wS (E : Ent) : List (Nat × A) :=
  match E.dst with
  | some d => [(d, E.val)]
  | none => []
def wO (E : Ent) : List (Nat × Option Ob) := E.wo.map fun p => (p.1, some p.2)
/-- A number, told. -/
def seeN {α : Type} (n : Nat) (k : Nat → α) : α := Nat.rec (k 0) (fun m _ => k (Nat.succ m)) n
theorem seeN_eq {α : Type} (n : Nat) (k : Nat → α) : seeN n k = k n := by cases n <;> rfl
def seeI {α : Type} (i : Int) (k : Int → α) : α :=
  match i with
  | .ofNat n => seeN n fun n => k (.ofNat n)
  | .negSucc n => seeN n fun n => k (.negSucc n)
theorem seeI_eq {α : Type} (i : Int) (k : Int → α) : seeI i k = k i := by
  cases i with
  | ofNat n => exact seeN_eq n fun n => k (.ofNat n)
  | negSucc n => exact seeN_eq n fun n => k (.negSucc n)
def seeA {α : Type} (a : A) (k : A → α) : α :=
  match a with
  | .i kd n => seeI n fun n => k (.i kd n)
  | .b q => match q with
    | true => k (.b true)
    | false => k (.b false)
  | a => k a
theorem seeA_eq {α : Type} (a : A) (k : A → α) : seeA a k = k a := by
  cases a with
  | i kd n => exact seeI_eq n fun n => k (.i kd n)
  | b q => cases q <;> rfl
  | _ => rfl
def seeL {α β : Type} (l : List β) (k : List β → α) : α :=
  match l with
  | [] => k []
  | a :: r => k (a :: r)
theorem seeL_eq {α β : Type} (l : List β) (k : List β → α) : seeL l k = k l := by cases l <;> rfl
def St.app (σ : St) (E : Ent) : St :=
  { sl := match E.dst with
      | some d => (d, E.val) :: σ.sl
      | none => σ.sl
    ob := setL σ.ob E.wo, rd := addR σ.ob E.ro σ.rd, nx := E.hi, mks := σ.mks }
theorem put_wr : ∀ (l : List (Nat × Ob)) (f : Nat → Option Ob), put f l = wr f (l.map fun p => (p.1, some p.2)) := by
  intro l
  induction l with
  | nil => intro f; rfl
  | cons p r ih => intro f; exact ih _
theorem getS_app (σ : St) (E : Ent) : getS (σ.app E).sl = wr (getS σ.sl) (wS E) := by
  unfold St.app wS
  cases E.dst with
  | none => rfl
  | some d => exact getS_cons _ _ _
theorem over_app (σ : St) (E : Ent) (of : Nat → Option Ob) : over (σ.app E).ob of = wr (over σ.ob of) (wO E) := by
  show over (setL σ.ob E.wo) of = _
  rw [over_setL, put_wr]; rfl
theorem Stands.step {sl : Nat → A} {U : Nat → Prop} {nt : Nat} {mk : Option (List Nat)} {a : Act} (h : Stands T c eb sl of U nt mk a e) {E : Ent} {x : Value} {w' : World} (hl : LeftN T c e of E.lo ⟨E.val, E.wo, E.ro, E.hi⟩ x w') (hd : ∀ d, E.dst = some d → d < nt) :
    ∃ e', e'.w = w' ∧ Stands T c eb (wr sl (wS E)) (wr of (wO E)) (fun id => U id ∨ (E.lo ≤ id ∧ id < E.hi)) nt mk (a.put E.dst x) e' := by
  obtain ⟨e', q1, q2, q3, q4, q5⟩ := hl
  refine ⟨e', q1, ?_⟩
  have q2' : OSim T c e' (wr of (wO E)) := by
    have q2 : OSim T c e' (put of E.wo) := q2
    rw [put_wr] at q2; exact q2
  refine ⟨q2', h.le.trans q3, fun id hid => (q4 id hid).imp (h.U id) (fun q => q), fun t => ?_, ?_, ?_⟩
  · unfold wS
    cases hdst : E.dst with
    | none => exact (h.sl t).mono q3
    | some d =>
      have hdl : d < a.tmps.size := by rw [h.nt]; exact hd d hdst
      show Rep T e' (upd sl d E.val t) ((a.tmps.setIfInBounds d x).getD t undef)
      by_cases ht : t = d
      · subst ht
        rw [upd_same]
        have : (a.tmps.setIfInBounds t x).getD t undef = x := by simp [hdl]
        rw [this]; exact q5
      · rw [upd_ne _ _ ht]
        have : (a.tmps.setIfInBounds d x).getD t undef = a.tmps.getD t undef := by simp [Array.getElem?_setIfInBounds_ne (Ne.symm ht)]
        rw [this]; exact (h.sl t).mono q3
  · cases E.dst <;> exact h.def_.mono q3
  · cases E.dst with
    | none => exact h.nt
    | some d => show (a.tmps.setIfInBounds d x).size = nt; rw [Array.size_setIfInBounds]; exact h.nt

/-! ### A region, as its text stands -/
def okDst (nt : Nat) (o : Oper) : Bool :=
  match o.dst with
  | some d => Nat.blt d nt
  | none => true
def runOps (T : TT) (K : KS) (ops : Array Oper) (of : Nat → Option Ob) : List Oper → St → Option (List Ent × St)
  | [], σ => some ([], σ)
  | o :: r, σ =>
    match entOp T K ops (getS σ.sl) (over σ.ob of) σ.nx o with
    | some E => seeA E.val fun v => seeN E.hi fun h => seeL (addR σ.ob E.ro σ.rd) fun rd =>
      match runOps T K ops of r { sl := match E.dst with
                                    | some d => (d, v) :: σ.sl
                                    | none => σ.sl
                                  ob := setL σ.ob E.wo, rd := rd, nx := h, mks := σ.mks } with
      | some (Es, σ') => some ({ E with val := v, hi := h } :: Es, σ')
      | none => none
    | none => none
theorem runOps_cons {K : KS} {ops : Array Oper} {of : Nat → Option Ob} {o : Oper} {r : List Oper} {σ : St} : runOps T K ops of (o :: r) σ =
    match entOp T K ops (getS σ.sl) (over σ.ob of) σ.nx o with
    | some E => (match runOps T K ops of r (σ.app E) with
      | some (Es, σ') => some (E :: Es, σ')
      | none => none)
    | none => none := by
  simp only [runOps, seeA_eq, seeN_eq, seeL_eq]
  rfl
/-- The base told of is what is there, of all that was read; and no number in use is taken. -/
structure Fits (of of' : Nat → Option Ob) (eb : Env) (n0 : Nat) (σ : St) : Prop where
  rd : ∀ id ∈ σ.rd, of' id = of id
  fr : ∀ id, n0 ≤ id → id < σ.nx → ¬ eb.U id
def St.le (σ σ' : St) : Prop := (∀ id ∈ σ.rd, id ∈ σ'.rd) ∧ σ.nx ≤ σ'.nx
theorem St.le.refl (σ : St) : σ.le σ := ⟨fun _ h => h, Nat.le_refl _⟩
theorem St.le.trans {a b c : St} (h : a.le b) (k : b.le c) : a.le c := ⟨fun id hid => k.1 id (h.1 id hid), Nat.le_trans h.2 k.2⟩
theorem Fits.mono {eb : Env} {n0 : Nat} {σ σ' : St} (h : Fits of of' eb n0 σ') (hle : σ.le σ') : Fits of of' eb n0 σ := ⟨fun id hid => h.rd id (hle.1 id hid), fun id h1 h2 => h.fr id h1 (Nat.lt_of_lt_of_le h2 hle.2)⟩
theorem app_le {K : KS} {ops : Array Oper} {sl : Nat → A} {o : Oper} {E : Ent} {σ : St} (hr : entOp T K ops sl of σ.nx o = some E) : σ.le (σ.app E) := ⟨addR_mono _ _ _, (entOp_lo hr).2.1⟩
theorem runOps_le {K : KS} {ops : Array Oper} : ∀ (l : List Oper) (σ σ' : St) (Es : List Ent), runOps T K ops of l σ = some (Es, σ') → σ.le σ' := by
  intro l
  induction l with
  | nil => intro σ σ' Es h; simp only [runOps, Option.some.injEq, Prod.mk.injEq] at h; rw [h.2]; exact St.le.refl _
  | cons o r ih =>
    intro σ σ' Es h
    rw [runOps_cons] at h
    split at h <;> try (cases h; done)
    rename_i E hE
    split at h <;> try (cases h; done)
    rename_i Es' σ2 hrec
    simp only [Option.some.injEq, Prod.mk.injEq] at h
    obtain ⟨-, rfl⟩ := h
    exact (app_le hE).trans (ih _ _ _ hrec)
theorem over_agree {ob : Tr} {rd ro : List Nat} {l : List Nat} (h : ∀ id ∈ rd, of' id = of id) (hm : ∀ id ∈ addR ob ro l, id ∈ rd) : ∀ id ∈ ro, over ob of' id = over ob of id := by
  intro id hid
  unfold over
  rcases addR_mem ob ro l id hid with ⟨o, ho⟩ | h'
  · rw [ho]
  · cases ob.get id with
    | some o => rfl
    | none => exact h id (hm id h')
theorem plain_ok {rd : Option Nat} {m : Nat} (hT : TOK T P) {K : KS} (hK : KOK P T K) {ops : Array Oper} {Q : Exit → Act → World → Prop} {n0 nt : Nat} : ∀ (l : List Oper) (k : Nat) (σ σ' : St) (Es : List Ent) (a : Act) (w : World), (∀ j, l[j]? = ops[k + j]? ∨ l.length ≤ j) → (∀ o ∈ l, okDst nt o = true) →
    runOps T K ops of l σ = some (Es, σ') → n0 ≤ σ.nx → Fits of of' eb n0 σ' → Sim T c eb of' n0 nt σ a w → (∀ a' w', Sim T c eb of' n0 nt σ' a' w' → Q .normal a' w') → wpOpsIn (WF rd) m P ops Q (List.range' k l.length) a w := by
  intro l
  induction l with
  | nil =>
    intro k σ σ' Es a w _ _ hr _ _ hs hQ
    simp only [runOps, Option.some.injEq, Prod.mk.injEq] at hr
    obtain ⟨-, rfl⟩ := hr
    exact hQ a w hs
  | cons o r ih =>
    intro k σ σ' Es a w hl hd hr hn hfit hs hQ
    have h0 : ops[k]? = some o := by
      rcases hl 0 with h | h
      · simpa using h.symm
      · simp at h
    rw [runOps_cons] at hr
    split at hr <;> try (cases hr; done)
    rename_i E hE
    split at hr <;> try (cases hr; done)
    rename_i Es' σ2 hrec
    simp only [Option.some.injEq, Prod.mk.injEq] at hr
    obtain ⟨rfl, rfl⟩ := hr
    have hle := runOps_le _ _ _ _ hrec
    obtain ⟨k1, k2, k3, k4⟩ := entOp_lo hE
    obtain ⟨e, rfl, hst⟩ := hs
    rw [List.length_cons, List.range'_succ, wpOpsIn_cons]
    refine entOp_ok hT hK h0 hst.os hE (over_agree hfit.rd hle.1) (fun id h1 h2 hu => ?_) (fun t _ => hst.sl t) (fun x w' hl' => ?_)
    · rcases hst.U id hu with h3 | h3
      · exact hfit.fr id (by omega) (Nat.lt_of_lt_of_le h2 hle.2) h3
      · omega
    · obtain ⟨e', rfl, hst'⟩ := hst.step hl' (fun d hd' => by
        have := hd o (by simp)
        unfold okDst at this
        rw [← k3, hd'] at this
        simpa [Nat.blt_eq] using this)
      refine ih (k + 1) (σ.app E) _ _ _ _ (fun j => ?_) (fun o' ho' => hd o' (by simp [ho'])) hrec (Nat.le_trans hn k2) hfit ⟨e', rfl, ?_⟩ hQ
      · rcases hl (j + 1) with h | h
        · left; simpa [Nat.add_assoc, Nat.add_comm 1 j] using h
        · right; simp at h; omega
      · rw [getS_app, over_app]
        refine ⟨hst'.os, hst'.le, fun id hid => ?_, hst'.sl, hst'.def_, hst'.nt⟩
        rcases hst'.U id hid with (h1 | h1) | h1
        · exact .inl h1
        · exact .inr ⟨h1.1, Nat.lt_of_lt_of_le h1.2 k2⟩
        · exact .inr ⟨by omega, h1.2⟩
theorem wp_plain {rd : Option Nat} {m : Nat} (hT : TOK T P) {K : KS} (hK : KOK P T K) {id : Nat} {ops : Array Oper} {Q : Exit → Act → World → Prop} {n0 nt : Nat} {σ σ' : St} {Es : List Ent} {a : Act} {w : World} (hd : ops.toList.all (okDst nt) = true) (hr : runOps T K ops of ops.toList σ = some (Es, σ')) (hn : n0 ≤ σ.nx) (hfit : Fits of of' eb n0 σ')
    (hs : Sim T c eb of' n0 nt σ a w) (hQ : ∀ a' w', Sim T c eb of' n0 nt σ' a' w' → Q .normal a' w') : (Code.region id ops false).wpIn (WF rd) m P Q a w := by
  refine wpIn_region ?_
  have := plain_ok (rd := rd) (m := m) hT hK (Q := Q) ops.toList 0 σ σ' Es a w (fun j => .inl (by simp)) (List.all_eq_true.1 hd) hr hn hfit hs hQ
  rwa [Array.length_toList, ← List.range_eq_range'] at this
end Go.Vm


namespace Go.Vm
open Go.RowKit
variable {P : Program} {T : TT} {c : Ctx} {e eb : Env} {of of' : Nat → Option Ob}
set_option linter.unusedVariables false
set_option linter.constructorNameAsVariable false

/-! ### A region in any order -/
def mask (o : Oper) (acc : List Nat) : Nat := o.after.toList.foldl (fun s e => if Region.binds .any e then s ||| 2 ^ e.on ||| acc.getD e.on 0 else s) 0
def masks : List Oper → List Nat → List Nat
  | [], acc => acc
  | o :: r, acc => masks r (acc ++ [mask o acc])
def hitS (t : Option Nat) (l : List Nat) : Bool :=
  match t with
  | some d => mem d l
  | none => false
def hitO (l : List (Nat × Ob)) (E : Ent) : Bool := l.any fun p => mem p.1 E.ro || mem p.1 (E.wo.map (·.1))
def sameD (a b : Option Nat) : Bool :=
  match a, b with
  | some x, some y => Nat.beq x y
  | _, _ => false
/-- Two operations that must keep their order. -/
def conf (A B : Ent) : Bool := hitS A.dst B.rs || hitS B.dst A.rs || sameD A.dst B.dst || hitO A.wo B || hitO B.wo A
def backward : Nat → List Oper → Bool
  | _, [] => true
  | i, o :: r => o.after.toList.all (fun e => !(Region.binds .any e) || Nat.blt e.on i) && backward (i + 1) r
theorem backward_spec : ∀ (l : List Oper) (i : Nat), backward i l = true → ∀ q o, l[q]? = some o → ∀ e ∈ o.after, Region.binds .any e = true → e.on < i + q := by
  intro l
  induction l with
  | nil => intro i _ q o h; simp at h
  | cons o0 r ih =>
    intro i h q o hq e he hb
    simp only [backward, Bool.and_eq_true, List.all_eq_true, Bool.or_eq_true, Bool.not_eq_true'] at h
    cases q with
    | zero =>
      simp only [List.getElem?_cons_zero, Option.some.injEq] at hq
      subst hq
      rcases h.1 e (Array.mem_toList_iff.2 he) with h1 | h1
      · rw [hb] at h1; cases h1
      · simpa [Nat.blt_eq] using h1
    | succ q => rw [show i + (q + 1) = i + 1 + q by omega]; exact ih (i + 1) h.2 q o (by simpa using hq) e he hb
theorem mask_spec {D : Nat → Bool} {G : Nat → Prop} (hDG : ∀ j, D j = true → G j) {acc : List Nat} (hacc : ∀ j, G j → ∀ p, (acc.getD j 0).testBit p = true → D p = true) {o : Oper} (ho : ∀ e ∈ o.after, Region.binds .any e = true → D e.on = true) :
    ∀ p, (mask o acc).testBit p = true → D p = true := by
  unfold mask
  have key : ∀ (l : List Edge) (s : Nat), (∀ e ∈ l, Region.binds .any e = true → D e.on = true) → (∀ p, s.testBit p = true → D p = true) →
      ∀ p, (l.foldl (fun s e => if Region.binds .any e then s ||| 2 ^ e.on ||| acc.getD e.on 0 else s) s).testBit p = true → D p = true := by
    intro l
    induction l with
    | nil => intro s _ hs p h; exact hs p h
    | cons e r ih =>
      intro s hl hs p h
      simp only [List.foldl_cons] at h
      refine ih _ (fun e' he' => hl e' (by simp [he'])) ?_ p h
      intro p hp
      split at hp
      · rename_i hb
        have hD := hl e (by simp) hb
        rw [Nat.testBit_or, Nat.testBit_or, Bool.or_eq_true, Bool.or_eq_true, Nat.testBit_two_pow] at hp
        rcases hp with (hp | hp) | hp
        · exact hs p hp
        · have : e.on = p := by simpa using hp
          rw [← this]; exact hD
        · exact hacc _ (hDG _ hD) p hp
      · exact hs p hp
  exact key o.after.toList 0 (fun e he => ho e (Array.mem_toList_iff.1 he)) (fun p hp => by simp at hp)
theorem masks_spec {D : Nat → Bool} {G : Nat → Prop} (hDG : ∀ j, D j = true → G j) : ∀ (l : List Oper) (acc : List Nat), (∀ j, G j → ∀ p, (acc.getD j 0).testBit p = true → D p = true) →
    (∀ q o, l[q]? = some o → G (acc.length + q) → ∀ e ∈ o.after, Region.binds .any e = true → D e.on = true) →
    ∀ j, G j → ∀ p, ((masks l acc).getD j 0).testBit p = true → D p = true := by
  intro l
  induction l with
  | nil => intro acc hacc _; exact hacc
  | cons o r ih =>
    intro acc hacc h
    refine ih (acc ++ [mask o acc]) (fun j hj p hp => ?_) (fun q o' hq => by have := h (q + 1) o' (by simpa using hq); rwa [List.length_append, List.length_singleton, show acc.length + 1 + q = acc.length + (q + 1) by omega])
    rcases Nat.lt_trichotomy j acc.length with hlt | heq | hgt
    · exact hacc j hj p (by rw [List.getD_eq_getElem?_getD, List.getElem?_append_left hlt, ← List.getD_eq_getElem?_getD] at hp; exact hp)
    · subst heq
      rw [List.getD_eq_getElem?_getD, List.getElem?_append_right (Nat.le_refl _), Nat.sub_self] at hp
      exact mask_spec hDG hacc (h 0 o rfl (by simpa using hj)) p (by simpa using hp)
    · rw [List.getD_eq_getElem?_getD, List.getElem?_eq_none (by simp; omega)] at hp
      simp at hp


/-! What the text's own order computes -/
theorem runOps_spec {K : KS} {ops : Array Oper} : ∀ (l : List Oper) (σ σ' : St) (Es : List Ent), runOps T K ops of l σ = some (Es, σ') →
    σ' = Es.foldl St.app σ ∧ Es.length = l.length ∧ ∀ (p : Nat) o, l[p]? = some o → ∃ E, Es[p]? = some E ∧ entOp T K ops (getS ((Es.take p).foldl St.app σ).sl) (over ((Es.take p).foldl St.app σ).ob of) ((Es.take p).foldl St.app σ).nx o = some E ∧ (((Es.take p).foldl St.app σ).app E).le σ' := by
  intro l
  induction l with
  | nil =>
    intro σ σ' Es h
    simp only [runOps, Option.some.injEq, Prod.mk.injEq] at h
    obtain ⟨rfl, rfl⟩ := h
    exact ⟨rfl, rfl, fun p o h => by simp at h⟩
  | cons o r ih =>
    intro σ σ' Es h
    rw [runOps_cons] at h
    split at h <;> try (cases h; done)
    rename_i E hE
    split at h <;> try (cases h; done)
    rename_i Es' σ2 hrec
    simp only [Option.some.injEq, Prod.mk.injEq] at h
    obtain ⟨rfl, rfl⟩ := h
    obtain ⟨h1, h2, h3⟩ := ih _ _ _ hrec
    refine ⟨h1, by simp [h2], fun p o' hp => ?_⟩
    cases p with
    | zero =>
      simp only [List.getElem?_cons_zero, Option.some.injEq] at hp
      subst hp
      exact ⟨E, rfl, hE, runOps_le _ _ _ _ hrec⟩
    | succ p => simpa using h3 p o' (by simpa using hp)
theorem getS_fold : ∀ (Es : List Ent) (σ : St), getS (Es.foldl St.app σ).sl = (Es.map wS).foldl wr (getS σ.sl) := by
  intro Es
  induction Es with
  | nil => intro σ; rfl
  | cons E r ih => intro σ; simp only [List.foldl_cons, List.map_cons]; rw [ih, getS_app]
theorem over_fold (of : Nat → Option Ob) : ∀ (Es : List Ent) (σ : St), over (Es.foldl St.app σ).ob of = (Es.map wO).foldl wr (over σ.ob of) := by
  intro Es
  induction Es with
  | nil => intro σ; rfl
  | cons E r ih => intro σ; simp only [List.foldl_cons, List.map_cons]; rw [ih, over_app]
/-- Numbers grow with the text. -/
theorem nx_chain {K : KS} {ops : Array Oper} {l : List Oper} {σ σ' : St} {Es : List Ent} (h : runOps T K ops of l σ = some (Es, σ')) : ∀ (p : Nat), σ.nx ≤ ((Es.take p).foldl St.app σ).nx ∧ ∀ q E, Es[q]? = some E → ((Es.take q).foldl St.app σ).nx = E.lo ∧ E.lo ≤ E.hi ∧ (q < p → E.hi ≤ ((Es.take p).foldl St.app σ).nx) := by
  obtain ⟨h1, h2, h3⟩ := runOps_spec _ _ _ _ h
  have one : ∀ q E, Es[q]? = some E → ((Es.take q).foldl St.app σ).nx = E.lo ∧ E.lo ≤ E.hi ∧ ((Es.take (q + 1)).foldl St.app σ).nx = E.hi := by
    intro q E hE
    have hq : q < l.length := by rw [← h2]; exact (List.getElem?_eq_some_iff.1 hE).1
    obtain ⟨E', g1, g2, g3⟩ := h3 q l[q] (List.getElem?_eq_getElem hq)
    rw [hE] at g1; cases g1
    obtain ⟨k1, k2, _⟩ := entOp_lo g2
    refine ⟨k1.symm, by omega, ?_⟩
    obtain ⟨hlt, hEq⟩ := List.getElem?_eq_some_iff.1 hE
    rw [List.take_succ_eq_append_getElem hlt, List.foldl_append, hEq]
    rfl
  have mono : ∀ p, ((Es.take p).foldl St.app σ).nx ≤ ((Es.take (p + 1)).foldl St.app σ).nx := by
    intro p
    cases hp : Es[p]? with
    | none =>
      have := List.getElem?_eq_none_iff.1 hp
      rw [List.take_of_length_le this, List.take_of_length_le (by omega)]
      exact Nat.le_refl _
    | some E => obtain ⟨a, b, d⟩ := one p E hp; omega
  have monos : ∀ d p, ((Es.take p).foldl St.app σ).nx ≤ ((Es.take (p + d)).foldl St.app σ).nx := by
    intro d
    induction d with
    | zero => intro p; exact Nat.le_refl _
    | succ d ih => intro p; exact Nat.le_trans (ih p) (mono (p + d))
  intro p
  refine ⟨?_, fun q E hE => ?_⟩
  · have := monos p 0
    rw [Nat.zero_add] at this
    exact this
  · obtain ⟨a, b, d⟩ := one q E hE
    refine ⟨a, b, fun hqp => ?_⟩
    have := monos (p - (q + 1)) (q + 1)
    rw [show q + 1 + (p - (q + 1)) = p by omega] at this
    omega
end Go.Vm


namespace Go.Vm
open Go.RowKit
variable {P : Program} {T : TT} {c : Ctx} {e eb : Env} {of of' : Nat → Option Ob}
set_option linter.unusedVariables false
set_option linter.constructorNameAsVariable false

theorem conf_comm (A B : Ent) : conf A B = conf B A := by
  unfold conf
  have : sameD A.dst B.dst = sameD B.dst A.dst := by
    unfold sameD
    cases A.dst <;> cases B.dst <;> first | rfl | skip
    rename_i x y
    rw [Bool.eq_iff_iff]
    show (Nat.beq x y = true) ↔ (Nat.beq y x = true)
    rw [Nat.beq_eq, Nat.beq_eq]
    exact eq_comm
  rw [this, Bool.or_comm (hitS A.dst B.rs), Bool.or_right_comm (_ || _) (hitO A.wo B)]
theorem conf_rs {A B : Ent} (h : conf A B = false) : ∀ t ∈ B.rs, t ∉ keys (wS A) := by
  intro t ht hk
  simp only [conf, Bool.or_eq_false_iff] at h
  have h1 := h.1.1.1.1
  unfold wS at hk
  unfold hitS at h1
  cases hd : A.dst with
  | none => rw [hd] at hk; simp [keys] at hk
  | some d =>
    rw [hd] at hk h1
    simp only [keys, List.map_cons, List.map_nil, List.mem_singleton] at hk
    subst hk
    simp only [] at h1
    rw [mem_iff.2 ht] at h1; cases h1
theorem conf_ws {A B : Ent} (h : conf A B = false) : ∀ t, t ∈ keys (wS A) → t ∉ keys (wS B) := by
  intro t hA hB
  simp only [conf, Bool.or_eq_false_iff] at h
  have h1 := h.1.1.2
  unfold wS at hA hB
  unfold sameD at h1
  cases hd : A.dst with
  | none => rw [hd] at hA; simp [keys] at hA
  | some d =>
    cases hd' : B.dst with
    | none => rw [hd'] at hB; simp [keys] at hB
    | some d' =>
      rw [hd] at hA h1
      rw [hd'] at hB h1
      simp only [keys, List.map_cons, List.map_nil, List.mem_singleton] at hA hB
      subst hA; subst hB
      simp at h1
theorem keys_wO (A : Ent) (t : Nat) : t ∈ keys (wO A) ↔ ∃ p ∈ A.wo, p.1 = t := by
  simp [keys, wO]
theorem conf_ro {A B : Ent} (h : conf A B = false) : ∀ t ∈ B.ro, t ∉ keys (wO A) := by
  intro t ht hk
  simp only [conf, Bool.or_eq_false_iff] at h
  have h1 := h.1.2
  obtain ⟨p, hp, rfl⟩ := (keys_wO A t).1 hk
  unfold hitO at h1
  rw [List.any_eq_false] at h1
  have := h1 p hp
  simp only [Bool.or_eq_true, mem_iff, not_or] at this
  exact this.1 ht
theorem conf_wo {A B : Ent} (h : conf A B = false) : ∀ t, t ∈ keys (wO A) → t ∉ keys (wO B) := by
  intro t hA hB
  simp only [conf, Bool.or_eq_false_iff] at h
  have h1 := h.1.2
  obtain ⟨p, hp, rfl⟩ := (keys_wO A t).1 hA
  obtain ⟨q, hq, hqp⟩ := (keys_wO B p.1).1 hB
  unfold hitO at h1
  rw [List.any_eq_false] at h1
  have := h1 p hp
  simp only [Bool.or_eq_true, mem_iff, not_or] at this
  exact this.2 (List.mem_map.2 ⟨q, hq, hqp⟩)
def left (D : Nat → Bool) (n : Nat) : Nat := ((List.range n).filter fun j => !D j).length
theorem left_lt {D : Nat → Bool} {n i : Nat} (hi : i < n) (hD : D i = false) : left (fun j => j == i || D j) n < left D n := by
  unfold left
  have key : ∀ (l : List Nat), (l.filter fun j => !(j == i || D j)).length ≤ (l.filter fun j => !D j).length ∧ (i ∈ l → (l.filter fun j => !(j == i || D j)).length < (l.filter fun j => !D j).length) := by
    intro l
    induction l with
    | nil => simp
    | cons k r ih =>
      by_cases hk : k = i
      · subst hk
        simp only [beq_self_eq_true, Bool.true_or, Bool.not_true, Bool.false_eq_true, not_false_eq_true, List.filter_cons_of_neg, hD, Bool.not_false, List.filter_cons_of_pos, List.length_cons]
        refine ⟨by omega, fun _ => by omega⟩
      · have hb : (k == i) = false := by simpa using hk
        cases hDk : D k
        · simp only [List.filter_cons, hb, hDk, Bool.false_or, Bool.not_false, if_true, List.length_cons]
          refine ⟨by omega, fun h => ?_⟩
          rcases List.mem_cons.1 h with h | h
          · exact absurd h.symm hk
          · have := ih.2 h; omega
        · simp only [List.filter_cons, hb, hDk, Bool.or_true, Bool.not_true, Bool.false_eq_true, if_false]
          refine ⟨ih.1, fun h => ?_⟩
          rcases List.mem_cons.1 h with h | h
          · exact absurd h.symm hk
          · exact ih.2 h
  exact (key _).2 (List.mem_range.2 hi)
theorem getD_any {listed : Array Bool} {i : Nat} (h : i < listed.size) : listed.getD i true = listed.getD i false := by simp [h]
theorem mks_fold : ∀ (Es : List Ent) (σ : St), (Es.foldl St.app σ).mks = σ.mks := by
  intro Es
  induction Es with
  | nil => intro σ; rfl
  | cons E r ih => intro σ; exact ih _
theorem drawn_ok {rd : Option Nat} {m : Nat} (hT : TOK T P) {K : KS} (hK : KOK P T K) {ops : Array Oper} {Q : Exit → Act → World → Prop} {n0 nt : Nat} {σ σ' : St} {Es : List Ent} (hd : ∀ o ∈ ops.toList, okDst nt o = true) (hr : runOps T K ops of ops.toList σ = some (Es, σ')) (hn : n0 ≤ σ.nx) (hfit : Fits of of' eb n0 σ') (hcb : backward 0 ops.toList = true) (hchk : ∀ (p q : Nat) (A B : Ent), q < p → Es[p]? = some B → Es[q]? = some A → conf A B = true → ((masks ops.toList []).getD p 0).testBit q = true)
    (hQ : ∀ a' w', Sim T c eb of' n0 nt σ' a' w' → Q .normal a' w') : ∀ (fuel : Nat) (listed : Array Bool) (D : Nat → Bool) (a : Act) (e : Env), listed.size = ops.size → (∀ j, j < ops.size → D j = listed.getD j false) → (∀ j, ops.size ≤ j → D j = false) → left D ops.size ≤ fuel →
      (∀ j o, D j = true → ops[j]? = some o → ∀ e ∈ o.after, Region.binds .any e = true → D e.on = true) →
      Stands T c eb (foldW D 0 (Es.map wS) (getS σ.sl)) (foldW D 0 (Es.map wO) (over σ.ob of')) (fun id => eb.U id ∨ (n0 ≤ id ∧ id < σ.nx) ∨ ∃ j E, D j = true ∧ Es[j]? = some E ∧ E.lo ≤ id ∧ id < E.hi) nt σ.mks a e →
      wpAnyIn (WF rd) m P .any ops Q fuel listed a e.w := by
  obtain ⟨hσ, hlen0, hent⟩ := runOps_spec _ _ _ _ hr
  have hnx := nx_chain hr
  have hlen : Es.length = ops.size := by rw [hlen0, Array.length_toList]
  have hback := backward_spec _ _ hcb
  have hopl : ∀ j : Nat, ops.toList[j]? = ops[j]? := fun j => Array.getElem?_toList
  -- all done
  have fin : ∀ (D : Nat → Bool) (a : Act) (e : Env), (∀ j, j < ops.size → D j = true) → Stands T c eb (foldW D 0 (Es.map wS) (getS σ.sl)) (foldW D 0 (Es.map wO) (over σ.ob of')) (fun id => eb.U id ∨ (n0 ≤ id ∧ id < σ.nx) ∨ ∃ j E, D j = true ∧ Es[j]? = some E ∧ E.lo ≤ id ∧ id < E.hi) nt σ.mks a e → Q .normal a e.w := by
    intro D a e hall hst
    refine hQ _ _ ⟨e, rfl, ?_⟩
    have e1 : foldW D 0 (Es.map wS) (getS σ.sl) = getS σ'.sl := by
      rw [hσ, getS_fold, foldW_congr (D' := fun j => decide (j < 0 + Es.length)) _ _ _ (fun q hq => by
        rw [List.length_map] at hq
        rw [Nat.zero_add, hall q (by omega)]; simp; omega), foldW_prefix, List.take_of_length_le (by simp)]
    have e2 : foldW D 0 (Es.map wO) (over σ.ob of') = over σ'.ob of' := by
      rw [hσ, over_fold, foldW_congr (D' := fun j => decide (j < 0 + Es.length)) _ _ _ (fun q hq => by
        rw [List.length_map] at hq
        rw [Nat.zero_add, hall q (by omega)]; simp; omega), foldW_prefix, List.take_of_length_le (by simp)]
    rw [e1, e2] at hst
    refine ⟨hst.os, hst.le, fun id hid => ?_, hst.sl, by rw [hσ, mks_fold]; exact hst.def_, hst.nt⟩
    rw [hσ]
    have hlast := hnx Es.length
    rw [List.take_length] at hlast
    rcases hst.U id hid with h1 | h1 | ⟨j, E, -, hE, hid', hid2⟩
    · exact .inl h1
    · exact .inr ⟨h1.1, Nat.lt_of_lt_of_le h1.2 hlast.1⟩
    · obtain ⟨q1, q2, q3⟩ := hlast.2 j E hE
      have := q3 (List.getElem?_eq_some_iff.1 hE).1
      have q4 := ((hnx j).1)
      exact .inr ⟨by omega, by omega⟩
  have ready_nil : ∀ (listed : Array Bool) (D : Nat → Bool), listed.size = ops.size → (∀ j, j < ops.size → D j = listed.getD j false) → Region.ready .any ops listed = [] → ∀ j, j < ops.size → D j = true := by
    intro listed D hsz hD hnil j
    induction j using Nat.strongRecOn with
    | ind j ih =>
      intro hj
      cases hDj : D j with
      | true => rfl
      | false =>
        have hmem : j ∈ Region.ready .any ops listed := by
          rw [mem_ready]
          refine ⟨?_, ops[j], Array.getElem?_eq_getElem hj, fun e he hb => ?_⟩
          · rw [getD_any (by rw [hsz]; exact hj), ← hD j hj]; exact hDj
          · have hlt := hback j ops[j] (by rw [hopl]; exact Array.getElem?_eq_getElem hj) e he hb
            rw [Nat.zero_add] at hlt
            rw [← hD _ (by omega)]
            exact ih _ hlt (by omega)
        rw [hnil] at hmem; cases hmem
  intro fuel
  induction fuel with
  | zero =>
    intro listed D a e hsz hD hDout hleft hdown hst
    have hall : ∀ j, j < ops.size → D j = true := by
      intro j hj
      cases hDj : D j with
      | true => rfl
      | false => have := left_lt hj hDj; omega
    refine ⟨?_, fin D a e hall hst⟩
    cases hrd : Region.ready .any ops listed with
    | nil => rfl
    | cons i r =>
      have hi : i ∈ Region.ready .any ops listed := by rw [hrd]; simp
      rw [mem_ready] at hi
      obtain ⟨h0, o, ho, -⟩ := hi
      have hlt := (Array.getElem?_eq_some_iff.1 ho).1
      have := hD i hlt
      rw [hall i hlt, ← getD_any (by rw [hsz]; exact hlt), h0] at this
      cases this
  | succ fuel ih =>
    intro listed D a e hsz hD hDout hleft hdown hst
    refine ⟨fun hnil => fin D a e (ready_nil listed D hsz hD hnil) hst, fun i hi => ?_⟩
    rw [mem_ready] at hi
    obtain ⟨h0, o, ho, hedges⟩ := hi
    have hlt := (Array.getElem?_eq_some_iff.1 ho).1
    have hDi : D i = false := by
      rw [hD i hlt, ← getD_any (by rw [hsz]; exact hlt)]; exact h0
    have hpreds : ∀ e ∈ o.after, Region.binds .any e = true → D e.on = true := fun e he hb => by
      have hl := hback i o (by rw [hopl]; exact ho) e he hb
      rw [hD _ (by omega)]; exact hedges e he hb
    obtain ⟨E, hE, hentE, hleE⟩ := hent i o (by rw [hopl]; exact ho)
    obtain ⟨k1, k2, k3, k4⟩ := entOp_lo hentE
    -- what conflicts with i is done exactly if it stands before i
    have hG := masks_spec (D := D) (G := fun j => ∀ o, ops[j]? = some o → ∀ e ∈ o.after, Region.binds .any e = true → D e.on = true) (fun j hj o ho => hdown j o hj ho) ops.toList []
      (fun j _ p hp => by simp at hp) (fun q o' hq hGq => hGq o' (by simpa using hq))
    have hord : ∀ q A, Es[q]? = some A → conf A E = true → q ≠ i → D q = decide (q < i) := by
      intro q A hA hcf hqi
      rcases Nat.lt_or_gt_of_ne hqi with hlt' | hgt
      · have := hchk i q A E hlt' hE hA hcf
        rw [hG i (fun o' ho' => by rw [ho] at ho'; cases ho'; exact hpreds) q this]; simp [hlt']
      · cases hDq : D q with
        | false => simp; omega
        | true =>
          have := hchk q i E A hgt hA hE (by rw [conf_comm]; exact hcf)
          have hq : q < ops.size := by rw [← hlen]; exact (List.getElem?_eq_some_iff.1 hA).1
          have := hG q (fun o' ho' => hdown q o' hDq ho') i this
          rw [hDi] at this; cases this
    have hreadS : ∀ t ∈ E.rs, foldW D 0 (Es.map wS) (getS σ.sl) t = getS ((Es.take i).foldl St.app σ).sl t := by
      intro t ht
      rw [getS_fold, List.map_take, ← foldW_prefix _ 0]
      refine foldW_read _ 0 _ _ rfl (fun q l hq htl => ?_)
      rw [List.getElem?_map, Option.map_eq_some_iff] at hq
      obtain ⟨A, hA, rfl⟩ := hq
      rw [Nat.zero_add, Nat.zero_add]
      by_cases hqi : q = i
      · subst hqi; rw [hDi]; simp
      · refine hord q A hA ?_ hqi
        cases hcf : conf A E with
        | true => rfl
        | false => exact absurd htl (conf_rs hcf t ht)
    have hreadO : ∀ t ∈ E.ro, foldW D 0 (Es.map wO) (over σ.ob of') t = over ((Es.take i).foldl St.app σ).ob of' t := by
      intro t ht
      rw [over_fold, List.map_take, ← foldW_prefix _ 0]
      refine foldW_read _ 0 _ _ rfl (fun q l hq htl => ?_)
      rw [List.getElem?_map, Option.map_eq_some_iff] at hq
      obtain ⟨A, hA, rfl⟩ := hq
      rw [Nat.zero_add, Nat.zero_add]
      by_cases hqi : q = i
      · subst hqi; rw [hDi]; simp
      · refine hord q A hA ?_ hqi
        cases hcf : conf A E with
        | true => rfl
        | false => exact absurd htl (conf_ro hcf t ht)
    have hlater : ∀ q A, i < q → Es[q]? = some A → D q = true → conf E A = false := by
      intro q A hq hA hDq
      cases hcf : conf E A with
      | false => rfl
      | true =>
        have := hord q A hA (by rw [conf_comm]; exact hcf) (by omega)
        rw [hDq] at this; simp at this; omega
    have hagree : ∀ id ∈ E.ro, over ((Es.take i).foldl St.app σ).ob of' id = over ((Es.take i).foldl St.app σ).ob of id := over_agree hfit.rd hleE.1
    refine entOp_ok hT hK ho hst.os hentE (fun id hid => (hreadO id hid).trans (hagree id hid)) (fun id h1 h2 hu => ?_) (fun t ht => by rw [← hreadS t ht]; exact hst.sl t) (fun x w' hl => ?_)
    · have hge := (hnx i).1
      have hhi : id < σ'.nx := Nat.lt_of_lt_of_le h2 hleE.2
      rcases hst.U id hu with h3 | h3 | ⟨j, A, hDj, hA, hid1, hid2⟩
      · exact hfit.fr id (by omega) hhi h3
      · omega
      · rcases Nat.lt_trichotomy j i with hji | hji | hji
        · have := ((hnx i).2 j A hA).2.2 hji; omega
        · subst hji; rw [hDi] at hDj; cases hDj
        · have q1 := ((hnx j).2 j A hA).1
          have q2 := ((hnx j).2 i E hE).2.2 hji
          omega
    · obtain ⟨e', rfl, hst'⟩ := hst.step hl (fun d hd' => by
        have := hd o (List.mem_of_getElem? (by rw [hopl]; exact ho))
        unfold okDst at this
        rw [← k3, hd'] at this
        simpa [Nat.blt_eq] using this)
      refine ih (listed.setIfInBounds i true) (fun j => j == i || D j) _ e' (by simp [hsz]) (fun j hj => ?_) (fun j hj => ?_) (by have := left_lt hlt hDi; omega) (fun j o' hj ho' e he hb => ?_) ?_
      · by_cases hji : j = i
        · subst hji; simp [Array.getD, hsz, hj]
        · rw [getD_set_ne false (Ne.symm hji), ← hD j hj]; simp [hji]
      · have : j ≠ i := by omega
        simp [this, hDout j hj]
      · simp only [Bool.or_eq_true, beq_iff_eq] at hj ⊢
        right
        rcases hj with rfl | hj
        · rw [ho] at ho'; cases ho'; exact hpreds e he hb
        · exact hdown j o' hj ho' e he hb
      · have f1 := foldW_insert (D := D) (Es.map wS) 0 i (getS σ.sl) (wS E) (by rw [List.getElem?_map, hE]; rfl) (by rw [Nat.zero_add]; exact hDi) (fun q l' hq hl' hDq => by
          rw [List.getElem?_map, Option.map_eq_some_iff] at hl'
          obtain ⟨A, hA, rfl⟩ := hl'
          rw [Nat.zero_add] at hDq
          exact conf_ws (hlater q A hq hA hDq))
        have f2 := foldW_insert (D := D) (Es.map wO) 0 i (over σ.ob of') (wO E) (by rw [List.getElem?_map, hE]; rfl) (by rw [Nat.zero_add]; exact hDi) (fun q l' hq hl' hDq => by
          rw [List.getElem?_map, Option.map_eq_some_iff] at hl'
          obtain ⟨A, hA, rfl⟩ := hl'
          rw [Nat.zero_add] at hDq
          exact conf_wo (hlater q A hq hA hDq))
        simp only [Nat.zero_add] at f1 f2
        rw [f1, f2]
        refine ⟨hst'.os, hst'.le, fun id hid => ?_, hst'.sl, hst'.def_, hst'.nt⟩
        rcases hst'.U id hid with (h1 | h1 | ⟨j, A, hDj, hA, hid'⟩) | h1
        · exact .inl h1
        · exact .inr (.inl h1)
        · exact .inr (.inr ⟨j, A, by simp [hDj], hA, hid'⟩)
        · exact .inr (.inr ⟨i, E, by simp, hE, h1⟩)
end Go.Vm


namespace Go.Vm
open Go.RowKit
variable {P : Program} {T : TT} {c : Ctx} {e eb : Env} {of of' : Nat → Option Ob}
set_option linter.unusedVariables false
set_option linter.constructorNameAsVariable false

/-! ### What must keep its order, quickly -/
def one1 {α : Type} (cf : α → α → Bool) (B : α) (m : Nat) : List α → Nat → Bool
  | [], _ => true
  | A :: r, j => (!(cf A B) || m.testBit j) && one1 cf B m r (j + 1)
def all1 {α : Type} (cf : α → α → Bool) (Es : List α) (ms : List Nat) : Nat → List α → Bool
  | _, [] => true
  | i, B :: r => one1 cf B (ms.getD i 0) (Es.take i) 0 && all1 cf Es ms (i + 1) r
theorem one1_spec {α : Type} {cf : α → α → Bool} {B : α} {m : Nat} : ∀ (l : List α) (j : Nat), one1 cf B m l j = true → ∀ (q : Nat) A, l[q]? = some A → cf A B = true → m.testBit (j + q) = true := by
  intro l
  induction l with
  | nil => intro j _ q A h; simp at h
  | cons A0 r ih =>
    intro j h q A hq hc
    simp only [one1, Bool.and_eq_true, Bool.or_eq_true, Bool.not_eq_true'] at h
    cases q with
    | zero =>
      simp only [List.getElem?_cons_zero, Option.some.injEq] at hq
      subst hq
      rcases h.1 with h1 | h1
      · rw [hc] at h1; cases h1
      · exact h1
    | succ q => rw [show j + (q + 1) = j + 1 + q by omega]; exact ih (j + 1) h.2 q A (by simpa using hq) hc
theorem all1_spec {α : Type} {cf : α → α → Bool} {Es : List α} {ms : List Nat} : ∀ (l : List α) (i : Nat), (∀ q : Nat, l[q]? = Es[i + q]?) → all1 cf Es ms i l = true → ∀ (p q : Nat) A B, i ≤ p → q < p → Es[p]? = some B → Es[q]? = some A → cf A B = true → (ms.getD p 0).testBit q = true := by
  intro l
  induction l with
  | nil =>
    intro i hl _ p q A B hip hqp hB hA _
    have := hl (p - i)
    rw [show i + (p - i) = p by omega, hB] at this
    simp at this
  | cons B0 r ih =>
    intro i hl h p q A B hip hqp hB hA hc
    simp only [all1, Bool.and_eq_true] at h
    by_cases hpi : p = i
    · subst hpi
      have h0 := hl 0
      rw [Nat.add_zero, hB, List.getElem?_cons_zero, Option.some.injEq] at h0
      subst h0
      have := one1_spec (Es.take p) 0 h.1 q A (by rw [List.getElem?_take_of_lt hqp]; exact hA) hc
      rwa [Nat.zero_add] at this
    · exact ih (i + 1) (fun q => by have := hl (q + 1); simpa [Nat.add_assoc, Nat.add_comm 1 q] using this) h.2 p q A B (by omega) hqp hB hA hc
def slotC (ops : Array Oper) (x y : Oper) : Bool := hitS x.dst (y.looksAt ops) || hitS y.dst (x.looksAt ops) || sameD x.dst y.dst
def statB (nt : Nat) (ops : Array Oper) : Bool := ops.toList.all (okDst nt) && backward 0 ops.toList && all1 (slotC ops) ops.toList (masks ops.toList []) 0 ops.toList
def ordB (ms : List Nat) (i j : Nat) : Bool := bif Nat.blt i j then (ms.getD j 0).testBit i else (ms.getD i 0).testBit j
def dyn1 (wo : List (Nat × Ob)) (i : Nat) (ms : List Nat) : Nat → List Ent → Bool
  | _, [] => true
  | j, B :: r => (Nat.beq i j || !(hitO wo B) || ordB ms i j) && dyn1 wo i ms (j + 1) r
def dynA (ms : List Nat) (Es : List Ent) : Nat → List Ent → Bool
  | _, [] => true
  | i, E :: r => (match E.wo with
    | [] => true
    | q :: l => dyn1 (q :: l) i ms 0 Es) && dynA ms Es (i + 1) r
theorem dyn1_spec {wo : List (Nat × Ob)} {i : Nat} {ms : List Nat} : ∀ (l : List Ent) (j : Nat), dyn1 wo i ms j l = true → ∀ (q : Nat) B, l[q]? = some B → hitO wo B = true → i ≠ j + q → ordB ms i (j + q) = true := by
  intro l
  induction l with
  | nil => intro j _ q B h; simp at h
  | cons A0 r ih =>
    intro j h q B hq hc hne
    simp only [dyn1, Bool.and_eq_true, Bool.or_eq_true, Bool.not_eq_true'] at h
    cases q with
    | zero =>
      simp only [List.getElem?_cons_zero, Option.some.injEq] at hq
      subst hq
      rcases h.1 with (h1 | h1) | h1
      · exact absurd (Nat.eq_of_beq_eq_true h1) hne
      · rw [hc] at h1; cases h1
      · exact h1
    | succ q => rw [show j + (q + 1) = j + 1 + q by omega]; exact ih (j + 1) h.2 q B (by simpa using hq) hc (by omega)
theorem dynA_spec {Es : List Ent} {ms : List Nat} : ∀ (l : List Ent) (i : Nat), (∀ q : Nat, l[q]? = Es[i + q]?) → dynA ms Es i l = true → ∀ (p q : Nat) A B, i ≤ p → p ≠ q → Es[p]? = some A → Es[q]? = some B → hitO A.wo B = true → ordB ms p q = true := by
  intro l
  induction l with
  | nil =>
    intro i hl _ p q A B hip hpq hA hB _
    have := hl (p - i)
    rw [show i + (p - i) = p by omega, hA] at this
    simp at this
  | cons A0 r ih =>
    intro i hl h p q A B hip hpq hA hB hc
    simp only [dynA, Bool.and_eq_true] at h
    by_cases hpi : p = i
    · subst hpi
      have h0 := hl 0
      rw [Nat.add_zero, hA, List.getElem?_cons_zero, Option.some.injEq] at h0
      subst h0
      have h1 := h.1
      cases hw : A0.wo with
      | nil => rw [hw] at hc; simp [hitO] at hc
      | cons x y =>
        rw [hw] at h1 hc
        have := dyn1_spec Es 0 h1 q B hB hc (by omega)
        rwa [Nat.zero_add] at this
    · exact ih (i + 1) (fun q => by have := hl (q + 1); simpa [Nat.add_assoc, Nat.add_comm 1 q] using this) h.2 p q A B (by omega) hpq hA hB hc
theorem wp_drawn {rd : Option Nat} {m : Nat} (hm : P.follows .mixedOrders = true) (hT : TOK T P) {K : KS} (hK : KOK P T K) {id : Nat} {ops : Array Oper} {Q : Exit → Act → World → Prop} {n0 nt : Nat} {σ σ' : St} {Es : List Ent} {a : Act} {w : World} (hs1 : statB nt ops = true) (hr : runOps T K ops of ops.toList σ = some (Es, σ')) (hs2 : dynA (masks ops.toList []) Es 0 Es = true)
    (hn : n0 ≤ σ.nx) (hfit : Fits of of' eb n0 σ') (hs : Sim T c eb of' n0 nt σ a w) (hQ : ∀ a' w', Sim T c eb of' n0 nt σ' a' w' → Q .normal a' w') : (Code.region id ops true).wpIn (WF rd) m P Q a w := by
  simp only [statB, Bool.and_eq_true] at hs1
  obtain ⟨⟨hd, hb⟩, hsl⟩ := hs1
  obtain ⟨hσ, hlen0, hent⟩ := runOps_spec _ _ _ _ hr
  have hord : ∀ (p q : Nat) (A B : Ent), q < p → Es[p]? = some B → Es[q]? = some A → conf A B = true → ((masks ops.toList []).getD p 0).testBit q = true := by
    intro p q A B hqp hB hA hc
    have hp' : p < ops.toList.length := by rw [← hlen0]; exact (List.getElem?_eq_some_iff.1 hB).1
    have hq' : q < ops.toList.length := by omega
    obtain ⟨A', gA, kA, _⟩ := hent q ops.toList[q] (List.getElem?_eq_getElem hq')
    obtain ⟨B', gB, kB, _⟩ := hent p ops.toList[p] (List.getElem?_eq_getElem hp')
    rw [hA] at gA; cases gA
    rw [hB] at gB; cases gB
    obtain ⟨_, _, a3, a4⟩ := entOp_lo kA
    obtain ⟨_, _, b3, b4⟩ := entOp_lo kB
    unfold conf at hc
    rw [Bool.or_eq_true, Bool.or_eq_true] at hc
    rcases hc with (hc | hc) | hc
    · refine all1_spec ops.toList 0 (fun q => by rw [Nat.zero_add]) hsl p q _ _ (Nat.zero_le _) hqp (List.getElem?_eq_getElem hp') (List.getElem?_eq_getElem hq') ?_
      unfold slotC
      rw [← a3, ← b3, ← a4, ← b4]; exact hc
    · have := dynA_spec Es 0 (fun q => by rw [Nat.zero_add]) hs2 q p A B (Nat.zero_le _) (by omega) hA hB hc
      unfold ordB at this
      rw [show Nat.blt q p = true from by simpa [Nat.blt_eq] using hqp] at this
      exact this
    · have := dynA_spec Es 0 (fun q => by rw [Nat.zero_add]) hs2 p q B A (Nat.zero_le _) (by omega) hB hA hc
      unfold ordB at this
      rw [show Nat.blt p q = false from by rw [← Bool.not_eq_true, Nat.blt_eq]; omega] at this
      exact this
  obtain ⟨e, rfl, hst⟩ := hs
  refine wpIn_region_any hm ?_
  obtain ⟨h1, h2⟩ := hst.os.same_heap (w' := { e.w with drawn := e.w.drawn + 1 }) rfl rfl rfl rfl
  refine drawn_ok hT hK (List.all_eq_true.1 hd) hr hn hfit hb hord hQ ops.size (Array.replicate ops.size false) (fun _ => false) a { e with w := { e.w with drawn := e.w.drawn + 1 } } (by simp) (fun j hj => ?_) (fun _ _ => rfl) ?_ (fun j o hj => by cases hj) ?_
  · simp [Array.getD, hj]
  · unfold left
    have := List.length_filter_le (fun j => !(fun _ => false : Nat → Bool) j) (List.range ops.size)
    rwa [List.length_range] at this
  · rw [foldW_none _ 0 _ (fun _ _ => rfl), foldW_none _ 0 _ (fun _ _ => rfl)]
    exact ⟨h1, hst.le.trans h2, fun id hid => (hst.U id hid).imp (fun q => q) .inl, fun t => (hst.sl t).mono h2, hst.def_.mono h2, hst.nt⟩

/-! ### Code -/
/-- What a region makes shared of what was there. -/
def shIds (f : Nat → Option Ob) : List (Nat × Ob) → List Nat
  | [] => []
  | (id, o) :: r => bif isSh o then (match f id with
    | some o0 => bif isSh o0 then shIds f r else id :: shIds f r
    | none => shIds f r) else shIds f r
def shEs (f : Nat → Option Ob) : List Ent → List Nat
  | [] => []
  | E :: r => shIds f E.wo ++ shEs f r
def St.pre (of : Nat → Option Ob) (σ : St) (l : List Nat) : St := { σ with ob := setL σ.ob (shW (over σ.ob of) l), rd := addR σ.ob l σ.rd }
theorem St.pre_le (σ : St) (l : List Nat) : σ.le (σ.pre of l) := ⟨addR_mono _ _ _, Nat.le_refl _⟩
theorem shW_congr {f g : Nat → Option Ob} : ∀ l : List Nat, (∀ id ∈ l, f id = g id) → shW f l = shW g l := by
  intro l
  induction l with
  | nil => intro _; rfl
  | cons k r ih =>
    intro h
    simp only [shW]
    rw [h k (List.mem_cons_self ..), ih (fun id hid => h id (List.mem_cons_of_mem _ hid))]
theorem Sim.pre {n0 nt : Nat} {σ : St} {a : Act} {w : World} (h : Sim T c eb of' n0 nt σ a w) {l : List Nat} (ho : ∀ id ∈ (σ.pre of l).rd, of' id = of id) : Sim T c eb of' n0 nt (σ.pre of l) a w := by
  obtain ⟨e, rfl, hst⟩ := h
  have hag : ∀ id ∈ l, over σ.ob of' id = over σ.ob of id := over_agree (ob := σ.ob) (l := σ.rd) ho (fun _ h => h)
  refine ⟨e, rfl, ?_, hst.le, hst.U, hst.sl, hst.def_, hst.nt⟩
  show OSim T c e (over (setL σ.ob (shW (over σ.ob of) l)) of')
  rw [over_setL, ← shW_congr l hag]
  exact hst.os.weak (shW_all l).1
abbrev LTab := Code → Option ((Nat → Option Ob) → St → Option (Exit × St))
def keysS : List (Nat × A) → List Nat → List Nat
  | [], ks => ks
  | (k, _) :: r, ks => bif mem k ks then keysS r ks else keysS r (k :: ks)
def pickS (l : List (Nat × A)) : List Nat → List (Nat × A)
  | [] => []
  | k :: r => (k, getS l k) :: pickS l r
def St.tidy (σ : St) (ks : List Nat) : St := { σ with sl := pickS σ.sl ks }
theorem pickS_get (l : List (Nat × A)) : ∀ (ks : List Nat) (t : Nat), getS (pickS l ks) t = .x ∨ getS (pickS l ks) t = getS l t := by
  intro ks
  induction ks with
  | nil => intro t; exact .inl rfl
  | cons k r ih =>
    intro t
    rw [pickS, getS_cons]
    by_cases h : t = k
    · subst h; rw [upd_same]; exact .inr rfl
    · rw [upd_ne _ _ h]; exact ih t
theorem Sim.tidy {n0 nt : Nat} {σ : St} {a : Act} {w : World} (h : Sim T c eb of n0 nt σ a w) (ks : List Nat) : Sim T c eb of n0 nt (σ.tidy ks) a w := by
  obtain ⟨e, rfl, hst⟩ := h
  refine ⟨e, rfl, hst.os, hst.le, hst.U, fun t => ?_, hst.def_, hst.nt⟩
  rcases pickS_get σ.sl ks t with h | h
  · show Rep T e (getS (pickS σ.sl ks) t) _
    rw [h]; trivial
  · show Rep T e (getS (pickS σ.sl ks) t) _
    rw [h]; exact hst.sl t
/-! ### Ranges over functions -/
theorem OSim.writeG (h : OSim T c e of) {id : Nat} {o o' : Ob} (ho : of id = some o) {b q : Nat} (hι : e.ι id = some (b, q)) {g g' : Go.Obj} (h0 : e.w.heap[b]? = some g) (hg : ∀ cs t fz, g ≠ .cells cs t fz) (hg' : ∀ cs t fz, g' ≠ .cells cs t fz) {w' : World} (hw : w' = { e.w with heap := e.w.heap.setIfInBounds b g' })
    (hok : e.le { e with w := w' } → w'.heap[b]? = some g' → OK T { e with w := w' } id o') : OSim T c { e with w := w' } (upd of id (some o')) ∧ e.le { e with w := w' } := by
  have hlt : b < e.w.heap.size := (Array.getElem?_eq_some_iff.1 h0).1
  have h1 : w'.heap[b]? = some g' := by rw [hw]; simp [hlt]
  have hne : ∀ k, k ≠ b → w'.heap[k]? = e.w.heap[k]? := fun k hk => by rw [hw]; simp [Ne.symm hk]
  have hsz : w'.heap.size = e.w.heap.size := by rw [hw]; simp
  have hln : ∀ k, blen w' k = blen e.w k := fun k => by
    by_cases hk' : k = b
    · subst hk'
      unfold blen
      rw [h0, h1]
      cases g <;> cases g' <;> first | rfl | exact absurd rfl (hg _ _ _) | exact absurd rfl (hg' _ _ _)
    · exact len_of_heap (hne _ hk')
  have hle : e.le { e with w := w' } := by
    refine ⟨fun k i hs => ⟨hs, fun x hx => ?_⟩, fun _ hu => hu, fun j hu _ => ⟨rfl, rfl, fun k q' hk => hln k⟩, fun _ _ h => h, fun _ _ => Nat.le_refl _, fun _ _ => rfl, by show _ ≤ w'.heap.size; omega, fun k _ => hln k⟩
    by_cases hk : k = b
    · subst hk
      exfalso
      unfold World.cell? at hx
      rw [h0] at hx
      cases g <;> first | (exact absurd rfl (hg _ _ _)) | (simp at hx; done)
    · rw [← hx]; exact cell_of_heap (hne _ hk)
  exact ⟨h.turn ho hle (fun _ _ => rfl) (fun _ _ => rfl) (fun _ hu => hu) (fun k _ hk => hne k (fun hkb => hk q (by rw [hkb]; exact hι))) (by show _ ≤ w'.heap.size; omega) (fun _ _ hs => .inl hs) (fun k q' hk => .inl ⟨q', hk⟩) (by rw [hw]) (by rw [hw]) (by rw [hw]) (hok hle h1), hle⟩
theorem run_setObj_some {w : World} {r : Nat} {o : Go.Obj} (o' : Go.Obj) (hb : w.heap[r]? = some o) (hg : ∀ cs t fz, o ≠ .cells cs t fz := by intro _ _ _ h; cases h) : (setObj r o').run P w = .ok () { w with heap := w.heap.setIfInBounds r o' } := by
  cases o <;> first | exact absurd rfl (hg _ _ _) | simp [setObj, Sem.run, hb]
theorem run_getObj_some {w : World} {r : Nat} {o : Go.Obj} (hb : w.heap[r]? = some o) (hg : ∀ cs t fz, o ≠ .cells cs t fz := by intro _ _ _ h; cases h) : (getObj r).run P w = .ok o w := by
  cases o <;> first | exact absurd rfl (hg _ _ _) | simp [getObj, Sem.run, hb]
theorem run_newObj {w : World} (o : Go.Obj) : (newObj o).run P w = .ok w.heap.size (w.alloc o) := by
  simp [newObj, Sem.run]
/-- The slots as they are, each once; results of many parts are let go. -/
def snapS (l : List (Nat × A)) : List Nat → List (Nat × A)
  | [] => []
  | k :: r => match getS l k with
    | .t _ => snapS l r
    | v => (k, v) :: snapS l r
theorem snapS_mem (l : List (Nat × A)) : ∀ (ks : List Nat), ∀ p ∈ snapS l ks, p.2 = getS l p.1 ∧ ∀ q, p.2 ≠ .t q := by
  intro ks
  induction ks with
  | nil => intro p h; cases h
  | cons k r ih =>
    intro p h
    simp only [snapS] at h
    split at h
    · exact ih p h
    · rename_i hne
      rcases List.mem_cons.1 h with rfl | h
      · exact ⟨rfl, fun q hq => hne q hq⟩
      · exact ih p h
/-- What there was ahead of all was what is told of it. -/
def Base (T : TT) (eb : Env) (of' : Nat → Option Ob) : Prop := ∀ id o, of' id = some o → OK T eb id o
/-- A piece of code takes one state to another. -/
def Takes (P : Program) (T : TT) (nt n0 : Nat) (of : Nat → Option Ob) (code : Code) (σ : St) (ex : Exit) (σ' : St) : Prop :=
  σ.le σ' ∧ ∀ (m : Nat) (of' : Nat → Option Ob) (c : Ctx) (eb : Env) (a : Act) (w : World), n0 ≤ σ.nx → Fits of of' eb n0 σ' → Base T eb of' → Sim T c eb of' n0 nt σ a w → code.wpIn (WF c.rd) m P (fun e a' w' => e = ex ∧ Sim T c eb of' n0 nt σ' a' w') a w
def notBusy : LoopState → Bool
  | .busy => false
  | _ => true
def jumpX : Option Code → Option Exit
  | none => some .normal
  | some .ret => some .ret
  | some (.exit k) => some (.exit k)
  | _ => none
/-- A range over a function: its record is laid, the function is called with it; what a round has left pending is what comes next. -/
def rangeA (T : TT) (K : KS) (nt : Nat) (of : Nat → Option Ob) (g : Operand) (ps : Array Nat) (asg body : Code) (σ : St) : Option (Exit × St) :=
  match σ.mks, evO (getS σ.sl) g with
  | some l, .f f cap =>
    if K.ord f && cap.all (cellA T) then
      (fun (ob1 : Tr) => match K.f f (.y (σ.nx + 1) :: cap) (over ob1 of) (σ.nx + 2) with
      | some out => if Nat.ble (σ.nx + 2) out.nx then
          (fun (ob2 : Tr) => match ob2.get (σ.nx + 1) with
          | some (.lp (some r)) => match notBusy r.st, jumpX r.pend with
            | true, some ex => some (ex, ⟨σ.sl, ob2.set (σ.nx + 1) (.lp (some { r with st := .exhausted })), addR ob1 out.ro σ.rd, out.nx, some (σ.nx :: l)⟩)
            | _, _ => none
          | _ => none) (setL ob1 out.wo) else none
      | none => none) ((σ.ob.set σ.nx (.lp none)).set (σ.nx + 1) (.lp (some ⟨nt, snapS σ.sl (keysS σ.sl []), ps, asg, body, .ready, none⟩)))
    else none
  | _, _ => none
theorem rep_not_t {v : A} {x : Value} (h : Rep T e v x) (hv : ∀ l, v ≠ .t l) : Rep1 T e v x := by
  cases v with
  | t l => exact absurd rfl (hv l)
  | _ => exact h
theorem over_ge {ob : Tr} {of : Nat → Option Ob} {id : Nat} {o : Ob} (h : ob.get id = some o) : over ob of id = some o := by
  unfold over; rw [h]
theorem rangeA_ok {K : KS} (hK : KOK P T K) {nt n0 : Nat} {g : Operand} {ps : Array Nat} {asg body : Code} {σ : St} {ex : Exit} {σ' : St} (hr : rangeA T K nt of g ps asg body σ = some (ex, σ')) : Takes P T nt n0 of (.rangeFunc g ps asg body) σ ex σ' := by
  unfold rangeA at hr
  split at hr <;> try (cases hr; done)
  rename_i l f cap hmk hg
  split at hr <;> try (cases hr; done)
  rename_i hcc
  simp only [Bool.and_eq_true] at hcc
  obtain ⟨hord, hcap⟩ := hcc
  generalize hlr : (⟨nt, snapS σ.sl (keysS σ.sl []), ps, asg, body, .ready, none⟩ : LR) = lr at hr
  generalize hob1 : (σ.ob.set σ.nx (.lp none)).set (σ.nx + 1) (.lp (some lr)) = ob1 at hr
  simp only at hr
  split at hr <;> try (cases hr; done)
  rename_i out hout
  split at hr <;> try (cases hr; done)
  rename_i hnx
  have hnx := Nat.le_of_ble_eq_true hnx
  split at hr <;> try (cases hr; done)
  rename_i r hget
  split at hr <;> try (cases hr; done)
  rename_i ex' hbusy hjump
  simp only [Option.some.injEq, Prod.mk.injEq] at hr
  obtain ⟨rfl, rfl⟩ := hr
  refine ⟨⟨addR_mono _ _ _, by show σ.nx ≤ out.nx; omega⟩, fun m of' c eb a w hn hfit hbs hs => ?_⟩
  obtain ⟨e, rfl, hst⟩ := hs
  have hdef := hst.def_
  rw [hmk] at hdef
  obtain ⟨hrd, hml⟩ := hdef
  have hnu : ∀ id, σ.nx ≤ id → id < out.nx → ¬ e.U id := fun id h1 h2 hu => by
    rcases hst.U id hu with h3 | h3
    · exact hfit.fr id (by omega) h2 h3
    · omega
  -- the block, the record
  have hu1 : ¬ e.U σ.nx := hnu _ (Nat.le_refl _) (by omega)
  let e1 := e.newM σ.nx (.deferred (some []))
  have ok1 : OK T e1 σ.nx (.lp none) := ⟨.inl rfl, upd_same _ _ _, e.w.heap.size, upd_same _ _ _, alloc_new _ _⟩
  have os1 : OSim T c e1 (upd (over σ.ob of') σ.nx (some (.lp none))) := hst.os.newM hu1 ok1
  have le1 : e.le e1 := hst.os.le_newM hu1 _
  have hu2 : ¬ e1.U (σ.nx + 1) := by
    rintro (h | h)
    · omega
    · exact hnu _ (by omega) (by omega) h
  have hsz1 : e1.w.heap.size = e.w.heap.size + 1 := size_alloc _ _
  refine wpIn_rangeFunc (fun fn _ => ?_)
  let rec_ : Loop := { state := .ready, pending := none, fn := fn, tmps := a.tmps, params := ps, assign := asg, body := body, defers := e.w.heap.size }
  let e2 := e1.newM (σ.nx + 1) (.loop rec_)
  have le2 : e1.le e2 := os1.le_newM hu2 _
  have le02 := le1.trans le2
  have ok2 : OK T e2 (σ.nx + 1) (.lp (some lr)) := by
    refine ⟨.inl rfl, upd_same _ _ _, e1.w.heap.size, a.tmps, e.w.heap.size, fn, upd_same _ _ _, ?_, ?_, fun p hp => ?_⟩
    · rw [← hlr]; exact alloc_new _ _
    · rw [← hlr]; exact hst.nt
    · rw [← hlr] at hp
      obtain ⟨h1, h2⟩ := snapS_mem _ _ p hp
      refine rep_not_t ?_ h2
      rw [h1]
      exact (hst.sl p.1).mono le02
  have os2 : OSim T c e2 (over ob1 of') := by
    rw [← hob1, over_set, over_set]
    exact os1.newM hu2 ok2
  have ι2 : e2.ι (σ.nx + 1) = some (e.w.heap.size + 1, 0) := by rw [← hsz1]; exact upd_same _ _ _
  have hgv := evO_ok (T := T) (e := e) (sl := getS σ.sl) (a := a) (x := g) (fun t _ => hst.sl t)
  rw [hg] at hgv
  obtain ⟨vs, hv, hvs⟩ := rep_f_inv hgv
  have hcaps := RA_reps (hvs.mono le02) hcap
  have hent : (Instr.enterLoop fn a.tmps ps asg body c.rd).run P e.w = .ok (e.w.heap.size + 1, [{ target := .collected e.w.heap.size, args := #[] }]) e2.w := by
    rw [hrd]
    simp only [Instr.enterLoop, Sem.run_bind, run_newObj, Result.andThen_ok, Sem.run_pure]
    rw [← hsz1]
    rfl
  have hyr : Rep T e2 (.y (σ.nx + 1)) (.func (.yield (e.w.heap.size + 1)) #[] #[]) := RA.r ⟨e.w.heap.size + 1, .inl rfl, upd_same _ _ _, ι2, rfl⟩ rfl .nil
  have hdoes := hK.f f c e2 (over ob1 of) (over ob1 of') (.y (σ.nx + 1) :: cap) (#[.func (.yield (e.w.heap.size + 1)) #[] #[]] ++ vs.toArray) (σ.nx + 2) out os2 hout
    (over_agree hfit.rd (fun id hid => hid)) (fun id h1 h2 => by
      rintro (h | h | h)
      · omega
      · omega
      · exact hnu id (by omega) h2 h) (by simpa using Reps.cons hyr hcaps)
  have hen := hK.ord f hord (#[.func (.yield (e.w.heap.size + 1)) #[] #[]] ++ vs.toArray) e2.w
  have hcalls : Calls P f (#[.func (.yield (e.w.heap.size + 1)) #[] #[]] ++ vs.toArray) e2.w fun en w' => ∃ x, en = .returned x ∧ LeftN T c e2 (over ob1 of') (σ.nx + 2) out x w' := by
    rcases hdoes with ⟨x, w', h1, _⟩ | ⟨w', h1, _⟩ | ⟨f', args, w1, h1, h2⟩ | ⟨_, _, _, _, _, w1, h1, _⟩
    · rw [hen] at h1; cases h1
    · rw [hen] at h1; cases h1
    · rw [hen] at h1; cases h1; exact h2
    · rw [hen] at h1; cases h1
  refine ⟨e.w.heap.size + 1, [{ target := .collected e.w.heap.size, args := #[] }], e2.w, { target := .fn (.func f) vs.toArray, args := #[.func (.yield (e.w.heap.size + 1)) #[] #[]] }, e2.w, f, _, e2.w, hent, ?_, fun _ _ => trivial, ?_, fun h => (by cases h), CallsIn.mono (callsIn_wf hcalls) fun en w3 hw3 => ?_⟩
  · have hcst : ∀ v, a.eval (.const v) = v := fun _ => rfl
    simp [resolve, rangeCall, hv, hcst, Deferred.ofValue]
  · simpa [Deferred.ofValue, invoke] using hen
  · obtain ⟨x, rfl, e3, rfl, os3, le3, u3, _⟩ := hw3
    have hob2 : put (over ob1 of') out.wo = over (setL ob1 out.wo) of' := (over_setL _ _ _).symm
    rw [hob2] at os3
    obtain ⟨k1, k2, b, tm, df, fn', k3, k4, k5, k6⟩ := os3.ok _ _ (over_ge hget)
    have hι3 : e3.ι (σ.nx + 1) = some (e.w.heap.size + 1, 0) := by
      have := (le3.obj (σ.nx + 1) (.inl rfl) (k2.trans (upd_same _ _ _).symm)).1
      rw [this]; exact ι2
    rw [hι3] at k3
    cases k3
    have hnb : r.st ≠ .busy := by intro h; rw [h] at hbusy; cases hbusy
    let r4 : Loop := { state := .exhausted, pending := r.pend, fn := fn', tmps := tm, params := r.ps, assign := r.asg, body := r.body, defers := df }
    let w4 : World := { e3.w with heap := e3.w.heap.setIfInBounds (e.w.heap.size + 1) (.loop r4) }
    obtain ⟨os4, le4⟩ := os3.writeG (o' := .lp (some { r with st := .exhausted })) (over_ge hget) hι3 k4 (fun _ _ _ h => by cases h) (g' := .loop r4) (fun _ _ _ h => by cases h) (w' := w4) rfl
      (fun hle hh => ⟨k1, k2, e.w.heap.size + 1, tm, df, fn', hι3, hh, k5, fun p hp => (k6 p hp).mono hle⟩)
    have hend : (Instr.endLoop (e.w.heap.size + 1)).run P e3.w = .ok r.pend w4 := by
      simp only [Instr.endLoop, Instr.getLoop, Sem.run_bind, run_getObj_some k4, Result.andThen_ok, Sem.run_pure, run_setObj_some _ k4]
      have : (r.st == LoopState.busy) = false := by
        cases hrs : r.st <;> first | rfl | exact absurd hrs hnb
      simp [this, w4, r4, run_setObj_some _ k4]
    have hle04 : e.le { e3 with w := w4 } := (le02.trans le3).trans le4
    have hsim : Sim T c eb of' n0 nt ⟨σ.sl, (setL ob1 out.wo).set (σ.nx + 1) (.lp (some { r with st := .exhausted })), addR ob1 out.ro σ.rd, out.nx, some (σ.nx :: l)⟩ { a with defers := [{ target := .collected e.w.heap.size, args := #[] }] ++ a.defers } w4 := by
      refine ⟨{ e3 with w := w4 }, rfl, ?_, hst.le.trans hle04, fun id hid => ?_, fun t => (hst.sl t).mono hle04, ?_, hst.nt⟩
      · rw [over_set]; exact os4
      · rcases u3 id hid with (h | h | h) | h
        · subst h; exact .inr ⟨by omega, by show _ < out.nx; omega⟩
        · subst h; exact .inr ⟨by omega, by show _ < out.nx; omega⟩
        · rcases hst.U id h with h | h
          · exact .inl h
          · exact .inr ⟨h.1, by show _ < out.nx; omega⟩
        · exact .inr ⟨by omega, h.2⟩
      · refine ⟨hrd, .cons ?_ ?_ ?_ (hml.mono hle04)⟩
        · exact le4.use _ (le3.use _ (.inr (.inl rfl)))
        · have : e2.bn σ.nx = 0 := by
            show upd (upd e.bn σ.nx 0) (σ.nx + 1) 0 σ.nx = 0
            rw [upd_ne _ _ (by omega), upd_same]
          exact le3.box _ (.inr (.inl rfl)) this
        · have h0 : e2.bn σ.nx = 0 := by
            show upd (upd e.bn σ.nx 0) (σ.nx + 1) 0 σ.nx = 0
            rw [upd_ne _ _ (by omega), upd_same]
          have h1 := le3.box _ (.inr (.inl rfl)) h0
          have h2 := (le3.obj σ.nx (.inr (.inl rfl)) (h1.trans h0.symm)).1
          show e3.ι σ.nx = _
          rw [h2]
          show upd (upd e.ι σ.nx (some (e.w.heap.size, 0))) (σ.nx + 1) _ σ.nx = _
          rw [upd_ne _ _ (by omega), upd_same]
    refine ⟨r.pend, w4, hend, ?_⟩
    generalize (⟨σ.sl, (setL ob1 out.wo).set (σ.nx + 1) (.lp (some { r with st := .exhausted })), addR ob1 out.ro σ.rd, out.nx, some (σ.nx :: l)⟩ : St) = σ9 at hsim ⊢
    generalize r.pend = pd at hjump ⊢
    cases pd with
    | none =>
      simp only [jumpX, Option.some.injEq] at hjump
      exact ⟨hjump, hsim⟩
    | some cd =>
      cases cd <;> simp only [jumpX, Option.some.injEq] at hjump <;> try (cases hjump; done)
      · subst hjump
        exact wpIn_exit (Q := fun e a' w' => e = .exit _ ∧ Sim T c eb of' n0 nt σ9 a' w') ⟨rfl, hsim⟩
      · subst hjump
        exact wpIn_ret (Q := fun e a' w' => e = .ret ∧ Sim T c eb of' n0 nt σ9 a' w') ⟨rfl, hsim⟩
/-- A loop whose rounds are run one by one. -/
def unroll (ks : List Nat) (f : St → Option (Exit × St)) : Nat → St → Option (Exit × St)
  | 0, _ => none
  | n + 1, σ => match f (σ.tidy ks) with
    | some (.normal, σ1) => unroll ks f n σ1
    | r => r
def exec (T : TT) (K : KS) (Lo : LTab) (fu nt : Nat) (of : Nat → Option Ob) : Code → St → Option (Exit × St)
  | .skip, σ => some (.normal, σ)
  | .ret, σ => some (.ret, σ)
  | .exit id, σ => some (.exit id, σ)
  | .region _ ops draw, σ =>
    match draw with
    | false => if ops.toList.all (okDst nt) then (match runOps T K ops of ops.toList σ with
      | some (_, σ') => some (.normal, σ')
      | none => none) else none
    | true => if statB nt ops then (match runOps T K ops of ops.toList σ with
      | some (Es, σ') => if dynA (masks ops.toList []) Es 0 Es then some (.normal, σ') else
        (match runOps T K ops of ops.toList (σ.pre of (shEs (over σ.ob of) Es)) with
        | some (Es2, σ2) => if dynA (masks ops.toList []) Es2 0 Es2 then some (.normal, σ2) else none
        | none => none)
      | none => none) else none
  | .seq x y, σ =>
    match exec T K Lo fu nt of x σ with
    | some (.normal, σ1) => exec T K Lo fu nt of y σ1
    | r => r
  | .cond q x y, σ =>
    match evO (getS σ.sl) q with
    | .b true => exec T K Lo fu nt of x σ
    | .b false => exec T K Lo fu nt of y σ
    | _ => none
  | .block id body, σ =>
    match exec T K Lo fu nt of body σ with
    | some (.exit id', σ') => some (if Nat.beq id' id then .normal else .exit id', σ')
    | r => r
  | .loop body, σ =>
    match Lo body with
    | some s => s of σ
    | none => unroll (keysS σ.sl []) (fun σ => exec T K Lo fu nt of body σ) fu σ
  | .rangeFunc g ps asg body, σ => rangeA T K nt of g ps asg body σ
  | _, _ => none
def LoopsOK (P : Program) (T : TT) (nt n0 : Nat) (Lo : LTab) : Code → Prop
  | .seq x y => LoopsOK P T nt n0 Lo x ∧ LoopsOK P T nt n0 Lo y
  | .cond _ x y => LoopsOK P T nt n0 Lo x ∧ LoopsOK P T nt n0 Lo y
  | .block _ b => LoopsOK P T nt n0 Lo b
  | .loop b => (∀ s, Lo b = some s → ∀ of σ ex σ', s of σ = some (ex, σ') → Takes P T nt n0 of (.loop b) σ ex σ') ∧ LoopsOK P T nt n0 Lo b
  | _ => True
theorem loopsOK_none {nt n0 : Nat} : ∀ code, LoopsOK P T nt n0 (fun _ => none) code := by
  intro code
  induction code with
  | seq x y ihx ihy => exact ⟨ihx, ihy⟩
  | cond q x y ihx ihy => exact ⟨ihx, ihy⟩
  | block id b ih => exact ih
  | loop b ih => exact ⟨fun s h => (by cases h), ih⟩
  | _ => trivial
theorem Sim.cond {n0 nt : Nat} {σ : St} {a : Act} {w : World} (h : Sim T c eb of n0 nt σ a w) {q : Operand} {t : Bool} (hq : evO (getS σ.sl) q = .b t) : a.eval q = .bool t := by
  obtain ⟨e, rfl, hst⟩ := h
  have := evO_ok (T := T) (e := e) (sl := getS σ.sl) (a := a) (x := q) (fun t _ => hst.sl t)
  rw [hq] at this
  exact rep_b_inv this
theorem unroll_ok {nt n0 : Nat} {ks : List Nat} {body : Code} {f : St → Option (Exit × St)} (hf : ∀ σ ex σ', f σ = some (ex, σ') → Takes P T nt n0 of body σ ex σ') : ∀ (n : Nat) (σ : St) (ex : Exit) (σ' : St), unroll ks f n σ = some (ex, σ') →
    σ.le σ' ∧ ∀ (m : Nat) (of' : Nat → Option Ob) (c : Ctx) (eb : Env) (a : Act) (w : World), n0 ≤ σ.nx → Fits of of' eb n0 σ' → Base T eb of' → Sim T c eb of' n0 nt σ a w → Code.roundsIn (WF c.rd) m P body (fun e a' w' => e = ex ∧ Sim T c eb of' n0 nt σ' a' w') n a w := by
  intro n
  induction n with
  | zero => intro σ ex σ' h; cases h
  | succ n ih =>
    intro σ ex σ' h
    simp only [unroll] at h
    split at h
    · rename_i σ1 hx
      obtain ⟨l1, k1⟩ := hf _ _ _ hx
      obtain ⟨l2, k2⟩ := ih _ _ _ h
      refine ⟨St.le.trans l1 l2, fun m of' c eb a w hn hfit hbs hs => ?_⟩
      refine wpI_mono ?_ (k1 m of' c eb a w hn (hfit.mono l2) hbs (hs.tidy ks))
      rintro e' a' w' ⟨rfl, hs'⟩
      exact k2 m of' c eb a' w' (Nat.le_trans hn l1.2) hfit hbs hs'
    · rename_i r0 hne
      obtain ⟨l1, k1⟩ := hf _ _ _ h
      refine ⟨l1, fun m of' c eb a w hn hfit hbs hs => ?_⟩
      have hex : ex ≠ .normal := by
        intro he; subst he; exact hne _ h
      refine wpI_mono ?_ (k1 m of' c eb a w hn hfit hbs (hs.tidy ks))
      rintro e' a' w' ⟨rfl, hs'⟩
      cases e' with
      | normal => exact absurd rfl hex
      | _ => exact ⟨rfl, hs'⟩
/-- What the execution says is so. -/
theorem exec_ok (hm : P.follows .mixedOrders = true) (hT : TOK T P) {K : KS} (hK : KOK P T K) {Lo : LTab} {fu nt n0 : Nat} : ∀ (code : Code), LoopsOK P T nt n0 Lo code → ∀ (σ : St) (ex : Exit) (σ' : St), exec T K Lo fu nt of code σ = some (ex, σ') → Takes P T nt n0 of code σ ex σ' := by
  intro code
  induction code with
  | skip =>
    intro _ σ ex σ' h
    simp only [exec, Option.some.injEq, Prod.mk.injEq] at h
    obtain ⟨rfl, rfl⟩ := h
    exact ⟨St.le.refl _, fun m of' c eb a w _ _ _ hs => wpIn_skip ⟨rfl, hs⟩⟩
  | ret =>
    intro _ σ ex σ' h
    simp only [exec, Option.some.injEq, Prod.mk.injEq] at h
    obtain ⟨rfl, rfl⟩ := h
    exact ⟨St.le.refl _, fun m of' c eb a w _ _ _ hs => wpIn_ret ⟨rfl, hs⟩⟩
  | exit id =>
    intro _ σ ex σ' h
    simp only [exec, Option.some.injEq, Prod.mk.injEq] at h
    obtain ⟨rfl, rfl⟩ := h
    exact ⟨St.le.refl _, fun m of' c eb a w _ _ _ hs => wpIn_exit ⟨rfl, hs⟩⟩
  | region id ops draw =>
    intro _ σ ex σ' h
    simp only [exec] at h
    cases draw with
    | false =>
      simp only at h
      split at h <;> try (cases h; done)
      rename_i hd
      split at h <;> try (cases h; done)
      rename_i Es σ2 hr
      simp only [Option.some.injEq, Prod.mk.injEq] at h
      obtain ⟨rfl, rfl⟩ := h
      exact ⟨runOps_le _ _ _ _ hr, fun m of' c eb a w hn hfit hbs hs => wp_plain hT hK hd hr hn hfit hs (fun a' w' h' => ⟨rfl, h'⟩)⟩
    | true =>
      simp only at h
      split at h <;> try (cases h; done)
      rename_i hd
      split at h <;> try (cases h; done)
      rename_i Es σ2 hr
      split at h
      · rename_i hdy
        simp only [Option.some.injEq, Prod.mk.injEq] at h
        obtain ⟨rfl, rfl⟩ := h
        exact ⟨runOps_le _ _ _ _ hr, fun m of' c eb a w hn hfit hbs hs => wp_drawn hm hT hK hd hr hdy hn hfit hs (fun a' w' h' => ⟨rfl, h'⟩)⟩
      · split at h <;> try (cases h; done)
        rename_i Es2 σ3 hr2
        split at h <;> try (cases h; done)
        rename_i hdy
        simp only [Option.some.injEq, Prod.mk.injEq] at h
        obtain ⟨rfl, rfl⟩ := h
        have l2 := runOps_le _ _ _ _ hr2
        exact ⟨(St.pre_le _ _).trans l2, fun m of' c eb a w hn hfit hbs hs => wp_drawn hm hT hK hd hr2 hdy hn hfit (hs.pre (fun id hid => hfit.rd id (l2.1 id hid))) (fun a' w' h' => ⟨rfl, h'⟩)⟩
  | seq x y ihx ihy =>
    intro hl σ ex σ' h
    simp only [exec] at h
    split at h
    · rename_i σ1 hx
      obtain ⟨l1, k1⟩ := ihx hl.1 _ _ _ hx
      obtain ⟨l2, k2⟩ := ihy hl.2 _ _ _ h
      refine ⟨l1.trans l2, fun m of' c eb a w hn hfit hbs hs => wpIn_seq (wpI_mono ?_ (k1 m of' c eb a w hn (hfit.mono l2) hbs hs))⟩
      rintro e' a' w' ⟨rfl, hs'⟩
      exact k2 m of' c eb a' w' (Nat.le_trans hn l1.2) hfit hbs hs'
    · rename_i r0 hne
      obtain ⟨l1, k1⟩ := ihx hl.1 _ _ _ h
      have hex : ex ≠ .normal := by intro he; subst he; exact hne _ h
      refine ⟨l1, fun m of' c eb a w hn hfit hbs hs => wpIn_seq (wpI_mono ?_ (k1 m of' c eb a w hn hfit hbs hs))⟩
      rintro e' a' w' ⟨rfl, hs'⟩
      cases e' with
      | normal => exact absurd rfl hex
      | _ => exact ⟨rfl, hs'⟩
  | cond q x y ihx ihy =>
    intro hl σ ex σ' h
    simp only [exec] at h
    split at h <;> try (cases h; done)
    · rename_i hq
      obtain ⟨l1, k1⟩ := ihx hl.1 _ _ _ h
      exact ⟨l1, fun m of' c eb a w hn hfit hbs hs => wpIn_cond (hs.cond hq) (k1 m of' c eb a w hn hfit hbs hs)⟩
    · rename_i hq
      obtain ⟨l1, k1⟩ := ihy hl.2 _ _ _ h
      exact ⟨l1, fun m of' c eb a w hn hfit hbs hs => wpIn_cond (hs.cond hq) (k1 m of' c eb a w hn hfit hbs hs)⟩
  | block id body ih =>
    intro hl σ ex σ' h
    simp only [exec] at h
    split at h
    · rename_i id' σ1 hb
      obtain ⟨l1, k1⟩ := ih hl _ _ _ hb
      injection h with h; injection h with h1 h2
      subst h2
      refine ⟨l1, fun m of' c eb a w hn hfit hbs hs => wpIn_block (wpI_mono ?_ (k1 m of' c eb a w hn hfit hbs hs))⟩
      rintro e' a' w' ⟨rfl, hs'⟩
      by_cases hid : id' = id
      · subst hid
        rw [if_pos (Nat.beq_refl _)] at h1
        subst h1
        simp only [Exit.inBlock, if_true]
        exact ⟨trivial, hs'⟩
      · rw [if_neg (fun q => hid (Nat.eq_of_beq_eq_true q))] at h1
        subst h1
        simp only [Exit.inBlock, if_neg hid]
        exact ⟨trivial, hs'⟩
    · rename_i r0 hne
      obtain ⟨l1, k1⟩ := ih hl _ _ _ h
      have hex : ∀ id', ex ≠ .exit id' := by intro id' he; subst he; exact hne _ _ h
      refine ⟨l1, fun m of' c eb a w hn hfit hbs hs => wpIn_block (wpI_mono ?_ (k1 m of' c eb a w hn hfit hbs hs))⟩
      rintro e' a' w' ⟨rfl, hs'⟩
      cases e' with
      | exit id' => exact absurd rfl (hex id')
      | _ => exact ⟨rfl, hs'⟩
  | loop body ih =>
    intro hl σ ex σ' h
    simp only [exec] at h
    split at h
    · rename_i s hs
      exact hl.1 s hs of σ ex σ' h
    · obtain ⟨l1, k1⟩ := unroll_ok (fun σ ex σ' h => ih hl.2 σ ex σ' h) fu σ ex σ' h
      exact ⟨l1, fun m of' c eb a w hn hfit hbs hs => wpIn_loop_rounds fu (k1 m of' c eb a w hn hfit hbs hs)⟩
  | rangeFunc g ps asg body _ _ =>
    intro _ σ ex σ' h
    simp only [exec] at h
    exact rangeA_ok hK h
  | _ => intro _ σ ex σ' h; simp only [exec] at h; cases h
end Go.Vm

end
