/- What the steps of a program do, shown once for all programs; and numbers. -/
import Derived.Test.YtbpjohmegacdhaaEng2
import Derived.LoopN
namespace Go.Eng
open Go.RowKit
variable {P : Program} {T : TT} {c : Ctx} {e : Env} {of : Nat → Option Obj}

/-! ### One operation -/
abbrev Sym := List AV → (Nat → Option Obj) → Nat → Option Out
inductive Reps (e : Env) : List AV → List Value → Prop
  | nil : Reps e [] []
  | cons {v x r s} : Rep e v x → Reps e r s → Reps e (v :: r) (x :: s)
/-- What a call of f does. -/
def SymOK (P : Program) (f : FuncId) (s : Sym) : Prop :=
  ∀ (c : Ctx) (e : Env) (of of' : Nat → Option Obj) (args : List AV) (vals : Array Value) (nx : Nat) (out : Out), OSim c e of' → s args of nx = some out → out.pre → (∀ id ∈ out.ro, of' id = of id) → (∀ id ∈ out.nw, ¬ e.U id) → Reps e args vals.toList →
    Does P (callFunc f vals) e.w (Left c e of' out)
/-- Which way, and by what law. -/
inductive An where
  | b (t : Bool)
  | m
  | k (s : Sym)
  | w (d : Nat) (v : AV)
  | o (d : Nat) (wo : List (Nat × Obj))
  | e (d : Nat) (r : List AV)
  | s (d : Nat)
def pickAV : AV → AV → Bool → Option AV
  | .pl (.int k a), .pl (.int k' b), q => some (.pl (if q then .int k a else .int k' b))
  | .pl (.bool a), .pl (.bool b), q => some (.pl (.bool (if q then a else b)))
  | _, _, _ => none
def partsAV (ev : Operand → AV) (parts : List (Nat × Operand)) : List (Nat × AV) := parts.map fun p => (p.1, ev p.2)
def elemOf (T : TT) (t : Nat) : Option (Nat × TE) :=
  match T t with
  | some te => match te.k with
    | .slice el => (T el).map fun x => (el, x)
    | _ => none
  | none => none
def buildAV (T : TT) (t : Nat) (parts : List (Nat × AV)) : Option AV :=
  match T t with
  | some te => match te.k with
    | .struct fs => match sizesOf T fs with
      | some ps => (fillC (ps[·]?) te.zero parts).map .ag
      | none => none
    | .arr n el => match T el, te.zero with
      | some tel, [.ar k z0] => if tel.size = 1 ∧ k = n then (fillE n z0 parts).map fun es => .ag [.ar n es] else none
      | _, _ => none
    | _ => none
  | none => none
def intV : AV → Option Int
  | .pl (.int _ i) => some i
  | _ => none
def fieldOf (T : TT) (s f : Nat) : Option (Nat × Nat × TE) :=
  match T s with
  | some te => match te.k with
    | .struct fs => match fs[f]? with
      | some (off, ft) => (T ft).map fun x => (off, ft, x)
      | none => none
    | _ => none
  | none => none
def nilAV (of : Nat → Option Obj) : AV → Option Out
  | .pt id off => some (.pure (.pt id off))
  | .pe id off n i => some (.pure (.pe id off n i))
  | .rp l => some (.pure (.rp l))
  | .re id ver z i off => match of id with
    | some (.row _ v _ _) => some ⟨.re id ver z i off, [], [id], [], v = ver⟩
    | _ => none
  | _ => none
def isStr : AV → Bool
  | .pl (.string _) => true
  | _ => false
def sliceAV (T : TT) (of : Nat → Option Obj) (t : Nat) (x : AV) (lo hi : Option AV) : Option Out :=
  match T t with
  | some te => match te.k with
    | .str => match x with
      | .pl (.string s) => match bnd (0 : Nat) lo, bnd s.size hi with
        | some l, some h => some (.when (.pl (.string (s.extract l.toNat h.toNat))) (0 ≤ l ∧ l ≤ h ∧ h ≤ s.size))
        | _, _ => none
      | _ => none
    | .slice el => match T el with
      | some tel => match x with
        | .ow id ver off n z => match of id, bnd (0 : Nat) lo, bnd n hi with
          | some (.row _ v _ _), some l, some h => some ⟨.ow id ver (off + l.toNat) (h - l).toNat z, [], [id], [], v = ver ∧ z = tel.size ∧ 0 ≤ l ∧ l ≤ h ∧ h ≤ n⟩
          | _, _, _ => none
        | .sl d rows => match bnd (0 : Nat) lo, bnd rows.length hi with
          | some l, some h => some (.when (.sl d ((rows.drop l.toNat).take (h - l).toNat)) (wid d = tel.size ∧ 0 ≤ l ∧ l ≤ h ∧ h ≤ rows.length))
          | _, _ => none
        | .bs id off n lo0 m => match bnd (0 : Nat) lo, bnd m hi with
          | some l, some h => some (.when (.bs id off n (lo0 + l.toNat) (h - l).toNat) (tel.size = 1 ∧ 0 ≤ l ∧ l ≤ h ∧ h ≤ m))
          | _, _ => none
        | _ => none
      | none => none
    | .arr n el => match T el with
      | some tel => match x with
        | .pt id off => match bnd (0 : Nat) lo, bnd n hi with
          | some l, some h => some (.when (.bs id off n l.toNat (h - l).toNat) (tel.size = 1 ∧ 0 ≤ l ∧ l ≤ h ∧ h ≤ n))
          | _, _ => none
        | _ => none
      | none => none
    | _ => none
  | none => none
def callAV (P : Program) (T : TT) (of : Nat → Option Obj) (nx : Nat) (an : List An) (k : Call) (args : List AV) : Option (Out × List An) :=
  match k.callee with
  | .value (.func f) => match an with
    | .k s :: r => match s args of nx with
      | some out => some (⟨out.val, out.wo, out.ro, out.nw, SymOK P f s ∧ out.pre⟩, r)
      | none => none
    | _ => none
  | .builtin .len => match k.argTypes.toList, args with
    | [t], [v] => match T t with
      | some te => match te.k with
        | .str => if isStr v then (lenAV of v).map (·, an) else none
        | .slice _ => if isStr v then none else (lenAV of v).map (·, an)
        | _ => none
      | none => none
    | _, _ => none
  | .builtin .append => match k.argTypes.toList, args with
    | [t, xt], [u, v] => match elemOf T t, T xt with
      | some (_, tel), some te => match te.k with
        | .str => (appendAV tel of nx u v).map (·, an)
        | .slice _ => if isStr v then none else (appendAV tel of nx u v).map (·, an)
        | _ => none
      | _, _ => none
    | _, _ => none
  | .builtin .min => match args with
    | [u, v] => (extAV false [u, v]).map fun r => (.pure r, an)
    | _ => none
  | .builtin .max => match args with
    | [u, v] => (extAV true [u, v]).map fun r => (.pure r, an)
    | _ => none
  | _ => none
def whenP : Option (AV × Prop) → Option Out
  | some (v, p) => some (.when v p)
  | none => none
def assignAV (T : TT) (ty : Nat) (nx : Nat) (x : Operand) (v : AV) : Option Out :=
  match x with
  | .const (.slice none n k) => match elemOf T ty with
    | some (_, te) => some ⟨.ow nx 1 0 0 te.size, [(nx, .row te.zero 1 [] false)], [], [nx], n = 0 ∧ k = 0 ∧ 0 < te.size⟩
    | none => none
  | _ => some (.pure v)
def TK.isBool : TK → Bool
  | .bool => true
  | _ => false
def isDst (d : Nat) : Option Nat → Bool
  | some k => Nat.beq k d
  | none => Nat.beq 99999 d
/-- A load or a store at a place of a row whose content is told. -/
def loadE (te : TE) (of : Nat → Option Obj) (r : List AV) : AV → Option Out
  | .re id ver z i off => match of id with
    | some (.row d v rows _) => match dropW off r with
      | some m => match takeW te.size m with
        | some q => (value te.k.agg q).map fun x => ⟨x, [], [id], [], (v = ver ∧ z = wid d ∧ 0 ≤ i ∧ i < rows.length) ∧ rows.getD i.toNat d = r⟩
        | none => none
      | none => none
    | _ => none
  | _ => none
def storeE (te : TE) (of : Nat → Option Obj) (r : List AV) (v : AV) : AV → Option Out
  | .re id ver z i off => match of id, pieces v with
    | some (.row d v' rows false), some q => (setW off q r).map fun r' => ⟨.junk, [(id, .row d v' (rows.set i.toNat r') false)], [id], [], (v' = ver ∧ z = wid d ∧ 0 ≤ i ∧ i < rows.length ∧ wid q = te.size) ∧ rows.getD i.toNat d = r⟩
    | _, _ => none
  | _ => none
def stepOp (P : Program) (T : TT) (ev : Operand → AV) (of : Nat → Option Obj) (nx : Nat) (an : List An) (o : Oper) : Option (Out × List An) :=
  match o.op with
  | .move x => some (.pure (ev x), an)
  | .assign x => (assignAV T o.type nx x (ev x)).map (·, an)
  | .pick q a b => match ev q with
    | .pl (.bool t) => match an with
      | .b s :: r => some (.when (if s then ev a else ev b) (t = s), r)
      | .m :: r => (pickAV (ev a) (ev b) t).map fun v => (.pure v, r)
      | _ => none
    | _ => none
  | .alloc el => (T el).map fun te => (⟨.pt nx 0, [(nx, .box te.zero false)], [], [nx], True⟩, an)
  | .box _ x => (pieces (ev x)).map fun l => (⟨.pt nx 0, [(nx, .box l false)], [], [nx], True⟩, an)
  | .build t parts => (buildAV T t (partsAV ev parts.toList)).map fun v => (.pure v, an)
  | .buildSlice t len parts => match elemOf T t with
    | some (_, te) => (fillR te.size (List.replicate len te.zero) (partsAV ev parts.toList)).map fun rows =>
        (⟨.ow nx 1 0 len te.size, [(nx, .row te.zero 1 rows false)], [], [nx], 0 < te.size ∧ len * te.size ≤ 16777216⟩, an)
    | none => none
  | .load t a => match T t with
    | some te => match an with
      | .e d r :: an' => if isDst d o.dst then (loadE te of r (ev a)).map (·, an') else (loadAV te of (ev a)).map (·, an)
      | _ => (loadAV te of (ev a)).map (·, an)
    | none => none
  | .store t a x => match T t with
    | some te => match an with
      | .e d r :: an' => if isDst d o.dst then (storeE te of r (ev x) (ev a)).map (·, an') else (storeAV te of (ev x) (ev a)).map (·, an)
      | _ => (storeAV te of (ev x) (ev a)).map (·, an)
    | none => none
  | .sliceToArrayPointer t x => match T t with
    | some te => match te.k with
      | .arr n el => match T el, ev x with
        | some tel, .sl d rows => if tel.size = 1 then some (.when (.rp [.ar n ((rows.take n).map fun r => r.headD .junk)]) (wid d = 1 ∧ n ≤ rows.length ∧ 0 < n ∧ ∀ r ∈ rows, r.length = 1 ∧ ∀ v ∈ r, scalar v = true), an) else none
        | some tel, .bs id off N lo m => if tel.size = 1 then some (.when (.pe id off N (lo : Int)) (n ≤ m ∧ 0 < n), an) else none
        | _, _ => none
      | _ => none
    | none => none
  | .nilCheck x => (nilAV of (ev x)).map (·, an)
  | .binOp op t x y _ => match T t with
    | some te =>
      if te.k.agg || te.k.isBool then
        match op with
        | .eql => (eqAV T te (ev x) (ev y)).map fun r => (.when (.pl (.bool r.1)) r.2, an)
        | .neq => (eqAV T te (ev x) (ev y)).map fun r => (.when (.pl (.bool (!r.1))) r.2, an)
        | _ => none
      else (binAV op (ev x) (ev y)).map fun r => (.when r.1 r.2, an)
    | none => none
  | .unOp op _ x => (unAV op (ev x)).map fun v => (.pure v, an)
  | .convert s t x => match T s, T t with
    | some _, some te => match te.k, ev x with
      | .int k, .pl (.int _ n) => some (.pure (.pl (.int k (k.wrap n))), an)
      | _, _ => none
    | _, _ => none
  | .makeSlice t l k => match elemOf T t, ev l, ev k with
    | some (_, te), .pl (.int _ a), .pl (.int _ b) => some (⟨.ow nx 1 0 a.toNat te.size, [(nx, .row te.zero 1 (List.replicate a.toNat te.zero) false)], [], [nx],
        0 < te.size ∧ 0 ≤ a ∧ a ≤ b ∧ b * te.bytes ≤ 140737488355328 ∧ b ≤ 4611686018427387904⟩, an)
    | _, _, _ => none
  | .slice t x lo hi none => (sliceAV T of t (ev x) (lo.map ev) (hi.map ev)).map (·, an)
  | .fieldAddr s x f => match fieldOf T s f with
    | some (off, _, te) => if te.size = 0 then none else (fieldAddrAV off of (ev x)).map (·, an)
    | none => none
  | .field s x f => match fieldOf T s f with
    | some (off, _, te) => (fieldAV te off (ev x)).map fun v => (.pure v, an)
    | none => none
  | .indexAddr t x ix => match T t, intV (ev ix) with
    | some te, some i => match te.k with
      | .slice el => match T el with
        | some tel => (indexAddrAV none tel of i (ev x)).map (·, an)
        | none => none
      | .arr n el => match T el with
        | some tel => (indexAddrAV (some n) tel of i (ev x)).map (·, an)
        | none => none
      | _ => none
    | _, _ => none
  | .index t x ix => match T t, intV (ev ix) with
    | some te, some i => match te.k with
      | .str => (whenP (indexStr i (ev x))).map (·, an)
      | .arr n el => match T el with
        | some tel => match ev x with
          | .ag [.ar k es] => if k = n then (whenP (indexAV tel i (.ag [.ar k es]))).map (·, an) else none
          | _ => none
        | none => none
      | _ => none
    | _, _ => none
  | .extract x i => (extractAV i (ev x)).map fun v => (.pure v, an)
  | .call k => callAV P T of nx an k (k.args.toList.map ev)
  | _ => none
/-- A result that nobody will write any more. -/
def shareAV (of : Nat → Option Obj) : AV → Option (AV × Nat × Obj × Prop)
  | .ow id ver off n z => match of id with
    | some (.row d v rows _) => some (.sl d ((rows.drop off).take n), id, .row d v rows true, v = ver ∧ z = wid d ∧ off + n ≤ rows.length)
    | _ => none
  | .bs id off n lo m => match of id with
    | some (.box l _) => match dropW off l with
      | some (.ar k es :: _) => match es with
        | e0 :: _ => some (.sl [e0] (((es.drop lo).take m).map fun v => [v]), id, .box l true, k = n ∧ wid1 e0 = 1 ∧ lo + m ≤ n)
        | [] => none
      | _ => none
    | _ => none
  | _ => none
def shareOut (of : Nat → Option Obj) (out : Out) : Option Out :=
  match shareAV (put of out.wo) out.val with
  | some (v, id, ob, p) => some ⟨v, out.wo ++ [(id, ob)], id :: out.ro, out.nw, out.pre ∧ p⟩
  | none => none
/-- One operation, and what is known of its result besides. -/
def stepX (P : Program) (T : TT) (ev : Operand → AV) (of : Nat → Option Obj) (nx : Nat) (o : Oper) : List An → Option (Out × List An)
  | .w d v :: r => if isDst d o.dst then
      match stepX P T ev of nx o r with
      | some (out, r') => some (⟨v, out.wo, out.ro, out.nw, out.pre ∧ out.val = v⟩, r')
      | none => none
    else stepOp P T ev of nx (.w d v :: r) o
  | .o d wo :: r => if isDst d o.dst then
      match stepX P T ev of nx o r with
      | some (out, r') => some (⟨out.val, wo, out.ro, out.nw, out.pre ∧ out.wo = wo⟩, r')
      | none => none
    else stepOp P T ev of nx (.o d wo :: r) o
  | .s d :: r => if isDst d o.dst then
      match stepX P T ev of nx o r with
      | some (out, r') => (shareOut of out).map (·, r')
      | none => none
    else stepOp P T ev of nx (.s d :: r) o
  | an => stepOp P T ev of nx an o
end Go.Eng

namespace Go.Eng
open Go.RowKit
variable {P : Program} {T : TT} {c : Ctx} {e : Env} {of : Nat → Option Obj}

theorem fits_slice {t el : Nat} {te : TE} (h : TEok P t te) (hk : te.k = .slice el) : P.underlying t = some (.slice el) := by
  obtain ⟨i, d, z, h1, h2, h3, h4, h5, _⟩ := h.fits
  rw [hk] at h5
  cases d <;> simp only [TK.fits] at h5
  subst h5; exact h2
theorem fits_str {t : Nat} {te : TE} (h : TEok P t te) (hk : te.k = .str) : P.underlying t = some .string := by
  obtain ⟨i, d, z, h1, h2, h3, h4, h5, _⟩ := h.fits
  rw [hk] at h5
  cases d <;> simp only [TK.fits] at h5
  exact h2
theorem elemOf_spec (hT : T.OK P) {t el : Nat} {te : TE} (h : elemOf T t = some (el, te)) : P.underlying t = some (.slice el) ∧ TEok P el te := by
  unfold elemOf at h
  split at h <;> try (cases h; done)
  rename_i te' ht
  split at h <;> try (cases h; done)
  rename_i el' hk
  rw [Option.map_eq_some_iff] at h
  obtain ⟨x, hx, h⟩ := h
  injection h with h1 h2
  subst h1; subst h2
  exact ⟨fits_slice (hT _ _ ht) hk, hT _ _ hx⟩
theorem fieldOf_spec (hT : T.OK P) {s f off ft : Nat} {te : TE} (h : fieldOf T s f = some (off, ft, te)) : ∃ (gs : Array Field) (g : Field), P.underlying s = some (.struct gs) ∧ gs[f]? = some g ∧ g.offset = off ∧ TEok P g.type te := by
  unfold fieldOf at h
  split at h <;> try (cases h; done)
  rename_i te' ht
  split at h <;> try (cases h; done)
  rename_i fs hk
  split at h <;> try (cases h; done)
  rename_i off' ft' hf
  rw [Option.map_eq_some_iff] at h
  obtain ⟨x, hx, h⟩ := h
  simp only [Prod.mk.injEq] at h
  obtain ⟨rfl, rfl, rfl⟩ := h
  obtain ⟨gs, h1, h2⟩ := fits_struct (hT _ _ ht) hk
  rw [← h2, List.getElem?_map, Option.map_eq_some_iff] at hf
  obtain ⟨g, hg, hgg⟩ := hf
  injection hgg with g1 g2
  subst g1; subst g2
  exact ⟨gs, g, h1, by simpa using hg, rfl, hT _ _ hx⟩
theorem parts_rep {ev : Operand → AV} {ρ : Operand → Value} (hx : ∀ x, Rep e (ev x) (ρ x)) : ∀ (l : List (Nat × Operand)), RepP e (partsAV ev l) (l.map fun p => (p.1, ρ p.2)) := by
  intro l
  induction l with
  | nil => exact .nil
  | cons p r ih => exact .cons (hx _) ih
theorem buildAV_ok (hT : T.OK P) {t : Nat} {parts : List (Nat × AV)} {vals : List (Nat × Value)} {v : AV} (h : OSim c e of) (hp : RepP e parts vals) (hr : buildAV T t parts = some v) {ro : List Nat} {p : Prop} :
    Does P (do pure (.value (← Instr.build t vals.toArray))) e.w (Left c e of ⟨v, [], ro, [], p⟩) := by
  unfold buildAV at hr
  split at hr <;> try (cases hr; done)
  rename_i te ht
  split at hr <;> try (cases hr; done)
  · rename_i fs hk
    split at hr <;> try (cases hr; done)
    rename_i ps hps
    rw [Option.map_eq_some_iff] at hr
    obtain ⟨l, hl, rfl⟩ := hr
    exact law_build_struct hT h ht hk hps hp hl
  · rename_i n el hk
    split at hr <;> try (cases hr; done)
    rename_i tel k z0 htel hz
    split at hr <;> try (cases hr; done)
    rename_i hc
    obtain ⟨h1, rfl⟩ := hc
    rw [Option.map_eq_some_iff] at hr
    obtain ⟨es, hes, rfl⟩ := hr
    exact law_build_arr h (hT _ _ ht) hk (hT _ _ htel) h1 hz hp hes
theorem nilAV_ok {of' : Nat → Option Obj} {out : Out} {v : AV} {ρ : Operand → Value} {o : Oper} {y : Operand} (hop : o.op = .nilCheck y) (h : OSim c e of') (hr : nilAV of v = some out) (hp : out.pre) (ho : ∀ id ∈ out.ro, of' id = of id) (hx : Rep e v (ρ y)) :
    Does P (execOp ρ o) e.w (Left c e of' out) := by
  have key : ∀ a, ρ y = .pointer (some a) → ∀ {ro p}, Does P (execOp ρ o) e.w (Left c e of' ⟨v, [], ro, [], p⟩) := fun a ha {ro p} => by
    have : execOp ρ o = pure (.value (ρ y)) := by simp [execOp, hop, ha]
    rw [this]
    exact .inl ⟨ρ y, e.w, by simp, left_same h hx⟩
  have hx' := hx
  unfold nilAV at hr
  split at hr <;> try (cases hr; done)
  · injection hr with hr; subst hr
    generalize hz : ρ y = z at hx'
    cases hx' with | pt => exact key _ hz
  · injection hr with hr; subst hr
    generalize hz : ρ y = z at hx'
    cases hx' with | pe => exact key _ hz
  · injection hr with hr; subst hr
    generalize hz : ρ y = z at hx'
    cases hx' with | rp => exact key _ hz
  · split at hr <;> try (cases hr; done)
    rename_i hof
    injection hr with hr; subst hr
    obtain ⟨b, o, u0, u1, u2, u3, u4, hxe⟩ := re_inv h (by rw [ho _ (by simp)]; exact hof) hp hx
    exact key _ hxe
theorem map_rep {ev : Operand → AV} {ρ : Operand → Value} (hx : ∀ x, Rep e (ev x) (ρ x)) (o : Option Operand) : RepO e (o.map ev) (o.map ρ) := by
  cases o with
  | none => exact .none
  | some x => exact .some (hx x)
theorem sliceAV_ok (hT : T.OK P) {of' : Nat → Option Obj} {out : Out} {t : Nat} {v : AV} {x : Value} {lo hi : Option AV} {lo' hi' : Option Value} (h : OSim c e of') (hr : sliceAV T of t v lo hi = some out) (hp : out.pre) (ho : ∀ id ∈ out.ro, of' id = of id) (hx : Rep e v x)
    (hlo : RepO e lo lo') (hhi : RepO e hi hi') : Does P (do pure (.value (← Instr.sliceAt t x lo' hi' none))) e.w (Left c e of' out) := by
  unfold sliceAV at hr
  split at hr <;> try (cases hr; done)
  rename_i te ht
  have hok := hT _ _ ht
  split at hr <;> try (cases hr; done)
  · rename_i hk
    split at hr <;> try (cases hr; done)
    split at hr <;> try (cases hr; done)
    rename_i l hh hl hhh
    injection hr with hr; subst hr
    obtain ⟨h0, h1, h2⟩ := hp
    exact law_slice_str h (fits_str hok hk) hx hlo hhi hl hhh h0 h1 h2
  · rename_i el hk
    split at hr <;> try (cases hr; done)
    rename_i tel htel
    have hoke := hT _ _ htel
    split at hr <;> try (cases hr; done)
    · split at hr <;> try (cases hr; done)
      rename_i hof hl hhh
      injection hr with hr; subst hr
      obtain ⟨rfl, hz, h0, h1, h2⟩ := hp
      exact law_slice_ow h (fits_slice hok hk) hoke hz (by rw [ho _ (by simp)]; exact hof) hx hlo hhi hl hhh h0 h1 h2
    · split at hr <;> try (cases hr; done)
      rename_i l hh hl hhh
      injection hr with hr; subst hr
      obtain ⟨hz, h0, h1, h2⟩ := hp
      exact law_slice_sl h (fits_slice hok hk) hoke hz hx hlo hhi hl hhh h0 h1 h2
    · split at hr <;> try (cases hr; done)
      rename_i l hh hl hhh
      injection hr with hr; subst hr
      obtain ⟨hz, h0, h1, h2⟩ := hp
      exact law_slice_bs h (fits_slice hok hk) hoke hz hx hlo hhi hl hhh h0 h1 h2
  · rename_i n el hk
    split at hr <;> try (cases hr; done)
    rename_i tel htel
    split at hr <;> try (cases hr; done)
    split at hr <;> try (cases hr; done)
    rename_i l hh hl hhh
    injection hr with hr; subst hr
    obtain ⟨hz, h0, h1, h2⟩ := hp
    exact law_slice_pt h (fits_arr hok hk).1 (hT _ _ htel) hz hx hlo hhi hl hhh h0 h1 h2
theorem run_resolve {ρ : Operand → Value} (hf : ∀ f, ρ (.func f) = .func (.func f) #[] #[]) {k : Call} {f : FuncId} (hk : k.callee = .value (.func f)) (ty : TypeId) (w : World) :
    (resolve ρ k ty).run P w = .ok { target := .fn (.func f) #[], args := k.args.map ρ } w := by
  simp [resolve, hk, hf, Deferred.ofValue]
theorem does_congr {s s' : Sem Next} {w : World} {R : Value → World → Prop} (h : ∀ w, s.run P w = s'.run P w) (hd : Does P s' w R) : Does P s w R := by
  unfold Does at hd ⊢
  rw [h]; exact hd
theorem one_arg {ev : Operand → AV} {a : Array Operand} {v : AV} (h : a.toList.map ev = [v]) : ∃ x, a = #[x] ∧ v = ev x := by
  obtain ⟨l⟩ := a
  match l, h with
  | [x], h => simp at h; exact ⟨x, rfl, h.symm⟩
theorem two_args {ev : Operand → AV} {a : Array Operand} {u v : AV} (h : a.toList.map ev = [u, v]) : ∃ x y, a = #[x, y] ∧ u = ev x ∧ v = ev y := by
  obtain ⟨l⟩ := a
  match l, h with
  | [x, y], h => simp at h; exact ⟨x, y, rfl, h.1.symm, h.2.symm⟩
theorem isStr_spec {v : AV} (h : isStr v = true) : ∃ s, v = .pl (.string s) := by
  unfold isStr at h
  split at h
  · exact ⟨_, rfl⟩
  · cases h
theorem callAV_ok (hT : T.OK P) {of' : Nat → Option Obj} {nx : Nat} {an an' : List An} {k : Call} {ev : Operand → AV} {ρ : Operand → Value} {out : Out} (h : OSim c e of') (hr : callAV P T of nx an k (k.args.toList.map ev) = some (out, an')) (hp : out.pre) (ho : ∀ id ∈ out.ro, of' id = of id)
    (hu : ∀ id ∈ out.nw, ¬ e.U id) (hρ : ∀ f, ρ (.func f) = .func (.func f) #[] #[]) (hx : ∀ x, Rep e (ev x) (ρ x)) (ty : TypeId) :
    Does P (do let d ← resolve ρ k ty; invoke d.target d.args) e.w (Left c e of' out) := by
  have hargs : ∀ l : List Operand, Reps e (l.map ev) (l.map ρ) := by
    intro l
    induction l with
    | nil => exact .nil
    | cons x r ih => exact .cons (hx x) ih
  unfold callAV at hr
  split at hr <;> try (cases hr; done)
  · rename_i f hk
    split at hr <;> try (cases hr; done)
    rename_i s r
    split at hr <;> try (cases hr; done)
    rename_i o2 hs
    injection hr with hr
    simp only [Prod.mk.injEq] at hr
    obtain ⟨rfl, rfl⟩ := hr
    obtain ⟨hok, hp⟩ := hp
    have hres := run_resolve (P := P) hρ hk ty e.w
    have q1 := hok c e of of' _ (k.args.map ρ) nx o2 h hs hp ho hu (by rw [Array.toList_map]; exact hargs _)
    have heq : (do let d ← resolve ρ k ty; invoke d.target d.args : Sem Next).run P e.w = (callFunc f (k.args.map ρ)).run P e.w := by
      simp [hres, invoke]
    unfold Does at q1 ⊢
    rw [heq]
    exact q1
  · rename_i hk
    split at hr <;> try (cases hr; done)
    rename_i t v hty har
    obtain ⟨x, hx1, rfl⟩ := one_arg har
    have hty1 : k.argTypes = #[t] := by have := congrArg List.toArray hty; simpa using this
    split at hr <;> try (cases hr; done)
    rename_i te ht
    have hok := hT _ _ ht
    have hrun : ∀ w, (do let d ← resolve ρ k ty; invoke d.target d.args : Sem Next).run P w = (do pure (.value (← Builtin.len_ #[t] ty #[ρ x])) : Sem Next).run P w := fun w => by
      simp [resolve, hk, invoke, builtin, hty1, hx1]
    refine does_congr hrun ?_
    split at hr <;> try (cases hr; done)
    · rename_i hkk
      split at hr <;> try (cases hr; done)
      rename_i hs
      obtain ⟨o2, h2, h3⟩ := Option.map_eq_some_iff.1 hr
      injection h3 with h3 h4
      subst h3
      have hu' := fits_str hok hkk
      exact lenAV_ok h (.inr hu') ⟨fun _ => hu', fun _ => isStr_spec hs⟩ h2 hp ho (hx x)
    · rename_i el hkk
      split at hr <;> try (cases hr; done)
      rename_i hs
      obtain ⟨o2, h2, h3⟩ := Option.map_eq_some_iff.1 hr
      injection h3 with h3 h4
      subst h3
      have hu' := fits_slice hok hkk
      exact lenAV_ok h (.inl ⟨_, hu'⟩) ⟨fun ⟨s, hs'⟩ => by rw [hs'] at hs; exact absurd rfl hs, fun hq => by rw [hu'] at hq; cases hq⟩ h2 hp ho (hx x)
  · rename_i hk
    split at hr <;> try (cases hr; done)
    rename_i t xt u v hty har
    obtain ⟨x, y, hx1, rfl, rfl⟩ := two_args har
    have hty1 : k.argTypes = #[t, xt] := by have := congrArg List.toArray hty; simpa using this
    split at hr <;> try (cases hr; done)
    rename_i el tel te htel hte
    obtain ⟨he1, he2⟩ := elemOf_spec hT htel
    have hok := hT _ _ hte
    have hrun : ∀ w, (do let d ← resolve ρ k ty; invoke d.target d.args : Sem Next).run P w = (do pure (.value (← Builtin.append_ #[t, xt] ty #[ρ x, ρ y])) : Sem Next).run P w := fun w => by
      simp [resolve, hk, invoke, builtin, hty1, hx1]
    split at hr <;> try (cases hr; done)
    · rename_i hkk
      obtain ⟨o2, h2, h3⟩ := Option.map_eq_some_iff.1 hr
      injection h3 with h3 h4
      subst h3
      have hu' := fits_str hok hkk
      exact does_congr hrun (appendAV_ok h he1 he2 (.inr hu') (fun _ _ => hu') h2 hp ho hu (hx x) (hx y))
    · rename_i el' hkk
      split at hr <;> try (cases hr; done)
      rename_i hs
      obtain ⟨o2, h2, h3⟩ := Option.map_eq_some_iff.1 hr
      injection h3 with h3 h4
      subst h3
      have hu' := fits_slice hok hkk
      exact does_congr hrun (appendAV_ok h he1 he2 (.inl ⟨_, hu'⟩) (fun s hs' => by rw [hs'] at hs; exact absurd rfl hs) h2 hp ho hu (hx x) (hx y))
  · rename_i hk
    split at hr <;> try (cases hr; done)
    rename_i u v har
    obtain ⟨x, y, hx1, rfl, rfl⟩ := two_args har
    obtain ⟨o2, h2, h3⟩ := Option.map_eq_some_iff.1 hr
    injection h3 with h3 h4
    subst h3
    have hrun : ∀ w, (do let d ← resolve ρ k ty; invoke d.target d.args : Sem Next).run P w = (do pure (.value (← Builtin.min_ k.argTypes ty #[ρ x, ρ y])) : Sem Next).run P w := fun w => by
      simp [resolve, hk, invoke, builtin, hx1]
    exact does_congr hrun (min_ok h h2 (hx x) (hx y))
  · rename_i hk
    split at hr <;> try (cases hr; done)
    rename_i u v har
    obtain ⟨x, y, hx1, rfl, rfl⟩ := two_args har
    obtain ⟨o2, h2, h3⟩ := Option.map_eq_some_iff.1 hr
    injection h3 with h3 h4
    subst h3
    have hrun : ∀ w, (do let d ← resolve ρ k ty; invoke d.target d.args : Sem Next).run P w = (do pure (.value (← Builtin.max_ k.argTypes ty #[ρ x, ρ y])) : Sem Next).run P w := fun w => by
      simp [resolve, hk, invoke, builtin, hx1]
    exact does_congr hrun (max_ok h h2 (hx x) (hx y))
end Go.Eng

namespace Go.Eng
open Go.RowKit
variable {P : Program} {T : TT} {c : Ctx} {e : Env} {of : Nat → Option Obj}

theorem does_unit {s : Sem Unit} {w w' : World} {R : Value → World → Prop} (h : s.run P w = .ok () w') (hr : R undef w') : Does P (do s; pure .skip) w R := .inr (.inl ⟨w', by simp [h], hr⟩)
theorem intV_spec {v : AV} {i : Int} {x : Value} (h : intV v = some i) (hx : Rep e v x) : ∃ k, x = .int k i := by
  unfold intV at h
  split at h
  · injection h with h; subst h
    exact ⟨_, rep_pl_inv hx⟩
  · cases h
theorem pickAV_ok {a b r : AV} {t : Bool} {x y : Value} (h : pickAV a b t = some r) (hx : Rep e a x) (hy : Rep e b y) : Rep e r (if t then x else y) := by
  unfold pickAV at h
  split at h <;> try (cases h; done)
  all_goals
    injection h with h; subst h
    have e1 := rep_pl_inv hx
    have e2 := rep_pl_inv hy
    subst e1; subst e2
    cases t <;> exact rep_pl rfl
theorem loadE_ok {t : Nat} {te : TE} {out : Out} {v : AV} {r : List AV} {x : Value} {of' : Nat → Option Obj} (h : OSim c e of') (ht : TEok P t te) (hs : loadE te of r v = some out) (hp : out.pre) (ho : ∀ id ∈ out.ro, of' id = of id) (hx : Rep e v x) :
    Does P (do pure (.value (← Instr.loadAt t x))) e.w (Left c e of' out) := by
  unfold loadE at hs
  split at hs <;> try (cases hs; done)
  rename_i id ver z i off
  split at hs <;> try (cases hs; done)
  rename_i d v' rows sh hof
  split at hs <;> try (cases hs; done)
  rename_i m hd
  split at hs <;> try (cases hs; done)
  rename_i q hk
  rw [Option.map_eq_some_iff] at hs
  obtain ⟨v, hv, rfl⟩ := hs
  obtain ⟨⟨rfl, rfl, h0, h1⟩, h2⟩ := hp
  rw [← h2] at hd
  exact law_load_re h ht (by rw [ho id (by simp)]; exact hof) h0 h1 hd hk hv hx
theorem storeE_ok {t : Nat} {te : TE} {out : Out} {v a : AV} {r : List AV} {x y : Value} {of' : Nat → Option Obj} (h : OSim c e of') (ht : TEok P t te) (hs : storeE te of r v a = some out) (hp : out.pre) (ho : ∀ id ∈ out.ro, of' id = of id) (hx : Rep e a x) (hy : Rep e v y) :
    Does P (do Instr.storeAt t x y; pure .skip) e.w (Left c e of' out) := by
  unfold storeE at hs
  split at hs <;> try (cases hs; done)
  rename_i id ver z i off
  split at hs <;> try (cases hs; done)
  rename_i d v' rows q hof hq
  rw [Option.map_eq_some_iff] at hs
  obtain ⟨r', hl, rfl⟩ := hs
  obtain ⟨⟨rfl, rfl, h0, h1, h2⟩, h3⟩ := hp
  rw [← h3] at hl
  exact law_store_re h ht (by rw [ho id (by simp)]; exact hof) h0 h1 hq h2 hl hx hy
theorem heads {rows : List (List AV)} (h : ∀ r ∈ rows, r.length = 1) : rows.flatten = rows.map fun r => r.headD .junk := by
  induction rows with
  | nil => rfl
  | cons r rs ih =>
    have h1 := h r (by simp)
    obtain ⟨v, rfl⟩ := List.length_eq_one_iff.1 h1
    simp only [List.flatten_cons, List.map_cons, List.headD_cons, List.singleton_append]
    rw [ih (fun r hr => h r (by simp [hr]))]
theorem law_arrayAt {t el n : Nat} {d : List AV} {rows : List (List AV)} {x : Value} (h : OSim c e of) (ht : P.underlying t = some (.array n el)) (hx : Rep e (.sl d rows) x)
    (hp : wid d = 1 ∧ n ≤ rows.length ∧ 0 < n ∧ ∀ r ∈ rows, r.length = 1 ∧ ∀ v ∈ r, scalar v = true) {ro : List Nat} {p : Prop} :
    Does P (do pure (.value (← Instr.arrayAt t x))) e.w (Left c e of ⟨.rp [.ar n ((rows.take n).map fun r => r.headD .junk)], [], ro, [], p⟩) := by
  obtain ⟨h1, h2, h3, h4⟩ := hp
  cases hx with
  | sl0 _ => simp at h2; omega
  | @sl _ _ _ _ ys a cap g2 g3 g4 g5 g6 g7 _ =>
    refine does_value (x := .pointer (some a)) (w' := e.w) ?_ (left_same h ?_)
    · have : ¬ rows.length < n := by omega
      simp [Instr.arrayAt, run_under ht, this]
    · have hfl := heads (rows := rows) (fun r hr => (h4 r hr).1)
      rw [hfl] at g3
      have hsp : rows.map (fun r => r.headD .junk) = (rows.take n).map (fun r => r.headD .junk) ++ (rows.drop n).map (fun r => r.headD .junk) := by
        rw [← List.map_append, List.take_append_drop]
      rw [hsp] at g3
      obtain ⟨us, vs, rfl, k1, k2⟩ := g3.split
      have hsc : ∀ v ∈ (rows.take n).map (fun r => r.headD .junk), scalar v = true := fun v hv => by
        obtain ⟨r, hr, rfl⟩ := List.mem_map.1 hv
        have hr' := List.mem_of_mem_take hr
        obtain ⟨u, rfl⟩ := List.length_eq_one_iff.1 (h4 r hr').1
        exact (h4 _ hr').2 u (by simp)
      have hlen : us.length = n := by
        rw [k1.length, wid_scalars _ hsc, List.length_map, List.length_take]; omega
      refine .rp (ys := us) ?_ g5 (fun j y hj => g7 j y ?_) .nil
      · have := RepL.ar (r := []) (xs := []) k1 ⟨hlen, hsc⟩ .nil
        simpa using this
      · rw [List.getElem?_append_left (List.getElem?_eq_some_iff.1 hj).1]; exact hj
theorem law_arrayAt_bs {t el n : Nat} {id off N lo m : Nat} {x : Value} (h : OSim c e of) (ht : P.underlying t = some (.array n el)) (hx : Rep e (.bs id off N lo m) x)
    (hp : n ≤ m ∧ 0 < n) {ro : List Nat} {p : Prop} :
    Does P (do pure (.value (← Instr.arrayAt t x))) e.w (Left c e of ⟨.pe id off N (lo : Int), [], ro, [], p⟩) := by
  obtain ⟨h2, h3⟩ := hp
  cases hx with
  | @bs _ _ _ _ _ _ _ cap b o k g1 g2 g3 g4 g5 g6 _ =>
    have hk : k = o + off + lo := g6 (by omega)
    subst hk
    refine does_value (x := .pointer (some ⟨b, o + off + lo, none⟩)) (w' := e.w) ?_ (left_same h ?_)
    · have : ¬ m < n := by omega
      simp [Instr.arrayAt, run_under ht, this]
    · have := RepL.pe (e := e) (r := []) (xs := []) (id := id) (off := off) (n := N) (i := (lo : Int)) g1 g2 g3 (by omega) (by omega) .nil
      show RepL e [_] [_]
      simpa using this
/-- What an operation does is what it is said to do. -/
theorem stepOp_ok (hT : T.OK P) {of' : Nat → Option Obj} {nx : Nat} {an an' : List An} {o : Oper} {ev : Operand → AV} {ρ : Operand → Value} {out : Out} (h : OSim c e of') (hr : stepOp P T ev of nx an o = some (out, an')) (hp : out.pre) (ho : ∀ id ∈ out.ro, of' id = of id)
    (hu : ∀ id ∈ out.nw, ¬ e.U id) (hρ : ∀ f, ρ (.func f) = .func (.func f) #[] #[]) (hc : ∀ v, ρ (.const v) = v) (hx : ∀ x, Rep e (ev x) (ρ x)) :
    Does P (execOp ρ o) e.w (Left c e of' out) := by
  have pure' : ∀ {v : AV} {x : Value} {s : Sem Next}, s = pure (.value x) → Rep e v x → ∀ {ro p}, Does P s e.w (Left c e of' ⟨v, [], ro, [], p⟩) := fun {v x s} hs hv {ro p} => by
    subst hs
    exact .inl ⟨x, e.w, by simp, left_same h hv⟩
  obtain ⟨dst, op, ty, pos, after, guard⟩ := o
  cases op <;> simp only [stepOp] at hr <;> try (cases hr; done)
  case move x =>
    injection hr with hr; injection hr with h1 h2; subst h1
    exact pure' rfl (hx x)
  case assign x =>
    obtain ⟨o2, h2, h3⟩ := Option.map_eq_some_iff.1 hr
    injection h3 with h3 h4; subst h3
    unfold assignAV at h2
    split at h2
    · rename_i n k
      split at h2 <;> try (cases h2; done)
      rename_i el te htel
      injection h2 with h2; subst h2
      obtain ⟨rfl, rfl, hz⟩ := hp
      obtain ⟨he1, he2⟩ := elemOf_spec hT htel
      refine .inl ⟨.slice none 0 0, e.w, by simp [execOp, hc], ?_⟩
      have := left_nil (p := 0 = 0 ∧ 0 = 0 ∧ 0 < te.size) (ro := []) (id := nx) h (hu nx (by simp)) (d := te.zero) (by rw [he2.wide]; exact hz)
      rw [he2.wide] at this
      exact this
    · injection h2 with h2; subst h2
      exact pure' rfl (hx _)
  case pick q a b =>
    split at hr <;> try (cases hr; done)
    rename_i t hq
    have hq' := hx q
    rw [hq] at hq'
    have e1 := rep_pl_inv hq'
    split at hr <;> try (cases hr; done)
    · rename_i s r
      injection hr with hr; injection hr with h1 h2; subst h1
      have hts : t = s := hp
      subst hts
      refine .inl ⟨if t then ρ a else ρ b, e.w, by simp [execOp, e1, asBool], left_same h ?_⟩
      cases t
      · exact hx b
      · exact hx a
    · rename_i r
      obtain ⟨v, h2, h3⟩ := Option.map_eq_some_iff.1 hr
      injection h3 with h3 h4; subst h3
      exact .inl ⟨if t then ρ a else ρ b, e.w, by simp [execOp, e1, asBool], left_same h (pickAV_ok h2 (hx a) (hx b))⟩
  case alloc el =>
    obtain ⟨te, h2, h3⟩ := Option.map_eq_some_iff.1 hr
    injection h3 with h3 h4; subst h3
    exact law_alloc h (hT _ _ h2) (hu nx (by simp))
  case box el x =>
    obtain ⟨l, h2, h3⟩ := Option.map_eq_some_iff.1 hr
    injection h3 with h3 h4; subst h3
    exact law_box h (hu nx (by simp)) (hx x) h2
  case build t parts =>
    obtain ⟨v, h2, h3⟩ := Option.map_eq_some_iff.1 hr
    injection h3 with h3 h4; subst h3
    have := buildAV_ok hT (p := True) (ro := []) h (parts_rep hx parts.toList) h2
    rw [← Array.toList_map, Array.toArray_toList] at this
    exact this
  case buildSlice t len parts =>
    split at hr <;> try (cases hr; done)
    rename_i el te htel
    obtain ⟨rows, h2, h3⟩ := Option.map_eq_some_iff.1 hr
    injection h3 with h3 h4; subst h3
    obtain ⟨he1, he2⟩ := elemOf_spec hT htel
    obtain ⟨p1, p2⟩ := hp
    have := law_buildSlice (p := 0 < te.size ∧ len * te.size ≤ 16777216) (ro := []) h he1 he2 (hu nx (by simp)) p1 p2 (parts_rep hx parts.toList) h2
    rw [← Array.toList_map, Array.toArray_toList] at this
    exact this
  case load t a =>
    split at hr <;> try (cases hr; done)
    rename_i te ht
    have plain : (loadAV te of (ev a)).map (·, an) = some (out, an') → Does P (do pure (.value (← Instr.loadAt t (ρ a)))) e.w (Left c e of' out) := fun hr => by
      obtain ⟨o2, h2, h3⟩ := Option.map_eq_some_iff.1 hr
      injection h3 with h3 h4; subst h3
      exact loadAV_ok h (hT _ _ ht) h2 hp ho (hx a)
    split at hr
    · split at hr
      · obtain ⟨o2, h2, h3⟩ := Option.map_eq_some_iff.1 hr
        injection h3 with h3 h4; subst h3
        exact loadE_ok h (hT _ _ ht) h2 hp ho (hx a)
      · exact plain hr
    · exact plain hr
  case store t a x =>
    split at hr <;> try (cases hr; done)
    rename_i te ht
    have plain : (storeAV te of (ev x) (ev a)).map (·, an) = some (out, an') → Does P (do Instr.storeAt t (ρ a) (ρ x); pure .skip) e.w (Left c e of' out) := fun hr => by
      obtain ⟨o2, h2, h3⟩ := Option.map_eq_some_iff.1 hr
      injection h3 with h3 h4; subst h3
      exact storeAV_ok h (hT _ _ ht) h2 hp ho (hx a) (hx x)
    split at hr
    · split at hr
      · obtain ⟨o2, h2, h3⟩ := Option.map_eq_some_iff.1 hr
        injection h3 with h3 h4; subst h3
        exact storeE_ok h (hT _ _ ht) h2 hp ho (hx a) (hx x)
      · exact plain hr
    · exact plain hr
  case sliceToArrayPointer t x =>
    split at hr <;> try (cases hr; done)
    rename_i te ht
    split at hr <;> try (cases hr; done)
    rename_i n el hk
    split at hr <;> try (cases hr; done)
    · rename_i tel d rows htel hv
      split at hr <;> try (cases hr; done)
      rename_i hsz
      injection hr with hr; injection hr with h1 h2; subst h1
      have hx' := hx x
      rw [hv] at hx'
      exact law_arrayAt h (fits_arr (hT _ _ ht) hk).1 hx' hp
    · rename_i tel id off N lo m htel hv
      split at hr <;> try (cases hr; done)
      rename_i hsz
      injection hr with hr; injection hr with h1 h2; subst h1
      have hx' := hx x
      rw [hv] at hx'
      exact law_arrayAt_bs h (fits_arr (hT _ _ ht) hk).1 hx' hp
  case nilCheck x =>
    obtain ⟨o2, h2, h3⟩ := Option.map_eq_some_iff.1 hr
    injection h3 with h3 h4; subst h3
    exact nilAV_ok rfl h h2 hp ho (hx x)
  case binOp op t x y t2 =>
    split at hr <;> try (cases hr; done)
    rename_i te ht
    split at hr
    · split at hr <;> try (cases hr; done)
      · obtain ⟨r, h2, h3⟩ := Option.map_eq_some_iff.1 hr
        injection h3 with h3 h4; subst h3
        exact eqAV_ok hT ht h h2 hp (hx x) (hx y) .eql (.inl rfl)
      · obtain ⟨r, h2, h3⟩ := Option.map_eq_some_iff.1 hr
        injection h3 with h3 h4; subst h3
        exact eqAV_ok hT ht h h2 hp (hx x) (hx y) .neq (.inr rfl)
    · obtain ⟨r, h2, h3⟩ := Option.map_eq_some_iff.1 hr
      injection h3 with h3 h4; subst h3
      exact law_binOp h (hx x) (hx y) h2 hp
  case unOp op t x =>
    obtain ⟨v, h2, h3⟩ := Option.map_eq_some_iff.1 hr
    injection h3 with h3 h4; subst h3
    exact law_unOp h (hx x) h2
  case convert s t x =>
    split at hr <;> try (cases hr; done)
    rename_i tes te hs ht
    split at hr <;> try (cases hr; done)
    rename_i k k2 n hk hv
    injection hr with hr; injection hr with h1 h2; subst h1
    obtain ⟨i, d, z, _, g2, _⟩ := (hT _ _ hs).fits
    have hx' := hx x
    rw [hv] at hx'
    exact law_conv_int h g2 (fits_int (hT _ _ ht) hk).1 hx'
  case makeSlice t l k =>
    split at hr <;> try (cases hr; done)
    rename_i el te k1 a k2 b htel hl hk
    injection hr with hr; injection hr with h1 h2; subst h1
    obtain ⟨he1, he2⟩ := elemOf_spec hT htel
    obtain ⟨p1, p2, p3, p4, p5⟩ := hp
    have hl' := hx l
    have hk' := hx k
    rw [hl] at hl'
    rw [hk] at hk'
    have e1 := rep_pl_inv hl'
    have e2 := rep_pl_inv hk'
    refine ?_
    show Does P (do pure (.value (← Instr.makeSlice t (ρ l) (ρ k)))) _ _
    rw [e1, e2]
    exact law_make h he1 he2 (hu nx (by simp)) p1 p2 p3 p4 p5
  case slice t x lo hi mx =>
    cases mx with
    | some _ => simp at hr
    | none =>
    obtain ⟨o2, h2, h3⟩ := Option.map_eq_some_iff.1 hr
    injection h3 with h3 h4; subst h3
    exact sliceAV_ok hT h h2 hp ho (hx x) (map_rep hx lo) (map_rep hx hi)
  case fieldAddr s x f =>
    split at hr <;> try (cases hr; done)
    rename_i off ft te hf
    split at hr <;> try (cases hr; done)
    rename_i hz
    obtain ⟨o2, h2, h3⟩ := Option.map_eq_some_iff.1 hr
    injection h3 with h3 h4; subst h3
    obtain ⟨gs, g, g1, g2, g3, g4⟩ := fieldOf_spec hT hf
    subst g3
    exact fieldAddrAV_ok h g1 g2 g4 hz h2 hp ho (hx x)
  case field s x f =>
    split at hr <;> try (cases hr; done)
    rename_i off ft te hf
    obtain ⟨v, h2, h3⟩ := Option.map_eq_some_iff.1 hr
    injection h3 with h3 h4; subst h3
    obtain ⟨gs, g, g1, g2, g3, g4⟩ := fieldOf_spec hT hf
    subst g3
    exact fieldAV_ok h g1 g2 g4 h2 (hx x)
  case indexAddr t x ix =>
    split at hr <;> try (cases hr; done)
    rename_i te i ht hi
    obtain ⟨kk, e1⟩ := intV_spec hi (hx ix)
    split at hr <;> try (cases hr; done)
    · rename_i el hk
      split at hr <;> try (cases hr; done)
      rename_i tel htel
      obtain ⟨o2, h2, h3⟩ := Option.map_eq_some_iff.1 hr
      injection h3 with h3 h4; subst h3
      refine ?_
      show Does P (do pure (.value (← Instr.indexAt t (ρ x) (ρ ix)))) _ _
      rw [e1]
      exact indexAddrAV_ok h (arr := none) (fits_slice (hT _ _ ht) hk) (hT _ _ htel) h2 hp ho (hx x)
    · rename_i n el hk
      split at hr <;> try (cases hr; done)
      rename_i tel htel
      obtain ⟨o2, h2, h3⟩ := Option.map_eq_some_iff.1 hr
      injection h3 with h3 h4; subst h3
      refine ?_
      show Does P (do pure (.value (← Instr.indexAt t (ρ x) (ρ ix)))) _ _
      rw [e1]
      exact indexAddrAV_ok h (arr := some n) (fits_arr (hT _ _ ht) hk).1 (hT _ _ htel) h2 hp ho (hx x)
  case index t x ix =>
    have hw : ∀ {r : Option (AV × Prop)} {o2 : Out}, whenP r = some o2 → ∃ v p, r = some (v, p) ∧ o2 = .when v p := fun {r o2} h2 => by
      unfold whenP at h2
      split at h2
      · injection h2 with h2; exact ⟨_, _, rfl, h2.symm⟩
      · cases h2
    split at hr <;> try (cases hr; done)
    rename_i te i ht hi
    obtain ⟨kk, e1⟩ := intV_spec hi (hx ix)
    split at hr <;> try (cases hr; done)
    · rename_i hk
      obtain ⟨o2, h2, h3⟩ := Option.map_eq_some_iff.1 hr
      injection h3 with h3 h4; subst h3
      obtain ⟨v, p, h5, rfl⟩ := hw h2
      refine ?_
      show Does P (do pure (.value (← Instr.index t (ρ x) (ρ ix)))) _ _
      rw [e1]
      exact indexStr_ok h (fits_str (hT _ _ ht) hk) h5 hp (hx x)
    · rename_i n el hk
      split at hr <;> try (cases hr; done)
      rename_i tel htel
      split at hr <;> try (cases hr; done)
      rename_i kn es hev
      split at hr <;> try (cases hr; done)
      rename_i hkn
      obtain ⟨o2, h2, h3⟩ := Option.map_eq_some_iff.1 hr
      injection h3 with h3 h4; subst h3
      obtain ⟨v, p, h5, rfl⟩ := hw h2
      refine ?_
      show Does P (do pure (.value (← Instr.index t (ρ x) (ρ ix)))) _ _
      rw [e1]
      exact indexAV_ok h (fits_arr (hT _ _ ht) hk).1 (hT _ _ htel) h5 hp (fun n' es' he => by injection he with he; injection he with he; injection he with he; omega) (by rw [← hev]; exact hx x)
  case extract x i =>
    obtain ⟨v, h2, h3⟩ := Option.map_eq_some_iff.1 hr
    injection h3 with h3 h4; subst h3
    exact extractAV_ok h h2 (hx x)
  case call k => exact callAV_ok hT h hr hp ho hu hρ hx ty
theorem shareAV_ok {of' : Nat → Option Obj} {v v' : AV} {id : Nat} {ob : Obj} {p : Prop} {x : Value} (h : OSim c e of') (hs : shareAV of v = some (v', id, ob, p)) (hp : p) (ho : of' id = of id) (hx : Rep e v x) :
    ∃ e' : Env, e'.w = e.w ∧ OSim c e' (upd of' id (some ob)) ∧ e.le e' ∧ (∀ j, e'.U j → e.U j) ∧ Rep e' v' x := by
  unfold shareAV at hs
  split at hs <;> try (cases hs; done)
  · rename_i id0 ver off n z
    split at hs <;> try (cases hs; done)
    rename_i d v0 rows sh hof
    simp only [Option.some.injEq, Prod.mk.injEq] at hs
    obtain ⟨rfl, rfl, rfl, rfl⟩ := hs
    obtain ⟨rfl, rfl, hn⟩ := hp
    obtain ⟨e', h1, h2, h3, h4, h5⟩ := share_row h (by rw [ho]; exact hof)
    exact ⟨e', h1, h2, h3, h4, h5 _ _ _ hn hx⟩
  · rename_i id0 off n lo m
    split at hs <;> try (cases hs; done)
    rename_i l sh hof
    split at hs <;> try (cases hs; done)
    rename_i k es r hd
    split at hs <;> try (cases hs; done)
    rename_i e0 es'
    simp only [Option.some.injEq, Prod.mk.injEq] at hs
    obtain ⟨rfl, rfl, rfl, rfl⟩ := hs
    obtain ⟨rfl, hw, hn⟩ := hp
    obtain ⟨e', h1, h2, h3, h4, h5, h6⟩ := share_box h (by rw [ho]; exact hof)
    exact ⟨e', h1, h2, h3, h4, h5 _ _ _ _ _ _ _ _ hd (by simp [wid, hw]) hn hx⟩
theorem put_append : ∀ (l m : List (Nat × Obj)) (f : Nat → Option Obj), put f (l ++ m) = put (put f l) m := by
  intro l
  induction l with
  | nil => intro m f; rfl
  | cons q r ih => intro m f; obtain ⟨k, o⟩ := q; exact ih _ _
theorem put_at : ∀ (l : List (Nat × Obj)) (f g : Nat → Option Obj) (j : Nat), f j = g j → put f l j = put g l j := by
  intro l
  induction l with
  | nil => intro f g j h; exact h
  | cons q r ih =>
    intro f g j h
    obtain ⟨k, o⟩ := q
    refine ih _ _ j ?_
    simp only [upd]
    split
    · rfl
    · exact h
/-- The law of one operation, and of what is known besides. -/
theorem stepX_ok (hT : T.OK P) {of' : Nat → Option Obj} {nx : Nat} {o : Oper} {ev : Operand → AV} {ρ : Operand → Value} (h : OSim c e of')
    (hρ : ∀ f, ρ (.func f) = .func (.func f) #[] #[]) (hc : ∀ v, ρ (.const v) = v) (hx : ∀ x, Rep e (ev x) (ρ x)) :
    ∀ (an an' : List An) (out : Out), stepX P T ev of nx o an = some (out, an') → out.pre → (∀ id ∈ out.ro, of' id = of id) → (∀ id ∈ out.nw, ¬ e.U id) → Does P (execOp ρ o) e.w (Left c e of' out) := by
  intro an
  induction an with
  | nil => intro an' out hr hp ho hu; exact stepOp_ok hT h (by simpa only [stepX] using hr) hp ho hu hρ hc hx
  | cons a r ih =>
    intro an' out hr hp ho hu
    have plain : stepOp P T ev of nx (a :: r) o = some (out, an') → Does P (execOp ρ o) e.w (Left c e of' out) := fun hr => stepOp_ok hT h hr hp ho hu hρ hc hx
    cases a with
    | w d v =>
      simp only [stepX] at hr
      split at hr
      · split at hr <;> try (cases hr; done)
        rename_i o1 r1 hs
        injection hr with hr; injection hr with hr1 hr2; subst hr1
        obtain ⟨hp, rfl⟩ := hp
        have := ih r1 o1 hs hp ho hu
        exact this
      · exact plain hr
    | o d wo =>
      simp only [stepX] at hr
      split at hr
      · split at hr <;> try (cases hr; done)
        rename_i o1 r1 hs
        injection hr with hr; injection hr with hr1 hr2; subst hr1
        obtain ⟨hp, rfl⟩ := hp
        have := ih r1 o1 hs hp ho hu
        exact this
      · exact plain hr
    | s d =>
      simp only [stepX] at hr
      split at hr
      · split at hr <;> try (cases hr; done)
        rename_i o1 r1 hs
        obtain ⟨o2, h2, h3⟩ := Option.map_eq_some_iff.1 hr
        injection h3 with h3 h4; subst h3
        unfold shareOut at h2
        split at h2 <;> try (cases h2; done)
        rename_i v id ob p hsh
        injection h2 with h2; subst h2
        obtain ⟨hp, hp2⟩ := hp
        have key : ∀ x w', Left c e of' o1 x w' → Left c e of' ⟨v, o1.wo ++ [(id, ob)], id :: o1.ro, o1.nw, o1.pre ∧ p⟩ x w' := by
          rintro x w' ⟨e', rfl, g1, g2, g3, g4⟩
          obtain ⟨e2, k1, k2, k3, k4, k5⟩ := shareAV_ok g1 hsh hp2 (put_at _ _ _ _ (ho id (by simp))) g4
          exact ⟨e2, k1, by rw [put_append]; exact k2, g2.trans k3, fun j hj => g3 j (k4 j hj), k5⟩
        have := ih r1 o1 hs hp (fun i hi => ho i (by simp [hi])) hu
        unfold Does at this ⊢
        rcases this with ⟨x, w', a1, a2⟩ | ⟨w', a1, a2⟩ | ⟨f, args, w1, a1, a2⟩
        · exact .inl ⟨x, w', a1, key _ _ a2⟩
        · exact .inr (.inl ⟨w', a1, key _ _ a2⟩)
        · exact .inr (.inr ⟨f, args, w1, a1, a2.mono fun en w' ⟨x, b1, b2⟩ => ⟨x, b1, key _ _ b2⟩⟩)
      · exact plain hr
    | _ => exact plain (by simpa only [stepX] using hr)
end Go.Eng

namespace Go.Eng
open Go.RowKit
variable {P : Program} {T : TT} {c : Ctx} {e eb : Env} {of : Nat → Option Obj}

/-! ### States -/
structure St where
  sl : List (Nat × AV)
  ob : List (Nat × Obj)
  nx : Nat
def getS : List (Nat × AV) → Nat → AV
  | [], _ => .junk
  | (k, v) :: r, t => if k = t then v else getS r t
def delS : List (Nat × AV) → Nat → List (Nat × AV)
  | [], _ => []
  | (k, v) :: r, t => if k = t then delS r t else (k, v) :: delS r t
def putS (l : List (Nat × AV)) (t : Nat) (v : AV) : List (Nat × AV) := (t, v) :: delS l t
def ofL : List (Nat × Obj) → Nat → Option Obj
  | [], _ => none
  | (k, v) :: r, t => if k = t then some v else ofL r t
def delO : List (Nat × Obj) → Nat → List (Nat × Obj)
  | [], _ => []
  | (k, v) :: r, t => if k = t then delO r t else (k, v) :: delO r t
def putO (l : List (Nat × Obj)) (t : Nat) (v : Obj) : List (Nat × Obj) := (t, v) :: delO l t
theorem getS_del (l : List (Nat × AV)) (t u : Nat) (h : u ≠ t) : getS (delS l t) u = getS l u := by
  induction l with
  | nil => rfl
  | cons p r ih =>
    obtain ⟨k, v⟩ := p
    simp only [delS, getS]
    by_cases hk : k = t
    · subst hk; rw [if_pos rfl, if_neg (fun h' => h h'.symm)]; exact ih
    · rw [if_neg hk]; simp only [getS]; rw [ih]
theorem getS_put (l : List (Nat × AV)) (t : Nat) (v : AV) : getS (putS l t v) = upd (getS l) t v := by
  funext u
  simp only [putS, getS, upd]
  by_cases h : u = t
  · subst h; simp
  · rw [if_neg (fun h' => h h'.symm), if_neg h, getS_del _ _ _ h]
theorem ofL_del (l : List (Nat × Obj)) (t u : Nat) (h : u ≠ t) : ofL (delO l t) u = ofL l u := by
  induction l with
  | nil => rfl
  | cons p r ih =>
    obtain ⟨k, v⟩ := p
    simp only [delO, ofL]
    by_cases hk : k = t
    · subst hk; rw [if_pos rfl, if_neg (fun h' => h h'.symm)]; exact ih
    · rw [if_neg hk]; simp only [ofL]; rw [ih]
theorem ofL_put (l : List (Nat × Obj)) (t : Nat) (v : Obj) : ofL (putO l t v) = upd (ofL l) t (some v) := by
  funext u
  simp only [putO, ofL, upd]
  by_cases h : u = t
  · subst h; simp
  · rw [if_neg (fun h' => h h'.symm), if_neg h, ofL_del _ _ _ h]
def putOs : List (Nat × Obj) → List (Nat × Obj) → List (Nat × Obj)
  | l, [] => l
  | l, (id, o) :: r => putOs (putO l id o) r
theorem ofL_puts : ∀ (r l : List (Nat × Obj)), ofL (putOs l r) = put (ofL l) r := by
  intro r
  induction r with
  | nil => intro l; rfl
  | cons p r ih => intro l; obtain ⟨id, o⟩ := p; simp only [putOs, put]; rw [ih, ofL_put]

/-- How the machine stands to a state. -/
structure Stands (c : Ctx) (eb : Env) (sl : Nat → AV) (of : Nat → Option Obj) (U : Nat → Prop) (nt : Nat) (a : Act) (e : Env) : Prop where
  os : OSim c e of
  le : eb.le e
  U : ∀ id, e.U id → U id
  sl : ∀ t, Rep e (sl t) (a.tmps.getD t undef)
  def_ : a.defers = []
  nt : a.tmps.size = nt
def Sim (c : Ctx) (eb : Env) (nt : Nat) (σ : St) (a : Act) (w : World) : Prop := ∃ e, e.w = w ∧ Stands c eb (getS σ.sl) (ofL σ.ob) (· < σ.nx) nt a e

/-! ### Operations of a region -/
structure Ent where
  dst : Option Nat
  val : AV
  wo : List (Nat × Obj)
  rs : List Nat
  ro : List Nat
  nw : List Nat
  pre : Prop
def mem (t : Nat) : List Nat → Bool
  | [] => false
  | k :: r => if k = t then true else mem t r
theorem mem_iff {t : Nat} {l : List Nat} : mem t l = true ↔ t ∈ l := by
  induction l with
  | nil => simp [mem]
  | cons k r ih =>
    simp only [mem, List.mem_cons]
    by_cases h : k = t
    · simp [h]
    · rw [if_neg h, ih]
      constructor
      · exact .inr
      · rintro (h' | h')
        · exact absurd h'.symm h
        · exact h'
/-- What an operand says, of the slots in view. -/
def evO (rs : List Nat) (sl : Nat → AV) : Operand → AV
  | .tmp t => if mem t rs then sl t else .junk
  | .const v => if one v then .pl v else .junk
  | .func f => .pl (.func (.func f) #[] #[])
  | .global _ => .junk
theorem evO_ok {rs : List Nat} {sl : Nat → AV} {a : Act} (h : ∀ t ∈ rs, Rep e (sl t) (a.tmps.getD t undef)) (x : Operand) : Rep e (evO rs sl x) (a.eval x) := by
  cases x with
  | tmp t =>
    simp only [evO, Act.eval]
    by_cases ht : mem t rs = true
    · rw [if_pos ht]; exact h t (mem_iff.1 ht)
    · rw [if_neg ht]; trivial
  | const v =>
    simp only [evO, Act.eval]
    by_cases hv : one v = true
    · rw [if_pos hv]; exact rep_pl hv
    · rw [if_neg hv]; trivial
  | global g => trivial
  | func f => exact rep_pl rfl
def Ent.mk1 (o : Oper) (rs : List Nat) (out : Out) (p : Prop) : Ent := ⟨o.dst, out.val, out.wo, rs, out.ro, out.nw, p ∧ out.pre⟩
def Ent.skip (o : Oper) (rs : List Nat) (p : Prop) : Ent := ⟨o.dst, .tu [], [], rs, [], [], p⟩
def goEnt (P : Program) (T : TT) (rs : List Nat) (sl : Nat → AV) (of : Nat → Option Obj) (nx : Nat) (an : List An) (o : Oper) (p : Prop) : Option (Ent × List An) :=
  match stepX P T (evO rs sl) of nx o an with
  | some (out, r) => some (Ent.mk1 o rs out p, r)
  | none => none
def entOp (P : Program) (T : TT) (ops : Array Oper) (sl : Nat → AV) (of : Nat → Option Obj) (nx : Nat) (an : List An) (o : Oper) : Option (Ent × List An) :=
  let rs := o.looksAt ops
  match o.guard with
  | none => goEnt P T rs sl of nx an o True
  | some (g, want) => match (ops[g]?).bind (·.dst) with
    | some d => match sl d with
      | .tu _ => some (Ent.skip o rs True, an)
      | .pl (.bool q) => match an with
        | .b t :: r => if t = want then goEnt P T rs sl of nx r o (q = t) else some (Ent.skip o rs (q = t), r)
        | _ => none
      | _ => none
    | none => none
/-- An operation's part, from where all that it looks at is as it was. -/
theorem entOp_ok (hT : T.OK P) {ops : Array Oper} {Q : Exit → Act → World → Prop} {i : Nat} {o : Oper} (hi : ops[i]? = some o) {of' : Nat → Option Obj} {sl : Nat → AV} {nx : Nat} {an an' : List An} {E : Ent} {a : Act} (h : OSim c e of') (hr : entOp P T ops sl of nx an o = some (E, an')) (hp : E.pre)
    (ho : ∀ id ∈ E.ro, of' id = of id) (hu : ∀ id ∈ E.nw, ¬ e.U id) (hs : ∀ t ∈ E.rs, Rep e (sl t) (a.tmps.getD t undef)) {K : Act → World → Prop}
    (hK : ∀ x w', Left c e of' ⟨E.val, E.wo, E.ro, E.nw, E.pre⟩ x w' → K (a.put E.dst x) w') : wpOp P ops Q i K a e.w := by
  have go : ∀ {rs an an' p}, goEnt P T rs sl of nx an o p = some (E, an') → Region.wanted o (yielded ops a.tmps) = true → wpOp P ops Q i K a e.w := by
    intro rs an an' p hg hw
    unfold goEnt at hg
    split at hg <;> try (cases hg; done)
    rename_i out r hst
    injection hg with hg; injection hg with h1 h2; subst h1
    unfold wpOp
    simp only [hi, hw, if_true]
    refine .inl (wp_of_does (stepX_ok hT h (fun _ => rfl) (fun _ => rfl) (evO_ok hs) _ _ _ hst hp.2 ho hu) (fun x w' hl => hK x w' ?_))
    obtain ⟨e', q1, q2, q3, q4, q5⟩ := hl
    exact ⟨e', q1, q2, q3, q4, q5⟩
  have skip : ∀ {rs p}, E = Ent.skip o rs p → Region.wanted o (yielded ops a.tmps) = false → wpOp P ops Q i K a e.w := by
    intro rs p hE hw
    subst hE
    unfold wpOp
    simp only [hi, hw, Bool.false_eq_true, if_false]
    exact hK undef e.w ⟨e, rfl, h, Env.le.refl e, fun _ hu => .inl hu, ⟨#[], rfl, rfl, fun i v x hv => by simp at hv⟩⟩
  have hrs : E.rs = o.looksAt ops := by
    unfold entOp at hr
    simp only at hr
    have hgo : ∀ {rs an an' p}, goEnt P T rs sl of nx an o p = some (E, an') → E.rs = rs := by
      intro rs an an' p hg
      unfold goEnt at hg
      split at hg <;> try (cases hg; done)
      injection hg with hg; injection hg with h1 h2; subst h1; rfl
    repeat' split at hr
    all_goals first | (cases hr; done) | exact hgo hr | (injection hr with hr; injection hr with h1 h2; subst h1; rfl)
  rw [hrs] at hs
  unfold entOp at hr
  simp only at hr
  split at hr
  · rename_i hg
    exact go hr (by simp [Region.wanted, hg])
  · rename_i g want hg
    split at hr <;> try (cases hr; done)
    rename_i d hd
    have hdm : d ∈ o.looksAt ops := by simp [Oper.looksAt, hg, hd]
    have hsd := hs d hdm
    split at hr <;> try (cases hr; done)
    · rename_i l hl
      injection hr with hr; injection hr with h1 h2
      refine skip h1.symm ?_
      rw [hl] at hsd
      obtain ⟨xs, hxs, _⟩ := hsd
      have : yielded ops a.tmps g = none := by
        unfold yielded
        rw [hd]
        simp only [Option.bind_some]
        cases hx : a.tmps[d]? with
        | none => rfl
        | some v =>
          have : a.tmps.getD d undef = v := by simp [hx]
          rw [this] at hxs; subst hxs; rfl
      simp [Region.wanted, hg, this]
    · rename_i q hq
      rw [hq] at hsd
      have hv := rep_pl_inv hsd
      have hy : yielded ops a.tmps g = some q := by
        unfold yielded
        rw [hd]
        simp only [Option.bind_some]
        cases hx : a.tmps[d]? with
        | none => simp [hx, undef] at hv
        | some v =>
          have : a.tmps.getD d undef = v := by simp [hx]
          rw [this] at hv; subst hv; rfl
      split at hr <;> try (cases hr; done)
      rename_i t r
      split at hr
      · rename_i htw
        have hqt : q = t := by
          unfold goEnt at hr
          split at hr <;> try (cases hr; done)
          injection hr with hr; injection hr with h1 h2; subst h1
          exact hp.1
        exact go hr (by simp [Region.wanted, hg, hy, hqt, htw])
      · rename_i htw
        injection hr with hr; injection hr with h1 h2
        have hqt : q = t := by subst h1; exact hp
        exact skip h1.symm (by simp [Region.wanted, hg, hy, hqt, htw])
end Go.Eng

namespace Go.Eng
open Go.RowKit
variable {P : Program} {T : TT} {c : Ctx} {e eb : Env} {of : Nat → Option Obj}

/-! ### Writings -/
section
variable {β : Type}
def wr (f : Nat → β) : List (Nat × β) → Nat → β
  | [] => f
  | (k, v) :: r => wr (upd f k v) r
def keys (l : List (Nat × β)) : List Nat := l.map (·.1)
theorem wr_other : ∀ (l : List (Nat × β)) (f : Nat → β) (t : Nat), t ∉ keys l → wr f l t = f t := by
  intro l
  induction l with
  | nil => intro f t _; rfl
  | cons p r ih =>
    intro f t h
    obtain ⟨k, v⟩ := p
    simp only [keys, List.map_cons, List.mem_cons, not_or] at h
    simp only [wr]
    rw [ih _ _ h.2, upd_ne _ _ h.1]
theorem wr_local : ∀ (l : List (Nat × β)) (f g : Nat → β) (t : Nat), (t ∉ keys l → f t = g t) → wr f l t = wr g l t := by
  intro l
  induction l with
  | nil => intro f g t h; exact h (by simp [keys])
  | cons p r ih =>
    intro f g t h
    obtain ⟨k, v⟩ := p
    simp only [wr]
    refine ih _ _ t (fun ht => ?_)
    by_cases hk : t = k
    · subst hk; simp
    · rw [upd_ne _ _ hk, upd_ne _ _ hk]
      exact h (by simp only [keys, List.map_cons, List.mem_cons, not_or]; exact ⟨hk, ht⟩)
theorem wr_comm (f : Nat → β) (l m : List (Nat × β)) (h : ∀ t, t ∈ keys l → t ∉ keys m) : wr (wr f l) m = wr (wr f m) l := by
  funext t
  by_cases ht : t ∈ keys l
  · rw [wr_other m _ _ (h t ht)]
    exact wr_local l _ _ t (fun h' => absurd ht h')
  · rw [wr_other l _ _ ht]
    exact wr_local m _ _ t (fun _ => wr_other l _ _ ht)
def foldW (D : Nat → Bool) : Nat → List (List (Nat × β)) → (Nat → β) → Nat → β
  | _, [], f => f
  | k, l :: r, f => foldW D (k + 1) r (if D k then wr f l else f)
theorem foldW_wr (D : Nat → Bool) (m : List (Nat × β)) : ∀ (Ls : List (List (Nat × β))) (k : Nat) (f : Nat → β), (∀ q l, Ls[q]? = some l → D (k + q) = true → ∀ t, t ∈ keys m → t ∉ keys l) →
    foldW D k Ls (wr f m) = wr (foldW D k Ls f) m := by
  intro Ls
  induction Ls with
  | nil => intro k f _; rfl
  | cons l r ih =>
    intro k f h
    simp only [foldW]
    have hr := fun f => ih (k + 1) f (fun q l' hq hD => h (q + 1) l' (by simpa using hq) (by rw [← hD]; congr 1; omega))
    by_cases hD : D k = true
    · rw [if_pos hD, if_pos hD, ← hr, wr_comm _ _ _ (h 0 l rfl hD)]
    · rw [if_neg hD, if_neg hD, hr]
theorem foldW_congr {D D' : Nat → Bool} : ∀ (Ls : List (List (Nat × β))) (k : Nat) (f : Nat → β), (∀ q, q < Ls.length → D (k + q) = D' (k + q)) → foldW D k Ls f = foldW D' k Ls f := by
  intro Ls
  induction Ls with
  | nil => intro k f _; rfl
  | cons l r ih =>
    intro k f h
    simp only [foldW]
    rw [show D k = D' k from h 0 (by simp), ih (k + 1) _ (fun q hq => by have := h (q + 1) (by simpa using hq); rwa [show k + (q + 1) = k + 1 + q by omega] at this)]
theorem foldW_insert {D : Nat → Bool} : ∀ (Ls : List (List (Nat × β))) (k p : Nat) (f : Nat → β) (l : List (Nat × β)), Ls[p]? = some l → D (k + p) = false → (∀ q l', p < q → Ls[q]? = some l' → D (k + q) = true → ∀ t, t ∈ keys l → t ∉ keys l') →
    foldW (fun j => j == k + p || D j) k Ls f = wr (foldW D k Ls f) l := by
  intro Ls
  induction Ls with
  | nil => intro k p f l h; simp at h
  | cons l0 r ih =>
    intro k p f l h hD hd
    cases p with
    | zero =>
      simp only [List.getElem?_cons_zero, Option.some.injEq] at h
      subst h
      simp only [Nat.add_zero] at hD
      simp only [foldW, Nat.add_zero, beq_self_eq_true, Bool.true_or, if_true, hD, Bool.false_eq_true, if_false]
      rw [foldW_congr (D' := D) r (k + 1) _ (fun q _ => by
        have : (k + 1 + q == k) = false := by simp; omega
        simp [this])]
      exact foldW_wr D l0 r (k + 1) f (fun q l' hq hD' => hd (q + 1) l' (by omega) (by simpa using hq) (by rw [← hD']; congr 1; omega))
    | succ p =>
      have hk : (k == k + (p + 1)) = false := by simp
      simp only [foldW, hk, Bool.false_or]
      have := ih (k + 1) p (if D k then wr f l0 else f) l (by simpa using h) (by rw [← hD]; congr 1; omega) (fun q l' hpq hq hD' => hd (q + 1) l' (by omega) (by simpa using hq) (by rw [← hD']; congr 1; omega))
      rw [← this]
      refine foldW_congr r (k + 1) _ (fun q _ => ?_)
      rw [show k + 1 + p = k + (p + 1) by omega]
theorem foldW_read {D D' : Nat → Bool} {t : Nat} : ∀ (Ls : List (List (Nat × β))) (k : Nat) (f g : Nat → β), f t = g t → (∀ q l, Ls[q]? = some l → t ∈ keys l → D (k + q) = D' (k + q)) → foldW D k Ls f t = foldW D' k Ls g t := by
  intro Ls
  induction Ls with
  | nil => intro k f g h _; exact h
  | cons l r ih =>
    intro k f g h hd
    simp only [foldW]
    refine ih (k + 1) _ _ ?_ (fun q l' hq ht => by have := hd (q + 1) l' (by simpa using hq) ht; rwa [show k + (q + 1) = k + 1 + q by omega] at this)
    by_cases ht : t ∈ keys l
    · have := hd 0 l rfl ht
      rw [Nat.add_zero] at this
      rw [this]
      by_cases hD : D' k = true
      · rw [if_pos hD, if_pos hD]; exact wr_local l _ _ t (fun h' => absurd ht h')
      · rw [if_neg hD, if_neg hD]; exact h
    · have h1 : (if D k = true then wr f l else f) t = f t := by split; exact wr_other l _ _ ht; rfl
      have h2 : (if D' k = true then wr g l else g) t = g t := by split; exact wr_other l _ _ ht; rfl
      rw [h1, h2, h]
theorem foldW_none {D : Nat → Bool} : ∀ (Ls : List (List (Nat × β))) (k : Nat) (f : Nat → β), (∀ j, k ≤ j → D j = false) → foldW D k Ls f = f := by
  intro Ls
  induction Ls with
  | nil => intro k f _; rfl
  | cons l r ih => intro k f h; simp only [foldW]; rw [h k (Nat.le_refl _)]; exact ih (k + 1) f (fun j hj => h j (by omega))
theorem foldW_prefix : ∀ (Ls : List (List (Nat × β))) (k p : Nat) (f : Nat → β), foldW (fun j => decide (j < k + p)) k Ls f = (Ls.take p).foldl wr f := by
  intro Ls
  induction Ls with
  | nil => intro k p f; simp [foldW]
  | cons l r ih =>
    intro k p f
    cases p with
    | zero => simp only [List.take_zero, List.foldl_nil, Nat.add_zero]; exact foldW_none _ _ _ (fun j hj => by simp; omega)
    | succ p =>
      simp only [foldW, List.take_succ_cons, List.foldl_cons]
      rw [if_pos (by simp), ← ih (k + 1) p]
      refine foldW_congr r (k + 1) _ (fun q _ => ?_)
      rw [show k + (p + 1) = k + 1 + p by omega]
end
end Go.Eng

namespace Go.Eng
open Go.RowKit
variable {P : Program} {T : TT} {c : Ctx} {e eb : Env} {of : Nat → Option Obj}

def wS (E : Ent) : List (Nat × AV) :=
  match E.dst with
  | some d => [(d, E.val)]
  | none => []
def wO (E : Ent) : List (Nat × Option Obj) := E.wo.map fun p => (p.1, some p.2)
def applyE (σ : St) (E : Ent) : St :=
  { sl := match E.dst with
      | some d => putS σ.sl d E.val
      | none => σ.sl
    ob := putOs σ.ob E.wo, nx := E.nw.foldl (fun m id => max m (id + 1)) σ.nx }
theorem put_wr : ∀ (l : List (Nat × Obj)) (f : Nat → Option Obj), put f l = wr f (l.map fun p => (p.1, some p.2)) := by
  intro l
  induction l with
  | nil => intro f; rfl
  | cons p r ih => intro f; exact ih _
theorem getS_apply (σ : St) (E : Ent) : getS (applyE σ E).sl = wr (getS σ.sl) (wS E) := by
  unfold applyE wS
  cases E.dst with
  | none => rfl
  | some d => exact getS_put _ _ _
theorem ofL_apply (σ : St) (E : Ent) : ofL (applyE σ E).ob = wr (ofL σ.ob) (wO E) := by
  show ofL (putOs σ.ob E.wo) = _
  rw [ofL_puts, put_wr]; rfl
theorem nx_ge (l : List Nat) : ∀ m, m ≤ l.foldl (fun m id => max m (id + 1)) m ∧ ∀ id ∈ l, id < l.foldl (fun m id => max m (id + 1)) m := by
  induction l with
  | nil => intro m; exact ⟨Nat.le_refl _, fun id h => by cases h⟩
  | cons k r ih =>
    intro m
    obtain ⟨h1, h2⟩ := ih (max m (k + 1))
    simp only [List.foldl_cons]
    refine ⟨by omega, fun id h => ?_⟩
    rcases List.mem_cons.1 h with rfl | h
    · omega
    · exact h2 id h
theorem Stands.step {sl : Nat → AV} {U : Nat → Prop} {nt : Nat} {a : Act} (h : Stands c eb sl of U nt a e) {E : Ent} {x : Value} {w' : World} (hl : Left c e of ⟨E.val, E.wo, E.ro, E.nw, E.pre⟩ x w') (hd : ∀ d, E.dst = some d → d < nt) :
    ∃ e', e'.w = w' ∧ Stands c eb (wr sl (wS E)) (wr of (wO E)) (fun id => U id ∨ id ∈ E.nw) nt (a.put E.dst x) e' := by
  obtain ⟨e', q1, q2, q3, q4, q5⟩ := hl
  refine ⟨e', q1, ?_⟩
  have q2' : OSim c e' (wr of (wO E)) := by
    have q2 : OSim c e' (put of E.wo) := q2
    rw [put_wr] at q2; exact q2
  refine ⟨q2', h.le.trans q3, fun id hid => ?_, fun t => ?_, ?_, ?_⟩
  · rcases q4 id hid with h1 | h1
    · exact .inl (h.U id h1)
    · exact .inr h1
  · unfold wS
    cases hdst : E.dst with
    | none => exact (h.sl t).mono q3
    | some d =>
      have hdl : d < a.tmps.size := by rw [h.nt]; exact hd d hdst
      show Rep e' (upd sl d E.val t) ((a.tmps.setIfInBounds d x).getD t undef)
      by_cases ht : t = d
      · subst ht
        rw [upd_same]
        have : (a.tmps.setIfInBounds t x).getD t undef = x := by simp [hdl]
        rw [this]; exact q5
      · rw [upd_ne _ _ ht]
        have : (a.tmps.setIfInBounds d x).getD t undef = a.tmps.getD t undef := by simp [Array.getElem?_setIfInBounds_ne (Ne.symm ht)]
        rw [this]; exact (h.sl t).mono q3
  · cases E.dst <;> exact h.def_
  · cases E.dst with
    | none => exact h.nt
    | some d => show (a.tmps.setIfInBounds d x).size = nt; rw [Array.size_setIfInBounds]; exact h.nt

/-! ### A region, as its text stands -/
def okE (nt nx : Nat) (E : Ent) : Bool := (match E.dst with | some d => Nat.blt d nt | none => true) && E.nw.all (Nat.ble nx ·)
def runOps (P : Program) (T : TT) (ops : Array Oper) (nt : Nat) : List Oper → St → List An → Option (List Ent × St × List An)
  | [], σ, an => some ([], σ, an)
  | o :: r, σ, an =>
    match entOp P T ops (getS σ.sl) (ofL σ.ob) σ.nx an o with
    | some (E, an1) =>
      if okE nt σ.nx E then
        match runOps P T ops nt r (applyE σ E) an1 with
        | some (Es, σ', an') => some (E :: Es, σ', an')
        | none => none
      else none
    | none => none
def allPre : List Ent → Prop
  | [] => True
  | E :: r => E.pre ∧ allPre r
theorem okE_spec {nt nx : Nat} {E : Ent} (h : okE nt nx E = true) : (∀ d, E.dst = some d → d < nt) ∧ ∀ id ∈ E.nw, nx ≤ id := by
  unfold okE at h
  rw [Bool.and_eq_true, List.all_eq_true] at h
  refine ⟨fun d hd => ?_, fun id hid => Nat.le_of_ble_eq_true (h.2 id hid)⟩
  have := h.1
  rw [hd] at this
  simpa [Nat.blt_eq] using this
theorem plain_ok (hT : T.OK P) {ops : Array Oper} {Q : Exit → Act → World → Prop} {nt : Nat} : ∀ (l : List Oper) (k : Nat) (σ σ' : St) (an an' : List An) (Es : List Ent) (a : Act) (w : World), (∀ j, l[j]? = ops[k + j]? ∨ l.length ≤ j) →
    runOps P T ops nt l σ an = some (Es, σ', an') → allPre Es → Sim c eb nt σ a w → (∀ a' w', Sim c eb nt σ' a' w' → Q .normal a' w') → wpOps P ops Q (List.range' k l.length) a w := by
  intro l
  induction l with
  | nil =>
    intro k σ σ' an an' Es a w _ hr _ hs hQ
    simp only [runOps, Option.some.injEq, Prod.mk.injEq] at hr
    obtain ⟨-, rfl, -⟩ := hr
    exact hQ a w hs
  | cons o r ih =>
    intro k σ σ' an an' Es a w hl hr hp hs hQ
    have h0 : ops[k]? = some o := by
      rcases hl 0 with h | h
      · simpa using h.symm
      · simp at h
    simp only [runOps] at hr
    split at hr <;> try (cases hr; done)
    rename_i E an1 hE
    split at hr <;> try (cases hr; done)
    rename_i hok
    split at hr <;> try (cases hr; done)
    rename_i Es' σ2 an2 hrec
    simp only [Option.some.injEq, Prod.mk.injEq] at hr
    obtain ⟨rfl, rfl, rfl⟩ := hr
    obtain ⟨hp1, hp2⟩ := hp
    obtain ⟨k1, k2⟩ := okE_spec hok
    obtain ⟨e, rfl, hst⟩ := hs
    rw [List.length_cons, List.range'_succ, wpOps_cons]
    refine entOp_ok hT h0 hst.os hE hp1 (fun _ _ => rfl) (fun id hid hu => ?_) (fun t _ => hst.sl t) (fun x w' hl' => ?_)
    · have := hst.U id hu
      have := k2 id hid
      omega
    · obtain ⟨e', rfl, hst'⟩ := hst.step hl' k1
      refine ih (k + 1) (applyE σ E) _ _ _ _ _ _ (fun j => ?_) hrec hp2 ⟨e', rfl, ?_⟩ hQ
      · rcases hl (j + 1) with h | h
        · left; simpa [Nat.add_assoc, Nat.add_comm 1 j] using h
        · right; simp at h; omega
      · rw [getS_apply, ofL_apply]
        refine ⟨hst'.os, hst'.le, fun id hid => ?_, hst'.sl, hst'.def_, hst'.nt⟩
        obtain ⟨n1, n2⟩ := nx_ge E.nw σ.nx
        rcases hst'.U id hid with h1 | h1
        · exact Nat.lt_of_lt_of_le h1 n1
        · exact n2 id h1
theorem wp_plain (hT : T.OK P) {id : Nat} {ops : Array Oper} {Q : Exit → Act → World → Prop} {nt : Nat} {σ σ' : St} {an an' : List An} {Es : List Ent} {a : Act} {w : World} (hr : runOps P T ops nt ops.toList σ an = some (Es, σ', an')) (hp : allPre Es)
    (hs : Sim c eb nt σ a w) (hQ : ∀ a' w', Sim c eb nt σ' a' w' → Q .normal a' w') : (Code.region id ops false).wp P Q a w := by
  refine wp_region ?_
  have := plain_ok hT (Q := Q) ops.toList 0 σ σ' an an' Es a w (fun j => .inl (by simp)) hr hp hs hQ
  rwa [Array.length_toList, ← List.range_eq_range'] at this
end Go.Eng

namespace Go.Eng
open Go.RowKit
variable {P : Program} {T : TT} {c : Ctx} {e eb : Env} {of : Nat → Option Obj}

/-! ### A region in any order -/
def mask (o : Oper) (acc : List Nat) : Nat := o.after.toList.foldl (fun s e => if Region.binds .any e then s ||| 2 ^ e.on ||| acc.getD e.on 0 else s) 0
def masks : List Oper → List Nat → List Nat
  | [], acc => acc
  | o :: r, acc => masks r (acc ++ [mask o acc])
def hitS (t : Option Nat) (l : List Nat) : Bool :=
  match t with
  | some d => mem d l
  | none => false
def hitO (l : List (Nat × Obj)) (E : Ent) : Bool := l.any fun p => mem p.1 E.ro || mem p.1 (E.wo.map (·.1))
def same (a b : Option Nat) : Bool :=
  match a, b with
  | some x, some y => Nat.beq x y
  | _, _ => false
/-- Two operations that must keep their order. -/
def conf (A B : Ent) : Bool := hitS A.dst B.rs || hitS B.dst A.rs || same A.dst B.dst || hitO A.wo B || hitO B.wo A
def chkOne (B : Ent) (m : Nat) : List Ent → Nat → Bool
  | [], _ => true
  | A :: r, j => (!(conf A B) || m.testBit j) && chkOne B m r (j + 1)
def chkAll (Es : List Ent) (ms : List Nat) : Nat → List Ent → Bool
  | _, [] => true
  | i, B :: r => chkOne B (ms.getD i 0) (Es.take i) 0 && chkAll Es ms (i + 1) r
def backward : Nat → List Oper → Bool
  | _, [] => true
  | i, o :: r => o.after.toList.all (fun e => !(Region.binds .any e) || Nat.blt e.on i) && backward (i + 1) r
/-- So many operations, and what must come before what. -/
def sound (ops : List Oper) (Es : List Ent) : Bool := backward 0 ops && chkAll Es (masks ops []) 0 Es

theorem chkOne_spec {B : Ent} {m : Nat} : ∀ (l : List Ent) (j : Nat), chkOne B m l j = true → ∀ q A, l[q]? = some A → conf A B = true → m.testBit (j + q) = true := by
  intro l
  induction l with
  | nil => intro j _ q A h; simp at h
  | cons A0 r ih =>
    intro j h q A hq hc
    simp only [chkOne, Bool.and_eq_true, Bool.or_eq_true, Bool.not_eq_true'] at h
    cases q with
    | zero =>
      simp only [List.getElem?_cons_zero, Option.some.injEq] at hq
      subst hq
      rcases h.1 with h1 | h1
      · rw [hc] at h1; cases h1
      · exact h1
    | succ q => rw [show j + (q + 1) = j + 1 + q by omega]; exact ih (j + 1) h.2 q A (by simpa using hq) hc
theorem chkAll_spec {Es : List Ent} {ms : List Nat} : ∀ (l : List Ent) (i : Nat), (∀ q, l[q]? = Es[i + q]?) → chkAll Es ms i l = true → ∀ p q A B, i ≤ p → q < p → Es[p]? = some B → Es[q]? = some A → conf A B = true → (ms.getD p 0).testBit q = true := by
  intro l
  induction l with
  | nil =>
    intro i hl _ p q A B hip hqp hB hA _
    have := hl (p - i)
    rw [show i + (p - i) = p by omega, hB] at this
    simp at this
  | cons B0 r ih =>
    intro i hl h p q A B hip hqp hB hA hc
    simp only [chkAll, Bool.and_eq_true] at h
    by_cases hpi : p = i
    · subst hpi
      have h0 := hl 0
      rw [Nat.add_zero, hB, List.getElem?_cons_zero, Option.some.injEq] at h0
      subst h0
      have := chkOne_spec (Es.take p) 0 h.1 q A (by rw [List.getElem?_take_of_lt hqp]; exact hA) hc
      rwa [Nat.zero_add] at this
    · exact ih (i + 1) (fun q => by have := hl (q + 1); simpa [Nat.add_assoc, Nat.add_comm 1 q] using this) h.2 p q A B (by omega) hqp hB hA hc
theorem backward_spec : ∀ (l : List Oper) (i : Nat), backward i l = true → ∀ q o, l[q]? = some o → ∀ e ∈ o.after, Region.binds .any e = true → e.on < i + q := by
  intro l
  induction l with
  | nil => intro i _ q o h; simp at h
  | cons o0 r ih =>
    intro i h q o hq e he hb
    simp only [backward, Bool.and_eq_true, List.all_eq_true, Bool.or_eq_true, Bool.not_eq_true'] at h
    cases q with
    | zero =>
      simp only [List.getElem?_cons_zero, Option.some.injEq] at hq
      subst hq
      rcases h.1 e (Array.mem_toList_iff.2 he) with h1 | h1
      · rw [hb] at h1; cases h1
      · simpa [Nat.blt_eq] using h1
    | succ q => rw [show i + (q + 1) = i + 1 + q by omega]; exact ih (i + 1) h.2 q o (by simpa using hq) e he hb
theorem mask_spec {D : Nat → Bool} {G : Nat → Prop} (hDG : ∀ j, D j = true → G j) {acc : List Nat} (hacc : ∀ j, G j → ∀ p, (acc.getD j 0).testBit p = true → D p = true) {o : Oper} (ho : ∀ e ∈ o.after, Region.binds .any e = true → D e.on = true) :
    ∀ p, (mask o acc).testBit p = true → D p = true := by
  unfold mask
  have key : ∀ (l : List Edge) (s : Nat), (∀ e ∈ l, Region.binds .any e = true → D e.on = true) → (∀ p, s.testBit p = true → D p = true) →
      ∀ p, (l.foldl (fun s e => if Region.binds .any e then s ||| 2 ^ e.on ||| acc.getD e.on 0 else s) s).testBit p = true → D p = true := by
    intro l
    induction l with
    | nil => intro s _ hs p h; exact hs p h
    | cons e r ih =>
      intro s hl hs p h
      simp only [List.foldl_cons] at h
      refine ih _ (fun e' he' => hl e' (by simp [he'])) ?_ p h
      intro p hp
      split at hp
      · rename_i hb
        have hD := hl e (by simp) hb
        rw [Nat.testBit_or, Nat.testBit_or, Bool.or_eq_true, Bool.or_eq_true, Nat.testBit_two_pow] at hp
        rcases hp with (hp | hp) | hp
        · exact hs p hp
        · have : e.on = p := by simpa using hp
          rw [← this]; exact hD
        · exact hacc _ (hDG _ hD) p hp
      · exact hs p hp
  exact key o.after.toList 0 (fun e he => ho e (Array.mem_toList_iff.1 he)) (fun p hp => by simp at hp)
theorem masks_spec {D : Nat → Bool} {G : Nat → Prop} (hDG : ∀ j, D j = true → G j) : ∀ (l : List Oper) (acc : List Nat), (∀ j, G j → ∀ p, (acc.getD j 0).testBit p = true → D p = true) →
    (∀ q o, l[q]? = some o → G (acc.length + q) → ∀ e ∈ o.after, Region.binds .any e = true → D e.on = true) →
    ∀ j, G j → ∀ p, ((masks l acc).getD j 0).testBit p = true → D p = true := by
  intro l
  induction l with
  | nil => intro acc hacc _; exact hacc
  | cons o r ih =>
    intro acc hacc h
    refine ih (acc ++ [mask o acc]) (fun j hj p hp => ?_) (fun q o' hq => by have := h (q + 1) o' (by simpa using hq); rwa [List.length_append, List.length_singleton, show acc.length + 1 + q = acc.length + (q + 1) by omega])
    rcases Nat.lt_trichotomy j acc.length with hlt | heq | hgt
    · exact hacc j hj p (by rw [List.getD_eq_getElem?_getD, List.getElem?_append_left hlt, ← List.getD_eq_getElem?_getD] at hp; exact hp)
    · subst heq
      rw [List.getD_eq_getElem?_getD, List.getElem?_append_right (Nat.le_refl _), Nat.sub_self] at hp
      exact mask_spec hDG hacc (h 0 o rfl (by simpa using hj)) p (by simpa using hp)
    · rw [List.getD_eq_getElem?_getD, List.getElem?_eq_none (by simp; omega)] at hp
      simp at hp

/-! What the text's own order computes -/
theorem runOps_spec {ops : Array Oper} {nt : Nat} : ∀ (l : List Oper) (σ σ' : St) (an an' : List An) (Es : List Ent), runOps P T ops nt l σ an = some (Es, σ', an') →
    σ' = Es.foldl applyE σ ∧ Es.length = l.length ∧ ∀ p o, l[p]? = some o → ∃ E an1 an2, Es[p]? = some E ∧ entOp P T ops (getS ((Es.take p).foldl applyE σ).sl) (ofL ((Es.take p).foldl applyE σ).ob) ((Es.take p).foldl applyE σ).nx an1 o = some (E, an2) ∧
      okE nt ((Es.take p).foldl applyE σ).nx E = true := by
  intro l
  induction l with
  | nil =>
    intro σ σ' an an' Es h
    simp only [runOps, Option.some.injEq, Prod.mk.injEq] at h
    obtain ⟨rfl, rfl, -⟩ := h
    exact ⟨rfl, rfl, fun p o h => by simp at h⟩
  | cons o r ih =>
    intro σ σ' an an' Es h
    simp only [runOps] at h
    split at h <;> try (cases h; done)
    rename_i E an1 hE
    split at h <;> try (cases h; done)
    rename_i hok
    split at h <;> try (cases h; done)
    rename_i Es' σ2 an2 hrec
    simp only [Option.some.injEq, Prod.mk.injEq] at h
    obtain ⟨rfl, rfl, rfl⟩ := h
    obtain ⟨h1, h2, h3⟩ := ih _ _ _ _ _ hrec
    refine ⟨h1, by simp [h2], fun p o' hp => ?_⟩
    cases p with
    | zero =>
      simp only [List.getElem?_cons_zero, Option.some.injEq] at hp
      subst hp
      exact ⟨E, _, _, rfl, hE, hok⟩
    | succ p => simpa using h3 p o' (by simpa using hp)
theorem getS_fold : ∀ (Es : List Ent) (σ : St), getS (Es.foldl applyE σ).sl = (Es.map wS).foldl wr (getS σ.sl) := by
  intro Es
  induction Es with
  | nil => intro σ; rfl
  | cons E r ih => intro σ; simp only [List.foldl_cons, List.map_cons]; rw [ih, getS_apply]
theorem ofL_fold : ∀ (Es : List Ent) (σ : St), ofL (Es.foldl applyE σ).ob = (Es.map wO).foldl wr (ofL σ.ob) := by
  intro Es
  induction Es with
  | nil => intro σ; rfl
  | cons E r ih => intro σ; simp only [List.foldl_cons, List.map_cons]; rw [ih, ofL_apply]
theorem nx_mono : ∀ (Es : List Ent) (σ : St), σ.nx ≤ (Es.foldl applyE σ).nx := by
  intro Es
  induction Es with
  | nil => intro σ; exact Nat.le_refl _
  | cons E r ih => intro σ; exact Nat.le_trans (nx_ge E.nw σ.nx).1 (ih (applyE σ E))
theorem nx_before {Es : List Ent} {σ : St} {p q : Nat} {E : Ent} (hq : Es[q]? = some E) (hpq : q < p) : ∀ id ∈ E.nw, id < ((Es.take p).foldl applyE σ).nx := by
  intro id hid
  have h1 : Es.take p = Es.take q ++ E :: (Es.drop (q + 1)).take (p - q - 1) := by
    obtain ⟨hlt, rfl⟩ := List.getElem?_eq_some_iff.1 hq
    rw [show p = q + 1 + (p - q - 1) by omega, List.take_add, List.take_succ_eq_append_getElem hlt, List.append_assoc]
    simp
    congr 1
    omega
  rw [h1, List.foldl_append, List.foldl_cons]
  exact Nat.lt_of_lt_of_le ((nx_ge E.nw ((Es.take q).foldl applyE σ).nx).2 id hid) (nx_mono _ (applyE ((Es.take q).foldl applyE σ) E))
end Go.Eng

namespace Go.Eng
open Go.RowKit
variable {P : Program} {T : TT} {c : Ctx} {e eb : Env} {of : Nat → Option Obj}

theorem allPre_get : ∀ {Es : List Ent}, allPre Es → ∀ {p : Nat} {E : Ent}, Es[p]? = some E → E.pre := by
  intro Es
  induction Es with
  | nil => intro _ p E h; simp at h
  | cons E0 r ih =>
    intro h p E hp
    cases p with
    | zero => simp only [List.getElem?_cons_zero, Option.some.injEq] at hp; subst hp; exact h.1
    | succ p => exact ih h.2 (by simpa using hp)
theorem conf_comm (A B : Ent) : conf A B = conf B A := by
  unfold conf
  have : same A.dst B.dst = same B.dst A.dst := by
    unfold same
    cases A.dst <;> cases B.dst <;> first | rfl | skip
    rename_i x y
    rw [Bool.eq_iff_iff]
    show (Nat.beq x y = true) ↔ (Nat.beq y x = true)
    rw [Nat.beq_eq, Nat.beq_eq]
    exact eq_comm
  rw [this, Bool.or_comm (hitS A.dst B.rs), Bool.or_right_comm (_ || _) (hitO A.wo B)]
theorem conf_rs {A B : Ent} (h : conf A B = false) : ∀ t ∈ B.rs, t ∉ keys (wS A) := by
  intro t ht hk
  simp only [conf, Bool.or_eq_false_iff] at h
  have h1 := h.1.1.1.1
  unfold wS at hk
  unfold hitS at h1
  cases hd : A.dst with
  | none => rw [hd] at hk; simp [keys] at hk
  | some d =>
    rw [hd] at hk h1
    simp only [keys, List.map_cons, List.map_nil, List.mem_singleton] at hk
    subst hk
    simp only [] at h1
    rw [mem_iff.2 ht] at h1; cases h1
theorem conf_ws {A B : Ent} (h : conf A B = false) : ∀ t, t ∈ keys (wS A) → t ∉ keys (wS B) := by
  intro t hA hB
  simp only [conf, Bool.or_eq_false_iff] at h
  have h1 := h.1.1.2
  unfold wS at hA hB
  unfold same at h1
  cases hd : A.dst with
  | none => rw [hd] at hA; simp [keys] at hA
  | some d =>
    cases hd' : B.dst with
    | none => rw [hd'] at hB; simp [keys] at hB
    | some d' =>
      rw [hd] at hA h1
      rw [hd'] at hB h1
      simp only [keys, List.map_cons, List.map_nil, List.mem_singleton] at hA hB
      subst hA; subst hB
      simp at h1
theorem keys_wO (A : Ent) (t : Nat) : t ∈ keys (wO A) ↔ ∃ p ∈ A.wo, p.1 = t := by
  simp [keys, wO]
theorem conf_ro {A B : Ent} (h : conf A B = false) : ∀ t ∈ B.ro, t ∉ keys (wO A) := by
  intro t ht hk
  simp only [conf, Bool.or_eq_false_iff] at h
  have h1 := h.1.2
  obtain ⟨p, hp, rfl⟩ := (keys_wO A t).1 hk
  unfold hitO at h1
  rw [List.any_eq_false] at h1
  have := h1 p hp
  simp only [Bool.or_eq_true, mem_iff, not_or] at this
  exact this.1 ht
theorem conf_wo {A B : Ent} (h : conf A B = false) : ∀ t, t ∈ keys (wO A) → t ∉ keys (wO B) := by
  intro t hA hB
  simp only [conf, Bool.or_eq_false_iff] at h
  have h1 := h.1.2
  obtain ⟨p, hp, rfl⟩ := (keys_wO A t).1 hA
  obtain ⟨q, hq, hqp⟩ := (keys_wO B p.1).1 hB
  unfold hitO at h1
  rw [List.any_eq_false] at h1
  have := h1 p hp
  simp only [Bool.or_eq_true, mem_iff, not_or] at this
  exact this.2 (List.mem_map.2 ⟨q, hq, hqp⟩)
def left (D : Nat → Bool) (n : Nat) : Nat := ((List.range n).filter fun j => !D j).length
theorem left_lt {D : Nat → Bool} {n i : Nat} (hi : i < n) (hD : D i = false) : left (fun j => j == i || D j) n < left D n := by
  unfold left
  have key : ∀ (l : List Nat), (l.filter fun j => !(j == i || D j)).length ≤ (l.filter fun j => !D j).length ∧ (i ∈ l → (l.filter fun j => !(j == i || D j)).length < (l.filter fun j => !D j).length) := by
    intro l
    induction l with
    | nil => simp
    | cons k r ih =>
      by_cases hk : k = i
      · subst hk
        simp only [beq_self_eq_true, Bool.true_or, Bool.not_true, Bool.false_eq_true, not_false_eq_true, List.filter_cons_of_neg, hD, Bool.not_false, List.filter_cons_of_pos, List.length_cons]
        refine ⟨by omega, fun _ => by omega⟩
      · have hb : (k == i) = false := by simpa using hk
        cases hDk : D k
        · simp only [List.filter_cons, hb, hDk, Bool.false_or, Bool.not_false, if_true, List.length_cons]
          refine ⟨by omega, fun h => ?_⟩
          rcases List.mem_cons.1 h with h | h
          · exact absurd h.symm hk
          · have := ih.2 h; omega
        · simp only [List.filter_cons, hb, hDk, Bool.or_true, Bool.not_true, Bool.false_eq_true, if_false]
          refine ⟨ih.1, fun h => ?_⟩
          rcases List.mem_cons.1 h with h | h
          · exact absurd h.symm hk
          · exact ih.2 h
  exact (key _).2 (List.mem_range.2 hi)
theorem getD_any {listed : Array Bool} {i : Nat} (h : i < listed.size) : listed.getD i true = listed.getD i false := by simp [h]
theorem drawn_ok (hT : T.OK P) {ops : Array Oper} {Q : Exit → Act → World → Prop} {nt : Nat} {σ σ' : St} {an an' : List An} {Es : List Ent} (hr : runOps P T ops nt ops.toList σ an = some (Es, σ', an')) (hp : allPre Es) (hc : sound ops.toList Es = true)
    (hQ : ∀ a' w', Sim c eb nt σ' a' w' → Q .normal a' w') : ∀ (fuel : Nat) (listed : Array Bool) (D : Nat → Bool) (a : Act) (e : Env), listed.size = ops.size → (∀ j, j < ops.size → D j = listed.getD j false) → (∀ j, ops.size ≤ j → D j = false) → left D ops.size ≤ fuel →
      (∀ j o, D j = true → ops[j]? = some o → ∀ e ∈ o.after, Region.binds .any e = true → D e.on = true) →
      Stands c eb (foldW D 0 (Es.map wS) (getS σ.sl)) (foldW D 0 (Es.map wO) (ofL σ.ob)) (fun id => id < σ.nx ∨ ∃ j E, D j = true ∧ Es[j]? = some E ∧ id ∈ E.nw) nt a e →
      wpAny P .any ops Q fuel listed a e.w := by
  obtain ⟨hσ, hlen0, hent⟩ := runOps_spec _ _ _ _ _ _ hr
  have hlen : Es.length = ops.size := by rw [hlen0, Array.length_toList]
  unfold sound at hc
  rw [Bool.and_eq_true] at hc
  have hback := backward_spec _ _ hc.1
  have hchk := chkAll_spec (Es := Es) Es 0 (fun q => by rw [Nat.zero_add]) hc.2
  have hopl : ∀ j : Nat, ops.toList[j]? = ops[j]? := fun j => Array.getElem?_toList
  -- all done
  have fin : ∀ (D : Nat → Bool) (a : Act) (e : Env), (∀ j, j < ops.size → D j = true) → Stands c eb (foldW D 0 (Es.map wS) (getS σ.sl)) (foldW D 0 (Es.map wO) (ofL σ.ob)) (fun id => id < σ.nx ∨ ∃ j E, D j = true ∧ Es[j]? = some E ∧ id ∈ E.nw) nt a e → Q .normal a e.w := by
    intro D a e hall hst
    refine hQ _ _ ⟨e, rfl, ?_⟩
    have e1 : foldW D 0 (Es.map wS) (getS σ.sl) = getS σ'.sl := by
      rw [hσ, getS_fold, foldW_congr (D' := fun j => decide (j < 0 + Es.length)) _ _ _ (fun q hq => by
        rw [List.length_map] at hq
        rw [Nat.zero_add, hall q (by omega)]; simp; omega), foldW_prefix, List.take_of_length_le (by simp)]
    have e2 : foldW D 0 (Es.map wO) (ofL σ.ob) = ofL σ'.ob := by
      rw [hσ, ofL_fold, foldW_congr (D' := fun j => decide (j < 0 + Es.length)) _ _ _ (fun q hq => by
        rw [List.length_map] at hq
        rw [Nat.zero_add, hall q (by omega)]; simp; omega), foldW_prefix, List.take_of_length_le (by simp)]
    rw [e1, e2] at hst
    refine ⟨hst.os, hst.le, fun id hid => ?_, hst.sl, hst.def_, hst.nt⟩
    rw [hσ]
    rcases hst.U id hid with h1 | ⟨j, E, -, hE, hid'⟩
    · exact Nat.lt_of_lt_of_le h1 (nx_mono _ _)
    · have := nx_before (σ := σ) (p := Es.length) hE (List.getElem?_eq_some_iff.1 hE).1 id hid'
      rwa [List.take_length] at this
  have ready_nil : ∀ (listed : Array Bool) (D : Nat → Bool), listed.size = ops.size → (∀ j, j < ops.size → D j = listed.getD j false) → Region.ready .any ops listed = [] → ∀ j, j < ops.size → D j = true := by
    intro listed D hsz hD hnil j
    induction j using Nat.strongRecOn with
    | ind j ih =>
      intro hj
      cases hDj : D j with
      | true => rfl
      | false =>
        have hmem : j ∈ Region.ready .any ops listed := by
          rw [mem_ready]
          refine ⟨?_, ops[j], Array.getElem?_eq_getElem hj, fun e he hb => ?_⟩
          · rw [getD_any (by rw [hsz]; exact hj), ← hD j hj]; exact hDj
          · have hlt := hback j ops[j] (by rw [hopl]; exact Array.getElem?_eq_getElem hj) e he hb
            rw [Nat.zero_add] at hlt
            rw [← hD _ (by omega)]
            exact ih _ hlt (by omega)
        rw [hnil] at hmem; cases hmem
  intro fuel
  induction fuel with
  | zero =>
    intro listed D a e hsz hD hDout hleft hdown hst
    have hall : ∀ j, j < ops.size → D j = true := by
      intro j hj
      cases hDj : D j with
      | true => rfl
      | false => have := left_lt hj hDj; omega
    refine ⟨?_, fin D a e hall hst⟩
    cases hrd : Region.ready .any ops listed with
    | nil => rfl
    | cons i r =>
      have hi : i ∈ Region.ready .any ops listed := by rw [hrd]; simp
      rw [mem_ready] at hi
      obtain ⟨h0, o, ho, -⟩ := hi
      have hlt := (Array.getElem?_eq_some_iff.1 ho).1
      have := hD i hlt
      rw [hall i hlt, ← getD_any (by rw [hsz]; exact hlt), h0] at this
      cases this
  | succ fuel ih =>
    intro listed D a e hsz hD hDout hleft hdown hst
    refine ⟨fun hnil => fin D a e (ready_nil listed D hsz hD hnil) hst, fun i hi => ?_⟩
    rw [mem_ready] at hi
    obtain ⟨h0, o, ho, hedges⟩ := hi
    have hlt := (Array.getElem?_eq_some_iff.1 ho).1
    have hDi : D i = false := by
      rw [hD i hlt, ← getD_any (by rw [hsz]; exact hlt)]; exact h0
    have hpreds : ∀ e ∈ o.after, Region.binds .any e = true → D e.on = true := fun e he hb => by
      have hl := hback i o (by rw [hopl]; exact ho) e he hb
      rw [hD _ (by omega)]; exact hedges e he hb
    obtain ⟨E, an1, an2, hE, hentE, hokE⟩ := hent i o (by rw [hopl]; exact ho)
    obtain ⟨k1, k2⟩ := okE_spec hokE
    have hpE := allPre_get hp hE
    -- what conflicts with i is done exactly if it stands before i
    have hG := masks_spec (D := D) (G := fun j => ∀ o, ops[j]? = some o → ∀ e ∈ o.after, Region.binds .any e = true → D e.on = true) (fun j hj o ho => hdown j o hj ho) ops.toList []
      (fun j _ p hp => by simp at hp) (fun q o' hq hGq => hGq o' (by simpa using hq))
    have hord : ∀ q A, Es[q]? = some A → conf A E = true → q ≠ i → D q = decide (q < i) := by
      intro q A hA hcf hqi
      rcases Nat.lt_or_gt_of_ne hqi with hlt' | hgt
      · have := hchk i q A E (Nat.zero_le _) hlt' hE hA hcf
        rw [hG i (fun o' ho' => by rw [ho] at ho'; cases ho'; exact hpreds) q this]; simp [hlt']
      · cases hDq : D q with
        | false => simp; omega
        | true =>
          have := hchk q i E A (Nat.zero_le _) hgt hA hE (by rw [conf_comm]; exact hcf)
          have hq : q < ops.size := by rw [← hlen]; exact (List.getElem?_eq_some_iff.1 hA).1
          have := hG q (fun o' ho' => hdown q o' hDq ho') i this
          rw [hDi] at this; cases this
    have hreadS : ∀ t ∈ E.rs, foldW D 0 (Es.map wS) (getS σ.sl) t = getS ((Es.take i).foldl applyE σ).sl t := by
      intro t ht
      rw [getS_fold, List.map_take, ← foldW_prefix _ 0]
      refine foldW_read _ 0 _ _ rfl (fun q l hq htl => ?_)
      rw [List.getElem?_map, Option.map_eq_some_iff] at hq
      obtain ⟨A, hA, rfl⟩ := hq
      rw [Nat.zero_add, Nat.zero_add]
      by_cases hqi : q = i
      · subst hqi; rw [hDi]; simp
      · refine hord q A hA ?_ hqi
        cases hcf : conf A E with
        | true => rfl
        | false => exact absurd htl (conf_rs hcf t ht)
    have hreadO : ∀ t ∈ E.ro, foldW D 0 (Es.map wO) (ofL σ.ob) t = ofL ((Es.take i).foldl applyE σ).ob t := by
      intro t ht
      rw [ofL_fold, List.map_take, ← foldW_prefix _ 0]
      refine foldW_read _ 0 _ _ rfl (fun q l hq htl => ?_)
      rw [List.getElem?_map, Option.map_eq_some_iff] at hq
      obtain ⟨A, hA, rfl⟩ := hq
      rw [Nat.zero_add, Nat.zero_add]
      by_cases hqi : q = i
      · subst hqi; rw [hDi]; simp
      · refine hord q A hA ?_ hqi
        cases hcf : conf A E with
        | true => rfl
        | false => exact absurd htl (conf_ro hcf t ht)
    have hlater : ∀ q A, i < q → Es[q]? = some A → D q = true → conf E A = false := by
      intro q A hq hA hDq
      cases hcf : conf E A with
      | false => rfl
      | true =>
        have := hord q A hA (by rw [conf_comm]; exact hcf) (by omega)
        rw [hDq] at this; simp at this; omega
    refine entOp_ok hT ho hst.os hentE hpE (fun id hid => hreadO id hid) (fun id hid hu => ?_) (fun t ht => by rw [← hreadS t ht]; exact hst.sl t) (fun x w' hl => ?_)
    · have hge := k2 id hid
      rcases hst.U id hu with h1 | ⟨j, A, hDj, hA, hid'⟩
      · have := nx_mono (Es.take i) σ; omega
      · rcases Nat.lt_trichotomy j i with hji | hji | hji
        · have := nx_before (σ := σ) hA hji id hid'; omega
        · subst hji; rw [hDi] at hDj; cases hDj
        · have hjo : j < ops.size := by rw [← hlen]; exact (List.getElem?_eq_some_iff.1 hA).1
          obtain ⟨A', _, _, hA', _, hokA⟩ := hent j ops[j] (by rw [hopl]; exact Array.getElem?_eq_getElem hjo)
          rw [hA] at hA'; cases hA'
          have := (okE_spec hokA).2 id hid'
          have := nx_before (σ := σ) hE hji id hid
          omega
    · obtain ⟨e', rfl, hst'⟩ := hst.step hl k1
      refine ih (listed.setIfInBounds i true) (fun j => j == i || D j) _ e' (by simp [hsz]) (fun j hj => ?_) (fun j hj => ?_) (by have := left_lt hlt hDi; omega) (fun j o' hj ho' e he hb => ?_) ?_
      · by_cases hji : j = i
        · subst hji; simp [Array.getD, hsz, hj]
        · rw [getD_set_ne false (Ne.symm hji), ← hD j hj]; simp [hji]
      · have : j ≠ i := by omega
        simp [this, hDout j hj]
      · simp only [Bool.or_eq_true, beq_iff_eq] at hj ⊢
        right
        rcases hj with rfl | hj
        · rw [ho] at ho'; cases ho'; exact hpreds e he hb
        · exact hdown j o' hj ho' e he hb
      · have f1 := foldW_insert (D := D) (Es.map wS) 0 i (getS σ.sl) (wS E) (by rw [List.getElem?_map, hE]; rfl) (by rw [Nat.zero_add]; exact hDi) (fun q l' hq hl' hDq => by
          rw [List.getElem?_map, Option.map_eq_some_iff] at hl'
          obtain ⟨A, hA, rfl⟩ := hl'
          rw [Nat.zero_add] at hDq
          exact conf_ws (hlater q A hq hA hDq))
        have f2 := foldW_insert (D := D) (Es.map wO) 0 i (ofL σ.ob) (wO E) (by rw [List.getElem?_map, hE]; rfl) (by rw [Nat.zero_add]; exact hDi) (fun q l' hq hl' hDq => by
          rw [List.getElem?_map, Option.map_eq_some_iff] at hl'
          obtain ⟨A, hA, rfl⟩ := hl'
          rw [Nat.zero_add] at hDq
          exact conf_wo (hlater q A hq hA hDq))
        simp only [Nat.zero_add] at f1 f2
        rw [f1, f2]
        refine ⟨hst'.os, hst'.le, fun id hid => ?_, hst'.sl, hst'.def_, hst'.nt⟩
        rcases hst'.U id hid with (h1 | ⟨j, A, hDj, hA, hid'⟩) | h1
        · exact .inl h1
        · exact .inr ⟨j, A, by simp [hDj], hA, hid'⟩
        · exact .inr ⟨i, E, by simp, hE, h1⟩
end Go.Eng

namespace Go.Eng
open Go.RowKit
variable {P : Program} {T : TT} {c : Ctx} {e eb : Env} {of : Nat → Option Obj}

theorem wp_drawn (hm : P.follows .mixedOrders = true) (hT : T.OK P) {id : Nat} {ops : Array Oper} {Q : Exit → Act → World → Prop} {nt : Nat} {σ σ' : St} {an an' : List An} {Es : List Ent} {a : Act} {w : World} (hr : runOps P T ops nt ops.toList σ an = some (Es, σ', an')) (hp : allPre Es)
    (hc : sound ops.toList Es = true) (hs : Sim c eb nt σ a w) (hQ : ∀ a' w', Sim c eb nt σ' a' w' → Q .normal a' w') : (Code.region id ops true).wp P Q a w := by
  obtain ⟨e, rfl, hst⟩ := hs
  refine wp_region_any hm ?_
  obtain ⟨h1, h2⟩ := hst.os.same_heap (w' := { e.w with drawn := e.w.drawn + 1 }) rfl rfl rfl rfl
  refine drawn_ok hT hr hp hc hQ ops.size (Array.replicate ops.size false) (fun _ => false) a { e with w := { e.w with drawn := e.w.drawn + 1 } } (by simp) (fun j hj => ?_) (fun _ _ => rfl) ?_ (fun j o hj => by cases hj) ?_
  · simp [Array.getD, hj]
  · unfold left
    have := List.length_filter_le (fun j => !(fun _ => false : Nat → Bool) j) (List.range ops.size)
    rwa [List.length_range] at this
  · rw [foldW_none _ 0 _ (fun _ _ => rfl), foldW_none _ 0 _ (fun _ _ => rfl)]
    exact ⟨h1, hst.le.trans h2, fun id hid => .inl (hst.U id hid), fun t => (hst.sl t).mono h2, hst.def_, hst.nt⟩

/-! ### Code -/
/-- Which way the code goes: decisions, contracts, summaries of loops. -/
inductive Bn where
  | a (l : List An)
  | b (t : Bool)
  | l (σ0 : St) (ex : Exit) (σ : St)
  | u (n : Nat)
/-- A piece of code takes one state to another. -/
def Takes (P : Program) (nt : Nat) (code : Code) (σ : St) (ex : Exit) (σ' : St) : Prop :=
  ∀ (c : Ctx) (eb : Env) (a : Act) (w : World), Sim c eb nt σ a w → code.wp P (fun e a' w' => e = ex ∧ Sim c eb nt σ' a' w') a w
def selS (l : List (Nat × AV)) (σ : St) : List (Nat × AV) := l.map fun p => (p.1, getS σ.sl p.1)
def selO (l : List (Nat × Obj)) (σ : St) : List (Nat × Option Obj) := l.map fun p => (p.1, ofL σ.ob p.1)
def obs (l : List (Nat × Obj)) : List (Nat × Option Obj) := l.map fun p => (p.1, some p.2)
theorem selS_get {σ : St} : ∀ (l : List (Nat × AV)), selS l σ = l → ∀ t, getS l t = .junk ∨ getS l t = getS σ.sl t := by
  intro l
  induction l with
  | nil => intro _ t; exact .inl rfl
  | cons p r ih =>
    intro h t
    obtain ⟨k, v⟩ := p
    simp only [selS, List.map_cons, List.cons.injEq, Prod.mk.injEq, true_and] at h
    simp only [getS]
    by_cases hk : k = t
    · subst hk; rw [if_pos rfl]; exact .inr h.1.symm
    · rw [if_neg hk]; exact ih h.2 t
theorem selO_get {σ : St} : ∀ (l : List (Nat × Obj)), selO l σ = obs l → ∀ id o, ofL l id = some o → ofL σ.ob id = some o := by
  intro l
  induction l with
  | nil => intro _ id o h; cases h
  | cons p r ih =>
    intro h id o ho
    obtain ⟨k, v⟩ := p
    simp only [selO, obs, List.map_cons, List.cons.injEq, Prod.mk.injEq, true_and] at h
    simp only [ofL] at ho
    split at ho
    · rename_i hk; subst hk; injection ho with ho; subst ho; exact h.1
    · exact ih h.2 id o ho
theorem OSim.sub {of2 : Nat → Option Obj} (h : OSim c e of) (hs : ∀ id o, of2 id = some o → of id = some o) : OSim c e of2 := by
  have hs' : ∀ id, (of2 id).isSome → (of id).isSome := fun id h => by
    obtain ⟨o, ho⟩ := Option.isSome_iff_exists.1 h
    rw [hs _ _ ho]; rfl
  exact ⟨fun id o ho => h.ok id o (hs _ _ ho), fun i j b o b' o' hi hj => h.sep i j b o b' o' (hs' _ hi) (hs' _ hj), fun i b o hi => h.own i b o (hs' _ hi), h.lt, h.slt, h.s0, h.snew, h.os, h.tape, h.output, h.size, h.block⟩
/-- Less is said. -/
theorem Sim.weak {nt : Nat} {σ σ' : St} {a : Act} {w : World} (h : Sim c eb nt σ a w) (h1 : selS σ'.sl σ = σ'.sl) (h2 : selO σ'.ob σ = obs σ'.ob) (h3 : Nat.ble σ.nx σ'.nx = true) : Sim c eb nt σ' a w := by
  obtain ⟨e, rfl, hst⟩ := h
  refine ⟨e, rfl, hst.os.sub (selO_get _ h2), hst.le, fun id hid => Nat.lt_of_lt_of_le (hst.U id hid) (Nat.le_of_ble_eq_true h3), fun t => ?_, hst.def_, hst.nt⟩
  rcases selS_get _ h1 t with h | h
  · rw [h]; trivial
  · rw [h]; exact hst.sl t
structure Res where
  pre : Prop
  ex : Exit
  st : St
  an : List Bn
def evC (σ : St) : Operand → AV
  | .tmp t => getS σ.sl t
  | .const v => if one v then .pl v else .junk
  | _ => .junk
/-- A loop whose rounds are run one by one. -/
def unroll (f : St → List Bn → Option Res) : Nat → St → List Bn → Option Res
  | 0, _, _ => none
  | n + 1, σ, an => match f σ an with
    | some ⟨p, .normal, σ1, an1⟩ => match unroll f n σ1 an1 with
      | some ⟨q, ex, σ2, an2⟩ => some ⟨p ∧ q, ex, σ2, an2⟩
      | none => none
    | r => r
def exec (P : Program) (T : TT) (nt : Nat) : Code → St → List Bn → Option Res
  | .skip, σ, an => some ⟨True, .normal, σ, an⟩
  | .ret, σ, an => some ⟨True, .ret, σ, an⟩
  | .exit id, σ, an => some ⟨True, .exit id, σ, an⟩
  | .region _ ops draw, σ, .a l :: an =>
    match runOps P T ops nt ops.toList σ l with
    | some (Es, σ', []) => if !draw || sound ops.toList Es then some ⟨allPre Es, .normal, σ', an⟩ else none
    | _ => none
  | .seq x y, σ, an =>
    match exec P T nt x σ an with
    | some ⟨p, .normal, σ1, an1⟩ => match exec P T nt y σ1 an1 with
      | some ⟨q, ex, σ2, an2⟩ => some ⟨p ∧ q, ex, σ2, an2⟩
      | none => none
    | r => r
  | .cond q x y, σ, .b s :: an =>
    match evC σ q with
    | .pl (.bool t) => match (if s then exec P T nt x σ an else exec P T nt y σ an) with
      | some ⟨p, ex, σ', an'⟩ => some ⟨t = s ∧ p, ex, σ', an'⟩
      | none => none
    | _ => none
  | .block id body, σ, an =>
    match exec P T nt body σ an with
    | some ⟨p, .exit id', σ', an'⟩ => some ⟨p, if id' = id then .normal else .exit id', σ', an'⟩
    | r => r
  | .loop body, σ, .l σ0 ex σ' :: an => some ⟨(selS σ0.sl σ = σ0.sl ∧ selO σ0.ob σ = obs σ0.ob ∧ Nat.ble σ.nx σ0.nx = true) ∧ Takes P nt (.loop body) σ0 ex σ', ex, σ', an⟩
  | .loop body, σ, .u n :: an => unroll (fun σ an => exec P T nt body σ an) n σ an
  | _, _, _ => none
theorem unroll_ok {nt : Nat} {body : Code} {f : St → List Bn → Option Res} (hf : ∀ σ an r, f σ an = some r → r.pre → Takes P nt body σ r.ex r.st) (hc : Ctx) (eb : Env) : ∀ (n : Nat) (σ : St) (an : List Bn) (r : Res), unroll f n σ an = some r → r.pre →
    ∀ a w, Sim hc eb nt σ a w → Code.rounds P body (fun e a' w' => e = r.ex ∧ Sim hc eb nt r.st a' w') n a w := by
  intro n
  induction n with
  | zero => intro σ an r h; cases h
  | succ n ih =>
    intro σ an r h hp a w hs
    simp only [unroll] at h
    split at h
    · rename_i p σ1 an1 hx
      split at h <;> try (cases h; done)
      rename_i q ex σ2 an2 hy
      injection h with h; subst h
      refine Code.wp_mono ?_ (hf _ _ _ hx hp.1 hc eb a w hs)
      rintro e' a' w' ⟨rfl, hs'⟩
      exact ih _ _ _ hy hp.2 a' w' hs'
    · rename_i r0 hne
      have h2 := hf _ _ _ h hp hc eb a w hs
      have hex : r.ex ≠ .normal := by
        intro he
        obtain ⟨p, ex, st, an'⟩ := r
        simp only at he
        subst he
        exact hne _ _ _ h
      refine Code.wp_mono ?_ h2
      rintro e' a' w' ⟨rfl, hs'⟩
      cases hr : r.ex with
      | normal => exact absurd hr hex
      | _ => exact ⟨rfl, hs'⟩
theorem Sim.cond {nt : Nat} {σ : St} {a : Act} {w : World} (h : Sim c eb nt σ a w) {q : Operand} {t : Bool} (hq : evC σ q = .pl (.bool t)) : a.eval q = .bool t := by
  obtain ⟨e, rfl, hst⟩ := h
  cases q with
  | tmp t' =>
    have := hst.sl t'
    simp only [evC] at hq
    rw [hq] at this
    exact rep_pl_inv this
  | const v =>
    simp only [evC] at hq
    split at hq
    · injection hq
    · cases hq
  | global g => cases hq
  | func f => cases hq
/-- What the execution says is so. -/
theorem exec_ok (hm : P.follows .mixedOrders = true) (hT : T.OK P) {nt : Nat} : ∀ (code : Code) (σ : St) (an : List Bn) (r : Res), exec P T nt code σ an = some r → r.pre → Takes P nt code σ r.ex r.st := by
  intro code
  induction code with
  | skip =>
    intro σ an r h _ c eb a w hs
    simp only [exec, Option.some.injEq] at h
    subst h
    exact wp_skip ⟨rfl, hs⟩
  | ret =>
    intro σ an r h _ c eb a w hs
    simp only [exec, Option.some.injEq] at h
    subst h
    exact wp_ret ⟨rfl, hs⟩
  | exit id =>
    intro σ an r h _ c eb a w hs
    simp only [exec, Option.some.injEq] at h
    subst h
    exact wp_exit ⟨rfl, hs⟩
  | region id ops draw =>
    intro σ an r h hp c eb a w hs
    cases an with
    | nil => simp [exec] at h
    | cons b rest =>
      cases b with
      | b t => simp [exec] at h
      | l σ0 ex σ' => simp [exec] at h
      | u n => simp [exec] at h
      | a l =>
        simp only [exec] at h
        split at h <;> try (cases h; done)
        rename_i Es σ' hr
        split at h <;> try (cases h; done)
        rename_i hd
        injection h with h; subst h
        cases draw with
        | false => exact wp_plain hT hr hp hs (fun a' w' h' => ⟨rfl, h'⟩)
        | true => exact wp_drawn hm hT hr hp (by simpa using hd) hs (fun a' w' h' => ⟨rfl, h'⟩)
  | seq x y ihx ihy =>
    intro σ an r h hp c eb a w hs
    simp only [exec] at h
    split at h
    · rename_i p σ1 an1 hx
      split at h <;> try (cases h; done)
      rename_i q ex σ2 an2 hy
      injection h with h; subst h
      refine wp_seq (Code.wp_mono ?_ (ihx _ _ _ hx hp.1 c eb a w hs))
      rintro e' a' w' ⟨rfl, hs'⟩
      exact ihy _ _ _ hy hp.2 c eb a' w' hs'
    · rename_i r0 hne
      have h2 := ihx _ _ _ h hp c eb a w hs
      have hex : r.ex ≠ .normal := by
        intro he
        obtain ⟨p, ex, st, an'⟩ := r
        simp only at he
        subst he
        exact hne _ _ _ h
      refine wp_seq (Code.wp_mono ?_ h2)
      rintro e' a' w' ⟨rfl, hs'⟩
      cases hr : r.ex with
      | normal => exact absurd hr hex
      | _ => exact ⟨rfl, hs'⟩
  | cond q x y ihx ihy =>
    intro σ an r h hp c eb a w hs
    cases an with
    | nil => simp [exec] at h
    | cons b rest =>
      cases b with
      | a l => simp [exec] at h
      | l σ0 ex σ' => simp [exec] at h
      | u n => simp [exec] at h
      | b s =>
        simp only [exec] at h
        split at h <;> try (cases h; done)
        rename_i t hq
        split at h <;> try (cases h; done)
        rename_i p ex σ' an' hxy
        injection h with h; subst h
        obtain ⟨rfl, hp⟩ := hp
        refine wp_cond (hs.cond hq) ?_
        cases t
        · exact ihy _ _ _ hxy hp c eb a w hs
        · exact ihx _ _ _ hxy hp c eb a w hs
  | block id body ih =>
    intro σ an r h hp c eb a w hs
    simp only [exec] at h
    split at h
    · rename_i p id' σ' an' hb
      injection h with h; subst h
      refine wp_block (Code.wp_mono ?_ (ih _ _ _ hb hp c eb a w hs))
      rintro e' a' w' ⟨rfl, hs'⟩
      by_cases hid : id' = id
      · subst hid
        simp only [Exit.inBlock, if_true]
        exact ⟨trivial, hs'⟩
      · simp only [Exit.inBlock, if_neg hid]
        exact ⟨trivial, hs'⟩
    · rename_i r0 hne
      have hex : ∀ id', r.ex ≠ .exit id' := by
        intro id' he
        obtain ⟨p, ex, st, an'⟩ := r
        simp only at he
        subst he
        exact hne _ _ _ _ h
      refine wp_block (Code.wp_mono ?_ (ih _ _ _ h hp c eb a w hs))
      rintro e' a' w' ⟨rfl, hs'⟩
      cases hr : r.ex with
      | exit id' => exact absurd hr (hex id')
      | _ => exact ⟨rfl, hs'⟩
  | loop body ih =>
    intro σ an r h hp c eb a w hs
    cases an with
    | nil => simp [exec] at h
    | cons b rest =>
      cases b with
      | a l => simp [exec] at h
      | b t => simp [exec] at h
      | l σ0 ex σ' =>
        simp only [exec, Option.some.injEq] at h
        subst h
        obtain ⟨⟨h1, h2, h3⟩, hp⟩ := hp
        exact hp c eb a w (hs.weak h1 h2 h3)
      | u n =>
        simp only [exec] at h
        exact wp_loop_rounds n (unroll_ok (fun σ an r hr hp => ih σ an r hr hp) c eb n σ rest r h hp a w hs)
  | _ => intro σ an r h; simp only [exec] at h; cases h
end Go.Eng
