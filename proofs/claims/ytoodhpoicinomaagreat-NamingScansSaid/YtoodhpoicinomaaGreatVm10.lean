/- What the operations of a program do, shown once for all programs; and numbers. -/
import Derived.Test.YtoodhpoicinomaaGreatVm9
import Derived.Test.YtoodhpoicinomaaGreatVm8
set_option linter.constructorNameAsVariable false
set_option linter.unusedVariables false
set_option linter.unusedSimpArgs false
noncomputable section
namespace Go.Vm
open Go.RowKit
variable {T : TT} {R : Type}
structure KC where
  f : Nat → SymC
  y : Nat → SymC
  ord : Nat → Bool
def KC.dir (K : KC) : KS := ⟨fun f => (K.f f).dir, fun id => (K.y id).dir, K.ord⟩
structure KC.nat (K : KC) : Prop where
  f : ∀ f, (K.f f).nat
  y : ∀ id, (K.y id).nat
def liftC (nx : Nat) (o : Out) (k : Eff → Option R) : Option R :=
  match o with
  | ⟨v, wo, ro, nw⟩ => match nw with
    | [] => k ⟨v, wo, ro, nx⟩
    | [j] => bif Nat.beq j nx then k ⟨v, wo, ro, nx + 1⟩ else none
    | _ => none
theorem liftC_eq (nx : Nat) (o : Option Out) (k : Eff → Option R) : ob o (fun x => liftC nx x k) = ob (lift nx o) k := by
  cases o with
  | none => rfl
  | some x =>
    obtain ⟨v, wo, ro, nw⟩ := x
    simp only [ob, liftC, lift]
    cases nw with
    | nil => rfl
    | cons j r => cases r with
      | nil => simp only; cases Nat.beq j nx <;> rfl
      | cons _ _ => rfl
def seekSC (T : TT) (t : Nat) (k : A) (okk : Bool) (q : Nat × Nat × Nat × Nat × List (V × V × Bool) × Option V) (kk : A × List Nat → Option R) : Option R :=
  match q.2.2.2.2.2 with
  | none => match kOf T t with
    | some (.map kt et) => match T et, keyV T kt k with
      | some te, some kv => bif TK.notOther te.k then (bif Nat.beq kt q.2.1 && Nat.beq et q.2.2.1 then
          (bif hasS kv q.2.2.2.2.1 then kk (okA okk (mkA T et (valS kv q.2.2.2.2.1)) true, [q.1]) else kk (okA okk (mkA T et te.zero) false, [q.1])) else none) else none
      | _, _ => none
    | _ => none
  | some _ => none
theorem seekSC_eq (t : Nat) (k : A) (okk : Bool) (q : Nat × Nat × Nat × Nat × List (V × V × Bool) × Option V) (kk : A × List Nat → Option R) : seekSC T t k okk q kk = ob (seekS T t k okk q) kk := by
  unfold seekSC seekS
  cases q.2.2.2.2.2 with
  | some _ => rfl
  | none => cases kOf T t with
    | none => rfl
    | some k1 => cases k1 with
      | map kt et =>
        simp only
        cases T et with
        | none => rfl
        | some te => cases keyV T kt k with
          | none => rfl
          | some kv =>
            simp only [ob_if]
            cases TK.notOther te.k
            · rfl
            · simp only [cond_true]
              cases (Nat.beq kt q.2.1 && Nat.beq et q.2.2.1)
              · rfl
              · simp only [cond_true]
                cases hasS kv q.2.2.2.2.1 <;> rfl
      | _ => rfl
def lendSC (T : TT) (nx t : Nat) (k : A) (q : Nat × Nat × Nat × Nat × List (V × V × Bool) × Option V) (kk : Out → Option R) : Option R :=
  match q.2.2.2.2.2 with
  | none => match kOf T t with
    | some (.map kt et) => match T et, keyV T kt k with
      | some te, some kv => bif TK.notOther te.k then (bif Nat.beq kt q.2.1 && Nat.beq et q.2.2.1 then
          (bif hasS kv q.2.2.2.2.1 then (bif ownS kv q.2.2.2.2.1 then kk ⟨.o nx 1, [(q.1, .sm q.2.1 q.2.2.1 q.2.2.2.1 q.2.2.2.2.1 (some kv)), (nx, .row q.2.2.2.1 1 (valS kv q.2.2.2.2.1).els false true)], [q.1], [nx]⟩ else none) else kk ⟨mkA T et te.zero, [], [q.1], []⟩) else none) else none
      | _, _ => none
    | _ => none
  | some _ => none
theorem lendSC_eq (nx t : Nat) (k : A) (q : Nat × Nat × Nat × Nat × List (V × V × Bool) × Option V) (kk : Out → Option R) : lendSC T nx t k q kk = ob (lendS T nx t k q) kk := by
  unfold lendSC lendS
  cases q.2.2.2.2.2 with
  | some _ => rfl
  | none => cases kOf T t with
    | none => rfl
    | some k1 => cases k1 with
      | map kt et =>
        simp only
        cases T et with
        | none => rfl
        | some te => cases keyV T kt k with
          | none => rfl
          | some kv =>
            simp only [ob_if]
            cases TK.notOther te.k
            · rfl
            · simp only [cond_true]
              cases (Nat.beq kt q.2.1 && Nat.beq et q.2.2.1)
              · rfl
              · simp only [cond_true]
                cases hasS kv q.2.2.2.2.1
                · rfl
                · simp only [cond_true, ob_if]
                  cases ownS kv q.2.2.2.2.1 <;> rfl
      | _ => rfl
def lookGC (T : TT) (lend : Bool) (nx : Nat) (of : Nat → Option Ob) (t : Nat) (m k : A) (okk : Bool) (kk : Out → Option R) : Option R :=
  match smOf of m with
  | some q => bif lend && !okk then lendSC T nx t k q kk else seekSC T t k okk q fun p => kk ⟨p.1, [], p.2, []⟩
  | none => lookC T of t m k okk fun p => kk ⟨p.1, [], p.2, []⟩
theorem lookGC_eq (lend : Bool) (nx : Nat) (of : Nat → Option Ob) (t : Nat) (m k : A) (okk : Bool) (kk : Out → Option R) : lookGC T lend nx of t m k okk kk = ob (lookG T lend nx of t m k okk) kk := by
  unfold lookGC lookG
  cases smOf of m with
  | some q =>
    simp only
    cases lend && !okk
    · simp only [cond_false, seekSC_eq]
      cases seekS T t k okk q <;> rfl
    · simp only [cond_true, lendSC_eq]
  | none =>
    simp only [lookC_eq]
    cases lookB T of t m k okk <;> rfl
def putSC (T : TT) (of : Nat → Option Ob) (t : Nat) (k v : A) (q : Nat × Nat × Nat × Nat × List (V × V × Bool) × Option V) (kk : List (Nat × Ob) × List Nat → Option R) : Option R :=
  match kOf T t with
  | some (.map kt et) => match keyV T kt k with
    | some kv => bif Nat.beq kt q.2.1 && Nat.beq et q.2.2.1 then (bif hoOK q.2.2.2.2.2 kv then (match v with
        | .o rid ver => match of rid with
          | some (.row el v' xs false sh) => bif Nat.beq el q.2.2.2.1 && Nat.beq v' ver then kk ([(rid, .row el (ver + 1) [] true false), (q.1, .sm q.2.1 q.2.2.1 q.2.2.2.1 (setS kv (.l xs) true q.2.2.2.2.1) none)], [q.1, rid]) else none
          | _ => none
        | v => match toV T DEP of et v with
          | some (x, wo) => bif !(ids wo).contains q.1 then kk (wo ++ [(q.1, .sm q.2.1 q.2.2.1 q.2.2.2.1 (setS kv x false q.2.2.2.2.1) none)], q.1 :: ids wo) else none
          | none => none) else none) else none
    | none => none
  | _ => none
theorem putSC_eq (of : Nat → Option Ob) (t : Nat) (k v : A) (q : Nat × Nat × Nat × Nat × List (V × V × Bool) × Option V) (kk : List (Nat × Ob) × List Nat → Option R) : putSC T of t k v q kk = ob (putS T of t k v q) kk := by
  unfold putSC putS
  cases kOf T t with
  | none => rfl
  | some k1 => cases k1 with
    | map kt et =>
      simp only
      cases keyV T kt k with
      | none => rfl
      | some kv =>
        simp only [ob_if]
        cases (Nat.beq kt q.2.1 && Nat.beq et q.2.2.1)
        · rfl
        · simp only [cond_true]
          cases hoOK q.2.2.2.2.2 kv
          · rfl
          · simp only [cond_true]
            have gen : ∀ v : A, (match toV T DEP of et v with
                | some (x, wo) => bif !(ids wo).contains q.1 then kk (wo ++ [(q.1, .sm q.2.1 q.2.2.1 q.2.2.2.1 (setS kv x false q.2.2.2.2.1) none)], q.1 :: ids wo) else none
                | none => none) = ob (match toV T DEP of et v with
                | some (x, wo) => if !(ids wo).contains q.1 then some (wo ++ [(q.1, .sm q.2.1 q.2.2.1 q.2.2.2.1 (setS kv x false q.2.2.2.2.1) none)], q.1 :: ids wo) else none
                | none => none) kk := by
              intro v
              cases toV T DEP of et v with
              | none => rfl
              | some p =>
                obtain ⟨x, wo⟩ := p
                simp only [ob_if]
                cases !(ids wo).contains q.1 <;> rfl
            cases v with
            | o rid ver =>
              simp only
              cases of rid with
              | none => rfl
              | some o => cases o with
                | row el v' xs nl sh => cases nl
                                        · simp only [ob_if]; cases (Nat.beq el q.2.2.2.1 && Nat.beq v' ver) <;> rfl
                                        · rfl
                | _ => rfl
            | i k n => exact gen (.i k n)
            | b y => exact gen (.b y)
            | s l => exact gen (.s l)
            | z v => exact gen (.z v)
            | v t x => exact gen (.v t x)
            | p i t r => exact gen (.p i t r)
            | e i v j t r => exact gen (.e i v j t r)
            | c t x => exact gen (.c t x)
            | q t x => exact gen (.q t x)
            | w i v o n => exact gen (.w i v o n)
            | a i t r l m => exact gen (.a i t r l m)
            | m i => exact gen (.m i)
            | y i => exact gen (.y i)
            | f n c => exact gen (.f n c)
            | g t l => exact gen (.g t l)
            | t l => exact gen (.t l)
            | x => exact gen .x
    | _ => rfl
def putMC (T : TT) (of : Nat → Option Ob) (nx t : Nat) (m k v : A) (kk : Eff → Option R) : Option R :=
  match smOf of m with
  | some q => putSC T of t k v q fun p => kk ⟨.x, p.1, p.2, nx⟩
  | none => ob (updB T of t m k v) fun p => kk ⟨.x, p.1, p.2, nx⟩
theorem putMC_eq (of : Nat → Option Ob) (nx t : Nat) (m k v : A) (kk : Eff → Option R) : putMC T of nx t m k v kk = ob (putM T of nx t m k v) kk := by
  unfold putMC putM updG
  cases smOf of m with
  | some q =>
    simp only [putSC_eq]
    cases putS T of t k v q <;> rfl
  | none =>
    simp only
    cases updB T of t m k v <;> rfl
def lenGC (T : TT) (of : Nat → Option Ob) (t : Nat) (u : A) (k : A × List Nat → Option R) : Option R :=
  match smOf of u with
  | some q => (match kOf T t with
    | some (.map _ _) => bif Nat.ble q.2.2.2.2.1.length 9223372036854775807 then k (.i .i64 (q.2.2.2.2.1.length : Nat), [q.1]) else none
    | _ => none)
  | none => lenC T of t u k
theorem lenGC_eq (of : Nat → Option Ob) (t : Nat) (u : A) (k : A × List Nat → Option R) : lenGC T of t u k = ob (lenG T of t u) k := by
  unfold lenGC lenG
  cases smOf of u with
  | none => exact lenC_eq _ _ _ _
  | some q =>
    unfold lenS
    cases kOf T t with
    | none => rfl
    | some kk => cases kk with
      | map kt et => simp only; cases Nat.ble q.2.2.2.2.1.length 9223372036854775807 <;> rfl
      | _ => rfl
def callC (T : TT) (K : KC) (ev : Operand → A) (of : Nat → Option Ob) (nx : Nat) (k : Call) (kk : Eff → Option R) : Option R :=
  match k.callee with
  | .value f => match ev f with
    | .f fn cap => bif cap.all (cellA T) then K.f fn R (k.args.toList.map ev ++ cap) of nx kk else none
    | .y id => K.y id R (k.args.toList.map ev) of nx kk
    | _ => none
  | .builtin .len => match k.argTypes.toList, k.args.toList with
    | [t], [x] => lenGC T of t (ev x) fun p => kk (.pv nx p.1 p.2)
    | _, _ => none
  | .builtin .append => match k.argTypes.toList, k.args.toList with
    | [t, xt], [x, y] => bif appOk T xt (ev y) then appendC T of nx t (ev x) (ev y) fun o => liftC nx o kk else bif isQ T (ev x) then ob (lift nx (zerosA T nx t xt (ev x) (ev y))) kk else none
    | _, _ => none
  | .builtin .copy => match k.argTypes.toList, k.args.toList with
    | [t, xt], [x, y] => copyC T of t xt (ev x) (ev y) fun p => kk ⟨p.1, p.2.1, p.2.2, nx⟩
    | _, _ => none
  | _ => ob (callA T (.no fun _ _ _ _ => none) ev of nx k) kk
theorem callC_eq {K : KC} (hK : K.nat) (ev : Operand → A) (of : Nat → Option Ob) (nx : Nat) (k : Call) (kk : Eff → Option R) : callC T K ev of nx k kk = ob (callA T K.dir ev of nx k) kk := by
  unfold callC
  split
  · rename_i f hk
    simp only [callA, hk]
    cases ev f with
    | f fn cap =>
      simp only [ob_if]
      cases cap.all (cellA T)
      · rfl
      · simp only [cond_true]; exact hK.f fn R _ of nx kk
    | y id => exact hK.y id R _ of nx kk
    | _ => rfl
  · rename_i hk
    simp only [callA, hk]
    split
    · rename_i t x h1 h2
      rw [h1, h2]
      simp only [lenGC_eq]
      cases lenG T of t (ev x) <;> rfl
    · rename_i hne
      split
      · rename_i t x h1 h2; exact absurd h2 (hne _ _ h1)
      · rfl
  · rename_i hk
    simp only [callA, hk]
    split
    · rename_i t xt x y h1 h2
      rw [h1, h2]
      simp only [appendC_eq, liftC_eq]
      cases appOk T xt (ev y)
      · simp only [cond_false, Bool.false_eq_true, if_false]
        cases isQ T (ev x) <;> rfl
      · simp only [cond_true, if_true]
    · rename_i hne
      split
      · rename_i t xt x y h1 h2; exact absurd h2 (hne _ _ _ _ h1)
      · rfl
  · rename_i hk
    simp only [callA, hk]
    split
    · rename_i t xt x y h1 h2
      rw [h1, h2]
      simp only [copyC_eq]
      cases copyA T of t xt (ev x) (ev y) <;> rfl
    · rename_i hne
      split
      · rename_i t xt x y h1 h2; exact absurd h2 (hne _ _ _ _ h1)
      · rfl
  · rename_i h1 h2 h3 h4
    have : callA T (.no fun _ _ _ _ => none) ev of nx k = callA T K.dir ev of nx k := by
      unfold callA
      split
      · rename_i f hk; exact absurd hk (h1 f)
      all_goals rfl
    rw [this]
def stepC (T : TT) (K : KC) (ev : Operand → A) (of : Nat → Option Ob) (nx : Nat) (o : Oper) (k : Eff → Option R) : Option R :=
  match o.op with
  | .pick q a b => match ev q with
    | .b t => k (.pv nx (bif t then ev a else ev b) [])
    | _ => none
  | .binOp op t x y _ => binC T of op t (ev x) (ev y) fun p => k (.pv nx p.1 p.2)
  | .unOp op _ x => unC op (ev x) fun v => k (.pv nx v [])
  | .convert s t x => convC T of nx s t (ev x) fun o => liftC nx o k
  | .sliceToArrayPointer t x => arrC T of t (ev x) fun p => k ⟨p.1, p.2.1, p.2.2, nx⟩
  | .makeSlice t l c => makeSliceC T nx t (ev l) (ev c) k
  | .lookup t m c okk => lookGC T (lendP o.pos) nx of t (ev m) (ev c) okk fun o => liftC nx o k
  | .mapUpdate t m c v => putMC T of nx t (ev m) (ev c) (ev v) k
  | .insert t m c v => putMC T of nx t (ev m) (ev c) (ev v) k
  | .slice t x lo hi mx => sliceC T of t (ev x) (lo.map ev) (hi.map ev) (mx.map ev) fun p => k ⟨p.1, p.2.1, p.2.2, nx⟩
  | .indexAddr t x ix => match ev ix with
    | .i _ i => indexAddrC T of t i (ev x) fun p => k (.pv nx p.1 p.2)
    | _ => none
  | .index t x ix => match ev ix with
    | .i _ i => indexC T t i (ev x) fun v => k (.pv nx v [])
    | _ => none
  | .call c => callC T K ev of nx c k
  | _ => ob (stepOp T (.no fun _ _ _ _ => none) ev of nx o) k
theorem pvR_ob {nx : Nat} (o : Option (A × List Nat)) (k : Eff → Option R) : ob (pvR nx o) k = ob o fun p => k (.pv nx p.1 p.2) := by cases o <;> rfl
theorem pvO_ob {nx : Nat} (o : Option A) (k : Eff → Option R) : ob (pvO nx o) k = ob o fun v => k (.pv nx v []) := by cases o <;> rfl
theorem pvW_ob {nx : Nat} (o : Option (A × List (Nat × Ob) × List Nat)) (k : Eff → Option R) : ob (pvW nx o) k = ob o fun p => k ⟨p.1, p.2.1, p.2.2, nx⟩ := by cases o <;> rfl
theorem stepC_eq {K : KC} (hK : K.nat) (ev : Operand → A) (of : Nat → Option Ob) (nx : Nat) (o : Oper) (k : Eff → Option R) : stepC T K ev of nx o k = ob (stepOp T K.dir ev of nx o) k := by
  obtain ⟨dst, op, ty, pos, after, guard⟩ := o
  cases op <;> simp only [stepC, stepOp, binC_eq, unC_eq, convC_eq, arrC_eq, makeSliceC_eq, lookGC_eq, putMC_eq, sliceC_eq, pvR_ob, pvO_ob, pvW_ob, liftC_eq, callC_eq hK]
  case pick q a b => cases ev q <;> rfl
  case indexAddr t x ix => cases ev ix <;> simp only [indexAddrC_eq, pvR_ob] <;> rfl
  case index t x ix => cases ev ix <;> simp only [indexC_eq, pvO_ob] <;> rfl
def entC (T : TT) (K : KC) (ops : Array Oper) (sl : Nat → A) (of : Nat → Option Ob) (nx : Nat) (o : Oper) (k : Ent → Option R) : Option R :=
  match o.guard with
  | none => stepC T K (evO sl) of nx o fun out => bif Nat.ble nx out.nx then k (.mk1 o (o.looksAt ops) nx out) else none
  | some (g, want) => match (ops[g]?).bind (·.dst) with
    | some d => match sl d with
      | .t _ => k (.skip o (o.looksAt ops) nx)
      | .b q => bif (bif want then q else !q) then (stepC T K (evO sl) of nx o fun out => bif Nat.ble nx out.nx then k (.mk1 o (o.looksAt ops) nx out) else none) else k (.skip o (o.looksAt ops) nx)
      | _ => none
    | none => none
theorem entC_eq {K : KC} (hK : K.nat) (ops : Array Oper) (sl : Nat → A) (of : Nat → Option Ob) (nx : Nat) (o : Oper) (k : Ent → Option R) : entC T K ops sl of nx o k = ob (entOp T K.dir ops sl of nx o) k := by
  have go : ob (stepOp T K.dir (evO sl) of nx o) (fun out => bif Nat.ble nx out.nx then k (.mk1 o (o.looksAt ops) nx out) else none) = ob (match stepOp T K.dir (evO sl) of nx o with
      | some out => if Nat.ble nx out.nx = true then some (Ent.mk1 o (o.looksAt ops) nx out) else none
      | none => none) k := by
    cases stepOp T K.dir (evO sl) of nx o with
    | none => rfl
    | some out => simp only [ob]; cases Nat.ble nx out.nx <;> rfl
  unfold entC entOp
  cases o.guard with
  | none => simp only [stepC_eq hK]; exact go
  | some p =>
    obtain ⟨g, want⟩ := p
    simp only
    cases (ops[g]?).bind (·.dst) with
    | none => rfl
    | some d =>
      simp only
      cases sl d with
      | t _ => rfl
      | b q =>
        simp only [stepC_eq hK, go]
        cases q <;> cases want <;> rfl
      | _ => rfl
def seeB {α : Type} (a : A) (k : A → α) : α :=
  match a with
  | .b q => match q with
    | true => k (.b true)
    | false => k (.b false)
  | a => k a
theorem seeB_eq {α : Type} (a : A) (k : A → α) : seeB a k = k a := by
  cases a with
  | b q => cases q <;> rfl
  | _ => rfl
def seeC (fl : Bool) (a : A) (k : A → Option R) : Option R :=
  match fl with
  | true => seeA a k
  | false => seeB a k
theorem seeC_eq (fl : Bool) (a : A) (k : A → Option R) : seeC fl a k = k a := by
  cases fl
  · exact seeB_eq a k
  · exact seeA_eq a k
def ob2 {α β : Type} (o : Option (α × β)) (k : α → β → Option R) : Option R :=
  match o with
  | some p => k p.1 p.2
  | none => none
def runC (T : TT) (K : KC) (fl : Bool) (ops : Array Oper) (of : Nat → Option Ob) : List Oper → St → (List Ent → St → Option R) → Option R
  | [], σ, k => k [] σ
  | o :: r, σ, k => entC T K ops (getS σ.sl) (over σ.ob of) σ.nx o fun E => seeC fl E.val fun v => seeN E.hi fun h => seeL (addR σ.ob E.ro σ.rd) fun rd =>
      runC T K fl ops of r { sl := match E.dst with
                                | some d => (d, v) :: σ.sl
                                | none => σ.sl
                             ob := setL σ.ob E.wo, rd := rd, nx := h, mks := σ.mks } fun Es σ' => k ({ E with val := v, hi := h } :: Es) σ'
theorem runC_eq {K : KC} (hK : K.nat) (fl : Bool) (ops : Array Oper) (of : Nat → Option Ob) : ∀ (l : List Oper) (σ : St) (k : List Ent → St → Option R), runC T K fl ops of l σ k = ob2 (runOps T K.dir ops of l σ) k := by
  intro l
  induction l with
  | nil => intro σ k; rfl
  | cons o r ih =>
    intro σ k
    rw [runOps_cons]
    simp only [runC, entC_eq hK, seeC_eq, seeN_eq, seeL_eq, ih]
    cases entOp T K.dir ops (getS σ.sl) (over σ.ob of) σ.nx o with
    | none => rfl
    | some E =>
      simp only [ob, St.app]
      cases runOps T K.dir ops of r _ with
      | none => rfl
      | some p => rfl
abbrev LC := Code → Option ((R : Type) → (Nat → Option Ob) → St → (Exit → St → Option R) → Option R)
def unrollC (ks : List Nat) (f : St → (Exit → St → Option R) → Option R) : Nat → St → (Exit → St → Option R) → Option R
  | 0, _, _ => none
  | n + 1, σ, k => f (σ.tidy ks) fun ex σ1 => match ex with
    | .normal => unrollC ks f n σ1 k
    | ex => k ex σ1
def rangeC (T : TT) (K : KC) (nt : Nat) (of : Nat → Option Ob) (R : Type) (g : Operand) (ps : Array Nat) (asg body : Code) (σ : St) (k : Exit → St → Option R) : Option R :=
  match σ.mks with
  | some l => match evO (getS σ.sl) g with
    | .f f cap => bif K.ord f && cap.all (cellA T) then
        (fun (ob1 : Tr) => K.f f R (.y (σ.nx + 1) :: cap) (over ob1 of) (σ.nx + 2) fun out => bif Nat.ble (σ.nx + 2) out.nx then
          (fun (ob2 : Tr) => match ob2.get (σ.nx + 1) with
          | some (.lp (some r)) => (match notBusy r.st with
            | true => (match jumpX r.pend with
              | some ex => k ex ⟨σ.sl, ob2.set (σ.nx + 1) (.lp (some { r with st := .exhausted })), addR ob1 out.ro σ.rd, out.nx, some (σ.nx :: l)⟩
              | none => none)
            | false => none)
          | _ => none) (setL ob1 out.wo) else none) ((σ.ob.set σ.nx (.lp none)).set (σ.nx + 1) (.lp (some ⟨nt, snapS σ.sl (keysS σ.sl []), ps, asg, body, .ready, none⟩)))
      else none
    | _ => none
  | none => none
theorem rangeC_eq {K : KC} (hK : K.nat) {nt : Nat} {of : Nat → Option Ob} {R : Type} {g : Operand} {ps : Array Nat} {asg body : Code} {σ : St} {k : Exit → St → Option R} : rangeC T K nt of R g ps asg body σ k = ob2 (rangeA T K.dir nt of g ps asg body σ) k := by
  unfold rangeC rangeA
  cases σ.mks with
  | none => rfl
  | some l =>
    simp only
    cases evO (getS σ.sl) g with
    | f f cap =>
      simp only
      show (bif K.ord f && cap.all (cellA T) then _ else _) = ob2 (if (K.ord f && cap.all (cellA T)) = true then _ else _) k
      cases (K.ord f && cap.all (cellA T))
      · rfl
      · simp only [cond_true, if_true]
        generalize (σ.ob.set σ.nx (.lp none)).set (σ.nx + 1) (.lp (some ⟨nt, snapS σ.sl (keysS σ.sl []), ps, asg, body, .ready, none⟩)) = ob1
        rw [hK.f f]
        show ob ((K.f f).dir _ _ _) _ = ob2 (match (K.f f).dir _ _ _ with | some out => _ | none => none) k
        cases (K.f f).dir (.y (σ.nx + 1) :: cap) (over ob1 of) (σ.nx + 2) with
        | none => rfl
        | some out =>
          simp only [ob]
          cases Nat.ble (σ.nx + 2) out.nx
          · rfl
          · simp only [cond_true, if_true]
            cases (setL ob1 out.wo).get (σ.nx + 1) with
            | none => rfl
            | some o =>
              cases o with
              | lp q =>
                cases q with
                | none => rfl
                | some r =>
                  simp only
                  cases notBusy r.st
                  · rfl
                  · simp only
                    cases jumpX r.pend <;> rfl
              | _ => rfl
    | _ => rfl
def execC (T : TT) (K : KC) (Lo : LC) (fl : Bool) (fu nt : Nat) (of : Nat → Option Ob) (R : Type) : Code → St → (Exit → St → Option R) → Option R
  | .skip, σ, k => k .normal σ
  | .ret, σ, k => k .ret σ
  | .exit id, σ, k => k (.exit id) σ
  | .region _ ops draw, σ, k =>
    match draw with
    | false => bif ops.toList.all (okDst nt) then runC T K fl ops of ops.toList σ fun _ σ' => k .normal σ' else none
    | true => bif statB nt ops then (runC T K fl ops of ops.toList σ fun Es σ' => bif dynA (masks ops.toList []) Es 0 Es then k .normal σ' else
        runC T K fl ops of ops.toList (σ.pre of (shEs (over σ.ob of) Es)) fun Es2 σ2 => bif dynA (masks ops.toList []) Es2 0 Es2 then k .normal σ2 else none) else none
  | .seq x y, σ, k => execC T K Lo fl fu nt of R x σ fun ex σ1 => match ex with
    | .normal => execC T K Lo fl fu nt of R y σ1 k
    | ex => k ex σ1
  | .cond q x y, σ, k => match evO (getS σ.sl) q with
    | .b t => bif t then execC T K Lo fl fu nt of R x σ k else execC T K Lo fl fu nt of R y σ k
    | _ => none
  | .block id body, σ, k => execC T K Lo fl fu nt of R body σ fun ex σ' => match ex with
    | .exit id' => k (bif Nat.beq id' id then .normal else .exit id') σ'
    | ex => k ex σ'
  | .loop body, σ, k => match Lo body with
    | some s => s R of σ k
    | none => unrollC (keysS σ.sl []) (fun σ k => execC T K Lo fl fu nt of R body σ k) fu σ k
  | .rangeFunc g ps asg body, σ, k => rangeC T K nt of R g ps asg body σ k
  | _, _, _ => none
abbrev LS := (R : Type) → (Nat → Option Ob) → St → (Exit → St → Option R) → Option R
def LS.nat (s : LS) : Prop := ∀ (R : Type) (of : Nat → Option Ob) (σ : St) (k : Exit → St → Option R), s R of σ k = ob2 (s (Exit × St) of σ fun ex σ => some (ex, σ)) k
def LS.dir (s : LS) (of : Nat → Option Ob) (σ : St) : Option (Exit × St) := s (Exit × St) of σ fun ex σ => some (ex, σ)
def dirL (Lo : LC) : LTab := fun b => match Lo b with
  | some s => some (LS.dir s)
  | none => none
def LoNat (Lo : LC) : Prop := ∀ b s, Lo b = some s → LS.nat s
theorem loNat_none : LoNat (fun _ => none) := fun b s h => by cases h
theorem unrollC_eq {ks : List Nat} {f : St → (Exit → St → Option R) → Option R} {g : St → Option (Exit × St)} (h : ∀ σ k, f σ k = ob2 (g σ) k) : ∀ (n : Nat) (σ : St) (k : Exit → St → Option R), unrollC ks f n σ k = ob2 (unroll ks g n σ) k := by
  intro n
  induction n with
  | zero => intro σ k; rfl
  | succ n ih =>
    intro σ k
    simp only [unrollC, unroll, h]
    cases hg : g (σ.tidy ks) with
    | none => rfl
    | some p =>
      obtain ⟨ex, σ1⟩ := p
      simp only [ob2]
      cases ex with
      | normal => exact ih σ1 k
      | _ => rfl
theorem execC_eq {K : KC} (hK : K.nat) {Lo : LC} (hLo : LoNat Lo) {fl : Bool} {fu nt : Nat} (of : Nat → Option Ob) (R : Type) : ∀ (c : Code) (σ : St) (k : Exit → St → Option R), execC T K Lo fl fu nt of R c σ k = ob2 (exec T K.dir (dirL Lo) fu nt of c σ) k := by
  intro c
  induction c with
  | skip => intro σ k; rfl
  | ret => intro σ k; rfl
  | exit id => intro σ k; rfl
  | region id ops draw =>
    intro σ k
    cases draw with
    | false =>
      simp only [execC, exec, runC_eq hK]
      cases ops.toList.all (okDst nt)
      · rfl
      · simp only [cond_true, if_true]
        cases runOps T K.dir ops of ops.toList σ <;> rfl
    | true =>
      simp only [execC, exec, runC_eq hK]
      cases statB nt ops
      · rfl
      · simp only [cond_true, if_true]
        cases runOps T K.dir ops of ops.toList σ with
        | none => rfl
        | some p =>
          obtain ⟨Es, σ'⟩ := p
          simp only [ob2]
          cases dynA (masks ops.toList []) Es 0 Es
          · simp only [cond_false, Bool.false_eq_true, if_false]
            cases runOps T K.dir ops of ops.toList (σ.pre of (shEs (over σ.ob of) Es)) with
            | none => rfl
            | some p2 =>
              obtain ⟨Es2, σ2⟩ := p2
              simp only
              cases dynA (masks ops.toList []) Es2 0 Es2 <;> rfl
          · rfl
  | seq x y ihx ihy =>
    intro σ k
    simp only [execC, exec]
    rw [ihx]
    cases exec T K.dir (dirL Lo) fu nt of x σ with
    | none => rfl
    | some p =>
      obtain ⟨ex, σ1⟩ := p
      simp only [ob2]
      cases ex with
      | normal => exact ihy σ1 k
      | _ => rfl
  | cond q x y ihx ihy =>
    intro σ k
    simp only [execC, exec]
    cases evO (getS σ.sl) q with
    | b t => cases t
             · exact ihy σ k
             · exact ihx σ k
    | _ => rfl
  | block id body ih =>
    intro σ k
    simp only [execC, exec]
    rw [ih]
    cases exec T K.dir (dirL Lo) fu nt of body σ with
    | none => rfl
    | some p =>
      obtain ⟨ex, σ1⟩ := p
      simp only [ob2]
      cases ex with
      | exit id' => simp only; cases Nat.beq id' id <;> rfl
      | _ => rfl
  | loop body ih =>
    intro σ k
    simp only [execC, exec]
    cases hb : Lo body with
    | none =>
      simp only [dirL, hb]
      exact unrollC_eq (fun σ k => ih σ k) fu σ k
    | some s =>
      simp only [dirL, hb]
      exact hLo body s hb R of σ k
  | rangeFunc g ps asg body _ _ =>
    intro σ k
    simp only [execC, exec]
    exact rangeC_eq hK
  | _ => intro σ k; rfl
def runFC (P : Program) (T : TT) (K : KC) (Lo : Nat → LC) (fl : Bool) (fu f : Nat) : SymC := fun R args of nx k =>
  match P.funcs[f]? with
  | some fn => match fn.body with
    | some code => bif !(fn.name == "runtime.NumGoroutine") && Nat.ble args.length fn.ntmps then
        execC T K (Lo nx) fl fu fn.ntmps of R code ⟨argS 0 args, .e, [], nx, some []⟩ fun ex σ => bif endB ex then
          (match σ.mks with
          | some ms => bif mksB nx σ.nx σ.ob.get ms then
            (match resA T (getS σ.sl) (over σ.ob of) fn.results.toList with
            | some p => k (lessW ms (pack nx p.1 σ p.2))
            | none => none) else none
          | none => none) else none
        else none
    | none => none
  | none => none
theorem runFC_eq {P : Program} {K : KC} (hK : K.nat) {Lo : Nat → LC} (hL : ∀ n0, LoNat (Lo n0)) {fl : Bool} {fu f : Nat} (R : Type) (args : List A) (of : Nat → Option Ob) (nx : Nat) (k : Eff → Option R) :
    runFC P T K Lo fl fu f R args of nx k = ob (runF P T K.dir (fun n0 => dirL (Lo n0)) fu f args of nx) k := by
  unfold runFC runF
  cases hf : P.funcs[f]? with
  | none => rfl
  | some fn =>
    simp only
    cases hb : fn.body with
    | none => rfl
    | some code =>
      simp only [ob_if]
      cases (!(fn.name == "runtime.NumGoroutine") && Nat.ble args.length fn.ntmps)
      · rfl
      · simp only [cond_true]
        rw [execC_eq hK (hL nx) of R code]
        cases exec T K.dir (dirL (Lo nx)) fu fn.ntmps of code ⟨argS 0 args, .e, [], nx, some []⟩ with
        | none => rfl
        | some p =>
          obtain ⟨ex, σ⟩ := p
          simp only [ob2, ob_if]
          cases endB ex
          · rfl
          · simp only [cond_true]
            cases σ.mks with
            | none => rfl
            | some ms =>
              simp only [ob_if]
              cases mksB nx σ.nx σ.ob.get ms
              · rfl
              · simp only [cond_true]
                cases resA T (getS σ.sl) (over σ.ob of) fn.results.toList <;> rfl
theorem runFC_nat {P : Program} {K : KC} (hK : K.nat) {Lo : Nat → LC} (hL : ∀ n0, LoNat (Lo n0)) {fl : Bool} {fu f : Nat} : (runFC P T K Lo fl fu f).nat := by
  intro R args of nx k
  rw [runFC_eq hK hL]
  have : (runFC P T K Lo fl fu f).dir args of nx = runF P T K.dir (fun n0 => dirL (Lo n0)) fu f args of nx := by
    show runFC P T K Lo fl fu f Eff args of nx some = _
    rw [runFC_eq hK hL]
    cases runF P T K.dir (fun n0 => dirL (Lo n0)) fu f args of nx <;> rfl
  rw [this]
theorem runFC_ok {P : Program} (hm : P.follows .mixedOrders = true) (hT : TOK T P) {K : KC} (hK : K.nat) (hS : KOK P T K.dir) {Lo : Nat → LC} (hL : ∀ n0, LoNat (Lo n0)) {fl : Bool} {fu f : Nat} (hO : ∀ n0 fn code, P.funcs[f]? = some fn → fn.body = some code → LoopsOK P T fn.ntmps n0 (dirL (Lo n0)) code) : SymOK P T f (runFC P T K Lo fl fu f).dir := by
  have : (runFC P T K Lo fl fu f).dir = runF P T K.dir (fun n0 => dirL (Lo n0)) fu f := by
    funext args of nx
    show runFC P T K Lo fl fu f Eff args of nx some = _
    rw [runFC_eq hK hL]
    cases runF P T K.dir (fun n0 => dirL (Lo n0)) fu f args of nx <;> rfl
  rw [this]
  exact runF_ok hm hT hS hO
theorem dirL_none : dirL (fun _ => none) = fun _ => none := rfl
def yieldC (T : TT) (K : KC) (fl : Bool) (fu id : Nat) : SymC := fun R args of nx k =>
  match lpE isReady (of id) with
  | some r => bif Nat.beq args.length r.ps.size && r.ps.toList.all (fun p => Nat.blt p r.nt) then
      execC T K (fun _ => none) fl fu r.nt of R r.asg ⟨argP r.ps.toList args r.sl, .e, [id], nx, none⟩ fun ex σ1 => match ex with
        | .normal => (match lpE isReady (over σ1.ob of id) with
          | some r1 => execC T K (fun _ => none) fl fu r.nt of R r.body (setLp σ1 id { r1 with st := .busy }) fun ex2 σ2 => ob (endR id nx of (some (ex2, σ2))) k
          | none => none)
        | _ => none
      else none
  | none => none
theorem yieldC_eq {K : KC} (hK : K.nat) {fl : Bool} {fu id : Nat} (R : Type) (args : List A) (of : Nat → Option Ob) (nx : Nat) (k : Eff → Option R) : yieldC T K fl fu id R args of nx k = ob (yieldS T K.dir fu id args of nx) k := by
  unfold yieldC yieldS
  cases lpE isReady (of id) with
  | none => rfl
  | some r =>
    simp only [ob_if]
    cases (Nat.beq args.length r.ps.size && r.ps.toList.all (fun p => Nat.blt p r.nt))
    · rfl
    · simp only [cond_true]
      rw [execC_eq hK loNat_none of R r.asg, dirL_none]
      cases exec T K.dir (fun _ => none) fu r.nt of r.asg ⟨argP r.ps.toList args r.sl, .e, [id], nx, none⟩ with
      | none => rfl
      | some p =>
        obtain ⟨ex, σ1⟩ := p
        simp only [ob2]
        cases ex with
        | normal =>
          simp only
          cases lpE isReady (over σ1.ob of id) with
          | none => rfl
          | some r1 =>
            simp only
            rw [execC_eq hK loNat_none of R r.body, dirL_none]
            cases exec T K.dir (fun _ => none) fu r.nt of r.body (setLp σ1 id { r1 with st := .busy }) with
            | none => rfl
            | some p2 => rfl
        | _ => rfl
theorem yieldC_dir {K : KC} (hK : K.nat) {fl : Bool} {fu id : Nat} : (yieldC T K fl fu id).dir = yieldS T K.dir fu id := by
  funext args of nx
  show yieldC T K fl fu id Eff args of nx some = _
  rw [yieldC_eq hK]
  cases yieldS T K.dir fu id args of nx <;> rfl
theorem yieldC_nat {K : KC} (hK : K.nat) {fl : Bool} {fu id : Nat} : (yieldC T K fl fu id).nat := by
  intro R args of nx k
  rw [yieldC_dir hK, yieldC_eq hK]
end Go.Vm

namespace Go.Vm
open Go.RowKit
variable {P : Program} {T : TT} {R : Type} {c : Ctx} {e : Env} {of : Nat → Option Ob}
mutual
def flatT (T : TT) : Nat → Nat → Bool
  | 0, _ => false
  | d + 1, t => match kOf T t with
    | some (.int _) | some .bool | some .str => true
    | some (.arr _ el) => flatT T d el
    | some (.struct fs) => flatL T d fs
    | _ => false
def flatL (T : TT) : Nat → List Nat → Bool
  | 0, _ => false
  | _ + 1, [] => true
  | d + 1, t :: r => flatT T d t && flatL T d r
end
theorem RV.flat : ∀ (d : Nat) {e e' : Env}, (∀ {t : Nat} {xs : List V} {cs : List Value}, flatT T d t = true → ∀ n, RV T e (List.replicate n t) xs cs → RV T e' (List.replicate n t) xs cs) ∧
    (∀ {ts : List Nat} {xs : List V} {cs : List Value}, flatL T d ts = true → RV T e ts xs cs → RV T e' ts xs cs) := by
  intro d
  induction d with
  | zero => intro e e'; exact ⟨fun h => by simp [flatT] at h, fun h => by simp [flatL] at h⟩
  | succ d ih =>
    intro e e'
    have one : ∀ {t : Nat} {x : V} {cs : List Value}, flatT T (d + 1) t = true → RV T e [t] [x] cs → RV T e' [t] [x] cs := by
      intro t x cs hf h
      simp only [flatT] at hf
      cases h with
      | int h1 h2 hr g => cases g; exact .int h1 h2 hr .nil
      | bool h1 h2 g => cases g; exact .bool h1 h2 .nil
      | str h1 h2 g => cases g; exact .str h1 h2 .nil
      | ptr h1 => rw [h1] at hf; cases hf
      | nils h1 => rw [h1] at hf; cases hf
      | map h1 => rw [h1] at hf; cases hf
      | func h1 => rw [h1] at hf; cases hf
      | fn h1 => rw [h1] at hf; cases hf
      | slice h1 => rw [h1] at hf; cases hf
      | arr h1 h2 g1 g => rw [h1] at hf; cases g; exact .arr h1 h2 ((ih (e := e) (e' := e')).1 hf _ g1) .nil
      | struct h1 h2 g1 g => rw [h1] at hf; cases g; exact .struct h1 h2 ((ih (e := e) (e' := e')).2 hf g1) .nil
    refine ⟨fun {t xs cs} hf n => ?_, fun {ts xs cs} hf h => ?_⟩
    · induction n generalizing xs cs with
      | zero => intro h; cases h; exact .nil
      | succ n ihn =>
        intro h
        rw [List.replicate_succ] at h ⊢
        cases xs with
        | nil => cases h
        | cons x xs =>
          obtain ⟨d1, r, rfl, g1, g2⟩ := h.cons_inv
          exact (one hf g1).append (ts := [t]) (xs := [x]) (ihn g2)
    · cases ts with
      | nil => cases h; exact .nil
      | cons t ts =>
        simp only [flatL, Bool.and_eq_true] at hf
        cases xs with
        | nil => cases h
        | cons x xs =>
          obtain ⟨d1, r, rfl, g1, g2⟩ := h.cons_inv
          exact ((ih (e := e) (e' := e')).1 hf.1 1 g1).append (ts := [t]) (xs := [x]) ((ih (e := e) (e' := e')).2 hf.2 g2)
theorem mk_rep {t : Nat} {y : V} {v : Value} (ht : (T t).isSome = true) (h : RV T e [t] [y] v.cells.toList) (ha : AggIff T t v) : Rep T e (mkA T t y) v := by
  obtain ⟨te, hte⟩ := Option.isSome_iff_exists.1 ht
  exact norm_rep (a := .v t y) hte ⟨h, ha⟩ (fitA_v t y)
inductive RP (T : TT) (e : Env) : List Nat → List V → List Value → Prop
  | nil : RP T e [] [] []
  | cons {t ts x xs v vs} : RV T e [t] [x] v.cells.toList → AggIff T t v → RP T e ts xs vs → RP T e (t :: ts) (x :: xs) (v :: vs)
theorem RP.change {e e' : Env} (hf : ∀ a ds, Fz e a ds → Fz e' a ds) {ts : List Nat} {xs : List V} {vs : List Value} (h : RP T e ts xs vs) : RP T e' ts xs vs := by
  induction h with
  | nil => exact .nil
  | cons h1 h2 _ ih => exact .cons (h1.change hf) h2 ih
theorem RP.mono {e e' : Env} (he : e.le e') {ts : List Nat} {xs : List V} {vs : List Value} (h : RP T e ts xs vs) : RP T e' ts xs vs := h.change (fun a ds q => q.mono he)
def argsV (T : TT) : (Nat → Option Ob) → List Nat → List A → Option (List V × List (Nat × Ob))
  | _, [], [] => some ([], [])
  | of, t :: ts, a :: as => match toV T DEP of t a with
    | some (x, wo) => match argsV T (put of wo) ts as with
      | some (xs, wo') => some (x :: xs, wo ++ wo')
      | none => none
    | none => none
  | _, _, _ => none
theorem argsV_spec : ∀ {ts : List Nat} {as : List A} {vals : List Value} {e : Env} {of of' : Nat → Option Ob} {xs : List V} {wo : List (Nat × Ob)}, OSim T c e of' → argsV T of ts as = some (xs, wo) → (∀ id ∈ ids wo, of' id = of id) → Reps T e as vals → Shd T c e of' wo fun e' => RP T e' ts xs vals := by
  intro ts
  induction ts with
  | nil =>
    intro as vals e of of' xs wo h hv ho hr
    cases as with
    | nil =>
      simp only [argsV, Option.some.injEq, Prod.mk.injEq] at hv
      obtain ⟨rfl, rfl⟩ := hv
      cases hr
      exact ⟨e, rfl, h, Env.le.refl e, fun _ hu => hu, .nil⟩
    | cons a as => simp [argsV] at hv
  | cons t ts ih =>
    intro as vals e of of' xs wo h hv ho hr
    cases as with
    | nil => simp [argsV] at hv
    | cons a as =>
      simp only [argsV] at hv
      split at hv <;> try (cases hv; done)
      rename_i x1 w1 h1
      split at hv <;> try (cases hv; done)
      rename_i xs2 w2 h2
      injection hv with hv; injection hv with hv1 hv2
      subst hv1; subst hv2
      have ho1 : ∀ id ∈ ids w1, of' id = of id := fun id hid => ho id (by simp only [ids, List.map_append, List.mem_append]; exact .inl hid)
      have h1' := (toV_congr DEP).1 of of' t a x1 w1 h1 ho1
      cases hr with
      | @cons _ v _ vs r1 r2 =>
      obtain ⟨e1, p1, p2, p3, p4, p5⟩ := toV_spec h h1' r1
      have ag := toV_agg h1' r1
      obtain ⟨e2, q1, q2, q3, q4, q5⟩ := ih p2 h2 (fun id hid => put_at _ _ _ _ (ho id (by simp only [ids, List.map_append, List.mem_append]; exact .inr hid))) (r2.mono p3)
      exact ⟨e2, q1.trans p1, by rw [put_append]; exact q2, p3.trans q3, fun j hj => p4 j (q4 j hj), .cons (p5.mono q3) ag q5⟩
theorem argsV_sh : ∀ {ts : List Nat} {as : List A} {of : Nat → Option Ob} {xs : List V} {wo : List (Nat × Ob)}, argsV T of ts as = some (xs, wo) → AllSh of wo := by
  intro ts
  induction ts with
  | nil =>
    intro as of xs wo h
    cases as with
    | nil => simp only [argsV, Option.some.injEq, Prod.mk.injEq] at h; rw [← h.2]; intro p hp; cases hp
    | cons a as => simp [argsV] at h
  | cons t ts ih =>
    intro as of xs wo h
    cases as with
    | nil => simp [argsV] at h
    | cons a as =>
      simp only [argsV] at h
      split at h <;> try (cases h; done)
      rename_i x1 w1 h1
      split at h <;> try (cases h; done)
      rename_i xs2 w2 h2
      injection h with h; injection h with _ hv2
      subst hv2
      exact allSh_append ((toV_sh DEP).1 _ _ _ _ _ h1) (ih h2)
def mkAs (T : TT) : List Nat → List V → List A
  | t :: ts, x :: xs => mkA T t x :: mkAs T ts xs
  | _, _ => []
theorem RP.reps {ts : List Nat} {xs : List V} {vs : List Value} (h : RP T e ts xs vs) (ht : ts.all (fun t => (T t).isSome) = true) : Reps T e (mkAs T ts xs) vs := by
  induction h with
  | nil => exact .nil
  | cons h1 h2 _ ih =>
    simp only [List.all_cons, Bool.and_eq_true] at ht
    exact .cons (mk_rep ht.1 h1 h2) (ih ht.2)
inductive RK where
  | d (t : Nat)
  | r (el : Nat)
inductive Rs where
  | d (t : Nat) (y : V)
  | r (el : Nat) (xs : List V) (nl : Bool)
def outL : A → List A
  | .t l => l
  | a => [a]
def dL (T : TT) (sh : Bool) : (Nat → Option Ob) → List A → List RK → Option (List V × List (Nat × Ob))
  | _, [], [] => some ([], [])
  | of, a :: l, .d t :: r => match toV T DEP of t a with
    | some (y, wo) => bif (T t).isSome && (sh || flatT T 8 t) then (match dL T sh (put of wo) l r with
      | some (ys, wo') => some (y :: ys, wo ++ wo')
      | none => none) else none
    | none => none
  | of, _ :: l, .r _ :: r => match dL T sh of l r with
    | some (ys, wo) => some (.n :: ys, wo)
    | none => none
  | _, _, _ => none
def newR (T : TT) (sh : Bool) (of : Nat → Option Ob) (el : Nat) (a : A) : Option (List V × Bool) :=
  match a with
  | .o id ver => match of id with
    | some (.row el' v xs nl false) => bif Nat.beq el el' && Nat.beq v ver && (sh || flatT T 8 el) then some (xs, nl) else none
    | _ => none
  | .z v => bif nilS v && Nat.blt 0 (szT T el) then some ([], true) else none
  | _ => none
def rL (T : TT) (sh : Bool) (of : Nat → Option Ob) : List A → List V → List RK → Option (List Rs)
  | [], [], [] => some []
  | _ :: l, y :: ys, .d t :: r => match rL T sh of l ys r with
    | some rs => some (.d t y :: rs)
    | none => none
  | a :: l, _ :: ys, .r el :: r => match newR T sh of el a with
    | some (xs, nl) => match rL T sh of l ys r with
      | some rs => some (.r el xs nl :: rs)
      | none => none
    | none => none
  | _, _, _ => none
def cntR : List RK → Nat
  | [] => 0
  | .d _ :: r => cntR r
  | .r _ :: r => cntR r + 1
def isT : A → Bool
  | .t _ => true
  | _ => false
def resC (T : TT) (sh : Bool) (rk : List RK) (out : Eff) : Option (List Rs) :=
  bif Nat.beq rk.length 1 == isT out.val then none else
  match dL T sh (put (fun _ => none) out.wo) (outL out.val) rk with
  | some (ys, wo) => bif Nat.ble (cntR rk) 1 then rL T sh (put (put (fun _ => none) out.wo) wo) (outL out.val) ys rk else none
  | none => none
def mkRs (T : TT) : Nat → List Rs → List A × List (Nat × Ob) × Nat
  | nx, [] => ([], [], nx)
  | nx, .d t y :: r => let p := mkRs T nx r
    (mkA T t y :: p.1, p.2.1, p.2.2)
  | nx, .r el xs nl :: r => let p := mkRs T (nx + 1) r
    (.o nx 1 :: p.1, (nx, .row el 1 xs nl false) :: p.2.1, p.2.2)
def oneT : List A → A
  | [a] => a
  | l => .t l
abbrev FC := (R : Type) → List V → (List Rs → Option R) → Option R
def FC.nat (F : FC) : Prop := ∀ (R : Type) (xs : List V) (k : List Rs → Option R), F R xs k = ob (F (List Rs) xs some) k
def toC {R : Type} (T : TT) (of : Nat → Option Ob) (t : Nat) (a : A) (k : V × List (Nat × Ob) → Option R) : Option R :=
  match a with
  | .w id ver off n => (match kOf T t, of id with
    | some (.slice el), some (.row el' v xs nl _) => bif Nat.beq el el' && Nat.beq v ver && Nat.beq (szT T t) 1 then bif Nat.ble (off + n) xs.length then k (.l ((xs.drop off).take n), [(id, .row el' v xs nl true)]) else none else none
    | _, _ => none)
  | a => ob (toV T DEP of t a) k
theorem toC_eq {R : Type} (of : Nat → Option Ob) (t : Nat) (a : A) (k : V × List (Nat × Ob) → Option R) : toC T of t a k = ob (toV T DEP of t a) k := by
  unfold toC
  cases a with
  | w id ver off n =>
    simp only [DEP, toV, sliV]
    cases kOf T t with
    | none => rfl
    | some kk => cases kk with
      | slice el => cases of id with
        | none => rfl
        | some o => cases o with
          | row el' v xs nl sh =>
            simp only
            cases (Nat.beq el el' && Nat.beq v ver && Nat.beq (szT T t) 1) <;> cases Nat.ble (off + n) xs.length <;> rfl
          | _ => rfl
      | _ => rfl
  | _ => rfl
def argsC {R : Type} (T : TT) : (Nat → Option Ob) → List Nat → List A → (List V × List (Nat × Ob) → Option R) → Option R
  | _, [], [], k => k ([], [])
  | of, t :: ts, a :: as, k => toC T of t a fun p => argsC T (put of p.2) ts as fun q => k (p.1 :: q.1, p.2 ++ q.2)
  | _, _, _, _ => none
theorem argsC_eq {R : Type} : ∀ (ts : List Nat) (of : Nat → Option Ob) (as : List A) (k : List V × List (Nat × Ob) → Option R), argsC T of ts as k = ob (argsV T of ts as) k := by
  intro ts
  induction ts with
  | nil => intro of as k; cases as <;> rfl
  | cons t ts ih =>
    intro of as k
    cases as with
    | nil => rfl
    | cons a as =>
      simp only [argsC, toC_eq, ih, argsV]
      cases toV T DEP of t a with
      | none => rfl
      | some p =>
        simp only [ob]
        cases argsV T (put of p.2) ts as <;> rfl
def pureS (T : TT) (sh : Bool) (ts : List Nat) (F : FC) : SymC := fun R args of nx k =>
  argsC T of ts args fun p => F R p.1 fun rs => k ⟨oneT (mkRs T nx rs).1, (bif sh then slim of p.2 else []) ++ (mkRs T nx rs).2.1, ids p.2, (mkRs T nx rs).2.2⟩
theorem pureS_nat {sh : Bool} {ts : List Nat} {F : FC} (hF : F.nat) : (pureS T sh ts F).nat := by
  intro R args of nx k
  simp only [pureS, SymC.dir, argsC_eq]
  cases argsV T of ts args with
  | none => rfl
  | some p =>
    simp only [ob]
    rw [hF R, hF Eff]
    cases F (List Rs) p.1 some <;> rfl
end Go.Vm

namespace Go.Vm
open Go.RowKit
variable {P : Program} {T : TT} {R : Type} {c : Ctx} {e : Env} {of : Nat → Option Ob}
def Env.grown (e : Env) (w : World) (S2 : Nat → Nat → Prop) : Env := { e with w := w, S := fun b i => e.S b i ∨ (e.w.heap.size ≤ b ∧ S2 b i) }
theorem OSim.grown (h : OSim T c e of) {w' : World} {S2 : Nat → Nat → Prop} (hsz : e.w.heap.size ≤ w'.heap.size) (hb : ∀ b, b < e.w.heap.size → w'.heap[b]? = e.w.heap[b]?) (h1 : w'.os = e.w.os) (h2 : w'.tape = e.w.tape) (h3 : w'.output = e.w.output) (hS : ∀ b i, S2 b i → b < w'.heap.size) :
    OSim T c (e.grown w' S2) of ∧ e.le (e.grown w' S2) := by
  have hle : e.le (e.grown w' S2) := by
    refine ⟨fun b i hs => ⟨.inl hs, fun x hx => ?_⟩, fun _ h => h, fun id hu _ => ⟨rfl, rfl, fun b o hι => len_of_heap (hb b (h.lt _ _ _ hu hι))⟩, fun _ _ h => h, fun _ _ => Nat.le_refl _, fun _ _ => rfl, hsz, fun b hb' => len_of_heap (hb b hb')⟩
    show w'.cell? ⟨b, i, none⟩ = some x
    rw [cell_of_heap (hb b (h.slt _ _ hs))]; exact hx
  refine ⟨⟨fun id o ho => ?_, h.sep, h.own, fun id b o hu hι => Nat.lt_of_lt_of_le (h.lt id b o hu hι) hsz, fun b i hs => ?_, fun b i hs => .inl (h.s0 _ _ hs), fun b i hs => ?_, h1.trans h.os, h2.trans h.tape, h3.trans h.output, Nat.le_trans h.size hsz, fun k hk hm => ?_, h.g.mono (fun _ _ q => q) rfl (fun _ q => q) hsz (fun j b o hj hb => .inl ⟨j, o, hj, hb⟩)⟩, hle⟩
  · exact (h.ok id o ho).keep hle rfl (fun b o' hι => hb b (h.lt _ _ _ (h.ok id o ho).use hι)) (fun b o' i hι hs => by
      rcases hs with hs | ⟨hs, _⟩
      · exact hs
      · exact absurd (h.lt _ _ _ (h.ok id o ho).use hι) (by omega)) (fun a o' b _ hG => ⟨hG, hb b (h.g.lt _ _ hG), fun i hs => by
      rcases hs with hs | ⟨hs, _⟩
      · exact hs
      · exact absurd (h.g.lt _ _ hG) (by omega)⟩)
  · rcases hs with hs | ⟨_, hs⟩
    · exact Nat.lt_of_lt_of_le (h.slt _ _ hs) hsz
    · exact hS _ _ hs
  · rcases hs with hs | ⟨hs, _⟩
    · exact h.snew _ _ hs
    · exact .inr (.inl (Nat.le_trans h.size hs))
  · show w'.heap[k]? = _
    rw [hb k (Nat.lt_of_lt_of_le hk h.size)]; exact h.block k hk hm
def Env.adopt (e : Env) (id b o el n : Nat) : Env := { e with ι := upd e.ι id (some (b, o)), bn := upd e.bn id 1, U := fun j => j = id ∨ e.U j, ty := upd e.ty id el, ln := upd e.ln id n }
theorem OSim.adopt (h : OSim T c e of) {id b o el : Nat} {xs : List V} {cs : Array Value} {t : TypeId} {fz : Nat × Nat} {pre ys post : List Value} (hu : ¬ e.U id) (hz : 0 < szT T el) (hb : e.w.heap[b]? = some (.cells cs t fz)) (hf : free e.w b cs) (hcs : cs.toList = pre ++ ys ++ post) (hp : pre.length = o) (hr : RV T e (List.replicate xs.length el) xs ys)
    (h1 : ∀ i, o + ys.length ≤ i → ¬ e.S b i) (h2 : ∀ i, o ≤ i → ¬ e.S b i) (hnew : c.w0.heap.size ≤ b) (hown : ∀ j b' o', (of j).isSome → e.ι j = some (b', o') → b' ≠ b) (hnG : ∀ a, ¬ e.G a b) :
    OSim T c (e.adopt id b o el xs.length) (upd of id (some (.row el 1 xs false false))) ∧ e.le (e.adopt id b o el xs.length) := by
  have hne : ∀ j, e.U j → j ≠ id := fun j hj hq => hu (hq ▸ hj)
  have hblt : b < e.w.heap.size := (Array.getElem?_eq_some_iff.1 hb).1
  have hle : e.le (e.adopt id b o el xs.length) := by
    refine ⟨fun b i hs => ⟨hs, fun x hx => hx⟩, fun j hj => .inr hj, fun j hj _ => ⟨upd_ne _ _ (hne j hj), upd_ne _ _ (hne j hj), fun _ _ _ => rfl⟩, fun j hj h0 => ?_, fun j hj => ?_, fun j hj => upd_ne _ _ (hne j hj), Nat.le_refl _, fun _ _ => rfl⟩
    · show upd e.bn id 1 j = 0
      rw [upd_ne _ _ (hne j hj)]; exact h0
    · show _ ≤ upd e.bn id 1 j
      rw [upd_ne _ _ (hne j hj)]; exact Nat.le_refl _
  have hιid : (e.adopt id b o el xs.length).ι id = some (b, o) := upd_same _ _ _
  have hι : ∀ j, j ≠ id → (e.adopt id b o el xs.length).ι j = e.ι j := fun j hj => upd_ne _ _ hj
  refine ⟨⟨fun j ob hj => ?_, fun j k b1 q b2 q' hj hk hb1 hb2 hjk => ?_, fun j b1 q hj hb1 => ?_, fun j b1 q hj hb1 => ?_, h.slt, h.s0, h.snew, h.os, h.tape, h.output, h.size, h.block, ?_⟩, hle⟩
  · by_cases hjid : j = id
    · subst hjid
      rw [upd_same] at hj; cases hj
      refine ⟨.inl rfl, by omega, upd_same _ _ _, upd_same _ _ _, upd_same _ _ _, hz, .inr ⟨rfl, b, o, cs, t, fz, pre, ys, post, hιid, hb, hf, hcs, hp, hr.mono hle, h1, fun _ => h2⟩⟩
    · rw [upd_ne _ _ hjid] at hj
      exact (h.ok j ob hj).keep hle (upd_ne _ _ hjid) (fun _ _ _ => rfl) (fun _ _ _ _ hs => hs) (fun a o' b _ hG => ⟨hG, rfl, fun i hs => hs⟩)
  · by_cases h1' : j = id
    · have h2' : k ≠ id := fun hq => hjk (h1'.trans hq.symm)
      subst h1'
      rw [hιid] at hb1; cases hb1
      rw [hι _ h2'] at hb2
      rw [upd_ne _ _ h2'] at hk
      exact fun hq => hown k b2 q' hk hb2 hq.symm
    · rw [hι _ h1'] at hb1
      rw [upd_ne _ _ h1'] at hj
      by_cases h2' : k = id
      · subst h2'
        rw [hιid] at hb2; cases hb2
        exact hown j b1 q hj hb1
      · rw [hι _ h2'] at hb2
        rw [upd_ne _ _ h2'] at hk
        exact h.sep j k b1 q b2 q' hj hk hb1 hb2 hjk
  · by_cases h1' : j = id
    · subst h1'; rw [hιid] at hb1; cases hb1; exact .inl hnew
    · rw [hι _ h1'] at hb1
      rw [upd_ne _ _ h1'] at hj
      exact h.own j b1 q hj hb1
  · by_cases h1' : j = id
    · subst h1'; rw [hιid] at hb1; cases hb1; exact hblt
    · rw [hι _ h1'] at hb1
      rcases hj with hj | hj
      · exact absurd hj h1'
      · exact h.lt j b1 q hj hb1
  · refine ⟨fun a b1 hG j b2 q hj hb2 => ?_, h.g.uniq, h.g.own, h.g.lt⟩
    by_cases h1' : j = id
    · subst h1'; rw [hιid] at hb2; cases hb2; exact fun hq => hnG a (hq ▸ hG)
    · rw [hι _ h1'] at hb2
      rw [upd_ne _ _ h1'] at hj
      exact h.g.sep a b1 hG j b2 q hj hb2
inductive RR (T : TT) (sh : Bool) (e : Env) (B : Nat) : List RK → List Rs → List Value → Prop
  | nil : RR T sh e B [] [] []
  | d {t y v rk rs vs} : (T t).isSome = true → (sh || flatT T 8 t) = true → RV T e [t] [y] v.cells.toList → AggIff T t v → RR T sh e B rk rs vs → RR T sh e B (.d t :: rk) (.d t y :: rs) (v :: vs)
  | n {el rk rs vs} : 0 < szT T el → RR T sh e B rk rs vs → RR T sh e B (.r el :: rk) (.r el [] true :: rs) (.slice none 0 0 :: vs)
  | r {el xs b o cs t fz pre ys post k cap rk rs vs} : 0 < szT T el → (sh || flatT T 8 el) = true → B ≤ b → e.w.heap[b]? = some (.cells cs t fz) → free e.w b cs → cs.toList = pre ++ ys ++ post → pre.length = o → RV T e (List.replicate xs.length el) xs ys →
      (∀ i, o + ys.length ≤ i → ¬ e.S b i) → (∀ i, o ≤ i → ¬ e.S b i) → xs.length ≤ cap → o + cap * szT T el = cs.size → (0 < cap → k = o) → RR T sh e B rk rs vs → RR T sh e B (.r el :: rk) (.r el xs false :: rs) (.slice (some ⟨b, k, none⟩) xs.length cap :: vs)
theorem dL_spec {sh : Bool} : ∀ {rk : List RK} {l : List A} {vs : List Value} {e : Env} {of : Nat → Option Ob} {ys : List V} {wo : List (Nat × Ob)}, OSim T c e of → dL T sh of l rk = some (ys, wo) → Reps T e l vs →
    ∃ e' : Env, e'.w = e.w ∧ OSim T c e' (put of wo) ∧ e.le e' ∧ (∀ j, e'.U j → e.U j) ∧ Reps T e' l vs ∧
      ∀ rs, rL T sh (put of wo) l ys rk = some rs → ∀ B, (∀ id el v xs nl sh' b o, put of wo id = some (.row el v xs nl sh') → e'.ι id = some (b, o) → B ≤ b) → RR T sh e' B rk rs vs := by
  intro rk
  induction rk with
  | nil =>
    intro l vs e of ys wo h hd hr
    cases l with
    | nil =>
      simp only [dL, Option.some.injEq, Prod.mk.injEq] at hd
      obtain ⟨rfl, rfl⟩ := hd
      refine ⟨e, rfl, h, Env.le.refl e, fun _ hu => hu, hr, fun rs hrs B _ => ?_⟩
      simp only [rL, Option.some.injEq] at hrs
      subst hrs
      cases hr; exact .nil
    | cons a l => simp [dL] at hd
  | cons k rk ih =>
    intro l vs e of ys wo h hd hr
    cases l with
    | nil => cases k <;> simp [dL] at hd
    | cons a l =>
      cases k with
      | d t =>
        simp only [dL] at hd
        split at hd <;> try (cases hd; done)
        rename_i y w1 h1
        cases hc : ((T t).isSome && (sh || flatT T 8 t)) with
        | false => rw [hc] at hd; cases hd
        | true =>
          rw [hc] at hd
          simp only [cond_true] at hd
          split at hd <;> try (cases hd; done)
          rename_i ys2 w2 h2
          simp only [Option.some.injEq, Prod.mk.injEq] at hd
          obtain ⟨rfl, rfl⟩ := hd
          simp only [Bool.and_eq_true] at hc
          cases hr with
          | @cons _ v _ vs r1 r2 =>
          obtain ⟨e1, p1, p2, p3, p4, p5⟩ := toV_spec h h1 r1
          have ag := toV_agg h1 r1
          obtain ⟨e2, q1, q2, q3, q4, q6, q5⟩ := ih p2 h2 (r2.mono p3)
          refine ⟨e2, q1.trans p1, by rw [put_append]; exact q2, p3.trans q3, fun j hj => p4 j (q4 j hj), .cons ((r1.mono p3).mono q3) q6, fun rs hrs B hB => ?_⟩
          simp only [rL] at hrs
          split at hrs <;> try (cases hrs; done)
          rename_i rs2 hrs2
          simp only [Option.some.injEq] at hrs
          subst hrs
          rw [put_append] at hrs2 hB
          exact .d hc.1 hc.2 (p5.mono q3) ag (q5 _ hrs2 B hB)
      | r el =>
        simp only [dL] at hd
        split at hd <;> try (cases hd; done)
        rename_i ys2 w2 h2
        simp only [Option.some.injEq, Prod.mk.injEq] at hd
        obtain ⟨rfl, rfl⟩ := hd
        cases hr with
        | @cons _ v _ vs r1 r2 =>
        obtain ⟨e2, q1, q2, q3, q4, q6, q5⟩ := ih h h2 r2
        refine ⟨e2, q1, q2, q3, q4, .cons (r1.mono q3) q6, fun rs hrs B hB => ?_⟩
        simp only [rL] at hrs
        split at hrs <;> try (cases hrs; done)
        rename_i xs nl hn
        split at hrs <;> try (cases hrs; done)
        rename_i rs2 hrs2
        simp only [Option.some.injEq] at hrs
        subst hrs
        have rest := q5 _ hrs2 B hB
        have r1' := r1.mono q3
        cases a with
        | o id ver =>
          simp only [newR] at hn
          split at hn <;> try (cases hn; done)
          rename_i el' v' xs' nl' hof
          cases hc : (Nat.beq el el' && Nat.beq v' ver && (sh || flatT T 8 el)) with
          | false => rw [hc] at hn; cases hn
          | true =>
            rw [hc] at hn
            simp only [cond_true, Option.some.injEq, Prod.mk.injEq] at hn
            obtain ⟨rfl, rfl⟩ := hn
            simp only [Bool.and_eq_true] at hc
            obtain ⟨⟨c1, c2⟩, c3⟩ := hc
            have := Nat.eq_of_beq_eq_true c1; subst this
            have := Nat.eq_of_beq_eq_true c2; subst this
            obtain ⟨g1, g2, g3, g4, g4', g5, g6⟩ := q2.ok _ _ hof
            rcases rep_o_inv r1' g3 with ⟨k1, k2, rfl⟩ | ⟨b, o, cap, k, k1, k2, k3, k4, rfl⟩
            · rcases g6 with ⟨rfl, _, rfl⟩ | ⟨_, b, o, cs, t, fz, pre, ys, post, m1, _⟩
              · exact .n g5 rest
              · rw [k1] at m1; cases m1
            · rcases g6 with ⟨_, m1, _⟩ | ⟨rfl, b', o', cs, t, fz, pre, ys, post, m1, m2, m3, m4, m5, m6, m7, m8⟩
              · rw [k1] at m1; cases m1
              · rw [k1] at m1; cases m1
                rw [g4'] at k2 ⊢
                rw [g4] at k3
                rw [len_heap m2] at k3
                exact .r g5 c3 (hB _ _ _ _ _ _ _ _ hof k1) m2 m3 m4 m5 m6 m7 (m8 rfl) k2 k3 k4 rest
        | z v0 =>
          simp only [newR] at hn
          cases hc : (nilS v0 && Nat.blt 0 (szT T el)) with
          | false => rw [hc] at hn; cases hn
          | true =>
            rw [hc] at hn
            simp only [cond_true, Option.some.injEq, Prod.mk.injEq] at hn
            obtain ⟨rfl, rfl⟩ := hn
            simp only [Bool.and_eq_true] at hc
            have hx : RA T e2 [.z v0] [v] := r1'
            have hv : v = .slice none 0 0 := by
              cases hx with
              | z _ _ => exact nilS_eq hc.1
              | r g1 _ _ => exact g1.elim
            subst hv
            exact .n (by simpa [Nat.blt_eq] using hc.2) rest
        | _ => simp [newR] at hn
theorem RR.flat {sh : Bool} {B : Nat} {e e' : Env} (hw : e'.w = e.w) (hf : sh = true → ∀ a ds, Fz e a ds → Fz e' a ds) (hS : ∀ b i, B ≤ b → e'.S b i → e.S b i) : ∀ {rk : List RK} {rs : List Rs} {vs : List Value}, RR T sh e B rk rs vs → RR T sh e' B rk rs vs := by
  intro rk rs vs h
  have one : ∀ {t : Nat} {ts : List Nat} (n : Nat) {xs : List V} {cs : List Value}, (sh || flatT T 8 t) = true → ts = List.replicate n t → RV T e ts xs cs → RV T e' ts xs cs := fun {t ts} n {xs cs} hc hts g => by
    cases hsh : sh with
    | true => exact g.change (hf hsh)
    | false =>
      rw [hsh, Bool.false_or] at hc
      subst hts
      exact (RV.flat 8 (e := e) (e' := e')).1 hc n g
  induction h with
  | nil => exact .nil
  | d h1 h2 h3 h4 _ ih => exact .d h1 h2 (one 1 h2 rfl h3) h4 ih
  | n h1 _ ih => exact .n h1 ih
  | r h1 h2 h3 h4 h5 h6 h7 h8 h9 h10 h11 h12 h13 _ ih =>
    exact .r h1 h2 h3 (by rw [hw]; exact h4) (by rw [hw]; exact h5) h6 h7 (one _ h2 rfl h8) (fun i hi hs => h9 i hi (hS _ _ h3 hs)) (fun i hi hs => h10 i hi (hS _ _ h3 hs)) h11 h12 h13 ih
theorem RR.data {sh : Bool} {B nx : Nat} : ∀ {rk : List RK} {rs : List Rs} {vs : List Value}, RR T sh e B rk rs vs → cntR rk = 0 → (mkRs T nx rs).2 = ([], nx) ∧ Reps T e (mkRs T nx rs).1 vs := by
  intro rk rs vs h
  induction h with
  | nil => intro _; exact ⟨rfl, .nil⟩
  | d h1 h2 h3 h4 _ ih =>
    intro hc
    obtain ⟨p, q⟩ := ih hc
    refine ⟨?_, .cons (mk_rep h1 h3 h4) q⟩
    simp only [mkRs]
    exact Prod.ext (congrArg Prod.fst p) (congrArg Prod.snd p)
  | n _ _ _ => intro hc; simp [cntR] at hc
  | r _ _ _ _ _ _ _ _ _ _ _ _ _ _ _ => intro hc; simp [cntR] at hc
theorem RR.mono {sh : Bool} {B : Nat} {e e' : Env} (he : e.le e') (hw : e'.w = e.w) (hS : ∀ b i, e'.S b i → e.S b i) {rk : List RK} {rs : List Rs} {vs : List Value} (h : RR T sh e B rk rs vs) : RR T sh e' B rk rs vs := by
  induction h with
  | nil => exact .nil
  | d h1 h2 h3 h4 _ ih => exact .d h1 h2 (h3.mono he) h4 ih
  | n h1 _ ih => exact .n h1 ih
  | r h1 h2 h3 h4 h5 h6 h7 h8 h9 h10 h11 h12 h13 _ ih =>
    exact .r h1 h2 h3 (by rw [hw]; exact h4) (by rw [hw]; exact h5) h6 h7 (h8.mono he) (fun i hi hs => h9 i hi (hS _ _ hs)) (fun i hi hs => h10 i hi (hS _ _ hs)) h11 h12 h13 ih
theorem RR.take {sh : Bool} {B nx : Nat} : ∀ {rk : List RK} {rs : List Rs} {vs : List Value} {e : Env} {of : Nat → Option Ob}, OSim T c e of → RR T sh e B rk rs vs → cntR rk ≤ 1 → (∀ id, nx ≤ id → id < (mkRs T nx rs).2.2 → ¬ e.U id) → c.w0.heap.size ≤ B → (∀ j b o, (of j).isSome → e.ι j = some (b, o) → b < B) → (∀ a b, e.G a b → b < B) →
    nx ≤ (mkRs T nx rs).2.2 ∧ ∃ e' : Env, e'.w = e.w ∧ OSim T c e' (put of (mkRs T nx rs).2.1) ∧ e.le e' ∧ (∀ id, e'.U id → e.U id ∨ (nx ≤ id ∧ id < (mkRs T nx rs).2.2)) ∧ Reps T e' (mkRs T nx rs).1 vs := by
  intro rk rs vs e of hos h
  induction h with
  | nil => intro _ _ _ _ _; exact ⟨Nat.le_refl _, e, rfl, hos, Env.le.refl e, fun _ hu => .inl hu, .nil⟩
  | d h1 h2 h3 h4 hr ih =>
    intro hc hu hB hb hGB
    obtain ⟨g0, e', g1, g2, g3, g4, g5⟩ := ih hc hu hB hb hGB
    exact ⟨g0, e', g1, g2, g3, g4, .cons (mk_rep h1 (h3.mono g3) h4) g5⟩
  | @n el rk rs vs hz hr ih =>
    intro hc hu hB hb hGB
    have hc0 : cntR rk = 0 := by simp only [cntR] at hc; omega
    obtain ⟨p, q⟩ := hr.data (nx := nx + 1) hc0
    have e1 : (mkRs T nx (.r el [] true :: rs)).2.2 = nx + 1 := by simp only [mkRs]; rw [p]
    have e2 : (mkRs T nx (.r el [] true :: rs)).2.1 = [(nx, .row el 1 [] true false)] := by simp only [mkRs]; rw [p]
    have hun : ¬ e.U nx := hu nx (Nat.le_refl _) (by rw [e1]; omega)
    have hle := hos.le_nil (el := el) hun
    refine ⟨by rw [e1]; omega, e.nil nx el, rfl, by rw [e2]; exact hos.nil hun rfl hz, hle, fun id hid => ?_, ?_⟩
    · rcases hid with rfl | hid
      · exact .inr ⟨Nat.le_refl _, by rw [e1]; omega⟩
      · exact .inl hid
    · simp only [mkRs]
      exact .cons (rep_o_nil (.inl rfl) (upd_same _ _ _) (by omega) (upd_same _ _ _) (upd_same _ _ _)) (q.mono hle)
  | @r el xs b o cs t fz pre ys post k cap rk rs vs hz hfl hb1 h4 h5 h6 h7 h8 h9 h10 h11 h12 h13 hr ih =>
    intro hc hu hB hb hGB
    have hc0 : cntR rk = 0 := by simp only [cntR] at hc; omega
    obtain ⟨p, q⟩ := hr.data (nx := nx + 1) hc0
    have e1 : (mkRs T nx (.r el xs false :: rs)).2.2 = nx + 1 := by simp only [mkRs]; rw [p]
    have e2 : (mkRs T nx (.r el xs false :: rs)).2.1 = [(nx, .row el 1 xs false false)] := by simp only [mkRs]; rw [p]
    have hun : ¬ e.U nx := hu nx (Nat.le_refl _) (by rw [e1]; omega)
    obtain ⟨g1, hle⟩ := hos.adopt (id := nx) hun hz h4 h5 h6 h7 h8 h9 h10 (Nat.le_trans hB hb1) (fun j b' o' hj hι hq => by have := hb j b' o' hj hι; omega) (fun a hG => by have := hGB a b hG; omega)
    refine ⟨by rw [e1]; omega, e.adopt nx b o el xs.length, rfl, by rw [e2]; exact g1, hle, fun id hid => ?_, ?_⟩
    · rcases hid with rfl | hid
      · exact .inr ⟨Nat.le_refl _, by rw [e1]; omega⟩
      · exact .inl hid
    · simp only [mkRs]
      refine .cons ?_ (q.mono hle)
      have ln : (e.adopt nx b o el xs.length).ln nx = xs.length := upd_same _ _ _
      have := rep_o_mk (T := T) (e := e.adopt nx b o el xs.length) (id := nx) (ver := 1) (b := b) (o := o) (cap := cap) (.inl rfl) (upd_same _ _ _) (by omega) (upd_same _ _ _) (by rw [ln]; exact h11) (by
        rw [show (e.adopt nx b o el xs.length).ty nx = el from upd_same _ _ _, len_heap (show (e.adopt nx b o el xs.length).w.heap[b]? = _ from h4)]; exact h12) (k := k) h13
      rw [ln] at this
      exact this
end Go.Vm

namespace Go.Vm
open Go.RowKit
variable {P : Program} {T : TT} {R : Type} {c : Ctx} {e : Env} {of : Nat → Option Ob}
def TV (T : TT) (ts : List Nat) (xs : List V) : Prop := ∃ e vs, RP T e ts xs vs
theorem ob_some {α β : Type} {o : Option α} {k : α → Option β} {b : β} (h : ob o k = some b) : ∃ a, o = some a ∧ k a = some b := by
  cases o with
  | none => cases h
  | some a => exact ⟨a, rfl, h⟩
theorem mkRs_not {nx : Nat} : ∀ {rs : List Rs} {nx : Nat}, ∀ a ∈ (mkRs T nx rs).1, ∀ l, a ≠ .t l := by
  intro rs
  induction rs with
  | nil => intro nx a ha; simp [mkRs] at ha
  | cons r rs ih =>
    intro nx a ha
    cases r with
    | d t y =>
      simp only [mkRs, List.mem_cons] at ha
      rcases ha with rfl | ha
      · exact mkA_not _ _
      · exact ih a ha
    | r el xs nl =>
      simp only [mkRs, List.mem_cons] at ha
      rcases ha with rfl | ha
      · intro l h; cases h
      · exact ih a ha
theorem mkRs_len {nx : Nat} {rs : List Rs} : (mkRs T nx rs).1.length = rs.length := by
  induction rs generalizing nx with
  | nil => rfl
  | cons r rs ih => cases r <;> simp [mkRs, ih]
theorem rL_len {sh : Bool} {of : Nat → Option Ob} : ∀ {rk : List RK} {l : List A} {ys : List V} {rs : List Rs}, rL T sh of l ys rk = some rs → rs.length = rk.length := by
  intro rk
  induction rk with
  | nil => intro l ys rs h; cases l <;> cases ys <;> simp [rL] at h; subst h; rfl
  | cons k rk ih =>
    intro l ys rs h
    cases l with
    | nil => cases k <;> simp [rL] at h
    | cons a l => cases ys with
      | nil => cases k <;> simp [rL] at h
      | cons y ys =>
        cases k with
        | d t =>
          simp only [rL] at h
          split at h <;> try (cases h; done)
          rename_i rs' h'
          simp only [Option.some.injEq] at h; subst h
          simp [ih h']
        | r el =>
          simp only [rL] at h
          split at h <;> try (cases h; done)
          split at h <;> try (cases h; done)
          rename_i rs' h'
          simp only [Option.some.injEq] at h; subst h
          simp [ih h']
theorem reps_tuple : ∀ {l : List A} {xs : List Value}, xs.length = l.length → (∀ (i : Nat) v x, l[i]? = some v → xs[i]? = some x → Rep1 T e v x) → Reps T e l xs := by
  intro l
  induction l with
  | nil => intro xs h _; cases xs with
    | nil => exact .nil
    | cons _ _ => simp at h
  | cons a l ih =>
    intro xs h hr
    cases xs with
    | nil => simp at h
    | cons x xs =>
      refine .cons ?_ (ih (by simpa using h) (fun i v x hv hx => hr (i + 1) v x (by simpa using hv) (by simpa using hx)))
      have := hr 0 a x rfl rfl
      cases a with
      | t l => exact this.elim
      | _ => exact this
theorem tuple_reps {l : List A} {xs : List Value} (h : Reps T e l xs) (hn : ∀ a ∈ l, ∀ m, a ≠ .t m) : Rep T e (.t l) (.tuple xs.toArray) := by
  obtain ⟨h1, h2⟩ := h.get
  refine ⟨xs.toArray, rfl, by simpa using h1, fun i v x hv hx => ?_⟩
  exact rep1_of (h2 i v x hv (by simpa using hx)) (hn v (List.mem_of_getElem? hv))
theorem pure_ok {f : FuncId} {s : SymC} (hn : s.nat) (hs : SymOK P T f s.dir) {sh : Bool} {ts : List Nat} {rk : List RK} {F : FC} (hFn : F.nat) (hts : ts.all (fun t => (T t).isSome) = true)
    (hF : ∀ xs rs, TV T ts xs → F (List Rs) xs some = some rs → s (List Rs) (mkAs T ts xs) (fun _ => none) 0 (fun out => resC T sh rk out) = some rs) : SymOK P T f (pureS T sh ts F).dir := by
  intro c e of of' args vals nx out hos hrun hro hu hvals
  unfold SymC.dir pureS at hrun
  rw [argsC_eq] at hrun
  obtain ⟨⟨xs, wo⟩, hargs, hrun⟩ := ob_some hrun
  simp only at hrun
  rw [hFn Eff] at hrun
  obtain ⟨rs, hrs, hout⟩ := ob_some hrun
  injection hout with hout
  subst hout
  obtain ⟨eS, s1, s2, s3, s4, s5⟩ := argsV_spec hos hargs hro hvals
  have hrun0 := hF xs rs ⟨_, _, s5⟩ hrs
  rw [hn] at hrun0
  obtain ⟨out0, hout0, hres⟩ := ob_some hrun0
  let e0 : Env := { w := e.w, ι := fun _ => none, S := eS.S, bn := fun _ => 0, U := fun _ => False, ty := fun _ => 0, ln := fun _ => 0, G := fun _ _ => False }
  let c0 : Ctx := { w0 := e.w, M := fun _ => False, S0 := eS.S }
  have hos0 : OSim T c0 e0 (fun _ => none) := ⟨fun _ _ h => (by cases h), fun _ _ _ _ _ _ h => (by cases h), fun _ _ _ h => (by cases h), fun _ _ _ h => False.elim h, fun b i h => by have := s2.slt b i h; rwa [s1] at this, fun _ _ h => h, fun _ _ h => .inl h, rfl, rfl, rfl, Nat.le_refl _, fun _ _ _ => rfl, ⟨fun _ _ h => h.elim, fun _ _ _ h => h.elim, fun _ _ h => h.elim, fun _ _ h => h.elim⟩⟩
  have hreps0 : Reps T e0 (mkAs T ts xs) vals.toList := (s5.change (e' := e0) (fun a ds q => ⟨q.1, fun j y hj => by
    obtain ⟨p1, p2⟩ := q.2 j y hj
    rw [s1] at p1
    exact ⟨p1, p2⟩⟩)).reps hts
  refine does_mono (hs c0 e0 (fun _ => none) (fun _ => none) _ vals 0 out0 hos0 hout0 (fun _ _ => rfl) (fun _ _ _ h => h) hreps0) ?_
  rintro x w' ⟨e1, rfl, k1, k2, k3, k4⟩
  obtain ⟨vs, hvs, hx⟩ : ∃ vs, Reps T e1 (outL out0.val) vs ∧ ((isT out0.val = true ∧ x = .tuple vs.toArray) ∨ (isT out0.val = false ∧ vs = [x])) := by
    cases hv : out0.val with
    | t l =>
      rw [hv] at k4
      obtain ⟨X, rfl, h2, h3⟩ := k4
      exact ⟨X.toList, reps_tuple (by simpa [outL] using h2) (fun i v x a b => h3 i v x a (by simpa using b)), .inl ⟨rfl, by simp⟩⟩
    | _ => rw [hv] at k4; exact ⟨[x], .cons k4 .nil, .inr ⟨rfl, rfl⟩⟩
  unfold resC at hres
  cases hsh1 : (Nat.beq rk.length 1 == isT out0.val) with
  | true => rw [hsh1] at hres; cases hres
  | false =>
  rw [hsh1] at hres
  simp only [cond_false] at hres
  split at hres <;> try (cases hres; done)
  rename_i ys w2 hdl
  cases hcnt : Nat.ble (cntR rk) 1 with
  | false => rw [hcnt] at hres; cases hres
  | true =>
  rw [hcnt] at hres
  simp only [cond_true] at hres
  obtain ⟨e2, q1, q2, q3, q4, q6, q5⟩ := dL_spec k1 hdl hvs
  have hRR := q5 rs hres e.w.heap.size (fun id el v xs nl sh' b o hid hι => by
    rcases q2.own id b o (by rw [hid]; rfl) hι with h | h
    · exact h
    · exact h.elim)
  obtain ⟨eK, ofK, t1, t2, t3, t4, t5, t6⟩ : ∃ (eK : Env) (ofK : Nat → Option Ob), eK.w = e.w ∧ OSim T c eK ofK ∧ e.le eK ∧ (∀ j, eK.U j → e.U j) ∧ (sh = true → ∀ b i, eS.S b i → eK.S b i) ∧ put of' (bif sh then slim of wo else []) = ofK := by
    cases sh with
    | true =>
      refine ⟨eS, put of' wo, s1, s2, s3, s4, fun _ _ _ h => h, ?_⟩
      have hall : AllSh of' wo := fun p hp => by
        rw [hro p.1 (List.mem_map.2 ⟨p, hp, rfl⟩)]; exact argsV_sh hargs p hp
      show put of' (slim of wo) = _
      rw [slim_congr hro, slim_put hall]
    | false => exact ⟨e, of', rfl, hos, Env.le.refl e, fun _ h => h, fun h => (by cases h), rfl⟩
  have hsz : eK.w.heap.size = e.w.heap.size := by rw [t1]
  obtain ⟨g1, g2⟩ := t2.grown (w' := e2.w) (S2 := e2.S) (by rw [hsz]; exact q2.size) (fun b hb => by rw [t1]; exact q2.block b (by rw [← hsz]; exact hb) (fun h => h)) (by rw [t1]; exact q2.os) (by rw [t1]; exact q2.tape) (by rw [t1]; exact q2.output) (fun b i h => q2.slt b i h)
  have hRA : RR T sh (eK.grown e2.w e2.S) e.w.heap.size rk rs vs := RR.flat (e := e2) (e' := eK.grown e2.w e2.S) rfl (fun hsh a ds q => ⟨q.1, fun j y hj => by
      obtain ⟨p1, p2⟩ := q.2 j y hj
      refine ⟨p1, ?_⟩
      rcases q2.snew _ _ p2 with h | h | h
      · exact .inl (t5 hsh _ _ h)
      · exact .inr ⟨by rw [hsz]; exact h, p2⟩
      · exact h.elim⟩) (fun b i hB hS => by
      rcases hS with h | h
      · have := t2.slt b i h; omega
      · exact h.2) hRR
  obtain ⟨u0, e', u1, u2, u3, u4, u5⟩ := RR.take (nx := nx) g1 hRA (Nat.le_of_ble_eq_true hcnt) (fun id h1 h2 hU => hu id h1 h2 (t4 id hU)) hos.size (fun j b o hj hι => by
    have := t2.lt j b o (t2.ok j _ (Option.some_get hj).symm).use hι
    rwa [hsz] at this) (fun a b hG => by
    have := t2.g.lt a b hG
    rwa [hsz] at this)
  refine ⟨e', u1.trans q1, ?_, t3.trans (g2.trans u3), fun id hid => (u4 id hid).imp (t4 id) (fun h => h), ?_⟩
  · show OSim T c e' (put of' ((bif sh then slim of wo else []) ++ (mkRs T nx rs).2.1))
    rw [put_append, t6]; exact u2
  · show Rep T e' (oneT (mkRs T nx rs).1) x
    have hlen : (mkRs T nx rs).1.length = rk.length := by rw [mkRs_len, rL_len hres]
    rcases hx with ⟨ht, rfl⟩ | ⟨ht, rfl⟩
    · have hne : (mkRs T nx rs).1.length ≠ 1 := by
        rw [hlen]; intro h; rw [h, ht] at hsh1; cases hsh1
      have : oneT (mkRs T nx rs).1 = .t (mkRs T nx rs).1 := by
        unfold oneT
        split
        · rename_i a h; rw [h] at hne; exact absurd rfl hne
        · rfl
      rw [this]
      exact tuple_reps u5 (mkRs_not (nx := nx))
    · have h1 := u5.get.1
      obtain ⟨a, ha⟩ : ∃ a, (mkRs T nx rs).1 = [a] := List.length_eq_one_iff.1 (by simpa using h1.symm)
      rw [ha] at u5 ⊢
      cases u5 with
      | cons h _ => exact h
end Go.Vm

namespace Go.Vm
open Go.RowKit
variable {P : Program} {T : TT} {R : Type}
def noC : SymC := fun _ _ _ _ _ => none
theorem noC_nat : noC.nat := fun _ _ _ _ _ => rfl
theorem noC_ok {f : FuncId} : SymOK P T f noC.dir := fun c e of of' args vals nx out _ h => by cases h
def lookT : List (Nat × SymC) → Nat → Option SymC
  | [], _ => none
  | (k, s) :: r, f => bif Nat.beq k f then some s else lookT r f
def TabOK (P : Program) (T : TT) (tab : List (Nat × SymC)) : Prop := ∀ f s, (f, s) ∈ tab → s.nat ∧ SymOK P T f s.dir
theorem tabOK_nil : TabOK P T [] := fun f s h => by cases h
theorem TabOK.cons {tab : List (Nat × SymC)} (h : TabOK P T tab) {f : Nat} {s : SymC} (hn : s.nat) (hs : SymOK P T f s.dir) : TabOK P T ((f, s) :: tab) := by
  intro g s' hg
  rcases List.mem_cons.1 hg with hq | hg
  · cases hq; exact ⟨hn, hs⟩
  · exact h g s' hg
theorem lookT_mem : ∀ {tab : List (Nat × SymC)} {f : Nat} {s : SymC}, lookT tab f = some s → (f, s) ∈ tab := by
  intro tab
  induction tab with
  | nil => intro f s h; cases h
  | cons p r ih =>
    intro f s h
    obtain ⟨k, s'⟩ := p
    simp only [lookT] at h
    cases hk : Nat.beq k f with
    | true =>
      rw [hk] at h; simp only [cond_true, Option.some.injEq] at h
      have := Nat.eq_of_beq_eq_true hk; subst this; subst h
      exact List.mem_cons_self ..
    | false => rw [hk] at h; exact List.mem_cons_of_mem _ (ih h)
def runAC (P : Program) (T : TT) (tab : List (Nat × SymC)) (fl : Bool) (fu : Nat) : Nat → KC
  | 0 => ⟨fun f => match lookT tab f with
    | some s => s
    | none => noC, fun _ => noC, fun _ => false⟩
  | d + 1 => ⟨fun f => match lookT tab f with
    | some s => s
    | none => runFC P T (runAC P T tab fl fu d) (fun _ _ => none) fl fu f, fun id => yieldC T (runAC P T tab fl fu d) fl fu id, enterB P⟩
theorem runAC_nat {tab : List (Nat × SymC)} (h : TabOK P T tab) {fl : Bool} {fu : Nat} : ∀ d, (runAC P T tab fl fu d).nat := by
  intro d
  induction d with
  | zero =>
    refine ⟨fun f => ?_, fun _ => noC_nat⟩
    show (match lookT tab f with
      | some s => s
      | none => noC).nat
    split
    · rename_i s hs; exact (h f s (lookT_mem hs)).1
    · exact noC_nat
  | succ d ih =>
    refine ⟨fun f => ?_, fun id => yieldC_nat ih⟩
    show (match lookT tab f with
      | some s => s
      | none => runFC P T (runAC P T tab fl fu d) (fun _ _ => none) fl fu f).nat
    split
    · rename_i s hs; exact (h f s (lookT_mem hs)).1
    · exact runFC_nat ih (fun _ => loNat_none)
theorem runAC_ok (hm : P.follows .mixedOrders = true) (hT : TOK T P) {tab : List (Nat × SymC)} (h : TabOK P T tab) {fl : Bool} {fu : Nat} : ∀ d, KOK P T (runAC P T tab fl fu d).dir := by
  intro d
  induction d with
  | zero =>
    refine ⟨fun f => ?_, fun id c e of of' args vals nx out b _ hr => (by cases hr), fun f h => (by cases h)⟩
    show SymOK P T f (match lookT tab f with
      | some s => s
      | none => noC).dir
    split
    · rename_i s hs; exact (h f s (lookT_mem hs)).2
    · exact noC_ok
  | succ d ih =>
    refine ⟨fun f => ?_, fun id => ?_, fun f h => enterB_ok h⟩
    · show SymOK P T f (match lookT tab f with
        | some s => s
        | none => runFC P T (runAC P T tab fl fu d) (fun _ _ => none) fl fu f).dir
      split
      · rename_i s hs; exact (h f s (lookT_mem hs)).2
      · exact runFC_ok hm hT (runAC_nat h d) ih (fun _ => loNat_none) (fun n0 fn code _ _ => loopsOK_none code)
    · show YOK P T id (yieldC T (runAC P T tab fl fu d) fl fu id).dir
      rw [yieldC_dir (runAC_nat h d)]
      exact yieldS_ok hm hT ih
structure LoopsC (P : Program) (T : TT) (f : Nat) (Lo : Nat → LC) : Prop where
  nat : ∀ n0, LoNat (Lo n0)
  ok : ∀ n0 fn code, P.funcs[f]? = some fn → fn.body = some code → LoopsOK P T fn.ntmps n0 (dirL (Lo n0)) code
theorem loopsC_none {f : Nat} : LoopsC P T f (fun _ _ => none) := ⟨fun _ => loNat_none, fun n0 fn code _ _ => loopsOK_none code⟩
theorem pure_con (hm : P.follows .mixedOrders = true) (hT : TOK T P) {tab : List (Nat × SymC)} (h : TabOK P T tab) {f d fu : Nat} {Lo : Nat → LC} {sh : Bool} {ts : List Nat} {rk : List RK} {F : FC} (hFn : F.nat) (hts : ts.all (fun t => (T t).isSome) = true)
    (hL : LoopsC P T f Lo)
    (hF : ∀ xs rs, TV T ts xs → F (List Rs) xs some = some rs → runFC P T (runAC P T tab false fu d) Lo false fu f (List Rs) (mkAs T ts xs) (fun _ => none) 0 (fun out => resC T sh rk out) = some rs) :
    TabOK P T ((f, pureS T sh ts F) :: tab) :=
  h.cons (pureS_nat hFn) (pure_ok (runFC_nat (runAC_nat h d) hL.nat) (runFC_ok hm hT (runAC_nat h d) (runAC_ok hm hT h d) hL.nat hL.ok) hFn hts hF)
theorem TabOK.run (hm : P.follows .mixedOrders = true) (hT : TOK T P) {tab : List (Nat × SymC)} (h : TabOK P T tab) {f d fu : Nat} {Lo : Nat → LC} (hL : LoopsC P T f Lo) : TabOK P T ((f, runFC P T (runAC P T tab false fu d) Lo false fu f) :: tab) :=
  h.cons (runFC_nat (runAC_nat h d) hL.nat) (runFC_ok hm hT (runAC_nat h d) (runAC_ok hm hT h d) hL.nat hL.ok)
end Go.Vm

namespace Go.Vm
open Go.RowKit
variable {P : Program} {T : TT} {R : Type}
def lpC {p q : Type} (B : p → (p → Option R) → (q → Option R) → Option R) : Nat → p → (q → Option R) → Option R
  | 0, _, _ => none
  | n + 1, x, kx => B x (fun x' => lpC B n x' kx) kx
noncomputable def hid (n : Nat) : Nat := Classical.choose (⟨n, rfl⟩ : ∃ m, m = n)
theorem hid_eq (n : Nat) : hid n = n := Classical.choose_spec (⟨n, rfl⟩ : ∃ m, m = n)
abbrev FU : Nat := 4611686018427387904
def unrollNC (n0 : Nat) (ks : List Nat) (bnd : Nat) (f : St → (Exit → St → Option R) → Option R) : Nat → St → (Exit → St → Option R) → Option R
  | 0, _, _ => none
  | n + 1, σ, k => bif Nat.ble σ.nx bnd then (match σ.norm n0 ks with
    | some σn => f σn fun ex σ1 => match ex with
      | .normal => unrollNC n0 ks bnd f n σ1 k
      | ex => bif Nat.ble σ1.nx bnd then (match σ1.norm n0 ks with
        | some σ2 => bif Nat.ble σ2.nx bnd then k ex { σ2 with nx := bnd } else none
        | none => none) else none
    | none => none) else none
theorem unrollNC_eq {n0 bnd : Nat} {ks : List Nat} {f : St → (Exit → St → Option R) → Option R} {g : St → Option (Exit × St)} (h : ∀ σ k, f σ k = ob2 (g σ) k) : ∀ (n : Nat) (σ : St) (k : Exit → St → Option R), unrollNC n0 ks bnd f n σ k = ob2 (unrollN n0 ks bnd g n σ) k := by
  intro n
  induction n with
  | zero => intro σ k; rfl
  | succ n ih =>
    intro σ k
    simp only [unrollNC, unrollN, h]
    cases Nat.ble σ.nx bnd
    · rfl
    · simp only [cond_true]
      cases σ.norm n0 ks with
      | none => rfl
      | some σn =>
        simp only
        cases g σn with
        | none => rfl
        | some p =>
          obtain ⟨ex, σ1⟩ := p
          simp only [ob2]
          cases ex with
          | normal => exact ih σ1 k
          | _ =>
            simp only
            cases Nat.ble σ1.nx bnd
            · rfl
            · simp only [cond_true]
              cases σ1.norm n0 ks with
              | none => rfl
              | some σ2 => simp only; cases Nat.ble σ2.nx bnd <;> rfl
def sortN (n0 : Nat) (ks : List Nat) (bnd : Nat) (K : St → Option R) (kx : Exit → St → Option R) : Exit → St → Option R := fun ex σ1 => match ex with
  | .normal => bif Nat.ble σ1.nx bnd then (match σ1.norm n0 ks with
    | some σn => K σn
    | none => none) else none
  | ex => bif Nat.ble σ1.nx bnd then (match σ1.norm n0 ks with
    | some σ2 => bif Nat.ble σ2.nx bnd then kx ex { σ2 with nx := bnd } else none
    | none => none) else none
theorem loop_ind {p q : Type} {n0 bnd : Nat} {ks : List Nat} {f : St → (Exit → St → Option R) → Option R} (tm : p → St) (B : p → (p → Option R) → (q → Option R) → Option R) (ek : (Exit → St → Option R) → q → Option R)
    (hstep : ∀ (x : p) (K : St → Option R) (kx : Exit → St → Option R), f (tm x) (sortN n0 ks bnd K kx) = B x (fun x' => K (tm x')) (ek kx)) :
    ∀ (n : Nat) (x : p) (σ : St) (k : Exit → St → Option R), σ.norm n0 ks = some (tm x) → Nat.ble σ.nx bnd = true → unrollNC n0 ks bnd f n σ k = lpC B n x (ek k) := by
  intro n
  have key : ∀ n (k : Exit → St → Option R), ∃ G : St → Option R, (∀ x, G (tm x) = lpC B n x (ek k)) ∧ ∀ σ, unrollNC n0 ks bnd f n σ k = bif Nat.ble σ.nx bnd then (match σ.norm n0 ks with | some σn => G σn | none => none) else none := by
    intro n
    induction n with
    | zero =>
      intro k
      refine ⟨fun _ => none, fun x => rfl, fun σ => ?_⟩
      simp only [unrollNC]
      cases Nat.ble σ.nx bnd
      · rfl
      · simp only [cond_true]; cases σ.norm n0 ks <;> rfl
    | succ n ih =>
      intro k
      obtain ⟨G, g1, g2⟩ := ih k
      refine ⟨fun τ => f τ (sortN n0 ks bnd G k), fun x => ?_, fun σ => ?_⟩
      · simp only
        rw [hstep x G k, lpC]
        congr 1
        funext x'
        exact g1 x'
      · simp only [unrollNC]
        have : ∀ σn, (f σn fun ex σ1 => match ex with
            | .normal => unrollNC n0 ks bnd f n σ1 k
            | ex => bif Nat.ble σ1.nx bnd then (match σ1.norm n0 ks with
              | some σ2 => bif Nat.ble σ2.nx bnd then k ex { σ2 with nx := bnd } else none
              | none => none) else none) = f σn (sortN n0 ks bnd G k) := by
          intro σn
          congr 1
          funext ex σ1
          cases ex with
          | normal => exact g2 σ1
          | _ => rfl
        cases Nat.ble σ.nx bnd
        · rfl
        · simp only [cond_true]
          cases σ.norm n0 ks with
          | none => rfl
          | some σn => exact this σn
  intro x σ k hn hb
  obtain ⟨G, g1, g2⟩ := key n k
  rw [g2, hb, cond_true, hn]
  exact g1 x
theorem unrollN_no {n0 bnd : Nat} {ks : List Nat} {f : St → Option (Exit × St)} {n : Nat} {σ : St} (h : Nat.ble σ.nx bnd = false ∨ σ.norm n0 ks = none) : unrollN n0 ks bnd f n σ = none := by
  cases n with
  | zero => rfl
  | succ n =>
    simp only [unrollN]
    rcases h with h | h
    · rw [h]; rfl
    · rw [h]; cases Nat.ble σ.nx bnd <;> rfl
noncomputable def loopH {p q : Type} (T : TT) (K : KC) (LoI : LC) (nt : Nat) (b : Code) (n0 : Nat) (ks : List Nat) (bnd : Nat) (ext : St → Option p) (B : (R : Type) → p → (p → Option R) → (q → Option R) → Option R) (ek : (R : Type) → (Exit → St → Option R) → q → Option R) : LS := fun R of σ k =>
  bif Nat.ble σ.nx bnd then (match σ.norm n0 ks with
    | some τ => match ext τ with
      | some x => lpC (B R) (hid FU) x (ek R k)
      | none => ob2 (unrollN n0 ks bnd (fun σ => exec T K.dir (dirL LoI) FU nt of b σ) FU σ) k
    | none => none) else none
theorem loopH_eq {p q : Type} {K : KC} (hK : K.nat) {LoI : LC} (hLI : LoNat LoI) {nt : Nat} {b : Code} {n0 : Nat} {ks : List Nat} {bnd : Nat} {ext : St → Option p} {B : (R : Type) → p → (p → Option R) → (q → Option R) → Option R} {ek : (R : Type) → (Exit → St → Option R) → q → Option R} (tm : p → St)
    (hext : ∀ τ x, ext τ = some x → τ = tm x)
    (hstep : ∀ (R : Type) (of : Nat → Option Ob) (x : p) (K' : St → Option R) (kx : Exit → St → Option R), execC T K LoI false FU nt of R b (tm x) (sortN n0 ks bnd K' kx) = B R x (fun x' => K' (tm x')) (ek R kx))
    (R : Type) (of : Nat → Option Ob) (σ : St) (k : Exit → St → Option R) :
    loopH T K LoI nt b n0 ks bnd ext B ek R of σ k = ob2 (unrollN n0 ks bnd (fun σ => exec T K.dir (dirL LoI) FU nt of b σ) FU σ) k := by
  have hun := unrollNC_eq (R := R) (n0 := n0) (bnd := bnd) (ks := ks) (f := fun σ k => execC T K LoI false FU nt of R b σ k) (g := fun σ => exec T K.dir (dirL LoI) FU nt of b σ) (fun σ k => execC_eq hK hLI of R b σ k) FU σ k
  unfold loopH
  cases hb : Nat.ble σ.nx bnd with
  | false =>
    simp only [cond_false]
    rw [unrollN_no (.inl hb)]; rfl
  | true =>
    simp only [cond_true]
    cases hn : σ.norm n0 ks with
    | none =>
      rw [unrollN_no (.inr hn)]; rfl
    | some τ =>
      simp only
      cases hx : ext τ with
      | none => rfl
      | some x =>
        simp only
        rw [hid_eq, ← hun]
        exact (loop_ind tm (B R) (ek R) (hstep R of) FU x σ k (by rw [hn, hext τ x hx]) hb).symm
def LoopTk (P : Program) (T : TT) (nt n0 : Nat) (b : Code) (s : LS) : Prop := s.nat ∧ ∀ of σ ex σ', s.dir of σ = some (ex, σ') → Takes P T nt n0 of (.loop b) σ ex σ'
theorem loopH_ok (hm : P.follows .mixedOrders = true) (hT : TOK T P) {p q : Type} {K : KC} (hK : K.nat) (hS : KOK P T K.dir) {LoI : LC} (hLI : LoNat LoI) {nt : Nat} {b : Code} {n0 : Nat} (hO : LoopsOK P T nt n0 (dirL LoI) b) {ks : List Nat} {bnd : Nat} {ext : St → Option p} {B : (R : Type) → p → (p → Option R) → (q → Option R) → Option R} {ek : (R : Type) → (Exit → St → Option R) → q → Option R} (tm : p → St)
    (hext : ∀ τ x, ext τ = some x → τ = tm x)
    (hstep : ∀ (R : Type) (of : Nat → Option Ob) (x : p) (K' : St → Option R) (kx : Exit → St → Option R), execC T K LoI false FU nt of R b (tm x) (sortN n0 ks bnd K' kx) = B R x (fun x' => K' (tm x')) (ek R kx)) :
    LoopTk P T nt n0 b (loopH T K LoI nt b n0 ks bnd ext B ek) := by
  have heq := loopH_eq (bnd := bnd) (ks := ks) (n0 := n0) hK hLI tm hext hstep
  refine ⟨fun R of σ k => ?_, fun of σ ex σ' h => ?_⟩
  · rw [heq R, heq (Exit × St)]
    cases unrollN n0 ks bnd (fun σ => exec T K.dir (dirL LoI) FU nt of b σ) FU σ <;> rfl
  · unfold LS.dir at h
    rw [heq] at h
    have h' : unrollN n0 ks bnd (fun σ => exec T K.dir (dirL LoI) FU nt of b σ) FU σ = some (ex, σ') := by
      cases hq : unrollN n0 ks bnd (fun σ => exec T K.dir (dirL LoI) FU nt of b σ) FU σ with
      | none => rw [hq] at h; cases h
      | some p => rw [hq] at h; exact h
    exact unrollN_takes (fun σ ex σ' h => exec_ok hm hT hS b hO σ ex σ' h) h'
def loopsOf : Code → List Code
  | .seq x y => loopsOf x ++ loopsOf y
  | .cond _ x y => loopsOf x ++ loopsOf y
  | .block _ b => loopsOf b
  | .loop b => b :: loopsOf b
  | _ => []
def codeId : Code → Nat
  | .region id _ _ => id
  | .seq x _ => codeId x
  | .cond _ x _ => codeId x
  | .block _ b => codeId b
  | .loop b => codeId b
  | _ => 0
def lp (c : Code) (i : Nat) : Code := (loopsOf c).getD i .skip
def lookL : List (Nat × LS) → Nat → Option LS
  | [], _ => none
  | (k, s) :: r, i => bif Nat.beq k i then some s else lookL r i
def loT (l : List (Nat × LS)) : LC := fun b => lookL l (codeId b)
theorem lookL_mem : ∀ {l : List (Nat × LS)} {i : Nat} {s : LS}, lookL l i = some s → ∃ k, (k, s) ∈ l := by
  intro l
  induction l with
  | nil => intro i s h; cases h
  | cons p r ih =>
    intro i s h
    obtain ⟨k, s'⟩ := p
    simp only [lookL] at h
    cases hk : Nat.beq k i with
    | true => rw [hk] at h; simp only [cond_true, Option.some.injEq] at h; subst h; exact ⟨k, List.mem_cons_self ..⟩
    | false => rw [hk] at h; obtain ⟨j, hj⟩ := ih h; exact ⟨j, List.mem_cons_of_mem _ hj⟩
theorem loT_nat {l : List (Nat × LS)} (h : ∀ p ∈ l, LS.nat p.2) : LoNat (loT l) := fun b s hs => by
  obtain ⟨k, hk⟩ := lookL_mem hs
  exact h _ hk
theorem loopsOK_of {Lo : LTab} {nt n0 : Nat} : ∀ c : Code, (∀ b ∈ loopsOf c, ∀ s, Lo b = some s → ∀ of σ ex σ', s of σ = some (ex, σ') → Takes P T nt n0 of (.loop b) σ ex σ') → LoopsOK P T nt n0 Lo c := by
  intro c
  induction c with
  | seq x y ihx ihy => intro h; exact ⟨ihx (fun b hb => h b (by simp [loopsOf, hb])), ihy (fun b hb => h b (by simp [loopsOf, hb]))⟩
  | cond q x y ihx ihy => intro h; exact ⟨ihx (fun b hb => h b (by simp [loopsOf, hb])), ihy (fun b hb => h b (by simp [loopsOf, hb]))⟩
  | block id b ih => intro h; exact ih (fun b hb => h b (by simpa [loopsOf] using hb))
  | loop b ih => intro h; exact ⟨h b (by simp [loopsOf]), ih (fun b' hb => h b' (by simp [loopsOf, hb]))⟩
  | _ => intro _; trivial
def AllL (P : Program) (T : TT) (Lo : LC) (nt n0 : Nat) (c : Code) : Nat → Prop
  | 0 => True
  | n + 1 => AllL P T Lo nt n0 c n ∧ ∀ s, Lo (lp c n) = some s → LoopTk P T nt n0 (lp c n) s
theorem loI {Lo : LC} {nt n0 : Nat} {c : Code} {i : Nat} {s0 : LS} (h0 : Lo (lp c i) = some s0) (h : LoopTk P T nt n0 (lp c i) s0) : ∀ s, Lo (lp c i) = some s → LoopTk P T nt n0 (lp c i) s := by
  intro s hs; rw [h0] at hs; cases hs; exact h
theorem loN {Lo : LC} {nt n0 : Nat} {c : Code} {i : Nat} (h0 : Lo (lp c i) = none) : ∀ s, Lo (lp c i) = some s → LoopTk P T nt n0 (lp c i) s := by
  intro s hs; rw [h0] at hs; cases hs
theorem loopsOK_at {Lo : LC} {nt n0 : Nat} {c : Code} (n : Nat) (hn : Nat.beq (loopsOf c).length n = true) (h : AllL P T Lo nt n0 c n) : LoopsOK P T nt n0 (dirL Lo) c := by
  have hn := Nat.eq_of_beq_eq_true hn
  have key : ∀ n, AllL P T Lo nt n0 c n → ∀ i, i < n → ∀ s, Lo (lp c i) = some s → LoopTk P T nt n0 (lp c i) s := by
    intro n
    induction n with
    | zero => intro _ i hi; omega
    | succ n ih =>
      intro h i hi
      by_cases hin : i = n
      · subst hin; exact h.2
      · exact ih h.1 i (by omega)
  refine loopsOK_of c (fun b hb s hs => ?_)
  obtain ⟨i, hi, rfl⟩ := List.mem_iff_getElem.1 hb
  have e : lp c i = (loopsOf c)[i] := by unfold lp; simp [List.getD, hi]
  rw [← e] at hs ⊢
  unfold dirL at hs
  cases hq : Lo (lp c i) with
  | none => rw [hq] at hs; cases hs
  | some s0 =>
    rw [hq] at hs
    injection hs with hs; subst hs
    exact (key n h i (by omega) s0 hq).2
def codeOf (P : Program) (f : Nat) : Code :=
  match P.funcs[f]? with
  | some fn => match fn.body with
    | some c => c
    | none => .skip
  | none => .skip
def ntOf (P : Program) (f : Nat) : Nat :=
  match P.funcs[f]? with
  | some fn => fn.ntmps
  | none => 0
def atN (n0 : Nat) (l : List (Nat × LS)) : Nat → LC := fun n => bif Nat.beq n n0 then loT l else fun _ => none
theorem loopsC_at {f : Nat} (n0 : Nat) {l : List (Nat × LS)} (hn : ∀ p ∈ l, LS.nat p.2) (n : Nat) (hl : Nat.beq (loopsOf (codeOf P f)).length n = true) (h : AllL P T (loT l) (ntOf P f) n0 (codeOf P f) n) : LoopsC P T f (atN n0 l) := by
  refine ⟨fun m => ?_, fun m fn code h1 h2 => ?_⟩
  · unfold atN
    cases Nat.beq m n0
    · exact loNat_none
    · exact loT_nat hn
  · unfold atN
    cases hm : Nat.beq m n0 with
    | false => exact loopsOK_none code
    | true =>
      have := Nat.eq_of_beq_eq_true hm; subst this
      simp only [cond_true]
      have := loopsOK_at n hl h
      simpa only [codeOf, ntOf, h1, h2] using this
end Go.Vm

namespace Go.Vm
abbrev M32 : Nat := 4294967296
def rotr (x n : Nat) : Nat := (x >>> n) ||| ((x <<< (32 - n)) % M32)
def sS0 (x : Nat) : Nat := (rotr x 7 ^^^ rotr x 18) ^^^ (x >>> 3)
def sS1 (x : Nat) : Nat := (rotr x 17 ^^^ rotr x 19) ^^^ (x >>> 10)
def bS0 (x : Nat) : Nat := (rotr x 2 ^^^ rotr x 13) ^^^ rotr x 22
def bS1 (x : Nat) : Nat := (rotr x 6 ^^^ rotr x 11) ^^^ rotr x 25
def chN (x y z : Nat) : Nat := (x &&& y) ^^^ ((4294967295 - x) &&& z)
def majN (x y z : Nat) : Nat := ((x &&& y) ^^^ (x &&& z)) ^^^ (y &&& z)
def nxtN (l : List Nat) : Nat := (l.getD 15 0 + sS0 (l.getD 14 0) + l.getD 6 0 + sS1 (l.getD 1 0)) % M32
def schN : Nat → List Nat → List Nat
  | 0, l => l
  | n + 1, l => seeN (nxtN l) fun x => schN n (x :: l)
structure S8 where
  a : Nat
  b : Nat
  c : Nat
  d : Nat
  e : Nat
  f : Nat
  g : Nat
  h : Nat
def rndN (s : S8) (k w : Nat) : S8 :=
  seeN (s.h + bS1 s.e + chN s.e s.f s.g + k + w) fun t => seeN ((t + (bS0 s.a + majN s.a s.b s.c)) % M32) fun a => seeN ((s.d + t) % M32) fun e => ⟨a, s.a, s.b, s.c, e, s.e, s.f, s.g⟩
def rndsN : List Nat → List Nat → S8 → S8
  | k :: ks, w :: ws, s => rndsN ks ws (rndN s k w)
  | _, _, s => s
def addS (s x : S8) : S8 :=
  seeN ((s.a + x.a) % M32) fun a => seeN ((s.b + x.b) % M32) fun b => seeN ((s.c + x.c) % M32) fun c => seeN ((s.d + x.d) % M32) fun d => seeN ((s.e + x.e) % M32) fun e => seeN ((s.f + x.f) % M32) fun f => seeN ((s.g + x.g) % M32) fun g => seeN ((s.h + x.h) % M32) fun h => ⟨a, b, c, d, e, f, g, h⟩
def keysN : List Nat := [0x428a2f98, 0x71374491, 0xb5c0fbcf, 0xe9b5dba5, 0x3956c25b, 0x59f111f1, 0x923f82a4, 0xab1c5ed5,
  0xd807aa98, 0x12835b01, 0x243185be, 0x550c7dc3, 0x72be5d74, 0x80deb1fe, 0x9bdc06a7, 0xc19bf174,
  0xe49b69c1, 0xefbe4786, 0x0fc19dc6, 0x240ca1cc, 0x2de92c6f, 0x4a7484aa, 0x5cb0a9dc, 0x76f988da,
  0x983e5152, 0xa831c66d, 0xb00327c8, 0xbf597fc7, 0xc6e00bf3, 0xd5a79147, 0x06ca6351, 0x14292967,
  0x27b70a85, 0x2e1b2138, 0x4d2c6dfc, 0x53380d13, 0x650a7354, 0x766a0abb, 0x81c2c92e, 0x92722c85,
  0xa2bfe8a1, 0xa81a664b, 0xc24b8b70, 0xc76c51a3, 0xd192e819, 0xd6990624, 0xf40e3585, 0x106aa070,
  0x19a4c116, 0x1e376c08, 0x2748774c, 0x34b0bcb5, 0x391c0cb3, 0x4ed8aa4a, 0x5b9cca4f, 0x682e6ff3,
  0x748f82ee, 0x78a5636f, 0x84c87814, 0x8cc70208, 0x90befffa, 0xa4506ceb, 0xbef9a3f7, 0xc67178f2]
def wordsR : Nat → List Nat → List Nat → List Nat
  | n + 1, b0 :: b1 :: b2 :: b3 :: r, acc => seeN (((b0 * 256 + b1) * 256 + b2) * 256 + b3) fun w => wordsR n r (w :: acc)
  | _, _, acc => acc
def mixN (s : S8) (bs : List Nat) : S8 := addS s (rndsN keysN (schN 48 (wordsR 16 bs [])).reverse s)
def s0N : S8 := ⟨0x6a09e667, 0xbb67ae85, 0x3c6ef372, 0xa54ff53a, 0x510e527f, 0x9b05688c, 0x1f83d9ab, 0x5be0cd19⟩
def be4 (n : Nat) : List Nat := [n / 16777216 % 256, n / 65536 % 256, n / 256 % 256, n % 256]
def outN (s : S8) : List Nat := be4 s.a ++ (be4 s.b ++ (be4 s.c ++ (be4 s.d ++ (be4 s.e ++ (be4 s.f ++ (be4 s.g ++ be4 s.h))))))
def mixesN : Nat → S8 → List Nat → S8
  | 0, s, _ => s
  | n + 1, s, l => match l with
    | [] => s
    | l => mixesN n (mixN s (l.take 64)) (l.drop 64)
def padN (n : Nat) : List Nat := 128 :: (List.replicate ((119 - n % 64) % 64) 0 ++ [8 * n / 2 ^ 56 % 256, 8 * n / 2 ^ 48 % 256, 8 * n / 2 ^ 40 % 256, 8 * n / 2 ^ 32 % 256, 8 * n / 2 ^ 24 % 256, 8 * n / 2 ^ 16 % 256, 8 * n / 2 ^ 8 % 256, 8 * n % 256])
def shaN (l : List Nat) : List Nat := outN (mixesN (l.length / 64 + 2) s0N (l ++ padN l.length))
example : shaN [97, 98, 99] = [0xba, 0x78, 0x16, 0xbf, 0x8f, 0x01, 0xcf, 0xea, 0x41, 0x41, 0x40, 0xde, 0x5d, 0xae, 0x22, 0x23, 0xb0, 0x03, 0x61, 0xa3, 0x96, 0x17, 0x7a, 0x9c, 0xb4, 0x10, 0xff, 0x61, 0xf2, 0x00, 0x15, 0xad] := by kernel_rfl
end Go.Vm

namespace Go.Vm
open Go.RowKit
variable {T : TT} {R : Type}
abbrev ck {R : Type} (i : Int) (n : Nat) (k : Option R) : Option R := bif ile 0 i && ilt i n then k else none
abbrev W64 (n : Int) : Int := IntKind.wrap .i64 n
abbrev W32 (n : Int) : Int := IntKind.wrap .u32 n
abbrev WU (n : Int) : Int := IntKind.wrap .u64 n
def elV (w : V) (i : Int) : Int := (w.nth i.toNat).int
def nv (n : Nat) : V := .i (n : Int)
theorem wu32 (n : Nat) : W32 (n : Int) = ((n % 4294967296 : Nat) : Int) := by
  unfold W32 IntKind.wrap
  simp [IntKind.bits, IntKind.signed]
theorem wu64 (n : Nat) : WU (n : Int) = ((n % 18446744073709551616 : Nat) : Int) := by
  unfold WU IntKind.wrap
  simp [IntKind.bits, IntKind.signed]
theorem wu32_lt {n : Nat} (h : n < 4294967296) : W32 (n : Int) = (n : Int) := by rw [wu32, Nat.mod_eq_of_lt h]
theorem wu64_lt {n : Nat} (h : n < 18446744073709551616) : WU (n : Int) = (n : Int) := by rw [wu64, Nat.mod_eq_of_lt h]
theorem w64_in {n : Int} (h1 : -9223372036854775808 ≤ n) (h2 : n ≤ 9223372036854775807) : W64 n = n := by
  show (if (true && decide (n % 2 ^ 64 ≥ 2 ^ (64 - 1))) = true then n % 2 ^ 64 - 2 ^ 64 else n % 2 ^ 64) = n
  by_cases h : n % 2 ^ 64 ≥ 2 ^ (64 - 1)
  · rw [if_pos (by simpa using h)]; omega
  · rw [if_neg (by simpa using h)]; omega
theorem ck_in {i : Int} {n : Nat} {k : Option R} (h1 : 0 ≤ i) (h2 : i < n) : ck i n k = k := by
  unfold ck
  rw [ile_iff.2 h1, show ilt i n = true by simp [ilt, h2]]
  rfl
theorem ofInt_nat (w a : Nat) : BitVec.ofInt w (a : Int) = BitVec.ofNat w a := BitVec.ofInt_natCast w a
theorem bits_and32 {a b : Nat} (ha : a < 4294967296) (hb : b < 4294967296) : bitsOf .and .u32 (a : Int) (b : Int) = ((a &&& b : Nat) : Int) := by
  have hl : a &&& b < 4294967296 := Nat.lt_of_le_of_lt Nat.and_le_left ha
  show IntKind.wrap .u32 (((BitVec.ofInt 32 (a : Int) &&& BitVec.ofInt 32 (b : Int)).toNat : Nat) : Int) = _
  rw [ofInt_nat, ofInt_nat, BitVec.toNat_and, BitVec.toNat_ofNat, BitVec.toNat_ofNat]
  rw [Nat.mod_eq_of_lt (by simpa using ha), Nat.mod_eq_of_lt (by simpa using hb)]
  exact wu32_lt hl
theorem bits_or32 {a b : Nat} (ha : a < 4294967296) (hb : b < 4294967296) : bitsOf .or .u32 (a : Int) (b : Int) = ((a ||| b : Nat) : Int) := by
  have hl : a ||| b < 4294967296 := Nat.or_lt_two_pow (n := 32) ha hb
  show IntKind.wrap .u32 (((BitVec.ofInt 32 (a : Int) ||| BitVec.ofInt 32 (b : Int)).toNat : Nat) : Int) = _
  rw [ofInt_nat, ofInt_nat, BitVec.toNat_or, BitVec.toNat_ofNat, BitVec.toNat_ofNat]
  rw [Nat.mod_eq_of_lt (by simpa using ha), Nat.mod_eq_of_lt (by simpa using hb)]
  exact wu32_lt hl
theorem bits_xor32 {a b : Nat} (ha : a < 4294967296) (hb : b < 4294967296) : bitsOf .xor .u32 (a : Int) (b : Int) = ((a ^^^ b : Nat) : Int) := by
  have hl : a ^^^ b < 4294967296 := Nat.xor_lt_two_pow (n := 32) ha hb
  show IntKind.wrap .u32 (((BitVec.ofInt 32 (a : Int) ^^^ BitVec.ofInt 32 (b : Int)).toNat : Nat) : Int) = _
  rw [ofInt_nat, ofInt_nat, BitVec.toNat_xor, BitVec.toNat_ofNat, BitVec.toNat_ofNat]
  rw [Nat.mod_eq_of_lt (by simpa using ha), Nat.mod_eq_of_lt (by simpa using hb)]
  exact wu32_lt hl
theorem bits_and64 {a b : Nat} (ha : a < 18446744073709551616) (hb : b < 18446744073709551616) : bitsOf .and .u64 (a : Int) (b : Int) = ((a &&& b : Nat) : Int) := by
  have hl : a &&& b < 18446744073709551616 := Nat.lt_of_le_of_lt Nat.and_le_left ha
  show IntKind.wrap .u64 (((BitVec.ofInt 64 (a : Int) &&& BitVec.ofInt 64 (b : Int)).toNat : Nat) : Int) = _
  rw [ofInt_nat, ofInt_nat, BitVec.toNat_and, BitVec.toNat_ofNat, BitVec.toNat_ofNat]
  rw [Nat.mod_eq_of_lt (by simpa using ha), Nat.mod_eq_of_lt (by simpa using hb)]
  exact wu64_lt hl
theorem bits_or64 {a b : Nat} (ha : a < 18446744073709551616) (hb : b < 18446744073709551616) : bitsOf .or .u64 (a : Int) (b : Int) = ((a ||| b : Nat) : Int) := by
  have hl : a ||| b < 18446744073709551616 := Nat.or_lt_two_pow (n := 64) ha hb
  show IntKind.wrap .u64 (((BitVec.ofInt 64 (a : Int) ||| BitVec.ofInt 64 (b : Int)).toNat : Nat) : Int) = _
  rw [ofInt_nat, ofInt_nat, BitVec.toNat_or, BitVec.toNat_ofNat, BitVec.toNat_ofNat]
  rw [Nat.mod_eq_of_lt (by simpa using ha), Nat.mod_eq_of_lt (by simpa using hb)]
  exact wu64_lt hl
theorem bits_xor64 {a b : Nat} (ha : a < 18446744073709551616) (hb : b < 18446744073709551616) : bitsOf .xor .u64 (a : Int) (b : Int) = ((a ^^^ b : Nat) : Int) := by
  have hl : a ^^^ b < 18446744073709551616 := Nat.xor_lt_two_pow (n := 64) ha hb
  show IntKind.wrap .u64 (((BitVec.ofInt 64 (a : Int) ^^^ BitVec.ofInt 64 (b : Int)).toNat : Nat) : Int) = _
  rw [ofInt_nat, ofInt_nat, BitVec.toNat_xor, BitVec.toNat_ofNat, BitVec.toNat_ofNat]
  rw [Nat.mod_eq_of_lt (by simpa using ha), Nat.mod_eq_of_lt (by simpa using hb)]
  exact wu64_lt hl
theorem fdiv_nat (a b : Nat) : (a : Int).fdiv (b : Int) = ((a / b : Nat) : Int) := by
  cases a with
  | zero => simp
  | succ a => cases b with
    | zero => simp
    | succ b => rfl
theorem fdiv_pow (a n : Nat) : (a : Int).fdiv (2 ^ n) = ((a >>> n : Nat) : Int) := by
  rw [show ((2 : Int) ^ n) = ((2 ^ n : Nat) : Int) by push_cast; rfl, fdiv_nat, Nat.shiftRight_eq_div_pow]
theorem mul_pow (a n : Nat) : (a : Int) * 2 ^ n = ((a <<< n : Nat) : Int) := by
  rw [Nat.shiftLeft_eq]; push_cast; rfl
def xor (a b : Int) : Int := bitsOf .xor .u32 a b
def and (a b : Int) : Int := bitsOf .and .u32 a b
def rot (x : Int) (n : Nat) : Int := bitsOf .or .u32 (W32 (x * 2 ^ (32 - n))) (x.fdiv (2 ^ n))
def sg0 (x : Int) : Int := xor (xor (rot x 7) (rot x 18)) (x.fdiv (2 ^ 3))
def sg1 (x : Int) : Int := xor (xor (rot x 17) (rot x 19)) (x.fdiv (2 ^ 10))
theorem shr_lt {a n : Nat} (h : a < M32) : a >>> n < M32 := by
  rw [Nat.shiftRight_eq_div_pow]; exact Nat.lt_of_le_of_lt (Nat.div_le_self _ _) h
theorem rotr_lt {a n : Nat} (h : a < M32) : rotr a n < M32 := by
  unfold rotr
  exact Nat.or_lt_two_pow (n := 32) (shr_lt h) (Nat.mod_lt _ (show 0 < M32 by decide))
theorem rot_eq {a n : Nat} (h : a < M32) : rot (a : Int) n = ((rotr a n : Nat) : Int) := by
  unfold rot rotr
  have hm : (a <<< (32 - n)) % 4294967296 < 4294967296 := Nat.mod_lt _ (by decide)
  rw [mul_pow, fdiv_pow, wu32, bits_or32 hm (shr_lt h), Nat.or_comm]
theorem xor_eq {a b : Nat} (ha : a < M32) (hb : b < M32) : xor (a : Int) (b : Int) = ((a ^^^ b : Nat) : Int) := bits_xor32 ha hb
theorem and_eq {a b : Nat} (ha : a < M32) (hb : b < M32) : and (a : Int) (b : Int) = ((a &&& b : Nat) : Int) := bits_and32 ha hb
theorem xor_lt {a b : Nat} (ha : a < M32) (hb : b < M32) : a ^^^ b < M32 := Nat.xor_lt_two_pow (n := 32) ha hb
theorem and_lt {a b : Nat} (ha : a < M32) : a &&& b < M32 := Nat.lt_of_le_of_lt Nat.and_le_left ha
theorem sg0_eq {a : Nat} (h : a < M32) : sg0 (a : Int) = ((sS0 a : Nat) : Int) := by
  unfold sg0 sS0
  rw [rot_eq h, rot_eq h, fdiv_pow, xor_eq (rotr_lt h) (rotr_lt h), xor_eq (xor_lt (rotr_lt h) (rotr_lt h)) (shr_lt h)]
theorem sg1_eq {a : Nat} (h : a < M32) : sg1 (a : Int) = ((sS1 a : Nat) : Int) := by
  unfold sg1 sS1
  rw [rot_eq h, rot_eq h, fdiv_pow, xor_eq (rotr_lt h) (rotr_lt h), xor_eq (xor_lt (rotr_lt h) (rotr_lt h)) (shr_lt h)]
theorem sS0_lt {a : Nat} (h : a < M32) : sS0 a < M32 := xor_lt (xor_lt (rotr_lt h) (rotr_lt h)) (shr_lt h)
theorem sS1_lt {a : Nat} (h : a < M32) : sS1 a < M32 := xor_lt (xor_lt (rotr_lt h) (rotr_lt h)) (shr_lt h)
theorem bS0_lt {a : Nat} (h : a < M32) : bS0 a < M32 := xor_lt (xor_lt (rotr_lt h) (rotr_lt h)) (rotr_lt h)
theorem bS1_lt {a : Nat} (h : a < M32) : bS1 a < M32 := xor_lt (xor_lt (rotr_lt h) (rotr_lt h)) (rotr_lt h)
theorem xor_max {a : Nat} (h : a < M32) : 4294967295 ^^^ a = 4294967295 - a := by
  have : (4294967295 : Nat) = 2 ^ 32 - 1 := by decide
  have h2 := Nat.testBit_two_pow_sub_succ (n := 32) (x := a) (by simpa using h)
  apply Nat.eq_of_testBit_eq
  intro i
  rw [Nat.testBit_xor, show 4294967295 - a = 2 ^ 32 - (a + 1) by omega, h2]
  rw [this, Nat.testBit_two_pow_sub_one]
  by_cases hi : i < 32
  · simp [hi]
  · have : a.testBit i = false := Nat.testBit_lt_two_pow (Nat.lt_of_lt_of_le (show a < 2 ^ 32 from h) (Nat.pow_le_pow_right (show 2 > 0 by decide) (show 32 ≤ i by omega)))
    simp [hi, this]
end Go.Vm
end
