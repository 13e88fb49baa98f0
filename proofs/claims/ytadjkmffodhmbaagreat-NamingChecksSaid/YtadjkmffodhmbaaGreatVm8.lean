/- What the operations of a program do, shown once for all programs; and numbers. -/
import Derived.Test.YtadjkmffodhmbaaGreatVm7
set_option linter.constructorNameAsVariable false
set_option linter.unusedVariables false
set_option linter.unusedSimpArgs false
noncomputable section
namespace Go.Vm
open Go.RowKit
variable {T : TT} {R : Type}
structure KC where
 f : Nat → E7
 y : Nat → E7
 ord : Nat → Bool
def KC.dir (K : KC) : KS := ⟨fun f => (K.f f).dir, fun id => (K.y id).dir, K.ord⟩
structure KC.nat (K : KC) : Prop where
 f : ∀ f, (K.f f).nat
 y : ∀ id, (K.y id).nat
def A9B (nx : Nat) (o : Out) (k : V9 → Option R) : Option R :=
 match o with
 | ⟨v, wo, ro, nw⟩ => match nw with
  | [] => k ⟨v, wo, ro, nx⟩
  | [j] => bif Nat.beq j nx then k ⟨v, wo, ro, nx + 1⟩ else none
  | _ => none
theorem A9C (nx : Nat) (o : Option Out) (k : V9 → Option R) : ob o (fun x => A9B nx x k) = ob (A3V nx o) k := by
 cases o with
 | none => rfl
 | some x =>
  obtain ⟨v, wo, ro, nw⟩ := x
  simp only [ob, A9B, A3V]
  cases nw with
  | nil => rfl
  | cons j r => cases r with
   | nil => simp only; cases Nat.beq j nx <;> rfl
   | cons _ _ => rfl
def B03 (T : TT) (t : Nat) (k : A) (okk : Bool) (q : Nat × Nat × Nat × Nat × List (V × V × Bool) × Option V) (kk : A × List Nat → Option R) : Option R :=
 match q.2.2.2.2.2 with
 | none => match D4 T t with
  | some (.map kt et) => match T et, A03 T kt k with
   | some te, some kv => bif TK.notOther te.k then (bif Nat.beq kt q.2.1 && Nat.beq et q.2.2.1 then
     (bif M8 kv q.2.2.2.2.1 then kk (okA okk (mkA T et (Q9 kv q.2.2.2.2.1)) true, [q.1]) else kk (okA okk (mkA T et te.zero) false, [q.1])) else none) else none
   | _, _ => none
  | _ => none
 | some _ => none
theorem B4r (t : Nat) (k : A) (okk : Bool) (q : Nat × Nat × Nat × Nat × List (V × V × Bool) × Option V) (kk : A × List Nat → Option R) : B03 T t k okk q kk = ob (A6f T t k okk q) kk := by
 unfold B03 A6f
 cases q.2.2.2.2.2 with
 | some _ => rfl
 | none => cases D4 T t with
  | none => rfl
  | some k1 => cases k1 with
   | map kt et =>
    simp only
    cases T et with
    | none => rfl
    | some te => cases A03 T kt k with
     | none => rfl
     | some kv =>
      simp only [N4]
      cases TK.notOther te.k
      ·rfl
      ·simp only [cond_true]
       cases (Nat.beq kt q.2.1 && Nat.beq et q.2.2.1)
       ·rfl
       ·simp only [cond_true]
        cases M8 kv q.2.2.2.2.1 <;> rfl
   | _ => rfl
def B04 (T : TT) (nx t : Nat) (k : A) (q : Nat × Nat × Nat × Nat × List (V × V × Bool) × Option V) (kk : Out → Option R) : Option R :=
 match q.2.2.2.2.2 with
 | none => match D4 T t with
  | some (.map kt et) => match T et, A03 T kt k with
   | some te, some kv => bif TK.notOther te.k then (bif Nat.beq kt q.2.1 && Nat.beq et q.2.2.1 then
     (bif M8 kv q.2.2.2.2.1 then (bif A1W kv q.2.2.2.2.1 then kk ⟨.o nx 1, [(q.1, .sm q.2.1 q.2.2.1 q.2.2.2.1 q.2.2.2.2.1 (some kv)), (nx, .row q.2.2.2.1 1 (Q9 kv q.2.2.2.2.1).els false true)], [q.1], [nx]⟩ else none) else kk ⟨mkA T et te.zero, [], [q.1], []⟩) else none) else none
   | _, _ => none
  | _ => none
 | some _ => none
theorem B4s (nx t : Nat) (k : A) (q : Nat × Nat × Nat × Nat × List (V × V × Bool) × Option V) (kk : Out → Option R) : B04 T nx t k q kk = ob (A7o T nx t k q) kk := by
 unfold B04 A7o
 cases q.2.2.2.2.2 with
 | some _ => rfl
 | none => cases D4 T t with
  | none => rfl
  | some k1 => cases k1 with
   | map kt et =>
    simp only
    cases T et with
    | none => rfl
    | some te => cases A03 T kt k with
     | none => rfl
     | some kv =>
      simp only [N4]
      cases TK.notOther te.k
      ·rfl
      ·simp only [cond_true]
       cases (Nat.beq kt q.2.1 && Nat.beq et q.2.2.1)
       ·rfl
       ·simp only [cond_true]
        cases M8 kv q.2.2.2.2.1
        ·rfl
        ·simp only [cond_true, N4]
         cases A1W kv q.2.2.2.2.1 <;> rfl
   | _ => rfl
def B05 (T : TT) (lend : Bool) (nx : Nat) (of : Nat → Option Ob) (t : Nat) (m k : A) (okk : Bool) (kk : Out → Option R) : Option R :=
 match A4C of m with
 | some q => bif lend && !okk then B04 T nx t k q kk else B03 T t k okk q fun p => kk ⟨p.1, [], p.2, []⟩
 | none => B2Z T of t m k okk fun p => kk ⟨p.1, [], p.2, []⟩
theorem B4t (lend : Bool) (nx : Nat) (of : Nat → Option Ob) (t : Nat) (m k : A) (okk : Bool) (kk : Out → Option R) : B05 T lend nx of t m k okk kk = ob (A9t T lend nx of t m k okk) kk := by
 unfold B05 A9t
 cases A4C of m with
 | some q =>
  simp only
  cases lend && !okk
  ·simp only [cond_false, B4r]
   cases A6f T t k okk q <;> rfl
  ·simp only [cond_true, B4s]
 | none =>
  simp only [B8t]
  cases A7O T of t m k okk <;> rfl
def B7m (T : TT) (of : Nat → Option Ob) (t : Nat) (k v : A) (q : Nat × Nat × Nat × Nat × List (V × V × Bool) × Option V) (kk : List (Nat × Ob) × List Nat → Option R) : Option R :=
 match D4 T t with
 | some (.map kt et) => match A03 T kt k with
  | some kv => bif Nat.beq kt q.2.1 && Nat.beq et q.2.2.1 then (bif C1s q.2.2.2.2.2 kv then (match v with
    | .o rid ver => match of rid with
     | some (.row el v' xs false sh) => bif Nat.beq el q.2.2.2.1 && Nat.beq v' ver then kk ([(rid, .row el (ver + 1) [] true false), (q.1, .sm q.2.1 q.2.2.1 q.2.2.2.1 (A1o kv (.l xs) true q.2.2.2.2.1) none)], [q.1, rid]) else none
     | _ => none
    | v => match N5 T DEP of et v with
     | some (x, wo) => bif !(V3 wo).contains q.1 then kk (wo ++ [(q.1, .sm q.2.1 q.2.2.1 q.2.2.2.1 (A1o kv x false q.2.2.2.2.1) none)], q.1 :: V3 wo) else none
     | none => none) else none) else none
  | none => none
 | _ => none
theorem B7n (of : Nat → Option Ob) (t : Nat) (k v : A) (q : Nat × Nat × Nat × Nat × List (V × V × Bool) × Option V) (kk : List (Nat × Ob) × List Nat → Option R) : B7m T of t k v q kk = ob (B36 T of t k v q) kk := by
 unfold B7m B36
 cases D4 T t with
 | none => rfl
 | some k1 => cases k1 with
  | map kt et =>
   simp only
   cases A03 T kt k with
   | none => rfl
   | some kv =>
    simp only [N4]
    cases (Nat.beq kt q.2.1 && Nat.beq et q.2.2.1)
    ·rfl
    ·simp only [cond_true]
     cases C1s q.2.2.2.2.2 kv
     ·rfl
     ·simp only [cond_true]
      have gen : ∀ v : A, (match N5 T DEP of et v with
        | some (x, wo) => bif !(V3 wo).contains q.1 then kk (wo ++ [(q.1, .sm q.2.1 q.2.2.1 q.2.2.2.1 (A1o kv x false q.2.2.2.2.1) none)], q.1 :: V3 wo) else none
        | none => none) = ob (match N5 T DEP of et v with
        | some (x, wo) => if !(V3 wo).contains q.1 then some (wo ++ [(q.1, .sm q.2.1 q.2.2.1 q.2.2.2.1 (A1o kv x false q.2.2.2.2.1) none)], q.1 :: V3 wo) else none
        | none => none) kk := by
       intro v
       cases N5 T DEP of et v with
       | none => rfl
       | some p =>
        obtain ⟨x, wo⟩ := p
        simp only [N4]
        cases !(V3 wo).contains q.1 <;> rfl
      cases v with
      | o rid ver =>
       simp only
       cases of rid with
       | none => rfl
       | some o => cases o with
        | row el v' xs nl sh => cases nl
                                ·simp only [N4]; cases (Nat.beq el q.2.2.2.1 && Nat.beq v' ver) <;> rfl
                                ·rfl
        | _ => rfl
      | i k n => exact gen (.i k n)
      | b y => exact gen (.b y)
      | s l => exact gen (.s l)
      | z v => exact gen (.z v)
      | v t x => exact gen (.v t x)
      | p i t r => exact gen (.p i t r)
      | e i v j t r => exact gen (.e i v j t r)
      | c t x => exact gen (.c t x)
      | q t x => exact gen (.q t x)
      | w i v o n => exact gen (.w i v o n)
      | a i t r l m => exact gen (.a i t r l m)
      | m i => exact gen (.m i)
      | y i => exact gen (.y i)
      | f n c => exact gen (.f n c)
      | g t l => exact gen (.g t l)
      | t l => exact gen (.t l)
      | x => exact gen .x
  | _ => rfl
def B2J (T : TT) (of : Nat → Option Ob) (nx t : Nat) (m k v : A) (kk : V9 → Option R) : Option R :=
 match A4C of m with
 | some q => B7m T of t k v q fun p => kk ⟨.x, p.1, p.2, nx⟩
 | none => ob (B72 T of t m k v) fun p => kk ⟨.x, p.1, p.2, nx⟩
theorem B7o (of : Nat → Option Ob) (nx t : Nat) (m k v : A) (kk : V9 → Option R) : B2J T of nx t m k v kk = ob (B4b T of nx t m k v) kk := by
 unfold B2J B4b C1w
 cases A4C of m with
 | some q =>
  simp only [B7n]
  cases B36 T of t k v q <;> rfl
 | none =>
  simp only
  cases B72 T of t m k v <;> rfl
def B7p (T : TT) (of : Nat → Option Ob) (t : Nat) (u : A) (k : A × List Nat → Option R) : Option R :=
 match A4C of u with
 | some q => (match D4 T t with
  | some (.map _ _) => bif Nat.ble q.2.2.2.2.1.length 9223372036854775807 then k (.i .i64 (q.2.2.2.2.1.length : Nat), [q.1]) else none
  | _ => none)
 | none => C2O T of t u k
theorem B7q (of : Nat → Option Ob) (t : Nat) (u : A) (k : A × List Nat → Option R) : B7p T of t u k = ob (B37 T of t u) k := by
 unfold B7p B37
 cases A4C of u with
 | none => exact C2P _ _ _ _
 | some q =>
  unfold C1u
  cases D4 T t with
  | none => rfl
  | some kk => cases kk with
   | map kt et => simp only; cases Nat.ble q.2.2.2.2.1.length 9223372036854775807 <;> rfl
   | _ => rfl
def B7r (T : TT) (K : KC) (ev : Operand → A) (of : Nat → Option Ob) (nx : Nat) (k : Call) (kk : V9 → Option R) : Option R :=
 match k.callee with
 | .value f => match ev f with
  | .f fn cap => bif cap.all (Z9 T) then K.f fn R (k.args.toList.map ev ++ cap) of nx kk else none
  | .y id => K.y id R (k.args.toList.map ev) of nx kk
  | _ => none
 | .builtin .len => match k.argTypes.toList, k.args.toList with
  | [t], [x] => B7p T of t (ev x) fun p => kk (.pv nx p.1 p.2)
  | _, _ => none
 | .builtin .append => match k.argTypes.toList, k.args.toList with
  | [t, xt], [x, y] => bif A29 T xt (ev y) then A8K T of nx t (ev x) (ev y) fun o => A9B nx o kk else bif isQ T (ev x) then ob (A3V nx (A8B T nx t xt (ev x) (ev y))) kk else none
  | _, _ => none
 | .builtin .copy => match k.argTypes.toList, k.args.toList with
  | [t, xt], [x, y] => B8w T of t xt (ev x) (ev y) fun p => kk ⟨p.1, p.2.1, p.2.2, nx⟩
  | _, _ => none
 | _ => ob (A1h T (.no fun _ _ _ _ => none) ev of nx k) kk
theorem B7s {K : KC} (hK : K.nat) (ev : Operand → A) (of : Nat → Option Ob) (nx : Nat) (k : Call) (kk : V9 → Option R) : B7r T K ev of nx k kk = ob (A1h T K.dir ev of nx k) kk := by
 unfold B7r
 split
 ·rename_i f hk
  simp only [A1h, hk]
  cases ev f with
  | f fn cap =>
   simp only [N4]
   cases cap.all (Z9 T)
   ·rfl
   ·simp only [cond_true]; exact hK.f fn R _ of nx kk
  | y id => exact hK.y id R _ of nx kk
  | _ => rfl
 ·rename_i hk
  simp only [A1h, hk]
  split
  ·rename_i t x h1 h2
   rw [h1, h2]
   simp only [B7q]
   cases B37 T of t (ev x) <;> rfl
  ·rename_i hne
   split
   ·rename_i t x h1 h2; exact absurd h2 (hne _ _ h1)
   ·rfl
 ·rename_i hk
  simp only [A1h, hk]
  split
  ·rename_i t xt x y h1 h2
   rw [h1, h2]
   simp only [B1B, A9C]
   cases A29 T xt (ev y)
   ·simp only [cond_false, Bool.false_eq_true, if_false]
    cases isQ T (ev x) <;> rfl
   ·simp only [cond_true, if_true]
  ·rename_i hne
   split
   ·rename_i t xt x y h1 h2; exact absurd h2 (hne _ _ _ _ h1)
   ·rfl
 ·rename_i hk
  simp only [A1h, hk]
  split
  ·rename_i t xt x y h1 h2
   rw [h1, h2]
   simp only [B8x]
   cases A0i T of t xt (ev x) (ev y) <;> rfl
  ·rename_i hne
   split
   ·rename_i t xt x y h1 h2; exact absurd h2 (hne _ _ _ _ h1)
   ·rfl
 ·rename_i h1 h2 h3 h4
  have : A1h T (.no fun _ _ _ _ => none) ev of nx k = A1h T K.dir ev of nx k := by
   unfold A1h
   split
   ·rename_i f hk; exact absurd hk (h1 f)
   all_goals rfl
  rw [this]
def B2K (T : TT) (K : KC) (ev : Operand → A) (of : Nat → Option Ob) (nx : Nat) (o : Oper) (k : V9 → Option R) : Option R :=
 match o.op with
 | .pick q a b => match ev q with
  | .b t => k (.pv nx (bif t then ev a else ev b) [])
  | _ => none
 | .binOp op t x y _ => C69 T of op t (ev x) (ev y) fun p => k (.pv nx p.1 p.2)
 | .unOp op _ x => unC op (ev x) fun v => k (.pv nx v [])
 | .convert s t x => B8u T of nx s t (ev x) fun o => A9B nx o k
 | .sliceToArrayPointer t x => C7b T of t (ev x) fun p => k ⟨p.1, p.2.1, p.2.2, nx⟩
 | .makeSlice t l c => A2Z T nx t (ev l) (ev c) k
 | .lookup t m c okk => B05 T (C4K o.pos) nx of t (ev m) (ev c) okk fun o => A9B nx o k
 | .mapUpdate t m c v => B2J T of nx t (ev m) (ev c) (ev v) k
 | .insert t m c v => B2J T of nx t (ev m) (ev c) (ev v) k
 | .slice t x lo hi mx => B1C T of t (ev x) (lo.map ev) (hi.map ev) (mx.map ev) fun p => k ⟨p.1, p.2.1, p.2.2, nx⟩
 | .indexAddr t x ix => match ev ix with
  | .i _ i => A2Y T of t i (ev x) fun p => k (.pv nx p.1 p.2)
  | _ => none
 | .index t x ix => match ev ix with
  | .i _ i => B1A T t i (ev x) fun v => k (.pv nx v [])
  | _ => none
 | .call c => B7r T K ev of nx c k
 | _ => ob (V1 T (.no fun _ _ _ _ => none) ev of nx o) k
theorem B7t {nx : Nat} (o : Option (A × List Nat)) (k : V9 → Option R) : ob (pvR nx o) k = ob o fun p => k (.pv nx p.1 p.2) := by cases o <;> rfl
theorem B7u {nx : Nat} (o : Option A) (k : V9 → Option R) : ob (pvO nx o) k = ob o fun v => k (.pv nx v []) := by cases o <;> rfl
theorem C6F {nx : Nat} (o : Option (A × List (Nat × Ob) × List Nat)) (k : V9 → Option R) : ob (pvW nx o) k = ob o fun p => k ⟨p.1, p.2.1, p.2.2, nx⟩ := by cases o <;> rfl
theorem A9D {K : KC} (hK : K.nat) (ev : Operand → A) (of : Nat → Option Ob) (nx : Nat) (o : Oper) (k : V9 → Option R) : B2K T K ev of nx o k = ob (V1 T K.dir ev of nx o) k := by
 obtain ⟨dst, op, ty, pos, after, guard⟩ := o
 cases op <;> simp only [B2K, V1, C2N, C7a, B8v, C2Q, A7c, B4t, B7o, B46, B7t, B7u, C6F, A9C, B7s hK]
 case pick q a b => cases ev q <;> rfl
 case indexAddr t x ix => cases ev ix <;> simp only [A7b, B7t] <;> rfl
 case index t x ix => cases ev ix <;> simp only [B45, B7u] <;> rfl
def C6G (T : TT) (K : KC) (ops : Array Oper) (sl : Nat → A) (of : Nat → Option Ob) (nx : Nat) (o : Oper) (k : Ent → Option R) : Option R :=
 match o.guard with
 | none => B2K T K (evO sl) of nx o fun out => bif Nat.ble nx out.nx then k (.mk1 o (o.looksAt ops) nx out) else none
 | some (g, want) => match (ops[g]?).bind (·.dst) with
  | some d => match sl d with
   | .t _ => k (.skip o (o.looksAt ops) nx)
   | .b q => bif (bif want then q else !q) then (B2K T K (evO sl) of nx o fun out => bif Nat.ble nx out.nx then k (.mk1 o (o.looksAt ops) nx out) else none) else k (.skip o (o.looksAt ops) nx)
   | _ => none
  | none => none
theorem C15 {K : KC} (hK : K.nat) (ops : Array Oper) (sl : Nat → A) (of : Nat → Option Ob) (nx : Nat) (o : Oper) (k : Ent → Option R) : C6G T K ops sl of nx o k = ob (A1Q T K.dir ops sl of nx o) k := by
 have go : ob (V1 T K.dir (evO sl) of nx o) (fun out => bif Nat.ble nx out.nx then k (.mk1 o (o.looksAt ops) nx out) else none) = ob (match V1 T K.dir (evO sl) of nx o with
   | some out => if Nat.ble nx out.nx = true then some (Ent.mk1 o (o.looksAt ops) nx out) else none
   | none => none) k := by
  cases V1 T K.dir (evO sl) of nx o with
  | none => rfl
  | some out => simp only [ob]; cases Nat.ble nx out.nx <;> rfl
 unfold C6G A1Q
 cases o.guard with
 | none => simp only [A9D hK]; exact go
 | some p =>
  obtain ⟨g, want⟩ := p
  simp only
  cases (ops[g]?).bind (·.dst) with
  | none => rfl
  | some d =>
   simp only
   cases sl d with
   | t _ => rfl
   | b q =>
    simp only [A9D hK, go]
    cases q <;> cases want <;> rfl
   | _ => rfl
def C9e {α : Type} (a : A) (k : A → α) : α :=
 match a with
 | .b q => match q with
  | true => k (.b true)
  | false => k (.b false)
 | a => k a
theorem C16 {α : Type} (a : A) (k : A → α) : C9e a k = k a := by
 cases a with
 | b q => cases q <;> rfl
 | _ => rfl
def C9f (fl : Bool) (a : A) (k : A → Option R) : Option R :=
 match fl with
 | true => C54 a k
 | false => C9e a k
theorem C17 (fl : Bool) (a : A) (k : A → Option R) : C9f fl a k = k a := by
 cases fl
 ·exact C16 a k
 ·exact B2D a k
def ob2 {α β : Type} (o : Option (α × β)) (k : α → β → Option R) : Option R :=
 match o with
 | some p => k p.1 p.2
 | none => none
def B4u (T : TT) (K : KC) (fl : Bool) (ops : Array Oper) (of : Nat → Option Ob) : List Oper → St → (List Ent → St → Option R) → Option R
 | [], σ, k => k [] σ
 | o :: r, σ, k => C6G T K ops (H2 σ.sl) (D7 σ.ob of) σ.nx o fun E => C9f fl E.val fun v => A1V E.hi fun h => C1H (A00 σ.ob E.ro σ.rd) fun rd =>
   B4u T K fl ops of r { sl := match E.dst with | some d => (d, v) :: σ.sl | none => σ.sl, ob := A0N σ.ob E.wo, rd := rd, nx := h, mks := σ.mks } fun Es σ' => k ({ E with val := v, hi := h } :: Es) σ'
theorem B2L {K : KC} (hK : K.nat) (fl : Bool) (ops : Array Oper) (of : Nat → Option Ob) : ∀ (l : List Oper) (σ : St) (k : List Ent → St → Option R), B4u T K fl ops of l σ k = ob2 (N6 T K.dir ops of l σ) k := by
 intro l
 induction l with
 | nil => intro σ k; rfl
 | cons o r ih =>
  intro σ k
  rw [A0Q]
  simp only [B4u, C15 hK, C17, P1, A4N, ih]
  cases A1Q T K.dir ops (H2 σ.sl) (D7 σ.ob of) σ.nx o with
  | none => rfl
  | some E =>
   simp only [ob, St.app]
   cases N6 T K.dir ops of r _ with
   | none => rfl
   | some p => rfl
abbrev LC := Code → Option ((R : Type) → (Nat → Option Ob) → St → (Exit → St → Option R) → Option R)
def A4P (ks : List Nat) (f : St → (Exit → St → Option R) → Option R) : Nat → St → (Exit → St → Option R) → Option R
 | 0, _, _ => none
 | n + 1, σ, k => f (σ.tidy ks) fun ex σ1 => match ex with
  | .normal => A4P ks f n σ1 k
  | ex => k ex σ1
def B06 (T : TT) (K : KC) (nt : Nat) (of : Nat → Option Ob) (R : Type) (g : Operand) (ps : Array Nat) (asg body : Code) (σ : St) (k : Exit → St → Option R) : Option R :=
 match σ.mks with
 | some l => match evO (H2 σ.sl) g with
  | .f f cap => bif K.ord f && cap.all (Z9 T) then
    (fun (ob1 : Tr) => K.f f R (.y (σ.nx + 1) :: cap) (D7 ob1 of) (σ.nx + 2) fun out => bif Nat.ble (σ.nx + 2) out.nx then
     (fun (ob2 : Tr) => match ob2.get (σ.nx + 1) with
     | some (.lp (some r)) => (match A8v r.st with
      | true => (match A9M r.pend with
       | some ex => k ex ⟨σ.sl, ob2.set (σ.nx + 1) (.lp (some { r with st := .exhausted })), A00 ob1 out.ro σ.rd, out.nx, some (σ.nx :: l)⟩
       | none => none)
      | false => none)
     | _ => none) (A0N ob1 out.wo) else none) ((σ.ob.set σ.nx (.lp none)).set (σ.nx + 1) (.lp (some ⟨nt, A4v σ.sl (A4u σ.sl []), ps, asg, body, .ready, none⟩)))
   else none
  | _ => none
 | none => none
theorem B4v {K : KC} (hK : K.nat) {nt : Nat} {of : Nat → Option Ob} {R : Type} {g : Operand} {ps : Array Nat} {asg body : Code} {σ : St} {k : Exit → St → Option R} : B06 T K nt of R g ps asg body σ k = ob2 (A5Y T K.dir nt of g ps asg body σ) k := by
 unfold B06 A5Y
 cases σ.mks with
 | none => rfl
 | some l =>
  simp only
  cases evO (H2 σ.sl) g with
  | f f cap =>
   simp only
   show (bif K.ord f && cap.all (Z9 T) then _ else _) = ob2 (if (K.ord f && cap.all (Z9 T)) = true then _ else _) k
   cases (K.ord f && cap.all (Z9 T))
   ·rfl
   ·simp only [cond_true, if_true]
    generalize (σ.ob.set σ.nx (.lp none)).set (σ.nx + 1) (.lp (some ⟨nt, A4v σ.sl (A4u σ.sl []), ps, asg, body, .ready, none⟩)) = ob1
    rw [hK.f f]
    show ob ((K.f f).dir _ _ _) _ = ob2 (match (K.f f).dir _ _ _ with | some out => _ | none => none) k
    cases (K.f f).dir (.y (σ.nx + 1) :: cap) (D7 ob1 of) (σ.nx + 2) with
    | none => rfl
    | some out =>
     simp only [ob]
     cases Nat.ble (σ.nx + 2) out.nx
     ·rfl
     ·simp only [cond_true, if_true]
      cases (A0N ob1 out.wo).get (σ.nx + 1) with
      | none => rfl
      | some o =>
       cases o with
       | lp q =>
        cases q with
        | none => rfl
        | some r =>
         simp only
         cases A8v r.st
         ·rfl
         ·simp only
          cases A9M r.pend <;> rfl
       | _ => rfl
  | _ => rfl
def E5 (T : TT) (K : KC) (Lo : LC) (fl : Bool) (fu nt : Nat) (of : Nat → Option Ob) (R : Type) : Code → St → (Exit → St → Option R) → Option R
 | .skip, σ, k => k .normal σ
 | .ret, σ, k => k .ret σ
 | .exit id, σ, k => k (.exit id) σ
 | .region _ ops draw, σ, k =>
  match draw with
  | false => bif ops.toList.all (A3d nt) then B4u T K fl ops of ops.toList σ fun _ σ' => k .normal σ' else none
  | true => bif A9J nt ops then (B4u T K fl ops of ops.toList σ fun Es σ' => bif A64 (A1R ops.toList []) Es 0 Es then k .normal σ' else
    B4u T K fl ops of ops.toList (σ.pre of (C2r (D7 σ.ob of) Es)) fun Es2 σ2 => bif A64 (A1R ops.toList []) Es2 0 Es2 then k .normal σ2 else none) else none
 | .seq x y, σ, k => E5 T K Lo fl fu nt of R x σ fun ex σ1 => match ex with
  | .normal => E5 T K Lo fl fu nt of R y σ1 k
  | ex => k ex σ1
 | .cond q x y, σ, k => match evO (H2 σ.sl) q with
  | .b t => bif t then E5 T K Lo fl fu nt of R x σ k else E5 T K Lo fl fu nt of R y σ k
  | _ => none
 | .block id body, σ, k => E5 T K Lo fl fu nt of R body σ fun ex σ' => match ex with
  | .exit id' => k (bif Nat.beq id' id then .normal else .exit id') σ'
  | ex => k ex σ'
 | .loop body, σ, k => match Lo body with
  | some s => s R of σ k
  | none => A4P (A4u σ.sl []) (fun σ k => E5 T K Lo fl fu nt of R body σ k) fu σ k
 | .rangeFunc g ps asg body, σ, k => B06 T K nt of R g ps asg body σ k
 | _, _, _ => none
abbrev LS := (R : Type) → (Nat → Option Ob) → St → (Exit → St → Option R) → Option R
def LS.nat (s : LS) : Prop := ∀ (R : Type) (of : Nat → Option Ob) (σ : St) (k : Exit → St → Option R), s R of σ k = ob2 (s (Exit × St) of σ fun ex σ => some (ex, σ)) k
def LS.dir (s : LS) (of : Nat → Option Ob) (σ : St) : Option (Exit × St) := s (Exit × St) of σ fun ex σ => some (ex, σ)
def X1 (Lo : LC) : A31 := fun b => match Lo b with
 | some s => some (LS.dir s)
 | none => none
def A1S (Lo : LC) : Prop := ∀ b s, Lo b = some s → LS.nat s
theorem B2 : A1S (fun _ => none) := fun b s h => by cases h
theorem B07 {ks : List Nat} {f : St → (Exit → St → Option R) → Option R} {g : St → Option (Exit × St)} (h : ∀ σ k, f σ k = ob2 (g σ) k) : ∀ (n : Nat) (σ : St) (k : Exit → St → Option R), A4P ks f n σ k = ob2 (A32 ks g n σ) k := by
 intro n
 induction n with
 | zero => intro σ k; rfl
 | succ n ih =>
  intro σ k
  simp only [A4P, A32, h]
  cases hg : g (σ.tidy ks) with
  | none => rfl
  | some p =>
   obtain ⟨ex, σ1⟩ := p
   simp only [ob2]
   cases ex with
   | normal => exact ih σ1 k
   | _ => rfl
theorem A17 {K : KC} (hK : K.nat) {Lo : LC} (hLo : A1S Lo) {fl : Bool} {fu nt : Nat} (of : Nat → Option Ob) (R : Type) : ∀ (c : Code) (σ : St) (k : Exit → St → Option R), E5 T K Lo fl fu nt of R c σ k = ob2 (Q7 T K.dir (X1 Lo) fu nt of c σ) k := by
 intro c
 induction c with
 | skip => intro σ k; rfl
 | ret => intro σ k; rfl
 | exit id => intro σ k; rfl
 | region id ops draw =>
  intro σ k
  cases draw with
  | false =>
   simp only [E5, Q7, B2L hK]
   cases ops.toList.all (A3d nt)
   ·rfl
   ·simp only [cond_true, if_true]
    cases N6 T K.dir ops of ops.toList σ <;> rfl
  | true =>
   simp only [E5, Q7, B2L hK]
   cases A9J nt ops
   ·rfl
   ·simp only [cond_true, if_true]
    cases N6 T K.dir ops of ops.toList σ with
    | none => rfl
    | some p =>
     obtain ⟨Es, σ'⟩ := p
     simp only [ob2]
     cases A64 (A1R ops.toList []) Es 0 Es
     ·simp only [cond_false, Bool.false_eq_true, if_false]
      cases N6 T K.dir ops of ops.toList (σ.pre of (C2r (D7 σ.ob of) Es)) with
      | none => rfl
      | some p2 =>
       obtain ⟨Es2, σ2⟩ := p2
       simp only
       cases A64 (A1R ops.toList []) Es2 0 Es2 <;> rfl
     ·rfl
 | seq x y ihx ihy =>
  intro σ k
  simp only [E5, Q7]
  rw [ihx]
  cases Q7 T K.dir (X1 Lo) fu nt of x σ with
  | none => rfl
  | some p =>
   obtain ⟨ex, σ1⟩ := p
   simp only [ob2]
   cases ex with
   | normal => exact ihy σ1 k
   | _ => rfl
 | cond q x y ihx ihy =>
  intro σ k
  simp only [E5, Q7]
  cases evO (H2 σ.sl) q with
  | b t => cases t
           ·exact ihy σ k
           ·exact ihx σ k
  | _ => rfl
 | block id body ih =>
  intro σ k
  simp only [E5, Q7]
  rw [ih]
  cases Q7 T K.dir (X1 Lo) fu nt of body σ with
  | none => rfl
  | some p =>
   obtain ⟨ex, σ1⟩ := p
   simp only [ob2]
   cases ex with
   | exit id' => simp only; cases Nat.beq id' id <;> rfl
   | _ => rfl
 | loop body ih =>
  intro σ k
  simp only [E5, Q7]
  cases hb : Lo body with
  | none =>
   simp only [X1, hb]
   exact B07 (fun σ k => ih σ k) fu σ k
  | some s =>
   simp only [X1, hb]
   exact hLo body s hb R of σ k
 | rangeFunc g ps asg body _ _ =>
  intro σ k
  simp only [E5, Q7]
  exact B4v hK
 | _ => intro σ k; rfl
def D9 (P : Program) (T : TT) (K : KC) (Lo : Nat → LC) (fl : Bool) (fu f : Nat) : E7 := fun R args of nx k =>
 match P.funcs[f]? with
 | some fn => match fn.body with
  | some code => bif !(fn.name == "runtime.NumGoroutine") && Nat.ble args.length fn.ntmps then
    E5 T K (Lo nx) fl fu fn.ntmps of R code ⟨A3o 0 args, .e, [], nx, some []⟩ fun ex σ => bif B4N ex then
     (match σ.mks with
     | some ms => bif A8x nx σ.nx σ.ob.get ms then
      (match A34 T (H2 σ.sl) (D7 σ.ob of) fn.results.toList with
      | some p => k (A4w ms (A3n nx p.1 σ p.2))
      | none => none) else none
     | none => none) else none
    else none
  | none => none
 | none => none
theorem A5N {P : Program} {K : KC} (hK : K.nat) {Lo : Nat → LC} (hL : ∀ n0, A1S (Lo n0)) {fl : Bool} {fu f : Nat} (R : Type) (args : List A) (of : Nat → Option Ob) (nx : Nat) (k : V9 → Option R) :
  D9 P T K Lo fl fu f R args of nx k = ob (A65 P T K.dir (fun n0 => X1 (Lo n0)) fu f args of nx) k := by
 unfold D9 A65
 cases hf : P.funcs[f]? with
 | none => rfl
 | some fn =>
  simp only
  cases hb : fn.body with
  | none => rfl
  | some code =>
   simp only [N4]
   cases (!(fn.name == "runtime.NumGoroutine") && Nat.ble args.length fn.ntmps)
   ·rfl
   ·simp only [cond_true]
    rw [A17 hK (hL nx) of R code]
    cases Q7 T K.dir (X1 (Lo nx)) fu fn.ntmps of code ⟨A3o 0 args, .e, [], nx, some []⟩ with
    | none => rfl
    | some p =>
     obtain ⟨ex, σ⟩ := p
     simp only [ob2, N4]
     cases B4N ex
     ·rfl
     ·simp only [cond_true]
      cases σ.mks with
      | none => rfl
      | some ms =>
       simp only [N4]
       cases A8x nx σ.nx σ.ob.get ms
       ·rfl
       ·simp only [cond_true]
        cases A34 T (H2 σ.sl) (D7 σ.ob of) fn.results.toList <;> rfl
theorem A3Y {P : Program} {K : KC} (hK : K.nat) {Lo : Nat → LC} (hL : ∀ n0, A1S (Lo n0)) {fl : Bool} {fu f : Nat} : (D9 P T K Lo fl fu f).nat := by
 intro R args of nx k
 rw [A5N hK hL]
 have : (D9 P T K Lo fl fu f).dir args of nx = A65 P T K.dir (fun n0 => X1 (Lo n0)) fu f args of nx := by
  show D9 P T K Lo fl fu f V9 args of nx some = _
  rw [A5N hK hL]
  cases A65 P T K.dir (fun n0 => X1 (Lo n0)) fu f args of nx <;> rfl
 rw [this]
theorem A5O {P : Program} (hm : P.follows .mixedOrders = true) (hT : K0 T P) {K : KC} (hK : K.nat) (hS : X2 P T K.dir) {Lo : Nat → LC} (hL : ∀ n0, A1S (Lo n0)) {fl : Bool} {fu f : Nat} (hO : ∀ n0 fn code, P.funcs[f]? = some fn → fn.body = some code → N2 P T fn.ntmps n0 (X1 (Lo n0)) code) : N3 P T f (D9 P T K Lo fl fu f).dir := by
 have : (D9 P T K Lo fl fu f).dir = A65 P T K.dir (fun n0 => X1 (Lo n0)) fu f := by
  funext args of nx
  show D9 P T K Lo fl fu f V9 args of nx some = _
  rw [A5N hK hL]
  cases A65 P T K.dir (fun n0 => X1 (Lo n0)) fu f args of nx <;> rfl
 rw [this]
 exact B2U hm hT hS hO
theorem A7v : X1 (fun _ => none) = fun _ => none := rfl
def A2S (T : TT) (K : KC) (fl : Bool) (fu id : Nat) : E7 := fun R args of nx k =>
 match lpE A2v (of id) with
 | some r => bif Nat.beq args.length r.ps.size && r.ps.toList.all (fun p => Nat.blt p r.nt) then
   E5 T K (fun _ => none) fl fu r.nt of R r.asg ⟨B1p r.ps.toList args r.sl, .e, [id], nx, none⟩ fun ex σ1 => match ex with
    | .normal => (match lpE A2v (D7 σ1.ob of id) with
     | some r1 => E5 T K (fun _ => none) fl fu r.nt of R r.body (setLp σ1 id { r1 with st := .busy }) fun ex2 σ2 => ob (C6Z id nx of (some (ex2, σ2))) k
     | none => none)
    | _ => none
   else none
 | none => none
theorem A7w {K : KC} (hK : K.nat) {fl : Bool} {fu id : Nat} (R : Type) (args : List A) (of : Nat → Option Ob) (nx : Nat) (k : V9 → Option R) : A2S T K fl fu id R args of nx k = ob (A2U T K.dir fu id args of nx) k := by
 unfold A2S A2U
 cases lpE A2v (of id) with
 | none => rfl
 | some r =>
  simp only [N4]
  cases (Nat.beq args.length r.ps.size && r.ps.toList.all (fun p => Nat.blt p r.nt))
  ·rfl
  ·simp only [cond_true]
   rw [A17 hK B2 of R r.asg, A7v]
   cases Q7 T K.dir (fun _ => none) fu r.nt of r.asg ⟨B1p r.ps.toList args r.sl, .e, [id], nx, none⟩ with
   | none => rfl
   | some p =>
    obtain ⟨ex, σ1⟩ := p
    simp only [ob2]
    cases ex with
    | normal =>
     simp only
     cases lpE A2v (D7 σ1.ob of id) with
     | none => rfl
     | some r1 =>
      simp only
      rw [A17 hK B2 of R r.body, A7v]
      cases Q7 T K.dir (fun _ => none) fu r.nt of r.body (setLp σ1 id { r1 with st := .busy }) with
      | none => rfl
      | some p2 => rfl
    | _ => rfl
theorem A5P {K : KC} (hK : K.nat) {fl : Bool} {fu id : Nat} : (A2S T K fl fu id).dir = A2U T K.dir fu id := by
 funext args of nx
 show A2S T K fl fu id V9 args of nx some = _
 rw [A7w hK]
 cases A2U T K.dir fu id args of nx <;> rfl
theorem B08 {K : KC} (hK : K.nat) {fl : Bool} {fu id : Nat} : (A2S T K fl fu id).nat := by
 intro R args of nx k
 rw [A5P hK, A7w hK]
variable {P : Program} {T : TT} {R : Type} {c : Q0} {e : B4} {of : Nat → Option Ob}
mutual
def A1l (T : TT) : Nat → Nat → Bool
 | 0, _ => false
 | d + 1, t => match D4 T t with
  | some (.int _) | some .bool | some .str => true
  | some (.arr _ el) => A1l T d el
  | some (.struct fs) => A9E T d fs
  | _ => false
def A9E (T : TT) : Nat → List Nat → Bool
 | 0, _ => false
 | _ + 1, [] => true
 | d + 1, t :: r => A1l T d t && A9E T d r
end
theorem RV.flat : ∀ (d : Nat) {e e' : B4}, (∀ {t : Nat} {xs : List V} {cs : List Value}, A1l T d t = true → ∀ n, RV T e (List.replicate n t) xs cs → RV T e' (List.replicate n t) xs cs) ∧
  (∀ {ts : List Nat} {xs : List V} {cs : List Value}, A9E T d ts = true → RV T e ts xs cs → RV T e' ts xs cs) := by
 intro d
 induction d with
 | zero => intro e e'; exact ⟨fun h => by simp [A1l] at h, fun h => by simp [A9E] at h⟩
 | succ d ih =>
  intro e e'
  have one : ∀ {t : Nat} {x : V} {cs : List Value}, A1l T (d + 1) t = true → RV T e [t] [x] cs → RV T e' [t] [x] cs := by
   intro t x cs hf h
   simp only [A1l] at hf
   cases h with
   | int h1 h2 hr g => cases g; exact .int h1 h2 hr .nil
   | bool h1 h2 g => cases g; exact .bool h1 h2 .nil
   | str h1 h2 g => cases g; exact .str h1 h2 .nil
   | ptr h1 => rw [h1] at hf; cases hf
   | nils h1 => rw [h1] at hf; cases hf
   | map h1 => rw [h1] at hf; cases hf
   | func h1 => rw [h1] at hf; cases hf
   | fn h1 => rw [h1] at hf; cases hf
   | slice h1 => rw [h1] at hf; cases hf
   | arr h1 h2 g1 g => rw [h1] at hf; cases g; exact .arr h1 h2 ((ih (e := e) (e' := e')).1 hf _ g1) .nil
   | struct h1 h2 g1 g => rw [h1] at hf; cases g; exact .struct h1 h2 ((ih (e := e) (e' := e')).2 hf g1) .nil
  refine ⟨fun {t xs cs} hf n => ?_, fun {ts xs cs} hf h => ?_⟩
  ·induction n generalizing xs cs with
   | zero => intro h; cases h; exact .nil
   | succ n ihn =>
    intro h
    rw [List.replicate_succ] at h ⊢
    cases xs with
    | nil => cases h
    | cons x xs =>
     obtain ⟨d1, r, rfl, g1, g2⟩ := h.cons_inv
     exact (one hf g1).append (ts := [t]) (xs := [x]) (ihn g2)
  ·cases ts with
   | nil => cases h; exact .nil
   | cons t ts =>
    simp only [A9E, D02] at hf
    cases xs with
    | nil => cases h
    | cons x xs =>
     obtain ⟨d1, r, rfl, g1, g2⟩ := h.cons_inv
     exact ((ih (e := e) (e' := e')).1 hf.1 1 g1).append (ts := [t]) (xs := [x]) ((ih (e := e) (e' := e')).2 hf.2 g2)
theorem B09 {t : Nat} {y : V} {v : Value} (ht : (T t).isSome = true) (h : RV T e [t] [y] v.cells.toList) (ha : Y7 T t v) : C7 T e (mkA T t y) v := by
 obtain ⟨te, hte⟩ := D06.1 ht
 exact A0D (a := .v t y) hte ⟨h, ha⟩ (M1 t y)
inductive RP (T : TT) (e : B4) : List Nat → List V → List Value → Prop
 | nil : RP T e [] [] []
 | cons {t ts x xs v vs} : RV T e [t] [x] v.cells.toList → Y7 T t v → RP T e ts xs vs → RP T e (t :: ts) (x :: xs) (v :: vs)
theorem RP.change {e e' : B4} (hf : ∀ a ds, Fz e a ds → Fz e' a ds) {ts : List Nat} {xs : List V} {vs : List Value} (h : RP T e ts xs vs) : RP T e' ts xs vs := by
 induction h with
 | nil => exact .nil
 | cons h1 h2 _ ih => exact .cons (h1.change hf) h2 ih
def A0G (T : TT) : (Nat → Option Ob) → List Nat → List A → Option (List V × List (Nat × Ob))
 | _, [], [] => some ([], [])
 | of, t :: ts, a :: as => match N5 T DEP of t a with
  | some (x, wo) => match A0G T (put of wo) ts as with
   | some (xs, wo') => some (x :: xs, wo ++ wo')
   | none => none
  | none => none
 | _, _, _ => none
theorem B1a : ∀ {ts : List Nat} {as : List A} {vals : List Value} {e : B4} {of of' : Nat → Option Ob} {xs : List V} {wo : List (Nat × Ob)}, A6 T c e of' → A0G T of ts as = some (xs, wo) → (∀ id ∈ V3 wo, of' id = of id) → T8 T e as vals → Shd T c e of' wo fun e' => RP T e' ts xs vals := by
 intro ts
 induction ts with
 | nil =>
  intro as vals e of of' xs wo h hv ho hr
  cases as with
  | nil =>
   simp only [A0G, D04, Prod.mk.injEq] at hv
   obtain ⟨rfl, rfl⟩ := hv
   cases hr
   exact ⟨e, rfl, h, B4.le.refl e, fun _ hu => hu, .nil⟩
  | cons a as => simp [A0G] at hv
 | cons t ts ih =>
  intro as vals e of of' xs wo h hv ho hr
  cases as with
  | nil => simp [A0G] at hv
  | cons a as =>
   simp only [A0G] at hv
   split at hv <;> try (cases hv; done)
   rename_i x1 w1 h1
   split at hv <;> try (cases hv; done)
   rename_i xs2 w2 h2
   injection hv with hv; injection hv with hv1 hv2
   subst hv1; subst hv2
   have ho1 : ∀ id ∈ V3 w1, of' id = of id := fun id A2 => ho id (by simp only [V3, List.map_append, D1c]; exact .inl A2)
   have h1' := (A0v DEP).1 of of' t a x1 w1 h1 ho1
   cases hr with
   | @cons _ v _ vs r1 r2 =>
   obtain ⟨e1, p1, p2, p3, p4, p5⟩ := A0E h h1' r1
   have ag := A4T h1' r1
   obtain ⟨e2, q1, q2, q3, q4, q5⟩ := ih p2 h2 (fun id A2 => A8b _ _ _ _ (ho id (by simp only [V3, List.map_append, D1c]; exact .inr A2))) (r2.mono p3)
   exact ⟨e2, q1.trans p1, by rw [H4]; exact q2, p3.trans q3, fun j hj => p4 j (q4 j hj), .cons (p5.mono q3) ag q5⟩
theorem B7v : ∀ {ts : List Nat} {as : List A} {of : Nat → Option Ob} {xs : List V} {wo : List (Nat × Ob)}, A0G T of ts as = some (xs, wo) → Z7 of wo := by
 intro ts
 induction ts with
 | nil =>
  intro as of xs wo h
  cases as with
  | nil => simp only [A0G, D04, Prod.mk.injEq] at h; rw [← h.2]; intro p hp; cases hp
  | cons a as => simp [A0G] at h
 | cons t ts ih =>
  intro as of xs wo h
  cases as with
  | nil => simp [A0G] at h
  | cons a as =>
   simp only [A0G] at h
   split at h <;> try (cases h; done)
   rename_i x1 w1 h1
   split at h <;> try (cases h; done)
   rename_i xs2 w2 h2
   injection h with h; injection h with _ hv2
   subst hv2
   exact A1A ((B6u DEP).1 _ _ _ _ _ h1) (ih h2)
def J1 (T : TT) : List Nat → List V → List A
 | t :: ts, x :: xs => mkA T t x :: J1 T ts xs
 | _, _ => []
theorem RP.reps {ts : List Nat} {xs : List V} {vs : List Value} (h : RP T e ts xs vs) (ht : ts.all (fun t => (T t).isSome) = true) : T8 T e (J1 T ts xs) vs := by
 induction h with
 | nil => exact .nil
 | cons h1 h2 _ ih =>
  simp only [List.all_cons, D02] at ht
  exact .cons (B09 ht.1 h1 h2) (ih ht.2)
inductive RK where
 | d (t : Nat)
 | r (el : Nat)
inductive Rs where
 | d (t : Nat) (y : V)
 | r (el : Nat) (xs : List V) (nl : Bool)
def C18 : A → List A
 | .t l => l
 | a => [a]
def dL (T : TT) (sh : Bool) : (Nat → Option Ob) → List A → List RK → Option (List V × List (Nat × Ob))
 | _, [], [] => some ([], [])
 | of, a :: l, .d t :: r => match N5 T DEP of t a with
  | some (y, wo) => bif (T t).isSome && (sh || A1l T 8 t) then (match dL T sh (put of wo) l r with
   | some (ys, wo') => some (y :: ys, wo ++ wo')
   | none => none) else none
  | none => none
 | of, _ :: l, .r _ :: r => match dL T sh of l r with
  | some (ys, wo) => some (.n :: ys, wo)
  | none => none
 | _, _, _ => none
def C19 (T : TT) (sh : Bool) (of : Nat → Option Ob) (el : Nat) (a : A) : Option (List V × Bool) :=
 match a with
 | .o id ver => match of id with
  | some (.row el' v xs nl false) => bif Nat.beq el el' && Nat.beq v ver && (sh || A1l T 8 el) then some (xs, nl) else none
  | _ => none
 | .z v => bif A5z v && Nat.blt 0 (B8 T el) then some ([], true) else none
 | _ => none
def rL (T : TT) (sh : Bool) (of : Nat → Option Ob) : List A → List V → List RK → Option (List Rs)
 | [], [], [] => some []
 | _ :: l, y :: ys, .d t :: r => match rL T sh of l ys r with
  | some rs => some (.d t y :: rs)
  | none => none
 | a :: l, _ :: ys, .r el :: r => match C19 T sh of el a with
  | some (xs, nl) => match rL T sh of l ys r with
   | some rs => some (.r el xs nl :: rs)
   | none => none
  | none => none
 | _, _, _ => none
def A4B : List RK → Nat
 | [] => 0
 | .d _ :: r => A4B r
 | .r _ :: r => A4B r + 1
def isT : A → Bool
 | .t _ => true
 | _ => false
def J8 (T : TT) (sh : Bool) (rk : List RK) (out : V9) : Option (List Rs) :=
 bif Nat.beq rk.length 1 == isT out.val then none else
 match dL T sh (put (fun _ => none) out.wo) (C18 out.val) rk with
 | some (ys, wo) => bif Nat.ble (A4B rk) 1 then rL T sh (put (put (fun _ => none) out.wo) wo) (C18 out.val) ys rk else none
 | none => none
def T9 (T : TT) : Nat → List Rs → List A × List (Nat × Ob) × Nat
 | nx, [] => ([], [], nx)
 | nx, .d t y :: r => let p := T9 T nx r
  (mkA T t y :: p.1, p.2.1, p.2.2)
 | nx, .r el xs nl :: r => let p := T9 T (nx + 1) r
  (.o nx 1 :: p.1, (nx, .row el 1 xs nl false) :: p.2.1, p.2.2)
def C2a : List A → A
 | [a] => a
 | l => .t l
abbrev FC := (R : Type) → List V → (List Rs → Option R) → Option R
def FC.nat (F : FC) : Prop := ∀ (R : Type) (xs : List V) (k : List Rs → Option R), F R xs k = ob (F (List Rs) xs some) k
def toC {R : Type} (T : TT) (of : Nat → Option Ob) (t : Nat) (a : A) (k : V × List (Nat × Ob) → Option R) : Option R :=
 match a with
 | .w id ver off n => (match D4 T t, of id with
  | some (.slice el), some (.row el' v xs nl _) => bif Nat.beq el el' && Nat.beq v ver && Nat.beq (B8 T t) 1 then bif Nat.ble (off + n) xs.length then k (.l ((xs.drop off).take n), [(id, .row el' v xs nl true)]) else none else none
  | _, _ => none)
 | a => ob (N5 T DEP of t a) k
theorem C6H {R : Type} (of : Nat → Option Ob) (t : Nat) (a : A) (k : V × List (Nat × Ob) → Option R) : toC T of t a k = ob (N5 T DEP of t a) k := by
 unfold toC
 cases a with
 | w id ver off n =>
  simp only [DEP, N5, A0l]
  cases D4 T t with
  | none => rfl
  | some kk => cases kk with
   | slice el => cases of id with
    | none => rfl
    | some o => cases o with
     | row el' v xs nl sh =>
      simp only
      cases (Nat.beq el el' && Nat.beq v ver && Nat.beq (B8 T t) 1) <;> cases Nat.ble (off + n) xs.length <;> rfl
     | _ => rfl
   | _ => rfl
 | _ => rfl
def B2M {R : Type} (T : TT) : (Nat → Option Ob) → List Nat → List A → (List V × List (Nat × Ob) → Option R) → Option R
 | _, [], [], k => k ([], [])
 | of, t :: ts, a :: as, k => toC T of t a fun p => B2M T (put of p.2) ts as fun q => k (p.1 :: q.1, p.2 ++ q.2)
 | _, _, _, _ => none
theorem A9F {R : Type} : ∀ (ts : List Nat) (of : Nat → Option Ob) (as : List A) (k : List V × List (Nat × Ob) → Option R), B2M T of ts as k = ob (A0G T of ts as) k := by
 intro ts
 induction ts with
 | nil => intro of as k; cases as <;> rfl
 | cons t ts ih =>
  intro of as k
  cases as with
  | nil => rfl
  | cons a as =>
   simp only [B2M, C6H, ih, A0G]
   cases N5 T DEP of t a with
   | none => rfl
   | some p =>
    simp only [ob]
    cases A0G T (put of p.2) ts as <;> rfl
def G1 (T : TT) (sh : Bool) (ts : List Nat) (F : FC) : E7 := fun R args of nx k =>
 B2M T of ts args fun p => F R p.1 fun rs => k ⟨C2a (T9 T nx rs).1, (bif sh then A1g of p.2 else []) ++ (T9 T nx rs).2.1, V3 p.2, (T9 T nx rs).2.2⟩
theorem A7x {sh : Bool} {ts : List Nat} {F : FC} (hF : F.nat) : (G1 T sh ts F).nat := by
 intro R args of nx k
 simp only [G1, E7.dir, A9F]
 cases A0G T of ts args with
 | none => rfl
 | some p =>
  simp only [ob]
  rw [hF R, hF V9]
  cases F (List Rs) p.1 some <;> rfl
variable {P : Program} {T : TT} {R : Type} {c : Q0} {e : B4} {of : Nat → Option Ob}
def B4.grown (e : B4) (w : World) (S2 : Nat → Nat → Prop) : B4 := { e with w := w, S := fun b i => e.S b i ∨ (e.w.heap.size ≤ b ∧ S2 b i) }
theorem A6.grown (h : A6 T c e of) {w' : World} {S2 : Nat → Nat → Prop} (hsz : e.w.heap.size ≤ w'.heap.size) (hb : ∀ b, b < e.w.heap.size → w'.heap[b]? = e.w.heap[b]?) (h1 : w'.os = e.w.os) (h2 : w'.tape = e.w.tape) (h3 : w'.output = e.w.output) (hS : ∀ b i, S2 b i → b < w'.heap.size) :
  A6 T c (e.grown w' S2) of ∧ e.le (e.grown w' S2) := by
 have hle : e.le (e.grown w' S2) := by
  refine ⟨fun b i hs => ⟨.inl hs, fun x hx => ?_⟩, fun _ h => h, fun id hu _ => ⟨rfl, rfl, fun b o hι => E1 (hb b (h.lt _ _ _ hu hι))⟩, fun _ _ h => h, fun _ _ => Nat.le_refl _, fun _ _ => rfl, hsz, fun b hb' => E1 (hb b hb')⟩
  show w'.cell? ⟨b, i, none⟩ = some x
  rw [G0 (hb b (h.slt _ _ hs))]; exact hx
 refine ⟨⟨fun id o ho => ?_, h.sep, h.own, fun id b o hu hι => Nat.lt_of_lt_of_le (h.lt id b o hu hι) hsz, fun b i hs => ?_, fun b i hs => .inl (h.s0 _ _ hs), fun b i hs => ?_, h1.trans h.os, h2.trans h.tape, h3.trans h.output, Nat.le_trans h.size hsz, fun k hk hm => ?_, h.g.mono (fun _ _ q => q) rfl (fun _ q => q) hsz (fun j b o hj hb => .inl ⟨j, o, hj, hb⟩)⟩, hle⟩
 ·exact (h.ok id o ho).keep hle rfl (fun b o' hι => hb b (h.lt _ _ _ (h.ok id o ho).use hι)) (fun b o' i hι hs => by
   rcases hs with hs | ⟨hs, _⟩
   ·exact hs
   ·exact absurd (h.lt _ _ _ (h.ok id o ho).use hι) (by omega)) (fun a o' b _ hG => ⟨hG, hb b (h.g.lt _ _ hG), fun i hs => by
   rcases hs with hs | ⟨hs, _⟩
   ·exact hs
   ·exact absurd (h.g.lt _ _ hG) (by omega)⟩)
 ·rcases hs with hs | ⟨_, hs⟩
  ·exact Nat.lt_of_lt_of_le (h.slt _ _ hs) hsz
  ·exact hS _ _ hs
 ·rcases hs with hs | ⟨hs, _⟩
  ·exact h.snew _ _ hs
  ·exact .inr (.inl (Nat.le_trans h.size hs))
 ·show w'.heap[k]? = _
  rw [hb k (Nat.lt_of_lt_of_le hk h.size)]; exact h.block k hk hm
def B4.adopt (e : B4) (id b o el n : Nat) : B4 := { e with ι := G6 e.ι id (some (b, o)), bn := G6 e.bn id 1, U := fun j => j = id ∨ e.U j, ty := G6 e.ty id el, ln := G6 e.ln id n }
theorem A6.adopt (h : A6 T c e of) {id b o el : Nat} {xs : List V} {cs : Array Value} {t : TypeId} {fz : Nat × Nat} {pre ys post : List Value} (hu : ¬ e.U id) (hz : 0 < B8 T el) (hb : e.w.heap[b]? = some (.cells cs t fz)) (hf : A05 e.w b cs) (hcs : cs.toList = pre ++ ys ++ post) (hp : pre.length = o) (hr : RV T e (List.replicate xs.length el) xs ys)
  (h1 : ∀ i, o + ys.length ≤ i → ¬ e.S b i) (h2 : ∀ i, o ≤ i → ¬ e.S b i) (hnew : c.w0.heap.size ≤ b) (hown : ∀ j b' o', (of j).isSome → e.ι j = some (b', o') → b' ≠ b) (hnG : ∀ a, ¬ e.G a b) :
  A6 T c (e.adopt id b o el xs.length) (G6 of id (some (.row el 1 xs false false))) ∧ e.le (e.adopt id b o el xs.length) := by
 have hne : ∀ j, e.U j → j ≠ id := fun j hj hq => hu (hq ▸ hj)
 have hblt : b < e.w.heap.size := (Array.getElem?_eq_some_iff.1 hb).1
 have hle : e.le (e.adopt id b o el xs.length) := by
  refine ⟨fun b i hs => ⟨hs, fun x hx => hx⟩, fun j hj => .inr hj, fun j hj _ => ⟨A3 _ _ (hne j hj), A3 _ _ (hne j hj), fun _ _ _ => rfl⟩, fun j hj h0 => ?_, fun j hj => ?_, fun j hj => A3 _ _ (hne j hj), Nat.le_refl _, fun _ _ => rfl⟩
  ·show G6 e.bn id 1 j = 0
   rw [A3 _ _ (hne j hj)]; exact h0
  ·show _ ≤ G6 e.bn id 1 j
   rw [A3 _ _ (hne j hj)]; exact Nat.le_refl _
 have hιid : (e.adopt id b o el xs.length).ι id = some (b, o) := upd_same _ _ _
 have hι : ∀ j, j ≠ id → (e.adopt id b o el xs.length).ι j = e.ι j := fun j hj => A3 _ _ hj
 refine ⟨⟨fun j ob hj => ?_, fun j k b1 q b2 q' hj hk hb1 hb2 hjk => ?_, fun j b1 q hj hb1 => ?_, fun j b1 q hj hb1 => ?_, h.slt, h.s0, h.snew, h.os, h.tape, h.output, h.size, h.block, ?_⟩, hle⟩
 ·by_cases hjid : j = id
  ·subst hjid
   rw [upd_same] at hj; cases hj
   refine ⟨.inl rfl, by omega, upd_same _ _ _, upd_same _ _ _, upd_same _ _ _, hz, .inr ⟨rfl, b, o, cs, t, fz, pre, ys, post, hιid, hb, hf, hcs, hp, hr.mono hle, h1, fun _ => h2⟩⟩
  ·rw [A3 _ _ hjid] at hj
   exact (h.ok j ob hj).keep hle (A3 _ _ hjid) (fun _ _ _ => rfl) (fun _ _ _ _ hs => hs) (fun a o' b _ hG => ⟨hG, rfl, fun i hs => hs⟩)
 ·by_cases h1' : j = id
  ·have h2' : k ≠ id := fun hq => hjk (h1'.trans hq.symm)
   subst h1'
   rw [hιid] at hb1; cases hb1
   rw [hι _ h2'] at hb2
   rw [A3 _ _ h2'] at hk
   exact fun hq => hown k b2 q' hk hb2 hq.symm
  ·rw [hι _ h1'] at hb1
   rw [A3 _ _ h1'] at hj
   by_cases h2' : k = id
   ·subst h2'
    rw [hιid] at hb2; cases hb2
    exact hown j b1 q hj hb1
   ·rw [hι _ h2'] at hb2
    rw [A3 _ _ h2'] at hk
    exact h.sep j k b1 q b2 q' hj hk hb1 hb2 hjk
 ·by_cases h1' : j = id
  ·subst h1'; rw [hιid] at hb1; cases hb1; exact .inl hnew
  ·rw [hι _ h1'] at hb1
   rw [A3 _ _ h1'] at hj
   exact h.own j b1 q hj hb1
 ·by_cases h1' : j = id
  ·subst h1'; rw [hιid] at hb1; cases hb1; exact hblt
  ·rw [hι _ h1'] at hb1
   rcases hj with hj | hj
   ·exact absurd hj h1'
   ·exact h.lt j b1 q hj hb1
 ·refine ⟨fun a b1 hG j b2 q hj hb2 => ?_, h.g.uniq, h.g.own, h.g.lt⟩
  by_cases h1' : j = id
  ·subst h1'; rw [hιid] at hb2; cases hb2; exact fun hq => hnG a (hq ▸ hG)
  ·rw [hι _ h1'] at hb2
   rw [A3 _ _ h1'] at hj
   exact h.g.sep a b1 hG j b2 q hj hb2
inductive RR (T : TT) (sh : Bool) (e : B4) (B : Nat) : List RK → List Rs → List Value → Prop
 | nil : RR T sh e B [] [] []
 | d {t y v rk rs vs} : (T t).isSome = true → (sh || A1l T 8 t) = true → RV T e [t] [y] v.cells.toList → Y7 T t v → RR T sh e B rk rs vs → RR T sh e B (.d t :: rk) (.d t y :: rs) (v :: vs)
 | n {el rk rs vs} : 0 < B8 T el → RR T sh e B rk rs vs → RR T sh e B (.r el :: rk) (.r el [] true :: rs) (.slice none 0 0 :: vs)
 | r {el xs b o cs t fz pre ys post k cap rk rs vs} : 0 < B8 T el → (sh || A1l T 8 el) = true → B ≤ b → e.w.heap[b]? = some (.cells cs t fz) → A05 e.w b cs → cs.toList = pre ++ ys ++ post → pre.length = o → RV T e (List.replicate xs.length el) xs ys →
   (∀ i, o + ys.length ≤ i → ¬ e.S b i) → (∀ i, o ≤ i → ¬ e.S b i) → xs.length ≤ cap → o + cap * B8 T el = cs.size → (0 < cap → k = o) → RR T sh e B rk rs vs → RR T sh e B (.r el :: rk) (.r el xs false :: rs) (.slice (some ⟨b, k, none⟩) xs.length cap :: vs)
theorem C2b {sh : Bool} : ∀ {rk : List RK} {l : List A} {vs : List Value} {e : B4} {of : Nat → Option Ob} {ys : List V} {wo : List (Nat × Ob)}, A6 T c e of → dL T sh of l rk = some (ys, wo) → T8 T e l vs →
  ∃ e' : B4, e'.w = e.w ∧ A6 T c e' (put of wo) ∧ e.le e' ∧ (∀ j, e'.U j → e.U j) ∧ T8 T e' l vs ∧
   ∀ rs, rL T sh (put of wo) l ys rk = some rs → ∀ B, (∀ id el v xs nl sh' b o, put of wo id = some (.row el v xs nl sh') → e'.ι id = some (b, o) → B ≤ b) → RR T sh e' B rk rs vs := by
 intro rk
 induction rk with
 | nil =>
  intro l vs e of ys wo h hd hr
  cases l with
  | nil =>
   simp only [dL, D04, Prod.mk.injEq] at hd
   obtain ⟨rfl, rfl⟩ := hd
   refine ⟨e, rfl, h, B4.le.refl e, fun _ hu => hu, hr, fun rs hrs B _ => ?_⟩
   simp only [rL, D04] at hrs
   subst hrs
   cases hr; exact .nil
  | cons a l => simp [dL] at hd
 | cons k rk ih =>
  intro l vs e of ys wo h hd hr
  cases l with
  | nil => cases k <;> simp [dL] at hd
  | cons a l =>
   cases k with
   | d t =>
    simp only [dL] at hd
    split at hd <;> try (cases hd; done)
    rename_i y w1 h1
    cases hc : ((T t).isSome && (sh || A1l T 8 t)) with
    | false => rw [hc] at hd; cases hd
    | true =>
     rw [hc] at hd
     simp only [cond_true] at hd
     split at hd <;> try (cases hd; done)
     rename_i ys2 w2 h2
     simp only [D04, Prod.mk.injEq] at hd
     obtain ⟨rfl, rfl⟩ := hd
     simp only [D02] at hc
     cases hr with
     | @cons _ v _ vs r1 r2 =>
     obtain ⟨e1, p1, p2, p3, p4, p5⟩ := A0E h h1 r1
     have ag := A4T h1 r1
     obtain ⟨e2, q1, q2, q3, q4, q6, q5⟩ := ih p2 h2 (r2.mono p3)
     refine ⟨e2, q1.trans p1, by rw [H4]; exact q2, p3.trans q3, fun j hj => p4 j (q4 j hj), .cons ((r1.mono p3).mono q3) q6, fun rs hrs B hB => ?_⟩
     simp only [rL] at hrs
     split at hrs <;> try (cases hrs; done)
     rename_i rs2 hrs2
     simp only [D04] at hrs
     subst hrs
     rw [H4] at hrs2 hB
     exact .d hc.1 hc.2 (p5.mono q3) ag (q5 _ hrs2 B hB)
   | r el =>
    simp only [dL] at hd
    split at hd <;> try (cases hd; done)
    rename_i ys2 w2 h2
    simp only [D04, Prod.mk.injEq] at hd
    obtain ⟨rfl, rfl⟩ := hd
    cases hr with
    | @cons _ v _ vs r1 r2 =>
    obtain ⟨e2, q1, q2, q3, q4, q6, q5⟩ := ih h h2 r2
    refine ⟨e2, q1, q2, q3, q4, .cons (r1.mono q3) q6, fun rs hrs B hB => ?_⟩
    simp only [rL] at hrs
    split at hrs <;> try (cases hrs; done)
    rename_i xs nl hn
    split at hrs <;> try (cases hrs; done)
    rename_i rs2 hrs2
    simp only [D04] at hrs
    subst hrs
    have rest := q5 _ hrs2 B hB
    have r1' := r1.mono q3
    cases a with
    | o id ver =>
     simp only [C19] at hn
     split at hn <;> try (cases hn; done)
     rename_i el' v' xs' nl' hof
     cases hc : (Nat.beq el el' && Nat.beq v' ver && (sh || A1l T 8 el)) with
     | false => rw [hc] at hn; cases hn
     | true =>
      rw [hc] at hn
      simp only [cond_true, D04, Prod.mk.injEq] at hn
      obtain ⟨rfl, rfl⟩ := hn
      simp only [D02] at hc
      obtain ⟨⟨c1, c2⟩, c3⟩ := hc
      have := D01 c1; subst this
      have := D01 c2; subst this
      obtain ⟨g1, g2, g3, g4, g4', g5, g6⟩ := q2.ok _ _ hof
      rcases M5 r1' g3 with ⟨k1, k2, rfl⟩ | ⟨b, o, cap, k, k1, k2, k3, k4, rfl⟩
      ·rcases g6 with ⟨rfl, _, rfl⟩ | ⟨_, b, o, cs, t, fz, pre, ys, post, m1, _⟩
       ·exact .n g5 rest
       ·rw [k1] at m1; cases m1
      ·rcases g6 with ⟨_, m1, _⟩ | ⟨rfl, b', o', cs, t, fz, pre, ys, post, m1, m2, m3, m4, m5, m6, m7, m8⟩
       ·rw [k1] at m1; cases m1
       ·rw [k1] at m1; cases m1
        rw [g4'] at k2 ⊢
        rw [g4] at k3
        rw [S4 m2] at k3
        exact .r g5 c3 (hB _ _ _ _ _ _ _ _ hof k1) m2 m3 m4 m5 m6 m7 (m8 rfl) k2 k3 k4 rest
    | z v0 =>
     simp only [C19] at hn
     cases hc : (A5z v0 && Nat.blt 0 (B8 T el)) with
     | false => rw [hc] at hn; cases hn
     | true =>
      rw [hc] at hn
      simp only [cond_true, D04, Prod.mk.injEq] at hn
      obtain ⟨rfl, rfl⟩ := hn
      simp only [D02] at hc
      have hx : RA T e2 [.z v0] [v] := r1'
      have hv : v = .slice none 0 0 := by
       cases hx with
       | z _ _ => exact A1y hc.1
       | r g1 _ _ => exact g1.elim
      subst hv
      exact .n (by simpa [Nat.blt_eq] using hc.2) rest
    | _ => simp [C19] at hn
theorem RR.flat {sh : Bool} {B : Nat} {e e' : B4} (hw : e'.w = e.w) (hf : sh = true → ∀ a ds, Fz e a ds → Fz e' a ds) (hS : ∀ b i, B ≤ b → e'.S b i → e.S b i) : ∀ {rk : List RK} {rs : List Rs} {vs : List Value}, RR T sh e B rk rs vs → RR T sh e' B rk rs vs := by
 intro rk rs vs h
 have one : ∀ {t : Nat} {ts : List Nat} (n : Nat) {xs : List V} {cs : List Value}, (sh || A1l T 8 t) = true → ts = List.replicate n t → RV T e ts xs cs → RV T e' ts xs cs := fun {t ts} n {xs cs} hc hts g => by
  cases hsh : sh with
  | true => exact g.change (hf hsh)
  | false =>
   rw [hsh, Bool.false_or] at hc
   subst hts
   exact (RV.flat 8 (e := e) (e' := e')).1 hc n g
 induction h with
 | nil => exact .nil
 | d h1 h2 h3 h4 _ ih => exact .d h1 h2 (one 1 h2 rfl h3) h4 ih
 | n h1 _ ih => exact .n h1 ih
 | r h1 h2 h3 h4 h5 h6 h7 h8 h9 h10 h11 h12 h13 _ ih =>
  exact .r h1 h2 h3 (by rw [hw]; exact h4) (by rw [hw]; exact h5) h6 h7 (one _ h2 rfl h8) (fun i hi hs => h9 i hi (hS _ _ h3 hs)) (fun i hi hs => h10 i hi (hS _ _ h3 hs)) h11 h12 h13 ih
theorem RR.data {sh : Bool} {B nx : Nat} : ∀ {rk : List RK} {rs : List Rs} {vs : List Value}, RR T sh e B rk rs vs → A4B rk = 0 → (T9 T nx rs).2 = ([], nx) ∧ T8 T e (T9 T nx rs).1 vs := by
 intro rk rs vs h
 induction h with
 | nil => intro _; exact ⟨rfl, .nil⟩
 | d h1 h2 h3 h4 _ ih =>
  intro hc
  obtain ⟨p, q⟩ := ih hc
  refine ⟨?_, .cons (B09 h1 h3 h4) q⟩
  simp only [T9]
  exact Prod.ext (congrArg Prod.fst p) (congrArg Prod.snd p)
 | n _ _ _ => intro hc; simp [A4B] at hc
 | r _ _ _ _ _ _ _ _ _ _ _ _ _ _ _ => intro hc; simp [A4B] at hc
theorem RR.take {sh : Bool} {B nx : Nat} : ∀ {rk : List RK} {rs : List Rs} {vs : List Value} {e : B4} {of : Nat → Option Ob}, A6 T c e of → RR T sh e B rk rs vs → A4B rk ≤ 1 → (∀ id, nx ≤ id → id < (T9 T nx rs).2.2 → ¬ e.U id) → c.w0.heap.size ≤ B → (∀ j b o, (of j).isSome → e.ι j = some (b, o) → b < B) → (∀ a b, e.G a b → b < B) →
  nx ≤ (T9 T nx rs).2.2 ∧ ∃ e' : B4, e'.w = e.w ∧ A6 T c e' (put of (T9 T nx rs).2.1) ∧ e.le e' ∧ (∀ id, e'.U id → e.U id ∨ (nx ≤ id ∧ id < (T9 T nx rs).2.2)) ∧ T8 T e' (T9 T nx rs).1 vs := by
 intro rk rs vs e of hos h
 induction h with
 | nil => intro _ _ _ _ _; exact ⟨Nat.le_refl _, e, rfl, hos, B4.le.refl e, fun _ hu => .inl hu, .nil⟩
 | d h1 h2 h3 h4 hr ih =>
  intro hc hu hB hb hGB
  obtain ⟨g0, e', g1, g2, g3, g4, g5⟩ := ih hc hu hB hb hGB
  exact ⟨g0, e', g1, g2, g3, g4, .cons (B09 h1 (h3.mono g3) h4) g5⟩
 | @n el rk rs vs hz hr ih =>
  intro hc hu hB hb hGB
  have hc0 : A4B rk = 0 := by simp only [A4B] at hc; omega
  obtain ⟨p, q⟩ := hr.data (nx := nx + 1) hc0
  have e1 : (T9 T nx (.r el [] true :: rs)).2.2 = nx + 1 := by simp only [T9]; rw [p]
  have e2 : (T9 T nx (.r el [] true :: rs)).2.1 = [(nx, .row el 1 [] true false)] := by simp only [T9]; rw [p]
  have hun : ¬ e.U nx := hu nx (Nat.le_refl _) (by rw [e1]; omega)
  have hle := hos.le_nil (el := el) hun
  refine ⟨by rw [e1]; omega, e.nil nx el, rfl, by rw [e2]; exact hos.nil hun rfl hz, hle, fun id A2 => ?_, ?_⟩
  ·rcases A2 with rfl | A2
   ·exact .inr ⟨Nat.le_refl _, by rw [e1]; omega⟩
   ·exact .inl A2
  ·simp only [T9]
   exact .cons (A2m (.inl rfl) (upd_same _ _ _) (by omega) (upd_same _ _ _) (upd_same _ _ _)) (q.mono hle)
 | @r el xs b o cs t fz pre ys post k cap rk rs vs hz hfl hb1 h4 h5 h6 h7 h8 h9 h10 h11 h12 h13 hr ih =>
  intro hc hu hB hb hGB
  have hc0 : A4B rk = 0 := by simp only [A4B] at hc; omega
  obtain ⟨p, q⟩ := hr.data (nx := nx + 1) hc0
  have e1 : (T9 T nx (.r el xs false :: rs)).2.2 = nx + 1 := by simp only [T9]; rw [p]
  have e2 : (T9 T nx (.r el xs false :: rs)).2.1 = [(nx, .row el 1 xs false false)] := by simp only [T9]; rw [p]
  have hun : ¬ e.U nx := hu nx (Nat.le_refl _) (by rw [e1]; omega)
  obtain ⟨g1, hle⟩ := hos.adopt (id := nx) hun hz h4 h5 h6 h7 h8 h9 h10 (Nat.le_trans hB hb1) (fun j b' o' hj hι hq => by have := hb j b' o' hj hι; omega) (fun a hG => by have := hGB a b hG; omega)
  refine ⟨by rw [e1]; omega, e.adopt nx b o el xs.length, rfl, by rw [e2]; exact g1, hle, fun id A2 => ?_, ?_⟩
  ·rcases A2 with rfl | A2
   ·exact .inr ⟨Nat.le_refl _, by rw [e1]; omega⟩
   ·exact .inl A2
  ·simp only [T9]
   refine .cons ?_ (q.mono hle)
   have ln : (e.adopt nx b o el xs.length).ln nx = xs.length := upd_same _ _ _
   have := A0F (T := T) (e := e.adopt nx b o el xs.length) (id := nx) (ver := 1) (b := b) (o := o) (cap := cap) (.inl rfl) (upd_same _ _ _) (by omega) (upd_same _ _ _) (by rw [ln]; exact h11) (by
    rw [show (e.adopt nx b o el xs.length).ty nx = el from upd_same _ _ _, S4 (show (e.adopt nx b o el xs.length).w.heap[b]? = _ from h4)]; exact h12) (k := k) h13
   rw [ln] at this
   exact this
variable {P : Program} {T : TT} {R : Type} {c : Q0} {e : B4} {of : Nat → Option Ob}
def TV (T : TT) (ts : List Nat) (xs : List V) : Prop := ∃ e vs, RP T e ts xs vs
theorem A3g {α β : Type} {o : Option α} {k : α → Option β} {b : β} (h : ob o k = some b) : ∃ a, o = some a ∧ k a = some b := by
 cases o with
 | none => cases h
 | some a => exact ⟨a, rfl, h⟩
theorem B7w {nx : Nat} : ∀ {rs : List Rs} {nx : Nat}, ∀ a ∈ (T9 T nx rs).1, ∀ l, a ≠ .t l := by
 intro rs
 induction rs with
 | nil => intro nx a ha; simp [T9] at ha
 | cons r rs ih =>
  intro nx a ha
  cases r with
  | d t y =>
   simp only [T9, List.mem_cons] at ha
   rcases ha with rfl | ha
   ·exact A2w _ _
   ·exact ih a ha
  | r el xs nl =>
   simp only [T9, List.mem_cons] at ha
   rcases ha with rfl | ha
   ·intro l h; cases h
   ·exact ih a ha
theorem B7x {nx : Nat} {rs : List Rs} : (T9 T nx rs).1.length = rs.length := by
 induction rs generalizing nx with
 | nil => rfl
 | cons r rs ih => cases r <;> simp [T9, ih]
theorem C6I {sh : Bool} {of : Nat → Option Ob} : ∀ {rk : List RK} {l : List A} {ys : List V} {rs : List Rs}, rL T sh of l ys rk = some rs → rs.length = rk.length := by
 intro rk
 induction rk with
 | nil => intro l ys rs h; cases l <;> cases ys <;> simp [rL] at h; subst h; rfl
 | cons k rk ih =>
  intro l ys rs h
  cases l with
  | nil => cases k <;> simp [rL] at h
  | cons a l => cases ys with
   | nil => cases k <;> simp [rL] at h
   | cons y ys =>
    cases k with
    | d t =>
     simp only [rL] at h
     split at h <;> try (cases h; done)
     rename_i rs' h'
     simp only [D04] at h; subst h
     simp [ih h']
    | r el =>
     simp only [rL] at h
     split at h <;> try (cases h; done)
     split at h <;> try (cases h; done)
     rename_i rs' h'
     simp only [D04] at h; subst h
     simp [ih h']
theorem B1b : ∀ {l : List A} {xs : List Value}, xs.length = l.length → (∀ (i : Nat) v x, l[i]? = some v → xs[i]? = some x → H6 T e v x) → T8 T e l xs := by
 intro l
 induction l with
 | nil => intro xs h _; cases xs with
  | nil => exact .nil
  | cons _ _ => simp at h
 | cons a l ih =>
  intro xs h hr
  cases xs with
  | nil => simp at h
  | cons x xs =>
   refine .cons ?_ (ih (by simpa using h) (fun i v x hv hx => hr (i + 1) v x (by simpa using hv) (by simpa using hx)))
   have := hr 0 a x rfl rfl
   cases a with
   | t l => exact this.elim
   | _ => exact this
theorem B1c {l : List A} {xs : List Value} (h : T8 T e l xs) (hn : ∀ a ∈ l, ∀ m, a ≠ .t m) : C7 T e (.t l) (.tuple xs.toArray) := by
 obtain ⟨h1, h2⟩ := h.get
 refine ⟨xs.toArray, rfl, by simpa using h1, fun i v x hv hx => ?_⟩
 exact A4R (h2 i v x hv (by simpa using hx)) (hn v (List.mem_of_getElem? hv))
theorem B2N {f : FuncId} {s : E7} (hn : s.nat) (hs : N3 P T f s.dir) {sh : Bool} {ts : List Nat} {rk : List RK} {F : FC} (hFn : F.nat) (hts : ts.all (fun t => (T t).isSome) = true)
  (hF : ∀ xs rs, TV T ts xs → F (List Rs) xs some = some rs → s (List Rs) (J1 T ts xs) (fun _ => none) 0 (fun out => J8 T sh rk out) = some rs) : N3 P T f (G1 T sh ts F).dir := by
 intro c e of of' args vals nx out hos hrun hro hu hvals
 unfold E7.dir G1 at hrun
 rw [A9F] at hrun
 obtain ⟨⟨xs, wo⟩, hargs, hrun⟩ := A3g hrun
 simp only at hrun
 rw [hFn V9] at hrun
 obtain ⟨rs, hrs, hout⟩ := A3g hrun
 injection hout with hout
 subst hout
 obtain ⟨eS, s1, s2, s3, s4, s5⟩ := B1a hos hargs hro hvals
 have hrun0 := hF xs rs ⟨_, _, s5⟩ hrs
 rw [hn] at hrun0
 obtain ⟨out0, hout0, hres⟩ := A3g hrun0
 let e0 : B4 := { w := e.w, ι := fun _ => none, S := eS.S, bn := fun _ => 0, U := fun _ => False, ty := fun _ => 0, ln := fun _ => 0, G := fun _ _ => False }
 let c0 : Q0 := { w0 := e.w, M := fun _ => False, S0 := eS.S }
 have hos0 : A6 T c0 e0 (fun _ => none) := ⟨fun _ _ h => (by cases h), fun _ _ _ _ _ _ h => (by cases h), fun _ _ _ h => (by cases h), fun _ _ _ h => False.elim h, fun b i h => by have := s2.slt b i h; rwa [s1] at this, fun _ _ h => h, fun _ _ h => .inl h, rfl, rfl, rfl, Nat.le_refl _, fun _ _ _ => rfl, ⟨fun _ _ h => h.elim, fun _ _ _ h => h.elim, fun _ _ h => h.elim, fun _ _ h => h.elim⟩⟩
 have hreps0 : T8 T e0 (J1 T ts xs) vals.toList := (s5.change (e' := e0) (fun a ds q => ⟨q.1, fun j y hj => by
  obtain ⟨p1, p2⟩ := q.2 j y hj
  rw [s1] at p1
  exact ⟨p1, p2⟩⟩)).reps hts
 refine F9 (hs c0 e0 (fun _ => none) (fun _ => none) _ vals 0 out0 hos0 hout0 (fun _ _ => rfl) (fun _ _ _ h => h) hreps0) ?_
 rintro x w' ⟨e1, rfl, k1, k2, k3, k4⟩
 obtain ⟨vs, hvs, hx⟩ : ∃ vs, T8 T e1 (C18 out0.val) vs ∧ ((isT out0.val = true ∧ x = .tuple vs.toArray) ∨ (isT out0.val = false ∧ vs = [x])) := by
  cases hv : out0.val with
  | t l =>
   rw [hv] at k4
   obtain ⟨X, rfl, h2, h3⟩ := k4
   exact ⟨X.toList, B1b (by simpa [C18] using h2) (fun i v x a b => h3 i v x a (by simpa using b)), .inl ⟨rfl, by simp⟩⟩
  | _ => rw [hv] at k4; exact ⟨[x], .cons k4 .nil, .inr ⟨rfl, rfl⟩⟩
 unfold J8 at hres
 cases hsh1 : (Nat.beq rk.length 1 == isT out0.val) with
 | true => rw [hsh1] at hres; cases hres
 | false =>
 rw [hsh1] at hres
 simp only [cond_false] at hres
 split at hres <;> try (cases hres; done)
 rename_i ys w2 hdl
 cases hcnt : Nat.ble (A4B rk) 1 with
 | false => rw [hcnt] at hres; cases hres
 | true =>
 rw [hcnt] at hres
 simp only [cond_true] at hres
 obtain ⟨e2, q1, q2, q3, q4, q6, q5⟩ := C2b k1 hdl hvs
 have hRR := q5 rs hres e.w.heap.size (fun id el v xs nl sh' b o A2 hι => by
  rcases q2.own id b o (by rw [A2]; rfl) hι with h | h
  ·exact h
  ·exact h.elim)
 obtain ⟨eK, ofK, t1, t2, t3, t4, t5, t6⟩ : ∃ (eK : B4) (ofK : Nat → Option Ob), eK.w = e.w ∧ A6 T c eK ofK ∧ e.le eK ∧ (∀ j, eK.U j → e.U j) ∧ (sh = true → ∀ b i, eS.S b i → eK.S b i) ∧ put of' (bif sh then A1g of wo else []) = ofK := by
  cases sh with
  | true =>
   refine ⟨eS, put of' wo, s1, s2, s3, s4, fun _ _ _ h => h, ?_⟩
   have hall : Z7 of' wo := fun p hp => by
    rw [hro p.1 (List.mem_map.2 ⟨p, hp, rfl⟩)]; exact B7v hargs p hp
   show put of' (A1g of wo) = _
   rw [A5E hro, A9p hall]
  | false => exact ⟨e, of', rfl, hos, B4.le.refl e, fun _ h => h, fun h => (by cases h), rfl⟩
 have hsz : eK.w.heap.size = e.w.heap.size := by rw [t1]
 obtain ⟨g1, g2⟩ := t2.grown (w' := e2.w) (S2 := e2.S) (by rw [hsz]; exact q2.size) (fun b hb => by rw [t1]; exact q2.block b (by rw [← hsz]; exact hb) (fun h => h)) (by rw [t1]; exact q2.os) (by rw [t1]; exact q2.tape) (by rw [t1]; exact q2.output) (fun b i h => q2.slt b i h)
 have hRA : RR T sh (eK.grown e2.w e2.S) e.w.heap.size rk rs vs := RR.flat (e := e2) (e' := eK.grown e2.w e2.S) rfl (fun hsh a ds q => ⟨q.1, fun j y hj => by
   obtain ⟨p1, p2⟩ := q.2 j y hj
   refine ⟨p1, ?_⟩
   rcases q2.snew _ _ p2 with h | h | h
   ·exact .inl (t5 hsh _ _ h)
   ·exact .inr ⟨by rw [hsz]; exact h, p2⟩
   ·exact h.elim⟩) (fun b i hB hS => by
   rcases hS with h | h
   ·have := t2.slt b i h; omega
   ·exact h.2) hRR
 obtain ⟨u0, e', u1, u2, u3, u4, u5⟩ := RR.take (nx := nx) g1 hRA (D07 hcnt) (fun id h1 h2 hU => hu id h1 h2 (t4 id hU)) hos.size (fun j b o hj hι => by
  have := t2.lt j b o (t2.ok j _ (Option.some_get hj).symm).use hι
  rwa [hsz] at this) (fun a b hG => by
  have := t2.g.lt a b hG
  rwa [hsz] at this)
 refine ⟨e', u1.trans q1, ?_, t3.trans (g2.trans u3), fun id A2 => (u4 id A2).imp (t4 id) (fun h => h), ?_⟩
 ·show A6 T c e' (put of' ((bif sh then A1g of wo else []) ++ (T9 T nx rs).2.1))
  rw [H4, t6]; exact u2
 ·show C7 T e' (C2a (T9 T nx rs).1) x
  have hlen : (T9 T nx rs).1.length = rk.length := by rw [B7x, C6I hres]
  rcases hx with ⟨ht, rfl⟩ | ⟨ht, rfl⟩
  ·have hne : (T9 T nx rs).1.length ≠ 1 := by
    rw [hlen]; intro h; rw [h, ht] at hsh1; cases hsh1
   have : C2a (T9 T nx rs).1 = .t (T9 T nx rs).1 := by
    unfold C2a
    split
    ·rename_i a h; rw [h] at hne; exact absurd rfl hne
    ·rfl
   rw [this]
   exact B1c u5 (B7w (nx := nx))
  ·have h1 := u5.get.1
   obtain ⟨a, ha⟩ : ∃ a, (T9 T nx rs).1 = [a] := List.length_eq_one_iff.1 (by simpa using h1.symm)
   rw [ha] at u5 ⊢
   cases u5 with
   | cons h _ => exact h
variable {P : Program} {T : TT} {R : Type}
def noC : E7 := fun _ _ _ _ _ => none
theorem B2O : noC.nat := fun _ _ _ _ _ => rfl
theorem C6J {f : FuncId} : N3 P T f noC.dir := fun c e of of' args vals nx out _ h => by cases h
def A2H : List (Nat × E7) → Nat → Option E7
 | [], _ => none
 | (k, s) :: r, f => bif Nat.beq k f then some s else A2H r f
def D6 (P : Program) (T : TT) (tab : List (Nat × E7)) : Prop := ∀ f s, (f, s) ∈ tab → s.nat ∧ N3 P T f s.dir
theorem B4w : D6 P T [] := fun f s h => by cases h
theorem D6.cons {tab : List (Nat × E7)} (h : D6 P T tab) {f : Nat} {s : E7} (hn : s.nat) (hs : N3 P T f s.dir) : D6 P T ((f, s) :: tab) := by
 intro g s' hg
 rcases List.mem_cons.1 hg with hq | hg
 ·cases hq; exact ⟨hn, hs⟩
 ·exact h g s' hg
theorem A1m : ∀ {tab : List (Nat × E7)} {f : Nat} {s : E7}, A2H tab f = some s → (f, s) ∈ tab := by
 intro tab
 induction tab with
 | nil => intro f s h; cases h
 | cons p r ih =>
  intro f s h
  obtain ⟨k, s'⟩ := p
  simp only [A2H] at h
  cases hk : Nat.beq k f with
  | true =>
   rw [hk] at h; simp only [cond_true, D04] at h
   have := D01 hk; subst this; subst h
   exact List.mem_cons_self ..
  | false => rw [hk] at h; exact List.mem_cons_of_mem _ (ih h)
def F5 (P : Program) (T : TT) (tab : List (Nat × E7)) (fl : Bool) (fu : Nat) : Nat → KC
 | 0 => ⟨fun f => match A2H tab f with
  | some s => s
  | none => noC, fun _ => noC, fun _ => false⟩
 | d + 1 => ⟨fun f => match A2H tab f with
  | some s => s
  | none => D9 P T (F5 P T tab fl fu d) (fun _ _ => none) fl fu f, fun id => A2S T (F5 P T tab fl fu d) fl fu id, A8y P⟩
theorem A9 {tab : List (Nat × E7)} (h : D6 P T tab) {fl : Bool} {fu : Nat} : ∀ d, (F5 P T tab fl fu d).nat := by
 intro d
 induction d with
 | zero =>
  refine ⟨fun f => ?_, fun _ => B2O⟩
  show (match A2H tab f with
   | some s => s
   | none => noC).nat
  split
  ·rename_i s hs; exact (h f s (A1m hs)).1
  ·exact B2O
 | succ d ih =>
  refine ⟨fun f => ?_, fun id => B08 ih⟩
  show (match A2H tab f with
   | some s => s
   | none => D9 P T (F5 P T tab fl fu d) (fun _ _ => none) fl fu f).nat
  split
  ·rename_i s hs; exact (h f s (A1m hs)).1
  ·exact A3Y ih (fun _ => B2)
theorem B6 (hm : P.follows .mixedOrders = true) (hT : K0 T P) {tab : List (Nat × E7)} (h : D6 P T tab) {fl : Bool} {fu : Nat} : ∀ d, X2 P T (F5 P T tab fl fu d).dir := by
 intro d
 induction d with
 | zero =>
  refine ⟨fun f => ?_, fun id c e of of' args vals nx out b _ hr => (by cases hr), fun f h => (by cases h)⟩
  show N3 P T f (match A2H tab f with
   | some s => s
   | none => noC).dir
  split
  ·rename_i s hs; exact (h f s (A1m hs)).2
  ·exact C6J
 | succ d ih =>
  refine ⟨fun f => ?_, fun id => ?_, fun f h => A7H h⟩
  ·show N3 P T f (match A2H tab f with
    | some s => s
    | none => D9 P T (F5 P T tab fl fu d) (fun _ _ => none) fl fu f).dir
   split
   ·rename_i s hs; exact (h f s (A1m hs)).2
   ·exact A5O hm hT (A9 h d) ih (fun _ => B2) (fun n0 fn code _ _ => A7 code)
  ·show YOK P T id (A2S T (F5 P T tab fl fu d) fl fu id).dir
   rw [A5P (A9 h d)]
   exact A7G hm hT ih
structure G7 (P : Program) (T : TT) (f : Nat) (Lo : Nat → LC) : Prop where
 nat : ∀ n0, A1S (Lo n0)
 ok : ∀ n0 fn code, P.funcs[f]? = some fn → fn.body = some code → N2 P T fn.ntmps n0 (X1 (Lo n0)) code
theorem H0 {f : Nat} : G7 P T f (fun _ _ => none) := ⟨fun _ => B2, fun n0 fn code _ _ => A7 code⟩
theorem A9G (hm : P.follows .mixedOrders = true) (hT : K0 T P) {tab : List (Nat × E7)} (h : D6 P T tab) {f d fu : Nat} {Lo : Nat → LC} {sh : Bool} {ts : List Nat} {rk : List RK} {F : FC} (hFn : F.nat) (hts : ts.all (fun t => (T t).isSome) = true)
  (hL : G7 P T f Lo)
  (hF : ∀ xs rs, TV T ts xs → F (List Rs) xs some = some rs → D9 P T (F5 P T tab false fu d) Lo false fu f (List Rs) (J1 T ts xs) (fun _ => none) 0 (fun out => J8 T sh rk out) = some rs) :
  D6 P T ((f, G1 T sh ts F) :: tab) :=
 h.cons (A7x hFn) (B2N (A3Y (A9 h d) hL.nat) (A5O hm hT (A9 h d) (B6 hm hT h d) hL.nat hL.ok) hFn hts hF)
variable {P : Program} {T : TT} {R : Type}
def E2 {p q : Type} (B : p → (p → Option R) → (q → Option R) → Option R) : Nat → p → (q → Option R) → Option R
 | 0, _, _ => none
 | n + 1, x, kx => B x (fun x' => E2 B n x' kx) kx
def A2 (n : Nat) : Nat := Classical.choose (⟨n, rfl⟩ : ∃ m, m = n)
theorem A2T (n : Nat) : A2 n = n := Classical.choose_spec (⟨n, rfl⟩ : ∃ m, m = n)
abbrev FU : Nat := 4611686018427387904
def A0b (n0 : Nat) (ks : List Nat) (L6 : Nat) (f : St → (Exit → St → Option R) → Option R) : Nat → St → (Exit → St → Option R) → Option R
 | 0, _, _ => none
 | n + 1, σ, k => bif Nat.ble σ.nx L6 then (match σ.norm n0 ks with
  | some σn => f σn fun ex σ1 => match ex with
   | .normal => A0b n0 ks L6 f n σ1 k
   | ex => bif Nat.ble σ1.nx L6 then (match σ1.norm n0 ks with
    | some σ2 => bif Nat.ble σ2.nx L6 then k ex { σ2 with nx := L6 } else none
    | none => none) else none
  | none => none) else none
theorem A9H {n0 L6 : Nat} {ks : List Nat} {f : St → (Exit → St → Option R) → Option R} {g : St → Option (Exit × St)} (h : ∀ σ k, f σ k = ob2 (g σ) k) : ∀ (n : Nat) (σ : St) (k : Exit → St → Option R), A0b n0 ks L6 f n σ k = ob2 (U9 n0 ks L6 g n σ) k := by
 intro n
 induction n with
 | zero => intro σ k; rfl
 | succ n ih =>
  intro σ k
  simp only [A0b, U9, h]
  cases Nat.ble σ.nx L6
  ·rfl
  ·simp only [cond_true]
   cases σ.norm n0 ks with
   | none => rfl
   | some σn =>
    simp only
    cases g σn with
    | none => rfl
    | some p =>
     obtain ⟨ex, σ1⟩ := p
     simp only [ob2]
     cases ex with
     | normal => exact ih σ1 k
     | _ =>
      simp only
      cases Nat.ble σ1.nx L6
      ·rfl
      ·simp only [cond_true]
       cases σ1.norm n0 ks with
       | none => rfl
       | some σ2 => simp only; cases Nat.ble σ2.nx L6 <;> rfl
def H3 (n0 : Nat) (ks : List Nat) (L6 : Nat) (K : St → Option R) (kx : Exit → St → Option R) : Exit → St → Option R := fun ex σ1 => match ex with
 | .normal => bif Nat.ble σ1.nx L6 then (match σ1.norm n0 ks with
  | some σn => K σn
  | none => none) else none
 | ex => bif Nat.ble σ1.nx L6 then (match σ1.norm n0 ks with
  | some σ2 => bif Nat.ble σ2.nx L6 then kx ex { σ2 with nx := L6 } else none
  | none => none) else none
theorem B7y {p q : Type} {n0 L6 : Nat} {ks : List Nat} {f : St → (Exit → St → Option R) → Option R} (tm : p → St) (B : p → (p → Option R) → (q → Option R) → Option R) (ek : (Exit → St → Option R) → q → Option R)
  (hstep : ∀ (x : p) (K : St → Option R) (kx : Exit → St → Option R), f (tm x) (H3 n0 ks L6 K kx) = B x (fun x' => K (tm x')) (ek kx)) :
  ∀ (n : Nat) (x : p) (σ : St) (k : Exit → St → Option R), σ.norm n0 ks = some (tm x) → Nat.ble σ.nx L6 = true → A0b n0 ks L6 f n σ k = E2 B n x (ek k) := by
 intro n
 have key : ∀ n (k : Exit → St → Option R), ∃ G : St → Option R, (∀ x, G (tm x) = E2 B n x (ek k)) ∧ ∀ σ, A0b n0 ks L6 f n σ k = bif Nat.ble σ.nx L6 then (match σ.norm n0 ks with | some σn => G σn | none => none) else none := by
  intro n
  induction n with
  | zero =>
   intro k
   refine ⟨fun _ => none, fun x => rfl, fun σ => ?_⟩
   simp only [A0b]
   cases Nat.ble σ.nx L6
   ·rfl
   ·simp only [cond_true]; cases σ.norm n0 ks <;> rfl
  | succ n ih =>
   intro k
   obtain ⟨G, g1, g2⟩ := ih k
   refine ⟨fun τ => f τ (H3 n0 ks L6 G k), fun x => ?_, fun σ => ?_⟩
   ·simp only
    rw [hstep x G k, E2]
    congr 1
    funext x'
    exact g1 x'
   ·simp only [A0b]
    have : ∀ σn, (f σn fun ex σ1 => match ex with
      | .normal => A0b n0 ks L6 f n σ1 k
      | ex => bif Nat.ble σ1.nx L6 then (match σ1.norm n0 ks with
       | some σ2 => bif Nat.ble σ2.nx L6 then k ex { σ2 with nx := L6 } else none
       | none => none) else none) = f σn (H3 n0 ks L6 G k) := by
     intro σn
     congr 1
     funext ex σ1
     cases ex with
     | normal => exact g2 σ1
     | _ => rfl
    cases Nat.ble σ.nx L6
    ·rfl
    ·simp only [cond_true]
     cases σ.norm n0 ks with
     | none => rfl
     | some σn => exact this σn
 intro x σ k hn hb
 obtain ⟨G, g1, g2⟩ := key n k
 rw [g2, hb, cond_true, hn]
 exact g1 x
theorem A5Q {n0 L6 : Nat} {ks : List Nat} {f : St → Option (Exit × St)} {n : Nat} {σ : St} (h : Nat.ble σ.nx L6 = false ∨ σ.norm n0 ks = none) : U9 n0 ks L6 f n σ = none := by
 cases n with
 | zero => rfl
 | succ n =>
  simp only [U9]
  rcases h with h | h
  ·rw [h]; rfl
  ·rw [h]; cases Nat.ble σ.nx L6 <;> rfl
def H5 {p q : Type} (T : TT) (K : KC) (LoI : LC) (nt : Nat) (b : Code) (n0 : Nat) (ks : List Nat) (L6 : Nat) (ext : St → Option p) (B : (R : Type) → p → (p → Option R) → (q → Option R) → Option R) (ek : (R : Type) → (Exit → St → Option R) → q → Option R) : LS := fun R of σ k =>
 bif Nat.ble σ.nx L6 then (match σ.norm n0 ks with
  | some τ => match ext τ with
   | some x => E2 (B R) (A2 FU) x (ek R k)
   | none => ob2 (U9 n0 ks L6 (fun σ => Q7 T K.dir (X1 LoI) FU nt of b σ) FU σ) k
  | none => none) else none
theorem B7z {p q : Type} {K : KC} (hK : K.nat) {LoI : LC} (hLI : A1S LoI) {nt : Nat} {b : Code} {n0 : Nat} {ks : List Nat} {L6 : Nat} {ext : St → Option p} {B : (R : Type) → p → (p → Option R) → (q → Option R) → Option R} {ek : (R : Type) → (Exit → St → Option R) → q → Option R} (tm : p → St)
  (hext : ∀ τ x, ext τ = some x → τ = tm x)
  (hstep : ∀ (R : Type) (of : Nat → Option Ob) (x : p) (K' : St → Option R) (kx : Exit → St → Option R), E5 T K LoI false FU nt of R b (tm x) (H3 n0 ks L6 K' kx) = B R x (fun x' => K' (tm x')) (ek R kx))
  (R : Type) (of : Nat → Option Ob) (σ : St) (k : Exit → St → Option R) :
  H5 T K LoI nt b n0 ks L6 ext B ek R of σ k = ob2 (U9 n0 ks L6 (fun σ => Q7 T K.dir (X1 LoI) FU nt of b σ) FU σ) k := by
 have hun := A9H (R := R) (n0 := n0) (L6 := L6) (ks := ks) (f := fun σ k => E5 T K LoI false FU nt of R b σ k) (g := fun σ => Q7 T K.dir (X1 LoI) FU nt of b σ) (fun σ k => A17 hK hLI of R b σ k) FU σ k
 unfold H5
 cases hb : Nat.ble σ.nx L6 with
 | false =>
  simp only [cond_false]
  rw [A5Q (.inl hb)]; rfl
 | true =>
  simp only [cond_true]
  cases hn : σ.norm n0 ks with
  | none =>
   rw [A5Q (.inr hn)]; rfl
  | some τ =>
   simp only
   cases hx : ext τ with
   | none => rfl
   | some x =>
    simp only
    rw [A2T, ← hun]
    exact (B7y tm (B R) (ek R) (hstep R of) FU x σ k (by rw [hn, hext τ x hx]) hb).symm
def E4 (P : Program) (T : TT) (nt n0 : Nat) (b : Code) (s : LS) : Prop := s.nat ∧ ∀ of σ ex σ', s.dir of σ = some (ex, σ') → A3l P T nt n0 of (.loop b) σ ex σ'
theorem C3 (hm : P.follows .mixedOrders = true) (hT : K0 T P) {p q : Type} {K : KC} (hK : K.nat) (hS : X2 P T K.dir) {LoI : LC} (hLI : A1S LoI) {nt : Nat} {b : Code} {n0 : Nat} (hO : N2 P T nt n0 (X1 LoI) b) {ks : List Nat} {L6 : Nat} {ext : St → Option p} {B : (R : Type) → p → (p → Option R) → (q → Option R) → Option R} {ek : (R : Type) → (Exit → St → Option R) → q → Option R} (tm : p → St)
  (hext : ∀ τ x, ext τ = some x → τ = tm x)
  (hstep : ∀ (R : Type) (of : Nat → Option Ob) (x : p) (K' : St → Option R) (kx : Exit → St → Option R), E5 T K LoI false FU nt of R b (tm x) (H3 n0 ks L6 K' kx) = B R x (fun x' => K' (tm x')) (ek R kx)) :
  E4 P T nt n0 b (H5 T K LoI nt b n0 ks L6 ext B ek) := by
 have heq := B7z (L6 := L6) (ks := ks) (n0 := n0) hK hLI tm hext hstep
 refine ⟨fun R of σ k => ?_, fun of σ ex σ' h => ?_⟩
 ·rw [heq R, heq (Exit × St)]
  cases U9 n0 ks L6 (fun σ => Q7 T K.dir (X1 LoI) FU nt of b σ) FU σ <;> rfl
 ·unfold LS.dir at h
  rw [heq] at h
  have h' : U9 n0 ks L6 (fun σ => Q7 T K.dir (X1 LoI) FU nt of b σ) FU σ = some (ex, σ') := by
   cases hq : U9 n0 ks L6 (fun σ => Q7 T K.dir (X1 LoI) FU nt of b σ) FU σ with
   | none => rw [hq] at h; cases h
   | some p => rw [hq] at h; exact h
  exact A7a (fun σ ex σ' h => A3m hm hT hS b hO σ ex σ' h) h'
def N1 : Code → List Code
 | .seq x y => N1 x ++ N1 y
 | .cond _ x y => N1 x ++ N1 y
 | .block _ b => N1 b
 | .loop b => b :: N1 b
 | _ => []
def A5R : Code → Nat
 | .region id _ _ => id
 | .seq x _ => A5R x
 | .cond _ x _ => A5R x
 | .block _ b => A5R b
 | .loop b => A5R b
 | _ => 0
def lp (c : Code) (i : Nat) : Code := (N1 c).getD i .skip
def B2P : List (Nat × LS) → Nat → Option LS
 | [], _ => none
 | (k, s) :: r, i => bif Nat.beq k i then some s else B2P r i
def loT (l : List (Nat × LS)) : LC := fun b => B2P l (A5R b)
theorem B4x : ∀ {l : List (Nat × LS)} {i : Nat} {s : LS}, B2P l i = some s → ∃ k, (k, s) ∈ l := by
 intro l
 induction l with
 | nil => intro i s h; cases h
 | cons p r ih =>
  intro i s h
  obtain ⟨k, s'⟩ := p
  simp only [B2P] at h
  cases hk : Nat.beq k i with
  | true => rw [hk] at h; simp only [cond_true, D04] at h; subst h; exact ⟨k, List.mem_cons_self ..⟩
  | false => rw [hk] at h; obtain ⟨j, hj⟩ := ih h; exact ⟨j, List.mem_cons_of_mem _ hj⟩
theorem A4Q {l : List (Nat × LS)} (h : ∀ p ∈ l, LS.nat p.2) : A1S (loT l) := fun b s hs => by
 obtain ⟨k, hk⟩ := B4x hs
 exact h _ hk
theorem B1d {Lo : A31} {nt n0 : Nat} : ∀ c : Code, (∀ b ∈ N1 c, ∀ s, Lo b = some s → ∀ of σ ex σ', s of σ = some (ex, σ') → A3l P T nt n0 of (.loop b) σ ex σ') → N2 P T nt n0 Lo c := by
 intro c
 induction c with
 | seq x y ihx ihy => intro h; exact ⟨ihx (fun b hb => h b (by simp [N1, hb])), ihy (fun b hb => h b (by simp [N1, hb]))⟩
 | cond q x y ihx ihy => intro h; exact ⟨ihx (fun b hb => h b (by simp [N1, hb])), ihy (fun b hb => h b (by simp [N1, hb]))⟩
 | block id b ih => intro h; exact ih (fun b hb => h b (by simpa [N1] using hb))
 | loop b ih => intro h; exact ⟨h b (by simp [N1]), ih (fun b' hb => h b' (by simp [N1, hb]))⟩
 | _ => intro _; trivial
def C2c (P : Program) (T : TT) (Lo : LC) (nt n0 : Nat) (c : Code) : Nat → Prop
 | 0 => True
 | n + 1 => C2c P T Lo nt n0 c n ∧ ∀ s, Lo (lp c n) = some s → E4 P T nt n0 (lp c n) s
theorem loI {Lo : LC} {nt n0 : Nat} {c : Code} {i : Nat} {s0 : LS} (h0 : Lo (lp c i) = some s0) (h : E4 P T nt n0 (lp c i) s0) : ∀ s, Lo (lp c i) = some s → E4 P T nt n0 (lp c i) s := by
 intro s hs; rw [h0] at hs; cases hs; exact h
theorem loN {Lo : LC} {nt n0 : Nat} {c : Code} {i : Nat} (h0 : Lo (lp c i) = none) : ∀ s, Lo (lp c i) = some s → E4 P T nt n0 (lp c i) s := by
 intro s hs; rw [h0] at hs; cases hs
theorem A1G {Lo : LC} {nt n0 : Nat} {c : Code} (n : Nat) (hn : Nat.beq (N1 c).length n = true) (h : C2c P T Lo nt n0 c n) : N2 P T nt n0 (X1 Lo) c := by
 have hn := D01 hn
 have key : ∀ n, C2c P T Lo nt n0 c n → ∀ i, i < n → ∀ s, Lo (lp c i) = some s → E4 P T nt n0 (lp c i) s := by
  intro n
  induction n with
  | zero => intro _ i hi; omega
  | succ n ih =>
   intro h i hi
   by_cases hin : i = n
   ·subst hin; exact h.2
   ·exact ih h.1 i (by omega)
 refine B1d c (fun b hb s hs => ?_)
 obtain ⟨i, hi, rfl⟩ := List.mem_iff_getElem.1 hb
 have e : lp c i = (N1 c)[i] := by unfold lp; simp [List.getD, hi]
 rw [← e] at hs ⊢
 unfold X1 at hs
 cases hq : Lo (lp c i) with
 | none => rw [hq] at hs; cases hs
 | some s0 =>
  rw [hq] at hs
  injection hs with hs; subst hs
  exact (key n h i (by omega) s0 hq).2
def A5 (P : Program) (f : Nat) : Code :=
 match P.funcs[f]? with
 | some fn => match fn.body with
  | some c => c
  | none => .skip
 | none => .skip
def C4 (P : Program) (f : Nat) : Nat :=
 match P.funcs[f]? with
 | some fn => fn.ntmps
 | none => 0
def atN (n0 : Nat) (l : List (Nat × LS)) : Nat → LC := fun n => bif Nat.beq n n0 then loT l else fun _ => none
theorem D3 {f : Nat} (n0 : Nat) {l : List (Nat × LS)} (hn : ∀ p ∈ l, LS.nat p.2) (n : Nat) (hl : Nat.beq (N1 (A5 P f)).length n = true) (h : C2c P T (loT l) (C4 P f) n0 (A5 P f) n) : G7 P T f (atN n0 l) := by
 refine ⟨fun m => ?_, fun m fn code h1 h2 => ?_⟩
 ·unfold atN
  cases Nat.beq m n0
  ·exact B2
  ·exact A4Q hn
 ·unfold atN
  cases hm : Nat.beq m n0 with
  | false => exact A7 code
  | true =>
   have := D01 hm; subst this
   simp only [cond_true]
   have := A1G n hl h
   simpa only [A5, C4, h1, h2] using this
abbrev P5 : Nat := 4294967296
def A2D (x n : Nat) : Nat := (x >>> n) ||| ((x <<< (32 - n)) % P5)
def sS0 (x : Nat) : Nat := (A2D x 7 ^^^ A2D x 18) ^^^ (x >>> 3)
def sS1 (x : Nat) : Nat := (A2D x 17 ^^^ A2D x 19) ^^^ (x >>> 10)
def bS0 (x : Nat) : Nat := (A2D x 2 ^^^ A2D x 13) ^^^ A2D x 22
def bS1 (x : Nat) : Nat := (A2D x 6 ^^^ A2D x 11) ^^^ A2D x 25
def chN (x y z : Nat) : Nat := (x &&& y) ^^^ ((4294967295 - x) &&& z)
def B1e (x y z : Nat) : Nat := ((x &&& y) ^^^ (x &&& z)) ^^^ (y &&& z)
def A3h (l : List Nat) : Nat := (l.getD 15 0 + sS0 (l.getD 14 0) + l.getD 6 0 + sS1 (l.getD 1 0)) % P5
def A1H : Nat → List Nat → List Nat
 | 0, l => l
 | n + 1, l => A1V (A3h l) fun x => A1H n (x :: l)
structure S8 where
 a : Nat
 b : Nat
 c : Nat
 d : Nat
 e : Nat
 f : Nat
 g : Nat
 h : Nat
def B1f (s : S8) (k w : Nat) : S8 :=
 A1V (s.h + bS1 s.e + chN s.e s.f s.g + k + w) fun t => A1V ((t + (bS0 s.a + B1e s.a s.b s.c)) % P5) fun a => A1V ((s.d + t) % P5) fun e => ⟨a, s.a, s.b, s.c, e, s.e, s.f, s.g⟩
def A7y : List Nat → List Nat → S8 → S8
 | k :: ks, w :: ws, s => A7y ks ws (B1f s k w)
 | _, _, s => s
def B1g (s x : S8) : S8 :=
 A1V ((s.a + x.a) % P5) fun a => A1V ((s.b + x.b) % P5) fun b => A1V ((s.c + x.c) % P5) fun c => A1V ((s.d + x.d) % P5) fun d => A1V ((s.e + x.e) % P5) fun e => A1V ((s.f + x.f) % P5) fun f => A1V ((s.g + x.g) % P5) fun g => A1V ((s.h + x.h) % P5) fun h => ⟨a, b, c, d, e, f, g, h⟩
def A7z : List Nat := [0x428a2f98, 0x71374491, 0xb5c0fbcf, 0xe9b5dba5, 0x3956c25b, 0x59f111f1, 0x923f82a4, 0xab1c5ed5,
 0xd807aa98, 0x12835b01, 0x243185be, 0x550c7dc3, 0x72be5d74, 0x80deb1fe, 0x9bdc06a7, 0xc19bf174,
 0xe49b69c1, 0xefbe4786, 0x0fc19dc6, 0x240ca1cc, 0x2de92c6f, 0x4a7484aa, 0x5cb0a9dc, 0x76f988da,
 0x983e5152, 0xa831c66d, 0xb00327c8, 0xbf597fc7, 0xc6e00bf3, 0xd5a79147, 0x06ca6351, 0x14292967,
 0x27b70a85, 0x2e1b2138, 0x4d2c6dfc, 0x53380d13, 0x650a7354, 0x766a0abb, 0x81c2c92e, 0x92722c85,
 0xa2bfe8a1, 0xa81a664b, 0xc24b8b70, 0xc76c51a3, 0xd192e819, 0xd6990624, 0xf40e3585, 0x106aa070,
 0x19a4c116, 0x1e376c08, 0x2748774c, 0x34b0bcb5, 0x391c0cb3, 0x4ed8aa4a, 0x5b9cca4f, 0x682e6ff3,
 0x748f82ee, 0x78a5636f, 0x84c87814, 0x8cc70208, 0x90befffa, 0xa4506ceb, 0xbef9a3f7, 0xc67178f2]
def L7 : Nat → List Nat → List Nat → List Nat
 | n + 1, b0 :: b1 :: b2 :: b3 :: r, acc => A1V (((b0 * 256 + b1) * 256 + b2) * 256 + b3) fun w => L7 n r (w :: acc)
 | _, _, acc => acc
def A18 (s : S8) (bs : List Nat) : S8 := B1g s (A7y A7z (A1H 48 (L7 16 bs [])).reverse s)
def s0N : S8 := ⟨0x6a09e667, 0xbb67ae85, 0x3c6ef372, 0xa54ff53a, 0x510e527f, 0x9b05688c, 0x1f83d9ab, 0x5be0cd19⟩
def be4 (n : Nat) : List Nat := [n / 16777216 % 256, n / 65536 % 256, n / 256 % 256, n % 256]
def C6K (s : S8) : List Nat := be4 s.a ++ (be4 s.b ++ (be4 s.c ++ (be4 s.d ++ (be4 s.e ++ (be4 s.f ++ (be4 s.g ++ be4 s.h))))))
def J4 : Nat → S8 → List Nat → S8
 | 0, s, _ => s
 | n + 1, s, l => match l with
  | [] => s
  | l => J4 n (A18 s (l.take 64)) (l.drop 64)
def L3 (n : Nat) : List Nat := 128 :: (List.replicate ((119 - n % 64) % 64) 0 ++ [8 * n / 2 ^ 56 % 256, 8 * n / 2 ^ 48 % 256, 8 * n / 2 ^ 40 % 256, 8 * n / 2 ^ 32 % 256, 8 * n / 2 ^ 24 % 256, 8 * n / 2 ^ 16 % 256, 8 * n / 2 ^ 8 % 256, 8 * n % 256])
def A3Z (l : List Nat) : List Nat := C6K (J4 (l.length / 64 + 2) s0N (l ++ L3 l.length))
example : A3Z [97, 98, 99] = [0xba, 0x78, 0x16, 0xbf, 0x8f, 0x01, 0xcf, 0xea, 0x41, 0x41, 0x40, 0xde, 0x5d, 0xae, 0x22, 0x23, 0xb0, 0x03, 0x61, 0xa3, 0x96, 0x17, 0x7a, 0x9c, 0xb4, 0x10, 0xff, 0x61, 0xf2, 0x00, 0x15, 0xad] := by kernel_rfl
variable {T : TT} {R : Type}
abbrev ck {R : Type} (i : Int) (n : Nat) (k : Option R) : Option R := bif C2 0 i && B7 i n then k else none
abbrev C6 (n : Int) : Int := IntKind.wrap .i64 n
abbrev W32 (n : Int) : Int := IntKind.wrap .u32 n
abbrev WU (n : Int) : Int := IntKind.wrap .u64 n
def elV (w : V) (i : Int) : Int := (w.nth i.toNat).int
def nv (n : Nat) : V := .i (n : Int)
theorem A30 (n : Nat) : W32 (n : Int) = ((n % 4294967296 : Nat) : Int) := by
 unfold W32 IntKind.wrap
 simp [IntKind.bits, IntKind.signed]
theorem C98 (n : Nat) : WU (n : Int) = ((n % 18446744073709551616 : Nat) : Int) := by
 unfold WU IntKind.wrap
 simp [IntKind.bits, IntKind.signed]
theorem A1I {n : Nat} (h : n < 4294967296) : W32 (n : Int) = (n : Int) := by rw [A30, Nat.mod_eq_of_lt h]
theorem F6 {n : Nat} (h : n < 18446744073709551616) : WU (n : Int) = (n : Int) := by rw [C98, Nat.mod_eq_of_lt h]
theorem F0 {n : Int} (h1 : -9223372036854775808 ≤ n) (h2 : n ≤ 9223372036854775807) : C6 n = n := by
 show (if (true && decide (n % 2 ^ 64 ≥ 2 ^ (64 - 1))) = true then n % 2 ^ 64 - 2 ^ 64 else n % 2 ^ 64) = n
 by_cases h : n % 2 ^ 64 ≥ 2 ^ (64 - 1)
 ·rw [if_pos (by simpa using h)]; omega
 ·rw [if_neg (by simpa using h)]; omega
theorem C1 {i : Int} {n : Nat} {k : Option R} (h1 : 0 ≤ i) (h2 : i < n) : ck i n k = k := by
 unfold ck
 rw [L5.2 h1, show B7 i n = true by simp [B7, h2]]
 rfl
theorem N8 (w a : Nat) : BitVec.ofInt w (a : Int) = BitVec.ofNat w a := BitVec.ofInt_natCast w a
theorem B1h {a b : Nat} (ha : a < 4294967296) (hb : b < 4294967296) : J3 .and .u32 (a : Int) (b : Int) = ((a &&& b : Nat) : Int) := by
 have hl : a &&& b < 4294967296 := Nat.lt_of_le_of_lt Nat.and_le_left ha
 show IntKind.wrap .u32 (((BitVec.ofInt 32 (a : Int) &&& BitVec.ofInt 32 (b : Int)).toNat : Nat) : Int) = _
 rw [N8, N8, BitVec.toNat_and, BitVec.toNat_ofNat, BitVec.toNat_ofNat]
 rw [Nat.mod_eq_of_lt (by simpa using ha), Nat.mod_eq_of_lt (by simpa using hb)]
 exact A1I hl
theorem A2s {a b : Nat} (ha : a < 4294967296) (hb : b < 4294967296) : J3 .or .u32 (a : Int) (b : Int) = ((a ||| b : Nat) : Int) := by
 have hl : a ||| b < 4294967296 := Nat.or_lt_two_pow (n := 32) ha hb
 show IntKind.wrap .u32 (((BitVec.ofInt 32 (a : Int) ||| BitVec.ofInt 32 (b : Int)).toNat : Nat) : Int) = _
 rw [N8, N8, BitVec.toNat_or, BitVec.toNat_ofNat, BitVec.toNat_ofNat]
 rw [Nat.mod_eq_of_lt (by simpa using ha), Nat.mod_eq_of_lt (by simpa using hb)]
 exact A1I hl
theorem A5S {a b : Nat} (ha : a < 4294967296) (hb : b < 4294967296) : J3 .xor .u32 (a : Int) (b : Int) = ((a ^^^ b : Nat) : Int) := by
 have hl : a ^^^ b < 4294967296 := Nat.xor_lt_two_pow (n := 32) ha hb
 show IntKind.wrap .u32 (((BitVec.ofInt 32 (a : Int) ^^^ BitVec.ofInt 32 (b : Int)).toNat : Nat) : Int) = _
 rw [N8, N8, BitVec.toNat_xor, BitVec.toNat_ofNat, BitVec.toNat_ofNat]
 rw [Nat.mod_eq_of_lt (by simpa using ha), Nat.mod_eq_of_lt (by simpa using hb)]
 exact A1I hl
theorem B1i {a b : Nat} (ha : a < 18446744073709551616) (hb : b < 18446744073709551616) : J3 .and .u64 (a : Int) (b : Int) = ((a &&& b : Nat) : Int) := by
 have hl : a &&& b < 18446744073709551616 := Nat.lt_of_le_of_lt Nat.and_le_left ha
 show IntKind.wrap .u64 (((BitVec.ofInt 64 (a : Int) &&& BitVec.ofInt 64 (b : Int)).toNat : Nat) : Int) = _
 rw [N8, N8, BitVec.toNat_and, BitVec.toNat_ofNat, BitVec.toNat_ofNat]
 rw [Nat.mod_eq_of_lt (by simpa using ha), Nat.mod_eq_of_lt (by simpa using hb)]
 exact F6 hl
theorem B4y {a b : Nat} (ha : a < 18446744073709551616) (hb : b < 18446744073709551616) : J3 .or .u64 (a : Int) (b : Int) = ((a ||| b : Nat) : Int) := by
 have hl : a ||| b < 18446744073709551616 := Nat.or_lt_two_pow (n := 64) ha hb
 show IntKind.wrap .u64 (((BitVec.ofInt 64 (a : Int) ||| BitVec.ofInt 64 (b : Int)).toNat : Nat) : Int) = _
 rw [N8, N8, BitVec.toNat_or, BitVec.toNat_ofNat, BitVec.toNat_ofNat]
 rw [Nat.mod_eq_of_lt (by simpa using ha), Nat.mod_eq_of_lt (by simpa using hb)]
 exact F6 hl
theorem B1j {a b : Nat} (ha : a < 18446744073709551616) (hb : b < 18446744073709551616) : J3 .xor .u64 (a : Int) (b : Int) = ((a ^^^ b : Nat) : Int) := by
 have hl : a ^^^ b < 18446744073709551616 := Nat.xor_lt_two_pow (n := 64) ha hb
 show IntKind.wrap .u64 (((BitVec.ofInt 64 (a : Int) ^^^ BitVec.ofInt 64 (b : Int)).toNat : Nat) : Int) = _
 rw [N8, N8, BitVec.toNat_xor, BitVec.toNat_ofNat, BitVec.toNat_ofNat]
 rw [Nat.mod_eq_of_lt (by simpa using ha), Nat.mod_eq_of_lt (by simpa using hb)]
 exact F6 hl
theorem B7A (a b : Nat) : (a : Int).fdiv (b : Int) = ((a / b : Nat) : Int) := by
 cases a with
 | zero => simp
 | succ a => cases b with
  | zero => simp
  | succ b => rfl
theorem A0c (a n : Nat) : (a : Int).fdiv (2 ^ n) = ((a >>> n : Nat) : Int) := by
 rw [show ((2 : Int) ^ n) = ((2 ^ n : Nat) : Int) by push_cast; rfl, B7A, Nat.shiftRight_eq_div_pow]
theorem A3i (a n : Nat) : (a : Int) * 2 ^ n = ((a <<< n : Nat) : Int) := by
 rw [Nat.shiftLeft_eq]; push_cast; rfl
def xor (a b : Int) : Int := J3 .xor .u32 a b
def and (a b : Int) : Int := J3 .and .u32 a b
def rot (x : Int) (n : Nat) : Int := J3 .or .u32 (W32 (x * 2 ^ (32 - n))) (x.fdiv (2 ^ n))
def sg0 (x : Int) : Int := xor (xor (rot x 7) (rot x 18)) (x.fdiv (2 ^ 3))
def sg1 (x : Int) : Int := xor (xor (rot x 17) (rot x 19)) (x.fdiv (2 ^ 10))
theorem A01 {a n : Nat} (h : a < P5) : a >>> n < P5 := by
 rw [Nat.shiftRight_eq_div_pow]; exact Nat.lt_of_le_of_lt (Nat.div_le_self _ _) h
theorem C8 {a n : Nat} (h : a < P5) : A2D a n < P5 := by
 unfold A2D
 exact Nat.or_lt_two_pow (n := 32) (A01 h) (Nat.mod_lt _ (show 0 < P5 by decide))
theorem A02 {a n : Nat} (h : a < P5) : rot (a : Int) n = ((A2D a n : Nat) : Int) := by
 unfold rot A2D
 have hm : (a <<< (32 - n)) % 4294967296 < 4294967296 := Nat.mod_lt _ (by decide)
 rw [A3i, A0c, A30, A2s hm (A01 h), Nat.or_comm]
theorem A0H {a b : Nat} (ha : a < P5) (hb : b < P5) : xor (a : Int) (b : Int) = ((a ^^^ b : Nat) : Int) := A5S ha hb
theorem A5T {a b : Nat} (ha : a < P5) (hb : b < P5) : and (a : Int) (b : Int) = ((a &&& b : Nat) : Int) := B1h ha hb
theorem P8 {a b : Nat} (ha : a < P5) (hb : b < P5) : a ^^^ b < P5 := Nat.xor_lt_two_pow (n := 32) ha hb
theorem R8 {a b : Nat} (ha : a < P5) : a &&& b < P5 := Nat.lt_of_le_of_lt Nat.and_le_left ha
theorem C6L {a : Nat} (h : a < P5) : sg0 (a : Int) = ((sS0 a : Nat) : Int) := by
 unfold sg0 sS0
 rw [A02 h, A02 h, A0c, A0H (C8 h) (C8 h), A0H (P8 (C8 h) (C8 h)) (A01 h)]
theorem C6M {a : Nat} (h : a < P5) : sg1 (a : Int) = ((sS1 a : Nat) : Int) := by
 unfold sg1 sS1
 rw [A02 h, A02 h, A0c, A0H (C8 h) (C8 h), A0H (P8 (C8 h) (C8 h)) (A01 h)]
theorem C6N {a : Nat} (h : a < P5) : sS0 a < P5 := P8 (P8 (C8 h) (C8 h)) (A01 h)
theorem C6O {a : Nat} (h : a < P5) : sS1 a < P5 := P8 (P8 (C8 h) (C8 h)) (A01 h)
theorem C6P {a : Nat} (h : a < P5) : bS0 a < P5 := P8 (P8 (C8 h) (C8 h)) (C8 h)
theorem C6Q {a : Nat} (h : a < P5) : bS1 a < P5 := P8 (P8 (C8 h) (C8 h)) (C8 h)
theorem C2d {a : Nat} (h : a < P5) : 4294967295 ^^^ a = 4294967295 - a := by
 have : (4294967295 : Nat) = 2 ^ 32 - 1 := by decide
 have h2 := Nat.testBit_two_pow_sub_succ (n := 32) (x := a) (by simpa using h)
 apply Nat.eq_of_testBit_eq
 intro i
 rw [Nat.testBit_xor, show 4294967295 - a = 2 ^ 32 - (a + 1) by omega, h2]
 rw [this, Nat.testBit_two_pow_sub_one]
 by_cases hi : i < 32
 ·simp [hi]
 ·have : a.testBit i = false := Nat.testBit_lt_two_pow (Nat.lt_of_lt_of_le (show a < 2 ^ 32 from h) (Nat.pow_le_pow_right (show 2 > 0 by decide) (show 32 ≤ i by omega)))
  simp [hi, this]
def byt (x : V) (i : Int) : Int := W32 (x.nth i.toNat).int
def B7B (x : V) (i : Int) : Int := J3 .or .u32 (J3 .or .u32 (J3 .or .u32 (W32 (byt x (C6 (4 * i)) * 2 ^ 24)) (W32 (byt x (C6 (C6 (4 * i) + 1)) * 2 ^ 16))) (W32 (byt x (C6 (C6 (4 * i) + 2)) * 2 ^ 8))) (byt x (C6 (C6 (4 * i) + 3)))
def e8 (x : V) (i : Nat) : Int := (x.nth i).int
def C9g (x : V) (k w : Int) : V :=
 let a := e8 x 0
 let e := e8 x 4
 let t := W32 (W32 (W32 (W32 (e8 x 7 + xor (xor (rot e 6) (rot e 11)) (rot e 25)) + xor (and e (e8 x 5)) (and (J3 .xor .u32 4294967295 e) (e8 x 6))) + k) + w)
 let u := W32 (xor (xor (rot a 2) (rot a 13)) (rot a 22) + xor (xor (and a (e8 x 1)) (and a (e8 x 2))) (and (e8 x 1) (e8 x 2)))
 .l [.i (W32 (t + u)), .i a, .i (e8 x 1), .i (e8 x 2), .i (W32 (e8 x 3 + t)), .i e, .i (e8 x 5), .i (e8 x 6)]
inductive B4z where
 | m (x : V) (z : V) (i : Int) (w : V)
inductive C6R where
 | o (x : V) (z : V) (i : Int) (w : V)
def B7C (R : Type) (p : B4z) (K : B4z → Option R) (kx : C6R → Option R) : Option R :=
 match p with
 | .m x z i w =>
  bif B7 i 16 then
   ck (C6 (4 * i)) x.els.length <| ck (C6 (C6 (4 * i) + 1)) x.els.length <| ck (C6 (C6 (4 * i) + 2)) x.els.length <| ck (C6 (C6 (4 * i) + 3)) x.els.length <|
   ck i 64 <| K (.m x z (C6 (i + 1)) (w.put i.toNat (.i (B7B x i))))
  else kx (.o x z i w)
inductive B4A where
 | m (z : V) (i : Int) (w : V)
inductive C6S where
 | o (z : V) (i : Int) (w : V)
def B4B (R : Type) (p : B4A) (K : B4A → Option R) (kx : C6S → Option R) : Option R :=
 match p with
 | .m z i w =>
  bif B7 i 64 then
   ck (C6 (i - 15)) 64 <| ck (C6 (i - 2)) 64 <| ck (C6 (i - 16)) 64 <| ck (C6 (i - 7)) 64 <| ck i 64 <|
   K (.m z (C6 (i + 1)) (w.put i.toNat (.i (W32 (W32 (W32 (elV w (C6 (i - 16)) + elV w (C6 (i - 7))) + sg0 (elV w (C6 (i - 15)))) + sg1 (elV w (C6 (i - 2))))))))
  else kx (.o z i w)
inductive B4C where
 | m (s : V) (z : V) (w : V) (k : V) (x : V) (i : Int)
inductive C6T where
 | o (s : V) (z : V) (w : V) (k : V) (x : V) (i : Int)
def B7D (R : Type) (p : B4C) (K : B4C → Option R) (kx : C6T → Option R) : Option R :=
 match p with
 | .m s z w k x i =>
  bif B7 i 64 then ck i 64 <| ck i 64 <| K (.m s z w k (C9g x (elV k i) (elV w i)) (C6 (i + 1))) else kx (.o s z w k x i)
inductive B4D where
 | m (s : V) (z : V) (x : V) (i : Int)
inductive C6U where
 | o (s : V) (z : V) (x : V) (i : Int)
def B1k (R : Type) (p : B4D) (K : B4D → Option R) (kx : C6U → Option R) : Option R :=
 match p with
 | .m s z x i =>
  bif B7 i 8 then ck i 8 <| ck i 8 <| ck i 8 <| K (.m (s.put i.toNat (.i (W32 (elV s i + elV x i)))) z x (C6 (i + 1))) else kx (.o s z x i)
theorem A8p {x : V} {bs : List Nat} (hx : x.els = bs.map nv) {k b : Nat} (h : bs[k]? = some b) : (x.nth k).int = (b : Int) := by
 unfold V.nth
 rw [hx, List.getD, List.getElem?_map, h]
 rfl
theorem B1l {a b i : Nat} (h : b < 2 ^ i) : (a <<< i) ||| b = a * 2 ^ i + b := by
 rw [← Nat.shiftLeft_add_eq_or_of_lt h, Nat.shiftLeft_eq]
theorem C2e {b0 b1 b2 b3 : Nat} (h0 : b0 < 256) (h1 : b1 < 256) (h2 : b2 < 256) (h3 : b3 < 256) : (((b0 <<< 24) ||| (b1 <<< 16)) ||| (b2 <<< 8)) ||| b3 = ((b0 * 256 + b1) * 256 + b2) * 256 + b3 := by
 have e1 : (b0 <<< 24) ||| (b1 <<< 16) = (b0 * 256 + b1) <<< 16 := by
  rw [B1l (by rw [Nat.shiftLeft_eq]; omega), Nat.shiftLeft_eq, Nat.shiftLeft_eq]; omega
 have e2 : ((b0 * 256 + b1) <<< 16) ||| (b2 <<< 8) = ((b0 * 256 + b1) * 256 + b2) <<< 8 := by
  rw [B1l (by rw [Nat.shiftLeft_eq]; omega), Nat.shiftLeft_eq, Nat.shiftLeft_eq]; omega
 rw [e1, e2, B1l (by omega)]
theorem A8q {x : V} {bs : List Nat} (hx : x.els = bs.map nv) (hb : ∀ b ∈ bs, b < 256) {k b : Nat} (h : bs[k]? = some b) : byt x (k : Int) = (b : Int) := by
 have := hb b (List.mem_of_getElem? h)
 unfold byt
 rw [show ((k : Int)).toNat = k from rfl, A8p hx h, A1I (by omega)]
theorem B7E {x : V} {bs : List Nat} (hx : x.els = bs.map nv) (hb : ∀ b ∈ bs, b < 256) {j b0 b1 b2 b3 : Nat} (hj : j < 1000) (h0 : bs[4 * j]? = some b0) (h1 : bs[4 * j + 1]? = some b1) (h2 : bs[4 * j + 2]? = some b2) (h3 : bs[4 * j + 3]? = some b3) :
  B7B x (j : Int) = (((((b0 * 256 + b1) * 256 + b2) * 256 + b3 : Nat)) : Int) := by
 have l0 := hb b0 (List.mem_of_getElem? h0)
 have l1 := hb b1 (List.mem_of_getElem? h1)
 have l2 := hb b2 (List.mem_of_getElem? h2)
 have l3 := hb b3 (List.mem_of_getElem? h3)
 have w0 : C6 (4 * (j : Int)) = ((4 * j : Nat) : Int) := by rw [F0 (by omega) (by omega)]; push_cast; rfl
 have w1 : C6 (C6 (4 * (j : Int)) + 1) = ((4 * j + 1 : Nat) : Int) := by rw [w0, F0 (by omega) (by omega)]; push_cast; rfl
 have w2 : C6 (C6 (4 * (j : Int)) + 2) = ((4 * j + 2 : Nat) : Int) := by rw [w0, F0 (by omega) (by omega)]; push_cast; rfl
 have w3 : C6 (C6 (4 * (j : Int)) + 3) = ((4 * j + 3 : Nat) : Int) := by rw [w0, F0 (by omega) (by omega)]; push_cast; rfl
 unfold B7B
 rw [w1, w2, w3, w0, A8q hx hb h0, A8q hx hb h1, A8q hx hb h2, A8q hx hb h3, A3i, A3i, A3i, ← C2e l0 l1 l2 l3]
 have s0 : b0 <<< 24 < 4294967296 := by rw [Nat.shiftLeft_eq]; omega
 have s1 : b1 <<< 16 < 4294967296 := by rw [Nat.shiftLeft_eq]; omega
 have s2 : b2 <<< 8 < 4294967296 := by rw [Nat.shiftLeft_eq]; omega
 have o1 := Nat.or_lt_two_pow (n := 32) s0 s1
 have o2 := Nat.or_lt_two_pow (n := 32) o1 s2
 rw [A1I s0, A1I s1, A1I s2, A2s s0 s1, A2s o1 s2, A2s o2 (by omega)]
theorem A5U {l : List V} {m : Nat} {z y : V} : (V.l (l ++ List.replicate (m + 1) z)).put l.length y = .l ((l ++ [y]) ++ List.replicate m z) := by
 unfold V.put
 simp only [V.els]
 rw [List.set_append_right _ _ (Nat.le_refl _), Nat.sub_self, List.replicate_succ, List.set_cons_zero, List.append_assoc, List.singleton_append]
theorem C9h {bs : List Nat} {k : Nat} (h : k + 4 ≤ bs.length) : ∃ b0 b1 b2 b3, bs[k]? = some b0 ∧ bs[k + 1]? = some b1 ∧ bs[k + 2]? = some b2 ∧ bs[k + 3]? = some b3 ∧ bs.drop k = b0 :: b1 :: b2 :: b3 :: bs.drop (k + 4) := by
 refine ⟨bs[k], bs[k + 1], bs[k + 2], bs[k + 3], by simp, by simp, by simp, by simp, ?_⟩
 rw [List.drop_eq_getElem_cons (by omega), List.drop_eq_getElem_cons (by omega), List.drop_eq_getElem_cons (by omega), List.drop_eq_getElem_cons (by omega)]
theorem C9i {R : Type} {x z : V} {bs : List Nat} (hx : x.els = bs.map nv) (hb : ∀ b ∈ bs, b < 256) (hl : 64 ≤ bs.length) : ∀ (m j n : Nat) (l : List Nat) (k : C6R → Option R), j + m = 16 → l.length = j → m < n →
  E2 (B7C R) n (.m x z (j : Int) (.l (l.reverse.map nv ++ List.replicate (48 + m) (.i 0)))) k = k (.o x z 16 (.l ((L7 m (bs.drop (4 * j)) l).reverse.map nv ++ List.replicate 48 (.i 0)))) := by
 intro m
 induction m with
 | zero =>
  intro j n l k hj hlen hn
  obtain ⟨n, rfl⟩ : ∃ n', n = n' + 1 := ⟨n - 1, by omega⟩
  have : j = 16 := by omega
  subst this
  rfl
 | succ m ih =>
  intro j n l k hj hlen hn
  obtain ⟨n, rfl⟩ : ∃ n', n = n' + 1 := ⟨n - 1, by omega⟩
  obtain ⟨b0, b1, b2, b3, g0, g1, g2, g3, gd⟩ := C9h (bs := bs) (k := 4 * j) (by omega)
  have hxl : x.els.length = bs.length := by rw [hx, D05]
  have w0 : C6 (4 * (j : Int)) = ((4 * j : Nat) : Int) := by rw [F0 (by omega) (by omega)]; push_cast; rfl
  have w1 : C6 (C6 (4 * (j : Int)) + 1) = ((4 * j + 1 : Nat) : Int) := by rw [w0, F0 (by omega) (by omega)]; push_cast; rfl
  have w2 : C6 (C6 (4 * (j : Int)) + 2) = ((4 * j + 2 : Nat) : Int) := by rw [w0, F0 (by omega) (by omega)]; push_cast; rfl
  have w3 : C6 (C6 (4 * (j : Int)) + 3) = ((4 * j + 3 : Nat) : Int) := by rw [w0, F0 (by omega) (by omega)]; push_cast; rfl
  have wj : C6 ((j : Int) + 1) = ((j + 1 : Nat) : Int) := by rw [F0 (by omega) (by omega)]; push_cast; rfl
  rw [E2]
  show (bif B7 (j : Int) 16 then _ else _) = _
  rw [show B7 (j : Int) 16 = true by simp [B7]; omega, cond_true]
  simp only
  rw [w1, w2, w3, w0, hxl, C1 (by omega) (by omega), C1 (by omega) (by omega), C1 (by omega) (by omega), C1 (by omega) (by omega), C1 (by omega) (by omega), wj, B7E hx hb (by omega) g0 g1 g2 g3]
  have hput := A5U (l := l.reverse.map nv) (m := 48 + m) (z := .i 0) (y := nv (((b0 * 256 + b1) * 256 + b2) * 256 + b3))
  rw [D05, List.length_reverse, hlen] at hput
  rw [show ((j : Int)).toNat = j from rfl, show 48 + (m + 1) = 48 + m + 1 from rfl, show V.i ((((b0 * 256 + b1) * 256 + b2) * 256 + b3 : Nat) : Int) = nv (((b0 * 256 + b1) * 256 + b2) * 256 + b3) from rfl, hput]
  have hl2 : l.reverse.map nv ++ [nv (((b0 * 256 + b1) * 256 + b2) * 256 + b3)] = ((((b0 * 256 + b1) * 256 + b2) * 256 + b3) :: l).reverse.map nv := by simp
  rw [hl2, ih (j + 1) n _ k (by omega) (by simp [hlen]) (by omega), gd]
  simp only [L7, P1]
  rfl
theorem A3j {l : List Nat} {r : List V} {q : Nat} (h : q < l.length) : elV (.l (l.reverse.map nv ++ r)) ((l.length - 1 - q : Nat) : Int) = ((l.getD q 0 : Nat) : Int) := by
 unfold elV V.nth
 simp only [V.els]
 rw [show (((l.length - 1 - q : Nat) : Int)).toNat = l.length - 1 - q from rfl, List.getD, List.getElem?_append_left (by simp; omega), List.getElem?_map, List.getElem?_reverse (by omega)]
 rw [show l.length - 1 - (l.length - 1 - q) = q by omega]
 simp [List.getD, h, nv, V.int]
theorem A19 : ∀ (m : Nat) (bs acc : List Nat), (∀ b ∈ bs, b < 256) → (∀ a ∈ acc, a < P5) → 4 * m ≤ bs.length → (∀ a ∈ L7 m bs acc, a < P5) ∧ (L7 m bs acc).length = m + acc.length := by
 intro m
 induction m with
 | zero => intro bs acc _ ha _; simp only [L7]; exact ⟨ha, by simp⟩
 | succ m ih =>
  intro bs acc hb ha hl
  match bs, hb, hl with
  | b0 :: b1 :: b2 :: b3 :: r, hb, hl =>
   simp only [L7, P1]
   have l0 := hb b0 (by simp)
   have l1 := hb b1 (by simp)
   have l2 := hb b2 (by simp)
   have l3 := hb b3 (by simp)
   obtain ⟨p, q⟩ := ih r ((((b0 * 256 + b1) * 256 + b2) * 256 + b3) :: acc) (fun b h => hb b (by simp [h])) (fun a h => by
    rcases List.mem_cons.1 h with rfl | h
    ·show _ < 4294967296; omega
    ·exact ha a h) (by simp at hl; omega)
   exact ⟨p, by rw [q]; simp; omega⟩
  | [], _, hl => simp at hl
  | [_], _, hl => simp at hl; omega
  | [_, _], _, hl => simp at hl; omega
  | [_, _, _], _, hl => simp at hl; omega
theorem A0T {l : List Nat} (h : ∀ a ∈ l, a < P5) (q : Nat) : l.getD q 0 < P5 := by
 rw [List.getD]
 cases hq : l[q]? with
 | none => show 0 < P5; decide
 | some a => exact h a (List.mem_of_getElem? hq)
theorem A7A : ∀ (m : Nat) (l : List Nat), (∀ a ∈ l, a < P5) → (∀ a ∈ A1H m l, a < P5) ∧ (A1H m l).length = m + l.length := by
 intro m
 induction m with
 | zero => intro l h; simp only [A1H]; exact ⟨h, by simp⟩
 | succ m ih =>
  intro l h
  simp only [A1H, P1]
  obtain ⟨p, q⟩ := ih (A3h l :: l) (fun a ha => by
   rcases List.mem_cons.1 ha with rfl | ha
   ·exact Nat.mod_lt _ (by decide)
   ·exact h a ha)
  exact ⟨p, by rw [q]; simp; omega⟩
theorem C9j {R : Type} {z : V} : ∀ (m n : Nat) (l : List Nat) (k : C6S → Option R), l.length + m = 64 → 16 ≤ l.length → (∀ a ∈ l, a < P5) → m < n →
  E2 (B4B R) n (.m z (l.length : Int) (.l (l.reverse.map nv ++ List.replicate m (.i 0)))) k = k (.o z 64 (.l ((A1H m l).reverse.map nv))) := by
 intro m
 induction m with
 | zero =>
  intro n l k hj h16 hlt hn
  obtain ⟨n, rfl⟩ : ∃ n', n = n' + 1 := ⟨n - 1, by omega⟩
  have : l.length = 64 := by omega
  rw [this]
  simp only [A1H, List.replicate_zero, List.append_nil]
  rfl
 | succ m ih =>
  intro n l k hj h16 hlt hn
  obtain ⟨n, rfl⟩ : ∃ n', n = n' + 1 := ⟨n - 1, by omega⟩
  have wi : ∀ d : Nat, d ≤ 16 → C6 ((l.length : Int) - (d : Int)) = ((l.length - d : Nat) : Int) := fun d hd => by rw [F0 (by omega) (by omega)]; omega
  have wj : C6 ((l.length : Int) + 1) = ((l.length + 1 : Nat) : Int) := by rw [F0 (by omega) (by omega)]; push_cast; rfl
  have e15 : C6 ((l.length : Int) - 15) = ((l.length - 1 - 14 : Nat) : Int) := (wi 15 (by omega)).trans (by omega)
  have e2 : C6 ((l.length : Int) - 2) = ((l.length - 1 - 1 : Nat) : Int) := (wi 2 (by omega)).trans (by omega)
  have e16 : C6 ((l.length : Int) - 16) = ((l.length - 1 - 15 : Nat) : Int) := (wi 16 (by omega)).trans (by omega)
  have e7 : C6 ((l.length : Int) - 7) = ((l.length - 1 - 6 : Nat) : Int) := (wi 7 (by omega)).trans (by omega)
  rw [E2]
  show (bif B7 (l.length : Int) 64 then _ else _) = _
  rw [show B7 (l.length : Int) 64 = true by simp [B7]; omega, cond_true]
  simp only
  rw [e15, e2, e16, e7, C1 (by omega) (by omega), C1 (by omega) (by omega), C1 (by omega) (by omega), C1 (by omega) (by omega), C1 (by omega) (by omega), wj]
  rw [A3j (by omega), A3j (by omega), A3j (by omega), A3j (by omega), C6L (A0T hlt _), C6M (A0T hlt _)]
  have hput := A5U (l := l.reverse.map nv) (m := m) (z := .i 0) (y := nv (A3h l))
  rw [D05, List.length_reverse] at hput
  have hval : W32 (W32 (W32 (((l.getD 15 0 : Nat) : Int) + ((l.getD 6 0 : Nat) : Int)) + ((sS0 (l.getD 14 0) : Nat) : Int)) + ((sS1 (l.getD 1 0) : Nat) : Int)) = ((A3h l : Nat) : Int) := by
   rw [← Int.natCast_add, A30, ← Int.natCast_add, A30, ← Int.natCast_add, A30]
   congr 1
   unfold A3h
   show _ = _ % 4294967296
   omega
  rw [hval, show ((l.length : Int)).toNat = l.length from rfl, show V.i ((A3h l : Nat) : Int) = nv (A3h l) from rfl, hput]
  have hl2 : l.reverse.map nv ++ [nv (A3h l)] = (A3h l :: l).reverse.map nv := by simp
  rw [hl2]
  have := ih n (A3h l :: l) k (by simp; omega) (by simp; omega) (fun a ha => by
   rcases List.mem_cons.1 ha with rfl | ha
   ·exact Nat.mod_lt _ (by decide)
   ·exact hlt a ha) (by omega)
  rw [D09] at this
  rw [this]
  simp only [A1H, P1]
variable {T : TT} {R : Type} {P : Program}
theorem B2Q {e : B4} {el : Nat} {kd : IntKind} (he : D4 T el = some (.int kd)) (hlo : lo kd = 0) : ∀ {n : Nat} {xs : List V} {cs : List Value}, RV T e (List.replicate n el) xs cs → ∃ ns : List Nat, xs = ns.map nv ∧ ∀ a ∈ ns, (a : Int) ≤ hi kd := by
 intro n
 induction n with
 | zero => intro xs cs h; cases h; exact ⟨[], rfl, fun a ha => by cases ha⟩
 | succ n ih =>
  intro xs cs h
  rw [List.replicate_succ] at h
  cases xs with
  | nil => cases h
  | cons x xs =>
   obtain ⟨d, r, rfl, g1, g2⟩ := h.cons_inv
   obtain ⟨m, rfl, _, hr⟩ := g1.int_inv he
   obtain ⟨ns, rfl, hn⟩ := ih g2
   unfold inR at hr
   rw [hlo] at hr
   refine ⟨m.toNat :: ns, ?_, fun a ha => ?_⟩
   ·simp only [List.map_cons, nv]
    rw [show ((m.toNat : Nat) : Int) = m by omega]
   ·rcases List.mem_cons.1 ha with rfl | ha
    ·omega
    ·exact hn a ha
theorem RP.uncons {e : B4} {t : Nat} {ts : List Nat} {x : V} {xs : List V} {vs : List Value} (h : RP T e (t :: ts) (x :: xs) vs) : ∃ v vs', vs = v :: vs' ∧ RV T e [t] [x] v.cells.toList ∧ RP T e ts xs vs' := by
 cases h with
 | cons h1 _ h2 => exact ⟨_, _, rfl, h1, h2⟩
theorem TV.head {t : Nat} {ts : List Nat} {x : V} {xs : List V} (h : TV T (t :: ts) (x :: xs)) : ∃ e cs, RV T e [t] [x] cs := by
 obtain ⟨e, vs, h⟩ := h
 obtain ⟨v, vs', _, h1, _⟩ := h.uncons
 exact ⟨e, _, h1⟩
theorem TV.tail {t : Nat} {ts : List Nat} {x : V} {xs : List V} (h : TV T (t :: ts) (x :: xs)) : TV T ts xs := by
 obtain ⟨e, vs, h⟩ := h
 obtain ⟨v, vs', _, _, h2⟩ := h.uncons
 exact ⟨e, vs', h2⟩
theorem TV.len {ts : List Nat} {xs : List V} (h : TV T ts xs) : xs.length = ts.length := by
 obtain ⟨e, vs, h⟩ := h
 induction h with
 | nil => rfl
 | cons _ _ _ ih => simp [ih]
theorem A5V {t el : Nat} {kd : IntKind} {x : V} {e : B4} {cs : List Value} (ht : D4 T t = some (.slice el)) (he : D4 T el = some (.int kd)) (hlo : lo kd = 0) (h : RV T e [t] [x] cs) : ∃ ns : List Nat, x.els = ns.map nv ∧ ∀ a ∈ ns, (a : Int) ≤ hi kd := by
 rcases h.slice_inv ht with ⟨rfl, _⟩ | ⟨ys, ds, a, cap, rfl, _, _, _, g⟩
 ·exact ⟨[], rfl, fun a ha => by cases ha⟩
 ·exact B2Q he hlo g
theorem C6V {t n el : Nat} {kd : IntKind} {x : V} {e : B4} {cs : List Value} (ht : D4 T t = some (.arr n el)) (he : D4 T el = some (.int kd)) (hlo : lo kd = 0) (h : RV T e [t] [x] cs) : ∃ ns : List Nat, x = .l (ns.map nv) ∧ ns.length = n ∧ ∀ a ∈ ns, (a : Int) ≤ hi kd := by
 obtain ⟨ys, rfl, hl, g⟩ := h.arr_inv ht
 obtain ⟨ns, rfl, hn⟩ := B2Q he hlo g
 exact ⟨ns, rfl, by simpa using hl, hn⟩
theorem C9k {α : Type} (o : Option α) : ob o some = o := by cases o <;> rfl
theorem A3k (hm : P.follows .mixedOrders = true) (hT : K0 T P) {tab : List (Nat × E7)} (h : D6 P T tab) {f d fu : Nat} {Lo : Nat → LC} {sh : Bool} {ts : List Nat} {rk : List RK} {F : FC} {G : (R : Type) → List V → (List Rs → Option R) → Option R} (hFn : F.nat) (hts : ts.all (fun t => (T t).isSome) = true)
  (hL : G7 P T f Lo)
  (hrun : ∀ (R : Type) xs (k : List Rs → Option R), TV T ts xs → D9 P T (F5 P T tab false fu d) Lo false fu f R (J1 T ts xs) (fun _ => none) 0 (fun out => ob (J8 T sh rk out) k) = G R xs k)
  (hG : ∀ xs rs, TV T ts xs → F (List Rs) xs some = some rs → G (List Rs) xs some = some rs) :
  D6 P T ((f, G1 T sh ts F) :: tab) :=
 A9G hm hT h hFn hts hL (fun xs rs htv hrs => by
  have := hG xs rs htv hrs
  rw [← hrun (List Rs) xs some htv] at this
  simpa only [C9k] using this)
def P9 (s : S8) : V := .l [nv s.a, nv s.b, nv s.c, nv s.d, nv s.e, nv s.f, nv s.g, nv s.h]
structure OkS (s : S8) : Prop where
 a : s.a < P5
 b : s.b < P5
 c : s.c < P5
 d : s.d < P5
 e : s.e < P5
 f : s.f < P5
 g : s.g < P5
 h : s.h < P5
theorem A8r {s : S8} (h : OkS s) (k w : Nat) : OkS (B1f s k w) := by
 unfold B1f
 simp only [P1]
 exact ⟨Nat.mod_lt _ (by decide), h.a, h.b, h.c, Nat.mod_lt _ (by decide), h.e, h.f, h.g⟩
theorem C6W {a : Nat} (h : a < P5) : J3 .xor .u32 4294967295 (a : Int) = ((4294967295 - a : Nat) : Int) := by
 rw [show (4294967295 : Int) = ((4294967295 : Nat) : Int) from rfl, A5S (by decide) h, C2d h]
theorem C2f {s : S8} (h : OkS s) {k w : Nat} (hk : k < P5) (hw : w < P5) : C9g (P9 s) (k : Int) (w : Int) = P9 (B1f s k w) := by
 have hne : 4294967295 - s.e < P5 := by show _ < 4294967296; omega
 have c1 : and (s.e : Int) (s.f : Int) = ((s.e &&& s.f : Nat) : Int) := A5T h.e h.f
 have c2 : and ((4294967295 - s.e : Nat) : Int) (s.g : Int) = (((4294967295 - s.e) &&& s.g : Nat) : Int) := A5T hne h.g
 have hch : xor (and (s.e : Int) (s.f : Int)) (and (J3 .xor .u32 4294967295 (s.e : Int)) (s.g : Int)) = ((chN s.e s.f s.g : Nat) : Int) := by
  rw [C6W h.e, c1, c2, A0H (R8 h.e) (R8 hne)]; rfl
 have hb1 : xor (xor (rot (s.e : Int) 6) (rot (s.e : Int) 11)) (rot (s.e : Int) 25) = ((bS1 s.e : Nat) : Int) := by
  rw [A02 h.e, A02 h.e, A02 h.e, A0H (C8 h.e) (C8 h.e), A0H (P8 (C8 h.e) (C8 h.e)) (C8 h.e)]; rfl
 have hb0 : xor (xor (rot (s.a : Int) 2) (rot (s.a : Int) 13)) (rot (s.a : Int) 22) = ((bS0 s.a : Nat) : Int) := by
  rw [A02 h.a, A02 h.a, A02 h.a, A0H (C8 h.a) (C8 h.a), A0H (P8 (C8 h.a) (C8 h.a)) (C8 h.a)]; rfl
 have hmaj : xor (xor (and (s.a : Int) (s.b : Int)) (and (s.a : Int) (s.c : Int))) (and (s.b : Int) (s.c : Int)) = ((B1e s.a s.b s.c : Nat) : Int) := by
  rw [A5T h.a h.b, A5T h.a h.c, A5T h.b h.c, A0H (R8 h.a) (R8 h.a), A0H (P8 (R8 h.a) (R8 h.a)) (R8 h.b)]; rfl
 have ht : W32 (W32 (W32 (W32 ((s.h : Int) + xor (xor (rot (s.e : Int) 6) (rot (s.e : Int) 11)) (rot (s.e : Int) 25)) + xor (and (s.e : Int) (s.f : Int)) (and (J3 .xor .u32 4294967295 (s.e : Int)) (s.g : Int))) + (k : Int)) + (w : Int)) = (((s.h + bS1 s.e + chN s.e s.f s.g + k + w) % 4294967296 : Nat) : Int) := by
  rw [hb1, hch, ← Int.natCast_add, A30, ← Int.natCast_add, A30, ← Int.natCast_add, A30, ← Int.natCast_add, A30]
  congr 1; omega
 have hu : W32 (xor (xor (rot (s.a : Int) 2) (rot (s.a : Int) 13)) (rot (s.a : Int) 22) + xor (xor (and (s.a : Int) (s.b : Int)) (and (s.a : Int) (s.c : Int))) (and (s.b : Int) (s.c : Int))) = (((bS0 s.a + B1e s.a s.b s.c) % 4294967296 : Nat) : Int) := by
  rw [hb0, hmaj, ← Int.natCast_add, A30]
 show V.l [.i (W32 (W32 (W32 (W32 (W32 ((s.h : Int) + xor (xor (rot (s.e : Int) 6) (rot (s.e : Int) 11)) (rot (s.e : Int) 25)) + xor (and (s.e : Int) (s.f : Int)) (and (J3 .xor .u32 4294967295 (s.e : Int)) (s.g : Int))) + (k : Int)) + (w : Int)) + W32 (xor (xor (rot (s.a : Int) 2) (rot (s.a : Int) 13)) (rot (s.a : Int) 22) + xor (xor (and (s.a : Int) (s.b : Int)) (and (s.a : Int) (s.c : Int))) (and (s.b : Int) (s.c : Int))))), .i s.a, .i s.b, .i s.c, .i (W32 ((s.d : Int) + W32 (W32 (W32 (W32 ((s.h : Int) + xor (xor (rot (s.e : Int) 6) (rot (s.e : Int) 11)) (rot (s.e : Int) 25)) + xor (and (s.e : Int) (s.f : Int)) (and (J3 .xor .u32 4294967295 (s.e : Int)) (s.g : Int))) + (k : Int)) + (w : Int)))), .i s.e, .i s.f, .i s.g] = _
 rw [ht, hu, ← Int.natCast_add, ← Int.natCast_add, A30, A30]
 unfold B1f P9
 simp only [P1, nv]
 refine congrArg V.l ?_
 congr 1
 ·congr 1; congr 1; show _ = _ % 4294967296; omega
 ·congr 3
  congr 1
  congr 1; congr 1; show _ = _ % 4294967296; omega
theorem A5W {l : List Nat} {j : Nat} (h : j < l.length) : elV (.l (l.map nv)) (j : Int) = ((l[j] : Nat) : Int) := by
 unfold elV V.nth
 simp only [V.els]
 rw [show ((j : Int)).toNat = j from rfl, List.getD, List.getElem?_map, D1e h]
 rfl
theorem C9l {s z : V} {K W : List Nat} (hK : K.length = 64) (hW : W.length = 64) (kK : ∀ a ∈ K, a < P5) (kW : ∀ a ∈ W, a < P5) : ∀ (m j n : Nat) (x : S8) (k : C6T → Option R), j + m = 64 → OkS x → m < n →
  E2 (B7D R) n (.m s z (.l (W.map nv)) (.l (K.map nv)) (P9 x) (j : Int)) k = k (.o s z (.l (W.map nv)) (.l (K.map nv)) (P9 (A7y (K.drop j) (W.drop j) x)) 64) := by
 intro m
 induction m with
 | zero =>
  intro j n x k hj hx hn
  obtain ⟨n, rfl⟩ : ∃ n', n = n' + 1 := ⟨n - 1, by omega⟩
  have : j = 64 := by omega
  subst this
  rw [List.drop_of_length_le (by omega), List.drop_of_length_le (by omega)]
  rfl
 | succ m ih =>
  intro j n x k hj hx hn
  obtain ⟨n, rfl⟩ : ∃ n', n = n' + 1 := ⟨n - 1, by omega⟩
  have wj : C6 ((j : Int) + 1) = ((j + 1 : Nat) : Int) := by rw [F0 (by omega) (by omega)]; push_cast; rfl
  rw [E2]
  show (bif B7 (j : Int) 64 then _ else _) = _
  rw [show B7 (j : Int) 64 = true by simp [B7]; omega, cond_true]
  simp only
  rw [C1 (by omega) (by omega), C1 (by omega) (by omega), wj, A5W (by omega), A5W (by omega), C2f hx (kK _ (List.getElem_mem ..)) (kW _ (List.getElem_mem ..)), ih (j + 1) n _ k (by omega) (A8r hx _ _) (by omega)]
  rw [List.drop_eq_getElem_cons (show j < K.length by omega), List.drop_eq_getElem_cons (show j < W.length by omega)]
  rfl
theorem C2g {s x : S8} : OkS (B1g s x) := by
 unfold B1g
 simp only [P1]
 exact ⟨Nat.mod_lt _ (by decide), Nat.mod_lt _ (by decide), Nat.mod_lt _ (by decide), Nat.mod_lt _ (by decide), Nat.mod_lt _ (by decide), Nat.mod_lt _ (by decide), Nat.mod_lt _ (by decide), Nat.mod_lt _ (by decide)⟩
theorem C9m {s x : S8} {z : V} {n : Nat} {k : C6U → Option R} :
  E2 (B1k R) (n + 9) (.m (P9 s) z (P9 x) 0) k = k (.o (P9 (B1g s x)) z (P9 x) 8) := by
 have h1 : E2 (B1k R) (n + 9) (.m (P9 s) z (P9 x) 0) k = k (.o (.l [.i (W32 ((s.a : Int) + (x.a : Int))), .i (W32 ((s.b : Int) + (x.b : Int))), .i (W32 ((s.c : Int) + (x.c : Int))), .i (W32 ((s.d : Int) + (x.d : Int))), .i (W32 ((s.e : Int) + (x.e : Int))), .i (W32 ((s.f : Int) + (x.f : Int))), .i (W32 ((s.g : Int) + (x.g : Int))), .i (W32 ((s.h : Int) + (x.h : Int)))]) z (P9 x) 8) := by kernel_rfl
 rw [h1]
 simp only [← Int.natCast_add, A30]
 unfold B1g P9
 simp only [P1]
 rfl
variable {T : TT} {R : Type} {P : Program}
def z64 : V := .l (List.replicate 64 (.i 0))
def z8 : V := .l (List.replicate 8 (.i 0))
def A2a : V := .l (A7z.map nv)
def F1 (x : V) : List Nat := x.els.map fun v => v.int.toNat
def spW (x : V) : V := .l ((A1H 48 (L7 16 (F1 x) [])).reverse.map nv)
def s8 (x : V) : S8 := ⟨(x.nth 0).int.toNat, (x.nth 1).int.toNat, (x.nth 2).int.toNat, (x.nth 3).int.toNat, (x.nth 4).int.toNat, (x.nth 5).int.toNat, (x.nth 6).int.toNat, (x.nth 7).int.toNat⟩
def A8s (s b : V) : V := P9 (A18 (s8 s) (F1 b))
def Fsp (t : Nat) : FC := fun R xs k => match xs with
 | [x] => bif Nat.ble 64 x.els.length then k [.d t (spW x)] else none
 | _ => none
def Fmx (t : Nat) : FC := fun R xs k => match xs with
 | [s, b] => bif Nat.ble 64 b.els.length then k [.d t (A8s s b)] else none
 | _ => none
theorem C2h (t : Nat) : FC.nat (Fsp t) := by
 intro R xs k
 unfold Fsp
 split
 ·rename_i x; cases Nat.ble 64 x.els.length <;> rfl
 ·rfl
theorem C2i (t : Nat) : FC.nat (Fmx t) := by
 intro R xs k
 unfold Fmx
 split
 ·rename_i s b; cases Nat.ble 64 b.els.length <;> rfl
 ·rfl
theorem J5 {x : V} {bs : List Nat} (hx : x.els = bs.map nv) : F1 x = bs := by
 unfold F1
 rw [hx, List.map_map]
 conv => rhs; rw [← List.map_id bs]
 apply List.map_congr_left
 intro a _
 rfl
theorem B1m {x : V} {bs : List Nat} (hx : x.els = bs.map nv) (hb : ∀ b ∈ bs, b < 256) (hl : 64 ≤ bs.length) {n : Nat} (hn : 64 < n) (k : V → Option R) :
  E2 (B7C R) n (.m x z64 0 z64) (fun | .o _ z _ w => E2 (B4B R) n (.m z 16 w) (fun | .o _ _ w => k w)) = k (spW x) := by
 have h1 := C9i (R := R) (z := z64) hx hb hl 16 0 n [] (fun | .o _ z _ w => E2 (B4B R) n (.m z 16 w) (fun | .o _ _ w => k w)) rfl rfl (by omega)
 obtain ⟨w1, w2⟩ := A19 16 bs [] hb (fun a h => by cases h) (by omega)
 have h2 := C9j (R := R) (z := z64) 48 n (L7 16 bs []) (fun | .o _ _ w => k w) (by rw [w2]; rfl) (by rw [w2]; simp) w1 (by omega)
 rw [w2] at h2
 refine h1.trans (Eq.trans ?_ (h2.trans ?_))
 ·rfl
 ·show k _ = _
  unfold spW
  rw [J5 hx]
theorem A9I : ∀ a ∈ A7z, a < P5 := by decide
theorem C6X (s : S8) : s8 (P9 s) = s := rfl
theorem C2j {s : S8} {b : V} {bs : List Nat} (hs : OkS s) (hx : b.els = bs.map nv) (hb : ∀ b ∈ bs, b < 256) (hl : 64 ≤ bs.length) {n : Nat} (hn : 64 < n) (k : V → Option R) :
  E2 (B7D R) n (.m (P9 s) z8 (spW b) A2a (P9 s) 0) (fun | .o s z _ _ x _ => E2 (B1k R) n (.m s z x 0) (fun | .o s _ _ _ => k s)) = k (A8s (P9 s) b) := by
 obtain ⟨w1, w2⟩ := A19 16 bs [] hb (fun a h => by cases h) (by omega)
 obtain ⟨c1, c2⟩ := A7A 48 (L7 16 bs []) w1
 have h1 := C9l (R := R) (s := P9 s) (z := z8) (K := A7z) (W := (A1H 48 (L7 16 bs [])).reverse) rfl (by rw [List.length_reverse, c2, w2]; rfl) A9I (fun a h => c1 a (List.mem_reverse.1 h)) 64 0 n s
  (fun | .o s z _ _ x _ => E2 (B1k R) n (.m s z x 0) (fun | .o s _ _ _ => k s)) rfl hs (by omega)
 have hsp : spW b = .l ((A1H 48 (L7 16 bs [])).reverse.map nv) := by unfold spW; rw [J5 hx]
 rw [hsp]
 refine h1.trans ?_
 obtain ⟨n, rfl⟩ : ∃ n', n = n' + 9 := ⟨n - 9, by omega⟩
 refine C9m.trans ?_
 show k _ = k _
 unfold A8s A18
 rw [C6X, J5 hx]
 rfl
theorem C6Y {ns : List Nat} (hl : ns.length = 8) (h : ∀ a ∈ ns, (a : Int) ≤ 4294967295) : ∃ s, V.l (ns.map nv) = P9 s ∧ OkS s := by
 match ns, hl with
 | [a, b, c, d, e, f, g, i], _ =>
  have q : ∀ x ∈ [a, b, c, d, e, f, g, i], x < P5 := fun x hx => by have := h x hx; show x < 4294967296; omega
  exact ⟨⟨a, b, c, d, e, f, g, i⟩, rfl, ⟨q _ (by simp), q _ (by simp), q _ (by simp), q _ (by simp), q _ (by simp), q _ (by simp), q _ (by simp), q _ (by simp)⟩⟩
theorem B7F {bs : List Nat} (h : ∀ a ∈ bs, (a : Int) ≤ hi .u8) : ∀ b ∈ bs, b < 256 := fun b hb => by have := h b hb; simp only [hi] at this; omega
end Go.Vm
end