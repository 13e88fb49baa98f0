/- What the operations of a program do, shown once for all programs; and numbers. -/
import Derived.Test.YtoodhpoicinomaaGreatVm8
import Derived.Test.YtoodhpoicinomaaGreatVm7
set_option linter.constructorNameAsVariable false
set_option linter.unusedVariables false
set_option linter.unusedSimpArgs false
noncomputable section
namespace Go.Vm
open Go.RowKit
variable {P : Program} {T : TT} {c : Ctx} {e eb : Env} {of of' : Nat → Option Ob}
noncomputable def tolN {α : Type} (n : Nat) : (Nat → α) → α := @Nat.rec (fun _ => (Nat → α) → α) (fun k => k 0) (fun m _ k => k (Nat.succ m)) n
theorem tolN_eq {α : Type} (n : Nat) (k : Nat → α) : tolN n k = k n := by cases n <;> rfl
noncomputable def tolI {α : Type} (i : Int) : (Int → α) → α := @Int.rec (fun _ => (Int → α) → α) (fun n k => tolN n fun n => k (.ofNat n)) (fun n k => tolN n fun n => k (.negSucc n)) i
theorem tolI_eq {α : Type} (i : Int) (k : Int → α) : tolI i k = k i := by
  cases i with
  | ofNat n => exact tolN_eq n fun n => k (.ofNat n)
  | negSucc n => exact tolN_eq n fun n => k (.negSucc n)
noncomputable def tolA {α : Type} (a : A) : (A → α) → α :=
  @A.rec (fun _ => (A → α) → α) (fun _ => Unit)
    (fun kd n k => tolI n fun n => k (.i kd n)) (fun q k => @Bool.rec (fun _ => (A → α) → α) (fun k => k (.b false)) (fun k => k (.b true)) q k) (fun l k => k (.s l)) (fun v k => k (.z v)) (fun t x k => k (.v t x)) (fun id t p k => k (.p id t p))
    (fun id v i t p k => k (.e id v i t p)) (fun t x k => k (.c t x)) (fun t x k => k (.q t x)) (fun id v k => k (.o id v)) (fun id v o n k => k (.w id v o n)) (fun id t p l m k => k (.a id t p l m)) (fun id k => k (.m id)) (fun id k => k (.y id))
    (fun f c _ k => k (.f f c)) (fun t l _ k => k (.g t l)) (fun l _ k => k (.t l)) (fun k => k .x) () (fun _ _ _ _ => ()) a
theorem tolA_eq {α : Type} (a : A) (k : A → α) : tolA a k = k a := by
  cases a with
  | i kd n => exact tolI_eq n fun n => k (.i kd n)
  | b q => cases q <;> rfl
  | _ => rfl
noncomputable def tolL {α β : Type} (l : List β) : (List β → α) → α := @List.rec β (fun _ => (List β → α) → α) (fun k => k []) (fun a r _ k => k (a :: r)) l
theorem tolL_eq {α β : Type} (l : List β) (k : List β → α) : tolL l k = k l := by cases l <;> rfl
noncomputable def onO {α β : Type} (q : Option α) : (α → Option β) → Option β := @Option.rec α (fun _ => (α → Option β) → Option β) (fun _ => none) (fun a k => k a) q
theorem onO_eq {α β : Type} (q : Option α) (k : α → Option β) : onO q k = match q with
    | some a => k a
    | none => none := by cases q <;> rfl
noncomputable def addQ (ob : Tr) (l : List Nat) : List Nat → List Nat :=
  @List.rec Nat (fun _ => List Nat → List Nat) (fun rd => rd) (fun id _ ih rd => @Option.rec Ob (fun _ => List Nat) (@Bool.rec (fun _ => List Nat) (ih (id :: rd)) (ih rd) (mem id rd)) (fun _ => ih rd) (ob.get id)) l
theorem addQ_eq (ob : Tr) : ∀ (l rd : List Nat), addQ ob l rd = addR ob l rd := by
  intro l
  induction l with
  | nil => intro rd; rfl
  | cons id r ih =>
    intro rd
    show @Option.rec Ob (fun _ => List Nat) (@Bool.rec (fun _ => List Nat) (addQ ob r (id :: rd)) (addQ ob r rd) (mem id rd)) (fun _ => addQ ob r rd) (ob.get id) = _
    rw [ih, ih]
    simp only [addR]
    cases ob.get id with
    | none => cases mem id rd <;> rfl
    | some o => rfl
noncomputable def setQ (l : List (Nat × Ob)) : Tr → Tr := @List.rec (Nat × Ob) (fun _ => Tr → Tr) (fun t => t) (fun p _ ih t => ih (t.set p.1 p.2)) l
theorem setQ_eq : ∀ (l : List (Nat × Ob)) (t : Tr), setQ l t = setL t l := by
  intro l
  induction l with
  | nil => intro t; rfl
  | cons p r ih => intro t; exact ih _
noncomputable def leQ (a b : Int) : Bool :=
  @Int.rec (fun _ => Int → Bool) (fun n b => @Int.rec (fun _ => Nat → Bool) (fun m n => Nat.ble n m) (fun _ _ => false) b n) (fun n b => @Int.rec (fun _ => Nat → Bool) (fun _ _ => true) (fun m n => Nat.ble m n) b n) a b
theorem leQ_eq (a b : Int) : leQ a b = ile a b := by
  rw [Bool.eq_iff_iff, ile_iff]
  cases a <;> cases b <;> simp only [leQ, Nat.ble_eq, Int.ofNat_eq_natCast, Bool.false_eq_true, false_iff, true_iff] <;> omega
noncomputable def ltQ (a b : Int) : Bool :=
  @Int.rec (fun _ => Int → Bool) (fun n b => @Int.rec (fun _ => Nat → Bool) (fun m n => Nat.blt n m) (fun _ _ => false) b n) (fun n b => @Int.rec (fun _ => Nat → Bool) (fun _ _ => true) (fun m n => Nat.blt m n) b n) a b
theorem ltQ_eq (a b : Int) : ltQ a b = ilt a b := by
  rw [Bool.eq_iff_iff, ilt_iff]
  cases a <;> cases b <;> simp only [ltQ, Nat.blt_eq, Int.ofNat_eq_natCast, Bool.false_eq_true, false_iff, true_iff] <;> omega
noncomputable def eqQ (a b : Int) : Bool :=
  @Int.rec (fun _ => Int → Bool) (fun n b => @Int.rec (fun _ => Nat → Bool) (fun m n => Nat.beq n m) (fun _ _ => false) b n) (fun n b => @Int.rec (fun _ => Nat → Bool) (fun _ _ => false) (fun m n => Nat.beq n m) b n) a b
theorem eqQ_eq (a b : Int) : eqQ a b = ieq a b := by cases a <;> cases b <;> rfl
noncomputable def wrapQ (sg : Bool) (p h : Nat) (n : Int) : Int :=
  (fun m => @Bool.rec (fun _ => Nat → Int) (fun m => .ofNat m) (fun m => @Bool.rec (fun _ => Nat → Int) (fun m => .negSucc (p - m - 1)) (fun m => .ofNat m) (Nat.blt m h) m) sg m)
    (@Int.rec (fun _ => Nat) (fun m => m % p) (fun m => p - 1 - m % p) n)
theorem wrapQ_ofNat (k : IntKind) (n : Int) (sg : Bool) (p h : Nat) (hs : k.signed = sg) (hp : (2 : Int) ^ k.bits = (p : Int)) (hh : (2 : Int) ^ (k.bits - 1) = (h : Int)) (h0 : 0 < p) : wrapQ sg p h n = k.wrap n := by
  have hm : ∀ m : Nat, m < p → (n % (p : Int) = (m : Int)) → (@Bool.rec (fun _ => Nat → Int) (fun m => .ofNat m) (fun m => @Bool.rec (fun _ => Nat → Int) (fun m => .negSucc (p - m - 1)) (fun m => .ofNat m) (Nat.blt m h) m) sg m : Int) = k.wrap n := fun m hlt hmod => by
    unfold IntKind.wrap
    simp only [hs, hp, hh, hmod]
    cases sg with
    | false => simp
    | true =>
      show (@Bool.rec (fun _ => Nat → Int) (fun m => .negSucc (p - m - 1)) (fun m => .ofNat m) (Nat.blt m h) m : Int) = _
      cases hb : Nat.blt m h with
      | true =>
        have : m < h := by simpa [Nat.blt_eq] using hb
        have h2 : ¬ ((m : Int) ≥ (h : Int)) := by omega
        simp [h2]
      | false =>
        have : ¬ m < h := by intro q; rw [show Nat.blt m h = true by simpa [Nat.blt_eq] using q] at hb; cases hb
        have h2 : (m : Int) ≥ (h : Int) := by omega
        simp only [h2, decide_true, Bool.and_self, if_true, Bool.true_and, ge_iff_le]
        show Int.negSucc (p - m - 1) = _
        rw [Int.negSucc_eq]
        omega
  cases n with
  | ofNat m =>
    refine hm (m % p) (Nat.mod_lt _ h0) ?_
    show ((m : Int) % (p : Int)) = _
    omega
  | negSucc m =>
    refine hm (p - 1 - m % p) (by have := Nat.mod_lt m h0; omega) ?_
    rw [Int.negSucc_emod _ (by omega)]
    have := Nat.mod_lt m h0
    omega
structure WrR where
  run : Int → Int
noncomputable def wrR : IntKind → WrR
  | .i8 => ⟨fun n => wrapQ true 256 128 n⟩
  | .i16 => ⟨fun n => wrapQ true 65536 32768 n⟩
  | .i32 => ⟨fun n => wrapQ true 4294967296 2147483648 n⟩
  | .i64 => ⟨fun n => wrapQ true 18446744073709551616 9223372036854775808 n⟩
  | .u8 => ⟨fun n => wrapQ false 256 128 n⟩
  | .u16 => ⟨fun n => wrapQ false 65536 32768 n⟩
  | .u32 => ⟨fun n => wrapQ false 4294967296 2147483648 n⟩
  | .u64 => ⟨fun n => wrapQ false 18446744073709551616 9223372036854775808 n⟩
theorem wrR_eq (k : IntKind) (n : Int) : (wrR k).run n = k.wrap n := by
  cases k with
  | i8 => exact wrapQ_ofNat .i8 n true 256 128 rfl rfl rfl (by decide)
  | i16 => exact wrapQ_ofNat .i16 n true 65536 32768 rfl rfl rfl (by decide)
  | i32 => exact wrapQ_ofNat .i32 n true 4294967296 2147483648 rfl rfl rfl (by decide)
  | i64 => exact wrapQ_ofNat .i64 n true 18446744073709551616 9223372036854775808 rfl rfl rfl (by decide)
  | u8 => exact wrapQ_ofNat .u8 n false 256 128 rfl rfl rfl (by decide)
  | u16 => exact wrapQ_ofNat .u16 n false 65536 32768 rfl rfl rfl (by decide)
  | u32 => exact wrapQ_ofNat .u32 n false 4294967296 2147483648 rfl rfl rfl (by decide)
  | u64 => exact wrapQ_ofNat .u64 n false 18446744073709551616 9223372036854775808 rfl rfl rfl (by decide)
structure IbR where
  run : IntKind → Int → Int → Option A
noncomputable def intR : BinOp → IbR
  | .add => ⟨fun k a b => some (.i k ((wrR k).run (a + b)))⟩
  | .sub => ⟨fun k a b => some (.i k ((wrR k).run (a - b)))⟩
  | .mul => ⟨fun k a b => some (.i k ((wrR k).run (a * b)))⟩
  | .quo => ⟨fun k a b => bif eqQ b 0 then none else some (.i k ((wrR k).run (a.tdiv b)))⟩
  | .rem => ⟨fun k a b => bif eqQ b 0 then none else some (.i k (a.tmod b))⟩
  | .shl => ⟨fun k a b => bif leQ 0 b then some (.i k ((wrR k).run (a * 2 ^ min b.toNat k.bits))) else none⟩
  | .shr => ⟨fun k a b => bif leQ 0 b then some (.i k (a.fdiv (2 ^ min b.toNat k.bits))) else none⟩
  | .eql => ⟨fun k a b => some (.b (eqQ a b))⟩
  | .neq => ⟨fun k a b => some (.b (!eqQ a b))⟩
  | .lss => ⟨fun k a b => some (.b (ltQ a b))⟩
  | .leq => ⟨fun k a b => some (.b (leQ a b))⟩
  | .gtr => ⟨fun k a b => some (.b (ltQ b a))⟩
  | .geq => ⟨fun k a b => some (.b (leQ b a))⟩
  | .and => ⟨fun k a b => intA .and k a b⟩
  | .or => ⟨fun k a b => intA .or k a b⟩
  | .xor => ⟨fun k a b => intA .xor k a b⟩
  | .andNot => ⟨fun k a b => intA .andNot k a b⟩
theorem intR_eq (op : BinOp) (k : IntKind) (a b : Int) : (intR op).run k a b = intA op k a b := by
  cases op <;> simp only [intR, intA, wrR_eq, leQ_eq, ltQ_eq, eqQ_eq]
  case quo => cases ieq b 0 <;> rfl
  case rem => cases ieq b 0 <;> rfl
  case shl => cases ile 0 b <;> rfl
  case shr => cases ile 0 b <;> rfl
structure OpR where
  run : KS → (Nat → A) → (Nat → Option Ob) → Nat → Option Eff
structure OdR where
  get : (Nat → A) → A
def odR : Operand → OdR
  | .tmp t => ⟨fun sl => sl t⟩
  | .const v => ⟨fun _ => constA v⟩
  | .func f => ⟨fun _ => .f f []⟩
  | .global _ => ⟨fun _ => .x⟩
theorem odR_eq (x : Operand) (sl : Nat → A) : (odR x).get sl = evO sl x := by cases x <;> rfl
structure OlR where
  get : (Nat → A) → List A
def olR : List Operand → OlR
  | [] => ⟨fun _ => []⟩
  | x :: r => ⟨fun sl => (odR x).get sl :: (olR r).get sl⟩
theorem olR_eq (l : List Operand) (sl : Nat → A) : (olR l).get sl = l.map (evO sl) := by
  induction l with
  | nil => rfl
  | cons x r ih => simp only [olR, List.map_cons, odR_eq, ih]
structure OpsR where
  get : (Nat → A) → List (Nat × A)
def partsR : List (Nat × Operand) → OpsR
  | [] => ⟨fun _ => []⟩
  | x :: r => ⟨fun sl => (x.1, (odR x.2).get sl) :: (partsR r).get sl⟩
theorem partsR_eq (l : List (Nat × Operand)) (sl : Nat → A) : (partsR l).get sl = partsA (evO sl) l := by
  induction l with
  | nil => rfl
  | cons x r ih => simp only [partsR, odR_eq, ih]; rfl
structure OoR where
  get : (Nat → A) → Option A
def ooR : Option Operand → OoR
  | none => ⟨fun _ => none⟩
  | some x => ⟨fun sl => some ((odR x).get sl)⟩
theorem ooR_eq (o : Option Operand) (sl : Nat → A) : (ooR o).get sl = o.map (evO sl) := by
  cases o with
  | none => rfl
  | some x => simp only [ooR, odR_eq, Option.map_some]
noncomputable def selF {R : Type} (a : A) : (Nat → List A → R) → (Nat → R) → R → R :=
  @A.rec (fun _ => (Nat → List A → R) → (Nat → R) → R → R) (fun _ => Unit)
    (fun _ _ _ _ d => d) (fun _ _ _ d => d) (fun _ _ _ d => d) (fun _ _ _ d => d) (fun _ _ _ _ d => d) (fun _ _ _ _ _ d => d) (fun _ _ _ _ _ _ _ d => d) (fun _ _ _ _ d => d) (fun _ _ _ _ d => d)
    (fun _ _ _ _ d => d) (fun _ _ _ _ _ _ d => d) (fun _ _ _ _ _ _ _ d => d) (fun _ _ _ d => d) (fun id _ y _ => y id) (fun fn cap _ f _ _ => f fn cap) (fun _ _ _ _ _ d => d) (fun _ _ _ _ d => d) (fun _ _ d => d) () (fun _ _ _ _ => ()) a
noncomputable def selI {R : Type} (a : A) : (IntKind → Int → R) → R → R :=
  @A.rec (fun _ => (IntKind → Int → R) → R → R) (fun _ => Unit)
    (fun k n f _ => f k n) (fun _ _ d => d) (fun _ _ d => d) (fun _ _ d => d) (fun _ _ _ d => d) (fun _ _ _ _ d => d) (fun _ _ _ _ _ _ d => d) (fun _ _ _ d => d) (fun _ _ _ d => d)
    (fun _ _ _ d => d) (fun _ _ _ _ _ d => d) (fun _ _ _ _ _ _ d => d) (fun _ _ d => d) (fun _ _ d => d) (fun _ _ _ _ d => d) (fun _ _ _ _ d => d) (fun _ _ _ d => d) (fun _ d => d) () (fun _ _ _ _ => ()) a
noncomputable def selO {R : Type} (a : A) : (Nat → Nat → R) → R → R := @A.rec (fun _ => (Nat → Nat → R) → R → R) (fun _ => Unit) (fun _ _ f d => d) (fun _ f d => d) (fun _ f d => d) (fun _ f d => d) (fun _ _ f d => d) (fun _ _ _ f d => d) (fun _ _ _ _ _ f d => d) (fun _ _ f d => d) (fun _ _ f d => d) (fun id ver f d => f id ver) (fun _ _ _ _ f d => d) (fun _ _ _ _ _ f d => d) (fun _ f d => d) (fun _ f d => d) (fun _ _ _ f d => d) (fun _ _ _ f d => d) (fun _ _ f d => d) (fun f d => d) () (fun _ _ _ _ => ()) a
noncomputable def selP {R : Type} (a : A) : (Nat → Nat → List Nat → R) → R → R := @A.rec (fun _ => (Nat → Nat → List Nat → R) → R → R) (fun _ => Unit) (fun _ _ f d => d) (fun _ f d => d) (fun _ f d => d) (fun _ f d => d) (fun _ _ f d => d) (fun id t path f d => f id t path) (fun _ _ _ _ _ f d => d) (fun _ _ f d => d) (fun _ _ f d => d) (fun _ _ f d => d) (fun _ _ _ _ f d => d) (fun _ _ _ _ _ f d => d) (fun _ f d => d) (fun _ f d => d) (fun _ _ _ f d => d) (fun _ _ _ f d => d) (fun _ _ f d => d) (fun f d => d) () (fun _ _ _ _ => ()) a
noncomputable def selRow {R : Type} (q : Option Ob) : (Nat → Nat → List V → Bool → Bool → R) → R → R :=
  @Option.rec Ob (fun _ => (Nat → Nat → List V → Bool → Bool → R) → R → R) (fun _ d => d) (fun o f d => @Ob.rec (fun _ => (Nat → Nat → List V → Bool → Bool → R) → R → R) (fun _ _ _ _ d => d) (fun el v xs nl sh f _ => f el v xs nl sh) (fun _ _ _ _ d => d) (fun _ _ d => d) (fun _ _ d => d) (fun _ _ _ _ d => d) (fun _ _ _ _ _ _ d => d) o f d) q
noncomputable def selBox {R : Type} (q : Option Ob) : (Nat → A → Bool → R) → R → R :=
  @Option.rec Ob (fun _ => (Nat → A → Bool → R) → R → R) (fun _ d => d) (fun o f d => @Ob.rec (fun _ => (Nat → A → Bool → R) → R → R) (fun t a sh f _ => f t a sh) (fun _ _ _ _ _ _ d => d) (fun _ _ _ _ d => d) (fun _ _ d => d) (fun _ _ d => d) (fun _ _ _ _ d => d) (fun _ _ _ _ _ _ d => d) o f d) q
noncomputable def iteQ {R : Type} (b : Bool) : R → R → R := @Bool.rec (fun _ => R → R → R) (fun _ e => e) (fun t _ => t) b
theorem iteQ_eq {R : Type} (b : Bool) (t e : R) : iteQ b t e = if b then t else e := by cases b <;> rfl
noncomputable def lenQ (l : List V) : Nat := @List.rec V (fun _ => Nat) 0 (fun _ _ ih => Nat.succ ih) l
theorem lenQ_eq (l : List V) : lenQ l = l.length := by
  induction l with
  | nil => rfl
  | cons a r ih => show Nat.succ (lenQ r) = _; rw [ih]; rfl
noncomputable def appQ (l : List V) : List V → List V := @List.rec V (fun _ => List V → List V) (fun m => m) (fun a _ ih m => a :: ih m) l
theorem appQ_eq (l m : List V) : appQ l m = l ++ m := by
  induction l with
  | nil => rfl
  | cons a r ih => show a :: appQ r m = _; rw [ih]; rfl
noncomputable def getQ (l : List V) : Nat → V := @List.rec V (fun _ => Nat → V) (fun _ => .n) (fun a _ ih i => @Nat.rec (fun _ => V) a (fun j _ => ih j) i) l
theorem getQ_eq : ∀ (l : List V) (i : Nat), getQ l i = l.getD i .n := by
  intro l
  induction l with
  | nil => intro i; simp [getQ, List.getD]
  | cons a r ih =>
    intro i
    cases i with
    | zero => rfl
    | succ j => show getQ r j = _; rw [ih]; simp [List.getD]
structure MkR where
  run : V → A
def mkR (T : TT) (t : Nat) : MkR :=
  match kOf T t with
  | some (.int k) => ⟨fun x => .i k x.int⟩
  | some .bool => ⟨fun x => .b x.bl⟩
  | some .str => ⟨fun x => .s x.els⟩
  | some .func => ⟨fun x => mkA T t x⟩
  | _ => ⟨fun x => .v t x⟩
theorem mkR_eq (t : Nat) (x : V) : (mkR T t).run x = mkA T t x := by
  unfold mkR
  cases hk : kOf T t with
  | none => simp [mkA, hk]
  | some k => cases k <;> simp [mkA, hk]
def intFit (T : TT) (t : Nat) (k : IntKind) : Bool := (match kOf T t with
    | some (.int k') => k == k'
    | _ => false) && Nat.beq (szT T t) 1
noncomputable def asF (T : TT) (t : Nat) (a : A) : Option A := @A.rec (fun _ => A → Option A) (fun _ => Unit) (fun k n a => iteQ (intFit T t k) (some a) none) (fun _ a => asT T t a) (fun _ a => asT T t a) (fun _ a => asT T t a) (fun t1 x a => iteQ (same T t t1) (some (.v t x)) none) (fun _ _ _ a => asT T t a) (fun _ _ _ _ _ a => asT T t a) (fun _ _ a => asT T t a) (fun _ _ a => asT T t a) (fun id ver a => iteQ (scal T t) (some a) none) (fun _ _ _ _ a => asT T t a) (fun _ _ _ _ _ a => asT T t a) (fun _ a => asT T t a) (fun _ a => asT T t a) (fun _ _ _ a => asT T t a) (fun _ _ _ a => asT T t a) (fun _ _ a => asT T t a) (fun a => asT T t a) () (fun _ _ _ _ => ()) a a
theorem asF_eq (t : Nat) (a : A) : asF T t a = asT T t a := by
  cases a <;> try rfl
  case i k n => show iteQ (intFit T t k) _ _ = _; rw [iteQ_eq]; rfl
  case v t1 x => show iteQ (same T t t1) _ _ = _; rw [iteQ_eq]; rfl
  case o id ver => show iteQ (scal T t) _ _ = _; rw [iteQ_eq]; rfl
noncomputable def normF (T : TT) (a : A) : A := @A.rec (fun _ => A → A) (fun _ => Unit) (fun _ _ a => a) (fun _ a => a) (fun _ a => a) (fun _ a => a) (fun t x a => (mkR T t).run x) (fun _ _ _ a => a) (fun _ _ _ _ _ a => a) (fun _ _ a => a) (fun _ _ a => a) (fun _ _ a => a) (fun _ _ _ _ a => a) (fun _ _ _ _ _ a => a) (fun _ a => a) (fun _ a => a) (fun _ _ _ a => a) (fun _ _ _ a => a) (fun _ _ a => a) (fun a => a) () (fun _ _ _ _ => ()) a a
theorem normF_eq (a : A) : normF T a = norm T a := by
  cases a <;> try rfl
  case v t x => exact mkR_eq t x
noncomputable def atF (T : TT) (a : A) (path : List Nat) : Option A := @List.rec Nat (fun _ => A → List Nat → Option A) (fun a _ => some (normF T a)) (fun _ _ _ a p => atA T a p) path a path
theorem atF_eq (a : A) (path : List Nat) : atF T a path = atA T a path := by
  cases path with
  | nil => show some (normF T a) = _; rw [normF_eq]; cases a <;> rfl
  | cons _ _ => rfl
noncomputable def putF (T : TT) (a : A) (path : List Nat) (b : A) : Option A := @List.rec Nat (fun _ => A → List Nat → A → Option A) (fun _ _ b => some b) (fun _ _ _ a p b => putA T a p b) path a path b
theorem putF_eq (a : A) (path : List Nat) (b : A) : putF T a path b = putA T a path b := by
  cases path with
  | nil => cases a <;> rfl
  | cons _ _ => rfl
def isSl (T : TT) (el t : Nat) : Bool := match kOf T t with
    | some (.slice el') => Nat.beq el el'
    | _ => false
noncomputable def lenR (T : TT) (t : Nat) (x : Operand) : OpR :=
  match kOf T t with
  | some (.slice el) => ⟨fun K sl of nx => selO ((odR x).get sl) (fun id ver => selRow (of id) (fun el' v xs _ _ => iteQ (Nat.beq el el' && Nat.beq v ver) (iteQ (Nat.ble (lenQ xs) 9223372036854775807) (some ⟨.i .i64 (lenQ xs : Nat), [], [id], nx⟩) none) none) none) (pvR nx (lenG T of t (evO sl x)))⟩
  | _ => ⟨fun K sl of nx => pvR nx (lenG T of t (evO sl x))⟩
theorem lenR_eq (t : Nat) (x : Operand) (K : KS) (sl : Nat → A) (of : Nat → Option Ob) (nx : Nat) : (lenR T t x).run K sl of nx = pvR nx (lenG T of t (evO sl x)) := by
  unfold lenR
  split
  · rename_i el hk
    simp only [odR_eq]
    cases evO sl x <;> try rfl
    rename_i id ver
    show selRow (of id) _ none = _
    simp only [lenG, smOf, lenB, vmOf, lenA, hk, srcA]
    cases of id with
    | none => rfl
    | some o =>
      cases o <;> try rfl
      rename_i el' v xs nl sh
      show iteQ (Nat.beq el el' && Nat.beq v ver) _ _ = _
      simp only [iteQ_eq, lenQ_eq]
      cases (Nat.beq el el' && Nat.beq v ver)
      · rfl
      · simp only [if_true]
        cases Nat.ble xs.length 9223372036854775807 <;> rfl
  · rfl
noncomputable def srcF (T : TT) (of : Nat → Option Ob) (el : Nat) (y : A) : Option (List V × List Nat) :=
  @A.rec (fun _ => (Nat → Option Ob) → A → Option (List V × List Nat)) (fun _ => Unit) (fun _ _ of y => srcA T of el y) (fun _ of y => srcA T of el y) (fun _ of y => srcA T of el y) (fun _ of y => srcA T of el y) (fun t x of y => iteQ (isSl T el t) (some (x.els, [])) none) (fun _ _ _ of y => srcA T of el y) (fun _ _ _ _ _ of y => srcA T of el y) (fun _ _ of y => srcA T of el y) (fun _ _ of y => srcA T of el y) (fun id ver of y => selRow (of id) (fun el' v xs _ _ => iteQ (Nat.beq el el' && Nat.beq v ver) (some (xs, [id])) none) none) (fun _ _ _ _ of y => srcA T of el y) (fun _ _ _ _ _ of y => srcA T of el y) (fun _ of y => srcA T of el y) (fun _ of y => srcA T of el y) (fun _ _ _ of y => srcA T of el y) (fun _ _ _ of y => srcA T of el y) (fun _ _ of y => srcA T of el y) (fun of y => srcA T of el y) () (fun _ _ _ _ => ()) y of y
theorem srcF_eq (of : Nat → Option Ob) (el : Nat) (y : A) : srcF T of el y = srcA T of el y := by
  cases y <;> try rfl
  case v t x =>
    show iteQ (isSl T el t) _ _ = _
    rw [iteQ_eq]
    obtain ⟨q, hk⟩ : ∃ q, kOf T t = q := ⟨_, rfl⟩
    simp only [isSl, srcA, hk]
    cases q with
    | none => rfl
    | some k => cases k <;> rfl
  case o id ver =>
    show selRow (of id) _ none = _
    simp only [srcA]
    cases of id with
    | none => rfl
    | some o =>
      cases o <;> try rfl
      rename_i el' v xs nl sh
      show iteQ (Nat.beq el el' && Nat.beq v ver) _ _ = _
      rw [iteQ_eq]
def isSlice (T : TT) (t : Nat) : Bool := match kOf T t with
    | some (.slice _) => true
    | _ => false
def apTe (T : TT) (el : Nat) : Bool := match T el with
    | some te => Nat.ble te.bytes 131072 && TK.notOther te.k && Nat.blt 0 te.size
    | none => false
noncomputable def slowApp (T : TT) (t xt : Nat) (x y : Operand) : OpR := ⟨fun K sl of nx => if appOk T xt (evO sl y) then lift nx (appendA T of nx t (evO sl x) (evO sl y)) else if isQ T (evO sl x) then lift nx (zerosA T nx t xt (evO sl x) (evO sl y)) else none⟩
noncomputable def noTxt (a : A) : Bool := @A.rec (fun _ => Bool) (fun _ => Unit) (fun _ _ => true) (fun _ => true) (fun l => false) (fun _ => true) (fun _ _ => true) (fun _ _ _ => true) (fun _ _ _ _ _ => true) (fun _ _ => true) (fun _ _ => true) (fun _ _ => true) (fun _ _ _ _ => true) (fun _ _ _ _ _ => true) (fun _ => true) (fun _ => true) (fun _ _ _ => true) (fun _ _ _ => true) (fun _ _ => true) (true) () (fun _ _ _ _ => ()) a
noncomputable def appR (T : TT) (t xt : Nat) (x y : Operand) : OpR :=
  match kOf T t with
  | some (.slice el) => if isSlice T xt && apTe T el then ⟨fun K sl of nx => selO ((odR x).get sl) (fun id ver => iteQ (noTxt ((odR y).get sl)) (onO (srcF T of el ((odR y).get sl)) (fun p => selRow (of id) (fun el' v xs nl sh => iteQ (Nat.beq el el' && Nat.beq v ver && Nat.ble (lenQ xs + lenQ p.1) LIM)
      (some ⟨.o id (ver + 1), [(id, .row el (ver + 1) (appQ xs p.1) (nl && p.1.isEmpty) sh)], id :: p.2, nx⟩) none) none)) ((slowApp T t xt x y).run K sl of nx)) ((slowApp T t xt x y).run K sl of nx)⟩ else slowApp T t xt x y
  | _ => slowApp T t xt x y
theorem appR_eq (t xt : Nat) (x y : Operand) (K : KS) (sl : Nat → A) (of : Nat → Option Ob) (nx : Nat) : (appR T t xt x y).run K sl of nx = if appOk T xt (evO sl y) then lift nx (appendA T of nx t (evO sl x) (evO sl y)) else if isQ T (evO sl x) then lift nx (zerosA T nx t xt (evO sl x) (evO sl y)) else none := by
  unfold appR
  split
  · rename_i el hk
    split
    · rename_i hc
      simp only [Bool.and_eq_true] at hc
      obtain ⟨h1, h2⟩ := hc
      simp only [odR_eq]
      cases hx : evO sl x <;> try (simp only [slowApp, hx]; rfl)
      rename_i id ver
      show iteQ (noTxt (evO sl y)) _ _ = _
      rw [iteQ_eq]
      cases hn : noTxt (evO sl y) with
      | false => simp only [Bool.false_eq_true, if_false, slowApp, hx]
      | true =>
        have hap : appOk T xt (evO sl y) = true := by
          unfold isSlice at h1
          split at h1 <;> try (cases h1; done)
          rename_i e2 hk2
          unfold appOk
          rw [hk2]
          simp only
          cases hy : evO sl y <;> first | rfl | (rw [hy] at hn; cases hn)
        simp only [if_true, hap]
        rw [onO_eq, srcF_eq]
        simp only [appendA, hk]
        unfold apTe at h2
        cases hte : T el with
        | none => rw [hte] at h2; cases h2
        | some te =>
          rw [hte] at h2
          simp only at h2
          cases hs : srcA T of el (evO sl y) with
          | none => rfl
          | some p =>
            obtain ⟨ns, ro⟩ := p
            simp only [h2, if_true]
            cases of id with
            | none => rfl
            | some o =>
              cases o <;> try rfl
              rename_i el' v xs nl sh
              show iteQ (Nat.beq el el' && Nat.beq v ver && Nat.ble (lenQ xs + lenQ ns) LIM) _ _ = _
              simp only [iteQ_eq, lenQ_eq, appQ_eq]
              cases (Nat.beq el el' && Nat.beq v ver && Nat.ble (xs.length + ns.length) LIM) <;> rfl
    · rfl
  · rfl
noncomputable def slowBS (T : TT) (t len : Nat) (parts : List (Nat × Operand)) : OpR := ⟨fun K sl of nx => lift nx (buildSliceA T of nx t len ((partsR parts).get sl))⟩
def bsTe (T : TT) (el len : Nat) : Bool := match T el with
    | some te => TK.notOther te.k && Nat.blt 0 te.size && Nat.ble (len * te.size) 16777216
    | none => false
noncomputable def bsR (T : TT) (t len : Nat) (parts : List (Nat × Operand)) : OpR :=
  match kOf T t with
  | some (.slice el) => match parts with
    | [] => slowBS T t len parts
    | [p] => if bsTe T el len && (Nat.beq len 1 && Nat.beq p.1 0) then ⟨fun K sl of nx => selI ((odR p.2).get sl) (fun k n => iteQ (intFit T el k) (some ⟨.o nx 1, [(nx, .row el 1 [.i n] false false)], [], nx + 1⟩) ((slowBS T t len parts).run K sl of nx)) ((slowBS T t len parts).run K sl of nx)⟩ else slowBS T t len parts
    | _ => slowBS T t len parts
  | _ => slowBS T t len parts
theorem bsR_eq (t len : Nat) (parts : List (Nat × Operand)) (K : KS) (sl : Nat → A) (of : Nat → Option Ob) (nx : Nat) : (bsR T t len parts).run K sl of nx = lift nx (buildSliceA T of nx t len ((partsR parts).get sl)) := by
  unfold bsR
  split
  · rename_i el hk
    split
    · rfl
    · rename_i p
      split
      · rename_i hc
        simp only [Bool.and_eq_true] at hc
        obtain ⟨h1, h2, h3⟩ := hc
        have h2 := Nat.eq_of_beq_eq_true h2
        have h3 := Nat.eq_of_beq_eq_true h3
        subst h2
        simp only [odR_eq]
        cases hx : evO sl p.2 <;> try rfl
        rename_i k n
        show iteQ (intFit T el k) _ _ = _
        rw [iteQ_eq]
        cases hf : intFit T el k with
        | false => rfl
        | true =>
          simp only [if_true, partsR, odR_eq, hx, h3]
          unfold bsTe at h1
          cases hte : T el with
          | none => rw [hte] at h1; cases h1
          | some te =>
            rw [hte] at h1
            simp only at h1
            have hv : toV T DEP of el (.i k n) = some (.i n, []) := by
              have : fitA T el (.i k n) = true := hf
              simp only [DEP, toV, asT, this, if_true, purV]
            simp only [buildSliceA, hk, hte, rowParts, hv, h1, if_true, setXs]
            have hb : Nat.blt 0 (List.replicate 1 te.zero).length = true := rfl
            rw [if_pos hb]
            simp [lift, slim, ids, List.replicate]
      · rfl
    · rfl
  · rfl
noncomputable def ldR (T : TT) (t0 : Nat) (a : Operand) : OpR :=
  if (T t0).isSome then ⟨fun K sl of nx => @A.rec (fun _ => (Nat → Option Ob) → A → Nat → Option Eff) (fun _ => Unit) (fun _ _ of u nx => pvR nx (loadA T of t0 u)) (fun _ of u nx => pvR nx (loadA T of t0 u)) (fun _ of u nx => pvR nx (loadA T of t0 u)) (fun _ of u nx => pvR nx (loadA T of t0 u)) (fun _ _ of u nx => pvR nx (loadA T of t0 u)) (fun id t path of u nx => selBox (of id) (fun _ b _ => onO (atF T b path) fun a1 => onO (asF T t0 a1) fun a2 => some ⟨normF T a2, [], [id], nx⟩) none) (fun id ver i t path of u nx => selRow (of id) (fun el v xs _ _ => iteQ (Nat.beq v ver) (onO (atF T (.v el (getQ xs i)) path) fun a1 => onO (asF T t0 a1) fun a2 => some ⟨normF T a2, [], [id], nx⟩) none) none) (fun _ _ of u nx => pvR nx (loadA T of t0 u)) (fun _ _ of u nx => pvR nx (loadA T of t0 u)) (fun _ _ of u nx => pvR nx (loadA T of t0 u)) (fun _ _ _ _ of u nx => pvR nx (loadA T of t0 u)) (fun _ _ _ _ _ of u nx => pvR nx (loadA T of t0 u)) (fun _ of u nx => pvR nx (loadA T of t0 u)) (fun _ of u nx => pvR nx (loadA T of t0 u)) (fun _ _ _ of u nx => pvR nx (loadA T of t0 u)) (fun _ _ _ of u nx => pvR nx (loadA T of t0 u)) (fun _ _ of u nx => pvR nx (loadA T of t0 u)) (fun of u nx => pvR nx (loadA T of t0 u)) () (fun _ _ _ _ => ()) ((odR a).get sl) of ((odR a).get sl) nx⟩ else ⟨fun _ _ _ _ => none⟩
theorem ldR_eq (t : Nat) (a : Operand) (K : KS) (sl : Nat → A) (of : Nat → Option Ob) (nx : Nat) : (ldR T t a).run K sl of nx = pvR nx (loadA T of t (evO sl a)) := by
  unfold ldR
  split
  · rename_i hT
    simp only [odR_eq]
    cases evO sl a <;> try rfl
    case p id t1 path =>
      show selBox (of id) _ none = _
      simp only [loadA, hT, if_true]
      cases of id with
      | none => rfl
      | some o =>
        cases o <;> try rfl
        rename_i t2 b sh
        show onO (atF T b path) _ = _
        rw [onO_eq, atF_eq]
        simp only
        cases atA T b path with
        | none => rfl
        | some a1 =>
          simp only [onO_eq, asF_eq, normF_eq]
          cases asT T t a1 <;> rfl
    case e id ver i t1 path =>
      show selRow (of id) _ none = _
      simp only [loadA, hT, if_true]
      cases of id with
      | none => rfl
      | some o =>
        cases o <;> try rfl
        rename_i el v xs nl sh
        show iteQ (Nat.beq v ver) _ _ = _
        rw [iteQ_eq]
        simp only
        cases Nat.beq v ver
        · rfl
        · simp only [if_true, elA, getQ_eq, onO_eq, atF_eq]
          cases atA T (.v el (xs.getD i .n)) path with
          | none => rfl
          | some a1 =>
            simp only [asF_eq, normF_eq]
            cases asT T t a1 <;> rfl
  · rename_i hT
    simp only [loadA, hT]
    rfl
noncomputable def slowSt (T : TT) (t : Nat) (a x : Operand) : OpR := ⟨fun K sl of nx => match storeA T of t (evO sl a) (evO sl x) with
    | some (wo, ro) => some ⟨.x, wo, ro, nx⟩
    | none => none⟩
noncomputable def stR (T : TT) (t : Nat) (a x : Operand) : OpR :=
  if (T t).isSome then ⟨fun K sl of nx => selP ((odR a).get sl) (fun id t1 path => selBox (of id) (fun t0 b sh => iteQ sh none (iteQ (same T t t1) (onO (asF T t1 ((odR x).get sl)) fun v' => onO (putF T b path v') fun a' => some ⟨.x, [(id, .box t0 a' false)], [id], nx⟩) none)) none) ((slowSt T t a x).run K sl of nx)⟩ else ⟨fun _ _ _ _ => none⟩
theorem stR_eq (t : Nat) (a x : Operand) (K : KS) (sl : Nat → A) (of : Nat → Option Ob) (nx : Nat) : (stR T t a x).run K sl of nx = match storeA T of t (evO sl a) (evO sl x) with
    | some (wo, ro) => some ⟨.x, wo, ro, nx⟩
    | none => none := by
  unfold stR
  split
  · rename_i hT
    simp only [odR_eq]
    cases hx : evO sl a <;> try (simp only [slowSt, hx]; rfl)
    rename_i id t1 path
    show selBox (of id) _ none = _
    simp only [storeA, hT, if_true]
    cases of id with
    | none => rfl
    | some o =>
      cases o <;> try rfl
      rename_i t2 b sh
      show iteQ sh none _ = _
      cases sh
      · show iteQ (same T t t1) _ _ = _
        rw [iteQ_eq]
        simp only
        cases same T t t1
        · rfl
        · simp only [if_true, onO_eq, asF_eq]
          cases asT T t1 (evO sl x) with
          | none => rfl
          | some v' =>
            simp only [putF_eq]
            cases putA T b path v' <;> rfl
      · rfl
  · rename_i hT
    simp only [storeA, hT]
    rfl
noncomputable def iaR (T : TT) (t : Nat) (x ix : Operand) : OpR :=
  match kOf T t with
  | some (.slice el) => if (T el).isSome then ⟨fun K sl of nx => selI ((odR ix).get sl) (fun _ i => selO ((odR x).get sl) (fun id ver => selRow (of id) (fun el' v xs _ _ => iteQ (leQ 0 i && (Nat.beq el el' && Nat.beq v ver && ltQ i (lenQ xs : Nat))) (some ⟨.e id ver i.toNat el [], [], [id], nx⟩) none) none) (pvR nx (indexAddrA T of t i (evO sl x)))) none⟩ else ⟨fun _ _ _ _ => none⟩
  | _ => ⟨fun K sl of nx => selI ((odR ix).get sl) (fun _ i => pvR nx (indexAddrA T of t i (evO sl x))) none⟩
theorem iaR_eq (t : Nat) (x ix : Operand) (K : KS) (sl : Nat → A) (of : Nat → Option Ob) (nx : Nat) : (iaR T t x ix).run K sl of nx = match evO sl ix with
    | .i _ i => pvR nx (indexAddrA T of t i (evO sl x))
    | _ => none := by
  unfold iaR
  split
  · rename_i el hk
    split
    · rename_i hT
      simp only [odR_eq]
      cases evO sl ix <;> try rfl
      rename_i k i
      show selO (evO sl x) _ _ = _
      cases hx : evO sl x <;> try rfl
      rename_i id ver
      show selRow (of id) _ none = _
      simp only [indexAddrA, hk, hT, Bool.and_true]
      cases of id with
      | none => cases ile 0 i <;> rfl
      | some o =>
        cases o <;> try (cases ile 0 i <;> rfl)
        rename_i el' v xs nl sh
        show iteQ (leQ 0 i && (Nat.beq el el' && Nat.beq v ver && ltQ i (lenQ xs : Nat))) _ _ = _
        rw [iteQ_eq, leQ_eq, ltQ_eq, lenQ_eq]
        cases ile 0 i
        · rfl
        · simp only [Bool.true_and, if_true]
          cases (Nat.beq el el' && Nat.beq v ver && ilt i xs.length) <;> rfl
    · rename_i hT
      have hT : (T el).isSome = false := by simpa using hT
      cases hi : evO sl ix <;> try rfl
      rename_i k i
      simp only [indexAddrA, hk, hT, Bool.and_false]
      rfl
  · simp only [odR_eq]
    cases evO sl ix <;> rfl
noncomputable def faR (T : TT) (s f : Nat) (x : Operand) : OpR :=
  match kOf T s with
  | some (.struct fs) => match fs[f]? with
    | some ft => if Nat.blt 0 (szT T ft) then ⟨fun K sl of nx => selP ((odR x).get sl) (fun id t path => iteQ (same T s t) (some ⟨.p id ft (path ++ [f]), [], [], nx⟩) none) (pvR nx (fieldAddrA T of s f (evO sl x)))⟩ else ⟨fun _ _ _ _ => none⟩
    | none => ⟨fun _ _ _ _ => none⟩
  | _ => ⟨fun _ _ _ _ => none⟩
theorem faR_eq (s f : Nat) (x : Operand) (K : KS) (sl : Nat → A) (of : Nat → Option Ob) (nx : Nat) : (faR T s f x).run K sl of nx = pvR nx (fieldAddrA T of s f (evO sl x)) := by
  unfold faR
  split
  · rename_i fs hk
    split
    · rename_i ft hf
      split
      · rename_i hz
        simp only [odR_eq]
        cases hx : evO sl x <;> try rfl
        rename_i id t path
        show iteQ (same T s t) _ _ = _
        rw [iteQ_eq]
        simp only [fieldAddrA, hk, hf, hz, if_true]
        cases same T s t <;> rfl
      · rename_i hz
        simp only [fieldAddrA, hk, hf, hz]
        rfl
    · rename_i hf
      simp only [fieldAddrA, hk, hf]
      rfl
  · rename_i hk
    unfold fieldAddrA
    split
    · rename_i fs h; exact absurd h (hk fs)
    · rfl
structure BdR where
  run : (Nat → A) → Int → (Int → Option Eff) → Option Eff
noncomputable def bdR : Option Operand → BdR
  | none => ⟨fun _ d k => k d⟩
  | some x => ⟨fun sl _ k => selI ((odR x).get sl) (fun _ i => k i) none⟩
theorem bdR_eq (o : Option Operand) (sl : Nat → A) (d : Int) (k : Int → Option Eff) : (bdR o).run sl d k = match bnd d ((ooR o).get sl) with
    | some i => k i
    | none => none := by
  cases o with
  | none => rfl
  | some x =>
    simp only [bdR, ooR, odR_eq]
    cases evO sl x <;> rfl
noncomputable def slowSl (T : TT) (t : Nat) (x : Operand) (lo hi mx : Option Operand) : OpR := ⟨fun K sl of nx => pvW nx (sliceA T of t ((odR x).get sl) ((ooR lo).get sl) ((ooR hi).get sl) ((ooR mx).get sl))⟩
noncomputable def sliR (T : TT) (t : Nat) (x : Operand) (lo hi mx : Option Operand) : OpR :=
  match kOf T t, mx with
  | some (.slice el), none => if (T el).isSome then ⟨fun K sl of nx => selO ((odR x).get sl) (fun id ver => selRow (of id) (fun el' v xs nl _ => iteQ nl ((slowSl T t x lo hi mx).run K sl of nx) (iteQ (Nat.beq el el' && Nat.beq v ver) ((bdR lo).run sl (0 : Nat) fun l => (bdR hi).run sl (lenQ xs : Nat) fun h => iteQ (leQ 0 l && leQ l h && leQ h (lenQ xs : Nat)) (some ⟨.w id ver (0 + l.toNat) (h - l).toNat, [], [id], nx⟩) none) none)) none) ((slowSl T t x lo hi mx).run K sl of nx)⟩ else slowSl T t x lo hi mx
  | _, _ => slowSl T t x lo hi mx
theorem sliR_eq (t : Nat) (x : Operand) (lo hi mx : Option Operand) (K : KS) (sl : Nat → A) (of : Nat → Option Ob) (nx : Nat) : (sliR T t x lo hi mx).run K sl of nx = pvW nx (sliceA T of t ((odR x).get sl) ((ooR lo).get sl) ((ooR hi).get sl) ((ooR mx).get sl)) := by
  unfold sliR
  split
  · rename_i el hk
    split
    · rename_i hT
      simp only [slowSl]
      cases hx : (odR x).get sl <;> try rfl
      rename_i id ver
      show selRow (of id) _ none = _
      have hq : isQ T (.o id ver) = true := rfl
      simp only [sliceA, hk, hT, hq, Bool.and_true, if_true, show (ooR (none : Option Operand)).get sl = none from rfl, zV]
      cases of id with
      | none => rfl
      | some o =>
        cases o <;> try rfl
        rename_i el' v xs nl sh
        show iteQ nl _ (iteQ (Nat.beq el el' && Nat.beq v ver) _ none) = _
        cases nl
        · show iteQ (Nat.beq el el' && Nat.beq v ver) _ none = _
          rw [iteQ_eq]
          simp only
          cases (Nat.beq el el' && Nat.beq v ver)
          · rfl
          · simp only [if_true, bdR_eq, bounds, lenQ_eq]
            cases h1 : bnd (0 : Nat) ((ooR lo).get sl) with
            | none => rfl
            | some l =>
              simp only
              cases h2 : bnd xs.length ((ooR hi).get sl) with
              | none => rfl
              | some h =>
                simp only [iteQ_eq, leQ_eq]
                cases (ile 0 l && ile l h && ile h xs.length) <;> rfl
        · rfl
    · rfl
  · rfl
def otherCall (T : TT) (k : Call) : OpR := ⟨fun K sl of nx => callA T K (evO sl) of nx k⟩
noncomputable def callR (T : TT) (k : Call) : OpR :=
  match k.callee with
  | .value f => ⟨fun K sl of nx => selF ((odR f).get sl) (fun fn cap => if cap.all (cellA T) then K.f fn ((olR k.args.toList).get sl ++ cap) of nx else none) (fun id => K.y id ((olR k.args.toList).get sl) of nx) none⟩
  | .builtin .len => (match k.argTypes.toList, k.args.toList with
    | [t], [x] => lenR T t x
    | _, _ => ⟨fun _ _ _ _ => none⟩)
  | .builtin .append => (match k.argTypes.toList, k.args.toList with
    | [t, xt], [x, y] => appR T t xt x y
    | _, _ => ⟨fun _ _ _ _ => none⟩)
  | _ => otherCall T k
theorem callR_eq (k : Call) (K : KS) (sl : Nat → A) (of : Nat → Option Ob) (nx : Nat) : (callR T k).run K sl of nx = callA T K (evO sl) of nx k := by
  unfold callR
  split
  · rename_i f hk
    simp only [callA, hk, odR_eq, olR_eq]
    cases evO sl f <;> rfl
  · rename_i hk
    simp only [callA, hk]
    split
    · rename_i t x h1 h2
      rw [h1, h2]
      simp only [lenR_eq]
      cases lenG T of t (evO sl x) <;> rfl
    · rename_i hne
      split
      · rename_i t x h1 h2; exact absurd h2 (hne _ _ h1)
      · rfl
  · rename_i hk
    simp only [callA, hk]
    split
    · rename_i t xt x y h1 h2
      rw [h1, h2]
      simp only [appR_eq]
    · rename_i hne
      split
      · rename_i t xt x y h1 h2; exact absurd h2 (hne _ _ _ _ h1)
      · rfl
  · rfl
structure IkR where
  run : IntKind → IntKind → Int → Int → Nat → Option Eff
noncomputable def intK (op : BinOp) : IkR :=
  ⟨fun k k' a b nx => bif isShift op || kbeq k k' then onO ((intR op).run k a b) (fun r => some ⟨r, [], [], nx⟩) else none⟩
theorem intK_eq (op : BinOp) (k k' : IntKind) (a b : Int) (nx : Nat) (T : TT) (of : Nat → Option Ob) (t : Nat) : (intK op).run k k' a b nx = pvR nx (binA T of op t (.i k a) (.i k' b)) := by
  show (bif isShift op || kbeq k k' then onO ((intR op).run k a b) (fun r => some (Eff.mk r [] [] nx)) else none) = _
  rw [onO_eq, intR_eq]
  unfold binA
  simp only
  cases (isShift op || kbeq k k')
  · rfl
  · simp only [cond_true, if_true]
    cases intA op k a b <;> rfl
noncomputable def slowB (T : TT) (op : BinOp) (t : Nat) (x y : Operand) : OpR := ⟨fun K sl of nx => pvR nx (binA T of op t (evO sl x) (evO sl y))⟩
noncomputable def binR (T : TT) (op : BinOp) (t : Nat) (x y : Operand) : OpR :=
  ⟨fun K sl of nx => selI ((odR x).get sl) (fun k a => selI ((odR y).get sl) (fun k' b => (intK op).run k k' a b nx) ((slowB T op t x y).run K sl of nx)) ((slowB T op t x y).run K sl of nx)⟩
theorem binR_eq (op : BinOp) (t : Nat) (x y : Operand) (K : KS) (sl : Nat → A) (of : Nat → Option Ob) (nx : Nat) : (binR T op t x y).run K sl of nx = pvR nx (binA T of op t (evO sl x) (evO sl y)) := by
  simp only [binR, odR_eq, slowB]
  cases evO sl x <;> cases evO sl y <;> first | rfl | exact intK_eq _ _ _ _ _ _ _ _ _
noncomputable def slowC (T : TT) (s t : Nat) (x : Operand) : OpR := ⟨fun K sl of nx => lift nx (convA T of nx s t (evO sl x))⟩
noncomputable def convR (T : TT) (s t : Nat) (x : Operand) : OpR :=
  match kOf T t with
  | some (.int k) => if (T s).isSome then ⟨fun K sl of nx => selI ((odR x).get sl) (fun _ n => some ⟨.i k ((wrR k).run n), [], [], nx⟩) none⟩ else ⟨fun _ _ _ _ => none⟩
  | _ => slowC T s t x
theorem convR_eq (s t : Nat) (x : Operand) (K : KS) (sl : Nat → A) (of : Nat → Option Ob) (nx : Nat) : (convR T s t x).run K sl of nx = lift nx (convA T of nx s t (evO sl x)) := by
  unfold convR
  split
  · rename_i k hk
    unfold convA
    rw [hk]
    simp only
    split
    · simp only [odR_eq, wrR_eq]
      cases evO sl x <;> rfl
    · cases evO sl x <;> rfl
  · rfl
def allocR (T : TT) (el : Nat) : OpR :=
  match T el with
  | some te => if TK.notOther te.k then ⟨fun K sl of nx => some ⟨.p nx el [], [(nx, .box el (.v el te.zero) false)], [], nx + 1⟩⟩ else ⟨fun _ _ _ _ => none⟩
  | none => ⟨fun _ _ _ _ => none⟩
def idxR (f : (Nat → A) → (Nat → Option Ob) → Nat → Int → Option Eff) (ix : Operand) : OpR :=
  ⟨fun K sl of nx => match (odR ix).get sl with
    | .i _ i => f sl of nx i
    | _ => none⟩
noncomputable def opR (T : TT) (o : Oper) : OpR :=
  match o.op with
  | .move x => ⟨fun K sl of nx => some (.pv nx ((odR x).get sl) [])⟩
  | .assign x => ⟨fun K sl of nx => some (assignA T o.type nx ((odR x).get sl))⟩
  | .pick q a b => ⟨fun K sl of nx => match (odR q).get sl with
    | .b t => some (.pv nx (bif t then (odR a).get sl else (odR b).get sl) [])
    | _ => none⟩
  | .alloc el => allocR T el
  | .box el x => ⟨fun K sl of nx => match asT T el ((odR x).get sl) with
    | some a => some ⟨.p nx el [], [(nx, .box el a false)], [], nx + 1⟩
    | none => none⟩
  | .build t parts => ⟨fun K sl of nx => match buildA T t ((partsR parts.toList).get sl) with
    | some v => some (.pv nx v [])
    | none => none⟩
  | .buildSlice t len parts => bsR T t len parts.toList
  | .load t a => ldR T t a
  | .store t a x => stR T t a x
  | .sliceToArrayPointer t x => ⟨fun K sl of nx => pvW nx (arrA T of t ((odR x).get sl))⟩
  | .nilCheck x => ⟨fun K sl of nx => match chkA of ((odR x).get sl) with
    | some ro => some (.pv nx ((odR x).get sl) ro)
    | none => none⟩
  | .binOp op t x y _ => binR T op t x y
  | .unOp op _ x => ⟨fun K sl of nx => pvO nx (unA op ((odR x).get sl))⟩
  | .convert s t x => convR T s t x
  | .makeFunc fn first captured => (match fn with
    | .func f => if Nat.beq first.toList.length 0 then ⟨fun K sl of nx => if ((olR captured.toList).get sl).all (cellA T) then some (.pv nx (.f f ((olR captured.toList).get sl)) []) else none⟩ else ⟨fun _ _ _ _ => none⟩
    | _ => ⟨fun _ _ _ _ => none⟩)
  | .makeSlice t l k => ⟨fun K sl of nx => makeSliceA T nx t ((odR l).get sl) ((odR k).get sl)⟩
  | .makeMap t r => ⟨fun K sl of nx => makeMapA T nx t ((ooR r).get sl)⟩
  | .lookup t m k ok => ⟨fun K sl of nx => lift nx (lookG T (lendP o.pos) nx of t ((odR m).get sl) ((odR k).get sl) ok)⟩
  | .mapUpdate t m k v => ⟨fun K sl of nx => putM T of nx t ((odR m).get sl) ((odR k).get sl) ((odR v).get sl)⟩
  | .insert t m k v => ⟨fun K sl of nx => putM T of nx t ((odR m).get sl) ((odR k).get sl) ((odR v).get sl)⟩
  | .slice t x lo hi mx => sliR T t x lo hi mx
  | .fieldAddr s x f => faR T s f x
  | .field s x f => ⟨fun K sl of nx => pvO nx (fieldA T s f ((odR x).get sl))⟩
  | .indexAddr t x ix => iaR T t x ix
  | .index t x ix => idxR (fun sl of nx i => pvO nx (indexA T t i ((odR x).get sl))) ix
  | .extract x i => ⟨fun K sl of nx => pvO nx (tupA i ((odR x).get sl))⟩
  | .call k => callR T k
  | .range t x => ⟨fun K sl of nx => lift nx (rangeB T of nx t ((odR x).get sl))⟩
  | .next x str => if str then ⟨fun _ _ _ _ => none⟩ else ⟨fun K sl of nx => pvR nx (nextB of ((odR x).get sl))⟩
  | _ => ⟨fun _ _ _ _ => none⟩
theorem opR_eq (o : Oper) (K : KS) (sl : Nat → A) (of : Nat → Option Ob) (nx : Nat) : (opR T o).run K sl of nx = stepOp T K (evO sl) of nx o := by
  obtain ⟨dst, op, ty, pos, after, guard⟩ := o
  cases op <;> simp only [opR, stepOp, odR_eq, olR_eq, partsR_eq, ooR_eq, callR_eq, binR_eq, convR_eq, bsR_eq, ldR_eq, stR_eq, sliR_eq, faR_eq, iaR_eq] <;> try rfl
  case alloc el =>
    unfold allocR
    cases T el with
    | none => rfl
    | some te => simp only; split <;> rfl
  case makeFunc fn first captured =>
    cases fn <;> try rfl
    simp only
    cases hq : Nat.beq first.toList.length 0 <;> simp [olR_eq]
  case index t x ix => simp only [idxR, odR_eq]; cases evO sl ix <;> rfl
  case next x str => cases str <;> simp [odR_eq]
structure EnR where
  run : KS → (Nat → A) → (Nat → Option Ob) → Nat → Option Ent
noncomputable def mkE (dst : Option Nat) (rs : List Nat) (nx : Nat) (q : Option Eff) : Option Ent :=
  @Option.rec Eff (fun _ => Option Nat → List Nat → Nat → Option Ent) (fun _ _ _ => none)
    (fun out dst rs nx => @Bool.rec (fun _ => Option Ent) none (some ⟨dst, out.val, out.wo, rs, out.ro, nx, out.nx⟩) (Nat.ble nx out.nx)) q dst rs nx
noncomputable def selB {R : Type} (a : A) : (Bool → R) → R → R → R :=
  @A.rec (fun _ => (Bool → R) → R → R → R) (fun _ => Unit)
    (fun _ _ _ _ d => d) (fun b f _ _ => f b) (fun _ _ _ d => d) (fun _ _ _ d => d) (fun _ _ _ _ d => d) (fun _ _ _ _ _ d => d) (fun _ _ _ _ _ _ _ d => d) (fun _ _ _ _ d => d) (fun _ _ _ _ d => d)
    (fun _ _ _ _ d => d) (fun _ _ _ _ _ _ d => d) (fun _ _ _ _ _ _ _ d => d) (fun _ _ _ d => d) (fun _ _ _ d => d) (fun _ _ _ _ _ d => d) (fun _ _ _ _ _ d => d) (fun _ _ _ t _ => t) (fun _ _ d => d) () (fun _ _ _ _ => ()) a
noncomputable def enR (T : TT) (ops : Array Oper) (o : Oper) : EnR :=
  match o.guard with
  | none => ⟨fun K sl of nx => mkE o.dst (o.looksAt ops) nx ((opR T o).run K sl of nx)⟩
  | some (g, want) => match (ops[g]?).bind (·.dst) with
    | some d => ⟨fun K sl of nx => selB (sl d) (fun q => bif (bif want then q else !q) then mkE o.dst (o.looksAt ops) nx ((opR T o).run K sl of nx) else some (.skip o (o.looksAt ops) nx)) (some (.skip o (o.looksAt ops) nx)) none⟩
    | none => ⟨fun _ _ _ _ => none⟩
theorem mkE_eq (o : Oper) (rs : List Nat) (nx : Nat) (q : Option Eff) : mkE o.dst rs nx q = match q with
      | some out => if Nat.ble nx out.nx then some (.mk1 o rs nx out) else none
      | none => none := by
  cases q with
  | none => rfl
  | some out =>
    show (@Bool.rec (fun _ => Option Ent) none (some ⟨o.dst, out.val, out.wo, rs, out.ro, nx, out.nx⟩) (Nat.ble nx out.nx)) = _
    simp only
    cases Nat.ble nx out.nx <;> rfl
theorem enR_eq (ops : Array Oper) (o : Oper) (K : KS) (sl : Nat → A) (of : Nat → Option Ob) (nx : Nat) : (enR T ops o).run K sl of nx = entOp T K ops sl of nx o := by
  unfold enR entOp
  cases o.guard with
  | none => simp only [opR_eq, mkE_eq]; cases stepOp T K (evO sl) of nx o <;> rfl
  | some p =>
    obtain ⟨g, want⟩ := p
    simp only
    cases (ops[g]?).bind (·.dst) with
    | none => rfl
    | some d =>
      simp only [opR_eq, mkE_eq]
      cases sl d with
      | b q =>
        show (bif (bif want then q else !q) then _ else _) = _
        cases stepOp T K (evO sl) of nx o <;> cases q <;> cases want <;> rfl
      | _ => rfl
structure RnR where
  run : KS → (Nat → Option Ob) → St → Option (List Ent × St)
structure SlR where
  put : A → List (Nat × A) → List (Nat × A)
def slR : Option Nat → SlR
  | some d => ⟨fun v sl => (d, v) :: sl⟩
  | none => ⟨fun _ sl => sl⟩
noncomputable def consE (E : Ent) (v : A) (h : Nat) (q : Option (List Ent × St)) : Option (List Ent × St) :=
  @Option.rec (List Ent × St) (fun _ => Ent → A → Nat → Option (List Ent × St)) (fun _ _ _ => none) (fun p E v h => some ({ E with val := v, hi := h } :: p.1, p.2)) q E v h
noncomputable def goE (q : Option Ent) (σ : St) (k : Ent → Option (List Ent × St)) : Option (List Ent × St) :=
  @Option.rec Ent (fun _ => (Ent → Option (List Ent × St)) → Option (List Ent × St)) (fun _ => none) (fun E k => k E) q k
noncomputable def rnR (T : TT) (ops : Array Oper) (l : List Oper) : RnR :=
  @List.rec Oper (fun _ => RnR) ⟨fun _ _ σ => some ([], σ)⟩
    (fun o _ ih => ⟨fun K of σ => goE ((enR T ops o).run K (getS σ.sl) (over σ.ob of) σ.nx) σ fun E => tolA E.val fun v => tolN E.hi fun h => tolL (addQ σ.ob E.ro σ.rd) fun rd =>
      consE E v h (ih.run K of ⟨(slR o.dst).put v σ.sl, setQ E.wo σ.ob, rd, h, σ.mks⟩)⟩) l
theorem entOp_dst {K : KS} {ops : Array Oper} {sl : Nat → A} {nx : Nat} {o : Oper} {E : Ent} (hr : entOp T K ops sl of nx o = some E) : E.dst = o.dst := (entOp_lo hr).2.2.1
theorem rnR_eq (ops : Array Oper) (K : KS) (of : Nat → Option Ob) : ∀ (l : List Oper) (σ : St), (rnR T ops l).run K of σ = runOps T K ops of l σ := by
  intro l
  induction l with
  | nil => intro σ; rfl
  | cons o r ih =>
    intro σ
    show goE ((enR T ops o).run K (getS σ.sl) (over σ.ob of) σ.nx) σ (fun E => tolA E.val fun v => tolN E.hi fun h => tolL (addQ σ.ob E.ro σ.rd) fun rd =>
      consE E v h ((rnR T ops r).run K of ⟨(slR o.dst).put v σ.sl, setQ E.wo σ.ob, rd, h, σ.mks⟩)) = _
    rw [enR_eq, runOps_cons]
    cases hE : entOp T K ops (getS σ.sl) (over σ.ob of) σ.nx o with
    | none => rfl
    | some E =>
      show (tolA E.val fun v => tolN E.hi fun h => tolL (addQ σ.ob E.ro σ.rd) fun rd => consE E v h ((rnR T ops r).run K of ⟨(slR o.dst).put v σ.sl, setQ E.wo σ.ob, rd, h, σ.mks⟩)) = _
      have : (⟨(slR o.dst).put E.val σ.sl, setL σ.ob E.wo, addR σ.ob E.ro σ.rd, E.hi, σ.mks⟩ : St) = σ.app E := by
        unfold St.app
        rw [entOp_dst hE]
        cases o.dst <;> rfl
      simp only [tolA_eq, tolN_eq, tolL_eq, addQ_eq, setQ_eq, ih, this]
      cases runOps T K ops of r (σ.app E) <;> rfl
noncomputable def goD (q : Option (List Ent × St)) : (List Ent → St → Option (Exit × St)) → Option (Exit × St) :=
  @Option.rec (List Ent × St) (fun _ => (List Ent → St → Option (Exit × St)) → Option (Exit × St)) (fun _ => none) (fun p k => k p.1 p.2) q
structure CoR where
  run : KS → (Nat → Option Ob) → St → Option (Exit × St)
noncomputable def selE (q : Option (Exit × St)) : (St → Option (Exit × St)) → Option (Exit × St) :=
  @Option.rec (Exit × St) (fun _ => (St → Option (Exit × St)) → Option (Exit × St)) (fun _ => none)
    (fun p k => @Exit.rec (fun _ => St → (St → Option (Exit × St)) → Option (Exit × St)) (fun σ k => k σ) (fun i σ _ => some (.exit i, σ)) (fun i σ _ => some (.goto i, σ)) (fun σ _ => some (.ret, σ)) (fun c σ _ => some (.panic c, σ)) (fun σ _ => some (.outgrown, σ)) p.1 p.2 k) q
theorem selE_eq (q : Option (Exit × St)) (k : St → Option (Exit × St)) : selE q k = match q with
    | some (.normal, σ) => k σ
    | r => r := by
  cases q with
  | none => rfl
  | some p => obtain ⟨ex, σ⟩ := p; cases ex <;> rfl
noncomputable def blkE (id : Nat) (q : Option (Exit × St)) : Option (Exit × St) :=
  @Option.rec (Exit × St) (fun _ => Option (Exit × St)) none
    (fun p => @Exit.rec (fun _ => St → Option (Exit × St)) (fun σ => some (.normal, σ)) (fun i σ => some (bif Nat.beq i id then .normal else .exit i, σ)) (fun i σ => some (.goto i, σ)) (fun σ => some (.ret, σ)) (fun c σ => some (.panic c, σ)) (fun σ => some (.outgrown, σ)) p.1 p.2) q
theorem blkE_eq (id : Nat) (q : Option (Exit × St)) : blkE id q = match q with
    | some (.exit id', σ') => some (if Nat.beq id' id then .normal else .exit id', σ')
    | r => r := by
  cases q with
  | none => rfl
  | some p =>
    obtain ⟨ex, σ⟩ := p
    cases ex with
    | exit i =>
      show some (bif Nat.beq i id then Exit.normal else Exit.exit i, σ) = some (if Nat.beq i id = true then Exit.normal else Exit.exit i, σ)
      cases Nat.beq i id <;> rfl
    | _ => rfl
noncomputable def finE (q : Option (List Ent × St)) : Option (Exit × St) :=
  @Option.rec (List Ent × St) (fun _ => Option (Exit × St)) none (fun p => some (.normal, p.2)) q
noncomputable def regR (T : TT) (nt : Nat) (ops : Array Oper) (draw : Bool) : CoR :=
  match draw with
  | false => if ops.toList.all (okDst nt) then ⟨fun K of σ => finE ((rnR T ops ops.toList).run K of σ)⟩ else ⟨fun _ _ _ => none⟩
  | true => if statB nt ops then ⟨fun K of σ => goD ((rnR T ops ops.toList).run K of σ) fun Es σ' => bif dynA (masks ops.toList []) Es 0 Es then some (.normal, σ') else
        goD ((rnR T ops ops.toList).run K of (σ.pre of (shEs (over σ.ob of) Es))) fun Es2 σ2 => bif dynA (masks ops.toList []) Es2 0 Es2 then some (.normal, σ2) else none⟩ else ⟨fun _ _ _ => none⟩
theorem regR_eq (nt : Nat) (ops : Array Oper) (draw : Bool) (id : Nat) (K : KS) (fu : Nat) (of : Nat → Option Ob) (σ : St) : (regR T nt ops draw).run K of σ = exec T K (fun _ => none) fu nt of (.region id ops draw) σ := by
  cases draw with
  | false =>
    simp only [regR, exec]
    split
    · simp only [rnR_eq]
      cases runOps T K ops of ops.toList σ <;> rfl
    · rfl
  | true =>
    simp only [regR, exec]
    split
    · simp only [rnR_eq]
      cases runOps T K ops of ops.toList σ with
      | none => rfl
      | some p =>
        obtain ⟨Es, σ'⟩ := p
        show (bif dynA (masks ops.toList []) Es 0 Es then _ else _) = _
        simp only
        cases dynA (masks ops.toList []) Es 0 Es with
        | true => rfl
        | false =>
          simp only [cond_false, Bool.false_eq_true, if_false]
          cases runOps T K ops of ops.toList (σ.pre of (shEs (over σ.ob of) Es)) with
          | none => rfl
          | some p2 =>
            obtain ⟨Es2, σ2⟩ := p2
            show (bif dynA (masks ops.toList []) Es2 0 Es2 then _ else _) = _
            simp only
            cases dynA (masks ops.toList []) Es2 0 Es2 <;> rfl
    · rfl
noncomputable def unrollR (ks : List Nat) (f : St → Option (Exit × St)) (n : Nat) : St → Option (Exit × St) :=
  @Nat.rec (fun _ => St → Option (Exit × St)) (fun _ => none) (fun _ ih σ => selE (f (σ.tidy ks)) ih) n
theorem unrollR_eq (ks : List Nat) (f : St → Option (Exit × St)) : ∀ (n : Nat) (σ : St), unrollR ks f n σ = unroll ks f n σ := by
  intro n
  induction n with
  | zero => intro σ; rfl
  | succ n ih =>
    intro σ
    show selE (f (σ.tidy ks)) (unrollR ks f n) = _
    rw [selE_eq]
    simp only [unroll]
    cases hf : f (σ.tidy ks) with
    | none => rfl
    | some p =>
      obtain ⟨ex, σ1⟩ := p
      cases ex with
      | normal => exact ih σ1
      | _ => rfl
noncomputable def coR (T : TT) (fu nt : Nat) (cd : Code) : CoR :=
  @Code.rec (fun _ => CoR) ⟨fun _ _ σ => some (.normal, σ)⟩ (fun _ ops draw => regR T nt ops draw)
    (fun _ _ x y => ⟨fun K of σ => selE (x.run K of σ) (y.run K of)⟩)
    (fun q _ _ x y => ⟨fun K of σ => selB ((odR q).get (getS σ.sl)) (fun t => bif t then x.run K of σ else y.run K of σ) none none⟩)
    (fun id _ b => ⟨fun K of σ => blkE id (b.run K of σ)⟩)
    (fun _ b => ⟨fun K of σ => unrollR (keysS σ.sl []) (b.run K of) fu σ⟩)
    (fun g ps asg body _ _ => ⟨fun K of σ => rangeA T K nt of g ps asg body σ⟩)
    (fun id => ⟨fun _ _ σ => some (.exit id, σ)⟩)
    (fun _ _ => ⟨fun _ _ _ => none⟩) (fun _ => ⟨fun _ _ _ => none⟩) (fun _ => ⟨fun _ _ _ => none⟩) ⟨fun _ _ σ => some (.ret, σ)⟩ (fun _ => ⟨fun _ _ _ => none⟩) cd
theorem coR_eq (K : KS) (fu nt : Nat) (of : Nat → Option Ob) : ∀ (cd : Code) (σ : St), (coR T fu nt cd).run K of σ = exec T K (fun _ => none) fu nt of cd σ := by
  intro cd
  induction cd with
  | region id ops draw => intro σ; exact regR_eq nt ops draw id K fu of σ
  | seq x y ihx ihy =>
    intro σ
    show selE ((coR T fu nt x).run K of σ) ((coR T fu nt y).run K of) = _
    rw [selE_eq, ihx]
    simp only [exec]
    cases exec T K (fun _ => none) fu nt of x σ with
    | none => rfl
    | some p =>
      obtain ⟨ex, σ1⟩ := p
      cases ex with
      | normal => exact ihy σ1
      | _ => rfl
  | cond q x y ihx ihy =>
    intro σ
    show selB ((odR q).get (getS σ.sl)) (fun t => bif t then (coR T fu nt x).run K of σ else (coR T fu nt y).run K of σ) none none = _
    rw [odR_eq]
    simp only [exec]
    cases evO (getS σ.sl) q with
    | b t =>
      show (bif t then (coR T fu nt x).run K of σ else (coR T fu nt y).run K of σ) = _
      cases t
      · exact ihy σ
      · exact ihx σ
    | _ => rfl
  | block id b ih =>
    intro σ
    show blkE id ((coR T fu nt b).run K of σ) = _
    rw [blkE_eq, ih]
    simp only [exec]
    cases exec T K (fun _ => none) fu nt of b σ with
    | none => rfl
    | some p => obtain ⟨ex, σ1⟩ := p; cases ex <;> rfl
  | loop b ih =>
    intro σ
    show unrollR (keysS σ.sl []) ((coR T fu nt b).run K of) fu σ = _
    rw [unrollR_eq]
    simp only [exec]
    congr 1
    funext σ
    exact ih σ
  | _ => intro σ; rfl
structure FnR where
  run : KS → List A → (Nat → Option Ob) → Nat → Option Eff
noncomputable def finF (T : TT) (rs : List ResultVar) (of : Nat → Option Ob) (nx : Nat) (ex : Exit) (σ : St) : Option Eff :=
  bif endB ex then
    (match σ.mks with
    | some ms => if mksB nx σ.nx σ.ob.get ms then
      (match resA T (getS σ.sl) (over σ.ob of) rs with
      | some (v, ro) => some (lessW ms (pack nx v σ ro))
      | none => none) else none
    | none => none) else none
noncomputable def selX (q : Option (Exit × St)) : (Exit → St → Option Eff) → Option Eff :=
  @Option.rec (Exit × St) (fun _ => (Exit → St → Option Eff) → Option Eff) (fun _ => none) (fun p k => k p.1 p.2) q
noncomputable def fnR (P : Program) (T : TT) (fu f : Nat) : FnR :=
  match P.funcs[f]? with
  | some fn => match fn.body with
    | some code => bif !(fn.name == "runtime.NumGoroutine") then ⟨fun K args of nx => bif Nat.ble args.length fn.ntmps then selX ((coR T fu fn.ntmps code).run K of ⟨argS 0 args, .e, [], nx, some []⟩) (finF T fn.results.toList of nx) else none⟩ else ⟨fun _ _ _ _ => none⟩
    | none => ⟨fun _ _ _ _ => none⟩
  | none => ⟨fun _ _ _ _ => none⟩
theorem fnR_eq (P : Program) (K : KS) (fu f : Nat) (args : List A) (of : Nat → Option Ob) (nx : Nat) : (fnR P T fu f).run K args of nx = runF P T K (fun _ _ => none) fu f args of nx := by
  unfold fnR runF
  cases P.funcs[f]? with
  | none => rfl
  | some fn =>
    simp only
    cases fn.body with
    | none => rfl
    | some code =>
      simp only
      cases (fn.name == "runtime.NumGoroutine")
      · simp only [Bool.not_false, cond_true, Bool.true_and]
        cases Nat.ble args.length fn.ntmps
        · rfl
        · simp only [cond_true, if_true, coR_eq]
          cases exec T K (fun _ => none) fu fn.ntmps of code ⟨argS 0 args, .e, [], nx, some []⟩ with
          | none => rfl
          | some p =>
            obtain ⟨ex, σ⟩ := p
            show finF T fn.results.toList of nx ex σ = _
            unfold finF
            simp only
            cases endB ex with
            | false => rfl
            | true =>
              cases σ.mks with
              | none => rfl
              | some ms =>
                simp only [cond_true, if_true]
                cases mksB nx σ.nx σ.ob.get ms with
                | false => rfl
                | true =>
                  simp only [if_true]
                  cases resA T (getS σ.sl) (over σ.ob of) fn.results.toList <;> rfl
      · rfl
noncomputable def yieldR (T : TT) (K : KS) (fu id : Nat) : Sym := fun args of nx =>
  match lpE isReady (of id) with
  | some r => @LR.rec (fun _ => Option Eff) (fun nt sl ps asg body st pend =>
      bif Nat.beq args.length ps.size && ps.toList.all (fun p => Nat.blt p nt) then
      selX ((coR T fu nt asg).run K of ⟨argP ps.toList args sl, .e, [id], nx, none⟩) (fun ex σ1 => match ex with
        | .normal => (match lpE isReady (over σ1.ob of id) with
          | some r1 => @LR.rec (fun _ => Option Eff) (fun nt1 sl1 ps1 asg1 body1 st1 pend1 => endR id nx of ((coR T fu nt body).run K of (setLp σ1 id ⟨nt1, sl1, ps1, asg1, body1, .busy, pend1⟩))) r1
          | none => none)
        | _ => none) else none) r
  | none => none
theorem yieldR_eq (K : KS) (fu id : Nat) (args : List A) (of : Nat → Option Ob) (nx : Nat) : yieldR T K fu id args of nx = yieldS T K fu id args of nx := by
  unfold yieldR yieldS
  cases lpE isReady (of id) with
  | none => rfl
  | some r =>
    obtain ⟨nt, sl, ps, asg, body, st, pend⟩ := r
    simp only
    cases (Nat.beq args.length ps.size && ps.toList.all (fun p => Nat.blt p nt))
    · rfl
    · simp only [cond_true, if_true, coR_eq]
      cases exec T K (fun _ => none) fu nt of asg ⟨argP ps.toList args sl, .e, [id], nx, none⟩ with
      | none => rfl
      | some p =>
        obtain ⟨ex, σ1⟩ := p
        cases ex with
        | normal =>
          show (match lpE isReady (over σ1.ob of id) with | some r1 => _ | none => none) = _
          simp only
          cases lpE isReady (over σ1.ob of id) with
          | none => rfl
          | some r1 => rfl
        | _ => rfl
noncomputable def fnZ (P : Program) (T : TT) (C : Nat → Option Sym) (fu f : Nat) : FnR :=
  match C f with
  | some s => ⟨fun _ args of nx => s args of nx⟩
  | none => fnR P T fu f
noncomputable def runKR (P : Program) (T : TT) (C : Nat → Option Sym) (fu : Nat) (d : Nat) : KS :=
  @Nat.rec (fun _ => KS) ⟨fun _ _ _ _ => none, fun _ _ _ _ => none, fun _ => false⟩
    (fun _ ih => ⟨fun f args of nx => (fnZ P T C fu f).run ih args of nx, fun id => yieldR T ih fu id, enterB P⟩) d
theorem runKR_eq (P : Program) (C : Nat → Option Sym) (fu : Nat) : ∀ d, runKR P T C fu d = runK P T C (fun _ _ _ => none) fu d := by
  intro d
  induction d with
  | zero => rfl
  | succ d ih =>
    show (⟨fun f args of nx => (fnZ P T C fu f).run (runKR P T C fu d) args of nx, fun id => yieldR T (runKR P T C fu d) fu id, enterB P⟩ : KS) = ⟨fun f => match C f with
      | some s => s
      | none => runF P T (runK P T C (fun _ _ _ => none) fu d) (fun _ _ => none) fu f, fun id => yieldS T (runK P T C (fun _ _ _ => none) fu d) fu id, enterB P⟩
    rw [ih]
    generalize runK P T C (fun _ _ _ => none) fu d = K0
    have e1 : ∀ f, (fun args of nx => (fnZ P T C fu f).run K0 args of nx) = (match C f with
      | some s => s
      | none => runF P T K0 (fun _ _ => none) fu f) := fun f => by
      funext args of nx
      unfold fnZ
      cases C f with
      | none => exact fnR_eq P K0 fu f args of nx
      | some s => rfl
    have e2 : ∀ id, yieldR T K0 fu id = yieldS T K0 fu id := fun id => by
      funext args of nx
      exact yieldR_eq K0 fu id args of nx
    rw [show (fun f args of nx => (fnZ P T C fu f).run K0 args of nx) = _ from funext e1, show (fun id => yieldR T K0 fu id) = _ from funext e2]
noncomputable def runAR (P : Program) (T : TT) (C : Nat → Option Sym) (fu d f : Nat) : Sym := (runKR P T C fu d).f f
theorem runAR_eq (P : Program) (C : Nat → Option Sym) (fu d f : Nat) : runAR P T C fu d f = runAll P T C (fun _ _ _ => none) fu d f := by
  unfold runAR runAll
  rw [runKR_eq]
end Go.Vm

namespace Go.Vm
open Go.RowKit
variable {T : TT}
def ob {α R : Type} (o : Option α) (k : α → Option R) : Option R :=
  match o with
  | some a => k a
  | none => none
abbrev SymC := (R : Type) → List A → (Nat → Option Ob) → Nat → (Eff → Option R) → Option R
def SymC.dir (s : SymC) : Sym := fun args of nx => s Eff args of nx some
def SymC.nat (s : SymC) : Prop := ∀ (R : Type) (args : List A) (of : Nat → Option Ob) (nx : Nat) (k : Eff → Option R), s R args of nx k = ob (s.dir args of nx) k
def ofSym (s : Sym) : SymC := fun _ args of nx k => ob (s args of nx) k
theorem ofSym_nat (s : Sym) : (ofSym s).nat := by
  intro R args of nx k
  simp only [ofSym, SymC.dir]
  cases s args of nx <;> rfl
theorem ofSym_dir (s : Sym) : (ofSym s).dir = s := by
  funext args of nx
  simp only [ofSym, SymC.dir]
  cases s args of nx <;> rfl
variable {R : Type}
def srcC (T : TT) (of : Nat → Option Ob) (el : Nat) (u : A) (k : List V × List Nat → Option R) : Option R :=
  match u with
  | .w id ver off n => match of id with
    | some (.row el' v xs _ _) => bif Nat.beq el el' && Nat.beq v ver then (bif Nat.ble (off + n) xs.length then k ((xs.drop off).take n, [id]) else none) else none
    | _ => none
  | u => ob (srcA T of el u) k
theorem srcC_eq (of : Nat → Option Ob) (el : Nat) (u : A) (k : List V × List Nat → Option R) : srcC T of el u k = ob (srcA T of el u) k := by
  unfold srcC
  split
  · rename_i id ver off n
    simp only [srcA]
    cases of id with
    | none => rfl
    | some o =>
      cases o with
      | row el' v xs nl sh => simp only; cases (Nat.beq el el' && Nat.beq v ver) <;> cases Nat.ble (off + n) xs.length <;> rfl
      | _ => rfl
  · rfl
def indexAddrC (T : TT) (of : Nat → Option Ob) (t : Nat) (i : Int) (u : A) (k : A × List Nat → Option R) : Option R :=
  match kOf T t with
  | some (.arr n el) => bif (T el).isSome then bif ile 0 i && ilt i n then
      (match u with
      | .p id t' path => bif same T t t' then k (.p id el (path ++ [i.toNat]), []) else none
      | .e id ver j t' path => bif same T t t' && curR of id ver then k (.e id ver j el (path ++ [i.toNat]), [id]) else none
      | .c t' y => bif same T t t' then k (.c el (y.nth i.toNat), []) else none
      | _ => none)
    else none else none
  | some (.slice el) => bif (T el).isSome then
      (match u with
      | .o id ver => match of id with
        | some (.row el' v xs _ _) => bif Nat.beq el el' && Nat.beq v ver then (bif ile 0 i && ilt i xs.length then k (.e id ver i.toNat el [], [id]) else none) else none
        | _ => none
      | .w id ver off n => match of id with
        | some (.row el' v xs _ _) => bif Nat.beq el el' && Nat.beq v ver then (bif ile 0 i && ilt i n then k (.e id ver (off + i.toNat) el [], [id]) else none) else none
        | _ => none
      | .v t' y => bif same T t t' then (bif ile 0 i && ilt i y.els.length then k (.c el (y.nth i.toNat), []) else none) else none
      | .q t' y => bif same T t t' then (bif ile 0 i && ilt i y.els.length then k (.c el (y.nth i.toNat), []) else none) else none
      | .a id t1 path l0 m => match kOf T t1 with
        | some (.arr _ el') => bif Nat.beq el el' then (bif ile 0 i && ilt i m then k (.p id el (path ++ [l0 + i.toNat]), []) else none) else none
        | _ => none
      | _ => none)
    else none
  | _ => none
theorem indexAddrC_eq (of : Nat → Option Ob) (t : Nat) (i : Int) (u : A) (k : A × List Nat → Option R) : indexAddrC T of t i u k = ob (indexAddrA T of t i u) k := by
  unfold indexAddrC indexAddrA
  cases kOf T t with
  | none => rfl
  | some kk =>
  cases kk with
  | arr n el =>
    simp only
    cases u with
    | p id t' path => simp only; cases (T el).isSome <;> cases ile 0 i <;> cases ilt i (n : Int) <;> cases same T t t' <;> rfl
    | e id ver j t' path => simp only; cases (T el).isSome <;> cases ile 0 i <;> cases ilt i (n : Int) <;> cases same T t t' <;> cases curR of id ver <;> rfl
    | c t' y => simp only; cases (T el).isSome <;> cases ile 0 i <;> cases ilt i (n : Int) <;> cases same T t t' <;> rfl
    | _ => simp only; cases (T el).isSome <;> cases ile 0 i <;> cases ilt i (n : Int) <;> rfl
  | slice el =>
    simp only
    cases (T el).isSome
    · cases ile 0 i <;> rfl
    · simp only [cond_true, Bool.and_true]
      cases u with
      | o id ver =>
        simp only
        cases of id with
        | none => cases ile 0 i <;> rfl
        | some o =>
          cases o with
          | row el' v xs nl sh => simp only; cases ile 0 i <;> cases (Nat.beq el el' && Nat.beq v ver) <;> cases ilt i xs.length <;> rfl
          | _ => cases ile 0 i <;> rfl
      | w id ver off n =>
        simp only
        cases of id with
        | none => cases ile 0 i <;> rfl
        | some o =>
          cases o with
          | row el' v xs nl sh => simp only; cases ile 0 i <;> cases (Nat.beq el el' && Nat.beq v ver) <;> cases ilt i n <;> rfl
          | _ => cases ile 0 i <;> rfl
      | v t' y => simp only; cases ile 0 i <;> cases same T t t' <;> cases ilt i y.els.length <;> rfl
      | q t' y => simp only; cases ile 0 i <;> cases same T t t' <;> cases ilt i y.els.length <;> rfl
      | a id t1 path l0 m =>
        simp only
        cases kOf T t1 with
        | none => cases ile 0 i <;> rfl
        | some k1 =>
          cases k1 with
          | arr n' el' => simp only; cases ile 0 i <;> cases Nat.beq el el' <;> cases ilt i m <;> rfl
          | _ => cases ile 0 i <;> rfl
      | _ => cases ile 0 i <;> rfl
  | _ => rfl
def indexC (T : TT) (t : Nat) (i : Int) (u : A) (k : A → Option R) : Option R :=
  match u with
  | .s l => match kOf T t with
    | some .str => bif ile 0 i && ilt i l.length then k (.i .u8 (l.getD i.toNat .n).int) else none
    | _ => none
  | .v t' y => match kOf T t with
    | some (.arr n el) => bif same T t t' && (T el).isSome then (bif ile 0 i && ilt i n then k (mkA T el (y.nth i.toNat)) else none) else none
    | _ => none
  | _ => none
theorem indexC_eq (t : Nat) (i : Int) (u : A) (k : A → Option R) : indexC T t i u k = ob (indexA T t i u) k := by
  unfold indexC indexA
  cases u with
  | s l =>
    simp only
    cases kOf T t with
    | none => rfl
    | some k1 => cases k1 with
      | str => simp only; cases (ile 0 i && ilt i l.length) <;> rfl
      | _ => rfl
  | v t' y =>
    simp only
    cases kOf T t with
    | none => rfl
    | some k1 => cases k1 with
      | arr n el => simp only; cases same T t t' <;> cases (T el).isSome <;> cases ile 0 i <;> cases ilt i n <;> rfl
      | _ => rfl
  | _ => rfl
def intC (op : BinOp) (kd : IntKind) (a b : Int) (k : A → Option R) : Option R :=
  match op with
  | .quo => bif ieq b 0 then none else k (.i kd (kd.wrap (a.tdiv b)))
  | .rem => bif ieq b 0 then none else k (.i kd (a.tmod b))
  | .shl => bif ile 0 b then k (.i kd (kd.wrap (a * 2 ^ min b.toNat kd.bits))) else none
  | .shr => bif ile 0 b then k (.i kd (a.fdiv (2 ^ min b.toNat kd.bits))) else none
  | op => ob (intA op kd a b) k
theorem intC_eq (op : BinOp) (kd : IntKind) (a b : Int) (k : A → Option R) : intC op kd a b k = ob (intA op kd a b) k := by
  cases op <;> simp only [intC, intA]
  · cases ieq b 0 <;> rfl
  · cases ieq b 0 <;> rfl
  · cases ile 0 b <;> rfl
  · cases ile 0 b <;> rfl
def strC (op : BinOp) (x y : List V) (k : A → Option R) : Option R :=
  match op with
  | .add => bif Nat.ble (x.length + y.length) LIM then k (.s (x ++ y)) else none
  | op => ob (strA op x y) k
theorem strC_eq (op : BinOp) (x y : List V) (k : A → Option R) : strC op x y k = ob (strA op x y) k := by
  cases op <;> simp only [strC, strA]
  cases Nat.ble (x.length + y.length) LIM <;> rfl
def binC (T : TT) (of : Nat → Option Ob) (op : BinOp) (xt : Nat) (u v : A) (k : A × List Nat → Option R) : Option R :=
  match u, v with
  | .i kd a, .i k' b => bif isShift op || kbeq kd k' then intC op kd a b fun r => k (r, []) else none
  | .s a, .s b => strC op a b fun r => k (r, [])
  | u, v => ob (binA T of op xt u v) k
theorem binC_eq (of : Nat → Option Ob) (op : BinOp) (xt : Nat) (u v : A) (k : A × List Nat → Option R) : binC T of op xt u v k = ob (binA T of op xt u v) k := by
  unfold binC
  split
  · rename_i kd a k' b
    simp only [binA]
    cases (isShift op || kbeq kd k')
    · rfl
    · simp only [cond_true, if_true, intC_eq]
      cases intA op kd a b <;> rfl
  · rename_i a b
    simp only [binA, strC_eq]
    cases strA op a b <;> rfl
  · rfl
def unC (op : UnOp) (u : A) (k : A → Option R) : Option R :=
  match op, u with
  | .xor, .i kd n => k (.i kd (bitsOf .xor kd (if kd.signed then -1 else kd.max) n))
  | op, u => ob (unA op u) k
theorem bitsOf_inRb (op : BinOp) (kd : IntKind) (x y : Int) : inRb kd (bitsOf op kd x y) = true := by
  have := wrap_inR kd (match op with
    | .and => (BitVec.ofInt kd.bits x &&& BitVec.ofInt kd.bits y).toNat
    | .or => (BitVec.ofInt kd.bits x ||| BitVec.ofInt kd.bits y).toNat
    | .xor => (BitVec.ofInt kd.bits x ^^^ BitVec.ofInt kd.bits y).toNat
    | _ => (BitVec.ofInt kd.bits x &&& ~~~BitVec.ofInt kd.bits y).toNat : Nat)
  unfold inRb
  rw [Bool.and_eq_true, ile_iff, ile_iff]
  exact this
theorem unC_eq (op : UnOp) (u : A) (k : A → Option R) : unC op u k = ob (unA op u) k := by
  unfold unC
  split
  · rename_i kd n
    simp only [unA, chk, bitsOf_inRb, if_true]
    rfl
  · rfl
def lenC (T : TT) (of : Nat → Option Ob) (t : Nat) (u : A) (k : A × List Nat → Option R) : Option R :=
  match kOf T t with
  | some .str => match u with
    | .s l => bif Nat.ble l.length 9223372036854775807 then k (.i .i64 (l.length : Nat), []) else none
    | _ => none
  | some (.slice el) => match u with
    | .s _ => none
    | u => srcC T of el u fun p => bif Nat.ble p.1.length 9223372036854775807 then k (.i .i64 (p.1.length : Nat), p.2) else none
  | some (.map _ _) => match u with
    | .m id => match of id with
      | some (.map _ _ es) => bif Nat.ble es.length 9223372036854775807 then k (.i .i64 (es.length : Nat), [id]) else none
      | some (.vm _ _ es) => bif Nat.ble es.length 9223372036854775807 then k (.i .i64 (es.length : Nat), [id]) else none
      | _ => none
    | _ => none
  | _ => none
theorem lenC_eq (of : Nat → Option Ob) (t : Nat) (u : A) (k : A × List Nat → Option R) : lenC T of t u k = ob (lenB T of t u) k := by
  unfold lenB
  cases hq : vmOf of u with
  | some q =>
    obtain ⟨id, kt', et', es⟩ := q
    obtain ⟨rfl, hof⟩ := vmOf_spec hq
    unfold lenC
    simp only
    cases hk : kOf T t with
    | none => rfl
    | some kk => cases kk with
      | map kt et => simp only [hof]; cases Nat.ble es.length 9223372036854775807 <;> rfl
      | slice el => simp only [srcC, srcA]; rfl
      | _ => rfl
  | none =>
  simp only
  unfold lenC lenA
  cases kOf T t with
  | none => rfl
  | some kk =>
    cases kk with
    | str => cases u with
      | s l => simp only; cases Nat.ble l.length 9223372036854775807 <;> rfl
      | _ => rfl
    | slice el =>
      have gen : ∀ o : Option (List V × List Nat), ob o (fun p => bif Nat.ble p.1.length 9223372036854775807 then k (A.i .i64 (p.1.length : Nat), p.2) else none) = ob (match o with | some (xs, ro) => (if Nat.ble xs.length 9223372036854775807 = true then some (A.i .i64 (xs.length : Nat), ro) else none) | none => none) k := by
        intro o
        cases o with
        | none => rfl
        | some p => simp only [ob]; cases Nat.ble p.1.length 9223372036854775807 <;> rfl
      cases u with
      | s l => simp only; cases srcA T of el (.s l) <;> rfl
      | _ => simp only [srcC_eq]; exact gen _
    | map kt et => cases u with
      | m id =>
        simp only
        cases hid : of id with
        | none => rfl
        | some o => cases o with
          | map kt' et' es => simp only; cases Nat.ble es.length 9223372036854775807 <;> rfl
          | vm kt' et' es => exfalso; unfold vmOf at hq; simp only [hid] at hq; cases hq
          | _ => rfl
      | _ => rfl
    | _ => rfl
def appendC (T : TT) (of : Nat → Option Ob) (nx t : Nat) (x y : A) (k : Out → Option R) : Option R :=
  match kOf T t with
  | some (.slice el) => match T el with
    | some te => srcC T of el y fun p => bif Nat.ble te.bytes 131072 && TK.notOther te.k && Nat.blt 0 te.size then
        (match x with
        | .o id ver => match of id with
          | some (.row el' v xs nl sh) => bif Nat.beq el el' && Nat.beq v ver then (bif Nat.ble (xs.length + p.1.length) LIM then
              k ⟨.o id (ver + 1), [(id, .row el (ver + 1) (xs ++ p.1) (nl && p.1.isEmpty) sh)], id :: p.2, []⟩ else none) else none
          | _ => none
        | .w id ver off n => match of id with
          | some (.row el' v xs false sh) => bif Nat.beq el el' && Nat.beq v ver then (bif Nat.ble (off + n) xs.length then (bif Nat.beq (off + n) xs.length || !sh then (bif Nat.ble (n + p.1.length) LIM then
              k ⟨.o id (ver + 1), [(id, .row el (ver + 1) ((xs.drop off).take n ++ p.1) false sh)], id :: p.2, []⟩ else none) else none) else none) else none
          | _ => none
        | .v t' .n => bif same T t t' then (bif Nat.ble p.1.length LIM then k ⟨.o nx 1, [(nx, .row el 1 p.1 p.1.isEmpty false)], p.2, [nx]⟩ else none) else none
        | .z v => bif nilS v then (bif Nat.ble p.1.length LIM then k ⟨.o nx 1, [(nx, .row el 1 p.1 p.1.isEmpty false)], p.2, [nx]⟩ else none) else none
        | .q t' x => bif same T t t' then (bif !p.1.isEmpty then (bif Nat.ble (x.els.length + p.1.length) LIM then k ⟨.o nx 1, [(nx, .row el 1 (x.els ++ p.1) p.1.isEmpty false)], p.2, [nx]⟩ else none) else none) else none
        | _ => none)
      else none
    | none => none
  | _ => none
theorem appendC_eq (of : Nat → Option Ob) (nx t : Nat) (x y : A) (k : Out → Option R) : appendC T of nx t x y k = ob (appendA T of nx t x y) k := by
  unfold appendC appendA
  cases kOf T t with
  | none => rfl
  | some kk =>
  cases kk with
  | slice el =>
    simp only
    cases T el with
    | none => rfl
    | some te =>
      simp only [srcC_eq]
      cases srcA T of el y with
      | none => rfl
      | some p =>
        obtain ⟨ns, ro⟩ := p
        simp only [ob]
        cases (Nat.ble te.bytes 131072 && TK.notOther te.k && Nat.blt 0 te.size)
        · rfl
        · simp only [cond_true, if_true]
          cases x with
          | o id ver =>
            simp only
            cases of id with
            | none => rfl
            | some o => cases o with
              | row el' v xs nl sh => simp only; cases (Nat.beq el el' && Nat.beq v ver) <;> cases Nat.ble (xs.length + ns.length) LIM <;> rfl
              | _ => rfl
          | w id ver off n =>
            simp only
            cases of id with
            | none => rfl
            | some o => cases o with
              | row el' v xs nl sh => cases nl <;> simp only <;> cases (Nat.beq el el' && Nat.beq v ver) <;> cases Nat.ble (off + n) xs.length <;> cases (Nat.beq (off + n) xs.length || !sh) <;> cases Nat.ble (n + ns.length) LIM <;> rfl
              | _ => rfl
          | v t' y => cases y with
            | n => simp only; cases same T t t' <;> cases Nat.ble ns.length LIM <;> rfl
            | _ => rfl
          | z v => simp only; cases nilS v <;> cases Nat.ble ns.length LIM <;> rfl
          | q t' x' => simp only; cases same T t t' <;> cases ns.isEmpty <;> cases Nat.ble (x'.els.length + ns.length) LIM <;> rfl
          | _ => rfl
  | _ => rfl
end Go.Vm

namespace Go.Vm
open Go.RowKit
variable {T : TT} {R : Type}
def boundsC (n : Nat) (lo hi : Option A) (k : Nat × Nat → Option R) : Option R :=
  match bnd (0 : Nat) lo, bnd n hi with
  | some l, some h => bif ile 0 l && ile l h && ile h n then k (l.toNat, (h - l).toNat) else none
  | _, _ => none
theorem boundsC_eq (n : Nat) (lo hi : Option A) (k : Nat × Nat → Option R) : boundsC n lo hi k = ob (bounds n lo hi) k := by
  unfold boundsC bounds
  cases bnd (0 : Nat) lo with
  | none => rfl
  | some l => cases bnd n hi with
    | none => rfl
    | some h => simp only; cases (ile 0 l && ile l h && ile h n) <;> rfl
def sliceC (T : TT) (of : Nat → Option Ob) (t : Nat) (u : A) (lo hi mx : Option A) (k : A × List (Nat × Ob) × List Nat → Option R) : Option R :=
  match mx with
  | some mx => (match kOf T t with
    | some (.slice el) => bif (T el).isSome && isQ T u then
        (match bnd (0 : Nat) lo, hi, mx with
        | some l, some (.i _ h), .i _ h' => bif ieq h h' then (match toV T DEP of t u with
          | some (x, wo) => bif ile 0 l && ile l h && ile h x.els.length then k (.q t (subV x l.toNat (h - l).toNat), wo, ids wo) else none
          | none => none) else none
        | _, _, _ => none) else none
    | _ => none)
  | none =>
  match kOf T t with
  | some .str => match u with
    | .s l => boundsC l.length lo hi fun p => k (.s ((l.drop p.1).take p.2), [], [])
    | _ => none
  | some (.slice el) => bif (T el).isSome && isQ T u then
      (match zV T t u with
        | .v t' y => bif same T t t' then boundsC y.els.length lo hi fun p => k (.v t' (subV y p.1 p.2), [], []) else none
        | .w id ver off n => match of id with
          | some (.row el' v xs _ _) => bif Nat.beq el el' && Nat.beq v ver then boundsC n lo hi fun p => k (.w id ver (off + p.1) p.2, [], [id]) else none
          | _ => none
        | .o id ver => match of id with
          | some (.row el' v xs false _) => bif Nat.beq el el' && Nat.beq v ver then boundsC xs.length lo hi fun p => k (.w id ver (0 + p.1) p.2, [], [id]) else none
          | some (.row el' v xs true _) => bif Nat.beq el el' && Nat.beq v ver && scal T t then boundsC 0 lo hi fun p => k (.v t (subV .n p.1 p.2), [], [id]) else none
          | _ => none
        | .a id t1 path lo0 m => match kOf T t1 with
          | some (.arr _ el') => bif Nat.beq el el' then boundsC m lo hi fun p => k (.a id t1 path (lo0 + p.1) p.2, [], []) else none
          | _ => none
        | _ => none)
    else none
  | some (.arr n el) => match u with
    | .p id t1 path => bif same T t t1 && (T el).isSome then boundsC n lo hi fun p => k (.a id t1 path p.1 p.2, [], []) else none
    | _ => none
  | _ => none
theorem ob_if {α : Type} (q : Bool) (a : Option α) (k : α → Option R) : ob (if q = true then a else none) k = bif q then ob a k else none := by cases q <;> rfl
theorem sliceC_eq (of : Nat → Option Ob) (t : Nat) (u : A) (lo hi mx : Option A) (k : A × List (Nat × Ob) × List Nat → Option R) : sliceC T of t u lo hi mx k = ob (sliceA T of t u lo hi mx) k := by
  unfold sliceC
  cases mx with
  | some m =>
    unfold sliceA
    simp only
    cases kOf T t with
    | none => rfl
    | some kk =>
    cases kk with
    | str => cases u <;> rfl
    | slice el =>
      simp only [ob_if]
      cases ((T el).isSome && isQ T u)
      · rfl
      · simp only [cond_true]
        cases bnd (0 : Nat) lo with
        | none => rfl
        | some l => cases hi with
          | none => rfl
          | some a => cases a with
            | i k1 h => cases m with
              | i k2 h' =>
                simp only [ob_if]
                cases ieq h h'
                · rfl
                · simp only [cond_true]
                  cases toV T DEP of t u with
                  | none => rfl
                  | some p => obtain ⟨x, wo⟩ := p; simp only [ob_if]; cases (ile 0 l && ile l h && ile h x.els.length) <;> rfl
              | _ => rfl
            | _ => rfl
    | arr n el => cases u <;> rfl
    | _ => rfl
  | none =>
  unfold sliceA
  simp only
  cases kOf T t with
  | none => rfl
  | some kk =>
  cases kk with
  | str => cases u with
    | s l => simp only [boundsC_eq]; cases bounds l.length lo hi <;> rfl
    | _ => rfl
  | slice el =>
    simp only [ob_if]
    cases ((T el).isSome && isQ T u)
    · rfl
    · simp only [cond_true]
      cases zV T t u with
      | v t' y => simp only [ob_if, boundsC_eq]; cases bounds y.els.length lo hi <;> rfl
      | w id ver off n =>
        simp only
        cases of id with
        | none => rfl
        | some o => cases o with
          | row el' v xs nl sh => simp only [ob_if, boundsC_eq]; cases bounds n lo hi <;> rfl
          | _ => rfl
      | o id ver =>
        simp only
        cases of id with
        | none => rfl
        | some o => cases o with
          | row el' v xs nl sh => cases nl <;> simp only [ob_if, boundsC_eq]
                                  · cases bounds xs.length lo hi <;> rfl
                                  · cases bounds 0 lo hi <;> rfl
          | _ => rfl
      | a id t1 path lo0 m =>
        simp only
        cases kOf T t1 with
        | none => rfl
        | some k1 => cases k1 with
          | arr n' el' => simp only [ob_if, boundsC_eq]; cases bounds m lo hi <;> rfl
          | _ => rfl
      | _ => rfl
  | arr n el => cases u with
    | p id t1 path => simp only [ob_if, boundsC_eq]; cases bounds n lo hi <;> rfl
    | _ => rfl
  | _ => rfl
def makeSliceC (T : TT) (nx t : Nat) (u v : A) (k : Eff → Option R) : Option R :=
  match kOf T t, u, v with
  | some (.slice el), .i _ a, .i _ b => match T el with
    | some te => bif Nat.blt 0 te.size && TK.notOther te.k && Nat.ble te.bytes 131072 then (bif ile 0 a && ile a b && ile b LIM then k ⟨.o nx 1, [(nx, .row el 1 (List.replicate a.toNat te.zero) false false)], [], nx + 1⟩ else none) else none
    | none => none
  | _, _, _ => none
theorem makeSliceC_eq (nx t : Nat) (u v : A) (k : Eff → Option R) : makeSliceC T nx t u v k = ob (makeSliceA T nx t u v) k := by
  unfold makeSliceC makeSliceA
  cases kOf T t with
  | none => rfl
  | some kk => cases kk with
    | slice el => cases u with
      | i k1 a => cases v with
        | i k2 b =>
          simp only
          cases T el with
          | none => rfl
          | some te =>
            simp only
            cases Nat.blt 0 te.size <;> cases TK.notOther te.k <;> cases Nat.ble te.bytes 131072 <;> cases ile 0 a <;> cases ile a b <;> cases ile b LIM <;> rfl
        | _ => rfl
      | _ => rfl
    | _ => rfl
def arrC (T : TT) (of : Nat → Option Ob) (t : Nat) (u : A) (k : A × List (Nat × Ob) × List Nat → Option R) : Option R :=
  match u with
  | .v t' y => match kOf T t with
    | some (.arr n el) => bif Nat.blt 0 n && Nat.beq (szT T t) (n * szT T el) then
      (match kOf T t' with
        | some (.slice el') => bif Nat.beq el el' then (bif Nat.ble n y.els.length then k (.c t (.l (y.els.take n)), [], []) else none) else none
        | _ => none) else none
    | _ => none
  | .o id ver => match kOf T t with
    | some (.arr n el) => bif Nat.blt 0 n && Nat.beq (szT T t) (n * szT T el) then
      (match of id with
        | some (.row el' v xs false _) => bif Nat.beq el el' && Nat.beq v ver then (bif Nat.ble n xs.length then k (.c t (.l (xs.take n)), [(id, .row el' ver xs false true)], [id]) else none) else none
        | _ => none) else none
    | _ => none
  | u => ob (arrA T of t u) k
theorem arrC_eq (of : Nat → Option Ob) (t : Nat) (u : A) (k : A × List (Nat × Ob) × List Nat → Option R) : arrC T of t u k = ob (arrA T of t u) k := by
  unfold arrC
  cases u with
  | v t' y =>
    simp only [arrA]
    cases kOf T t with
    | none => rfl
    | some kk => cases kk with
      | arr n el =>
        simp only [ob_if]
        cases kOf T t' with
        | none => rfl
        | some k1 => cases k1 with
          | slice el' => simp only [ob_if]; cases (Nat.blt 0 n && Nat.beq (szT T t) (n * szT T el)) <;> cases Nat.beq el el' <;> cases Nat.ble n y.els.length <;> rfl
          | _ => rfl
      | _ => rfl
  | o id ver =>
    simp only [arrA]
    cases kOf T t with
    | none => rfl
    | some kk => cases kk with
      | arr n el =>
        simp only [ob_if]
        cases of id with
        | none => rfl
        | some o => cases o with
          | row el' v xs nl sh => cases nl
                                  · simp only [ob_if]; cases (Nat.blt 0 n && Nat.beq (szT T t) (n * szT T el)) <;> cases (Nat.beq el el' && Nat.beq v ver) <;> cases Nat.ble n xs.length <;> rfl
                                  · rfl
          | _ => rfl
      | _ => rfl
  | _ => rfl
def oc {α β : Type} (o : Option α) (s : α → β) (n : β) : β :=
  match o with
  | some a => s a
  | none => n
def lookC (T : TT) (of : Nat → Option Ob) (t : Nat) (m k : A) (okk : Bool) (kk : A × List Nat → Option R) : Option R :=
  match kOf T t with
  | some (.map kt et) => match T et, keyV T kt k with
    | some te, some kv => bif TK.notOther te.k then
        (bif isMapN T t m then kk (okA okk (mkA T et te.zero) false, []) else
        match m with
        | .m id => match of id with
          | some (.map kt' et' es) => bif Nat.beq kt kt' && Nat.beq et et' then oc (fndM kv es) (fun a => kk (okA okk (norm T a) true, [id])) (kk (okA okk (mkA T et te.zero) false, [id])) else none
          | some (.vm kt' et' es) => bif Nat.beq kt kt' && Nat.beq et et' then (bif hasV kv es then kk (okA okk (mkA T et (getV kv es)) true, [id]) else kk (okA okk (mkA T et te.zero) false, [id])) else none
          | _ => none
        | _ => none)
      else none
    | _, _ => none
  | _ => none
theorem lookC_eq (of : Nat → Option Ob) (t : Nat) (m k : A) (okk : Bool) (kk : A × List Nat → Option R) : lookC T of t m k okk kk = ob (lookB T of t m k okk) kk := by
  unfold lookB
  cases hq : vmOf of m with
  | some q =>
    obtain ⟨id, kt', et', es⟩ := q
    obtain ⟨rfl, hof⟩ := vmOf_spec hq
    unfold lookC lookV
    simp only
    cases kOf T t with
    | none => rfl
    | some k1 => cases k1 with
      | map kt et =>
        simp only
        cases T et with
        | none => rfl
        | some te => cases keyV T kt k with
          | none => rfl
          | some kv =>
            simp only [ob_if, show isMapN T t (.m id) = false from rfl, cond_false, hof]
            cases TK.notOther te.k
            · rfl
            · simp only [cond_true]
              cases (Nat.beq kt kt' && Nat.beq et et')
              · rfl
              · simp only [cond_true]
                cases hasV kv es <;> rfl
      | _ => rfl
  | none =>
  simp only
  unfold lookC lookA
  cases kOf T t with
  | none => rfl
  | some k1 => cases k1 with
    | map kt et =>
      simp only
      cases T et with
      | none => rfl
      | some te => cases keyV T kt k with
        | none => rfl
        | some kv =>
          simp only [ob_if]
          cases TK.notOther te.k
          · rfl
          · simp only [cond_true]
            cases isMapN T t m
            · simp only [cond_false]
              cases m with
              | m id =>
                simp only
                cases hid : of id with
                | none => rfl
                | some o => cases o with
                  | map kt' et' es =>
                    simp only [ob_if]
                    cases (Nat.beq kt kt' && Nat.beq et et')
                    · rfl
                    · simp only [cond_true]
                      cases fndM kv es <;> rfl
                  | vm kt' et' es => exfalso; unfold vmOf at hq; simp only [hid] at hq; cases hq
                  | _ => rfl
              | _ => rfl
            · rfl
    | _ => rfl
def convC (T : TT) (of : Nat → Option Ob) (nx s t : Nat) (u : A) (k : Out → Option R) : Option R :=
  match u with
  | .w id ver off n => match kOf T t with
    | some .str => match kOf T s with
      | some (.slice el) => match kOf T el with
        | some (.int .u8) => bif Nat.beq (szT T el) 1 then srcC T of el (.w id ver off n) fun p => k ⟨.s p.1, [], p.2, []⟩ else none
        | _ => none
      | _ => none
    | _ => ob (convA T of nx s t (.w id ver off n)) k
  | u => ob (convA T of nx s t u) k
theorem convC_eq (of : Nat → Option Ob) (nx s t : Nat) (u : A) (k : Out → Option R) : convC T of nx s t u k = ob (convA T of nx s t u) k := by
  unfold convC
  cases u with
  | w id ver off n =>
    simp only
    cases hk : kOf T t with
    | none => rfl
    | some kk => cases kk with
      | str =>
        simp only [convA, hk, bytesOf]
        cases kOf T s with
        | none => rfl
        | some k1 => cases k1 with
          | slice el =>
            simp only
            cases kOf T el with
            | none => rfl
            | some k2 => cases k2 with
              | int ki => cases ki <;> try rfl
                          simp only [srcC_eq]
                          cases Nat.beq (szT T el) 1
                          · rfl
                          · simp only [cond_true, if_true]; cases srcA T of el (.w id ver off n) <;> rfl
              | _ => rfl
          | _ => rfl
      | _ => rfl
  | _ => rfl
def copyC (T : TT) (of : Nat → Option Ob) (t xt : Nat) (u v : A) (k : A × List (Nat × Ob) × List Nat → Option R) : Option R :=
  match kOf T t with
  | some (.slice el) => bif appOk T xt v && (T el).isSome then
      srcC T of el v fun p => bif Nat.ble p.1.length LIM then
        (match u with
        | .a id t1 path lo m => match kOf T t1, of id with
          | some (.arr N el'), some (.box t0 a false) => match atA T a path with
            | some (.v t2 y) => bif Nat.beq el el' && Nat.beq t1 t2 then
                (bif p.1.isEmpty then (match srcA T of el (.a id t1 path lo m) with
                  | some q => k (.i .i64 0, [], p.2 ++ q.2)
                  | none => none) else
                 bif Nat.ble p.1.length m && Nat.ble (lo + m) N then (match putA T a path (.v t1 (.l (splice y.els lo p.1))) with
                  | some a' => k (.i .i64 (p.1.length : Nat), [(id, .box t0 a' false)], id :: p.2)
                  | none => none) else none) else ob (copyA T of t xt u v) k
            | _ => ob (copyA T of t xt u v) k
          | _, _ => ob (copyA T of t xt u v) k
        | u => ob (copyA T of t xt u v) k)
        else none
    else none
  | _ => none
theorem copyC_eq (of : Nat → Option Ob) (t xt : Nat) (u v : A) (k : A × List (Nat × Ob) × List Nat → Option R) : copyC T of t xt u v k = ob (copyA T of t xt u v) k := by
  unfold copyC
  cases hk : kOf T t with
  | none => simp only [copyA, hk]; rfl
  | some kk => cases kk with
    | slice el =>
      simp only [srcC_eq]
      cases hq : (appOk T xt v && (T el).isSome) with
      | false => simp only [copyA, hk, hq]; rfl
      | true =>
        simp only [cond_true]
        cases hs : srcA T of el v with
        | none => simp only [copyA, hk, hq, hs]; rfl
        | some p =>
          obtain ⟨ns, ro⟩ := p
          simp only [ob]
          cases hl : Nat.ble ns.length LIM with
          | false => simp only [copyA, hk, hq, hs, hl]; rfl
          | true =>
            simp only [cond_true]
            cases u with
            | a id t1 path lo m =>
              simp only
              cases hk1 : kOf T t1 with
              | none => rfl
              | some k1 => cases k1 with
                | arr N el' =>
                  cases ho : of id with
                  | none => rfl
                  | some o => cases o with
                    | box t0 a sh => cases sh
                                     · simp only
                                       cases ha : atA T a path with
                                       | none => rfl
                                       | some a1 => cases a1 with
                                         | v t2 y =>
                                           simp only
                                           cases hb : (Nat.beq el el' && Nat.beq t1 t2) with
                                           | false => rfl
                                           | true =>
                                             simp only [cond_true]
                                             cases ns with
                                             | nil =>
                                               simp only [List.isEmpty_nil, cond_true, copyA, hk, hq, hs, hl, if_true]
                                               cases srcA T of el (.a id t1 path lo m) <;> rfl
                                             | cons n0 nr =>
                                               simp only [List.isEmpty_cons, cond_false, copyA, hk, hq, hs, hl, hk1, ho, ha, hb, if_true, Bool.true_and]
                                               cases Nat.ble (n0 :: nr).length m <;> cases Nat.ble (lo + m) N <;> try rfl
                                               simp only [Bool.true_and, cond_true, if_true]
                                               cases putA T a path (.v t1 (.l (splice y.els lo (n0 :: nr)))) <;> rfl
                                         | _ => rfl
                                     · rfl
                    | _ => rfl
                | _ => rfl
            | _ => rfl
    | _ => simp only [copyA, hk]; rfl
end Go.Vm
end
