/- What the operations of a program do, shown once for all programs; and numbers. -/
import Derived.Test.YteagfgbajnihjaaGreatVm10
set_option linter.constructorNameAsVariable false
set_option linter.unusedVariables false
set_option linter.unusedSimpArgs false
noncomputable section
namespace Go.Vm
open Go.RowKit
variable {P : Program} {T : TT} {c : Ctx} {e eb : Env} {of of' : Nat → Option Ob}
set_option linter.unusedVariables false
set_option linter.constructorNameAsVariable false

/-! ### maps.Clone -/
/-- A new map with the entries of an old one. -/
def cloneK : Sym := fun args of nx =>
  match args with
  | [.m id] => match of id with
    | some (.map kt et es) => some ⟨.m nx, [(nx, .map kt et es)], [id], nx + 1⟩
    | _ => none
  | _ => none
def Clones (P : Program) (f : Nat) : Prop := ∀ (b : Nat) (es : Array MapEntry) (clock : Nat) (w : World), w.heap[b]? = some (.map es clock) → Calls P f #[.map (some b)] w fun e w' => e = .returned (.map (some w.heap.size)) ∧ w' = w.alloc (.map es clock)
theorem cloneK_ok {f : Nat} (hC : Clones P f) (hen : ∀ args w, (callFunc f args).run P w = .ok (.enter f args) w) : SymOK P T f cloneK := by
  intro c e of of' as vals nx out hos hs hro hu hvals
  unfold cloneK at hs
  split at hs <;> try (cases hs; done)
  rename_i id
  split at hs <;> try (cases hs; done)
  rename_i kt et es hof
  injection hs with hs; subst hs
  have hof' := (hro id (by simp)).trans hof
  obtain ⟨h1, h2, b, ms, clock, h3, h4, h5, es', h6, h7⟩ := hos.ok _ _ hof'
  obtain ⟨x, hv, hx⟩ : ∃ x, vals.toList = [x] ∧ Rep T e (.m id) x := by
    cases hvals' : vals.toList with
    | nil => rw [hvals'] at hvals; cases hvals
    | cons x r =>
      rw [hvals'] at hvals
      cases hvals with
      | cons g1 g2 => cases g2; exact ⟨x, rfl, g1⟩
  obtain ⟨b', _, _, k3, k4⟩ := rep_m_inv hx
  rw [h3] at k3; cases k3
  have hva : vals = #[.map (some b)] := by rw [← k4]; exact arr1 hv
  subst hva
  have hun : ¬ e.U nx := hu nx (Nat.le_refl _) (Nat.lt_succ_self _)
  refine .inr (.inr (.inl ⟨f, _, e.w, hen _ _, (hC b ms clock e.w h4).mono fun en w' ⟨g1, g2⟩ => ⟨_, g1, ?_⟩⟩))
  have hle := hos.le_newM hun (.map ms clock)
  refine ⟨e.newM nx (.map ms clock), g2.symm, hos.newM hun ?_, hle, fun j hj => hj.elim (fun q => .inr (by subst q; exact ⟨Nat.le_refl _, Nat.lt_succ_self _⟩)) .inl, ?_⟩
  · exact ⟨.inl rfl, upd_same _ _ _, e.w.heap.size, ms, clock, upd_same _ _ _, alloc_new _ _, h5, es', h6, h7.mono hle⟩
  · exact RA.r ⟨e.w.heap.size, .inl rfl, upd_same _ _ _, upd_same _ _ _, rfl⟩ rfl .nil
end Go.Vm

namespace Go.Vm
open Go.RowKit
variable {P : Program} {T : TT} {R : Type}
set_option linter.unusedVariables false
set_option linter.constructorNameAsVariable false

/-! ### Calls at data that are known: what comes out is kept -/
noncomputable def vI (b : V) : Int → Bool := @V.rec (fun _ => Int → Bool) (fun _ => Unit) (fun m n => eqQ n m) (fun _ _ => false) (fun _ _ _ => false) (fun _ _ _ => false) (fun _ => false) (fun _ _ => false) () (fun _ _ _ _ => ()) b
noncomputable def vB (b : V) : Bool → Bool := @V.rec (fun _ => Bool → Bool) (fun _ => Unit) (fun _ _ => false) (fun y x => @Bool.rec (fun _ => Bool → Bool) (fun y => @Bool.rec (fun _ => Bool) true false y) (fun y => y) x y) (fun _ _ _ => false) (fun _ _ _ => false) (fun _ => false) (fun _ _ => false) () (fun _ _ _ _ => ()) b
noncomputable def vS (b : V) : (List V → Bool) → Bool := @V.rec (fun _ => (List V → Bool) → Bool) (fun _ => Unit) (fun _ _ => false) (fun _ _ => false) (fun m _ f => f m) (fun _ _ _ => false) (fun _ => false) (fun _ _ => false) () (fun _ _ _ _ => ()) b
noncomputable def vL (b : V) : (List V → Bool) → Bool := @V.rec (fun _ => (List V → Bool) → Bool) (fun _ => Unit) (fun _ _ => false) (fun _ _ => false) (fun _ _ _ => false) (fun m _ f => f m) (fun _ => false) (fun _ _ => false) () (fun _ _ _ _ => ()) b
noncomputable def vN (b : V) : Bool := @V.rec (fun _ => Bool) (fun _ => Unit) (fun _ => false) (fun _ => false) (fun _ _ => false) (fun _ _ => false) true (fun _ => false) () (fun _ _ _ _ => ()) b
noncomputable def vF (b : V) : Nat → Bool := @V.rec (fun _ => Nat → Bool) (fun _ => Unit) (fun _ _ => false) (fun _ _ => false) (fun _ _ _ => false) (fun _ _ _ => false) (fun _ => false) (fun m n => Nat.beq n m) () (fun _ _ _ _ => ()) b
noncomputable def onC (f : V → Bool) (g : List V → Bool) (l : List V) : Bool := @List.rec V (fun _ => (V → Bool) → (List V → Bool) → Bool) (fun _ _ => false) (fun b s _ f g => @Bool.rec (fun _ => Bool) false (g s) (f b)) l f g
noncomputable def noC' (l : List V) : Bool := @List.rec V (fun _ => Bool) true (fun _ _ _ => false) l
noncomputable def eqV (a : V) : V → Bool := @V.rec (fun _ => V → Bool) (fun _ => List V → Bool) (fun n b => vI b n) (fun x b => vB b x) (fun _ f b => vS b f) (fun _ f b => vL b f) (fun b => vN b) (fun n b => vF b n) noC' (fun _ _ f g => onC f g) a
noncomputable def eqVL (a : List V) : List V → Bool := @V.rec_1 (fun _ => V → Bool) (fun _ => List V → Bool) (fun n b => vI b n) (fun x b => vB b x) (fun _ f b => vS b f) (fun _ f b => vL b f) (fun b => vN b) (fun n b => vF b n) noC' (fun _ _ f g => onC f g) a
mutual
theorem eqV_iff : ∀ (a b : V), eqV a b = true → a = b := by
  intro a b h
  cases a with
  | i n =>
    cases b with
    | i m => rw [show m = n from (ieq_iff.1 ((eqQ_eq n m).symm.trans h)).symm]
    | _ => cases h
  | b x =>
    cases b with
    | b y => cases x <;> cases y <;> first | rfl | cases h
    | _ => cases h
  | s l =>
    cases b with
    | s m => rw [eqVL_iff l m h]
    | _ => cases h
  | l l =>
    cases b with
    | l m => rw [eqVL_iff l m h]
    | _ => cases h
  | n => cases b <;> first | rfl | cases h
  | f n =>
    cases b with
    | f m => rw [Nat.eq_of_beq_eq_true h]
    | _ => cases h
theorem eqVL_iff : ∀ (a b : List V), eqVL a b = true → a = b := by
  intro a b h
  cases a with
  | nil => cases b <;> first | rfl | cases h
  | cons x r =>
    cases b with
    | nil => cases h
    | cons y s =>
      have h : @Bool.rec (fun _ => Bool) false (eqVL r s) (eqV x y) = true := h
      cases hx : eqV x y with
      | false => rw [hx] at h; cases h
      | true => rw [hx] at h; rw [eqV_iff x y hx, eqVL_iff r s h]
end
noncomputable def memK {R : Type} (tab : List (List V × List Rs)) : List V → (List Rs → Option R) → Option R :=
  @List.rec (List V × List Rs) (fun _ => List V → (List Rs → Option R) → Option R) (fun _ _ => none) (fun p _ ih xs k => @Bool.rec (fun _ => Option R) (ih xs k) (k p.2) (eqVL p.1 xs)) tab
noncomputable def memF (tab : List (List V × List Rs)) : FC := fun R xs k => memK tab xs k
theorem memF_nat (tab : List (List V × List Rs)) : FC.nat (memF tab) := by
  intro R xs k
  show memK tab xs k = ob (memK tab xs some) k
  induction tab with
  | nil => rfl
  | cons p r ih =>
    show @Bool.rec (fun _ => Option R) (memK r xs k) (k p.2) (eqVL p.1 xs) = ob (@Bool.rec (fun _ => Option (List Rs)) (memK r xs some) (some p.2) (eqVL p.1 xs)) k
    cases eqVL p.1 xs
    · exact ih
    · rfl
theorem memK_at {tab : List (List V × List Rs)} {xs : List V} {rs : List Rs} (h : memK tab xs some = some rs) : (xs, rs) ∈ tab := by
  induction tab with
  | nil => cases h
  | cons p r ih =>
    have h : @Bool.rec (fun _ => Option (List Rs)) (memK r xs some) (some p.2) (eqVL p.1 xs) = some rs := h
    cases he : eqVL p.1 xs with
    | false => rw [he] at h; exact List.mem_cons_of_mem _ (ih h)
    | true =>
      rw [he] at h
      simp only [Option.some.injEq] at h
      have := eqVL_iff _ _ he
      subst h; subst this
      exact List.mem_cons_self ..
def symC (s : Sym) : SymC := fun R args of nx k => ob (s args of nx) k
theorem symC_dir (s : Sym) : (symC s).dir = s := by
  funext args of nx
  show ob (s args of nx) some = _
  cases s args of nx <;> rfl
theorem symC_nat (s : Sym) : (symC s).nat := by
  intro R args of nx k
  rw [symC_dir]; rfl
/-- What is kept is right. -/
def MemOK (T : TT) (s : Sym) (sh : Bool) (ts : List Nat) (rk : List RK) : List (List V × List Rs) → Prop
  | [] => True
  | p :: r => ob (s (mkAs T ts p.1) (fun _ => none) 0) (fun out => resC T sh rk out) = some p.2 ∧ MemOK T s sh ts rk r
theorem MemOK.at {s : Sym} {sh : Bool} {ts : List Nat} {rk : List RK} : ∀ {tab : List (List V × List Rs)}, MemOK T s sh ts rk tab → ∀ p ∈ tab, ob (s (mkAs T ts p.1) (fun _ => none) 0) (fun out => resC T sh rk out) = some p.2 := by
  intro tab
  induction tab with
  | nil => intro _ p h; cases h
  | cons q r ih =>
    intro h p hp
    rcases List.mem_cons.1 hp with rfl | hp
    · exact h.1
    · exact ih h.2 p hp
theorem memo_ok {f : FuncId} {s : Sym} (hs : SymOK P T f s) {sh : Bool} {ts : List Nat} {rk : List RK} {tab : List (List V × List Rs)} (hts : ts.all (fun t => (T t).isSome) = true) (h : MemOK T s sh ts rk tab) : SymOK P T f (pureS T sh ts (memF tab)).dir :=
  pure_ok (s := symC s) (symC_nat s) (by rw [symC_dir]; exact hs) (memF_nat tab) hts (fun xs rs _ hrs => h.at (xs, rs) (memK_at hrs))
/-- Data, told shortly. -/
def bl (l : List Nat) : V := .l (l.map fun n => .i (n : Nat))
def bs (l : List Nat) : V := .s (l.map fun n => .i (n : Nat))
end Go.Vm

namespace Go.Vm
open Go.RowKit
variable {R : Type}
set_option linter.unusedVariables false

/-! ### Loops of data, with so much fuel -/
/-- What is there is there still. -/
def Lee (x y : Option R) : Prop := ∀ r, x = some r → y = some r
theorem Lee.rfl' (x : Option R) : Lee x x := fun _ h => h
theorem lee_if {c : Bool} {a b a' b' : Option R} (h1 : Lee a a') (h2 : Lee b b') : Lee (bif c then a else b) (bif c then a' else b') := by
  cases c
  · exact h2
  · exact h1
theorem lee_ln {n : Nat} {a a' : Option R} (h : Lee a a') : Lee (ln n a) (ln n a') := lee_if h (Lee.rfl' _)
theorem lee_lim {n : Nat} {a a' : Option R} (h : Lee a a') : Lee (lim n a) (lim n a') := lee_if h (Lee.rfl' _)
theorem lee_ck {i : Int} {n : Nat} {a a' : Option R} (h : Lee a a') : Lee (ck i n a) (ck i n a') := lee_if h (Lee.rfl' _)
theorem lpC_mono {p q : Type} {B : p → (p → Option R) → (q → Option R) → Option R} (hB : ∀ x K K' kx, (∀ y, Lee (K y) (K' y)) → Lee (B x K kx) (B x K' kx)) : ∀ (n m : Nat) (x : p) (kx : q → Option R), n ≤ m → Lee (lpC B n x kx) (lpC B m x kx) := by
  intro n
  induction n with
  | zero => intro m x kx _ r h; cases h
  | succ n ih =>
    intro m x kx hm
    cases m with
    | zero => omega
    | succ m => exact hB x _ _ kx (fun y => ih m y kx (by omega))
theorem ob_ln {S : Type} {n : Nat} {a : Option S} {k : S → Option R} : ob (ln n a) k = ln n (ob a k) := by unfold ln; cases Nat.ble n 9223372036854775807 <;> rfl
theorem ob_lim {S : Type} {n : Nat} {a : Option S} {k : S → Option R} : ob (lim n a) k = lim n (ob a k) := by unfold lim; cases Nat.ble n LIM <;> rfl
theorem ob_ck {S : Type} {i : Int} {n : Nat} {a : Option S} {k : S → Option R} : ob (ck i n a) k = ck i n (ob a k) := by unfold ck; cases (ile 0 i && ilt i n) <;> rfl
theorem ob_bif {S : Type} {c : Bool} {a b : Option S} {k : S → Option R} : ob (bif c then a else b) k = bif c then ob a k else ob b k := by cases c <;> rfl
theorem ob_none' {S : Type} {k : S → Option R} : ob (none : Option S) k = none := rfl
theorem lpC_nat {p q S : Type} {B : (R : Type) → p → (p → Option R) → (q → Option R) → Option R} (hB : ∀ (R S : Type) (k : S → Option R) (x : p) (K : p → Option S) (kx : q → Option S), ob (B S x K kx) k = B R x (fun y => ob (K y) k) (fun z => ob (kx z) k)) (k : S → Option R) : ∀ (n : Nat) (x : p) (kx : q → Option S), ob (lpC (B S) n x kx) k = lpC (B R) n x (fun z => ob (kx z) k) := by
  intro n
  induction n with
  | zero => intro x kx; rfl
  | succ n ih =>
    intro x kx
    show ob (B S x (fun x' => lpC (B S) n x' kx) kx) k = B R x (fun x' => lpC (B R) n x' (fun z => ob (kx z) k)) (fun z => ob (kx z) k)
    rw [hB R S]
    congr 1
    funext y
    exact ih y kx
abbrev FQ : Nat := 5000
theorem fq_le : FQ ≤ hid FU := by rw [hid_eq]; decide

/-! ### The document's sum and comparison of digits -/
inductive PAd where
  | m (a b : V) (xs : List V) (c i : Int)
inductive QAd where
  | o (a b : V) (xs : List V) (c i : Int)
def ad3 {R : Type} (a b : V) (xs : List V) (i : Int) (K : PAd → Option R) (c : Int) : Option R :=
  lim (xs.length + 1) <| K (.m a b (xs ++ [.i (c.tmod 65536)]) (WU (c.tdiv 65536)) (W64 (i + 1)))
def ad2 {R : Type} (a b : V) (xs : List V) (i : Int) (K : PAd → Option R) (c : Int) : Option R :=
  ln b.els.length <| bif ilt i b.els.length then ck i b.els.length (ad3 a b xs i K (WU (c + elV b i))) else ad3 a b xs i K c
def ad1 {R : Type} (a b : V) (xs : List V) (i : Int) (K : PAd → Option R) (c : Int) : Option R :=
  ln a.els.length <| bif ilt i a.els.length then ck i a.els.length (ad2 a b xs i K (WU (c + elV a i))) else ad2 a b xs i K c
def BAd (R : Type) (p : PAd) (K : PAd → Option R) (kx : QAd → Option R) : Option R :=
  match p with
  | .m a b xs c i =>
    ln a.els.length <| bif ilt i a.els.length then ad1 a b xs i K c else
      ln b.els.length <| bif ilt i b.els.length then ad1 a b xs i K c else
        bif ilt 0 c then ad1 a b xs i K c else kx (.o a b xs c i)
theorem BAd_mono (x : PAd) (K K' : PAd → Option R) (kx : QAd → Option R) (h : ∀ y, Lee (K y) (K' y)) : Lee (BAd R x K kx) (BAd R x K' kx) := by
  obtain ⟨a, b, xs, c, i⟩ := x
  have h3 : ∀ c, Lee (ad3 a b xs i K c) (ad3 a b xs i K' c) := fun c => lee_lim (h _)
  have h2 : ∀ c, Lee (ad2 a b xs i K c) (ad2 a b xs i K' c) := fun c => lee_ln (lee_if (lee_ck (h3 _)) (h3 _))
  have h1 : ∀ c, Lee (ad1 a b xs i K c) (ad1 a b xs i K' c) := fun c => lee_ln (lee_if (lee_ck (h2 _)) (h2 _))
  exact lee_ln (lee_if (h1 _) (lee_ln (lee_if (h1 _) (lee_if (h1 _) (Lee.rfl' _)))))
theorem BAd_nat (R S : Type) (k : S → Option R) (x : PAd) (K : PAd → Option S) (kx : QAd → Option S) : ob (BAd S x K kx) k = BAd R x (fun y => ob (K y) k) (fun z => ob (kx z) k) := by
  obtain ⟨a, b, xs, c, i⟩ := x
  simp only [BAd, ad1, ad2, ad3, ob_bif, ob_none']
inductive PCp where
  | m (a b : V) (r i : Int)
inductive QCp where
  | r (a b : V) (r i : Int)
  | o (a b : V) (r i : Int)
/-- A digit, or none. -/
def dgC {R : Type} (a : V) (i : Int) (k : Int → Option R) : Option R := ln a.els.length <| bif ilt i a.els.length then ck i a.els.length (k (elV a i)) else k 0
def BCp (R : Type) (p : PCp) (K : PCp → Option R) (kx : QCp → Option R) : Option R :=
  match p with
  | .m a b r i => bif ile 0 i then
      (dgC a i fun p => dgC b i fun q => bif ilt p q then kx (.r a b (-1) i) else
        dgC a i fun p => dgC b i fun q => bif ilt q p then kx (.r a b 1 i) else K (.m a b r (W64 (i - 1))))
    else kx (.o a b r i)
theorem lee_dg {a : V} {i : Int} {k k' : Int → Option R} (h : ∀ c, Lee (k c) (k' c)) : Lee (dgC a i k) (dgC a i k') := lee_ln (lee_if (lee_ck (h _)) (h _))
theorem BCp_mono (x : PCp) (K K' : PCp → Option R) (kx : QCp → Option R) (h : ∀ y, Lee (K y) (K' y)) : Lee (BCp R x K kx) (BCp R x K' kx) := by
  obtain ⟨a, b, r, i⟩ := x
  exact lee_if (lee_dg fun p => lee_dg fun q => lee_if (Lee.rfl' _) (lee_dg fun p => lee_dg fun q => lee_if (Lee.rfl' _) (h _))) (Lee.rfl' _)
theorem BCp_nat (R S : Type) (k : S → Option R) (x : PCp) (K : PCp → Option S) (kx : QCp → Option S) : ob (BCp S x K kx) k = BCp R x (fun y => ob (K y) k) (fun z => ob (kx z) k) := by
  obtain ⟨a, b, r, i⟩ := x
  simp only [BCp, dgC, ob_bif, ob_none']
def adK {R : Type} (el : Nat) (k : List Rs → Option R) : QAd → Option R
  | .o _ _ xs _ _ => k [.r el xs false]
theorem adK_nat (el : Nat) (k : List Rs → Option R) : (fun z => ob (adK el some z) k) = adK el k := by
  funext z; cases z; rfl
noncomputable def Gad (el : Nat) : FC := fun R xs k => match xs with
  | [a, b] => lpC (BAd R) (hid FU) (.m a b [] 0 0) (adK el k)
  | _ => none
def Fad (el : Nat) : FC := fun R xs k => match xs with
  | [a, b] => lpC (BAd R) FQ (.m a b [] 0 0) (adK el k)
  | _ => none
theorem Fad_nat (el : Nat) : FC.nat (Fad el) := by
  intro R xs k
  unfold Fad
  split
  · rw [lpC_nat BAd_nat, adK_nat]
  · rfl
theorem ad_law (el : Nat) {xs : List V} {rs : List Rs} (h : Fad el (List Rs) xs some = some rs) : Gad el (List Rs) xs some = some rs := by
  unfold Fad at h
  split at h
  · exact lpC_mono BAd_mono FQ (hid FU) _ _ fq_le _ h
  · cases h
def cpI (a b : V) : Int := W64 ((bif (ilt (a.els.length : Nat) (b.els.length : Nat)) then (b.els.length : Nat) else (a.els.length : Nat) : Int) - 1)
def cpK {R : Type} (t : Nat) (k : List Rs → Option R) : QCp → Option R
  | .r _ _ r _ => k [.d t (.i r)]
  | .o _ _ _ _ => k [.d t (.i 0)]
theorem cpK_nat (t : Nat) (k : List Rs → Option R) : (fun z => ob (cpK t some z) k) = cpK t k := by
  funext z; cases z <;> rfl
noncomputable def Gcp (t : Nat) : FC := fun R xs k => match xs with
  | [a, b] => ln a.els.length <| ln b.els.length <| lpC (BCp R) (hid FU) (.m a b 0 (cpI a b)) (cpK t k)
  | _ => none
def Fcp (t : Nat) : FC := fun R xs k => match xs with
  | [a, b] => ln a.els.length <| ln b.els.length <| lpC (BCp R) FQ (.m a b 0 (cpI a b)) (cpK t k)
  | _ => none
theorem Fcp_nat (t : Nat) : FC.nat (Fcp t) := by
  intro R xs k
  unfold Fcp
  split
  · rw [ob_ln, ob_ln, lpC_nat BCp_nat, cpK_nat]
  · rfl
theorem cp_law (t : Nat) {xs : List V} {rs : List Rs} (h : Fcp t (List Rs) xs some = some rs) : Gcp t (List Rs) xs some = some rs := by
  unfold Fcp at h
  split at h
  · exact lee_ln (lee_ln (lpC_mono BCp_mono FQ (hid FU) _ _ fq_le)) _ h
  · cases h
end Go.Vm

namespace Go.Vm
open Go.RowKit
variable {P : Program} {T : TT} {R : Type} {e : Env}
set_option linter.unusedVariables false

/-! ### Bytes within texts: how many, where the first one is -/
def cntV (c : Int) : List V → Nat
  | [] => 0
  | a :: r => bif ieq a.int c then cntV c r + 1 else cntV c r
def fndV (c : Int) : Nat → List V → Int
  | _, [] => -1
  | i, a :: r => bif ieq a.int c then (i : Nat) else fndV c (i + 1) r
def countS : Sym := fun args of nx =>
  match args with
  | [.s l, .i .u8 c] => if Nat.ble l.length LIM then some (.pv nx (.i .i64 (cntV c l : Nat)) []) else none
  | _ => none
def indexS : Sym := fun args of nx =>
  match args with
  | [.s l, .i .u8 c] => if Nat.ble l.length LIM then some (.pv nx (.i .i64 (fndV c 0 l)) []) else none
  | _ => none
end Go.Vm

namespace Go.Vm
open Go.RowKit
variable {P : Program} {T : TT} {R : Type} {c : Ctx} {e : Env} {of : Nat → Option Ob}
set_option linter.unusedVariables false
set_option linter.constructorNameAsVariable false

/-! ### Methods on a box of data -/
/-- What a box holds, as data. -/
def boxV (T : TT) (of : Nat → Option Ob) (t id : Nat) : Option (V × List (Nat × Ob)) :=
  match of id with
  | some (.box t0 a false) => bif Nat.beq t0 t then toV T DEP of t a else none
  | _ => none
def openB (of : Nat → Option Ob) (t id : Nat) : Bool :=
  match of id with
  | some (.box t0 _ false) => Nat.beq t0 t
  | _ => false
def pureM (T : TT) (t : Nat) (ts : List Nat) (F : FC) : SymC := fun R args of nx k =>
  match args with
  | .p id t' [] :: as => bif Nat.beq t' t then
      (match boxV T of t id with
      | some (x, w0) => (match argsV T (put of w0) ts as with
        | some (xs, wo) => bif openB (put (put of w0) wo) t id then F R (x :: xs) (fun rs => match rs with
            | .d t1 y :: rs' => bif Nat.beq t1 t then k ⟨oneT (mkRs T nx rs').1, (w0 ++ wo) ++ ((id, .box t (.v t y) false) :: (mkRs T nx rs').2.1), id :: (ids w0 ++ ids wo), (mkRs T nx rs').2.2⟩ else none
            | _ => none) else none
        | none => none)
      | none => none) else none
  | _ => none
theorem pureM_nat {t : Nat} {ts : List Nat} {F : FC} (hF : F.nat) : (pureM T t ts F).nat := by
  intro R args of nx k
  unfold SymC.dir pureM
  split
  · rename_i id t' as
    cases Nat.beq t' t
    · rfl
    · simp only [cond_true]
      cases boxV T of t id with
      | none => rfl
      | some p =>
        simp only
        cases argsV T (put of p.2) ts as with
        | none => rfl
        | some q =>
          simp only
          cases openB (put (put of p.2) q.2) t id
          · rfl
          · simp only [cond_true]
            rw [hF R, hF Eff]
            cases F (List Rs) (p.1 :: q.1) some with
            | none => rfl
            | some rs =>
              simp only [ob]
              cases rs with
              | nil => rfl
              | cons r rs' =>
                cases r with
                | r el xs nl => rfl
                | d t1 y => simp only; cases Nat.beq t1 t <;> rfl
  · rfl
def box0 (t : Nat) (x : V) : Nat → Option Ob := fun j => bif Nat.beq j 0 then some (.box t (.v t x) false) else none
/-- What a method leaves. -/
def resM (T : TT) (t : Nat) (x : V) (rk : List RK) (out : Eff) : Option (List Rs) :=
  bif Nat.beq rk.length 1 == isT out.val then none else
  match boxV T (put (box0 t x) out.wo) t 0 with
  | some (y, w1) => (match dL T true (put (put (box0 t x) out.wo) w1) (outL out.val) rk with
    | some (ys, wo) => bif Nat.ble (cntR rk) 1 && openB (put (put (put (box0 t x) out.wo) w1) wo) t 0 then (match rL T true (put (put (put (box0 t x) out.wo) w1) wo) (outL out.val) ys rk with
      | some rs => some (.d t y :: rs)
      | none => none) else none
    | none => none)
  | none => none
theorem openB_spec {t id : Nat} (h : openB of t id = true) : ∃ a, of id = some (.box t a false) := by
  unfold openB at h
  split at h
  · rename_i t0 a hof
    have := Nat.eq_of_beq_eq_true h; subst this
    exact ⟨a, hof⟩
  · cases h
theorem boxV_spec {t id : Nat} {x : V} {wo : List (Nat × Ob)} (h : boxV T of t id = some (x, wo)) : ∃ a, of id = some (.box t a false) ∧ toV T DEP of t a = some (x, wo) := by
  unfold boxV at h
  split at h <;> try (cases h; done)
  rename_i t0 a hof
  cases hb : Nat.beq t0 t with
  | false => rw [hb] at h; cases h
  | true =>
    rw [hb] at h
    have := Nat.eq_of_beq_eq_true hb; subst this
    exact ⟨a, hof, h⟩
/-- An object that was let go is taken again. -/
theorem OSim.back {f : Nat → Option Ob} (h : OSim T c e f) {id : Nat} {o : Ob} (ho : OK T e id o) (hown : ∀ b q, e.ι id = some (b, q) → c.w0.heap.size ≤ b ∨ c.M b) (hsep : ∀ j b q b' q', j ≠ id → (f j).isSome → e.ι id = some (b, q) → e.ι j = some (b', q') → b' ≠ b) : OSim T c e (upd f id (some o)) := by
  have ne : ∀ j, j ≠ id → upd f id (some o) j = f j := fun j hj => upd_ne _ _ hj
  refine ⟨fun j x hj => ?_, fun i j b q b' q' hi hj hb hb' hne => ?_, fun j b q hj hb => ?_, h.lt, h.slt, h.s0, h.snew, h.os, h.tape, h.output, h.size, h.block⟩
  · by_cases hji : j = id
    · subst hji; rw [upd_same] at hj; cases hj; exact ho
    · rw [ne j hji] at hj; exact h.ok j x hj
  · by_cases h1 : i = id
    · subst h1
      rw [ne j (Ne.symm hne)] at hj
      exact fun q' => hsep j b q b' _ (Ne.symm hne) hj hb hb' q'.symm
    · by_cases h2 : j = id
      · subst h2
        rw [ne i h1] at hi
        exact hsep i b' _ b _ h1 hi hb' hb
      · rw [ne i h1] at hi; rw [ne j h2] at hj
        exact h.sep i j b q b' q' hi hj hb hb' hne
  · by_cases hji : j = id
    · subst hji; exact hown b q hb
    · rw [ne j hji] at hj; exact h.own j b q hj hb
/-- The world has grown, and one block that no object told of is in has turned. -/
theorem OSim.grownB (h : OSim T c e of) {B : Nat} (hB : B < e.w.heap.size) (hBo : c.w0.heap.size ≤ B ∨ c.M B) (hBf : ∀ j q, (of j).isSome → e.ι j ≠ some (B, q)) (hBS : ∀ i, ¬ e.S B i) {w' : World} {S2 : Nat → Nat → Prop} (hsz : e.w.heap.size ≤ w'.heap.size) (hb : ∀ b, b < e.w.heap.size → b ≠ B → w'.heap[b]? = e.w.heap[b]?) (hBl : blen w' B = blen e.w B) (h1 : w'.os = e.w.os) (h2 : w'.tape = e.w.tape) (h3 : w'.output = e.w.output) (hS : ∀ b i, S2 b i → b < w'.heap.size) :
    OSim T c (e.grown w' S2) of ∧ e.le (e.grown w' S2) := by
  have hlen : ∀ b, b < e.w.heap.size → blen w' b = blen e.w b := fun b hb' => by
    by_cases hq : b = B
    · subst hq; exact hBl
    · exact len_of_heap (hb b hb' hq)
  have hle : e.le (e.grown w' S2) := by
    refine ⟨fun b i hs => ⟨.inl hs, fun x hx => ?_⟩, fun _ h => h, fun id hu _ => ⟨rfl, rfl, fun b o hι => hlen b (h.lt _ _ _ hu hι)⟩, fun _ _ h => h, fun _ _ => Nat.le_refl _, fun _ _ => rfl, hsz, fun b hb' => hlen b hb'⟩
    show w'.cell? ⟨b, i, none⟩ = some x
    rw [cell_of_heap (hb b (h.slt _ _ hs) (fun q => hBS i (q ▸ hs)))]; exact hx
  refine ⟨⟨fun id o ho => ?_, h.sep, h.own, fun id b o hu hι => Nat.lt_of_lt_of_le (h.lt id b o hu hι) hsz, fun b i hs => ?_, fun b i hs => .inl (h.s0 _ _ hs), fun b i hs => ?_, h1.trans h.os, h2.trans h.tape, h3.trans h.output, Nat.le_trans h.size hsz, fun k hk hm => ?_⟩, hle⟩
  · exact (h.ok id o ho).keep hle rfl (fun b o' hι => hb b (h.lt _ _ _ (h.ok id o ho).use hι) (fun q => hBf id o' (by rw [ho]; rfl) (q ▸ hι))) (fun b o' i hι hs => by
      rcases hs with hs | ⟨hs, _⟩
      · exact hs
      · exact absurd (h.lt _ _ _ (h.ok id o ho).use hι) (by omega))
  · rcases hs with hs | ⟨_, hs⟩
    · exact Nat.lt_of_lt_of_le (h.slt _ _ hs) hsz
    · exact hS _ _ hs
  · rcases hs with hs | ⟨hs, _⟩
    · exact h.snew _ _ hs
    · exact .inr (.inl (Nat.le_trans h.size hs))
  · show w'.heap[k]? = _
    rw [hb k (Nat.lt_of_lt_of_le hk h.size) (fun q => by
      subst q
      rcases hBo with h' | h'
      · omega
      · exact hm h')]
    exact h.block k hk hm
end Go.Vm
end
