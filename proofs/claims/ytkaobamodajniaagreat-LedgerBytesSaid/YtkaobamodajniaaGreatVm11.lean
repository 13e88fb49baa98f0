/- What the operations of a program do, shown once for all programs; and numbers. -/
import Derived.Test.YtkaobamodajniaaGreatVm10
set_option linter.constructorNameAsVariable false
set_option linter.unusedVariables false
set_option linter.unusedSimpArgs false
noncomputable section
namespace Go.Vm
open Go.RowKit Go.Maps
variable {T : TT} {P : Program} {c : Ctx} {e eb : Env} {of of' : Nat → Option Ob}
set_option linter.unusedVariables false
set_option linter.constructorNameAsVariable false

/-! ### A map's keys, sorted -/
/-- What the library's functions do, at the program's types. -/
def SortedKeys (P : Program) (f g st : Nat) : Prop := ∀ (Bm b nn : Nat) (D0 : DataW Unit) (R : Value → Option (DataW Unit × List MemPlace)) (w : World), Bm < w.heap.size → w.cell? ⟨Bm, 0, none⟩ = some (.map (some b)) → w.ownsMap P st R b nn D0 → Maps.size D0 ≤ 1000000 →
  Calls P f #[.func (.func g) #[] #[.pointer (some ⟨Bm, 0, none⟩)]] w fun e w' => ∃ (v : Value) (ss : List (List UInt8)), e = .returned v ∧ ss.Perm (strKeys D0) ∧ w'.ownsRow w.heap.size st 1 v ss.length ((ss.mergeSort leB).map Proofs.encStr) ∧ (v = .slice none 0 0 ↔ ss = []) ∧ Below w.heap.size w w'
def okK : List (V × A) → Bool
  | [] => true
  | p :: r => (match p.1 with
    | .s l => Nat.ble l.length 1000000
    | _ => false) && okK r
def sortK (g st : Nat) : Sym := fun args of nx =>
  match args with
  | [.f g' [.p ib tb []]] => bif Nat.beq g g' then (match of ib with
    | some (.box tb' (.m mid) _) => match of mid with
      | some (.map kt et es) => bif Nat.beq kt st && (okK es && Nat.ble es.length 1000000) then (seeL (sortV (es.map (·.1))) fun ks => some ⟨.o nx 1, [(nx, .row st 1 ks ks.isEmpty false)], [ib, mid], nx + 1⟩) else none
      | _ => none
    | _ => none) else none
  | _ => none
def keyB (m : MapEntry) : List UInt8 :=
  match m.key with
  | .string s => s.data.toList
  | _ => []
theorem keys_of {kt et : Nat} (hk : kOf T kt = some .str) : ∀ {es : List (V × A)} {ms : List MapEntry}, MR T e kt et es ms → es.map (·.1) = (ms.map keyB).map sV ∧ ms.map (·.key) = (ms.map keyB).map Proofs.encStr := by
  intro es ms h
  induction h with
  | nil => exact ⟨rfl, rfl⟩
  | @cons k a r m ms h1 h2 h3 h4 ih =>
    obtain ⟨i1, i2⟩ := ih
    obtain ⟨h1, hag⟩ := h1
    obtain ⟨key, val, born⟩ := m
    simp only at h1 hag
    have hn : ¬ ∃ cs, key = .agg cs := fun q => by
      obtain ⟨k', g1, g2⟩ := hag.2 q
      rw [hk] at g1; cases g1; cases g2
    have hcs : key.cells = #[key] := by
      cases key with
      | agg cs => exact absurd ⟨cs, rfl⟩ hn
      | _ => rfl
    rw [hcs] at h1
    obtain ⟨s, rfl, rfl⟩ : ∃ s, k = .s (txt s) ∧ key = .string s := by
      generalize hcs : (#[key] : Array Value).toList = cs at h1
      cases h1 with
      | @str _ s _ _ cs g1 g2 g3 => cases g3; simp at hcs; exact ⟨s, rfl, hcs⟩
      | int g1 => rw [hk] at g1; cases g1
      | bool g1 => rw [hk] at g1; cases g1
      | ptr g1 => rw [hk] at g1; cases g1
      | nils g1 => rw [hk] at g1; cases g1
      | map g1 => rw [hk] at g1; cases g1
      | func g1 => rw [hk] at g1; cases g1
      | fn g1 => rw [hk] at g1; cases g1
      | slice g1 => rw [hk] at g1; cases g1
      | arr g1 => rw [hk] at g1; cases g1
      | struct g1 => rw [hk] at g1; cases g1
    refine ⟨?_, ?_⟩
    · rw [List.map_cons, i1]; rfl
    · rw [List.map_cons, i2]; simp [keyB, Proofs.encStr]
theorem okK_len : ∀ {es : List (V × A)}, okK es = true → ∀ p ∈ es, ∀ l, p.1 = .s l → l.length ≤ 1000000 := by
  intro es
  induction es with
  | nil => intro _ p hp; cases hp
  | cons q r ih =>
    intro h p hp l hl
    simp only [okK, Bool.and_eq_true] at h
    rcases List.mem_cons.1 hp with rfl | hp
    · have h1 := h.1
      rw [hl] at h1
      exact Nat.le_of_ble_eq_true h1
    · exact ih h.2 p hp l hl
theorem un_tx : ∀ l : List UInt8, (tx l).map (fun v => v.int.toNat.toUInt8) = l := by
  intro l
  induction l with
  | nil => rfl
  | cons a r ih =>
    show ((a.toNat : Int).toNat.toUInt8) :: (tx r).map _ = _
    rw [ih]
    congr 1
    simp
def R0 : Value → Option (DataW Unit × List MemPlace) := fun _ => some (.nil, [])
theorem sortK_ok (hT : TOK T P) {f g st : Nat} (hS : SortedKeys P f g st) (hk : kOf T st = some .str) (hz : szT T st = 1) (hen : ∀ args w, (callFunc f args).run P w = .ok (.enter f args) w) : SymOK P T f (sortK g st) := by
  intro c e of of' as vals nx out hos hs hro hu hvals
  unfold sortK at hs
  split at hs <;> try (cases hs; done)
  rename_i g' ib tb
  cases hg : Nat.beq g g' with
  | false => rw [hg] at hs; cases hs
  | true =>
  rw [hg] at hs
  have := Nat.eq_of_beq_eq_true hg; subst this
  simp only [cond_true] at hs
  split at hs <;> try (cases hs; done)
  rename_i tb' mid sh hob
  split at hs <;> try (cases hs; done)
  rename_i kt et es hom
  cases hc : Nat.beq kt st && (okK es && Nat.ble es.length 1000000) with
  | false => rw [hc] at hs; cases hs
  | true =>
  rw [hc, cond_true, seeL_eq] at hs
  simp only [Bool.and_eq_true] at hc
  obtain ⟨c1, c2, c3⟩ := hc
  have := Nat.eq_of_beq_eq_true c1; subst this
  have c3 := Nat.le_of_ble_eq_true c3
  injection hs with hs; subst hs
  have hob' : of' ib = some (.box tb' (.m mid) sh) := (hro ib (by simp)).trans hob
  have hom' : of' mid = some (.map kt et es) := (hro mid (by simp)).trans hom
  obtain ⟨x1, x2, x3, x4, Bm, cs, ty, fz, x5, x6, x7, x8, x9, x10⟩ := hos.ok _ _ hob'
  obtain ⟨y1, y2, b, ms, clock, y3, y4, ⟨y5, y5'⟩, es', y6, y7⟩ := hos.ok _ _ hom'
  -- the argument
  obtain ⟨v, hvs⟩ : ∃ v, vals = #[v] := by
    obtain ⟨vals⟩ := vals
    cases hvals with | cons h1 h2 => cases h2; exact ⟨_, rfl⟩
  subst hvs
  have hv : Rep T e (.f g [.p ib tb []]) v := by cases hvals with | cons h1 _ => exact h1
  obtain ⟨vs, rfl, hcap⟩ := rep_f_inv hv
  obtain ⟨v2, rfl⟩ := hcap.single rfl
  obtain ⟨Bm', off, p1, p2, p3, p4, rfl⟩ := rep_p_inv (T := T) (e := e) (id := ib) (t := tb) (path := []) hcap
  rw [x5] at p3
  cases p3
  cases p4
  obtain ⟨v3, hcs⟩ := x9.single rfl
  have hm3 : ∃ b', e.U mid ∧ e.bn mid = 0 ∧ e.ι mid = some (b', 0) ∧ v3 = .map (some b') := rep_m_inv (by rw [hcs] at x9; exact x9)
  obtain ⟨b', _, _, z3, rfl⟩ := hm3
  rw [y3] at z3; cases z3
  have hcell : e.w.cell? ⟨Bm, 0, none⟩ = some (.map (some b)) := by
    have : cs[0]? = some (.map (some b)) := by rw [← Array.getElem?_toList, hcs]; rfl
    simp [World.cell?, x6, this]
  -- the keys
  obtain ⟨k1, k2⟩ := keys_of hk y7
  have hu' : P.underlying kt = some .string := by
    obtain ⟨te, h1, h2⟩ := kOf_some hk
    exact under_str (hT _ _ h1) h2
  have hlen : es.length = ms.size := by rw [← y6.length_eq, y7.length, Array.length_toList]
  have hrd : ∀ m ∈ ms.toList, WideElems.rd P kt R0 m = some (.string (keyB m), .nil) := by
    intro m hm
    have hmk : m.key = Proofs.encStr (keyB m) := by
      obtain ⟨i, hi, rfl⟩ := List.mem_iff_getElem.1 hm
      have := congrArg (fun l => l[i]?) k2
      simp only [List.getElem?_map, List.getElem?_eq_getElem hi, Option.map_some, Option.some.injEq] at this
      exact this
    have hl : (keyB m).length ≤ 1000000 := by
      have : sV (keyB m) ∈ (ms.toList.map keyB).map sV := List.mem_map_of_mem (List.mem_map_of_mem hm)
      rw [← k1] at this
      obtain ⟨p, hp, hpe⟩ := List.mem_map.1 this
      have := okK_len c2 p (y6.mem_iff.1 hp) _ hpe
      simpa [tx] using this
    have hkey : keyOf P kt m.key = some (.string (keyB m)) := by
      rw [hmk]
      simp [keyOf, hu', mapKey, Proofs.encStr]
      exact Nat.le_trans hl (by decide)
    simp [WideElems.rd, hkey, R0]
  have hndk : (ms.toList.map keyB).Nodup := by
    have h1 : (es'.map (·.1)).Nodup := (y6.map _).nodup_iff.2 y5
    rw [k1] at h1
    exact (List.pairwise_map.1 h1).imp (fun h q => h (by rw [q]))
  have hst : MapKept.Stamped ms clock := by
    refine ⟨y5'.1, y5'.2, ?_⟩
    rw [k2]
    exact List.Pairwise.map _ (fun a b hab q => hab (Go.encStr_inj q)) hndk
  have hfit : WideElems.Fit P kt R0 ms clock := ⟨Nat.le_trans (by omega) (show 1000000 ≤ maxLen by decide), hst, fun m hm => ⟨_, hrd m hm⟩⟩
  have hown : e.w.ownsMap P kt R0 b 1000000 (.map ((ms.toList.map (WideElems.rg P kt R0)).foldr DataW.insert [])) := ⟨ms, clock, y4, hfit, by omega, rfl⟩
  have hrgs : (ms.toList.map (WideElems.rg P kt R0)).map (fun p => strOf p.1) = ms.toList.map keyB := by
    rw [List.map_map]
    refine List.map_congr_left (fun m hm => ?_)
    simp only [Function.comp]
    rw [WideElems.rg_of (hrd m hm)]
    rfl
  have hperm : (strKeys (.map ((ms.toList.map (WideElems.rg P kt R0)).foldr DataW.insert []))).Perm (ms.toList.map keyB) := by
    rw [← hrgs]
    exact (WideShapes.sorted_perm _).map _
  have hsize : Maps.size (.map ((ms.toList.map (WideElems.rg P kt R0)).foldr DataW.insert []) : DataW Unit) ≤ 1000000 := by
    rw [Maps.size_eq, (WideShapes.sorted_perm _).length_eq]
    simp; omega
  have hcall := hS Bm b 1000000 _ R0 e.w (Array.getElem?_eq_some_iff.1 x6).1 hcell hown hsize
  -- what stands in the map's data
  have hks : sortV (es.map (·.1)) = (sortB (ms.toList.map keyB)).map sV := by
    have hp : (es.map (·.1)).Perm ((ms.toList.map keyB).map sV) := by rw [← k1]; exact (y6.map _).symm
    obtain ⟨l, hl⟩ : ∃ l : List (List UInt8), es.map (·.1) = l.map sV := by
      have : ∀ x ∈ es.map (·.1), ∃ a, x = sV a := fun x hx => by
        obtain ⟨a, _, ha⟩ := List.mem_map.1 (hp.mem_iff.1 hx)
        exact ⟨a, ha.symm⟩
      clear hp
      generalize es.map (·.1) = xs at this
      induction xs with
      | nil => exact ⟨[], rfl⟩
      | cons x r ih =>
        obtain ⟨l, rfl⟩ := ih (fun y hy => this y (by simp [hy]))
        obtain ⟨a, rfl⟩ := this x (by simp)
        exact ⟨a :: l, rfl⟩
    have hpl : l.Perm (ms.toList.map keyB) := by
      rw [hl] at hp
      have hun : ∀ l : List (List UInt8), (l.map sV).map (fun v => v.els.map fun v => v.int.toNat.toUInt8) = l := by
        intro l
        rw [List.map_map]
        conv => rhs; rw [← List.map_id l]
        refine List.map_congr_left (fun a _ => ?_)
        exact un_tx a
      have := hp.map (fun v => v.els.map fun v => v.int.toNat.toUInt8)
      rwa [hun, hun] at this
    rw [hl, sortV_eq]
    congr 1
    exact (sortB_eq (List.Perm.refl l)).symm.trans (sortB_eq hpl)
  refine .inr (.inr (.inl ⟨f, _, e.w, hen _ _, hcall.mono fun en w' ⟨v, ss, h1, h2, h3, h4, h5⟩ => ⟨v, h1, ?_⟩⟩))
  rw [hks]
  rw [sortB_eq (h2.trans hperm)] at h3
  have hlss : ((sortB (ms.toList.map keyB)).map sV).length = ss.length := by rw [List.length_map, (sortB_perm _).length_eq, (h2.trans hperm).length_eq]
  refine left_row (ys := (sortB (ms.toList.map keyB)).map Proofs.encStr) hos h5 (hu nx (Nat.le_refl _) (Nat.lt_succ_self _)) hz (by rw [hlss]; exact h3) (fun e' => by rw [List.length_map]; exact rv_strs hk hz e' _) ?_
  rw [h4]
  constructor
  · intro q; rw [q] at hlss; exact List.length_eq_zero_iff.1 hlss
  · intro q; rw [q] at hlss; exact List.length_eq_zero_iff.1 hlss.symm
end Go.Vm

namespace Go.Vm
open Go.RowKit
variable {P : Program} {T : TT} {c : Ctx} {e eb : Env} {of of' : Nat → Option Ob}
set_option linter.unusedVariables false
set_option linter.constructorNameAsVariable false

/-! ### maps.Clone -/
/-- A new map with the entries of an old one. -/
def cloneK : Sym := fun args of nx =>
  match args with
  | [.m id] => match of id with
    | some (.map kt et es) => some ⟨.m nx, [(nx, .map kt et es)], [id], nx + 1⟩
    | _ => none
  | _ => none
def Clones (P : Program) (f : Nat) : Prop := ∀ (b : Nat) (es : Array MapEntry) (clock : Nat) (w : World), w.heap[b]? = some (.map es clock) → Calls P f #[.map (some b)] w fun e w' => e = .returned (.map (some w.heap.size)) ∧ w' = w.alloc (.map es clock)
theorem cloneK_ok {f : Nat} (hC : Clones P f) (hen : ∀ args w, (callFunc f args).run P w = .ok (.enter f args) w) : SymOK P T f cloneK := by
  intro c e of of' as vals nx out hos hs hro hu hvals
  unfold cloneK at hs
  split at hs <;> try (cases hs; done)
  rename_i id
  split at hs <;> try (cases hs; done)
  rename_i kt et es hof
  injection hs with hs; subst hs
  have hof' := (hro id (by simp)).trans hof
  obtain ⟨h1, h2, b, ms, clock, h3, h4, h5, es', h6, h7⟩ := hos.ok _ _ hof'
  obtain ⟨x, hv, hx⟩ : ∃ x, vals.toList = [x] ∧ Rep T e (.m id) x := by
    cases hvals' : vals.toList with
    | nil => rw [hvals'] at hvals; cases hvals
    | cons x r =>
      rw [hvals'] at hvals
      cases hvals with
      | cons g1 g2 => cases g2; exact ⟨x, rfl, g1⟩
  obtain ⟨b', _, _, k3, k4⟩ := rep_m_inv hx
  rw [h3] at k3; cases k3
  have hva : vals = #[.map (some b)] := by rw [← k4]; exact arr1 hv
  subst hva
  have hun : ¬ e.U nx := hu nx (Nat.le_refl _) (Nat.lt_succ_self _)
  refine .inr (.inr (.inl ⟨f, _, e.w, hen _ _, (hC b ms clock e.w h4).mono fun en w' ⟨g1, g2⟩ => ⟨_, g1, ?_⟩⟩))
  have hle := hos.le_newM hun (.map ms clock)
  refine ⟨e.newM nx (.map ms clock), g2.symm, hos.newM hun ?_, hle, fun j hj => hj.elim (fun q => .inr (by subst q; exact ⟨Nat.le_refl _, Nat.lt_succ_self _⟩)) .inl, ?_⟩
  · exact ⟨.inl rfl, upd_same _ _ _, e.w.heap.size, ms, clock, upd_same _ _ _, alloc_new _ _, h5, es', h6, h7.mono hle⟩
  · exact RA.r ⟨e.w.heap.size, .inl rfl, upd_same _ _ _, upd_same _ _ _, rfl⟩ rfl .nil
end Go.Vm

namespace Go.Vm
open Go.RowKit
variable {P : Program} {T : TT} {R : Type}
set_option linter.unusedVariables false
set_option linter.constructorNameAsVariable false

/-! ### Calls at data that are known: what comes out is kept -/
noncomputable def vI (b : V) : Int → Bool := @V.rec (fun _ => Int → Bool) (fun _ => Unit) (fun m n => eqQ n m) (fun _ _ => false) (fun _ _ _ => false) (fun _ _ _ => false) (fun _ => false) (fun _ _ => false) () (fun _ _ _ _ => ()) b
noncomputable def vB (b : V) : Bool → Bool := @V.rec (fun _ => Bool → Bool) (fun _ => Unit) (fun _ _ => false) (fun y x => @Bool.rec (fun _ => Bool → Bool) (fun y => @Bool.rec (fun _ => Bool) true false y) (fun y => y) x y) (fun _ _ _ => false) (fun _ _ _ => false) (fun _ => false) (fun _ _ => false) () (fun _ _ _ _ => ()) b
noncomputable def vS (b : V) : (List V → Bool) → Bool := @V.rec (fun _ => (List V → Bool) → Bool) (fun _ => Unit) (fun _ _ => false) (fun _ _ => false) (fun m _ f => f m) (fun _ _ _ => false) (fun _ => false) (fun _ _ => false) () (fun _ _ _ _ => ()) b
noncomputable def vL (b : V) : (List V → Bool) → Bool := @V.rec (fun _ => (List V → Bool) → Bool) (fun _ => Unit) (fun _ _ => false) (fun _ _ => false) (fun _ _ _ => false) (fun m _ f => f m) (fun _ => false) (fun _ _ => false) () (fun _ _ _ _ => ()) b
noncomputable def vN (b : V) : Bool := @V.rec (fun _ => Bool) (fun _ => Unit) (fun _ => false) (fun _ => false) (fun _ _ => false) (fun _ _ => false) true (fun _ => false) () (fun _ _ _ _ => ()) b
noncomputable def vF (b : V) : Nat → Bool := @V.rec (fun _ => Nat → Bool) (fun _ => Unit) (fun _ _ => false) (fun _ _ => false) (fun _ _ _ => false) (fun _ _ _ => false) (fun _ => false) (fun m n => Nat.beq n m) () (fun _ _ _ _ => ()) b
noncomputable def onC (f : V → Bool) (g : List V → Bool) (l : List V) : Bool := @List.rec V (fun _ => (V → Bool) → (List V → Bool) → Bool) (fun _ _ => false) (fun b s _ f g => @Bool.rec (fun _ => Bool) false (g s) (f b)) l f g
noncomputable def noC' (l : List V) : Bool := @List.rec V (fun _ => Bool) true (fun _ _ _ => false) l
noncomputable def eqV (a : V) : V → Bool := @V.rec (fun _ => V → Bool) (fun _ => List V → Bool) (fun n b => vI b n) (fun x b => vB b x) (fun _ f b => vS b f) (fun _ f b => vL b f) (fun b => vN b) (fun n b => vF b n) noC' (fun _ _ f g => onC f g) a
noncomputable def eqVL (a : List V) : List V → Bool := @V.rec_1 (fun _ => V → Bool) (fun _ => List V → Bool) (fun n b => vI b n) (fun x b => vB b x) (fun _ f b => vS b f) (fun _ f b => vL b f) (fun b => vN b) (fun n b => vF b n) noC' (fun _ _ f g => onC f g) a
mutual
theorem eqV_iff : ∀ (a b : V), eqV a b = true → a = b := by
  intro a b h
  cases a with
  | i n =>
    cases b with
    | i m => rw [show m = n from (ieq_iff.1 ((eqQ_eq n m).symm.trans h)).symm]
    | _ => cases h
  | b x =>
    cases b with
    | b y => cases x <;> cases y <;> first | rfl | cases h
    | _ => cases h
  | s l =>
    cases b with
    | s m => rw [eqVL_iff l m h]
    | _ => cases h
  | l l =>
    cases b with
    | l m => rw [eqVL_iff l m h]
    | _ => cases h
  | n => cases b <;> first | rfl | cases h
  | f n =>
    cases b with
    | f m => rw [Nat.eq_of_beq_eq_true h]
    | _ => cases h
theorem eqVL_iff : ∀ (a b : List V), eqVL a b = true → a = b := by
  intro a b h
  cases a with
  | nil => cases b <;> first | rfl | cases h
  | cons x r =>
    cases b with
    | nil => cases h
    | cons y s =>
      have h : @Bool.rec (fun _ => Bool) false (eqVL r s) (eqV x y) = true := h
      cases hx : eqV x y with
      | false => rw [hx] at h; cases h
      | true => rw [hx] at h; rw [eqV_iff x y hx, eqVL_iff r s h]
end
noncomputable def memK {R : Type} (tab : List (List V × List Rs)) : List V → (List Rs → Option R) → Option R :=
  @List.rec (List V × List Rs) (fun _ => List V → (List Rs → Option R) → Option R) (fun _ _ => none) (fun p _ ih xs k => @Bool.rec (fun _ => Option R) (ih xs k) (k p.2) (eqVL p.1 xs)) tab
noncomputable def memF (tab : List (List V × List Rs)) : FC := fun R xs k => memK tab xs k
theorem memF_nat (tab : List (List V × List Rs)) : FC.nat (memF tab) := by
  intro R xs k
  show memK tab xs k = ob (memK tab xs some) k
  induction tab with
  | nil => rfl
  | cons p r ih =>
    show @Bool.rec (fun _ => Option R) (memK r xs k) (k p.2) (eqVL p.1 xs) = ob (@Bool.rec (fun _ => Option (List Rs)) (memK r xs some) (some p.2) (eqVL p.1 xs)) k
    cases eqVL p.1 xs
    · exact ih
    · rfl
theorem memK_at {tab : List (List V × List Rs)} {xs : List V} {rs : List Rs} (h : memK tab xs some = some rs) : (xs, rs) ∈ tab := by
  induction tab with
  | nil => cases h
  | cons p r ih =>
    have h : @Bool.rec (fun _ => Option (List Rs)) (memK r xs some) (some p.2) (eqVL p.1 xs) = some rs := h
    cases he : eqVL p.1 xs with
    | false => rw [he] at h; exact List.mem_cons_of_mem _ (ih h)
    | true =>
      rw [he] at h
      simp only [Option.some.injEq] at h
      have := eqVL_iff _ _ he
      subst h; subst this
      exact List.mem_cons_self ..
def symC (s : Sym) : SymC := fun R args of nx k => ob (s args of nx) k
theorem symC_dir (s : Sym) : (symC s).dir = s := by
  funext args of nx
  show ob (s args of nx) some = _
  cases s args of nx <;> rfl
theorem symC_nat (s : Sym) : (symC s).nat := by
  intro R args of nx k
  rw [symC_dir]; rfl
/-- What is kept is right. -/
def MemOK (T : TT) (s : Sym) (sh : Bool) (ts : List Nat) (rk : List RK) : List (List V × List Rs) → Prop
  | [] => True
  | p :: r => ob (s (mkAs T ts p.1) (fun _ => none) 0) (fun out => resC T sh rk out) = some p.2 ∧ MemOK T s sh ts rk r
theorem MemOK.at {s : Sym} {sh : Bool} {ts : List Nat} {rk : List RK} : ∀ {tab : List (List V × List Rs)}, MemOK T s sh ts rk tab → ∀ p ∈ tab, ob (s (mkAs T ts p.1) (fun _ => none) 0) (fun out => resC T sh rk out) = some p.2 := by
  intro tab
  induction tab with
  | nil => intro _ p h; cases h
  | cons q r ih =>
    intro h p hp
    rcases List.mem_cons.1 hp with rfl | hp
    · exact h.1
    · exact ih h.2 p hp
theorem memo_ok {f : FuncId} {s : Sym} (hs : SymOK P T f s) {sh : Bool} {ts : List Nat} {rk : List RK} {tab : List (List V × List Rs)} (hts : ts.all (fun t => (T t).isSome) = true) (h : MemOK T s sh ts rk tab) : SymOK P T f (pureS T sh ts (memF tab)).dir :=
  pure_ok (s := symC s) (symC_nat s) (by rw [symC_dir]; exact hs) (memF_nat tab) hts (fun xs rs _ hrs => h.at (xs, rs) (memK_at hrs))
/-- Data, told shortly. -/
def bl (l : List Nat) : V := .l (l.map fun n => .i (n : Nat))
def bs (l : List Nat) : V := .s (l.map fun n => .i (n : Nat))
end Go.Vm

namespace Go.Vm
open Go.RowKit
variable {R : Type}
set_option linter.unusedVariables false

/-! ### Loops of data, with so much fuel -/
/-- What is there is there still. -/
def Lee (x y : Option R) : Prop := ∀ r, x = some r → y = some r
theorem Lee.rfl' (x : Option R) : Lee x x := fun _ h => h
theorem lee_if {c : Bool} {a b a' b' : Option R} (h1 : Lee a a') (h2 : Lee b b') : Lee (bif c then a else b) (bif c then a' else b') := by
  cases c
  · exact h2
  · exact h1
theorem lee_ln {n : Nat} {a a' : Option R} (h : Lee a a') : Lee (ln n a) (ln n a') := lee_if h (Lee.rfl' _)
theorem lee_lim {n : Nat} {a a' : Option R} (h : Lee a a') : Lee (lim n a) (lim n a') := lee_if h (Lee.rfl' _)
theorem lee_ck {i : Int} {n : Nat} {a a' : Option R} (h : Lee a a') : Lee (ck i n a) (ck i n a') := lee_if h (Lee.rfl' _)
theorem lpC_mono {p q : Type} {B : p → (p → Option R) → (q → Option R) → Option R} (hB : ∀ x K K' kx, (∀ y, Lee (K y) (K' y)) → Lee (B x K kx) (B x K' kx)) : ∀ (n m : Nat) (x : p) (kx : q → Option R), n ≤ m → Lee (lpC B n x kx) (lpC B m x kx) := by
  intro n
  induction n with
  | zero => intro m x kx _ r h; cases h
  | succ n ih =>
    intro m x kx hm
    cases m with
    | zero => omega
    | succ m => exact hB x _ _ kx (fun y => ih m y kx (by omega))
theorem ob_ln {S : Type} {n : Nat} {a : Option S} {k : S → Option R} : ob (ln n a) k = ln n (ob a k) := by unfold ln; cases Nat.ble n 9223372036854775807 <;> rfl
theorem ob_lim {S : Type} {n : Nat} {a : Option S} {k : S → Option R} : ob (lim n a) k = lim n (ob a k) := by unfold lim; cases Nat.ble n LIM <;> rfl
theorem ob_ck {S : Type} {i : Int} {n : Nat} {a : Option S} {k : S → Option R} : ob (ck i n a) k = ck i n (ob a k) := by unfold ck; cases (ile 0 i && ilt i n) <;> rfl
theorem ob_bif {S : Type} {c : Bool} {a b : Option S} {k : S → Option R} : ob (bif c then a else b) k = bif c then ob a k else ob b k := by cases c <;> rfl
theorem ob_none' {S : Type} {k : S → Option R} : ob (none : Option S) k = none := rfl
theorem lpC_nat {p q S : Type} {B : (R : Type) → p → (p → Option R) → (q → Option R) → Option R} (hB : ∀ (R S : Type) (k : S → Option R) (x : p) (K : p → Option S) (kx : q → Option S), ob (B S x K kx) k = B R x (fun y => ob (K y) k) (fun z => ob (kx z) k)) (k : S → Option R) : ∀ (n : Nat) (x : p) (kx : q → Option S), ob (lpC (B S) n x kx) k = lpC (B R) n x (fun z => ob (kx z) k) := by
  intro n
  induction n with
  | zero => intro x kx; rfl
  | succ n ih =>
    intro x kx
    show ob (B S x (fun x' => lpC (B S) n x' kx) kx) k = B R x (fun x' => lpC (B R) n x' (fun z => ob (kx z) k)) (fun z => ob (kx z) k)
    rw [hB R S]
    congr 1
    funext y
    exact ih y kx
abbrev FQ : Nat := 5000
theorem fq_le : FQ ≤ hid FU := by rw [hid_eq]; decide

/-! ### The document's sum and comparison of digits -/
inductive PAd where
  | m (a b : V) (xs : List V) (c i : Int)
inductive QAd where
  | o (a b : V) (xs : List V) (c i : Int)
def ad3 {R : Type} (a b : V) (xs : List V) (i : Int) (K : PAd → Option R) (c : Int) : Option R :=
  lim (xs.length + 1) <| K (.m a b (xs ++ [.i (c.tmod 65536)]) (WU (c.tdiv 65536)) (W64 (i + 1)))
def ad2 {R : Type} (a b : V) (xs : List V) (i : Int) (K : PAd → Option R) (c : Int) : Option R :=
  ln b.els.length <| bif ilt i b.els.length then ck i b.els.length (ad3 a b xs i K (WU (c + elV b i))) else ad3 a b xs i K c
def ad1 {R : Type} (a b : V) (xs : List V) (i : Int) (K : PAd → Option R) (c : Int) : Option R :=
  ln a.els.length <| bif ilt i a.els.length then ck i a.els.length (ad2 a b xs i K (WU (c + elV a i))) else ad2 a b xs i K c
def BAd (R : Type) (p : PAd) (K : PAd → Option R) (kx : QAd → Option R) : Option R :=
  match p with
  | .m a b xs c i =>
    ln a.els.length <| bif ilt i a.els.length then ad1 a b xs i K c else
      ln b.els.length <| bif ilt i b.els.length then ad1 a b xs i K c else
        bif ilt 0 c then ad1 a b xs i K c else kx (.o a b xs c i)
theorem BAd_mono (x : PAd) (K K' : PAd → Option R) (kx : QAd → Option R) (h : ∀ y, Lee (K y) (K' y)) : Lee (BAd R x K kx) (BAd R x K' kx) := by
  obtain ⟨a, b, xs, c, i⟩ := x
  have h3 : ∀ c, Lee (ad3 a b xs i K c) (ad3 a b xs i K' c) := fun c => lee_lim (h _)
  have h2 : ∀ c, Lee (ad2 a b xs i K c) (ad2 a b xs i K' c) := fun c => lee_ln (lee_if (lee_ck (h3 _)) (h3 _))
  have h1 : ∀ c, Lee (ad1 a b xs i K c) (ad1 a b xs i K' c) := fun c => lee_ln (lee_if (lee_ck (h2 _)) (h2 _))
  exact lee_ln (lee_if (h1 _) (lee_ln (lee_if (h1 _) (lee_if (h1 _) (Lee.rfl' _)))))
theorem BAd_nat (R S : Type) (k : S → Option R) (x : PAd) (K : PAd → Option S) (kx : QAd → Option S) : ob (BAd S x K kx) k = BAd R x (fun y => ob (K y) k) (fun z => ob (kx z) k) := by
  obtain ⟨a, b, xs, c, i⟩ := x
  simp only [BAd, ad1, ad2, ad3, ob_bif, ob_none']
inductive PCp where
  | m (a b : V) (r i : Int)
inductive QCp where
  | r (a b : V) (r i : Int)
  | o (a b : V) (r i : Int)
/-- A digit, or none. -/
def dgC {R : Type} (a : V) (i : Int) (k : Int → Option R) : Option R := ln a.els.length <| bif ilt i a.els.length then ck i a.els.length (k (elV a i)) else k 0
def BCp (R : Type) (p : PCp) (K : PCp → Option R) (kx : QCp → Option R) : Option R :=
  match p with
  | .m a b r i => bif ile 0 i then
      (dgC a i fun p => dgC b i fun q => bif ilt p q then kx (.r a b (-1) i) else
        dgC a i fun p => dgC b i fun q => bif ilt q p then kx (.r a b 1 i) else K (.m a b r (W64 (i - 1))))
    else kx (.o a b r i)
theorem lee_dg {a : V} {i : Int} {k k' : Int → Option R} (h : ∀ c, Lee (k c) (k' c)) : Lee (dgC a i k) (dgC a i k') := lee_ln (lee_if (lee_ck (h _)) (h _))
theorem BCp_mono (x : PCp) (K K' : PCp → Option R) (kx : QCp → Option R) (h : ∀ y, Lee (K y) (K' y)) : Lee (BCp R x K kx) (BCp R x K' kx) := by
  obtain ⟨a, b, r, i⟩ := x
  exact lee_if (lee_dg fun p => lee_dg fun q => lee_if (Lee.rfl' _) (lee_dg fun p => lee_dg fun q => lee_if (Lee.rfl' _) (h _))) (Lee.rfl' _)
theorem BCp_nat (R S : Type) (k : S → Option R) (x : PCp) (K : PCp → Option S) (kx : QCp → Option S) : ob (BCp S x K kx) k = BCp R x (fun y => ob (K y) k) (fun z => ob (kx z) k) := by
  obtain ⟨a, b, r, i⟩ := x
  simp only [BCp, dgC, ob_bif, ob_none']
def adK {R : Type} (el : Nat) (k : List Rs → Option R) : QAd → Option R
  | .o _ _ xs _ _ => k [.r el xs false]
theorem adK_nat (el : Nat) (k : List Rs → Option R) : (fun z => ob (adK el some z) k) = adK el k := by
  funext z; cases z; rfl
noncomputable def Gad (el : Nat) : FC := fun R xs k => match xs with
  | [a, b] => lpC (BAd R) (hid FU) (.m a b [] 0 0) (adK el k)
  | _ => none
def Fad (el : Nat) : FC := fun R xs k => match xs with
  | [a, b] => lpC (BAd R) FQ (.m a b [] 0 0) (adK el k)
  | _ => none
theorem Fad_nat (el : Nat) : FC.nat (Fad el) := by
  intro R xs k
  unfold Fad
  split
  · rw [lpC_nat BAd_nat, adK_nat]
  · rfl
theorem ad_law (el : Nat) {xs : List V} {rs : List Rs} (h : Fad el (List Rs) xs some = some rs) : Gad el (List Rs) xs some = some rs := by
  unfold Fad at h
  split at h
  · exact lpC_mono BAd_mono FQ (hid FU) _ _ fq_le _ h
  · cases h
def cpI (a b : V) : Int := W64 ((bif (ilt (a.els.length : Nat) (b.els.length : Nat)) then (b.els.length : Nat) else (a.els.length : Nat) : Int) - 1)
def cpK {R : Type} (t : Nat) (k : List Rs → Option R) : QCp → Option R
  | .r _ _ r _ => k [.d t (.i r)]
  | .o _ _ _ _ => k [.d t (.i 0)]
theorem cpK_nat (t : Nat) (k : List Rs → Option R) : (fun z => ob (cpK t some z) k) = cpK t k := by
  funext z; cases z <;> rfl
noncomputable def Gcp (t : Nat) : FC := fun R xs k => match xs with
  | [a, b] => ln a.els.length <| ln b.els.length <| lpC (BCp R) (hid FU) (.m a b 0 (cpI a b)) (cpK t k)
  | _ => none
def Fcp (t : Nat) : FC := fun R xs k => match xs with
  | [a, b] => ln a.els.length <| ln b.els.length <| lpC (BCp R) FQ (.m a b 0 (cpI a b)) (cpK t k)
  | _ => none
theorem Fcp_nat (t : Nat) : FC.nat (Fcp t) := by
  intro R xs k
  unfold Fcp
  split
  · rw [ob_ln, ob_ln, lpC_nat BCp_nat, cpK_nat]
  · rfl
theorem cp_law (t : Nat) {xs : List V} {rs : List Rs} (h : Fcp t (List Rs) xs some = some rs) : Gcp t (List Rs) xs some = some rs := by
  unfold Fcp at h
  split at h
  · exact lee_ln (lee_ln (lpC_mono BCp_mono FQ (hid FU) _ _ fq_le)) _ h
  · cases h
end Go.Vm

namespace Go.Vm
open Go.RowKit
variable {P : Program} {T : TT} {R : Type} {e : Env}
set_option linter.unusedVariables false

/-! ### Bytes within texts: how many, where the first one is -/
def cntV (c : Int) : List V → Nat
  | [] => 0
  | a :: r => bif ieq a.int c then cntV c r + 1 else cntV c r
def fndV (c : Int) : Nat → List V → Int
  | _, [] => -1
  | i, a :: r => bif ieq a.int c then (i : Nat) else fndV c (i + 1) r
def countS : Sym := fun args of nx =>
  match args with
  | [.s l, .i .u8 c] => if Nat.ble l.length LIM then some (.pv nx (.i .i64 (cntV c l : Nat)) []) else none
  | _ => none
def indexS : Sym := fun args of nx =>
  match args with
  | [.s l, .i .u8 c] => if Nat.ble l.length LIM then some (.pv nx (.i .i64 (fndV c 0 l)) []) else none
  | _ => none
end Go.Vm

namespace Go.Vm
open Go.RowKit
variable {P : Program} {T : TT} {R : Type} {c : Ctx} {e : Env} {of : Nat → Option Ob}
set_option linter.unusedVariables false
set_option linter.constructorNameAsVariable false

/-! ### Methods on a box of data -/
/-- What a box holds, as data. -/
def boxV (T : TT) (of : Nat → Option Ob) (t id : Nat) : Option (V × List (Nat × Ob)) :=
  match of id with
  | some (.box t0 a false) => bif Nat.beq t0 t then toV T DEP of t a else none
  | _ => none
def openB (of : Nat → Option Ob) (t id : Nat) : Bool :=
  match of id with
  | some (.box t0 _ false) => Nat.beq t0 t
  | _ => false
def pureM (T : TT) (t : Nat) (ts : List Nat) (F : FC) : SymC := fun R args of nx k =>
  match args with
  | .p id t' [] :: as => bif Nat.beq t' t then
      (match boxV T of t id with
      | some (x, w0) => (match argsV T (put of w0) ts as with
        | some (xs, wo) => bif openB (put (put of w0) wo) t id then F R (x :: xs) (fun rs => match rs with
            | .d t1 y :: rs' => bif Nat.beq t1 t then k ⟨oneT (mkRs T nx rs').1, (w0 ++ wo) ++ ((id, .box t (.v t y) false) :: (mkRs T nx rs').2.1), id :: (ids w0 ++ ids wo), (mkRs T nx rs').2.2⟩ else none
            | _ => none) else none
        | none => none)
      | none => none) else none
  | _ => none
theorem pureM_nat {t : Nat} {ts : List Nat} {F : FC} (hF : F.nat) : (pureM T t ts F).nat := by
  intro R args of nx k
  unfold SymC.dir pureM
  split
  · rename_i id t' as
    cases Nat.beq t' t
    · rfl
    · simp only [cond_true]
      cases boxV T of t id with
      | none => rfl
      | some p =>
        simp only
        cases argsV T (put of p.2) ts as with
        | none => rfl
        | some q =>
          simp only
          cases openB (put (put of p.2) q.2) t id
          · rfl
          · simp only [cond_true]
            rw [hF R, hF Eff]
            cases F (List Rs) (p.1 :: q.1) some with
            | none => rfl
            | some rs =>
              simp only [ob]
              cases rs with
              | nil => rfl
              | cons r rs' =>
                cases r with
                | r el xs nl => rfl
                | d t1 y => simp only; cases Nat.beq t1 t <;> rfl
  · rfl
def box0 (t : Nat) (x : V) : Nat → Option Ob := fun j => bif Nat.beq j 0 then some (.box t (.v t x) false) else none
/-- What a method leaves. -/
def resM (T : TT) (t : Nat) (x : V) (rk : List RK) (out : Eff) : Option (List Rs) :=
  bif Nat.beq rk.length 1 == isT out.val then none else
  match boxV T (put (box0 t x) out.wo) t 0 with
  | some (y, w1) => (match dL T true (put (put (box0 t x) out.wo) w1) (outL out.val) rk with
    | some (ys, wo) => bif Nat.ble (cntR rk) 1 && openB (put (put (put (box0 t x) out.wo) w1) wo) t 0 then (match rL T true (put (put (put (box0 t x) out.wo) w1) wo) (outL out.val) ys rk with
      | some rs => some (.d t y :: rs)
      | none => none) else none
    | none => none)
  | none => none
theorem openB_spec {t id : Nat} (h : openB of t id = true) : ∃ a, of id = some (.box t a false) := by
  unfold openB at h
  split at h
  · rename_i t0 a hof
    have := Nat.eq_of_beq_eq_true h; subst this
    exact ⟨a, hof⟩
  · cases h
theorem boxV_spec {t id : Nat} {x : V} {wo : List (Nat × Ob)} (h : boxV T of t id = some (x, wo)) : ∃ a, of id = some (.box t a false) ∧ toV T DEP of t a = some (x, wo) := by
  unfold boxV at h
  split at h <;> try (cases h; done)
  rename_i t0 a hof
  cases hb : Nat.beq t0 t with
  | false => rw [hb] at h; cases h
  | true =>
    rw [hb] at h
    have := Nat.eq_of_beq_eq_true hb; subst this
    exact ⟨a, hof, h⟩
/-- An object that was let go is taken again. -/
theorem OSim.back {f : Nat → Option Ob} (h : OSim T c e f) {id : Nat} {o : Ob} (ho : OK T e id o) (hown : ∀ b q, e.ι id = some (b, q) → c.w0.heap.size ≤ b ∨ c.M b) (hsep : ∀ j b q b' q', j ≠ id → (f j).isSome → e.ι id = some (b, q) → e.ι j = some (b', q') → b' ≠ b) : OSim T c e (upd f id (some o)) := by
  have ne : ∀ j, j ≠ id → upd f id (some o) j = f j := fun j hj => upd_ne _ _ hj
  refine ⟨fun j x hj => ?_, fun i j b q b' q' hi hj hb hb' hne => ?_, fun j b q hj hb => ?_, h.lt, h.slt, h.s0, h.snew, h.os, h.tape, h.output, h.size, h.block⟩
  · by_cases hji : j = id
    · subst hji; rw [upd_same] at hj; cases hj; exact ho
    · rw [ne j hji] at hj; exact h.ok j x hj
  · by_cases h1 : i = id
    · subst h1
      rw [ne j (Ne.symm hne)] at hj
      exact fun q' => hsep j b q b' _ (Ne.symm hne) hj hb hb' q'.symm
    · by_cases h2 : j = id
      · subst h2
        rw [ne i h1] at hi
        exact hsep i b' _ b _ h1 hi hb' hb
      · rw [ne i h1] at hi; rw [ne j h2] at hj
        exact h.sep i j b q b' q' hi hj hb hb' hne
  · by_cases hji : j = id
    · subst hji; exact hown b q hb
    · rw [ne j hji] at hj; exact h.own j b q hj hb
/-- The world has grown, and one block that no object told of is in has turned. -/
theorem OSim.grownB (h : OSim T c e of) {B : Nat} (hB : B < e.w.heap.size) (hBo : c.w0.heap.size ≤ B ∨ c.M B) (hBf : ∀ j q, (of j).isSome → e.ι j ≠ some (B, q)) (hBS : ∀ i, ¬ e.S B i) {w' : World} {S2 : Nat → Nat → Prop} (hsz : e.w.heap.size ≤ w'.heap.size) (hb : ∀ b, b < e.w.heap.size → b ≠ B → w'.heap[b]? = e.w.heap[b]?) (hBl : blen w' B = blen e.w B) (h1 : w'.os = e.w.os) (h2 : w'.tape = e.w.tape) (h3 : w'.output = e.w.output) (hS : ∀ b i, S2 b i → b < w'.heap.size) :
    OSim T c (e.grown w' S2) of ∧ e.le (e.grown w' S2) := by
  have hlen : ∀ b, b < e.w.heap.size → blen w' b = blen e.w b := fun b hb' => by
    by_cases hq : b = B
    · subst hq; exact hBl
    · exact len_of_heap (hb b hb' hq)
  have hle : e.le (e.grown w' S2) := by
    refine ⟨fun b i hs => ⟨.inl hs, fun x hx => ?_⟩, fun _ h => h, fun id hu _ => ⟨rfl, rfl, fun b o hι => hlen b (h.lt _ _ _ hu hι)⟩, fun _ _ h => h, fun _ _ => Nat.le_refl _, fun _ _ => rfl, hsz, fun b hb' => hlen b hb'⟩
    show w'.cell? ⟨b, i, none⟩ = some x
    rw [cell_of_heap (hb b (h.slt _ _ hs) (fun q => hBS i (q ▸ hs)))]; exact hx
  refine ⟨⟨fun id o ho => ?_, h.sep, h.own, fun id b o hu hι => Nat.lt_of_lt_of_le (h.lt id b o hu hι) hsz, fun b i hs => ?_, fun b i hs => .inl (h.s0 _ _ hs), fun b i hs => ?_, h1.trans h.os, h2.trans h.tape, h3.trans h.output, Nat.le_trans h.size hsz, fun k hk hm => ?_⟩, hle⟩
  · exact (h.ok id o ho).keep hle rfl (fun b o' hι => hb b (h.lt _ _ _ (h.ok id o ho).use hι) (fun q => hBf id o' (by rw [ho]; rfl) (q ▸ hι))) (fun b o' i hι hs => by
      rcases hs with hs | ⟨hs, _⟩
      · exact hs
      · exact absurd (h.lt _ _ _ (h.ok id o ho).use hι) (by omega))
  · rcases hs with hs | ⟨_, hs⟩
    · exact Nat.lt_of_lt_of_le (h.slt _ _ hs) hsz
    · exact hS _ _ hs
  · rcases hs with hs | ⟨hs, _⟩
    · exact h.snew _ _ hs
    · exact .inr (.inl (Nat.le_trans h.size hs))
  · show w'.heap[k]? = _
    rw [hb k (Nat.lt_of_lt_of_le hk h.size) (fun q => by
      subst q
      rcases hBo with h' | h'
      · omega
      · exact hm h')]
    exact h.block k hk hm
end Go.Vm

namespace Go.Vm
open Go.RowKit
variable {P : Program} {T : TT} {R : Type} {c : Ctx} {e : Env} {of : Nat → Option Ob}
set_option linter.unusedVariables false
set_option linter.constructorNameAsVariable false

theorem put_agree : ∀ (l : List (Nat × Ob)) {f g : Nat → Option Ob} {id : Nat}, f id = g id → put f l id = put g l id := by
  intro l
  induction l with
  | nil => intro f g id h; exact h
  | cons p r ih =>
    intro f g id h
    refine ih ?_
    simp only [upd]
    split
    · rfl
    · exact h
def aggT (T : TT) (t : Nat) : Bool :=
  match kOf T t with
  | some k => k.agg
  | none => false
/-- A method on a box of data, by its run at a box alone. -/
theorem pureM_ok {f : FuncId} {s : SymC} (hn : s.nat) (hs : SymOK P T f s.dir) {t : Nat} {ts : List Nat} {rk : List RK} {F : FC} (hFn : F.nat) (hts : ts.all (fun t => (T t).isSome) = true) (hag : aggT T t = true)
    (hF : ∀ x xs rs, TV T (t :: ts) (x :: xs) → F (List Rs) (x :: xs) some = some rs → s (List Rs) (.p 0 t [] :: mkAs T ts xs) (box0 t x) 1 (fun out => resM T t x rk out) = some rs) : SymOK P T f (pureM T t ts F).dir := by
  intro c e of of' args vals nx out hos hrun hro hu hvals
  unfold SymC.dir pureM at hrun
  split at hrun <;> try (cases hrun; done)
  rename_i id t' as
  cases hb0 : Nat.beq t' t with
  | false => rw [hb0] at hrun; cases hrun
  | true =>
  rw [hb0] at hrun
  have := Nat.eq_of_beq_eq_true hb0; subst this
  simp only [cond_true] at hrun
  split at hrun <;> try (cases hrun; done)
  rename_i x w0 h0
  split at hrun <;> try (cases hrun; done)
  rename_i xs wo h1
  cases hop : openB (put (put of w0) wo) t' id with
  | false => rw [hop] at hrun; cases hrun
  | true =>
  rw [hop] at hrun
  simp only [cond_true] at hrun
  rw [hFn Eff] at hrun
  obtain ⟨rs, hrs, hout⟩ := ob_some hrun
  split at hout <;> try (cases hout; done)
  rename_i t1 y rs'
  cases hb1 : Nat.beq t1 t' with
  | false => rw [hb1] at hout; cases hout
  | true =>
  rw [hb1] at hout
  have := Nat.eq_of_beq_eq_true hb1; subst this
  simp only [cond_true, Option.some.injEq] at hout
  subst hout
  -- the box, its content
  obtain ⟨a, hof, htv⟩ := boxV_spec h0
  have hid : of' id = of id := hro id (by simp)
  have hof' := hid.trans hof
  obtain ⟨u1, u2, u3, u4, b, cs, ty, fz, g1, g2, g3, g4, g5, g6⟩ := hos.ok _ _ hof'
  have htv' := (toV_congr (T := T) DEP).1 of of' _ _ _ _ htv (fun j hj => hro j (by simp [hj]))
  obtain ⟨eA, a1, a2, a3, a4, a5⟩ := (toV_both DEP).1 e of' t1 a x w0 cs.toList hos htv' g5
  obtain ⟨v0, vs0, hv0, r1, r2⟩ : ∃ v0 vs0, vals.toList = v0 :: vs0 ∧ Rep T e (.p id t1 []) v0 ∧ Reps T e as vs0 := by
    generalize vals.toList = l at hvals
    cases hvals with
    | cons q1 q2 => exact ⟨_, _, rfl, q1, q2⟩
  obtain ⟨eS, s1, s2, s3, s4, s5⟩ := argsV_spec a2 h1 (fun j hj => put_agree w0 (hro j (by simp [hj]))) (r2.mono a3)
  have hw : eS.w = e.w := s1.trans a1
  have leS : e.le eS := a3.trans s3
  obtain ⟨a0, hop'⟩ := openB_spec hop
  have hop2 : put (put of' w0) wo id = some (.box t1 a0 false) := by rw [put_agree wo (put_agree w0 hid)]; exact hop'
  obtain ⟨U1, U2, U3, U4, b', cs', ty', fz', G1, G2, G3, G4, G5, G6⟩ := s2.ok _ _ hop2
  have hι : eS.ι id = some (b, 0) := by rw [(leS.obj _ u1 (U2.trans u2.symm)).1]; exact g1
  rw [hι] at G1; cases G1
  rw [hw, g2] at G2; cases G2
  have hx : RV T eS [t1] [x] cs.toList := a5.mono s3
  have hbS : ∀ i, ¬ eS.S b i := G6 rfl
  have hblt : b < e.w.heap.size := (Array.getElem?_eq_some_iff.1 g2).1
  -- nobody's objects but the box
  have hagg : AggIff T t1 (.agg cs) := by
    refine ⟨fun _ => ⟨cs, rfl⟩, fun _ => ?_⟩
    unfold aggT at hag
    split at hag
    · rename_i k hk; exact ⟨k, hk, hag⟩
    · cases hag
  have hTt : (T t1).isSome = true := by
    unfold aggT at hag
    split at hag
    · rename_i k hk
      unfold kOf at hk
      split at hk
      · rename_i te hte; rw [hte]; rfl
      · cases hk
    · cases hag
  have hrun0 := hF x xs _ ⟨eS, .agg cs :: vs0, .cons hx hagg s5⟩ hrs
  rw [hn] at hrun0
  obtain ⟨out0, hout0, hres⟩ := ob_some hrun0
  let e0 : Env := { w := e.w, ι := fun j => if j = 0 then some (b, 0) else none, S := eS.S, bn := fun _ => 0, U := fun j => j = 0, ty := fun _ => t1, ln := fun _ => 0 }
  let c0 : Ctx := { w0 := e.w, M := fun k => k = b, S0 := eS.S }
  have fz0 : ∀ a ds, Fz eS a ds → Fz e0 a ds := fun a ds q => ⟨q.1, fun j y hj => by
    obtain ⟨p1, p2⟩ := q.2 j y hj
    rw [hw] at p1
    exact ⟨p1, p2⟩⟩
  have hbox0 : box0 t1 x 0 = some (.box t1 (.v t1 x) false) := rfl
  have hboxn : ∀ j o, box0 t1 x j = some o → j = 0 ∧ o = .box t1 (.v t1 x) false := fun j o hj => by
    unfold box0 at hj
    cases hq : Nat.beq j 0 with
    | false => rw [hq] at hj; cases hj
    | true =>
      rw [hq] at hj
      simp only [cond_true, Option.some.injEq] at hj
      exact ⟨Nat.eq_of_beq_eq_true hq, hj.symm⟩
  have hbox1 : ∀ j, (box0 t1 x j).isSome → j = 0 := fun j hj => by
    obtain ⟨o, ho⟩ := Option.isSome_iff_exists.1 hj
    exact (hboxn j o ho).1
  have hos0 : OSim T c0 e0 (box0 t1 x) := by
    refine ⟨fun j o hj => ?_, fun i j b1 o1 b2 o2 hi hj _ _ hne => ?_, fun j b1 o1 hj hb1 => ?_, fun j b1 o1 hj hb1 => ?_, fun b1 i hs' => ?_, fun _ _ hs' => hs', fun _ _ hs' => .inl hs', rfl, rfl, rfl, Nat.le_refl _, fun _ _ _ => rfl⟩
    · obtain ⟨rfl, rfl⟩ := hboxn j o hj
      exact ⟨rfl, rfl, rfl, by show Nat.beq t1 t1 = true; exact Nat.beq_refl _, b, cs, ty, fz, by simp [e0], g2, g3, g4, RA.v (hx.change fz0) .nil |> (by simpa using ·), fun _ => hbS⟩
    · rw [hbox1 i hi, hbox1 j hj] at hne; exact absurd rfl hne
    · have hb1 : (if j = 0 then some (b, 0) else none) = some (b1, o1) := hb1
      rw [if_pos (hbox1 j hj)] at hb1; cases hb1; exact .inr rfl
    · have hj : j = 0 := hj
      have hb1 : (if j = 0 then some (b, 0) else none) = some (b1, o1) := hb1
      rw [if_pos hj] at hb1; cases hb1; exact hblt
    · have := s2.slt b1 i hs'; rwa [hw] at this
  have hreps0 : Reps T e0 (.p 0 t1 [] :: mkAs T ts xs) vals.toList := by
    rw [hv0]
    refine .cons ?_ ((s5.change (e' := e0) fz0).reps hts)
    obtain ⟨b2, off, _, _, k1, k2, hv⟩ := rep_p_inv r1
    rw [g1] at k1; cases k1
    rw [u3] at k2
    cases k2
    exact RA.r ⟨b, 0, rfl, rfl, by simp [e0], .nil, hv⟩ (by rw [hv]; rfl) .nil
  refine does_mono (hs c0 e0 (box0 t1 x) (box0 t1 x) _ vals 1 out0 hos0 hout0 (fun _ _ => rfl) (fun j h1 _ (h : j = 0) => by omega) hreps0) ?_
  rintro x1 w' ⟨e1, rfl, k1, k2, k3, k4⟩
  obtain ⟨vs, hvs, hxv⟩ : ∃ vs, Reps T e1 (outL out0.val) vs ∧ ((isT out0.val = true ∧ x1 = .tuple vs.toArray) ∨ (isT out0.val = false ∧ vs = [x1])) := by
    cases hv : out0.val with
    | t l =>
      rw [hv] at k4
      obtain ⟨X, rfl, h2, h3⟩ := k4
      exact ⟨X.toList, reps_tuple (by simpa [outL] using h2) (fun i v x a b => h3 i v x a (by simpa using b)), .inl ⟨rfl, by simp⟩⟩
    | _ => rw [hv] at k4; exact ⟨[x1], .cons k4 .nil, .inr ⟨rfl, rfl⟩⟩
  unfold resM at hres
  cases hsh1 : (Nat.beq rk.length 1 == isT out0.val) with
  | true => rw [hsh1] at hres; cases hres
  | false =>
  rw [hsh1] at hres
  simp only [cond_false] at hres
  split at hres <;> try (cases hres; done)
  rename_i y1 w1 hbv
  split at hres <;> try (cases hres; done)
  rename_i ys w2 hdl
  cases hcnt : (Nat.ble (cntR rk) 1 && openB (put (put (put (box0 t1 x) out0.wo) w1) w2) t1 0) with
  | false => rw [hcnt] at hres; cases hres
  | true =>
  rw [hcnt] at hres
  simp only [cond_true] at hres
  simp only [Bool.and_eq_true] at hcnt
  obtain ⟨hcnt, hop3⟩ := hcnt
  split at hres <;> try (cases hres; done)
  rename_i rs2 hrl
  simp only [Option.some.injEq, List.cons.injEq, Rs.d.injEq, true_and] at hres
  obtain ⟨rfl, rfl⟩ := hres
  -- the box behind the call
  obtain ⟨a1', hof1, htv1⟩ := boxV_spec hbv
  obtain ⟨d1, d2, d3, d4, b1, cs1, ty1, fz1, f1, f2, f3, f4, f5, f6⟩ := k1.ok _ _ hof1
  have hι1 : e1.ι 0 = some (b, 0) := by rw [(k2.obj 0 rfl d2).1]; rfl
  rw [hι1] at f1; cases f1
  obtain ⟨eB, l1, l2, l3, l4, l5⟩ := (toV_both DEP).1 e1 _ t1 a1' y1 w1 cs1.toList k1 htv1 f5
  obtain ⟨e2, q1, q2, q3, q4, q6, q5⟩ := dL_spec l2 hdl (hvs.mono l3)
  have hw2 : e2.w = e1.w := q1.trans l1
  have le2 : e0.le e2 := k2.trans (l3.trans q3)
  obtain ⟨a2', hof2⟩ := openB_spec hop3
  obtain ⟨D1, D2, D3, D4, b2, cs2, ty2, fz2, F1, F2, F3, F4, F5, F6⟩ := q2.ok _ _ hof2
  have hι2 : e2.ι 0 = some (b, 0) := by rw [(le2.obj 0 rfl D2).1]; rfl
  rw [hι2] at F1; cases F1
  rw [hw2, f2] at F2; cases F2
  have hy : RV T e2 [t1] [y1] cs1.toList := l5.mono q3
  have hb2S : ∀ i, ¬ e2.S b i := F6 rfl
  have hRR := q5 rs2 hrl e.w.heap.size (fun j el v xs nl sh' bb o hj hιj => by
    rcases q2.own j bb o (by rw [hj]; rfl) hιj with h | h
    · exact h
    · have hj0 : j ≠ 0 := by intro q; subst q; rw [hof2] at hj; cases hj
      exact absurd h (q2.sep j 0 bb o b 0 (by rw [hj]; rfl) (by rw [hof2]; rfl) hιj hι2 hj0))
  -- back to where the call was made: the box let go, the world grown, the box taken again
  let ofD : Nat → Option Ob := fun j => if j = id then none else put (put of' w0) wo j
  have hsubD : ∀ j o, ofD j = some o → put (put of' w0) wo j = some o := fun j o hj => by
    by_cases hji : j = id
    · simp [ofD, hji] at hj
    · simpa [ofD, hji] using hj
  have osD : OSim T c eS ofD := s2.sub hsubD
  have hsomeD : ∀ j, (ofD j).isSome → j ≠ id ∧ (put (put of' w0) wo j).isSome := fun j hj => by
    obtain ⟨o, ho⟩ := Option.isSome_iff_exists.1 hj
    refine ⟨fun q => ?_, by rw [hsubD j o ho]; rfl⟩
    subst q; simp [ofD] at ho
  have hownB : c.w0.heap.size ≤ b ∨ c.M b := s2.own id b 0 (by rw [hop2]; rfl) hι
  have hszS : eS.w.heap.size = e.w.heap.size := by rw [hw]
  obtain ⟨gg1, gg2⟩ := osD.grownB (B := b) (by rw [hszS]; exact hblt) hownB (fun j q hj hιj => absurd rfl (s2.sep j id b q b 0 (hsomeD j hj).2 (by rw [hop2]; rfl) hιj hι (hsomeD j hj).1)) hbS (w' := e2.w) (S2 := e2.S)
    (by rw [hszS]; exact q2.size) (fun k hk hkb => by rw [hw]; exact q2.block k (by rw [← hszS]; exact hk) hkb) (by rw [hw]; exact le2.keep b hblt) (by rw [hw]; exact q2.os) (by rw [hw]; exact q2.tape) (by rw [hw]; exact q2.output) (fun k i h => q2.slt k i h)
  have fzG : ∀ a ds, Fz e2 a ds → Fz (eS.grown e2.w e2.S) a ds := fun a ds q => ⟨q.1, fun j y hj => by
    obtain ⟨p1, p2⟩ := q.2 j y hj
    refine ⟨p1, ?_⟩
    rcases q2.snew _ _ p2 with h | h | h
    · exact .inl h
    · exact .inr ⟨by rw [hszS]; exact h, p2⟩
    · have h : a.block = b := h
      rw [h] at p2
      exact absurd p2 (hb2S _)⟩
  have okB : OK T (eS.grown e2.w e2.S) id (.box t1 (.v t1 y1) false) :=
    ⟨U1, U2, U3, by show Nat.beq t1 t1 = true; exact Nat.beq_refl _, b, cs1, ty1, fz1, hι, by show e2.w.heap[b]? = _; rw [hw2]; exact f2, F3, f4, by simpa using RA.v (hy.change fzG) .nil, fun _ i hs' => by
      rcases hs' with h | ⟨h, _⟩
      · exact hbS i h
      · omega⟩
  have osB := gg1.back okB (fun bb q hq => by
    have hq : eS.ι id = some (bb, q) := hq
    rw [hι] at hq; cases hq; exact hownB) (fun j bb q b2 q2' hji hj hq1 hq2 => by
    have hq1 : eS.ι id = some (bb, q) := hq1
    have hq2 : eS.ι j = some (b2, q2') := hq2
    rw [hι] at hq1; cases hq1
    exact s2.sep j id b2 q2' b 0 (hsomeD j hj).2 (by rw [hop2]; rfl) hq2 hι hji)
  have hofB : upd ofD id (some (.box t1 (.v t1 y1) false)) = put of' ((w0 ++ wo) ++ [(id, .box t1 (.v t1 y1) false)]) := by
    rw [put_append, put_append]
    funext j
    show upd ofD id _ j = upd (put (put of' w0) wo) id _ j
    by_cases hji : j = id
    · subst hji; rw [upd_same, upd_same]
    · rw [upd_ne _ _ hji, upd_ne _ _ hji]; simp [ofD, hji]
  rw [hofB] at osB
  have hRA : RR T true (eS.grown e2.w e2.S) e.w.heap.size rk rs2 vs := RR.flat (e := e2) (e' := eS.grown e2.w e2.S) rfl (fun _ => fzG) (fun k i hB hS => by
      rcases hS with h | h
      · have := s2.slt k i h; omega
      · exact h.2) hRR
  obtain ⟨v00, e', v1, v2, v3, v4, v5⟩ := RR.take (nx := nx) osB hRA (Nat.le_of_ble_eq_true hcnt) (fun j h1 h2 hU => hu j h1 h2 (a4 j (s4 j hU))) hos.size (fun j bb o hj hιj => by
    have hιj : eS.ι j = some (bb, o) := hιj
    obtain ⟨ob1, hob1⟩ := Option.isSome_iff_exists.1 hj
    have hUj : eS.U j := (osB.ok j ob1 hob1).use
    have := s2.lt j bb o hUj hιj
    rwa [hszS] at this)
  refine ⟨e', v1.trans hw2, ?_, leS.trans (gg2.trans v3), fun j hj => (v4 j hj).imp (fun h => a4 j (s4 j h)) (fun h => h), ?_⟩
  · show OSim T c e' (put of' ((w0 ++ wo) ++ ((id, .box t1 (.v t1 y1) false) :: (mkRs T nx rs2).2.1)))
    rw [show (w0 ++ wo) ++ ((id, Ob.box t1 (.v t1 y1) false) :: (mkRs T nx rs2).2.1) = ((w0 ++ wo) ++ [(id, .box t1 (.v t1 y1) false)]) ++ (mkRs T nx rs2).2.1 by simp, put_append]
    exact v2
  · show Rep T e' (oneT (mkRs T nx rs2).1) x1
    have hlen : (mkRs T nx rs2).1.length = rk.length := by rw [mkRs_len, rL_len hrl]
    rcases hxv with ⟨ht, rfl⟩ | ⟨ht, rfl⟩
    · have hne : (mkRs T nx rs2).1.length ≠ 1 := by
        rw [hlen]; intro h; rw [h, ht] at hsh1; cases hsh1
      have : oneT (mkRs T nx rs2).1 = .t (mkRs T nx rs2).1 := by
        unfold oneT
        split
        · rename_i a h; rw [h] at hne; exact absurd rfl hne
        · rfl
      rw [this]
      exact tuple_reps v5 (mkRs_not (nx := nx))
    · have h1 := v5.get.1
      obtain ⟨a, ha⟩ : ∃ a, (mkRs T nx rs2).1 = [a] := List.length_eq_one_iff.1 (by simpa using h1.symm)
      rw [ha] at v5 ⊢
      cases v5 with
      | cons h _ => exact h
end Go.Vm

namespace Go.Vm
open Go.RowKit
variable {P : Program} {T : TT} {R : Type}
set_option linter.unusedVariables false
set_option linter.constructorNameAsVariable false

/-! ### Methods on a box of data: contracts at a table -/
theorem pureM_con (hm : P.follows .mixedOrders = true) (hT : TOK T P) {tab : List (Nat × SymC)} (h : TabOK P T tab) {f d fu : Nat} {Lo : Nat → LC} {t : Nat} {ts : List Nat} {rk : List RK} {F : FC} (hFn : F.nat) (hts : ts.all (fun t => (T t).isSome) = true) (hag : aggT T t = true)
    (hL : LoopsC P T f Lo)
    (hF : ∀ x xs rs, TV T (t :: ts) (x :: xs) → F (List Rs) (x :: xs) some = some rs → runFC P T (runAC P T tab false fu d) Lo false fu f (List Rs) (.p 0 t [] :: mkAs T ts xs) (box0 t x) 1 (fun out => resM T t x rk out) = some rs) :
    TabOK P T ((f, pureM T t ts F) :: tab) :=
  h.cons (pureM_nat hFn) (pureM_ok (runFC_nat (runAC_nat h d) hL.nat) (runFC_ok hm hT (runAC_nat h d) (runAC_ok hm hT h d) hL.nat hL.ok) hFn hts hag hF)
/-- A struct of a slice and a number. -/
theorem tv_two {t s el er : Nat} {k : IntKind} {x : V} {e : Env} {cs : List Value} (ht : kOf T t = some (.struct [s, er])) (hs : kOf T s = some (.slice el)) (hr : kOf T er = some (.int k)) (h : RV T e [t] [x] cs) : ∃ y n, x = .l [y, .i n] ∧ inR k n ∧ (y = .n ∨ ∃ ys, y = .l ys) := by
  obtain ⟨ys, rfl, hy⟩ := h.struct_inv ht
  obtain ⟨as, bs, c1, c2, rfl, rfl, h1, h2⟩ := RV.split [s] hy
  have l1 := h1.length.2
  have l2 := h2.length.2
  obtain ⟨a, rfl⟩ := List.length_eq_one_iff.1 l1
  obtain ⟨b, rfl⟩ := List.length_eq_one_iff.1 l2
  obtain ⟨n, rfl, hn⟩ : ∃ n, b = .i n ∧ inR k n := by
    cases h2 with
    | int g1 _ g3 g4 => rw [hr] at g1; cases g1; exact ⟨_, rfl, g3⟩
    | bool g1 => rw [hr] at g1; cases g1
    | str g1 => rw [hr] at g1; cases g1
    | ptr g1 => rw [hr] at g1; cases g1
    | nils g1 => rw [hr] at g1; cases g1
    | map g1 => rw [hr] at g1; cases g1
    | func g1 => rw [hr] at g1; cases g1
    | fn g1 => rw [hr] at g1; cases g1
    | slice g1 => rw [hr] at g1; cases g1
    | arr g1 => rw [hr] at g1; cases g1
    | struct g1 => rw [hr] at g1; cases g1
  refine ⟨a, n, rfl, hn, ?_⟩
  rcases h1.slice_inv hs with ⟨rfl, _⟩ | ⟨ys, ds, ad, cap, rfl, _⟩
  · exact .inl rfl
  · exact .inr ⟨ys, rfl⟩
/-- Bytes. -/
theorem tv_bytes {t el : Nat} {x : V} {e : Env} {cs : List Value} (ht : kOf T t = some (.slice el)) (he : kOf T el = some (.int .u8)) (h : RV T e [t] [x] cs) : x = .n ∨ ∃ ns : List Nat, x = .l (ns.map nv) ∧ ∀ a ∈ ns, a < 256 := by
  rcases h.slice_inv ht with ⟨rfl, _⟩ | ⟨ys, ds, a, cap, rfl, _, _, _, g⟩
  · exact .inl rfl
  · obtain ⟨ns, rfl, hn⟩ := int_row he rfl g
    exact .inr ⟨ns, rfl, lt256 hn⟩
/-- A number. -/
theorem tv_int {t : Nat} {k : IntKind} {x : V} {e : Env} {cs : List Value} (ht : kOf T t = some (.int k)) (h : RV T e [t] [x] cs) : ∃ n, x = .i n ∧ inR k n := by
  cases h with
  | int g1 _ g3 g4 => rw [ht] at g1; cases g1; exact ⟨_, rfl, g3⟩
  | bool g1 => rw [ht] at g1; cases g1
  | str g1 => rw [ht] at g1; cases g1
  | ptr g1 => rw [ht] at g1; cases g1
  | nils g1 => rw [ht] at g1; cases g1
  | map g1 => rw [ht] at g1; cases g1
  | func g1 => rw [ht] at g1; cases g1
  | fn g1 => rw [ht] at g1; cases g1
  | slice g1 => rw [ht] at g1; cases g1
  | arr g1 => rw [ht] at g1; cases g1
  | struct g1 => rw [ht] at g1; cases g1

/-! ### Numbers and texts as bytes, and how they are read: what the functions of 'piece' compute -/
/-- The number of bytes, the lowest first. -/
def numE : List V → Int
  | [] => 0
  | a :: r => bitsOf .or .u64 (WU (numE r * 2 ^ 8)) (WU a.int)
def numF (u64 : Nat) : FC := fun R xs k => match xs with
  | [x] => bif Nat.ble x.els.length 8 then k [.d u64 (.i (numE x.els))] else none
  | _ => none
theorem numF_nat (u64 : Nat) : FC.nat (numF u64) := by
  intro R xs k
  unfold numF
  split
  · rename_i x; cases Nat.ble x.els.length 8 <;> rfl
  · rfl
theorem numF_at {u64 : Nat} {ns : List Nat} {rs : List Rs} (h : numF u64 (List Rs) [.l (ns.map nv)] some = some rs) : ns.length ≤ 8 ∧ some rs = some [.d u64 (.i (numE (ns.map nv)))] := by
  unfold numF at h
  simp only [V.els, List.length_map] at h
  cases hl : Nat.ble ns.length 8 with
  | false => rw [hl] at h; cases h
  | true => rw [hl] at h; exact ⟨Nat.le_of_ble_eq_true hl, h.symm⟩
/-- Bounds of a part; a part. -/
def bnds {R : Type} (lo hi : Int) (n : Nat) (k : Option R) : Option R := bif ile 0 lo && ile lo hi && ile hi n then k else none
def sub (xs : List V) (lo hi : Int) : List V := (xs.drop lo.toNat).take (hi - lo).toNat
theorem bnds_in {lo hi : Int} {n : Nat} {k : Option R} (h1 : 0 ≤ lo) (h2 : lo ≤ hi) (h3 : hi ≤ n) : bnds lo hi n k = k := by
  unfold bnds
  rw [ile_iff.2 h1, ile_iff.2 h2, ile_iff.2 h3]; rfl
theorem sub_len (xs : List V) (lo hi : Int) : (sub xs lo hi).length ≤ xs.length := by
  unfold sub; simp; omega
/-- A reader: what is left, what is wrong. -/
def rdL (x : V) : List V := (x.nth 0).els
def rdE (x : V) : Int := (x.nth 1).int
def rdO (x : V) : Bool := Nat.ble (rdL x).length LIM
/-- The next bytes. -/
def rawX (x : V) (n : Int) : V := bif !ieq (rdE x) 0 then x else bif ilt n 1 then x else bif ilt ((rdL x).length : Nat) n then .l [x.nth 0, .i 61] else .l [.l (sub (rdL x) n ((rdL x).length : Nat)), .i (rdE x)]
def rawV (x : V) (n : Int) : V := bif !ieq (rdE x) 0 then .n else bif ilt n 1 then .n else bif ilt ((rdL x).length : Nat) n then .n else .l (sub (rdL x) (0 : Nat) n)
def rawF (t s : Nat) : FC := fun R xs k => match xs with
  | [x, n] => bif rdO x then k [.d t (rawX x n.int), .d s (rawV x n.int)] else none
  | _ => none
theorem rawF_nat (t s : Nat) : FC.nat (rawF t s) := by
  intro R xs k
  unfold rawF
  split
  · rename_i x n; cases rdO x <;> rfl
  · rfl
def rawG {R : Type} (t s : Nat) (xs : List V) (err n : Int) (k : List Rs → Option R) : Option R :=
  bif !ieq err 0 then k [.d t (.l [.l xs, .i err]), .d s .n] else
  bif ilt n 1 then k [.d t (.l [.l xs, .i err]), .d s .n] else
  ln xs.length <| bif ilt (xs.length : Nat) n then k [.d t (.l [.l xs, .i 61]), .d s .n] else
  bnds (0 : Nat) n xs.length <| lim (0 + (sub xs (0 : Nat) n).length) <| bnds n (xs.length : Nat) xs.length <|
  k [.d t (.l [.l (sub xs n (xs.length : Nat)), .i err]), .d s (.l (sub xs (0 : Nat) n))]
def rawN {R : Type} (t s : Nat) (err n : Int) (k : List Rs → Option R) : Option R :=
  bif !ieq err 0 then k [.d t (.l [.n, .i err]), .d s .n] else
  bif ilt n 1 then k [.d t (.l [.n, .i err]), .d s .n] else
  bif ilt (0 : Nat) n then k [.d t (.l [.n, .i 61]), .d s .n] else
  bnds (0 : Nat) n 0 <| bnds n (0 : Nat) 0 <| k [.d t (.l [.n, .i err]), .d s .n]
theorem raw_law (t s : Nat) {xs : List V} {err n : Int} {rs : List Rs} (h : rawF t s (List Rs) [.l [.l xs, .i err], .i n] some = some rs) : rawG t s xs err n some = some rs := by
  unfold rawF at h
  simp only at h
  cases ho : rdO (.l [.l xs, .i err]) with
  | false => rw [ho] at h; cases h
  | true =>
  rw [ho] at h
  have hlen : xs.length ≤ 1073741824 := Nat.le_of_ble_eq_true ho
  simp only [cond_true, Option.some.injEq] at h
  subst h
  have e0 : rdE (.l [.l xs, .i err]) = err := rfl
  have e1 : rdL (.l [.l xs, .i err]) = xs := rfl
  have e2 : (V.l [.l xs, .i err]).nth 0 = .l xs := rfl
  have e3 : (V.i n).int = n := rfl
  simp only [rawG, rawX, rawV, e0, e1, e2, e3]
  cases h1 : (!ieq err 0)
  · cases h2 : ilt n 1
    · rw [ln_in (by omega)]
      cases h3 : ilt (xs.length : Nat) n
      · have h2 : ¬ n < 1 := fun q => by rw [show ilt n 1 = true by simp [ilt, q]] at h2; cases h2
        have h3 : ¬ (xs.length : Int) < n := fun q => by rw [show ilt (xs.length : Nat) n = true by simp [ilt, q]] at h3; cases h3
        have := sub_len xs (0 : Nat) n
        simp only [cond_false]
        rw [bnds_in (by omega) (by omega) (by omega), lim_in (by omega), bnds_in (by omega) (by omega) (by omega)]
      · rfl
    · rfl
  · rfl
theorem raw_lawN (t s : Nat) {err n : Int} {rs : List Rs} (h : rawF t s (List Rs) [.l [.n, .i err], .i n] some = some rs) : rawN t s err n some = some rs := by
  unfold rawF at h
  simp only at h
  cases ho : rdO (.l [.n, .i err]) with
  | false => rw [ho] at h; cases h
  | true =>
  rw [ho] at h
  simp only [cond_true, Option.some.injEq] at h
  subst h
  have e0 : rdE (.l [.n, .i err]) = err := rfl
  have e1 : rdL (.l [.n, .i err]) = [] := rfl
  have e2 : (V.l [.n, .i err]).nth 0 = .n := rfl
  have e3 : (V.i n).int = n := rfl
  simp only [rawN, rawX, rawV, e0, e1, e2, e3]
  cases h1 : (!ieq err 0)
  · cases h2 : ilt n 1
    · have h2 : ¬ n < 1 := fun q => by rw [show ilt n 1 = true by simp [ilt, q]] at h2; cases h2
      have h3 : ilt (0 : Nat) n = true := by simp [ilt]; omega
      simp only [List.length_nil, h3, cond_false, cond_true]
    · rfl
  · rfl
end Go.Vm

namespace Go.Vm
open Go.RowKit
variable {P : Program} {T : TT} {R : Type}
set_option linter.unusedVariables false
set_option linter.constructorNameAsVariable false

/-! ### A number in as many bytes as it needs -/
def leV : Nat → Int → List V
  | 0, _ => []
  | m + 1, n => .i (IntKind.wrap .u8 n) :: leV m (n.fdiv (2 ^ 8))
def cntL (n : Int) : List V :=
  bif ilt n 253 then leV 1 n else bif ilt n 65536 then .i 253 :: leV 2 n else bif ilt n 4294967296 then .i 254 :: leV 4 n else .i 255 :: leV 8 n
def cntF (s : Nat) : FC := fun R xs k => match xs with
  | [.n, n] => k [.d s (.l (cntL n.int))]
  | _ => none
theorem cntF_nat (s : Nat) : FC.nat (cntF s) := by
  intro R xs k
  unfold cntF
  split <;> rfl
def cntG {R : Type} (s : Nat) (n : Int) (k : List Rs → Option R) : Option R :=
  bif ilt n 253 then k [.d s (.l (leV 1 n))] else bif ilt n 65536 then k [.d s (.l (.i 253 :: leV 2 n))] else bif ilt n 4294967296 then k [.d s (.l (.i 254 :: leV 4 n))] else k [.d s (.l (.i 255 :: leV 8 n))]
theorem cnt_law (s : Nat) {n : Int} {k : List Rs → Option R} : cntG s n k = k [.d s (.l (cntL n))] := by
  unfold cntG cntL
  cases ilt n 253 <;> cases ilt n 65536 <;> cases ilt n 4294967296 <;> rfl
theorem cntL_len (n : Int) : 1 ≤ (cntL n).length ∧ (cntL n).length ≤ 9 := by
  unfold cntL
  cases ilt n 253 <;> cases ilt n 65536 <;> cases ilt n 4294967296 <;> simp [leV]

/-! ### The first bytes' count: what it is, how many bytes it has, or what is wrong -/
def hdI (x : V) : Int := elV (x.nth 0) 0
def pkA (x : V) (most n used : Int) : Int × Int × Int := bif !ieq ((cntL n).length : Nat) used then (0, 0, 62) else bif ilt most n then (0, 0, 62) else (n, used, 0)
def pkB (x : V) (most used : Int) : Int × Int × Int := bif ilt ((rdL x).length : Nat) used then (0, 0, 61) else pkA x most (numE (sub (rdL x) 1 used)) used
def pkX (x : V) (most : Int) : Int × Int × Int :=
  bif ieq ((rdL x).length : Nat) 0 then (0, 0, 61) else bif ieq (hdI x) 253 then pkB x most 3 else bif ieq (hdI x) 254 then pkB x most 5 else bif ieq (hdI x) 255 then pkB x most 9 else
    bif ilt ((rdL x).length : Nat) 1 then (0, 0, 61) else pkA x most (WU (hdI x)) 1
def pkR (t u er it : Nat) (x : V) (p : Int × Int × Int) : List Rs := [.d t x, .d u (.i p.1), .d it (.i p.2.1), .d er (.i p.2.2)]
def pkF (t u er it : Nat) : FC := fun R xs k => match xs with
  | [x, m] => bif rdO x then k (pkR t u er it x (pkX x m.int)) else none
  | _ => none
theorem pkF_nat (t u er it : Nat) : FC.nat (pkF t u er it) := by
  intro R xs k
  unfold pkF
  split
  · rename_i x m; cases rdO x <;> rfl
  · rfl
def pkGE {R : Type} (x : V) (most n used : Int) (k : Int × Int × Int → Option R) : Option R :=
  ln (cntL n).length <| bif !ieq ((cntL n).length : Nat) used then k (0, 0, 62) else bif ilt most n then k (0, 0, 62) else k (n, used, 0)
def pkGS {R : Type} (x : V) (xs : List V) (most used : Int) (k : Int × Int × Int → Option R) : Option R :=
  ln xs.length <| bif ilt (xs.length : Nat) used then k (0, 0, 61) else bnds 1 used xs.length <| bif Nat.ble (sub xs 1 used).length 8 then pkGE x most (numE (sub xs 1 used)) used k else none
def pkG0 {R : Type} (x : V) (xs : List V) (most : Int) (k : Int × Int × Int → Option R) : Option R :=
  ln xs.length <| bif ilt (xs.length : Nat) 1 then k (0, 0, 61) else bnds 1 1 xs.length <| bif Nat.ble (sub xs 1 1).length 8 then ck 0 xs.length (pkGE x most (WU (elV (.l xs) 0)) 1 k) else none
def pkG {R : Type} (x : V) (xs : List V) (most : Int) (k : Int × Int × Int → Option R) : Option R :=
  ln xs.length <| bif ieq (xs.length : Nat) 0 then k (0, 0, 61) else ck 0 xs.length <|
    bif ieq (elV (.l xs) 0) 253 then pkGS x xs most 3 k else bif ieq (elV (.l xs) 0) 254 then pkGS x xs most 5 k else bif ieq (elV (.l xs) 0) 255 then pkGS x xs most 9 k else pkG0 x xs most k
end Go.Vm

namespace Go.Vm
open Go.RowKit
variable {P : Program} {T : TT} {R : Type}
set_option linter.unusedVariables false
set_option linter.constructorNameAsVariable false

theorem not_ilt {a b : Int} (h : ilt a b = false) : ¬ a < b := fun q => by rw [show ilt a b = true by simp [ilt, q]] at h; cases h
theorem cntL_short (n : Int) : (cntL n).length ≤ 1073741824 := by have := cntL_len n; omega
theorem pkE_law {x : V} {most n used : Int} {k : Int × Int × Int → Option R} : pkGE x most n used k = k (pkA x most n used) := by
  unfold pkGE pkA
  have := cntL_len n
  rw [ln_in (by omega)]
  cases (!ieq ((cntL n).length : Nat) used) <;> cases ilt most n <;> rfl
theorem sub_len2 (xs : List V) {lo hi : Int} (h : lo ≤ hi) : ((sub xs lo hi).length : Int) ≤ hi - lo := by
  unfold sub; simp; omega
theorem pkS_law {xs : List V} {err most used : Int} {k : Int × Int × Int → Option R} (hl : xs.length ≤ LIM) (h1 : 1 ≤ used) (h2 : used ≤ 9) : pkGS (.l [.l xs, .i err]) xs most used k = k (pkB (.l [.l xs, .i err]) most used) := by
  have e1 : rdL (.l [.l xs, .i err]) = xs := rfl
  have hl : xs.length ≤ 1073741824 := hl
  unfold pkGS pkB
  rw [e1, ln_in (by omega)]
  cases h3 : ilt (xs.length : Nat) used
  · have h3 := not_ilt h3
    have h4 := sub_len2 xs h1
    simp only [cond_false]
    rw [bnds_in (by omega) h1 (by omega), show Nat.ble (sub xs 1 used).length 8 = true from Nat.ble_eq_true_of_le (by omega)]
    exact pkE_law
  · rfl
theorem pk_law {xs : List V} {err most : Int} {k : Int × Int × Int → Option R} (hl : xs.length ≤ LIM) : pkG (.l [.l xs, .i err]) xs most k = k (pkX (.l [.l xs, .i err]) most) := by
  have e1 : rdL (.l [.l xs, .i err]) = xs := rfl
  have e2 : hdI (.l [.l xs, .i err]) = elV (.l xs) 0 := rfl
  have hl' : xs.length ≤ 1073741824 := hl
  unfold pkG pkX
  rw [e1, e2, ln_in (by omega)]
  cases h0 : ieq (xs.length : Nat) 0
  · have h0 : (xs.length : Int) ≠ 0 := fun q => by rw [ieq_yes q] at h0; cases h0
    simp only [cond_false]
    rw [ck_in (by omega) (by omega)]
    cases ieq (elV (.l xs) 0) 253
    · cases ieq (elV (.l xs) 0) 254
      · cases ieq (elV (.l xs) 0) 255
        · simp only [cond_false]
          unfold pkG0
          rw [ln_in (by omega)]
          have h1 : ilt (xs.length : Nat) 1 = false := by simp [ilt]; omega
          have h4 := sub_len2 xs (lo := 1) (hi := 1) (by omega)
          simp only [h1, cond_false]
          rw [bnds_in (by omega) (by omega) (by omega), show Nat.ble (sub xs 1 1).length 8 = true from Nat.ble_eq_true_of_le (by omega), cond_true, ck_in (by omega) (by omega)]
          exact pkE_law
        · exact pkS_law hl (by omega) (by omega)
      · exact pkS_law hl (by omega) (by omega)
    · exact pkS_law hl (by omega) (by omega)
  · rfl
end Go.Vm

namespace Go.Vm
open Go.RowKit
variable {P : Program} {T : TT} {R : Type}
set_option linter.unusedVariables false
set_option linter.constructorNameAsVariable false

/-! ### Reader.Fixed -/
def wiI (n : Int) : Int := (fun m => bif ilt 0 m then m else 0) (bif ilt 8 n then 8 else n)
def fxF (t u : Nat) : FC := fun R xs k => match xs with
  | [x, n] => bif rdO x then k [.d t (rawX x (wiI n.int)), .d u (.i (numE (rawV x (wiI n.int)).els))] else none
  | _ => none
theorem fxF_nat (t u : Nat) : FC.nat (fxF t u) := by
  intro R xs k
  unfold fxF
  split
  · rename_i x n; cases rdO x <;> rfl
  · rfl
def fxG {R : Type} (t u : Nat) (x : V) (n : Int) (k : List Rs → Option R) : Option R :=
  bif rdO x then bif Nat.ble (rawV x (wiI n)).els.length 8 then k [.d t (rawX x (wiI n)), .d u (.i (numE (rawV x (wiI n)).els))] else none else none
theorem wiI_in (n : Int) : 0 ≤ wiI n ∧ wiI n ≤ 8 := by
  unfold wiI
  simp only
  cases h1 : ilt 8 n
  · have := not_ilt h1
    simp only [cond_false]
    cases h2 : ilt 0 n
    · simp
    · have := ilt_iff.1 h2; simp only [cond_true]; omega
  · simp only [cond_true]
    cases h2 : ilt 0 8
    · simp
    · simp
theorem raw_short {x : V} {n : Int} : ((rawV x n).els.length : Int) ≤ max n 0 := by
  unfold rawV
  cases (!ieq (rdE x) 0)
  · cases h : ilt n 1
    · cases ilt ((rdL x).length : Nat) n
      · have h := not_ilt h
        have := sub_len2 (rdL x) (lo := (0 : Nat)) (hi := n) (by omega)
        simp only [cond_false]
        show (((sub (rdL x) (0 : Nat) n)).length : Int) ≤ _
        omega
      · exact Int.le_max_right ..
    · exact Int.le_max_right ..
  · exact Int.le_max_right ..
theorem fx_law (t u : Nat) {x : V} {n : Int} {rs : List Rs} (h : fxF t u (List Rs) [x, .i n] some = some rs) : fxG t u x n some = some rs := by
  unfold fxF at h
  simp only at h
  unfold fxG
  have := wiI_in n
  have := raw_short (x := x) (n := wiI n)
  rw [show Nat.ble (rawV x (wiI n)).els.length 8 = true from Nat.ble_eq_true_of_le (by omega)]
  exact h

/-! ### Reader.Count -/
def ctX (x : V) (most : Int) : V := bif !ieq (rdE x) 0 then x else .l [bif isN x then .n else .l (sub (rdL x) (pkX x most).2.1 ((rdL x).length : Nat)), .i (pkX x most).2.2]
where isN (x : V) : Bool := match x.nth 0 with | .n => true | _ => false
def ctV (x : V) (most : Int) : Int := bif !ieq (rdE x) 0 then 0 else (pkX x most).1
def ctF (t u : Nat) : FC := fun R xs k => match xs with
  | [x, m] => bif rdO x then k [.d t (ctX x m.int), .d u (.i (ctV x m.int))] else none
  | _ => none
theorem ctF_nat (t u : Nat) : FC.nat (ctF t u) := by
  intro R xs k
  unfold ctF
  split
  · rename_i x m; cases rdO x <;> rfl
  · rfl
def ctG {R : Type} (t u : Nat) (xs : List V) (err most : Int) (k : List Rs → Option R) : Option R :=
  bif !ieq err 0 then k [.d t (.l [.l xs, .i err]), .d u (.i 0)] else
  bif rdO (.l [.l xs, .i err]) then
    bnds (pkX (.l [.l xs, .i err]) most).2.1 (xs.length : Nat) xs.length <|
    k [.d t (.l [.l (sub xs (pkX (.l [.l xs, .i err]) most).2.1 (xs.length : Nat)), .i (pkX (.l [.l xs, .i err]) most).2.2]), .d u (.i (pkX (.l [.l xs, .i err]) most).1)] else none
def ctN {R : Type} (t u : Nat) (err : Int) (k : List Rs → Option R) : Option R :=
  bif !ieq err 0 then k [.d t (.l [.n, .i err]), .d u (.i 0)] else
  bif rdO (.l [.n, .i err]) then k [.d t (.l [.n, .i 61]), .d u (.i 0)] else none
theorem pk_used {x : V} {most : Int} : 0 ≤ (pkX x most).2.1 ∧ (pkX x most).2.1 ≤ ((rdL x).length : Nat) := by
  have ha : ∀ n u : Int, 0 ≤ u → u ≤ ((rdL x).length : Nat) → 0 ≤ (pkA x most n u).2.1 ∧ (pkA x most n u).2.1 ≤ ((rdL x).length : Nat) := by
    intro n u h1 h2
    unfold pkA
    cases (!ieq ((cntL n).length : Nat) u) <;> cases ilt most n <;> simp only [cond_true, cond_false] <;> omega
  have hb : ∀ u : Int, 0 ≤ u → 0 ≤ (pkB x most u).2.1 ∧ (pkB x most u).2.1 ≤ ((rdL x).length : Nat) := by
    intro u h1
    unfold pkB
    cases h : ilt ((rdL x).length : Nat) u
    · have := not_ilt h
      exact ha _ _ h1 (by omega)
    · simp only [cond_true]; omega
  unfold pkX
  cases ieq ((rdL x).length : Nat) 0
  · cases ieq (hdI x) 253
    · cases ieq (hdI x) 254
      · cases ieq (hdI x) 255
        · cases h : ilt ((rdL x).length : Nat) 1
          · have := not_ilt h
            exact ha _ _ (by omega) (by omega)
          · simp only [cond_true, cond_false]; omega
        · exact hb 9 (by omega)
      · exact hb 5 (by omega)
    · exact hb 3 (by omega)
  · simp only [cond_true]; omega
theorem ct_law (t u : Nat) {xs : List V} {err most : Int} {rs : List Rs} (h : ctF t u (List Rs) [.l [.l xs, .i err], .i most] some = some rs) : ctG t u xs err most some = some rs := by
  unfold ctF at h
  simp only at h
  cases ho : rdO (.l [.l xs, .i err]) with
  | false => rw [ho] at h; cases h
  | true =>
  rw [ho] at h
  simp only [cond_true, Option.some.injEq] at h
  subst h
  have hu := pk_used (x := .l [.l xs, .i err]) (most := most)
  have e1 : rdL (.l [.l xs, .i err]) = xs := rfl
  rw [e1] at hu
  unfold ctG
  rw [ho]
  cases h1 : (!ieq err 0)
  · simp only [cond_false, cond_true]
    rw [bnds_in hu.1 hu.2 (by omega)]
    show _ = some [Rs.d t (ctX _ most), Rs.d u (.i (ctV _ most))]
    unfold ctX ctV
    rw [show rdE (.l [.l xs, .i err]) = err from rfl, h1]
    rfl
  · show _ = some [Rs.d t (ctX _ most), Rs.d u (.i (ctV _ most))]
    unfold ctX ctV
    rw [show rdE (.l [.l xs, .i err]) = err from rfl, h1]
    rfl
theorem ct_lawN (t u : Nat) {err most : Int} {rs : List Rs} (h : ctF t u (List Rs) [.l [.n, .i err], .i most] some = some rs) : ctN t u err some = some rs := by
  unfold ctF at h
  simp only at h
  have ho : rdO (.l [.n, .i err]) = true := rfl
  rw [ho] at h
  simp only [cond_true, Option.some.injEq] at h
  subst h
  unfold ctN
  rw [ho]
  show _ = some [Rs.d t (ctX _ most), Rs.d u (.i (ctV _ most))]
  unfold ctX ctV
  rw [show rdE (.l [.n, .i err]) = err from rfl]
  cases h1 : (!ieq err 0) <;> rfl
end Go.Vm

namespace Go.Vm
open Go.RowKit
variable {P : Program} {T : TT} {R : Type}
set_option linter.unusedVariables false
set_option linter.constructorNameAsVariable false

/-! ### Reader.Text -/
def mxI (n : Int) : Int := bif ilt n 0 then 0 else n
def txE {R : Type} (t s : Nat) (xs : List V) (err : Int) (p : Int × Int × Int) (e : Int) (k : List Rs → Option R) : Option R :=
  bif !ieq e 0 then k [.d t (.l [.l xs, .i e]), .d s .n] else
  bnds p.2.1 (xs.length : Nat) xs.length <| bif rdO (.l [.l (sub xs p.2.1 (xs.length : Nat)), .i err]) then k [.d t (rawX (.l [.l (sub xs p.2.1 (xs.length : Nat)), .i err]) (W64 p.1)), .d s (rawV (.l [.l (sub xs p.2.1 (xs.length : Nat)), .i err]) (W64 p.1))] else none
def txG {R : Type} (t s : Nat) (xs : List V) (err most : Int) (k : List Rs → Option R) : Option R :=
  bif !ieq err 0 then k [.d t (.l [.l xs, .i err]), .d s .n] else
  bif rdO (.l [.l xs, .i err]) then (fun p : Int × Int × Int =>
    bif ieq p.2.2 0 then ln xs.length <| bif ilt (WU (W64 ((xs.length : Nat) - p.2.1))) p.1 then txE t s xs err p 61 k else txE t s xs err p p.2.2 k else txE t s xs err p p.2.2 k) (pkX (.l [.l xs, .i err]) (WU (mxI most))) else none
def txN {R : Type} (t s : Nat) (err : Int) (k : List Rs → Option R) : Option R :=
  bif !ieq err 0 then k [.d t (.l [.n, .i err]), .d s .n] else
  bif rdO (.l [.n, .i err]) then k [.d t (.l [.n, .i 61]), .d s .n] else none
/-- What is left behind the count. -/
def txR (x : V) (p : Int × Int × Int) : V := .l [.l (sub (rdL x) p.2.1 ((rdL x).length : Nat)), .i (rdE x)]
def txP (x : V) (most : Int) : Int × Int × Int := pkX x (WU (mxI most))
/-- Why it is no text. -/
def txI (x : V) (p : Int × Int × Int) : Int := bif ieq p.2.2 0 then bif ilt (WU (W64 (((rdL x).length : Nat) - p.2.1))) p.1 then 61 else 0 else p.2.2
def txX (x : V) (most : Int) : V := bif !ieq (rdE x) 0 then x else bif !ieq (txI x (txP x most)) 0 then .l [x.nth 0, .i (txI x (txP x most))] else rawX (txR x (txP x most)) (W64 (txP x most).1)
def txV (x : V) (most : Int) : V := bif !ieq (rdE x) 0 then .n else bif !ieq (txI x (txP x most)) 0 then .n else rawV (txR x (txP x most)) (W64 (txP x most).1)
def txF (t s : Nat) : FC := fun R xs k => match xs with
  | [x, m] => bif rdO x then k [.d t (txX x m.int), .d s (txV x m.int)] else none
  | _ => none
theorem txF_nat (t s : Nat) : FC.nat (txF t s) := by
  intro R xs k
  unfold txF
  split
  · rename_i x m; cases rdO x <;> rfl
  · rfl
theorem tx_law (t s : Nat) {xs : List V} {err most : Int} {rs : List Rs} (h : txF t s (List Rs) [.l [.l xs, .i err], .i most] some = some rs) : txG t s xs err most some = some rs := by
  unfold txF at h
  simp only at h
  cases ho : rdO (.l [.l xs, .i err]) with
  | false => rw [ho] at h; cases h
  | true =>
  rw [ho] at h
  have hlen : xs.length ≤ 1073741824 := Nat.le_of_ble_eq_true ho
  simp only [cond_true, Option.some.injEq] at h
  subst h
  have hu := pk_used (x := .l [.l xs, .i err]) (most := WU (mxI most))
  have e1 : rdL (.l [.l xs, .i err]) = xs := rfl
  have e0 : rdE (.l [.l xs, .i err]) = err := rfl
  have e2 : (V.l [.l xs, .i err]).nth 0 = .l xs := rfl
  rw [e1] at hu
  unfold txG
  rw [ho]
  show _ = some [Rs.d t (txX _ most), Rs.d s (txV _ most)]
  unfold txX txV
  rw [e0, e2]
  cases h1 : (!ieq err 0)
  · simp only [cond_false, cond_true]
    rw [ln_in (by omega)]
    have hE : ∀ e, txE t s xs err (pkX (.l [.l xs, .i err]) (WU (mxI most))) e some = some [Rs.d t (bif !ieq e 0 then .l [.l xs, .i e] else rawX (txR (.l [.l xs, .i err]) (txP (.l [.l xs, .i err]) most)) (W64 (txP (.l [.l xs, .i err]) most).1)), Rs.d s (bif !ieq e 0 then .n else rawV (txR (.l [.l xs, .i err]) (txP (.l [.l xs, .i err]) most)) (W64 (txP (.l [.l xs, .i err]) most).1))] := by
      intro e
      unfold txE
      cases (!ieq e 0)
      · simp only [cond_false]
        rw [bnds_in hu.1 hu.2 (by omega)]
        have hs := sub_len xs (pkX (.l [.l xs, .i err]) (WU (mxI most))).2.1 (xs.length : Nat)
        have ho2 : rdO (.l [.l (sub xs (pkX (.l [.l xs, .i err]) (WU (mxI most))).2.1 (xs.length : Nat)), .i err]) = true := by
          show Nat.ble (sub xs _ _).length 1073741824 = true
          exact Nat.ble_eq_true_of_le (by omega)
        rw [ho2]
        rfl
      · rfl
    show (bif ieq (txP (.l [.l xs, .i err]) most).2.2 0 then bif ilt (WU (W64 ((xs.length : Nat) - (txP (.l [.l xs, .i err]) most).2.1))) (txP (.l [.l xs, .i err]) most).1 then txE t s xs err (txP (.l [.l xs, .i err]) most) 61 some else txE t s xs err (txP (.l [.l xs, .i err]) most) (txP (.l [.l xs, .i err]) most).2.2 some else txE t s xs err (txP (.l [.l xs, .i err]) most) (txP (.l [.l xs, .i err]) most).2.2 some) = _
    have hE' := fun e => hE e
    change ∀ e, txE t s xs err (txP (.l [.l xs, .i err]) most) e some = _ at hE'
    have hI : txI (.l [.l xs, .i err]) (txP (.l [.l xs, .i err]) most) = bif ieq (txP (.l [.l xs, .i err]) most).2.2 0 then bif ilt (WU (W64 ((xs.length : Nat) - (txP (.l [.l xs, .i err]) most).2.1))) (txP (.l [.l xs, .i err]) most).1 then 61 else 0 else (txP (.l [.l xs, .i err]) most).2.2 := rfl
    rw [hI, hE', hE']
    cases h2 : ieq (txP (.l [.l xs, .i err]) most).2.2 0
    · simp only [cond_false, h2]
    · have h2 := ieq_iff.1 h2
      cases ilt (WU (W64 ((xs.length : Nat) - (txP (.l [.l xs, .i err]) most).2.1))) (txP (.l [.l xs, .i err]) most).1
      · rw [h2]; rfl
      · rfl
  · rfl
theorem tx_lawN (t s : Nat) {err most : Int} {rs : List Rs} (h : txF t s (List Rs) [.l [.n, .i err], .i most] some = some rs) : txN t s err some = some rs := by
  unfold txF at h
  simp only at h
  have ho : rdO (.l [.n, .i err]) = true := rfl
  rw [ho] at h
  simp only [cond_true, Option.some.injEq] at h
  subst h
  unfold txN
  rw [ho]
  show _ = some [Rs.d t (txX _ most), Rs.d s (txV _ most)]
  unfold txX txV
  rw [show rdE (.l [.n, .i err]) = err from rfl]
  cases h1 : (!ieq err 0) <;> rfl
end Go.Vm

namespace Go.Vm
open Go.RowKit
variable {P : Program} {T : TT} {R : Type}
set_option linter.unusedVariables false
set_option linter.constructorNameAsVariable false

theorem pk_at {t u er it : Nat} {xs : List V} {err most : Int} {rs : List Rs} (h : pkF t u er it (List Rs) [.l [.l xs, .i err], .i most] some = some rs) : pkG (.l [.l xs, .i err]) xs most (fun p => some (pkR t u er it (.l [.l xs, .i err]) p)) = some rs := by
  unfold pkF at h
  simp only at h
  cases ho : rdO (.l [.l xs, .i err]) with
  | false => rw [ho] at h; cases h
  | true =>
  rw [ho] at h
  have hl : xs.length ≤ LIM := Nat.le_of_ble_eq_true ho
  rw [pk_law hl]
  exact h
theorem pk_atN {t u er it : Nat} {err most : Int} {rs : List Rs} (h : pkF t u er it (List Rs) [.l [.n, .i err], .i most] some = some rs) : some (pkR t u er it (.l [.n, .i err]) (0, 0, 61)) = some rs := h
theorem cnt_at {s : Nat} {n : Int} {rs : List Rs} (h : cntF s (List Rs) [.n, .i n] some = some rs) : cntG s n some = some rs := by
  rw [cnt_law]; exact h
end Go.Vm

namespace Go.Vm
open Go.RowKit
variable {P : Program} {T : TT} {R : Type}
set_option linter.unusedVariables false
set_option linter.constructorNameAsVariable false

/-! ### What a reader has behind a reading -/
theorem rawX_ok {x : V} {n : Int} (h : rdO x = true) : rdO (rawX x n) = true := by
  unfold rawX
  cases (!ieq (rdE x) 0)
  · cases h1 : ilt n 1
    · cases ilt ((rdL x).length : Nat) n
      · have hl : (rdL x).length ≤ LIM := Nat.le_of_ble_eq_true h
        have := sub_len (rdL x) n ((rdL x).length : Nat)
        exact Nat.ble_eq_true_of_le (n := (sub (rdL x) n ((rdL x).length : Nat)).length) (Nat.le_trans this hl)
      · exact h
    · exact h
  · exact h
/-- Is all right behind it, then it was, and the bytes were there. -/
theorem rawX_err {x : V} {n : Int} (hn : 1 ≤ n) (h : ieq (rdE (rawX x n)) 0 = true) : ieq (rdE x) 0 = true ∧ (rawV x n).els.length = n.toNat := by
  have h1 : ilt n 1 = false := by simp [ilt]; omega
  unfold rawX at h
  unfold rawV
  cases h0 : ieq (rdE x) 0
  · rw [h0] at h
    exact absurd h (by rw [show (bif !false then x else _) = x from rfl, h0]; simp)
  · rw [h0] at h
    simp only [h1, Bool.not_true, cond_false] at h ⊢
    cases h2 : ilt ((rdL x).length : Nat) n
    · have h2 := not_ilt h2
      refine ⟨trivial, ?_⟩
      show (sub (rdL x) (0 : Nat) n).length = _
      unfold sub
      simp
      omega
    · rw [h2] at h
      exact absurd (show ieq 61 0 = true from h) (by decide)
/-! ### coin.RefRead -/
def rrE (x : V) : V := rawX (rawX x 32) (wiI 4)
def rrV (x : V) : V := bif !ieq (rdE (rrE x)) 0 then .l [.l (List.replicate 32 (.i 0)), .i 0] else .l [.l ((rawV x 32).els.take 32), .i (IntKind.wrap .u32 (numE (rawV (rawX x 32) (wiI 4)).els))]
def rrF (t ref : Nat) : FC := fun R xs k => match xs with
  | [x] => bif rdO x then k [.d t (rrE x), .d ref (rrV x)] else none
  | _ => none
theorem rrF_nat (t ref : Nat) : FC.nat (rrF t ref) := by
  intro R xs k
  unfold rrF
  split
  · rename_i x; cases rdO x <;> rfl
  · rfl
def rrG {R : Type} (t ref : Nat) (x : V) (k : List Rs → Option R) : Option R :=
  bif rdO x then bif rdO (rawX x 32) then
    bif !ieq (rdE (rawX (rawX x 32) (wiI 4))) 0 then k [.d t (rawX (rawX x 32) (wiI 4)), .d ref (.l [.l (List.replicate 32 (.i 0)), .i 0])] else
    bif Nat.ble 32 (rawV x 32).els.length then k [.d t (rawX (rawX x 32) (wiI 4)), .d ref (.l [.l ((rawV x 32).els.take 32), .i (IntKind.wrap .u32 (numE (rawV (rawX x 32) (wiI 4)).els))])] else none else none else none
theorem rr_law (t ref : Nat) {x : V} {rs : List Rs} (h : rrF t ref (List Rs) [x] some = some rs) : rrG t ref x some = some rs := by
  unfold rrF at h
  simp only at h
  cases ho : rdO x with
  | false => rw [ho] at h; cases h
  | true =>
  rw [ho] at h
  simp only [cond_true, Option.some.injEq] at h
  subst h
  unfold rrG rrE rrV rrE
  rw [ho, rawX_ok ho]
  cases h1 : ieq (rdE (rawX (rawX x 32) (wiI 4))) 0
  · simp only [Bool.not_false, cond_true]
  · have h2 := rawX_err (by decide) h1
    have h3 := rawX_err (by decide) h2.1
    rw [h3.2]
    simp only [Bool.not_true, cond_true, cond_false]
    rfl
end Go.Vm

namespace Go.Vm
open Go.RowKit
variable {P : Program} {T : TT}
set_option linter.unusedVariables false
set_option linter.constructorNameAsVariable false

/-! ### ledger.EntriesParse -/
def epH (y : V) : Int := IntKind.wrap .i64 (numE (rawV (txX y 200) (wiI 8)).els)
def epY (y : V) : V := rrE (rawX (txX y 200) (wiI 8))
def epV (nm : List V) (y : V) : V := .l [.s nm, .s (txV y 200).els, .i (epH y), rrV (rawX (txX y 200) (wiI 8))]
def epR {R : Type} (nm : List V) (y : V) (n : Int) (xs : List V) (K : V → V → Option R) (kr : V → Option R) : Option R :=
  bif rdO y then bif rdO (txX y 200) then bif rdO (rawX (txX y 200) (wiI 8)) then
    bif ilt (epH y) 0 then kr (epY y) else bif ilt 1000000000 (epH y) then kr (epY y) else lim (xs.length + 1) <| K (epY y) (epV nm y) else none else none else none
inductive PEp where
  | m0 (nm : List V) (y : V) (n : Int)
  | m1 (nm : List V) (y : V) (xs : List V) (n : Int)
inductive QEp where
  | o0 (nm : List V) (y : V) (n : Int)
  | o1 (nm : List V) (y : V) (xs : List V) (n : Int)
  | r0 (nm : List V) (y : V) (n : Int)
  | r1 (nm : List V) (y : V) (xs : List V) (n : Int)
def BEp (R : Type) (p : PEp) (K : PEp → Option R) (kx : QEp → Option R) : Option R :=
  match p with
  | .m0 nm y n =>
    bif ilt 0 n then bif ieq (rdE y) 0 then epR nm y n [] (fun y' e => K (.m1 nm y' [e] (WU (n - 1)))) (fun y' => kx (.r0 nm y' n)) else kx (.o0 nm y n) else kx (.o0 nm y n)
  | .m1 nm y xs n =>
    bif ilt 0 n then bif ieq (rdE y) 0 then epR nm y n xs (fun y' e => K (.m1 nm y' (xs ++ [e]) (WU (n - 1)))) (fun y' => kx (.r1 nm y' xs n)) else kx (.o1 nm y xs n) else kx (.o1 nm y xs n)
def epE {R : Type} (t er : Nat) (y : V) (v : V) (k : List Rs → Option R) : Option R :=
  bif !ieq (rdE y) 0 then k [.d t .n, .d er (.i 62)] else ln (rdL y).length <| bif ilt 0 ((rdL y).length : Nat) then k [.d t .n, .d er (.i 62)] else k [.d t v, .d er (.i 0)]
def epK {R : Type} (t er : Nat) (k : List Rs → Option R) : QEp → Option R
  | .o0 nm y n => epE t er y .n k
  | .o1 nm y xs n => epE t er y (.l xs) k
  | .r0 nm y n => k [.d t .n, .d er (.i 62)]
  | .r1 nm y xs n => k [.d t .n, .d er (.i 62)]
noncomputable def epB {R : Type} (t er : Nat) (nm : List V) (x : V) (k : List Rs → Option R) : Option R :=
  bif rdO x then lpC (BEp R) (hid FU) (.m0 nm (ctX x 100000) (ctV x 100000)) (epK t er k) else none
noncomputable def epG {R : Type} (bs : List V) (t er : Nat) (nm : List V) (k : List Rs → Option R) : Option R := lim (0 + bs.length) <| epB t er nm (.l [.l bs, .i 0]) k
noncomputable def epN {R : Type} (t er : Nat) (nm : List V) (k : List Rs → Option R) : Option R := epB t er nm (.l [.n, .i 0]) k

/-- So many entries at most, behind others: is one bad, what is left, all. -/
def epS (nm : List V) : Nat → V → List V → Bool × V × List V
  | 0, y, xs => (false, y, xs)
  | m + 1, y, xs => bif ieq (rdE y) 0 then bif ilt (epH y) 0 || ilt 1000000000 (epH y) then (true, epY y, xs) else epS nm m (epY y) (xs ++ [epV nm y]) else (false, y, xs)
def epOk (p : Bool × V × List V) : Bool := !p.1 && (ieq (rdE p.2.1) 0 && !ilt 0 ((rdL p.2.1).length : Nat))
def lV : List V → V
  | [] => .n
  | a :: r => .l (a :: r)
def epO (t er : Nat) (p : Bool × V × List V) : List Rs := [.d t (bif epOk p then lV p.2.2 else .n), .d er (.i (bif epOk p then 0 else 62))]
theorem lV_ne {xs : List V} (h : xs ≠ []) : lV xs = .l xs := by
  cases xs with
  | nil => exact absurd rfl h
  | cons a r => rfl
theorem txX_ok {x : V} {m : Int} (h : rdO x = true) : rdO (txX x m) = true := by
  have hr : ∀ p, rdO (txR x p) = true := by
    intro p
    have hl : (rdL x).length ≤ LIM := Nat.le_of_ble_eq_true h
    have := sub_len (rdL x) p.2.1 ((rdL x).length : Nat)
    exact Nat.ble_eq_true_of_le (n := (sub (rdL x) p.2.1 ((rdL x).length : Nat)).length) (Nat.le_trans this hl)
  unfold txX
  cases (!ieq (rdE x) 0)
  · cases (!ieq (txI x (txP x m)) 0)
    · exact rawX_ok (hr _)
    · exact h
  · exact h
theorem epY_ok {y : V} (h : rdO y = true) : rdO (epY y) = true := rawX_ok (rawX_ok (rawX_ok (txX_ok h)))
variable {R : Type}
theorem epE_law {t er : Nat} {y : V} {xs : List V} {k : List Rs → Option R} (h : rdO y = true) : epE t er y (lV xs) k = k (epO t er (false, y, xs)) := by
  have hl : (rdL y).length ≤ 1073741824 := Nat.le_of_ble_eq_true h
  unfold epE epO epOk
  rw [ln_in (by omega)]
  cases ieq (rdE y) 0
  · rfl
  · cases ilt 0 ((rdL y).length : Nat) <;> rfl
theorem ep_m1 {t er : Nat} {nm : List V} {k : List Rs → Option R} : ∀ (m fuel : Nat) (y : V) (xs : List V), m < fuel → m < 2 ^ 63 → rdO y = true → xs.length + m ≤ LIM → xs ≠ [] → lpC (BEp R) fuel (.m1 nm y xs (m : Int)) (epK t er k) = k (epO t er (epS nm m y xs)) := by
  intro m
  induction m with
  | zero =>
    intro fuel y xs h1 h2 h3 h4 h5
    obtain ⟨f, rfl⟩ : ∃ f, fuel = f + 1 := ⟨fuel - 1, by omega⟩
    show epE t er y (.l xs) k = _
    rw [← lV_ne h5]
    exact epE_law h3
  | succ m ih =>
    intro fuel y xs h1 h2 h3 h4 h5
    obtain ⟨f, rfl⟩ : ∃ f, fuel = f + 1 := ⟨fuel - 1, by omega⟩
    show (bif ilt 0 ((m + 1 : Nat) : Int) then bif ieq (rdE y) 0 then epR nm y ((m + 1 : Nat) : Int) xs (fun y' e => lpC (BEp R) f (.m1 nm y' (xs ++ [e]) (WU (((m + 1 : Nat) : Int) - 1))) (epK t er k)) (fun y' => epK t er k (.r1 nm y' xs ((m + 1 : Nat) : Int))) else epE t er y (.l xs) k else epE t er y (.l xs) k) = _
    have h0 : ilt 0 ((m + 1 : Nat) : Int) = true := ilt_iff.2 (by omega)
    rw [h0]
    unfold epS
    cases h6 : ieq (rdE y) 0
    · simp only [cond_true, cond_false]
      rw [← lV_ne h5]
      exact epE_law h3
    · simp only [cond_true]
      unfold epR
      rw [h3, txX_ok h3, rawX_ok (txX_ok h3)]
      simp only [cond_true]
      cases h7 : ilt (epH y) 0
      · cases h8 : ilt 1000000000 (epH y)
        · have hl : xs.length + (m + 1) ≤ 1073741824 := h4
          simp only [cond_false, Bool.or_false]
          rw [lim_in (by omega)]
          have hw : WU (((m + 1 : Nat) : Int) - 1) = (m : Int) := by
            rw [show (((m + 1 : Nat) : Int) - 1) = ((m : Nat) : Int) by omega]
            exact wu64_lt (by omega)
          rw [hw]
          exact ih f (epY y) (xs ++ [epV nm y]) (by omega) (by omega) (epY_ok h3) (by rw [List.length_append]; show xs.length + 1 + m ≤ 1073741824; omega) (by simp)
        · rfl
      · rfl
theorem ep_m0 {t er : Nat} {nm : List V} {k : List Rs → Option R} (m fuel : Nat) (y : V) (h1 : m < fuel) (h2 : m < 2 ^ 63) (h3 : rdO y = true) (h4 : m ≤ LIM) : lpC (BEp R) fuel (.m0 nm y (m : Int)) (epK t er k) = k (epO t er (epS nm m y [])) := by
  obtain ⟨f, rfl⟩ : ∃ f, fuel = f + 1 := ⟨fuel - 1, by omega⟩
  cases m with
  | zero =>
    show epE t er y (lV []) k = _
    exact epE_law h3
  | succ m =>
    show (bif ilt 0 ((m + 1 : Nat) : Int) then bif ieq (rdE y) 0 then epR nm y ((m + 1 : Nat) : Int) [] (fun y' e => lpC (BEp R) f (.m1 nm y' [e] (WU (((m + 1 : Nat) : Int) - 1))) (epK t er k)) (fun y' => epK t er k (.r0 nm y' ((m + 1 : Nat) : Int))) else epE t er y (lV []) k else epE t er y (lV []) k) = _
    have h0 : ilt 0 ((m + 1 : Nat) : Int) = true := ilt_iff.2 (by omega)
    rw [h0]
    unfold epS
    cases h6 : ieq (rdE y) 0
    · simp only [cond_true, cond_false]
      exact epE_law h3
    · simp only [cond_true]
      unfold epR
      rw [h3, txX_ok h3, rawX_ok (txX_ok h3)]
      simp only [cond_true]
      cases h7 : ilt (epH y) 0
      · cases h8 : ilt 1000000000 (epH y)
        · have hl : m + 1 ≤ 1073741824 := h4
          simp only [cond_false, Bool.or_false]
          rw [lim_in (by simp)]
          have hw : WU (((m + 1 : Nat) : Int) - 1) = (m : Int) := by
            rw [show (((m + 1 : Nat) : Int) - 1) = ((m : Nat) : Int) by omega]
            exact wu64_lt (by omega)
          rw [hw]
          exact ep_m1 m f (epY y) [epV nm y] (by omega) (by omega) (epY_ok h3) (by show 1 + m ≤ 1073741824; omega) (by simp)
        · rfl
      · rfl
theorem wrap_u64 (n : Int) : 0 ≤ IntKind.wrap .u64 n := by
  unfold IntKind.wrap
  simp [IntKind.bits, IntKind.signed]
  omega
theorem numE_nn (l : List V) : 0 ≤ numE l := by
  cases l with
  | nil => exact Int.le_refl 0
  | cons a r => exact wrap_u64 _
theorem pkA_in {x : V} {most n u : Int} (hm : 0 ≤ most) (hn : 0 ≤ n) : 0 ≤ (pkA x most n u).1 ∧ (pkA x most n u).1 ≤ most := by
  unfold pkA
  cases (!ieq ((cntL n).length : Nat) u)
  · cases h : ilt most n
    · have := not_ilt h
      simp only [cond_false]; omega
    · simp only [cond_true, cond_false]; omega
  · simp only [cond_true]; omega
theorem pkX_in {x : V} {most : Int} (hm : 0 ≤ most) : 0 ≤ (pkX x most).1 ∧ (pkX x most).1 ≤ most := by
  have hb : ∀ u, 0 ≤ (pkB x most u).1 ∧ (pkB x most u).1 ≤ most := by
    intro u
    unfold pkB
    cases ilt ((rdL x).length : Nat) u
    · exact pkA_in (x := x) hm (numE_nn _)
    · simp only [cond_true]; omega
  unfold pkX
  cases ieq ((rdL x).length : Nat) 0
  · cases ieq (hdI x) 253
    · cases ieq (hdI x) 254
      · cases ieq (hdI x) 255
        · cases ilt ((rdL x).length : Nat) 1
          · exact pkA_in (x := x) hm (wrap_u64 _)
          · simp only [cond_true, cond_false]; omega
        · exact hb 9
      · exact hb 5
    · exact hb 3
  · simp only [cond_true]; omega
theorem ctV_in {x : V} {most : Int} (hm : 0 ≤ most) : 0 ≤ ctV x most ∧ ctV x most ≤ most := by
  unfold ctV
  cases (!ieq (rdE x) 0)
  · exact pkX_in hm
  · simp only [cond_true]; omega
theorem ctX_ok {x : V} {m : Int} (h : rdO x = true) : rdO (ctX x m) = true := by
  unfold ctX
  cases (!ieq (rdE x) 0)
  · cases ctX.isN x
    · have hl : (rdL x).length ≤ LIM := Nat.le_of_ble_eq_true h
      have := sub_len (rdL x) (pkX x m).2.1 ((rdL x).length : Nat)
      exact Nat.ble_eq_true_of_le (n := (sub (rdL x) (pkX x m).2.1 ((rdL x).length : Nat)).length) (Nat.le_trans this hl)
    · rfl
  · exact h
/-- All of it: the entries of bytes. -/
def epX (nm : List V) (b : V) : Bool × V × List V := epS nm (ctV (.l [b, .i 0]) 100000).toNat (ctX (.l [b, .i 0]) 100000) []
def epF (t er : Nat) : FC := fun R xs k => match xs with
  | [nm, b] => bif Nat.ble b.els.length LIM then k (epO t er (epX nm.els b)) else none
  | _ => none
theorem epF_nat (t er : Nat) : FC.nat (epF t er) := by
  intro R xs k
  unfold epF
  split
  · rename_i nm b; cases Nat.ble b.els.length LIM <;> rfl
  · rfl
theorem epB_law {t er : Nat} {nm : List V} {b : V} {k : List Rs → Option R} (h : Nat.ble b.els.length LIM = true) : epB t er nm (.l [b, .i 0]) k = k (epO t er (epX nm b)) := by
  have ho : rdO (.l [b, .i 0]) = true := h
  have hv := ctV_in (x := .l [b, .i 0]) (most := 100000) (by omega)
  obtain ⟨m, hm⟩ : ∃ m : Nat, ctV (.l [b, .i 0]) 100000 = (m : Int) := ⟨(ctV (.l [b, .i 0]) 100000).toNat, by omega⟩
  unfold epB epX
  rw [ho, hm]
  simp only [cond_true, Int.toNat_natCast]
  have hf := fq_le2
  exact ep_m0 m _ _ (by omega) (by omega) (ctX_ok ho) (by show m ≤ 1073741824; omega)
where fq_le2 : 200000 ≤ hid FU := by rw [hid_eq]; decide
end Go.Vm

namespace Go.Vm
open Go.RowKit
variable {P : Program} {T : TT} {R : Type}
set_option linter.unusedVariables false
set_option linter.constructorNameAsVariable false

/-- A text. -/
theorem tv_str {t : Nat} {x : V} {e : Env} {cs : List Value} (ht : kOf T t = some .str) (h : RV T e [t] [x] cs) : ∃ l, x = .s l := by
  cases h with
  | str g1 => exact ⟨_, rfl⟩
  | int g1 => rw [ht] at g1; cases g1
  | bool g1 => rw [ht] at g1; cases g1
  | ptr g1 => rw [ht] at g1; cases g1
  | nils g1 => rw [ht] at g1; cases g1
  | map g1 => rw [ht] at g1; cases g1
  | func g1 => rw [ht] at g1; cases g1
  | fn g1 => rw [ht] at g1; cases g1
  | slice g1 => rw [ht] at g1; cases g1
  | arr g1 => rw [ht] at g1; cases g1
  | struct g1 => rw [ht] at g1; cases g1
/-- The same, its answers apart. -/
def epF2 (t er : Nat) : FC := fun R xs k => match xs with
  | [nm, b] => bif Nat.ble b.els.length LIM then
      (bif epOk (epX nm.els b) then (match (epX nm.els b).2.2.isEmpty with
        | true => k [.d t .n, .d er (.i 0)]
        | false => k [.d t (.l (epX nm.els b).2.2), .d er (.i 0)]) else k [.d t .n, .d er (.i 62)]) else none
  | _ => none
theorem epF2_nat (t er : Nat) : FC.nat (epF2 t er) := by
  intro R xs k
  unfold epF2
  split
  · rename_i nm b
    cases Nat.ble b.els.length LIM
    · rfl
    · simp only [cond_true]
      cases epOk (epX nm.els b)
      · rfl
      · simp only [cond_true]
        cases (epX nm.els b).2.2.isEmpty <;> rfl
  · rfl
theorem epF2_at {t er : Nat} {xs : List V} {rs : List Rs} (h : epF2 t er (List Rs) xs some = some rs) : epF t er (List Rs) xs some = some rs := by
  unfold epF2 at h
  unfold epF
  split at h
  · rename_i nm b
    try simp only
    cases ho : Nat.ble b.els.length LIM with
    | false => rw [ho] at h; cases h
    | true =>
      rw [ho] at h
      simp only [cond_true] at h ⊢
      unfold epO
      cases hp : epOk (epX nm.els b) with
      | false => rw [hp] at h; exact h
      | true =>
        rw [hp] at h
        simp only [cond_true] at h ⊢
        cases hq : (epX nm.els b).2.2 with
        | nil => rw [hq] at h; exact h
        | cons y r => rw [hq] at h; exact h
  · cases h
theorem ep_law {t er : Nat} {nm bs : List V} {rs : List Rs} (h : epF t er (List Rs) [.s nm, .l bs] some = some rs) : epG bs t er nm some = some rs := by
  unfold epF at h
  simp only at h
  cases ho : Nat.ble (V.l bs).els.length LIM with
  | false => rw [ho] at h; cases h
  | true =>
  rw [ho] at h
  have hl : bs.length ≤ 1073741824 := Nat.le_of_ble_eq_true ho
  unfold epG
  rw [lim_in (by omega), epB_law ho]
  exact h
theorem ep_lawN {t er : Nat} {nm : List V} {rs : List Rs} (h : epF t er (List Rs) [.s nm, .n] some = some rs) : epN t er nm some = some rs := by
  unfold epF at h
  simp only at h
  have ho : Nat.ble (V.n).els.length LIM = true := rfl
  rw [ho] at h
  unfold epN
  rw [epB_law ho]
  exact h
end Go.Vm

namespace Go.Vm
open Go.RowKit
variable {P : Program} {T : TT} {R : Type}
set_option linter.unusedVariables false
set_option linter.constructorNameAsVariable false

/-! ### Numbers and texts put behind bytes -/
def pFix {R : Type} : Nat → Int → List V → (List V → Option R) → Option R
  | 0, n, xs, k => k xs
  | m + 1, n, xs, k => lim (xs.length + 1) <| pFix m (n.fdiv (2 ^ 8)) (xs ++ [.i (IntKind.wrap .u8 n)]) k
theorem pFix_law : ∀ (m : Nat) (n : Int) (xs : List V) (k : List V → Option R), xs.length + m ≤ LIM → pFix m n xs k = k (xs ++ leV m n) := by
  intro m
  induction m with
  | zero => intro n xs k h; simp [pFix, leV]
  | succ m ih =>
    intro n xs k h
    have h : xs.length + (m + 1) ≤ 1073741824 := h
    unfold pFix leV
    rw [lim_in (by omega), ih _ _ _ (by rw [List.length_append]; show xs.length + 1 + m ≤ 1073741824; omega)]
    simp
end Go.Vm

namespace Go.Vm
open Go.RowKit
variable {P : Program} {T : TT} {R : Type}
set_option linter.unusedVariables false
set_option linter.constructorNameAsVariable false

/-! ### What data of a type look like -/
inductive D where
  | int (k : IntKind) | bool | str | slice (d : D) | arr (n : Nat) (d : D) | struct (ds : List D)
mutual
def D.has : D → V → Prop
  | .int k, x => ∃ n, x = .i n ∧ inR k n
  | .bool, x => ∃ b, x = .b b
  | .str, x => ∃ ns : List Nat, x = .s (ns.map nv) ∧ ∀ a ∈ ns, a < 256
  | .slice d, x => x = .n ∨ ∃ ys, x = .l ys ∧ ∀ y ∈ ys, D.has d y
  | .arr n d, x => ∃ ys, x = .l ys ∧ ys.length = n ∧ ∀ y ∈ ys, D.has d y
  | .struct ds, x => ∃ ys, x = .l ys ∧ D.hasL ds ys
def D.hasL : List D → List V → Prop
  | [], [] => True
  | d :: ds, x :: xs => D.has d x ∧ D.hasL ds xs
  | _, _ => False
end
mutual
def descT (T : TT) : Nat → Nat → Option D
  | 0, _ => none
  | n + 1, t => match kOf T t with
    | some (.int k) => some (.int k)
    | some .bool => some .bool
    | some .str => some .str
    | some (.slice el) => match descT T n el with
      | some d => some (.slice d)
      | none => none
    | some (.arr m el) => match descT T n el with
      | some d => some (.arr m d)
      | none => none
    | some (.struct fs) => match descL T n fs with
      | some ds => some (.struct ds)
      | none => none
    | _ => none
def descL (T : TT) : Nat → List Nat → Option (List D)
  | _, [] => some []
  | 0, _ :: _ => none
  | n + 1, t :: ts => match descT T n t with
    | some d => match descL T n ts with
      | some ds => some (d :: ds)
      | none => none
    | none => none
end
theorem rv_cons {e : Env} {t : Nat} {ts : List Nat} {xs : List V} {cs : List Value} (h : RV T e (t :: ts) xs cs) : ∃ x r c1 c2, xs = x :: r ∧ RV T e [t] [x] c1 ∧ RV T e ts r c2 := by
  obtain ⟨as, bs, c1, c2, rfl, rfl, h1, h2⟩ := RV.split [t] (ts' := ts) h
  obtain ⟨a, rfl⟩ := List.length_eq_one_iff.1 h1.length.2
  exact ⟨a, bs, c1, c2, rfl, h1, h2⟩
theorem rv_rep {e : Env} {el : Nat} {p : V → Prop} (hp : ∀ x cs, RV T e [el] [x] cs → p x) : ∀ {n : Nat} {xs : List V} {cs : List Value}, RV T e (List.replicate n el) xs cs → ∀ x ∈ xs, p x := by
  intro n
  induction n with
  | zero => intro xs cs h x hx; cases h; cases hx
  | succ n ih =>
    intro xs cs h x hx
    rw [List.replicate_succ] at h
    obtain ⟨y, r, c1, c2, rfl, h1, h2⟩ := rv_cons h
    rcases List.mem_cons.1 hx with rfl | hx
    · exact hp _ _ h1
    · exact ih h2 x hx
theorem desc_has : ∀ (n : Nat) {e : Env}, (∀ (t : Nat) (d : D), descT T n t = some d → ∀ x cs, RV T e [t] [x] cs → d.has x) ∧ (∀ (ts : List Nat) (ds : List D), descL T n ts = some ds → ∀ xs cs, RV T e ts xs cs → D.hasL ds xs) := by
  intro n
  induction n with
  | zero =>
    intro e
    refine ⟨fun t d h => (by rw [descT] at h; cases h), fun ts ds h xs cs hx => ?_⟩
    cases ts with
    | nil => rw [descL] at h; cases h; cases hx; trivial
    | cons t ts => rw [descL] at h; cases h
  | succ n ih =>
    intro e
    refine ⟨fun t d h x cs hx => ?_, fun ts ds h xs cs hx => ?_⟩
    · rw [descT] at h
      split at h
      · rename_i k hk; cases h; obtain ⟨m, rfl, _, hr⟩ := hx.int_inv hk; exact ⟨m, rfl, hr⟩
      · rename_i hk; cases h
        cases hx with
        | bool _ _ _ => exact ⟨_, rfl⟩
        | int g1 => rw [hk] at g1; cases g1
        | str g1 => rw [hk] at g1; cases g1
        | ptr g1 => rw [hk] at g1; cases g1
        | nils g1 => rw [hk] at g1; cases g1
        | map g1 => rw [hk] at g1; cases g1
        | func g1 => rw [hk] at g1; cases g1
        | fn g1 => rw [hk] at g1; cases g1
        | slice g1 => rw [hk] at g1; cases g1
        | arr g1 => rw [hk] at g1; cases g1
        | struct g1 => rw [hk] at g1; cases g1
      · rename_i hk; cases h
        cases hx with
        | @str _ s _ _ _ _ _ _ =>
          refine ⟨s.data.toList.map fun b => b.toNat, ?_, fun a ha => ?_⟩
          · unfold txt; rw [List.map_map]; rfl
          · obtain ⟨b, _, rfl⟩ := List.mem_map.1 ha; exact b.toNat_lt
        | int g1 => rw [hk] at g1; cases g1
        | bool g1 => rw [hk] at g1; cases g1
        | ptr g1 => rw [hk] at g1; cases g1
        | nils g1 => rw [hk] at g1; cases g1
        | map g1 => rw [hk] at g1; cases g1
        | func g1 => rw [hk] at g1; cases g1
        | fn g1 => rw [hk] at g1; cases g1
        | slice g1 => rw [hk] at g1; cases g1
        | arr g1 => rw [hk] at g1; cases g1
        | struct g1 => rw [hk] at g1; cases g1
      · rename_i el hk
        split at h <;> cases h
        rename_i d hd
        rcases hx.slice_inv hk with ⟨rfl, _⟩ | ⟨ys, ds, a, cap, rfl, _, _, _, g⟩
        · exact .inl rfl
        · exact .inr ⟨ys, rfl, rv_rep (fun x cs hx => (ih (e := e)).1 el d hd x cs hx) g⟩
      · rename_i m el hk
        split at h <;> cases h
        rename_i d hd
        obtain ⟨ys, rfl, hl, g⟩ := hx.arr_inv hk
        exact ⟨ys, rfl, hl, rv_rep (fun x cs hx => (ih (e := e)).1 el d hd x cs hx) g⟩
      · rename_i fs hk
        split at h <;> cases h
        rename_i ds hd
        obtain ⟨ys, rfl, g⟩ := hx.struct_inv hk
        exact ⟨ys, rfl, (ih (e := e)).2 fs ds hd _ _ g⟩
      · cases h
    · cases ts with
      | nil => rw [descL] at h; cases h; cases hx; trivial
      | cons t ts =>
        rw [descL] at h
        split at h <;> try (cases h; done)
        rename_i d hd
        split at h <;> cases h
        rename_i ds hds
        obtain ⟨x, r, c1, c2, rfl, h1, h2⟩ := rv_cons hx
        exact ⟨(ih (e := e)).1 t d hd _ _ h1, (ih (e := e)).2 ts ds hds _ _ h2⟩
theorem TV.has : ∀ {ts : List Nat} {xs : List V} (n : Nat) {ds : List D}, TV T ts xs → descL T n ts = some ds → D.hasL ds xs := by
  intro ts
  induction ts with
  | nil =>
    intro xs n ds h hd
    have := h.len
    cases xs with
    | nil => cases n <;> (rw [descL] at hd; cases hd; trivial)
    | cons _ _ => cases this
  | cons t ts ih =>
    intro xs n ds h hd
    cases n with
    | zero => rw [descL] at hd; cases hd
    | succ n =>
      rw [descL] at hd
      split at hd <;> try (cases hd; done)
      rename_i d hd1
      split at hd <;> cases hd
      rename_i ds hd2
      cases xs with
      | nil => have := h.len; cases this
      | cons x xs =>
        obtain ⟨e, cs, hx⟩ := h.head
        exact ⟨(desc_has n).1 t d hd1 x cs hx, ih n h.tail hd2⟩
theorem hasL1 {d0 : D} {xs : List V} (h : D.hasL [d0] xs) : ∃ a, xs = [a] ∧ d0.has a := by
  cases xs with
  | nil => exact (h).elim
  | cons x0 r0 =>
  cases r0 with
  | cons _ _ => exact (h.2).elim
  | nil => exact ⟨x0, rfl, h.1⟩
theorem hasL2 {d0 d1 : D} {xs : List V} (h : D.hasL [d0, d1] xs) : ∃ a b, xs = [a, b] ∧ d0.has a ∧ d1.has b := by
  cases xs with
  | nil => exact (h).elim
  | cons x0 r0 =>
  cases r0 with
  | nil => exact (h.2).elim
  | cons x1 r1 =>
  cases r1 with
  | cons _ _ => exact (h.2.2).elim
  | nil => exact ⟨x0, x1, rfl, h.1, h.2.1⟩
theorem hasL3 {d0 d1 d2 : D} {xs : List V} (h : D.hasL [d0, d1, d2] xs) : ∃ a b c, xs = [a, b, c] ∧ d0.has a ∧ d1.has b ∧ d2.has c := by
  cases xs with
  | nil => exact (h).elim
  | cons x0 r0 =>
  cases r0 with
  | nil => exact (h.2).elim
  | cons x1 r1 =>
  cases r1 with
  | nil => exact (h.2.2).elim
  | cons x2 r2 =>
  cases r2 with
  | cons _ _ => exact (h.2.2.2).elim
  | nil => exact ⟨x0, x1, x2, rfl, h.1, h.2.1, h.2.2.1⟩
theorem hasL4 {d0 d1 d2 d3 : D} {xs : List V} (h : D.hasL [d0, d1, d2, d3] xs) : ∃ a b c d, xs = [a, b, c, d] ∧ d0.has a ∧ d1.has b ∧ d2.has c ∧ d3.has d := by
  cases xs with
  | nil => exact (h).elim
  | cons x0 r0 =>
  cases r0 with
  | nil => exact (h.2).elim
  | cons x1 r1 =>
  cases r1 with
  | nil => exact (h.2.2).elim
  | cons x2 r2 =>
  cases r2 with
  | nil => exact (h.2.2.2).elim
  | cons x3 r3 =>
  cases r3 with
  | cons _ _ => exact (h.2.2.2.2).elim
  | nil => exact ⟨x0, x1, x2, x3, rfl, h.1, h.2.1, h.2.2.1, h.2.2.2.1⟩
theorem hasL5 {d0 d1 d2 d3 d4 : D} {xs : List V} (h : D.hasL [d0, d1, d2, d3, d4] xs) : ∃ a b c d e, xs = [a, b, c, d, e] ∧ d0.has a ∧ d1.has b ∧ d2.has c ∧ d3.has d ∧ d4.has e := by
  cases xs with
  | nil => exact (h).elim
  | cons x0 r0 =>
  cases r0 with
  | nil => exact (h.2).elim
  | cons x1 r1 =>
  cases r1 with
  | nil => exact (h.2.2).elim
  | cons x2 r2 =>
  cases r2 with
  | nil => exact (h.2.2.2).elim
  | cons x3 r3 =>
  cases r3 with
  | nil => exact (h.2.2.2.2).elim
  | cons x4 r4 =>
  cases r4 with
  | cons _ _ => exact (h.2.2.2.2.2).elim
  | nil => exact ⟨x0, x1, x2, x3, x4, rfl, h.1, h.2.1, h.2.2.1, h.2.2.2.1, h.2.2.2.2.1⟩
theorem hasL6 {d0 d1 d2 d3 d4 d5 : D} {xs : List V} (h : D.hasL [d0, d1, d2, d3, d4, d5] xs) : ∃ a b c d e f, xs = [a, b, c, d, e, f] ∧ d0.has a ∧ d1.has b ∧ d2.has c ∧ d3.has d ∧ d4.has e ∧ d5.has f := by
  cases xs with
  | nil => exact (h).elim
  | cons x0 r0 =>
  cases r0 with
  | nil => exact (h.2).elim
  | cons x1 r1 =>
  cases r1 with
  | nil => exact (h.2.2).elim
  | cons x2 r2 =>
  cases r2 with
  | nil => exact (h.2.2.2).elim
  | cons x3 r3 =>
  cases r3 with
  | nil => exact (h.2.2.2.2).elim
  | cons x4 r4 =>
  cases r4 with
  | nil => exact (h.2.2.2.2.2).elim
  | cons x5 r5 =>
  cases r5 with
  | cons _ _ => exact (h.2.2.2.2.2.2).elim
  | nil => exact ⟨x0, x1, x2, x3, x4, x5, rfl, h.1, h.2.1, h.2.2.1, h.2.2.2.1, h.2.2.2.2.1, h.2.2.2.2.2.1⟩
/-- Bytes. -/
theorem u8s {ys : List V} (h : ∀ y ∈ ys, (D.int .u8).has y) : ∃ ns : List Nat, ys = ns.map nv ∧ ∀ a ∈ ns, a < 256 := by
  induction ys with
  | nil => exact ⟨[], rfl, fun a ha => by cases ha⟩
  | cons y ys ih =>
    obtain ⟨ns, rfl, hn⟩ := ih (fun z hz => h z (List.mem_cons_of_mem _ hz))
    obtain ⟨m, rfl, h1, h2⟩ := h y (List.mem_cons_self ..)
    simp only [lo, hi] at h1 h2
    refine ⟨m.toNat :: ns, ?_, fun a ha => ?_⟩
    · simp only [List.map_cons, nv]; rw [show ((m.toNat : Nat) : Int) = m by omega]
    · rcases List.mem_cons.1 ha with rfl | ha
      · omega
      · exact hn a ha
/-! ### Contracts: where they hold, what they answer -/
def gF (g : List V → Bool) (r : List V → List Rs) : FC := fun R xs k => bif g xs then k (r xs) else none
theorem gF_nat (g : List V → Bool) (r : List V → List Rs) : FC.nat (gF g r) := by
  intro R xs k
  unfold gF
  cases g xs <;> rfl
theorem gF_at {g : List V → Bool} {r : List V → List Rs} {xs : List V} {rs : List Rs} (h : gF g r (List Rs) xs some = some rs) : g xs = true ∧ rs = r xs := by
  unfold gF at h
  cases hg : g xs with
  | false => rw [hg] at h; cases h
  | true => rw [hg] at h; simp only [cond_true, Option.some.injEq] at h; exact ⟨rfl, h.symm⟩
theorem pure_conG (hm : P.follows .mixedOrders = true) (hT : TOK T P) {tab : List (Nat × SymC)} (h : TabOK P T tab) {f d fu : Nat} {Lo : Nat → LC} {sh : Bool} {ts : List Nat} {rk : List RK} {g : List V → Bool} {r : List V → List Rs} (hts : ts.all (fun t => (T t).isSome) = true)
    (hL : LoopsC P T f Lo) (n : Nat) {ds : List D} (hd : descL T n ts = some ds)
    (hF : ∀ xs, D.hasL ds xs → g xs = true → runFC P T (runAC P T tab false fu d) Lo false fu f (List Rs) (mkAs T ts xs) (fun _ => none) 0 (fun out => resC T sh rk out) = some (r xs)) :
    TabOK P T ((f, pureS T sh ts (gF g r)) :: tab) :=
  pure_con hm hT h (gF_nat g r) hts hL fun xs rs htv hrs => by
    obtain ⟨h1, rfl⟩ := gF_at hrs
    exact hF xs (htv.has n hd) h1
/-- A method on a box of data: what it leaves there, what it answers. -/
def gM (t : Nat) (g : List V → Bool) (y : List V → V) (r : List V → List Rs) : FC := gF g fun xs => .d t (y xs) :: r xs
theorem pureM_conG (hm : P.follows .mixedOrders = true) (hT : TOK T P) {tab : List (Nat × SymC)} (h : TabOK P T tab) {f d fu : Nat} {Lo : Nat → LC} {t : Nat} {ts : List Nat} {rk : List RK} {g : List V → Bool} {y : List V → V} {r : List V → List Rs} (hts : ts.all (fun t => (T t).isSome) = true) (hag : aggT T t = true)
    (hL : LoopsC P T f Lo) (n : Nat) {ds : List D} (hd : descL T n (t :: ts) = some ds)
    (hF : ∀ x xs, D.hasL ds (x :: xs) → g (x :: xs) = true → runFC P T (runAC P T tab false fu d) Lo false fu f (List Rs) (.p 0 t [] :: mkAs T ts xs) (box0 t x) 1 (fun out => resM T t x rk out) = some (.d t (y (x :: xs)) :: r (x :: xs))) :
    TabOK P T ((f, pureM T t ts (gM t g y r)) :: tab) :=
  pureM_con hm hT h (gF_nat _ _) hts hag hL fun x xs rs htv hrs => by
    obtain ⟨h1, rfl⟩ := gF_at hrs
    exact hF x xs (htv.has n hd) h1
end Go.Vm
end
