/- What the steps of a program do, shown once for all programs; and numbers. -/
import Derived.Test.YtbpjohmegacdhaaEng3
import Derived.KernelRfl
import Derived.LoopN
import Derived.Laws.Externs
import Derived.IntWalk
namespace Go.Eng
open Go.RowKit
variable {P : Program} {T : TT} {c : Ctx} {e eb : Env} {of : Nat → Option Obj}

/-! ### What a function gives back -/
def oneRes (T : TT) (σ : St) : ResultVar → Option (AV × Prop)
  | .tmp t => match getS σ.sl t with
    | .tu _ => none
    | v => some (v, True)
  | .cell a t => match T t with
    | some te => match getS σ.sl a with
      | .pt id off => match loadAV te (ofL σ.ob) (.pt id off) with
        | some out => match out.val with
          | .tu _ => none
          | v => some (v, out.pre)
        | none => none
      | _ => none
    | none => none
def manyRes (T : TT) (σ : St) : List ResultVar → Option (List AV × Prop)
  | [] => some ([], True)
  | r :: rs => match oneRes T σ r, manyRes T σ rs with
    | some (v, p), some (l, q) => some (v :: l, p ∧ q)
    | _, _ => none
def resAV (T : TT) (σ : St) (rs : List ResultVar) : Option (AV × Prop) :=
  match manyRes T σ rs with
  | some ([v], p) => some (v, p)
  | some (l, p) => some (.tu l, p)
  | none => none
def getRes (tmps : Array Value) : ResultVar → Sem Value
  | .tmp t => pure (tmps.getD t undef)
  | .cell a t => do loadVar t (← asAddr (tmps.getD a undef))
theorem results_eq (fn : Func) (tmps : Array Value) : results fn tmps = (do let vs ← fn.results.mapM (getRes tmps); pure (if h : vs.size = 1 then vs[0] else .tuple vs)) := by
  unfold results
  congr 2
theorem run_load_cells {t : Nat} {te : TE} (ht : TEok P t te) {a : Addr} {l : List AV} {ys : List Value} {v : AV} (hr : RepL e l ys) (hw : wid l = te.size) (hv : value te.k.agg l = some v)
    (hc : ∀ j y, ys[j]? = some y → e.w.cell? (a.add j) = some y) : ∃ x, (loadVar t a).run P e.w = .ok x e.w ∧ Rep e v x := by
  have hlen := hr.length
  have hrun := run_loadVar (P := P) ht (w := e.w) (a := a) (ys := ys) (by omega) hc
  rcases value_spec hr hv with ⟨ha, hx⟩ | ⟨ha, x, rfl, hx⟩
  · exact ⟨_, by rw [hrun, ha]; rfl, hx⟩
  · refine ⟨x, ?_, hx⟩
    have := hc 0 x (by simp)
    have e0 : a.add 0 = a := by unfold Addr.add; simp
    rw [e0] at this
    rw [hrun, ha]
    simp [load, Sem.run, this]
theorem run_load_pt {t : Nat} {te : TE} (h : OSim c e of) (ht : TEok P t te) {id off b o : Nat} {v : AV} {out : Out} (hι : e.ι id = some (b, o)) (hr : loadAV te of (.pt id off) = some out) (hv : out.val = v) :
    ∃ x, (loadVar t ⟨b, o + off, none⟩).run P e.w = .ok x e.w ∧ Rep e v x := by
  simp only [loadAV] at hr
  split at hr <;> try (cases hr; done)
  rename_i l sh ho
  split at hr <;> try (cases hr; done)
  rename_i m hd
  split at hr <;> try (cases hr; done)
  rename_i q hk
  obtain ⟨v', hv', rfl⟩ := Option.map_eq_some_iff.1 hr
  have hvv : v' = v := hv
  subst hvv
  obtain ⟨b', cs, ty, fz, h1, h2, h3, h4, h5⟩ := box_cells h ho
  rw [h1] at hι; cases hι
  obtain ⟨_, _, hwq⟩ := takeW_spec _ _ _ hk
  have hq := (h4.drop hd).take hk
  refine run_load_cells ht hq hwq hv' (fun j y hj => ?_)
  rw [add_none, Nat.zero_add, cell_heap h2, ← hj]
  have hj' : j < te.size := by
    have h6 : j < (List.take te.size (List.drop off cs.toList)).length := (List.getElem?_eq_some_iff.1 hj).1
    rw [List.length_take] at h6; omega
  rw [List.getElem?_take_of_lt hj', List.getElem?_drop]
theorem oneRes_ok (hT : T.OK P) {U : Nat → Prop} {nt : Nat} {σ : St} {a : Act} (h : Stands c eb (getS σ.sl) (ofL σ.ob) U nt a e) {r : ResultVar} {v : AV} {p : Prop} (hr : oneRes T σ r = some (v, p)) :
    ∃ x, (getRes a.tmps r).run P e.w = .ok x e.w ∧ Rep e v x ∧ ∀ l, v ≠ .tu l := by
  cases r with
  | tmp t =>
    simp only [oneRes] at hr
    split at hr <;> try (cases hr; done)
    rename_i hne
    simp only [Option.some.injEq, Prod.mk.injEq] at hr
    obtain ⟨rfl, -⟩ := hr
    exact ⟨_, rfl, h.sl t, hne⟩
  | cell ad t =>
    simp only [oneRes] at hr
    split at hr <;> try (cases hr; done)
    rename_i te ht
    split at hr <;> try (cases hr; done)
    rename_i id off hsl
    split at hr <;> try (cases hr; done)
    rename_i out hout
    split at hr <;> try (cases hr; done)
    rename_i hne
    simp only [Option.some.injEq, Prod.mk.injEq] at hr
    obtain ⟨rfl, -⟩ := hr
    have hx := h.sl ad
    rw [hsl] at hx
    generalize hz : a.tmps.getD ad undef = z at hx
    cases hx with | @pt _ _ _ _ b o u0 u1 u2 _ =>
    obtain ⟨x, h1, h2⟩ := run_load_pt (P := P) h.os (hT _ _ ht) u2 hout rfl
    exact ⟨x, by simp only [getRes, hz, asAddr]; exact h1, h2, hne⟩
theorem manyRes_ok (hT : T.OK P) {U : Nat → Prop} {nt : Nat} {σ : St} {a : Act} (h : Stands c eb (getS σ.sl) (ofL σ.ob) U nt a e) : ∀ (rs : List ResultVar) (l : List AV) (p : Prop), manyRes T σ rs = some (l, p) →
    ∃ xs, (rs.mapM (getRes a.tmps)).run P e.w = .ok xs e.w ∧ Reps e l xs ∧ ∀ v ∈ l, ∀ m, v ≠ .tu m := by
  intro rs
  induction rs with
  | nil =>
    intro l p hr
    simp only [manyRes, Option.some.injEq, Prod.mk.injEq] at hr
    obtain ⟨rfl, -⟩ := hr
    exact ⟨[], by simp, .nil, fun v hv => by cases hv⟩
  | cons r rs ih =>
    intro l p hr
    simp only [manyRes] at hr
    split at hr <;> try (cases hr; done)
    rename_i v p1 l1 q1 h1 h2
    simp only [Option.some.injEq, Prod.mk.injEq] at hr
    obtain ⟨rfl, rfl⟩ := hr
    obtain ⟨x, g1, g4, g5⟩ := oneRes_ok hT h h1
    obtain ⟨xs, k1, k4, k5⟩ := ih _ _ h2
    refine ⟨x :: xs, by simp [List.mapM_cons, g1, k1], .cons g4 k4, fun u hu => ?_⟩
    rcases List.mem_cons.1 hu with rfl | hu
    · exact g5
    · exact k5 u hu
theorem Reps.get {l : List AV} {xs : List Value} (h : Reps e l xs) : xs.length = l.length ∧ ∀ (i : Nat) v x, l[i]? = some v → xs[i]? = some x → Rep e v x := by
  induction h with
  | nil => exact ⟨rfl, fun i v x h => by simp at h⟩
  | cons h1 _ ih =>
    refine ⟨by simp [ih.1], fun i v x hv hx => ?_⟩
    cases i with
    | zero => simp at hv hx; subst hv; subst hx; exact h1
    | succ i => exact ih.2 i v x (by simpa using hv) (by simpa using hx)
theorem rep1_of {v : AV} {x : Value} (h : Rep e v x) (hv : ∀ l, v ≠ .tu l) : Rep1 e v x := by
  cases v with
  | tu l => exact absurd rfl (hv l)
  | _ => exact h
theorem resAV_ok (hT : T.OK P) {U : Nat → Prop} {nt : Nat} {σ : St} {a : Act} (fn : Func) (h : Stands c eb (getS σ.sl) (ofL σ.ob) U nt a e) {v : AV} {p : Prop} (hr : resAV T σ fn.results.toList = some (v, p)) :
    ∃ x, (results fn a.tmps).run P e.w = .ok x e.w ∧ Rep e v x := by
  unfold resAV at hr
  split at hr <;> try (cases hr; done)
  · rename_i v' p' hm
    simp only [Option.some.injEq, Prod.mk.injEq] at hr
    obtain ⟨rfl, rfl⟩ := hr
    obtain ⟨xs, h1, h4, h5⟩ := manyRes_ok hT h _ _ _ hm
    cases h4 with
    | @cons _ x _ s hx hs =>
    cases hs
    refine ⟨x, ?_, hx⟩
    rw [results_eq]
    simp [Array.mapM_eq_mapM_toList, h1]
  · rename_i l p' hne hm
    simp only [Option.some.injEq, Prod.mk.injEq] at hr
    obtain ⟨rfl, rfl⟩ := hr
    obtain ⟨xs, h1, h4, h5⟩ := manyRes_ok hT h _ _ _ hm
    obtain ⟨g1, g2⟩ := h4.get
    have hl1 : l.length ≠ 1 := by
      intro hl
      obtain ⟨v, rfl⟩ := List.length_eq_one_iff.1 hl
      exact hne v rfl
    refine ⟨.tuple xs.toArray, ?_, ⟨xs.toArray, rfl, by simpa using g1, fun i v x hv hx => rep1_of (g2 i v x hv (by simpa using hx)) (h5 v (List.mem_of_getElem? hv))⟩⟩
    rw [results_eq]
    have hx1 : ¬ xs.length = 1 := by omega
    simp [Array.mapM_eq_mapM_toList, h1, hx1]

/-! ### What a function does, of itself -/
structure Con where
  n0 : Nat
  args : List AV
  ob : List (Nat × Obj)
  pre : Prop
  res : AV
  ob' : List (Nat × Obj)
  n1 : Nat
def CalleeOK (P : Program) (f : FuncId) (k : Con) : Prop :=
  k.pre → ∀ (c : Ctx) (e : Env) (vals : Array Value), OSim c e (ofL k.ob) → (∀ id, e.U id → id < k.n0) → Reps e k.args vals.toList →
    Does P (callFunc f vals) e.w fun x w' => ∃ e', e'.w = w' ∧ OSim c e' (ofL k.ob') ∧ e.le e' ∧ (∀ id, e'.U id → id < k.n1) ∧ Rep e' k.res x
def argS : Nat → List AV → List (Nat × AV)
  | _, [] => []
  | k, v :: r => (k, v) :: argS (k + 1) r
theorem getS_argS : ∀ (l : List AV) (k t : Nat), getS (argS k l) t = if t < k then .junk else l.getD (t - k) .junk := by
  intro l
  induction l with
  | nil => intro k t; simp [argS, getS]
  | cons v r ih =>
    intro k t
    simp only [argS, getS]
    by_cases h : k = t
    · subst h; simp
    · rw [if_neg h, ih (k + 1) t]
      by_cases hlt : t < k
      · rw [if_pos (by omega), if_pos hlt]
      · rw [if_neg (by omega), if_neg hlt, show t - k = t - (k + 1) + 1 by omega]
        simp
theorem ofL_mem : ∀ (l : List (Nat × Obj)) (id : Nat) (o : Obj), ofL l id = some o → (id, o) ∈ l := by
  intro l
  induction l with
  | nil => intro id o h; cases h
  | cons p r ih =>
    intro id o h
    obtain ⟨k, v⟩ := p
    simp only [ofL] at h
    split at h
    · rename_i hk; subst hk; injection h with h; subst h; simp
    · exact List.mem_cons_of_mem _ (ih _ _ h)
theorem callee_of_exec (hm : P.follows .mixedOrders = true) (hT : T.OK P) {f : FuncId} {fn : Func} {code : Code} (hf : P.funcs[f]? = some fn) (hb : fn.body = some code) (hn : (fn.name == "runtime.NumGoroutine") = false) {k : Con} {an : List Bn} {r : Res} {v : AV} {q : Prop}
    (hx : exec P T fn.ntmps code ⟨argS 0 k.args, k.ob, k.n0⟩ an = some r) (hargs : k.args.length ≤ fn.ntmps) (hend : r.ex = .ret ∨ r.ex = .normal) (hres : resAV T r.st fn.results.toList = some (v, q))
    (hpre : k.pre → r.pre ∧ v = k.res ∧ (∀ p ∈ k.ob', ofL r.st.ob p.1 = some p.2) ∧ r.st.nx ≤ k.n1) : CalleeOK P f k := by
  intro hkp c e vals hos hU hvals
  obtain ⟨hp, rfl, hob, hn1⟩ := hpre hkp
  have hcall : (callFunc f vals).run P e.w = .ok (.enter f vals) e.w := by
    have hn' : ¬ fn.name = "runtime.NumGoroutine" := by simpa using hn
    simp [callFunc, hf, hn', hb]
  refine .inr (.inr ⟨f, vals, e.w, hcall, ?_⟩)
  refine calls_of_wp hf hb ?_
  have hlen := hvals.get.1
  rw [Array.length_toList] at hlen
  have hsim : Sim c e fn.ntmps ⟨argS 0 k.args, k.ob, k.n0⟩ { tmps := vals ++ Array.replicate (fn.ntmps - vals.size) undef, defers := [] } e.w := by
    refine ⟨e, rfl, hos, Env.le.refl e, hU, fun t => ?_, rfl, by simp; omega⟩
    rw [getS_argS, if_neg (by omega), Nat.sub_zero]
    by_cases ht : t < k.args.length
    · have h1 : k.args[t]? = some k.args[t] := List.getElem?_eq_getElem ht
      have h2 : vals.toList[t]? = some vals[t] := by rw [Array.getElem?_toList]; exact Array.getElem?_eq_getElem (by omega)
      have := hvals.get.2 t _ _ h1 h2
      have e1 : k.args.getD t .junk = k.args[t] := by simp [List.getD, h1]
      have e2 : (vals ++ Array.replicate (fn.ntmps - vals.size) undef).getD t undef = vals[t] := by
        have : t < vals.size := by omega
        simp [Array.getD, Array.getElem_append_left this]
        omega
      rw [e1]
      show Rep e _ ((vals ++ Array.replicate (fn.ntmps - vals.size) undef).getD t undef)
      rw [e2]; exact this
    · rw [show k.args.getD t .junk = .junk by simp [List.getD, List.getElem?_eq_none (by omega : k.args.length ≤ t)]]
      trivial
  refine Code.wp_mono ?_ (exec_ok hm hT code _ _ _ hx hp c e _ _ hsim)
  rintro ex a w ⟨rfl, e', rfl, hst⟩
  obtain ⟨x, g1, g2⟩ := resAV_ok hT fn hst hres
  have fin : a.defers = [] ∧ ∃ v, (results fn a.tmps).run P e'.w = .ok v e'.w ∧ ∃ x, Ending.returned v = .returned x ∧ ∃ e2, e2.w = e'.w ∧ OSim c e2 (ofL k.ob') ∧ e.le e2 ∧ (∀ id, e2.U id → id < k.n1) ∧ Rep e2 k.res x :=
    ⟨hst.def_, x, g1, x, rfl, e', rfl, hst.os.sub (fun id o h => hob _ (ofL_mem _ _ _ h)), hst.le, fun id hid => Nat.lt_of_lt_of_le (hst.U id hid) hn1, g2⟩
  rcases hend with hend | hend <;> rw [hend] <;> exact fin
end Go.Eng

namespace Go.Eng
open Go.RowKit
variable {P : Program} {T : TT} {c : Ctx} {e eb : Env} {of : Nat → Option Obj}

/-! ### A callee's numbers and a caller's -/
/-- Pieces that name no object. -/
def Clean (l : List AV) : Prop := ∀ (e e' : Env) (xs : List Value), e'.w = e.w → (∀ b i, e.S b i → e'.S b i) → RepL e l xs → RepL e' l xs
def ren0 (ρ : Nat → Nat) : AV → AV
  | .ow id ver off n z => .ow (ρ id) ver off n z
  | .pt id off => .pt (ρ id) off
  | .pe id off n i => .pe (ρ id) off n i
  | .re id ver z i off => .re (ρ id) ver z i off
  | .bs id off n lo m => .bs (ρ id) off n lo m
  | v => v
def ren1 (ρ : Nat → Nat) : AV → AV
  | .ag l => .ag (l.map (ren0 ρ))
  | v => ren0 ρ v
def ren (ρ : Nat → Nat) : AV → AV
  | .tu l => .tu (l.map (ren1 ρ))
  | v => ren1 ρ v
def renO (ρ : Nat → Nat) : Obj → Obj
  | .box l sh => .box (l.map (ren0 ρ)) sh
  | o => o
def cl0 : AV → Prop
  | .ar _ l => Clean l
  | .sl _ rows => Clean rows.flatten
  | .rp l => Clean l
  | .ag _ | .tu _ => False
  | _ => True
def clL : List AV → Prop
  | [] => True
  | v :: r => cl0 v ∧ clL r
def cl1 : AV → Prop
  | .ag l => clL l
  | .tu _ => False
  | v => cl0 v
def clL1 : List AV → Prop
  | [] => True
  | v :: r => cl1 v ∧ clL1 r
def clV : AV → Prop
  | .tu l => clL1 l
  | v => cl1 v
def clA : List AV → Prop
  | [] => True
  | v :: r => clV v ∧ clA r
def clObj : Obj → Prop
  | .box l _ => clL l
  | .row _ _ rows _ => Clean rows.flatten
def clO : List (Nat × Obj) → Prop
  | [] => True
  | (_, .box l _) :: r => clL l ∧ clO r
  | (_, .row _ _ rows _) :: r => Clean rows.flatten ∧ clO r
/-- One environment seen through other numbers. -/
structure Thru (ρ : Nat → Nat) (e e' : Env) : Prop where
  w : e'.w = e.w
  S : ∀ b i, e.S b i ↔ e'.S b i
  U : ∀ i, e.U i → e'.U (ρ i)
  ι : ∀ i, e.U i → e'.ι (ρ i) = e.ι i
  bn : ∀ i, e.U i → e'.bn (ρ i) = e.bn i
theorem Thru.repL {ρ : Nat → Nat} {e e' : Env} (h : Thru ρ e e') {l : List AV} {xs : List Value} (hr : RepL e l xs) : clL l → RepL e' (l.map (ren0 ρ)) xs := by
  induction hr with
  | nil => intro _; exact .nil
  | junk x hx _ ih => intro hc; exact .junk x hx (ih hc.2)
  | pl h1 _ ih => intro hc; exact .pl h1 (ih hc.2)
  | ar h1 h2 h3 ih1 ih2 => intro hc; exact .ar (hc.1 _ _ _ h.w (fun b i hs => (h.S b i).1 hs) h1) h2 (ih2 hc.2)
  | sl h1 h2 h3 h4 h5 h6 _ ih1 ih2 =>
    intro hc
    exact .sl h1 (hc.1 _ _ _ h.w (fun b i hs => (h.S b i).1 hs) h2) h3 h4 h5 (fun j y hj => by obtain ⟨p, q⟩ := h6 j y hj; rw [h.w]; exact ⟨p, (h.S _ _).1 q⟩) (ih2 hc.2)
  | sl0 _ ih => intro hc; exact .sl0 (ih hc.2)
  | ow h0 h00 h1 h2 h3 h4 h5 h6 _ ih => intro hc; exact .ow (h.U _ h0) h00 ((h.bn _ h0).trans h1) ((h.ι _ h0).trans h2) (by rw [h.w]; exact h3) h4 h5 h6 (ih hc.2)
  | ow0 h0 h00 h1 h2 _ ih => intro hc; exact .ow0 (h.U _ h0) h00 ((h.bn _ h0).trans h1) ((h.ι _ h0).trans h2) (ih hc.2)
  | owStale x hx h0 h1 _ ih => intro hc; exact .owStale x hx (h.U _ h0) (by rw [h.bn _ h0]; exact h1) (ih hc.2)
  | pt h0 h00 h1 _ ih => intro hc; exact .pt (h.U _ h0) ((h.bn _ h0).trans h00) ((h.ι _ h0).trans h1) (ih hc.2)
  | pe h0 h00 h1 h2 h3 _ ih => intro hc; exact .pe (h.U _ h0) ((h.bn _ h0).trans h00) ((h.ι _ h0).trans h1) h2 h3 (ih hc.2)
  | re h0 h00 h1 h2 h3 _ ih => intro hc; exact .re (h.U _ h0) h00 ((h.bn _ h0).trans h1) ((h.ι _ h0).trans h2) h3 (ih hc.2)
  | reStale x hx h0 h1 _ ih => intro hc; exact .reStale x hx (h.U _ h0) (by rw [h.bn _ h0]; exact h1) (ih hc.2)
  | bs h0 h00 h1 h2 h3 h4 _ ih => intro hc; exact .bs (h.U _ h0) ((h.bn _ h0).trans h00) ((h.ι _ h0).trans h1) h2 h3 h4 (ih hc.2)
  | rp h1 h2 h3 _ ih1 ih2 =>
    intro hc
    exact .rp (hc.1 _ _ _ h.w (fun b i hs => (h.S b i).1 hs) h1) h2 (fun j y hj => by obtain ⟨p, q⟩ := h3 j y hj; rw [h.w]; exact ⟨p, (h.S _ _).1 q⟩) (ih2 hc.2)
  | em _ ih => intro hc; exact .em (ih hc.2)
theorem Thru.rep1 {ρ : Nat → Nat} {e e' : Env} (h : Thru ρ e e') {v : AV} {x : Value} (hr : Rep1 e v x) (hc : cl1 v) : Rep1 e' (ren1 ρ v) x := by
  cases v with
  | ag l => obtain ⟨xs, rfl, hl⟩ := hr; exact ⟨xs, rfl, h.repL hl hc⟩
  | tu l => exact hr.elim
  | ar n l => exact hr.elim
  | junk => trivial
  | _ => exact h.repL (l := [_]) hr ⟨hc, trivial⟩
theorem Thru.rep {ρ : Nat → Nat} {e e' : Env} (h : Thru ρ e e') {v : AV} {x : Value} (hr : Rep e v x) (hc : clV v) : Rep e' (ren ρ v) x := by
  cases v with
  | tu l =>
    obtain ⟨xs, rfl, h1, h2⟩ := hr
    refine ⟨xs, rfl, by simpa using h1, fun i v x hv hx => ?_⟩
    rw [List.getElem?_map, Option.map_eq_some_iff] at hv
    obtain ⟨u, hu, rfl⟩ := hv
    have hcu : cl1 u := by
      have : ∀ (l : List AV), clL1 l → ∀ u ∈ l, cl1 u := by
        intro l
        induction l with
        | nil => intro _ u hu; cases hu
        | cons a r ih => intro hc u hu; rcases List.mem_cons.1 hu with rfl | hu; exact hc.1; exact ih hc.2 u hu
      exact this l hc u (List.mem_of_getElem? hu)
    exact h.rep1 (h2 i u x hu hx) hcu
  | ag l => exact h.rep1 (v := .ag l) hr hc
  | ar n l => exact hr.elim
  | junk => trivial
  | pl v => exact h.rep1 (v := .pl v) hr hc
  | sl d rows => exact h.rep1 (v := .sl d rows) hr hc
  | ow id ver off n z => exact h.rep1 (v := .ow id ver off n z) hr hc
  | pt id off => exact h.rep1 (v := .pt id off) hr hc
  | pe id off n i => exact h.rep1 (v := .pe id off n i) hr hc
  | re id ver z i off => exact h.rep1 (v := .re id ver z i off) hr hc
  | bs id off n lo m => exact h.rep1 (v := .bs id off n lo m) hr hc
  | rp l => exact h.rep1 (v := .rp l) hr hc
  | em => exact h.rep1 (v := .em) hr hc
/-- And back: from where the numbers were changed. -/
structure Back (ρ : Nat → Nat) (n : Nat) (e0 e : Env) : Prop where
  w : e.w = e0.w
  S : ∀ b i, e0.S b i ↔ e.S b i
  U : ∀ i, i < n → e.U (ρ i) → e0.U i
  ι : ∀ i, i < n → e0.ι i = e.ι (ρ i)
  bn : ∀ i, i < n → e0.bn i = e.bn (ρ i)
def low0 (n : Nat) : AV → Prop
  | .ow id _ _ _ _ | .pt id _ | .pe id _ _ _ | .re id _ _ _ _ | .bs id _ _ _ _ => id < n
  | _ => True
def lowL (n : Nat) : List AV → Prop
  | [] => True
  | v :: r => low0 n v ∧ lowL n r
def low1 (n : Nat) : AV → Prop
  | .ag l => lowL n l
  | v => low0 n v
def lowL1 (n : Nat) : List AV → Prop
  | [] => True
  | v :: r => low1 n v ∧ lowL1 n r
def lowV (n : Nat) : AV → Prop
  | .tu l => lowL1 n l
  | v => low1 n v
def lowA (n : Nat) : List AV → Prop
  | [] => True
  | v :: r => lowV n v ∧ lowA n r
def lowObj (n : Nat) : Obj → Prop
  | .box l _ => lowL n l
  | .row _ _ _ _ => True
def lowO (n : Nat) : List (Nat × Obj) → Prop
  | [] => True
  | (i, .box l _) :: r => i < n ∧ lowL n l ∧ lowO n r
  | (i, .row _ _ _ _) :: r => i < n ∧ lowO n r
theorem Back.repL {ρ : Nat → Nat} {n : Nat} {e0 e : Env} (h : Back ρ n e0 e) : ∀ (l : List AV) {xs : List Value}, RepL e (l.map (ren0 ρ)) xs → clL l → lowL n l → RepL e0 l xs := by
  intro l
  induction l with
  | nil => intro xs hr _ _; cases hr; exact .nil
  | cons v r ih =>
    intro xs hr hc hlo
    have hw := h.w
    have hS : ∀ b i, e.S b i → e0.S b i := fun b i hs => (h.S b i).2 hs
    rw [List.map_cons] at hr
    cases v with
    | ag l => exact hc.1.elim
    | tu l => exact hc.1.elim
    | junk => cases hr with | junk x hx h3 => exact .junk x hx (ih h3 hc.2 hlo.2)
    | pl v => cases hr with | pl h1 h3 => exact .pl h1 (ih h3 hc.2 hlo.2)
    | ar k es => cases hr with | ar h1 h2 h3 => exact .ar (hc.1 _ _ _ hw.symm hS h1) h2 (ih h3 hc.2 hlo.2)
    | em => cases hr with | em h3 => exact .em (ih h3 hc.2 hlo.2)
    | sl d rows =>
      cases hr with
      | sl h1 h2 h4 h5 h6 h7 h3 => exact .sl h1 (hc.1 _ _ _ hw.symm hS h2) h4 h5 h6 (fun j y hj => by obtain ⟨p, q⟩ := h7 j y hj; rw [← hw]; exact ⟨p, hS _ _ q⟩) (ih h3 hc.2 hlo.2)
      | sl0 h3 => exact .sl0 (ih h3 hc.2 hlo.2)
    | rp l => cases hr with | rp h1 h2 h4 h3 => exact .rp (hc.1 _ _ _ hw.symm hS h1) h2 (fun j y hj => by obtain ⟨p, q⟩ := h4 j y hj; rw [← hw]; exact ⟨p, hS _ _ q⟩) (ih h3 hc.2 hlo.2)
    | ow id ver off n z =>
      have hid := hlo.1
      cases hr with
      | ow h0 h00 h1 h2 h4 h5 h6 h7 h3 => exact .ow (h.U _ hid h0) h00 ((h.bn _ hid).trans h1) ((h.ι _ hid).trans h2) (by rw [← hw]; exact h4) h5 h6 h7 (ih h3 hc.2 hlo.2)
      | ow0 h0 h00 h1 h2 h3 => exact .ow0 (h.U _ hid h0) h00 ((h.bn _ hid).trans h1) ((h.ι _ hid).trans h2) (ih h3 hc.2 hlo.2)
      | owStale x hx h0 h1 h3 => exact .owStale x hx (h.U _ hid h0) (by rw [h.bn _ hid]; exact h1) (ih h3 hc.2 hlo.2)
    | pt id off =>
      have hid := hlo.1
      cases hr with | pt h0 h00 h1 h3 => exact .pt (h.U _ hid h0) ((h.bn _ hid).trans h00) ((h.ι _ hid).trans h1) (ih h3 hc.2 hlo.2)
    | pe id off n i =>
      have hid := hlo.1
      cases hr with | pe h0 h00 h1 h2 h4 h3 => exact .pe (h.U _ hid h0) ((h.bn _ hid).trans h00) ((h.ι _ hid).trans h1) h2 h4 (ih h3 hc.2 hlo.2)
    | re id ver z i off =>
      have hid := hlo.1
      cases hr with
      | re h0 h00 h1 h2 h4 h3 => exact .re (h.U _ hid h0) h00 ((h.bn _ hid).trans h1) ((h.ι _ hid).trans h2) h4 (ih h3 hc.2 hlo.2)
      | reStale x hx h0 h1 h3 => exact .reStale x hx (h.U _ hid h0) (by rw [h.bn _ hid]; exact h1) (ih h3 hc.2 hlo.2)
    | bs id off n lo m =>
      have hid := hlo.1
      cases hr with | bs h0 h00 h1 h2 h4 h5 h3 => exact .bs (h.U _ hid h0) ((h.bn _ hid).trans h00) ((h.ι _ hid).trans h1) h2 h4 h5 (ih h3 hc.2 hlo.2)
theorem Back.rep1 {ρ : Nat → Nat} {n : Nat} {e0 e : Env} (h : Back ρ n e0 e) {v : AV} {x : Value} (hr : Rep1 e (ren1 ρ v) x) (hc : cl1 v) (hl : low1 n v) : Rep1 e0 v x := by
  cases v with
  | ag l => obtain ⟨xs, rfl, hx⟩ := hr; exact ⟨xs, rfl, h.repL l hx hc hl⟩
  | tu l => exact hc.elim
  | ar n l => exact hr.elim
  | junk => trivial
  | pl v => exact h.repL [.pl v] hr ⟨hc, trivial⟩ ⟨hl, trivial⟩
  | sl d rows => exact h.repL [.sl d rows] hr ⟨hc, trivial⟩ ⟨hl, trivial⟩
  | ow id ver off n z => exact h.repL [.ow id ver off n z] hr ⟨hc, trivial⟩ ⟨hl, trivial⟩
  | pt id off => exact h.repL [.pt id off] hr ⟨hc, trivial⟩ ⟨hl, trivial⟩
  | pe id off n i => exact h.repL [.pe id off n i] hr ⟨hc, trivial⟩ ⟨hl, trivial⟩
  | re id ver z i off => exact h.repL [.re id ver z i off] hr ⟨hc, trivial⟩ ⟨hl, trivial⟩
  | bs id off n lo m => exact h.repL [.bs id off n lo m] hr ⟨hc, trivial⟩ ⟨hl, trivial⟩
  | rp l => exact h.repL [.rp l] hr ⟨hc, trivial⟩ ⟨hl, trivial⟩
  | em => exact h.repL [.em] hr ⟨hc, trivial⟩ ⟨hl, trivial⟩
theorem mem_clL1 : ∀ {l : List AV}, clL1 l → ∀ u ∈ l, cl1 u := by
  intro l
  induction l with
  | nil => intro _ u hu; cases hu
  | cons a r ih => intro hc u hu; rcases List.mem_cons.1 hu with rfl | hu; exact hc.1; exact ih hc.2 u hu
theorem mem_lowL1 {n : Nat} : ∀ {l : List AV}, lowL1 n l → ∀ u ∈ l, low1 n u := by
  intro l
  induction l with
  | nil => intro _ u hu; cases hu
  | cons a r ih => intro hc u hu; rcases List.mem_cons.1 hu with rfl | hu; exact hc.1; exact ih hc.2 u hu
theorem Back.rep {ρ : Nat → Nat} {n : Nat} {e0 e : Env} (h : Back ρ n e0 e) {v : AV} {x : Value} (hr : Rep e (ren ρ v) x) (hc : clV v) (hl : lowV n v) : Rep e0 v x := by
  cases v with
  | tu l =>
    obtain ⟨xs, rfl, h1, h2⟩ := hr
    refine ⟨xs, rfl, by simpa using h1, fun i v x hv hx => ?_⟩
    have := h2 i (ren1 ρ v) x (by rw [List.getElem?_map, hv]; rfl) hx
    exact h.rep1 this (mem_clL1 hc v (List.mem_of_getElem? hv)) (mem_lowL1 hl v (List.mem_of_getElem? hv))
  | ag l => exact h.rep1 (v := .ag l) hr hc hl
  | ar n l => exact hr.elim
  | junk => trivial
  | pl v => exact h.rep1 (v := .pl v) hr hc hl
  | sl d rows => exact h.rep1 (v := .sl d rows) hr hc hl
  | ow id ver off n z => exact h.rep1 (v := .ow id ver off n z) hr hc hl
  | pt id off => exact h.rep1 (v := .pt id off) hr hc hl
  | pe id off n i => exact h.rep1 (v := .pe id off n i) hr hc hl
  | re id ver z i off => exact h.rep1 (v := .re id ver z i off) hr hc hl
  | bs id off n lo m => exact h.rep1 (v := .bs id off n lo m) hr hc hl
  | rp l => exact h.rep1 (v := .rp l) hr hc hl
  | em => exact h.rep1 (v := .em) hr hc hl
theorem Back.reps {ρ : Nat → Nat} {n : Nat} {e0 e : Env} (h : Back ρ n e0 e) : ∀ (l : List AV) (xs : List Value), Reps e (l.map (ren ρ)) xs → clA l → lowA n l → Reps e0 l xs := by
  intro l
  induction l with
  | nil => intro xs hr _ _; cases hr; exact .nil
  | cons v r ih =>
    intro xs hr hc hl
    rw [List.map_cons] at hr
    cases hr with | cons h1 h2 => exact .cons (h.rep h1 hc.1 hl.1) (ih _ h2 hc.2 hl.2)
theorem clO_mem : ∀ {l : List (Nat × Obj)}, clO l → ∀ p ∈ l, clObj p.2 := by
  intro l
  induction l with
  | nil => intro _ p hp; cases hp
  | cons q r ih =>
    intro hc p hp
    obtain ⟨i, o⟩ := q
    cases o with
    | box m sh => rcases List.mem_cons.1 hp with rfl | hp; exact hc.1; exact ih hc.2 p hp
    | row d ver rows sh => rcases List.mem_cons.1 hp with rfl | hp; exact hc.1; exact ih hc.2 p hp
theorem lowO_mem {n : Nat} : ∀ {l : List (Nat × Obj)}, lowO n l → ∀ p ∈ l, p.1 < n ∧ lowObj n p.2 := by
  intro l
  induction l with
  | nil => intro _ p hp; cases hp
  | cons q r ih =>
    intro hc p hp
    obtain ⟨i, o⟩ := q
    cases o with
    | box m sh => rcases List.mem_cons.1 hp with rfl | hp; exact ⟨hc.1, hc.2.1⟩; exact ih hc.2.2 p hp
    | row d ver rows sh => rcases List.mem_cons.1 hp with rfl | hp; exact ⟨hc.1, trivial⟩; exact ih hc.2 p hp
theorem Back.ok {ρ : Nat → Nat} {n : Nat} {e0 e : Env} (h : Back ρ n e0 e) {i : Nat} (hi : i < n) {o : Obj} (hc : clObj o) (hl : lowObj n o) (ho : OK e (ρ i) (renO ρ o)) : OK e0 i o := by
  have hS : ∀ b i, e.S b i → e0.S b i := fun b i hs => (h.S b i).2 hs
  cases o with
  | box l sh =>
    obtain ⟨u0, u1, b, cs, t, fz, h1, h2, h3, h4, h5⟩ := ho
    refine ⟨h.U _ hi u0, (h.bn _ hi).trans u1, b, cs, t, fz, (h.ι _ hi).trans h1, by rw [← h.w]; exact h2, by rw [← h.w]; exact h3, h.repL l h4 hc hl, fun hs j hj => h5 hs j ((h.S _ _).1 hj)⟩
  | row d ver rows sh =>
    obtain ⟨u0, u1, u2, u3, u4, h6⟩ := ho
    refine ⟨h.U _ hi u0, u1, (h.bn _ hi).trans u2, u3, u4, ?_⟩
    rcases h6 with ⟨g1, g2⟩ | ⟨b, o, cs, t, fz, pre, ys, post, h1, h2, h3, h4, h5, h6, h7, h8⟩
    · exact .inl ⟨(h.ι _ hi).trans g1, g2⟩
    · exact .inr ⟨b, o, cs, t, fz, pre, ys, post, (h.ι _ hi).trans h1, by rw [← h.w]; exact h2, by rw [← h.w]; exact h3, h4, h5, hc _ _ _ h.w.symm hS h6, fun j hj hs => h7 j hj ((h.S _ _).1 hs), fun hs j hj hjs => h8 hs j hj ((h.S _ _).1 hjs)⟩
theorem Thru.ok {ρ : Nat → Nat} {e e' : Env} (h : Thru ρ e e') {i : Nat} {o : Obj} (hc : clObj o) (ho : OK e i o) : OK e' (ρ i) (renO ρ o) := by
  have hS : ∀ b i, e.S b i → e'.S b i := fun b i hs => (h.S b i).1 hs
  have hu := ho.use
  cases o with
  | box l sh =>
    obtain ⟨u0, u1, b, cs, t, fz, h1, h2, h3, h4, h5⟩ := ho
    exact ⟨h.U _ u0, (h.bn _ u0).trans u1, b, cs, t, fz, (h.ι _ u0).trans h1, by rw [h.w]; exact h2, by rw [h.w]; exact h3, h.repL h4 hc, fun hs j hj => h5 hs j ((h.S _ _).2 hj)⟩
  | row d ver rows sh =>
    obtain ⟨u0, u1, u2, u3, u4, h6⟩ := ho
    refine ⟨h.U _ u0, u1, (h.bn _ u0).trans u2, u3, u4, ?_⟩
    rcases h6 with ⟨g1, g2⟩ | ⟨b, o, cs, t, fz, pre, ys, post, h1, h2, h3, h4, h5, h6, h7, h8⟩
    · exact .inl ⟨(h.ι _ u0).trans g1, g2⟩
    · exact .inr ⟨b, o, cs, t, fz, pre, ys, post, (h.ι _ u0).trans h1, by rw [h.w]; exact h2, by rw [h.w]; exact h3, h4, h5, hc _ _ _ h.w hS h6, fun j hj hs => h7 j hj ((h.S _ _).2 hs), fun hs j hj hjs => h8 hs j hj ((h.S _ _).2 hjs)⟩
end Go.Eng

namespace Go.Eng
open Go.RowKit
variable {P : Program} {T : TT} {c : Ctx} {e eb : Env} {of : Nat → Option Obj}

/-! ### A call -/
def rho (n0 : Nat) (p : List Nat) (nx i : Nat) : Nat := if i < n0 then p.getD i 0 else nx + (i - n0)
structure Con.Fit (k : Con) (p : List Nat) : Prop where
  len : p.length = k.n0
  nodup : p.Nodup
  le : k.n0 ≤ k.n1
  has : ∀ i, i < k.n0 → (ofL k.ob i).isSome = true
  has' : ∀ i, i < k.n0 → (ofL k.ob' i).isSome = true
  nodup' : (k.ob'.map (·.1)).Nodup
  cargs : clA k.args
  largs : lowA k.n0 k.args
  cob : clO k.ob
  lob : lowO k.n0 k.ob
  cres : clV k.res
  cob' : clO k.ob'
def symOf (k : Con) (p : List Nat) : Sym := fun args of nx =>
  some { val := ren (rho k.n0 p nx) k.res, wo := k.ob'.map fun q => (rho k.n0 p nx q.1, renO (rho k.n0 p nx) q.2), ro := p, nw := List.range' nx (k.n1 - k.n0),
         pre := k.pre ∧ args = k.args.map (ren (rho k.n0 p nx)) ∧ (k.ob.map fun q => of (rho k.n0 p nx q.1)) = (k.ob.map fun q => some (renO (rho k.n0 p nx) q.2)) ∧ k.Fit p }
theorem put_not : ∀ (l : List (Nat × Obj)) (f : Nat → Option Obj) (j : Nat), j ∉ l.map (·.1) → put f l j = f j := by
  intro l
  induction l with
  | nil => intro f j _; rfl
  | cons q r ih =>
    intro f j h
    obtain ⟨k, o⟩ := q
    simp only [List.map_cons, List.mem_cons, not_or] at h
    simp only [put]
    rw [ih _ _ h.2, upd_ne _ _ h.1]
theorem put_mem : ∀ (l : List (Nat × Obj)) (f : Nat → Option Obj) (j : Nat) (o : Obj), (l.map (·.1)).Nodup → (j, o) ∈ l → put f l j = some o := by
  intro l
  induction l with
  | nil => intro f j o _ h; cases h
  | cons q r ih =>
    intro f j o hn h
    obtain ⟨k, o'⟩ := q
    simp only [List.map_cons, List.nodup_cons] at hn
    simp only [put]
    rcases List.mem_cons.1 h with h | h
    · injection h with h1 h2
      subst h1; subst h2
      rw [put_not _ _ _ hn.1, upd_same]
    · exact ih _ _ _ hn.2 h
theorem ofL_of_mem : ∀ (l : List (Nat × Obj)) (id : Nat) (o : Obj), (l.map (·.1)).Nodup → (id, o) ∈ l → ofL l id = some o := by
  intro l
  induction l with
  | nil => intro id o _ h; cases h
  | cons q r ih =>
    intro id o hn h
    obtain ⟨k, o'⟩ := q
    simp only [List.map_cons, List.nodup_cons] at hn
    simp only [ofL]
    rcases List.mem_cons.1 h with h | h
    · injection h with h1 h2
      subst h1; subst h2
      rw [if_pos rfl]
    · have : k ≠ id := fun he => hn.1 (by rw [he]; exact List.mem_map.2 ⟨_, h, rfl⟩)
      rw [if_neg this]
      exact ih _ _ hn.2 h
theorem nodup_inj {l : List Nat} (h : l.Nodup) {i j : Nat} (hi : i < l.length) (hj : j < l.length) (he : l[i] = l[j]) : i = j := by
  have hp := List.pairwise_iff_getElem.1 h
  rcases Nat.lt_trichotomy i j with hlt | heq | hgt
  · exact absurd he (hp i j hi hj hlt)
  · exact heq
  · exact absurd he.symm (hp j i hj hi hgt)
open Classical in
/-- The environment after a call, by the caller's numbers. -/
noncomputable def after (ρ : Nat → Nat) (e e1 : Env) : Env where
  w := e1.w
  S := e1.S
  U := fun j => e.U j ∨ ∃ i, e1.U i ∧ ρ i = j
  ι := fun j => if h : ∃ i, e1.U i ∧ ρ i = j then e1.ι h.choose else e.ι j
  bn := fun j => if h : ∃ i, e1.U i ∧ ρ i = j then e1.bn h.choose else e.bn j
open Classical in
theorem after_in {ρ : Nat → Nat} {e e1 : Env} (hinj : ∀ i j, e1.U i → e1.U j → ρ i = ρ j → i = j) {i : Nat} (hi : e1.U i) : (after ρ e e1).ι (ρ i) = e1.ι i ∧ (after ρ e e1).bn (ρ i) = e1.bn i := by
  have h : ∃ k, e1.U k ∧ ρ k = ρ i := ⟨i, hi, rfl⟩
  have hc := h.choose_spec
  have : h.choose = i := hinj _ _ hc.1 hi hc.2
  constructor
  · show (if h : ∃ k, e1.U k ∧ ρ k = ρ i then e1.ι h.choose else e.ι (ρ i)) = _
    rw [dif_pos h, this]
  · show (if h : ∃ k, e1.U k ∧ ρ k = ρ i then e1.bn h.choose else e.bn (ρ i)) = _
    rw [dif_pos h, this]
open Classical in
theorem after_out {ρ : Nat → Nat} {e e1 : Env} {j : Nat} (hj : ∀ i, e1.U i → ρ i ≠ j) : (after ρ e e1).ι j = e.ι j ∧ (after ρ e e1).bn j = e.bn j := by
  have h : ¬ ∃ k, e1.U k ∧ ρ k = j := fun ⟨k, h1, h2⟩ => hj k h1 h2
  constructor
  · show (if h : ∃ k, e1.U k ∧ ρ k = j then e1.ι h.choose else e.ι j) = _
    rw [dif_neg h]
  · show (if h : ∃ k, e1.U k ∧ ρ k = j then e1.bn h.choose else e.bn j) = _
    rw [dif_neg h]
theorem sym_of_callee {f : FuncId} {k : Con} (hk : CalleeOK P f k) (p : List Nat) : SymOK P f (symOf k p) := by
  intro c e of of' args vals nx out hos hs hp hro hu hargs
  simp only [symOf, Option.some.injEq] at hs
  subst hs
  obtain ⟨hpre, rfl, hmatch0, hfit⟩ := hp
  have hmatch : ∀ q ∈ k.ob, of (rho k.n0 p nx q.1) = some (renO (rho k.n0 p nx) q.2) := List.map_inj_left.1 hmatch0
  clear hmatch0
  generalize hρ : rho k.n0 p nx = ρ at *
  -- the callee's environment
  have hρlt : ∀ i, i < k.n0 → ρ i ∈ p ∧ ∃ h : i < p.length, ρ i = p[i] := fun i hi => by
    have hl : i < p.length := by rw [hfit.len]; exact hi
    have : ρ i = p[i] := by rw [← hρ]; simp [rho, hi, hl]
    exact ⟨by rw [this]; exact List.getElem_mem hl, hl, this⟩
  have hpass : ∀ i, i < k.n0 → ∃ o, ofL k.ob i = some o ∧ of' (ρ i) = some (renO ρ o) := fun i hi => by
    obtain ⟨o, ho⟩ := Option.isSome_iff_exists.1 (hfit.has i hi)
    exact ⟨o, ho, by rw [hro _ (hρlt i hi).1]; exact hmatch _ (ofL_mem _ _ _ ho)⟩
  have hpassU : ∀ i, i < k.n0 → e.U (ρ i) := fun i hi => by
    obtain ⟨o, _, ho⟩ := hpass i hi
    exact (hos.ok _ _ ho).use
  have hinj0 : ∀ i j, i < k.n0 → j < k.n0 → ρ i = ρ j → i = j := fun i j hi hj he => by
    obtain ⟨_, h1, h2⟩ := hρlt i hi
    obtain ⟨_, h3, h4⟩ := hρlt j hj
    rw [h2, h4] at he
    exact nodup_inj hfit.nodup h1 h3 he
  let e0 : Env := { w := e.w, ι := fun i => e.ι (ρ i), S := e.S, bn := fun i => e.bn (ρ i), U := fun i => i < k.n0 ∧ e.U (ρ i) }
  have hback : Back ρ k.n0 e0 e := ⟨rfl, fun _ _ => Iff.rfl, fun i hi hu => ⟨hi, hu⟩, fun _ _ => rfl, fun _ _ => rfl⟩
  let c0 : Ctx := { w0 := e.w, M := fun b => ∃ i q, i < k.n0 ∧ e.ι (ρ i) = some (b, q), S0 := e.S }
  have hM : ∀ b, c0.M b → c.w0.heap.size ≤ b ∨ c.M b := fun b ⟨i, q, hi, hb⟩ => by
    obtain ⟨o, _, ho⟩ := hpass i hi
    exact hos.own _ _ _ (by rw [ho]; rfl) hb
  have hob_lt : ∀ i, (ofL k.ob i).isSome → i < k.n0 := fun i hi => by
    obtain ⟨o, ho⟩ := Option.isSome_iff_exists.1 hi
    exact (lowO_mem hfit.lob _ (ofL_mem _ _ _ ho)).1
  have hos0 : OSim c0 e0 (ofL k.ob) := by
    refine ⟨fun i o ho => ?_, fun i j b o b' o' hi hj h1 h2 hne => ?_, fun i b o hi hb => .inr ⟨i, o, hob_lt i hi, hb⟩, fun i b o hu hb => hos.lt _ _ _ hu.2 hb, hos.slt, fun _ _ hs => hs, fun _ _ hs => .inl hs, rfl, rfl, rfl, Nat.le_refl _, fun _ _ _ => rfl⟩
    · have hm := ofL_mem _ _ _ ho
      have hi := hob_lt i (by rw [ho]; rfl)
      obtain ⟨o2, ho2, ho3⟩ := hpass i hi
      rw [ho] at ho2; cases ho2
      exact hback.ok hi (clO_mem hfit.cob _ hm) (lowO_mem hfit.lob _ hm).2 (hos.ok _ _ ho3)
    · have hi' := hob_lt i hi
      have hj' := hob_lt j hj
      obtain ⟨o1, _, ho1⟩ := hpass i hi'
      obtain ⟨o2, _, ho2⟩ := hpass j hj'
      exact hos.sep _ _ _ _ _ _ (by rw [ho1]; rfl) (by rw [ho2]; rfl) h1 h2 (fun he => hne (hinj0 i j hi' hj' he))
  have hcall := hk hpre c0 e0 vals hos0 (fun i hi => hi.1) (hback.reps _ _ hargs hfit.cargs hfit.largs)
  -- what comes back
  have back : ∀ x w', (∃ e1, e1.w = w' ∧ OSim c0 e1 (ofL k.ob') ∧ e0.le e1 ∧ (∀ id, e1.U id → id < k.n1) ∧ Rep e1 k.res x) →
      Left c e of' ⟨ren ρ k.res, k.ob'.map (fun q => (ρ q.1, renO ρ q.2)), p, List.range' nx (k.n1 - k.n0), k.pre ∧ k.args.map (ren ρ) = k.args.map (ren ρ) ∧ (k.ob.map fun q => of (ρ q.1)) = (k.ob.map fun q => some (renO ρ q.2)) ∧ k.Fit p⟩ x w' := by
    rintro x w' ⟨e1, rfl, h1, hle, hU1, hres⟩
    have hnew : ∀ i, e1.U i → ¬ i < k.n0 → ρ i ∈ List.range' nx (k.n1 - k.n0) := fun i hi hn => by
      have : ρ i = nx + (i - k.n0) := by rw [← hρ]; simp [rho, hn]
      have := hU1 i hi
      rw [List.mem_range'_1]; omega
    have hnewU : ∀ i, e1.U i → ¬ i < k.n0 → ¬ e.U (ρ i) := fun i hi hn => hu _ (hnew i hi hn)
    have hinj : ∀ i j, e1.U i → e1.U j → ρ i = ρ j → i = j := fun i j hi hj he => by
      by_cases h2 : i < k.n0
      · by_cases h3 : j < k.n0
        · exact hinj0 i j h2 h3 he
        · exact absurd (by rw [← he]; exact hpassU i h2) (hnewU j hj h3)
      · by_cases h3 : j < k.n0
        · exact absurd (by rw [he]; exact hpassU j h3) (hnewU i hi h2)
        · have e1 : ρ i = nx + (i - k.n0) := by rw [← hρ]; simp [rho, h2]
          have e2 : ρ j = nx + (j - k.n0) := by rw [← hρ]; simp [rho, h3]
          omega
    have hU0 : ∀ i, i < k.n0 → e1.U i := fun i hi => hle.use _ ⟨hi, hpassU i hi⟩
    let e' := after ρ e e1
    have hin : ∀ i, e1.U i → e'.ι (ρ i) = e1.ι i ∧ e'.bn (ρ i) = e1.bn i := fun i hi => after_in hinj hi
    have hout : ∀ j, (∀ i, e1.U i → ρ i ≠ j) → e'.ι j = e.ι j ∧ e'.bn j = e.bn j := fun j hj => after_out hj
    have hthru : Thru ρ e1 e' := ⟨rfl, fun _ _ => Iff.rfl, fun i hi => .inr ⟨i, hi, rfl⟩, fun i hi => (hin i hi).1, fun i hi => (hin i hi).2⟩
    have hcase : ∀ j, (∃ i, e1.U i ∧ ρ i = j) ∨ ∀ i, e1.U i → ρ i ≠ j := fun j => by
      by_cases h : ∃ i, e1.U i ∧ ρ i = j
      · exact .inl h
      · exact .inr fun i hi he => h ⟨i, hi, he⟩
    have hgrow : e.w.heap.size ≤ e1.w.heap.size := hle.grow
    have hEle : e.le e' := by
      refine ⟨fun b i hs => hle.S b i hs, fun j hj => .inl hj, fun j hj hb => ?_, fun j hj h0 => ?_, fun j hj => ?_, hgrow, hle.keep⟩
      · rcases hcase j with ⟨i, hi, rfl⟩ | hn
        · have hi0 : i < k.n0 := Decidable.byContradiction fun hn => hnewU i hi hn hj
          rw [(hin i hi).2] at hb
          obtain ⟨q1, q2⟩ := hle.obj i ⟨hi0, hj⟩ hb
          exact ⟨by rw [(hin i hi).1]; exact q1, q2⟩
        · exact ⟨(hout j hn).1, fun b o hb' => hle.keep b (hos.lt _ _ _ hj hb')⟩
      · rcases hcase j with ⟨i, hi, rfl⟩ | hn
        · have hi0 : i < k.n0 := Decidable.byContradiction fun hn => hnewU i hi hn hj
          rw [(hin i hi).2]; exact hle.box i ⟨hi0, hj⟩ h0
        · rw [(hout j hn).2]; exact h0
      · rcases hcase j with ⟨i, hi, rfl⟩ | hn
        · have hi0 : i < k.n0 := Decidable.byContradiction fun hn => hnewU i hi hn hj
          rw [(hin i hi).2]; exact hle.up i ⟨hi0, hj⟩
        · rw [(hout j hn).2]; exact Nat.le_refl _
    -- objects
    have hob'U : ∀ q ∈ k.ob', e1.U q.1 := fun q hq => (h1.ok q.1 q.2 (ofL_of_mem _ _ _ hfit.nodup' hq)).use
    have hnd : ((k.ob'.map fun q => (ρ q.1, renO ρ q.2)).map (·.1)).Nodup := by
      rw [List.map_map]
      have : ∀ (l : List (Nat × Obj)), (l.map (·.1)).Nodup → (∀ q ∈ l, e1.U q.1) → (l.map ((·.1) ∘ fun q => (ρ q.1, renO ρ q.2))).Nodup := by
        intro l
        induction l with
        | nil => intro _ _; simp
        | cons q r ih =>
          intro hn hU
          simp only [List.map_cons, List.nodup_cons] at hn ⊢
          refine ⟨fun hm => hn.1 ?_, ih hn.2 (fun q' hq' => hU q' (by simp [hq']))⟩
          obtain ⟨q', hq', he⟩ := List.mem_map.1 hm
          have : q'.1 = q.1 := hinj _ _ (hU q' (by simp [hq'])) (hU q (by simp)) he
          rw [← this]; exact List.mem_map.2 ⟨q', hq', rfl⟩
      exact this _ hfit.nodup' hob'U
    have hobj : ∀ j o, put of' (k.ob'.map fun q => (ρ q.1, renO ρ q.2)) j = some o → (∃ i o0, e1.U i ∧ ofL k.ob' i = some o0 ∧ ρ i = j ∧ o = renO ρ o0) ∨ (of' j = some o ∧ ∀ i, e1.U i → ρ i ≠ j) := by
      intro j o hj
      by_cases hm : j ∈ (k.ob'.map fun q => (ρ q.1, renO ρ q.2)).map (·.1)
      · obtain ⟨q2, hq2, rfl⟩ := List.mem_map.1 hm
        obtain ⟨q, hq, rfl⟩ := List.mem_map.1 hq2
        rw [put_mem _ _ _ _ hnd hq2] at hj
        cases hj
        exact .inl ⟨q.1, q.2, hob'U q hq, ofL_of_mem _ _ _ hfit.nodup' hq, rfl, rfl⟩
      · rw [put_not _ _ _ hm] at hj
        refine .inr ⟨hj, fun i hi he => ?_⟩
        by_cases hi0 : i < k.n0
        · obtain ⟨o0, ho0⟩ := Option.isSome_iff_exists.1 (hfit.has' i hi0)
          have := ofL_mem _ _ _ ho0
          exact hm (List.mem_map.2 ⟨(ρ i, renO ρ o0), List.mem_map.2 ⟨(i, o0), this, rfl⟩, he⟩)
        · exact hnewU i hi hi0 (by rw [he]; exact (hos.ok _ _ hj).use)
    have hheap : ∀ b, b < e.w.heap.size → ¬ c0.M b → e1.w.heap[b]? = e.w.heap[b]? := fun b hb hm => h1.block b hb hm
    have hSold : ∀ b i, b < e.w.heap.size → ¬ c0.M b → e1.S b i → e.S b i := fun b i hb hm hs => by
      rcases h1.snew b i hs with h | h | h
      · exact h
      · have : e.w.heap.size ≤ b := h; omega
      · exact absurd h hm
    have hnotM : ∀ j o b q, of' j = some o → (∀ i, e1.U i → ρ i ≠ j) → e.ι j = some (b, q) → ¬ c0.M b := by
      rintro j o b q hj hn hb ⟨i, q', hi, hb'⟩
      obtain ⟨o2, _, ho2⟩ := hpass i hi
      exact hos.sep _ _ _ _ _ _ (by rw [hj]; rfl) (by rw [ho2]; rfl) hb hb' (fun he => hn i (hU0 i hi) he.symm) rfl
    refine ⟨e', rfl, ?_, hEle, fun j hj => ?_, hthru.rep hres hfit.cres⟩
    · refine ⟨fun j o hj => ?_, fun j j' b o b' o' hj hj' hb hb' hne => ?_, fun j b o hj hb => ?_, fun j b o hj hb => ?_, h1.slt, fun b i hs => (hle.S _ _ (hos.s0 _ _ hs)).1, fun b i hs => ?_, h1.os.trans hos.os, h1.tape.trans hos.tape, h1.output.trans hos.output, Nat.le_trans hos.size hgrow, fun b hb hm => ?_⟩
      · rcases hobj j o hj with ⟨i, o0, hi, ho0, rfl, rfl⟩ | ⟨ho, hn⟩
        · exact hthru.ok (clO_mem hfit.cob' _ (ofL_mem _ _ _ ho0)) (h1.ok _ _ ho0)
        · exact (hos.ok _ _ ho).keep hEle (hout j hn).2 (fun b q hb => hheap b (hos.lt _ _ _ (hos.ok _ _ ho).use hb) (hnotM j o b q ho hn hb)) (fun b q i hb hs => hSold b i (hos.lt _ _ _ (hos.ok _ _ ho).use hb) (hnotM j o b q ho hn hb) hs)
      · obtain ⟨oj, hoj⟩ := Option.isSome_iff_exists.1 hj
        obtain ⟨oj', hoj'⟩ := Option.isSome_iff_exists.1 hj'
        have mix : ∀ {i oi jj oo b q b' q'}, e1.U i → ofL k.ob' i = some oi → of' jj = some oo → (∀ i, e1.U i → ρ i ≠ jj) → e1.ι i = some (b, q) → e.ι jj = some (b', q') → b ≠ b' := by
          intro i oi jj oo b q b' q' hi hoi hjj hn hb hb'
          have hlt := hos.lt _ _ _ (hos.ok _ _ hjj).use hb'
          rcases h1.own i b q (by rw [hoi]; rfl) hb with h | h
          · have : e.w.heap.size ≤ b := h; omega
          · exact fun he => hnotM jj oo b' q' hjj hn hb' (he ▸ h)
        rcases hobj j oj hoj with ⟨i, o0, hi, ho0, rfl, rfl⟩ | ⟨ho, hn⟩ <;> rcases hobj j' oj' hoj' with ⟨i', o0', hi', ho0', rfl, rfl⟩ | ⟨ho', hn'⟩
        · rw [(hin i hi).1] at hb
          rw [(hin i' hi').1] at hb'
          exact h1.sep _ _ _ _ _ _ (by rw [ho0]; rfl) (by rw [ho0']; rfl) hb hb' (fun he => hne (by rw [he]))
        · rw [(hin i hi).1] at hb
          rw [(hout j' hn').1] at hb'
          exact mix hi ho0 ho' hn' hb hb'
        · rw [(hin i' hi').1] at hb'
          rw [(hout j hn).1] at hb
          exact (mix hi' ho0' ho hn hb' hb).symm
        · rw [(hout j hn).1] at hb
          rw [(hout j' hn').1] at hb'
          exact hos.sep _ _ _ _ _ _ (by rw [ho]; rfl) (by rw [ho']; rfl) hb hb' hne
      · obtain ⟨oj, hoj⟩ := Option.isSome_iff_exists.1 hj
        rcases hobj j oj hoj with ⟨i, o0, hi, ho0, rfl, rfl⟩ | ⟨ho, hn⟩
        · rw [(hin i hi).1] at hb
          rcases h1.own i b o (by rw [ho0]; rfl) hb with h | h
          · left
            have h' : e.w.heap.size ≤ b := h
            exact Nat.le_trans hos.size h'
          · exact hM b h
        · rw [(hout j hn).1] at hb
          exact hos.own _ _ _ (by rw [ho]; rfl) hb
      · rcases hcase j with ⟨i, hi, rfl⟩ | hn
        · rw [(hin i hi).1] at hb; exact h1.lt _ _ _ hi hb
        · rw [(hout j hn).1] at hb
          have hje : e.U j := by
            rcases hj with h | ⟨i, hi, he⟩
            · exact h
            · exact absurd he (hn i hi)
          exact Nat.lt_of_lt_of_le (hos.lt _ _ _ hje hb) hgrow
      · rcases h1.snew b i hs with h | h | h
        · exact hos.snew _ _ h
        · right; left
          have h' : e.w.heap.size ≤ b := h
          exact Nat.le_trans hos.size h'
        · exact .inr (hM b h)
      · have hb' : b < e.w.heap.size := Nat.lt_of_lt_of_le hb hos.size
        have : e1.w.heap[b]? = e.w.heap[b]? := hheap b hb' (fun h => by
          rcases hM b h with h' | h'
          · omega
          · exact hm h')
        exact this.trans (hos.block b hb hm)
    · rcases hj with h | ⟨i, hi, rfl⟩
      · exact .inl h
      · by_cases hi0 : i < k.n0
        · exact .inl (hpassU i hi0)
        · exact .inr (hnew i hi hi0)
  unfold Does at hcall ⊢
  rcases hcall with ⟨x, w', g1, g2⟩ | ⟨w', g1, g2⟩ | ⟨f', args', w1, g1, g2⟩
  · exact .inl ⟨x, w', g1, back x w' g2⟩
  · exact .inr (.inl ⟨w', g1, back _ w' g2⟩)
  · exact .inr (.inr ⟨f', args', w1, g1, g2.mono fun en w' ⟨x, h1, h2⟩ => ⟨x, h1, back x w' h2⟩⟩)
end Go.Eng

namespace Go.Eng
open Go.RowKit
variable {P : Program} {T : TT} {c : Ctx} {e eb : Env} {of : Nat → Option Obj}

/-! ### A table of types, held against the program -/
def aggB : Value → Bool
  | .agg _ => true
  | _ => false
def eqB (P : Program) (t : Nat) (d : TypeDesc) : Bool :=
  !(P.eqGuardType P.depth t) && !(P.stoodInHeld t) && (match d with | .struct gs => gs.toList.all fun f => f.name != "_" | _ => true)
theorem teok {t : Nat} {te : TE} (i : TypeInfo) (d : TypeDesc) (z : Value) (h1 : P.info? t = some i) (h2 : P.underlying t = some d) (h3 : i.zero = some z) (h4 : flat te.zero = some z.cells.toList)
    (h5 : (Nat.beq i.size te.size && Nat.beq i.bytes te.bytes && (te.k.agg == aggB z) && Nat.beq (wid te.zero) te.size && (!te.eq || eqB P t d)) = true) (h6 : te.k.fits d) : TEok P t te := by
  simp only [Bool.and_eq_true] at h5
  obtain ⟨⟨⟨⟨a1, a2⟩, a3⟩, a4⟩, a5⟩ := h5
  refine ⟨⟨i, d, z, h1, h2, Nat.eq_of_beq_eq_true a1, Nat.eq_of_beq_eq_true a2, h6, h3, h4, ?_⟩, Nat.eq_of_beq_eq_true a4, fun he => ?_⟩
  · have a3' : te.k.agg = aggB z := by simpa using a3
    rw [a3']
    cases z <;> simp [aggB]
  · rw [he] at a5
    simp only [Bool.not_true, Bool.false_or, eqB, Bool.and_eq_true, Bool.not_eq_true'] at a5
    obtain ⟨⟨b1, b2⟩, b3⟩ := a5
    refine ⟨b1, b2, fun gs hg f hf => ?_⟩
    rw [h2] at hg
    injection hg with hg; subst hg
    simpa using List.all_eq_true.1 b3 f hf
def ttOf : List (Nat × TE) → TT
  | [], _ => none
  | (k, v) :: r, t => if k = t then some v else ttOf r t
theorem tt_nil : (ttOf []).OK P := fun t te h => by cases h
theorem tt_cons {k : Nat} {v : TE} {r : List (Nat × TE)} (h : TEok P k v) (hr : (ttOf r).OK P) : (ttOf ((k, v) :: r)).OK P := by
  intro t te ht
  simp only [ttOf] at ht
  split at ht
  · rename_i he; subst he; injection ht with ht; subst ht; exact h
  · exact hr _ _ ht
end Go.Eng

namespace Go.Eng
open Go.RowKit
variable {P : Program} {T : TT} {c : Ctx} {e eb : Env} {of : Nat → Option Obj}

/-! ### Numbers of objects forgotten -/
def vals (l : List (Nat × AV)) : List AV := l.map (·.2)
structure Tidy (n : Nat) (σ : St) : Prop where
  c : clA (vals σ.sl)
  l : lowA n (vals σ.sl)
  co : clO σ.ob
  lo : lowO n σ.ob
def idn (i : Nat) : Nat := i
theorem ren0_id (v : AV) : ren0 idn v = v := by cases v <;> rfl
theorem map_ren0_id (l : List AV) : l.map (ren0 idn) = l := by
  induction l with
  | nil => rfl
  | cons v r ih => rw [List.map_cons, ren0_id, ih]
theorem ren1_id (v : AV) : ren1 idn v = v := by
  cases v <;> first | rfl | (simp only [ren1]; rw [map_ren0_id])
theorem ren_id (v : AV) : ren idn v = v := by
  cases v with
  | tu l =>
    simp only [ren]
    congr 1
    induction l with
    | nil => rfl
    | cons v r ih => rw [List.map_cons, ren1_id, ih]
  | _ => simp only [ren]; exact ren1_id _
theorem renO_id (o : Obj) : renO idn o = o := by
  cases o with
  | box l sh => simp only [renO]; rw [map_ren0_id]
  | row d v rows sh => rfl
def Env.cut (e : Env) (n : Nat) : Env := { e with U := fun i => e.U i ∧ i < n }
theorem back_cut (e : Env) (n : Nat) : Back idn n (e.cut n) e := ⟨rfl, fun _ _ => Iff.rfl, fun _ hi hu => ⟨hu, hi⟩, fun _ _ => rfl, fun _ _ => rfl⟩
theorem OSim.cut (h : OSim c e of) {n : Nat} {l : List (Nat × Obj)} (hs : ∀ id o, ofL l id = some o → of id = some o) (hc : clO l) (hl : lowO n l) : OSim c (e.cut n) (ofL l) := by
  have h' := h.sub hs
  refine ⟨fun id o ho => ?_, h'.sep, h'.own, fun id b o hu => h'.lt id b o hu.1, h'.slt, h'.s0, h'.snew, h'.os, h'.tape, h'.output, h'.size, h'.block⟩
  have hm := ofL_mem _ _ _ ho
  have hlow := lowO_mem hl _ hm
  exact (back_cut e n).ok hlow.1 (clO_mem hc _ hm) hlow.2 (by rw [renO_id]; exact h'.ok id o ho)
theorem mem_clA : ∀ {l : List AV}, clA l → ∀ v ∈ l, clV v := by
  intro l
  induction l with
  | nil => intro _ v hv; cases hv
  | cons u r ih =>
    intro h v hv
    rcases List.mem_cons.1 hv with rfl | hv
    · exact h.1
    · exact ih h.2 v hv
theorem mem_lowA {n : Nat} : ∀ {l : List AV}, lowA n l → ∀ v ∈ l, lowV n v := by
  intro l
  induction l with
  | nil => intro _ v hv; cases hv
  | cons u r ih =>
    intro h v hv
    rcases List.mem_cons.1 hv with rfl | hv
    · exact h.1
    · exact ih h.2 v hv
theorem getS_mem : ∀ (l : List (Nat × AV)) (t : Nat), getS l t = .junk ∨ getS l t ∈ vals l := by
  intro l
  induction l with
  | nil => intro t; exact .inl rfl
  | cons p r ih =>
    intro t
    obtain ⟨k, v⟩ := p
    simp only [getS, vals, List.map_cons]
    split
    · exact .inr (by simp)
    · rcases ih t with h | h
      · exact .inl h
      · exact .inr (List.mem_cons_of_mem _ h)
theorem Rep.cut {n : Nat} {v : AV} {x : Value} (h : Rep e v x) (hc : clV v) (hl : lowV n v) : Rep (e.cut n) v x :=
  (back_cut e n).rep (by rw [ren_id]; exact h) hc hl
theorem Env.le.cut (h : eb.le e) {n : Nat} (hb : ∀ id, eb.U id → id < n) : eb.le (e.cut n) :=
  ⟨h.S, fun id hu => ⟨h.use id hu, hb id hu⟩, h.obj, h.box, h.up, h.grow, h.keep⟩
theorem Sim.drop {nt : Nat} {σ σ' : St} {a : Act} {w : World} (h : Sim c eb nt σ a w) (h1 : selS σ'.sl σ = σ'.sl) (h2 : selO σ'.ob σ = obs σ'.ob) (h3 : Tidy σ'.nx σ') (hb : ∀ id, eb.U id → id < σ'.nx) : Sim c eb nt σ' a w := by
  obtain ⟨e, rfl, hst⟩ := h
  refine ⟨e.cut σ'.nx, rfl, hst.os.cut (selO_get _ h2) h3.co h3.lo, hst.le.cut hb, fun id hid => hid.2, fun t => ?_, hst.def_, hst.nt⟩
  rcases getS_mem σ'.sl t with h | h
  · rw [h]; trivial
  · rcases selS_get _ h1 t with h' | h'
    · rw [h']; trivial
    · refine Rep.cut ?_ (mem_clA h3.c _ h) (mem_lowA h3.l _ h)
      rw [h']; exact hst.sl t

/-! ### A piece of code, run -/
def outS (σ' : St) (o : Option Res) : Option (Prop × Exit × List (Nat × AV) × List (Nat × Option Obj) × Bool) :=
  o.map fun r => (r.pre, r.ex, selS σ'.sl r.st, selO σ'.ob r.st, Nat.ble r.st.nx σ'.nx)
def outD (σ σ' : St) (o : Option Res) : Option (Prop × Exit × List (Nat × AV) × List (Nat × Option Obj) × Bool) :=
  o.map fun r => (r.pre, r.ex, selS σ'.sl r.st, selO σ'.ob r.st, Nat.ble σ.nx σ'.nx)
theorem takes_run (hm : P.follows .mixedOrders = true) (hT : T.OK P) {nt : Nat} {code : Code} {σ σ' : St} {an : List Bn} {ex : Exit} {pre : Prop} (hp : pre)
    (hx : outS σ' (exec P T nt code σ an) = some (pre, ex, σ'.sl, obs σ'.ob, true)) : Takes P nt code σ ex σ' := by
  obtain ⟨r, hr, h⟩ := Option.map_eq_some_iff.1 hx
  simp only [Prod.mk.injEq] at h
  obtain ⟨h1, rfl, h2, h3, h4⟩ := h
  intro c eb a w hs
  refine Code.wp_mono ?_ (exec_ok hm hT code σ an r hr (by rw [h1]; exact hp) c eb a w hs)
  rintro ex a' w' ⟨rfl, hs'⟩
  exact ⟨rfl, hs'.weak h2 h3 h4⟩
theorem takes_drop (hm : P.follows .mixedOrders = true) (hT : T.OK P) {nt : Nat} {code : Code} {σ σ' : St} {an : List Bn} {ex : Exit} {pre : Prop} (ht : Tidy σ'.nx σ') (hp : pre)
    (hx : outD σ σ' (exec P T nt code σ an) = some (pre, ex, σ'.sl, obs σ'.ob, true)) : Takes P nt code σ ex σ' := by
  obtain ⟨r, hr, h⟩ := Option.map_eq_some_iff.1 hx
  simp only [Prod.mk.injEq] at h
  obtain ⟨h1, rfl, h2, h3, h4⟩ := h
  intro c eb a w hs
  have hb : ∀ id, eb.U id → id < σ'.nx := fun id hid => by
    obtain ⟨e, rfl, hst⟩ := hs
    exact Nat.lt_of_lt_of_le (hst.U id (hst.le.use id hid)) (Nat.le_of_ble_eq_true h4)
  refine Code.wp_mono ?_ (exec_ok hm hT code σ an r hr (by rw [h1]; exact hp) c eb a w hs)
  rintro ex a' w' ⟨rfl, hs'⟩
  exact ⟨rfl, hs'.drop h2 h3 ht hb⟩
/-- What a loop's annotation owes. -/
theorem lp {nt : Nat} {code : Code} {σ0 σ : St} {ex : Exit} (h : Takes P nt code σ0 ex σ) : (σ0.sl = σ0.sl ∧ obs σ0.ob = obs σ0.ob ∧ true = true) ∧ Takes P nt code σ0 ex σ := ⟨⟨rfl, rfl, rfl⟩, h⟩

/-- A loop: a family of states, each of which leads to one with the same outcome and a smaller measure, or out. -/
theorem loop_ok {nt : Nat} {body : Code} {ι : Type} (F : ι → St) (I : ι → Prop) (μ : ι → Nat) (ex : ι → Exit) (R : ι → St)
    (h : ∀ i, I i → (∃ j, I j ∧ μ j < μ i ∧ ex j = ex i ∧ R j = R i ∧ Takes P nt body (F i) .normal (F j)) ∨ (ex i ≠ .normal ∧ Takes P nt body (F i) (ex i) (R i))) :
    ∀ i, I i → Takes P nt (.loop body) (F i) (ex i) (R i) := by
  intro i0 hi0 c eb a w hs
  have key : ∀ n i a w, μ i ≤ n → I i → ex i = ex i0 → R i = R i0 → Sim c eb nt (F i) a w → Code.rounds P body (fun e a' w' => e = ex i0 ∧ Sim c eb nt (R i0) a' w') (n + 1) a w := by
    intro n
    induction n with
    | zero =>
      intro i a w hn hI he hR hs
      rcases h i hI with ⟨j, _, hlt, _⟩ | ⟨hne, ht⟩
      · omega
      · refine Code.wp_mono ?_ (ht c eb a w hs)
        rintro e a' w' ⟨rfl, hs'⟩
        rw [he] at hne ⊢
        rw [hR] at hs'
        cases hx : ex i0 <;> first | exact absurd hx hne | exact ⟨rfl, hs'⟩ | exact ⟨hx.symm, hs'⟩
    | succ n ih =>
      intro i a w hn hI he hR hs
      rcases h i hI with ⟨j, hj, hlt, hej, hRj, ht⟩ | ⟨hne, ht⟩
      · refine Code.wp_mono ?_ (ht c eb a w hs)
        rintro e a' w' ⟨rfl, hs'⟩
        exact ih j a' w' (by omega) hj (hej.trans he) (hRj.trans hR) hs'
      · refine Code.wp_mono ?_ (ht c eb a w hs)
        rintro e a' w' ⟨rfl, hs'⟩
        rw [he] at hne ⊢
        rw [hR] at hs'
        cases hx : ex i0 <;> first | exact absurd hx hne | exact ⟨rfl, hs'⟩ | exact ⟨hx.symm, hs'⟩
  exact wp_loop_rounds _ (key (μ i0) i0 a w (Nat.le_refl _) hi0 rfl rfl hs)
end Go.Eng

namespace Go.Eng
open Go.RowKit
variable {P : Program} {T : TT} {c : Ctx} {e eb : Env} {of : Nat → Option Obj}

/-! ### A function, run -/
def endB : Exit → Bool
  | .ret | .normal => true
  | _ => false
def outR (T : TT) (rs : List ResultVar) (ob' : List (Nat × Obj)) (o : Option Res) : Option (Prop × AV × List (Nat × Option Obj) × Bool) :=
  match o with
  | some r => match resAV T r.st rs with
    | some (v, _) => some (r.pre, v, selO ob' r.st, endB r.ex)
    | none => none
  | none => none
structure Con.Tidy (k : Con) : Prop where
  le : k.n0 ≤ k.n1
  cres : clV k.res
  lres : lowV k.n1 k.res
  cob' : clO k.ob'
  lob' : lowO k.n1 k.ob'
theorem callee_run (hm : P.follows .mixedOrders = true) (hT : T.OK P) {f : FuncId} {fn : Func} {code : Code} (hf : P.funcs[f]? = some fn) (hb : fn.body = some code) (hn : (fn.name == "runtime.NumGoroutine") = false) {k : Con} {an : List Bn} {v : AV} {pre : Prop}
    (hargs : Nat.ble k.args.length fn.ntmps = true) (ht : k.Tidy) (hp : pre) (hv : v = k.res)
    (hx : outR T fn.results.toList k.ob' (exec P T fn.ntmps code ⟨argS 0 k.args, k.ob, k.n0⟩ an) = some (pre, v, obs k.ob', true)) : CalleeOK P f k := by
  unfold outR at hx
  split at hx <;> try (cases hx; done)
  rename_i r hr
  split at hx <;> try (cases hx; done)
  rename_i v0 q hres
  simp only [Option.some.injEq, Prod.mk.injEq] at hx
  obtain ⟨h1, rfl, h3, h4⟩ := hx
  subst hv
  have hend : r.ex = .ret ∨ r.ex = .normal := by
    cases he : r.ex <;> rw [he] at h4 <;> simp [endB] at h4 <;> simp
  have key := callee_of_exec hm hT hf hb hn (k := { k with n1 := max k.n1 r.st.nx, ob' := k.ob' }) hr (Nat.le_of_ble_eq_true hargs) hend hres
    (fun _ => ⟨by rw [h1]; exact hp, rfl, fun p hpm => by
      have := List.map_inj_left.1 h3 p hpm
      simp only [Prod.mk.injEq, true_and] at this
      exact this, by simp; omega⟩)
  intro hk c e vals hos hU hvals
  have := key hk c e vals hos hU hvals
  have fin : ∀ x w', (∃ e', e'.w = w' ∧ OSim c e' (ofL k.ob') ∧ e.le e' ∧ (∀ id, e'.U id → id < max k.n1 r.st.nx) ∧ Rep e' k.res x) →
      ∃ e', e'.w = w' ∧ OSim c e' (ofL k.ob') ∧ e.le e' ∧ (∀ id, e'.U id → id < k.n1) ∧ Rep e' k.res x := by
    rintro x w' ⟨e', rfl, g1, g2, g3, g4⟩
    exact ⟨e'.cut k.n1, rfl, g1.cut (fun _ _ h => h) ht.cob' ht.lob', g2.cut (fun id hid => Nat.lt_of_lt_of_le (hU id hid) ht.le), fun id hid => hid.2, g4.cut ht.cres ht.lres⟩
  unfold Does at this ⊢
  rcases this with ⟨x, w', g1, g2⟩ | ⟨w', g1, g2⟩ | ⟨f', args', w1, g1, g2⟩
  · exact .inl ⟨x, w', g1, fin _ _ g2⟩
  · exact .inr (.inl ⟨w', g1, fin _ _ g2⟩)
  · exact .inr (.inr ⟨f', args', w1, g1, g2.mono fun en w' ⟨x, h1, h2⟩ => ⟨x, h1, fin _ _ h2⟩⟩)

/-! ### Functions that take and give values alone -/
def symP (args : List AV) (res : AV) : Sym := fun a _ _ => some ⟨res, [], [], [], a = args⟩
/-- A value that hangs on no object. -/
def pvA (l : List AV) : Prop := clA l ∧ lowA 0 l
def pv (v : AV) : Prop := clV v ∧ lowV 0 v
theorem low0_ren {ρ : Nat → Nat} {v : AV} (h : low0 0 v) : ren0 ρ v = v := by
  cases v <;> first | rfl | (simp [low0] at h)
theorem lowL_ren {ρ : Nat → Nat} : ∀ {l : List AV}, lowL 0 l → l.map (ren0 ρ) = l := by
  intro l
  induction l with
  | nil => intro _; rfl
  | cons v r ih => intro h; rw [List.map_cons, low0_ren h.1, ih h.2]
theorem low1_ren {ρ : Nat → Nat} {v : AV} (h : low1 0 v) : ren1 ρ v = v := by
  cases v with
  | ag l => simp only [ren1]; rw [lowL_ren h]
  | _ => simp only [ren1]; exact low0_ren h
theorem lowL1_ren {ρ : Nat → Nat} : ∀ {l : List AV}, lowL1 0 l → l.map (ren1 ρ) = l := by
  intro l
  induction l with
  | nil => intro _; rfl
  | cons v r ih => intro h; rw [List.map_cons, low1_ren h.1, ih h.2]
theorem lowV_ren {ρ : Nat → Nat} {v : AV} (h : lowV 0 v) : ren ρ v = v := by
  cases v with
  | tu l => simp only [ren]; rw [lowL1_ren h]
  | _ => simp only [ren]; exact low1_ren h
theorem lowA_ren {ρ : Nat → Nat} : ∀ {l : List AV}, lowA 0 l → l.map (ren ρ) = l := by
  intro l
  induction l with
  | nil => intro _; rfl
  | cons v r ih => intro h; rw [List.map_cons, lowV_ren h.1, ih h.2]
theorem symP_of {f : FuncId} {args : List AV} {res : AV} (ha : pvA args) (hr : pv res) (h : CalleeOK P f ⟨0, args, [], True, res, [], 0⟩) : SymOK P f (symP args res) := by
  intro c e of of' as vals nx out hos hs hp hro hu hvals
  simp only [symP, Option.some.injEq] at hs
  subst hs
  have hp : as = args := hp
  subst hp
  have hfit : Con.Fit ⟨0, as, [], True, res, [], 0⟩ [] := ⟨rfl, List.nodup_nil, Nat.le_refl _, fun i hi => (by cases hi), fun i hi => (by cases hi), List.nodup_nil, ha.1, ha.2, trivial, trivial, hr.1, trivial⟩
  have := sym_of_callee h [] c e of of' as vals nx _ hos rfl ⟨trivial, (lowA_ren ha.2).symm, rfl, hfit⟩ (fun id hid => by cases hid) (fun id hid => by simp at hid) hvals
  simp only [lowV_ren hr.2] at this
  exact this
theorem pure_run (hm : P.follows .mixedOrders = true) (hT : T.OK P) {f : FuncId} {fn : Func} {code : Code} (hf : P.funcs[f]? = some fn) (hb : fn.body = some code) (hn : (fn.name == "runtime.NumGoroutine") = false) {args : List AV} {res : AV} {an : List Bn} {v : AV} {pre : Prop}
    (hargs : Nat.ble args.length fn.ntmps = true) (ha : pvA args) (hr : pv res) (hp : pre) (hv : v = res)
    (hx : outR T fn.results.toList [] (exec P T fn.ntmps code ⟨argS 0 args, [], 0⟩ an) = some (pre, v, [], true)) : SymOK P f (symP args res) :=
  symP_of ha hr (callee_run hm hT hf hb hn (k := ⟨0, args, [], True, res, [], 0⟩) hargs ⟨Nat.le_refl _, hr.1, hr.2, trivial, trivial⟩ hp hv hx)
/-- What a call owes. -/
theorem cp {f : FuncId} {args : List AV} {res : AV} (h : SymOK P f (symP args res)) : SymOK P f (symP args res) ∧ args = args := ⟨h, rfl⟩
structure Con.Good (k : Con) : Prop where
  le : k.n0 ≤ k.n1
  has : ∀ i, i < k.n0 → (ofL k.ob i).isSome = true
  has' : ∀ i, i < k.n0 → (ofL k.ob' i).isSome = true
  nodup' : (k.ob'.map (·.1)).Nodup
  cargs : clA k.args
  largs : lowA k.n0 k.args
  cob : clO k.ob
  lob : lowO k.n0 k.ob
  cres : clV k.res
  cob' : clO k.ob'
theorem cl {f : FuncId} {k : Con} (p : List Nat) (nx : Nat) (h : CalleeOK P f k) (hg : k.Good) (hp : k.pre) (h1 : p.length = k.n0) (h2 : p.Nodup) :
    SymOK P f (symOf k p) ∧ (k.pre ∧ k.args.map (ren (rho k.n0 p nx)) = k.args.map (ren (rho k.n0 p nx)) ∧ (k.ob.map fun q => some (renO (rho k.n0 p nx) q.2)) = (k.ob.map fun q => some (renO (rho k.n0 p nx) q.2)) ∧ k.Fit p) :=
  ⟨sym_of_callee h p, hp, rfl, rfl, h1, h2, hg.le, hg.has, hg.has', hg.nodup', hg.cargs, hg.largs, hg.cob, hg.lob, hg.cres, hg.cob'⟩

/-! ### Loops of a function -/
def loopsOf : Code → List Code
  | .seq x y => loopsOf x ++ loopsOf y
  | .cond _ x y => loopsOf x ++ loopsOf y
  | .block _ b => loopsOf b
  | .loop b => b :: loopsOf b
  | _ => []
def bodyOf (fn : Func) : Code := fn.body.getD .skip
def nthLoop (fn : Func) (k : Nat) : Code := (loopsOf (bodyOf fn)).getD k .skip

/-! ### Functions of the machine -/
theorem sym_value {f : FuncId} {args : List AV} {res : AV} (h : ∀ (e : Env) (vals : List Value), Reps e args vals → ∀ w, ∃ x, (callFunc f vals.toArray).run P w = .ok (.value x) w ∧ Rep e res x) : SymOK P f (symP args res) := by
  intro c e of of' as vals nx out hos hs hp hro hu hvals
  simp only [symP, Option.some.injEq] at hs
  subst hs
  have hp : as = args := hp
  subst hp
  obtain ⟨x, hx, hr⟩ := h e _ hvals e.w
  exact .inl ⟨x, e.w, by simpa using hx, left_same hos hr⟩
abbrev u64 (n : Int) : AV := .pl (.int .u64 n)
abbrev u32 (n : Int) : AV := .pl (.int .u32 n)
abbrev u8 (n : Int) : AV := .pl (.int .u8 n)
abbrev i64 (n : Int) : AV := .pl (.int .i64 n)
abbrev bl (b : Bool) : AV := .pl (.bool b)
abbrev st (s : ByteArray) : AV := .pl (.string s)
theorem reps_pl3 {a b d : Value} {vals : List Value} (h : Reps e [.pl a, .pl b, .pl d] vals) : vals = [a, b, d] := by
  cases h with | cons h1 h => cases h with | cons h2 h => cases h with | cons h3 h =>
  cases h
  rw [rep_pl_inv h1, rep_pl_inv h2, rep_pl_inv h3]
theorem rep_tu2 {a b : Value} (ha : one a = true) (hb : one b = true) : Rep e (.tu [.pl a, .pl b]) (.tuple #[a, b]) := by
  refine ⟨#[a, b], rfl, rfl, fun i v x hv hx => ?_⟩
  match i, hv, hx with
  | 0, hv, hx => simp at hv hx; subst hv; subst hx; exact rep_pl ha
  | 1, hv, hx => simp at hv hx; subst hv; subst hx; exact rep_pl hb
  | i + 2, hv, hx => simp at hv
def sub64Entry : Array Value → Sem Value := fun args => do
  let (x, y, b) ← Extern.MathBitsCarry.three "Sub64" args
  pure (Extern.MathBitsCarry.pair ((x + Extern.MathBitsCarry.m64 - y - b) % Extern.MathBitsCarry.m64) (if x < y + b then 1 else 0))
theorem run_sub64 (x y b : Nat) (hb : b ≤ 1) (w : World) :
    (sub64Entry #[.int .u64 x, .int .u64 y, .int .u64 b]).run P w =
      .ok (.tuple #[.int .u64 (((x + 18446744073709551616 - y - b) % 18446744073709551616 : Nat) : Int), .int .u64 ((if x < y + b then 1 else 0 : Nat) : Int)]) w := by
  have : b = 0 ∨ b = 1 := by omega
  rcases this with rfl | rfl <;> rfl
theorem add64_ok {f : FuncId} {fn : Func} (hf : P.funcs[f]? = some fn) (hname : (fn.name == "runtime.NumGoroutine") = false) (hb : fn.body.isNone = true) (hn : Extern.findNext fn = none) (he : Extern.find fn = some add64Entry)
    (x y c : Int) (h : 0 ≤ x ∧ 0 ≤ y ∧ 0 ≤ c ∧ c ≤ 1) : SymOK P f (symP [u64 x, u64 y, u64 c] (.tu [u64 ((x + y + c) % 18446744073709551616), u64 ((x + y + c) / 18446744073709551616)])) := by
  refine sym_value fun e vals h' w => ?_
  rw [reps_pl3 h']
  refine ⟨_, ?_, rep_tu2 rfl rfl⟩
  rw [run_callFunc_extern hf hname hb hn he]
  rw [run_add64 x y c h.1 h.2.1 h.2.2.1 h.2.2.2]
  rfl
theorem sub64_ok {f : FuncId} {fn : Func} (hf : P.funcs[f]? = some fn) (hname : (fn.name == "runtime.NumGoroutine") = false) (hb : fn.body.isNone = true) (hn : Extern.findNext fn = none) (he : Extern.find fn = some sub64Entry)
    (x y c : Int) (h : 0 ≤ x ∧ 0 ≤ y ∧ y < 18446744073709551616 ∧ 0 ≤ c ∧ c ≤ 1) : SymOK P f (symP [u64 x, u64 y, u64 c] (.tu [u64 ((x - y - c) % 18446744073709551616), u64 (if x < y + c then 1 else 0)])) := by
  obtain ⟨h1, h2, h3, h4, h5⟩ := h
  obtain ⟨x, rfl⟩ := Int.eq_ofNat_of_zero_le h1
  obtain ⟨y, rfl⟩ := Int.eq_ofNat_of_zero_le h2
  obtain ⟨c, rfl⟩ := Int.eq_ofNat_of_zero_le h4
  refine sym_value fun e vals h' w => ?_
  rw [reps_pl3 h']
  refine ⟨_, ?_, rep_tu2 rfl rfl⟩
  rw [run_callFunc_extern hf hname hb hn he]
  rw [run_sub64 x y c (by omega)]
  have e1 : (((x + 18446744073709551616 - y - c) % 18446744073709551616 : Nat) : Int) = ((x : Int) - y - c) % 18446744073709551616 := by omega
  have e2 : (((if x < y + c then 1 else 0 : Nat)) : Int) = if (x : Int) < y + c then 1 else 0 := by
    by_cases hlt : x < y + c
    · rw [if_pos hlt, if_pos (by omega)]; rfl
    · rw [if_neg hlt, if_neg (by omega)]; rfl
  rw [e1, e2]
  rfl

/-! ### Short names for what is owed -/
theorem ii {a b : Prop} (x : a) (y : b) : a ∧ b := ⟨x, y⟩
theorem tt : True := trivial
theorem uu {a : Prop} (x : a) : (True ∧ True) ∧ a := ⟨⟨trivial, trivial⟩, x⟩
theorem pp {a b : Prop} (y : b) (x : a) : (True ∧ b) ∧ a := ⟨⟨trivial, y⟩, x⟩
end Go.Eng

namespace Go.Eng
open Go.RowKit
variable {P : Program} {T : TT}

/-! ### What is owed, in short words -/
theorem cu64 {x y : Int} (h : x = y) : u64 x = u64 y := by rw [h]
theorem ci64 {x y : Int} (h : x = y) : i64 x = i64 y := by rw [h]
theorem cu32 {x y : Int} (h : x = y) : u32 x = u32 y := by rw [h]
theorem cu8 {x y : Int} (h : x = y) : u8 x = u8 y := by rw [h]
theorem tf (b : Bool) : b = true ∨ b = false := by cases b <;> simp
theorem nboolt {b : Bool} (h : (!b) = true) : b = false := by simpa using h
theorem nboolf {b : Bool} (h : (!b) = false) : b = true := by simpa using h
theorem ne_of_beqf {a b : Int} (h : (a == b) = false) : a ≠ b := by simpa using h
theorem ne_of_bnet {a b : Int} (h : (a != b) = true) : a ≠ b := by simpa using h
theorem eq_of_bnef {a b : Int} (h : (a != b) = false) : a = b := by simpa using h
theorem nilp (z : Nat) (h : 0 < z) : 0 = 0 ∧ 0 = 0 ∧ 0 < z := ⟨rfl, rfl, h⟩
theorem ip (k : IntKind) (op : BinOp) : True ∧ (k = k ∨ op = .shl ∨ op = .shr) := ⟨trivial, .inl rfl⟩
theorem qp (k : IntKind) (op : BinOp) {b : Int} (h : b ≠ 0) : b ≠ 0 ∧ (k = k ∨ op = .shl ∨ op = .shr) := ⟨h, .inl rfl⟩
theorem shlp (k k' : IntKind) {b : Int} (h : 0 ≤ b) : 0 ≤ b ∧ (k = k' ∨ BinOp.shl = .shl ∨ BinOp.shl = .shr) := ⟨h, .inr (.inl rfl)⟩
theorem shrp (k k' : IntKind) {b : Int} (h : 0 ≤ b) : 0 ≤ b ∧ (k = k' ∨ BinOp.shr = .shl ∨ BinOp.shr = .shr) := ⟨h, .inr (.inr rfl)⟩
theorem wrap_in {k : IntKind} {t : Int} (h : k.min ≤ t ∧ t ≤ k.max) : k.wrap t = t := by
  obtain ⟨h1, h2⟩ := h
  cases k <;> simp only [IntKind.wrap, IntKind.min, IntKind.max, IntKind.bits, IntKind.signed] at * <;> simp at * <;> omega
theorem nw (k : IntKind) {t : Int} (h : k.min ≤ t ∧ t ≤ k.max) : AV.pl (.int k (k.wrap t)) = .pl (.int k t) := by rw [wrap_in h]
theorem tdiv_in {a b : Int} (h : 0 ≤ a) : Int.tdiv a b = a / b := Int.tdiv_eq_ediv_of_nonneg h
theorem nquo (k : IntKind) {a b : Int} (h : 0 ≤ a ∧ a ≤ k.max ∧ 0 < b) : AV.pl (.int k (k.wrap (Int.tdiv a b))) = .pl (.int k (a / b)) := by
  rw [tdiv_in h.1, wrap_in]
  have h1 : 0 ≤ a / b := Int.ediv_nonneg h.1 (by omega)
  have h2 : a / b ≤ a := Int.ediv_le_self b h.1
  refine ⟨?_, by omega⟩
  have : k.min ≤ 0 := by cases k <;> decide
  omega
theorem nrem (k : IntKind) {a : Int} (h : 0 ≤ a) (b : Int) : AV.pl (.int k (Int.tmod a b)) = .pl (.int k (a % b)) := by rw [Int.tmod_eq_emod_of_nonneg h]
theorem nshr (k : IntKind) (a : Int) (s : Nat) (h : s < k.bits := by decide) : AV.pl (.int k (Int.fdiv a (2 ^ min (Int.toNat s) k.bits))) = .pl (.int k (a / 2 ^ s)) := by
  have : min (Int.toNat s) k.bits = s := by simp; omega
  rw [this, Int.fdiv_eq_ediv_of_nonneg _ (Int.pow_nonneg (by omega))]
theorem nshl (k : IntKind) {a : Int} (s : Nat) (hs : s < k.bits) (h : k.min ≤ a * 2 ^ s ∧ a * 2 ^ s ≤ k.max) : AV.pl (.int k (k.wrap (a * 2 ^ min (Int.toNat s) k.bits))) = .pl (.int k (a * 2 ^ s)) := by
  have : min (Int.toNat s) k.bits = s := by simp; omega
  rw [this, wrap_in h]
theorem bitsOf_mask {k : IntKind} {a : Int} (n : Nat) (hn : n < k.bits) (h : 0 ≤ a ∧ a ≤ k.max) : bitsOf .and k a (2 ^ n - 1) = a % 2 ^ n := by
  obtain ⟨A, rfl⟩ := Int.eq_ofNat_of_zero_le h.1
  have hb : ((2 : Int) ^ n - 1) = ((2 ^ n - 1 : Nat) : Int) := by
    have := Nat.one_le_two_pow (n := n)
    rw [Int.natCast_sub this]; simp
  have hmax : k.max < 2 ^ k.bits := by cases k <;> decide
  have hmax' : (A : Int) < ((2 ^ k.bits : Nat) : Int) := by
    have : ((2 ^ k.bits : Nat) : Int) = (2 : Int) ^ k.bits := by simp
    omega
  have hA : A < 2 ^ k.bits := by omega
  have hn2 : 2 ^ n - 1 < 2 ^ k.bits := by
    have := Nat.pow_lt_pow_right (a := 2) (by omega) hn
    omega
  have e1 : (BitVec.ofInt k.bits (A : Int)).toNat = A := by
    rw [BitVec.toNat_ofInt]
    have : (A : Int) % ((2 ^ k.bits : Nat) : Int) = A := Int.emod_eq_of_lt (by omega) hmax'
    rw [this]; simp
  have e2 : (BitVec.ofInt k.bits ((2 ^ n - 1 : Nat) : Int)).toNat = 2 ^ n - 1 := by
    rw [BitVec.toNat_ofInt]
    have : ((2 ^ n - 1 : Nat) : Int) % ((2 ^ k.bits : Nat) : Int) = ((2 ^ n - 1 : Nat) : Int) := Int.emod_eq_of_lt (by omega) (by omega)
    rw [this]; simp
  simp only [bitsOf]
  rw [hb, BitVec.toNat_and, e1, e2, Nat.and_two_pow_sub_one_eq_mod]
  have hle : A % 2 ^ n ≤ A := Nat.mod_le _ _
  rw [wrap_in]
  · simp
  · refine ⟨?_, by omega⟩
    have : k.min ≤ 0 := by cases k <;> decide
    omega
theorem nmask (k : IntKind) {a : Int} (n : Nat) (h : 0 ≤ a ∧ a ≤ k.max) (hn : n < k.bits := by decide) : AV.pl (.int k (bitsOf .and k a (2 ^ n - 1))) = .pl (.int k (a % 2 ^ n)) := by rw [bitsOf_mask n hn h]
theorem nquoN (k : IntKind) {a : Nat} (b : Nat) (h : (a : Int) ≤ k.max) (hb : 0 < b) : AV.pl (.int k (k.wrap (Int.tdiv a b))) = .pl (.int k ((a / b : Nat) : Int)) := by
  rw [nquo k ⟨Int.natCast_nonneg a, h, by omega⟩]; rfl
theorem nremN (k : IntKind) (a b : Nat) : AV.pl (.int k (Int.tmod a b)) = .pl (.int k ((a % b : Nat) : Int)) := by
  rw [nrem k (Int.natCast_nonneg a)]; rfl
theorem nshrN (k : IntKind) (a s : Nat) (h : s < k.bits := by decide) : AV.pl (.int k (Int.fdiv a (2 ^ min (Int.toNat s) k.bits))) = .pl (.int k ((a / 2 ^ s : Nat) : Int)) := by
  rw [nshr k a s h]; simp
theorem nmaskN (k : IntKind) {a : Nat} (n : Nat) (h : (a : Int) ≤ k.max) (hn : n < k.bits := by decide) : AV.pl (.int k (bitsOf .and k a (2 ^ n - 1))) = .pl (.int k ((a % 2 ^ n : Nat) : Int)) := by
  rw [nmask k n ⟨by omega, h⟩ hn]; simp
theorem row_eq (id : Nat) (d : List AV) (ver : Nat) (sh : Bool) {r r' : List (List AV)} (h : r = r') : [(id, Obj.row d ver r sh)] = [(id, Obj.row d ver r' sh)] := by rw [h]
theorem dtk (rows : List (List AV)) (n : Nat) (h : n = rows.length) : (rows.drop 0).take n = rows := by subst h; simp
theorem re0 (id ver z : Nat) (i : Int) : AV.re id ver z (((0 : Nat) : Int) + i) 0 = .re id ver z i 0 := by simp
theorem nmax (k : IntKind) (a b : Int) : AV.pl (.int k (if a < b then b else a)) = .pl (.int k (max a b)) := by
  congr 2; omega
theorem nmin (k : IntKind) (a b : Int) : AV.pl (.int k (if b < a then b else a)) = .pl (.int k (min a b)) := by
  congr 2; omega

/-! ### Values that hang on no object -/
def pv0 (v : AV) : Prop := cl0 v ∧ low0 0 v
def pvL (l : List AV) : Prop := clL l ∧ lowL 0 l
def pv1 (v : AV) : Prop := cl1 v ∧ low1 0 v
def pvL1 (l : List AV) : Prop := clL1 l ∧ lowL1 0 l
@[simp] theorem pvA_nil : pvA [] := ⟨trivial, trivial⟩
@[simp] theorem pvA_cons {v : AV} {r : List AV} : pvA (v :: r) ↔ pv v ∧ pvA r := by simp only [pvA, pv, clA, lowA]; constructor <;> (rintro ⟨⟨a, b⟩, c, d⟩; exact ⟨⟨a, c⟩, b, d⟩)
@[simp] theorem pv_tu {l : List AV} : pv (.tu l) ↔ pvL1 l := Iff.rfl
@[simp] theorem pvL1_nil : pvL1 [] := ⟨trivial, trivial⟩
@[simp] theorem pvL1_cons {v : AV} {r : List AV} : pvL1 (v :: r) ↔ pv1 v ∧ pvL1 r := by simp only [pvL1, pv1, clL1, lowL1]; constructor <;> (rintro ⟨⟨a, b⟩, c, d⟩; exact ⟨⟨a, c⟩, b, d⟩)
@[simp] theorem pvL_nil : pvL [] := ⟨trivial, trivial⟩
@[simp] theorem pvL_cons {v : AV} {r : List AV} : pvL (v :: r) ↔ pv0 v ∧ pvL r := by simp only [pvL, pv0, clL, lowL]; constructor <;> (rintro ⟨⟨a, b⟩, c, d⟩; exact ⟨⟨a, c⟩, b, d⟩)
@[simp] theorem pv_pl {x : Value} : pv (.pl x) := ⟨trivial, trivial⟩
@[simp] theorem pv1_pl {x : Value} : pv1 (.pl x) := ⟨trivial, trivial⟩
@[simp] theorem pv0_pl {x : Value} : pv0 (.pl x) := ⟨trivial, trivial⟩
@[simp] theorem pv_ag {l : List AV} : pv (.ag l) ↔ pvL l := Iff.rfl
@[simp] theorem pv1_ag {l : List AV} : pv1 (.ag l) ↔ pvL l := Iff.rfl
/-- Lists of pieces that hang on no object at any depth. -/
inductive PL : List AV → Prop
  | nil : PL []
  | pl {v r} : PL r → PL (.pl v :: r)
  | junk {r} : PL r → PL (.junk :: r)
  | em {r} : PL r → PL (.em :: r)
  | ar {n l r} : PL l → PL r → PL (.ar n l :: r)
  | sl {d rows r} : PL rows.flatten → PL r → PL (.sl d rows :: r)
  | rp {l r} : PL l → PL r → PL (.rp l :: r)
theorem PL.append {a b : List AV} (h : PL a) (k : PL b) : PL (a ++ b) := by
  induction h with
  | nil => exact k
  | pl _ ih => exact .pl ih
  | junk _ ih => exact .junk ih
  | em _ ih => exact .em ih
  | ar h _ _ ih => exact .ar h ih
  | sl h _ _ ih => exact .sl h ih
  | rp h _ _ ih => exact .rp h ih
theorem PL.clean {l : List AV} (h : PL l) : Clean l := by
  intro e e' xs hw hS
  induction h generalizing xs with
  | nil => intro h; cases h; exact .nil
  | pl _ ih => intro h; cases h with | pl h1 h2 => exact .pl h1 (ih _ h2)
  | junk _ ih => intro h; cases h with | junk x h1 h2 => exact .junk x h1 (ih _ h2)
  | em _ ih => intro h; cases h with | em h2 => exact .em (ih _ h2)
  | ar _ _ ih1 ih2 => intro h; cases h with | ar h1 h2 h3 => exact .ar (ih1 _ h1) h2 (ih2 _ h3)
  | sl _ _ ih1 ih2 =>
    intro h
    cases h with
    | sl h1 h2 h3 h4 h5 h6 h7 => exact .sl h1 (ih1 _ h2) h3 h4 h5 (fun j y hj => ⟨by rw [hw]; exact (h6 j y hj).1, hS _ _ (h6 j y hj).2⟩) (ih2 _ h7)
    | sl0 h7 => exact .sl0 (ih2 _ h7)
  | rp _ _ ih1 ih2 => intro h; cases h with | rp h1 h2 h3 h4 => exact .rp (ih1 _ h1) h2 (fun j y hj => ⟨by rw [hw]; exact (h3 j y hj).1, hS _ _ (h3 j y hj).2⟩) (ih2 _ h4)
theorem PL.map {α : Type} {f : α → List AV} (h : ∀ x, PL (f x)) (l : List α) : PL (l.map f).flatten := by
  induction l with
  | nil => exact .nil
  | cons x r ih => rw [List.map_cons, List.flatten_cons]; exact (h x).append ih
@[simp] theorem pv0_ar {n : Nat} {l : List AV} : pv0 (.ar n l) ↔ Clean l := ⟨fun h => h.1, fun h => ⟨h, trivial⟩⟩
@[simp] theorem pv0_sl {d : List AV} {rows : List (List AV)} : pv0 (.sl d rows) ↔ Clean rows.flatten := ⟨fun h => h.1, fun h => ⟨h, trivial⟩⟩
@[simp] theorem pv_sl {d : List AV} {rows : List (List AV)} : pv (.sl d rows) ↔ Clean rows.flatten := ⟨fun h => h.1, fun h => ⟨h, trivial⟩⟩
@[simp] theorem pv1_sl {d : List AV} {rows : List (List AV)} : pv1 (.sl d rows) ↔ Clean rows.flatten := ⟨fun h => h.1, fun h => ⟨h, trivial⟩⟩
@[simp] theorem clean_nil : Clean [] := PL.nil.clean
theorem clean_pls {l : List AV} (h : ∀ v ∈ l, ∃ x, v = .pl x) : Clean l := by
  refine PL.clean ?_
  induction l with
  | nil => exact .nil
  | cons v r ih =>
    obtain ⟨x, rfl⟩ := h v (by simp)
    exact .pl (ih fun v hv => h v (by simp [hv]))
@[simp] theorem one_int (k : IntKind) (n : Int) : one (.int k n) = true := rfl
@[simp] theorem one_bool (b : Bool) : one (.bool b) = true := rfl
@[simp] theorem one_string (s : ByteArray) : one (.string s) = true := rfl
@[simp] theorem one_slice (a : Option Addr) (n c : Nat) : one (.slice a n c) = true := rfl
@[simp] theorem one_pointer (a : Option Addr) : one (.pointer a) = true := rfl
@[simp] theorem clean_cons_pl {x : Value} {r : List AV} (hx : one x = true) : Clean (.pl x :: r) ↔ Clean r := by
  constructor
  · intro h e e' xs hw hS hr
    cases h e e' (x :: xs) hw hS (.pl hx hr) with | pl h1 h2 => exact h2
  · intro h e e' xs hw hS hr
    cases hr with | pl h1 h2 => exact .pl h1 (h e e' _ hw hS h2)
@[simp] theorem clean_cons_u64 {x : Int} {r : List AV} : Clean (u64 x :: r) ↔ Clean r := clean_cons_pl rfl
@[simp] theorem clean_cons_u32 {x : Int} {r : List AV} : Clean (u32 x :: r) ↔ Clean r := clean_cons_pl rfl
@[simp] theorem clean_cons_u8 {x : Int} {r : List AV} : Clean (u8 x :: r) ↔ Clean r := clean_cons_pl rfl
@[simp] theorem clean_replicate_pl {x : Value} {n : Nat} : Clean (List.replicate n (.pl x)) := clean_pls (fun _ hv => ⟨x, (List.mem_replicate.1 hv).2⟩)

/-! ### Loops with one outcome -/
theorem loop_to {nt : Nat} {body : Code} {ι : Type} (F : ι → St) (I : ι → Prop) (μ : ι → Nat) {ex : Exit} {R : St} (hex : ex ≠ .normal)
    (h : ∀ i, I i → (∃ j, I j ∧ μ j < μ i ∧ Takes P nt body (F i) .normal (F j)) ∨ Takes P nt body (F i) ex R) (i : ι) (hi : I i) : Takes P nt (.loop body) (F i) ex R :=
  loop_ok F I μ (fun _ => ex) (fun _ => R) (fun i hi => (h i hi).elim (fun ⟨j, a, b, c⟩ => .inl ⟨j, a, b, rfl, rfl, c⟩) (fun k => .inr ⟨hex, k⟩)) i hi
end Go.Eng

namespace Go.Eng
/-! ### Numbers of 256 bits -/
def lm (a k : Nat) : Int := ((a / 2 ^ (64 * k) % 2 ^ 64 : Nat) : Int)
def wP (a : Nat) : AV := .ar 4 [u64 (lm a 0), u64 (lm a 1), u64 (lm a 2), u64 (lm a 3)]
theorem wP_eq {a : Nat} {x0 x1 x2 x3 : Int} (h0 : x0 = lm a 0) (h1 : x1 = lm a 1) (h2 : x2 = lm a 2) (h3 : x3 = lm a 3) : AV.ar 4 [u64 x0, u64 x1, u64 x2, u64 x3] = wP a := by subst h0; subst h1; subst h2; subst h3; rfl
@[simp] theorem pv0_wP (a : Nat) : pv0 (wP a) := pv0_ar.2 (clean_pls (by simp))
theorem lm_lo (a k : Nat) : 0 ≤ lm a k := Int.natCast_nonneg _
theorem lm_hi (a k : Nat) : lm a k < 18446744073709551616 := by
  have : a / 2 ^ (64 * k) % 2 ^ 64 < 2 ^ 64 := Nat.mod_lt _ (by decide)
  unfold lm; omega
theorem lm_rng (a k : Nat) : 0 ≤ lm a k ∧ lm a k ≤ 18446744073709551615 := ⟨lm_lo a k, by have := lm_hi a k; omega⟩
/-- What is carried into a place. -/
def cy (a b k : Nat) : Int := (((a % 2 ^ (64 * k) + b % 2 ^ (64 * k)) / 2 ^ (64 * k) : Nat) : Int)
theorem cy_zero (a b : Nat) : cy a b 0 = 0 := by simp [cy, Nat.mod_one]
theorem pow_succ64 (k : Nat) : 2 ^ (64 * (k + 1)) = 2 ^ (64 * k) * 2 ^ 64 := by rw [Nat.mul_add, Nat.pow_add]
theorem cy_lo (a b k : Nat) : 0 ≤ cy a b k := Int.natCast_nonneg _
theorem cy_hi (a b k : Nat) : cy a b k ≤ 1 := by
  have hM : 0 < 2 ^ (64 * k) := Nat.two_pow_pos _
  have h1 := Nat.mod_lt a hM
  have h2 := Nat.mod_lt b hM
  have : (a % 2 ^ (64 * k) + b % 2 ^ (64 * k)) / 2 ^ (64 * k) < 2 := by rw [Nat.div_lt_iff_lt_mul hM]; omega
  unfold cy; omega
theorem add_cy (a b k : Nat) : (lm a k + lm b k + cy a b k) / 18446744073709551616 = cy a b (k + 1) := by
  have hM : 0 < 2 ^ (64 * k) := Nat.two_pow_pos _
  simp only [lm, cy, pow_succ64, Nat.mod_mul]
  generalize 2 ^ (64 * k) = M at hM
  have : (a % M + M * (a / M % 2 ^ 64) + (b % M + M * (b / M % 2 ^ 64))) / (M * 2 ^ 64) = ((a % M + b % M) / M + (a / M % 2 ^ 64 + b / M % 2 ^ 64)) / 2 ^ 64 := by
    rw [← Nat.div_div_eq_div_mul]
    congr 1
    have : a % M + M * (a / M % 2 ^ 64) + (b % M + M * (b / M % 2 ^ 64)) = (a % M + b % M) + M * (a / M % 2 ^ 64 + b / M % 2 ^ 64) := by rw [Nat.mul_add]; omega
    rw [this, Nat.add_mul_div_left _ _ hM]
  rw [this]
  omega
theorem add_lm (a b k : Nat) : (lm a k + lm b k + cy a b k) % 18446744073709551616 = lm (a + b) k := by
  have hM : 0 < 2 ^ (64 * k) := Nat.two_pow_pos _
  simp only [lm, cy]
  generalize 2 ^ (64 * k) = M at hM
  have : (a + b) / M = a / M + b / M + (a % M + b % M) / M := by
    conv => lhs; rw [← Nat.div_add_mod a M, ← Nat.div_add_mod b M]
    have : M * (a / M) + a % M + (M * (b / M) + b % M) = (a % M + b % M) + M * (a / M + b / M) := by rw [Nat.mul_add]; omega
    rw [this, Nat.add_mul_div_left _ _ hM]; omega
  rw [this]
  omega
theorem lm_mod (a k : Nat) (hk : k < 4) : lm (a % 2 ^ 256) k = lm a k := by
  simp only [lm]
  have : (2 : Nat) ^ 256 = 2 ^ (64 * k) * 2 ^ (256 - 64 * k) := by rw [← Nat.pow_add]; congr 1; omega
  rw [this, Nat.mod_mul_right_div_self]
  have : (2 : Nat) ^ (256 - 64 * k) = 2 ^ 64 * 2 ^ (256 - 64 * k - 64) := by rw [← Nat.pow_add]; congr 1; omega
  rw [this, Nat.mod_mul_right_mod]
theorem cy_4 {a b : Nat} (ha : a < 2 ^ 256) (hb : b < 2 ^ 256) : (cy a b 4 == 1) = decide (2 ^ 256 ≤ a + b) := by
  have e : (64 * 4) = 256 := rfl
  simp only [cy, e]
  rw [Nat.mod_eq_of_lt ha, Nat.mod_eq_of_lt hb, Bool.eq_iff_iff]
  simp only [beq_iff_eq, decide_eq_true_eq]
  omega
/-- What is borrowed from a place. -/
def bw (a b k : Nat) : Int := if a % 2 ^ (64 * k) < b % 2 ^ (64 * k) then 1 else 0
theorem bw_zero (a b : Nat) : bw a b 0 = 0 := by simp [bw, Nat.mod_one]
theorem bw_lo (a b k : Nat) : 0 ≤ bw a b k := by unfold bw; split <;> omega
theorem bw_hi (a b k : Nat) : bw a b k ≤ 1 := by unfold bw; split <;> omega
theorem sub_key {M x y A B : Nat} (h1 : x < M) (h2 : y < M) : (x + M * A < y + M * B) ↔ (A < B + (if x < y then 1 else 0)) := by
  rcases Nat.lt_trichotomy A B with h | h | h
  · have : M * (A + 1) ≤ M * B := Nat.mul_le_mul_left _ h
    rw [Nat.mul_add] at this
    constructor <;> intro _ <;> (try split) <;> omega
  · subst h; constructor <;> intro h' <;> split at * <;> omega
  · have : M * (B + 1) ≤ M * A := Nat.mul_le_mul_left _ h
    rw [Nat.mul_add] at this
    constructor <;> intro h' <;> (try split at h') <;> omega
theorem sub_bw (a b k : Nat) : (if lm a k < lm b k + bw a b k then 1 else 0 : Int) = bw a b (k + 1) := by
  have hM : 0 < 2 ^ (64 * k) := Nat.two_pow_pos _
  have key := sub_key (A := a / 2 ^ (64 * k) % 2 ^ 64) (B := b / 2 ^ (64 * k) % 2 ^ 64) (Nat.mod_lt a hM) (Nat.mod_lt b hM)
  have hl : bw a b (k + 1) = if a % 2 ^ (64 * k) + 2 ^ (64 * k) * (a / 2 ^ (64 * k) % 2 ^ 64) < b % 2 ^ (64 * k) + 2 ^ (64 * k) * (b / 2 ^ (64 * k) % 2 ^ 64) then 1 else 0 := by
    simp only [bw, pow_succ64, Nat.mod_mul]
  rw [hl]
  have el : lm a k < lm b k + bw a b k ↔ a / 2 ^ (64 * k) % 2 ^ 64 < b / 2 ^ (64 * k) % 2 ^ 64 + (if a % 2 ^ (64 * k) < b % 2 ^ (64 * k) then 1 else 0) := by
    by_cases hxy : a % 2 ^ (64 * k) < b % 2 ^ (64 * k)
    · have hb : bw a b k = 1 := if_pos hxy
      rw [hb, if_pos hxy]; unfold lm; omega
    · have hb : bw a b k = 0 := if_neg hxy
      rw [hb, if_neg hxy]; unfold lm; omega
  by_cases h : lm a k < lm b k + bw a b k
  · rw [if_pos h, if_pos (key.2 (el.1 h))]
  · rw [if_neg h, if_neg (fun h' => h (el.2 (key.1 h')))]
theorem sub_lm {a b : Nat} (k : Nat) (hb : b < 2 ^ 256) (hk : k < 4) : (lm a k - lm b k - bw a b k) % 18446744073709551616 = lm (a + 2 ^ 256 - b) k := by
  have hM : 0 < 2 ^ (64 * k) := Nat.two_pow_pos _
  have hW : (2 : Nat) ^ 256 = 2 ^ (64 * k) * (2 ^ 64 * 2 ^ (256 - 64 * k - 64)) := by rw [← Nat.pow_add, ← Nat.pow_add]; congr 1; omega
  suffices gen : ∀ M K : Nat, 0 < M → b < M * (2 ^ 64 * K) → (((a / M % 2 ^ 64 : Nat) : Int) - (b / M % 2 ^ 64 : Nat) - (if a % M < b % M then 1 else 0)) % 18446744073709551616 = (((a + M * (2 ^ 64 * K) - b) / M % 2 ^ 64 : Nat) : Int) by
    simp only [lm, bw]
    rw [hW] at hb ⊢
    exact gen _ _ hM hb
  clear hW hM hb
  intro M K hM hb
  have ha := Nat.div_add_mod a M
  have hbb := Nat.div_add_mod b M
  have h1 := Nat.mod_lt a hM
  have h2 := Nat.mod_lt b hM
  have hq : b / M < 2 ^ 64 * K := by rw [Nat.div_lt_iff_lt_mul hM, Nat.mul_comm]; exact hb
  have : (a + M * (2 ^ 64 * K) - b) / M = a / M + 2 ^ 64 * K - b / M - (if a % M < b % M then 1 else 0) := by
    generalize a / M = A at *
    generalize b / M = B at *
    generalize a % M = x at *
    generalize b % M = y at *
    subst ha; subst hbb
    generalize 2 ^ 64 * K = Q at *
    by_cases hxy : x < y
    · rw [if_pos hxy]
      have hle : M * (A + Q - B - 1) + M * B + M = M * A + M * Q := by
        rw [← Nat.mul_add, ← Nat.mul_succ, ← Nat.mul_add]; congr 1; omega
      have : M * A + x + M * Q - (M * B + y) = (x + M - y) + M * (A + Q - B - 1) := by omega
      rw [this, Nat.add_mul_div_left _ _ hM, Nat.div_eq_of_lt (by omega)]; omega
    · rw [if_neg hxy]
      have hle : M * (A + Q - B) + M * B = M * A + M * Q := by
        rw [← Nat.mul_add, ← Nat.mul_add]; congr 1; omega
      have : M * A + x + M * Q - (M * B + y) = (x - y) + M * (A + Q - B) := by omega
      rw [this, Nat.add_mul_div_left _ _ hM, Nat.div_eq_of_lt (by omega)]; omega
  rw [this]
  generalize a / M = A at *
  generalize b / M = B at *
  by_cases hxy : a % M < b % M
  · simp only [hxy, if_true]; omega
  · simp only [hxy, if_false]; omega
theorem bw_4 {a b : Nat} (ha : a < 2 ^ 256) (hb : b < 2 ^ 256) : (bw a b 4 == 1) = decide (a < b) := by
  have e : (64 * 4) = 256 := rfl
  simp only [bw, e]
  rw [Nat.mod_eq_of_lt ha, Nat.mod_eq_of_lt hb]
  by_cases h : a < b <;> simp [h]
def addW (a b : Nat) : Nat := (a + b) % 2 ^ 256
def subW (a b : Nat) : Nat := (a + 2 ^ 256 - b) % 2 ^ 256
theorem addW_lt (a b : Nat) : addW a b < 2 ^ 256 := Nat.mod_lt _ (by decide)
theorem subW_lt (a b : Nat) : subW a b < 2 ^ 256 := Nat.mod_lt _ (by decide)
theorem addW_lm (a b k : Nat) (hk : k < 4) : (lm a k + lm b k + cy a b k) % 18446744073709551616 = lm (addW a b) k := by rw [add_lm, addW, lm_mod _ _ hk]
theorem subW_lm {a b : Nat} (k : Nat) (hb : b < 2 ^ 256) (hk : k < 4) : (lm a k - lm b k - bw a b k) % 18446744073709551616 = lm (subW a b) k := by rw [sub_lm k hb hk, subW, lm_mod _ _ hk]
end Go.Eng

namespace Go.Eng
/-! ### Tidy states, by simp -/
def tdA (n : Nat) (l : List AV) : Prop := clA l ∧ lowA n l
def tdV (n : Nat) (v : AV) : Prop := clV v ∧ lowV n v
def tdL (n : Nat) (l : List AV) : Prop := clL l ∧ lowL n l
def td0 (n : Nat) (v : AV) : Prop := cl0 v ∧ low0 n v
def tdO (n : Nat) (l : List (Nat × Obj)) : Prop := clO l ∧ lowO n l
variable {n : Nat}
@[simp] theorem tdA_nil : tdA n [] := ⟨trivial, trivial⟩
@[simp] theorem tdA_cons {v : AV} {r : List AV} : tdA n (v :: r) ↔ tdV n v ∧ tdA n r := by simp only [tdA, tdV, clA, lowA]; constructor <;> (rintro ⟨⟨a, b⟩, c, d⟩; exact ⟨⟨a, c⟩, b, d⟩)
@[simp] theorem tdL_nil : tdL n [] := ⟨trivial, trivial⟩
@[simp] theorem tdL_cons {v : AV} {r : List AV} : tdL n (v :: r) ↔ td0 n v ∧ tdL n r := by simp only [tdL, td0, clL, lowL]; constructor <;> (rintro ⟨⟨a, b⟩, c, d⟩; exact ⟨⟨a, c⟩, b, d⟩)
@[simp] theorem tdV_pl {x : Value} : tdV n (.pl x) := ⟨trivial, trivial⟩
@[simp] theorem tdV_ag {l : List AV} : tdV n (.ag l) ↔ tdL n l := Iff.rfl
@[simp] theorem tdV_sl {d : List AV} {rows : List (List AV)} : tdV n (.sl d rows) ↔ Clean rows.flatten := ⟨fun h => h.1, fun h => ⟨h, trivial⟩⟩
@[simp] theorem tdV_ow {id ver off m z : Nat} : tdV n (.ow id ver off m z) ↔ id < n := ⟨fun h => h.2, fun h => ⟨trivial, h⟩⟩
@[simp] theorem tdV_pt {id off : Nat} : tdV n (.pt id off) ↔ id < n := ⟨fun h => h.2, fun h => ⟨trivial, h⟩⟩
@[simp] theorem tdV_rp {l : List AV} : tdV n (.rp l) ↔ Clean l := ⟨fun h => h.1, fun h => ⟨h, trivial⟩⟩
@[simp] theorem td0_pl {x : Value} : td0 n (.pl x) := ⟨trivial, trivial⟩
@[simp] theorem td0_ar {m : Nat} {l : List AV} : td0 n (.ar m l) ↔ Clean l := ⟨fun h => h.1, fun h => ⟨h, trivial⟩⟩
@[simp] theorem td0_sl {d : List AV} {rows : List (List AV)} : td0 n (.sl d rows) ↔ Clean rows.flatten := ⟨fun h => h.1, fun h => ⟨h, trivial⟩⟩
@[simp] theorem td0_ow {id ver off m z : Nat} : td0 n (.ow id ver off m z) ↔ id < n := ⟨fun h => h.2, fun h => ⟨trivial, h⟩⟩
@[simp] theorem td0_wP (a : Nat) : td0 n (wP a) := td0_ar.2 (clean_pls (by simp))
@[simp] theorem tdO_nil : tdO n [] := ⟨trivial, trivial⟩
@[simp] theorem tdO_box {i : Nat} {l : List AV} {sh : Bool} {r : List (Nat × Obj)} : tdO n ((i, .box l sh) :: r) ↔ i < n ∧ tdL n l ∧ tdO n r := by
  simp only [tdO, tdL, clO, lowO]; constructor
  · rintro ⟨⟨a, b⟩, c, d, e⟩; exact ⟨c, ⟨a, d⟩, b, e⟩
  · rintro ⟨c, ⟨a, d⟩, b, e⟩; exact ⟨⟨a, b⟩, c, d, e⟩
@[simp] theorem tdO_row {i ver : Nat} {d : List AV} {rows : List (List AV)} {sh : Bool} {r : List (Nat × Obj)} : tdO n ((i, .row d ver rows sh) :: r) ↔ i < n ∧ Clean rows.flatten ∧ tdO n r := by
  simp only [tdO, clO, lowO]; constructor
  · rintro ⟨⟨a, b⟩, c, e⟩; exact ⟨c, a, b, e⟩
  · rintro ⟨c, a, b, e⟩; exact ⟨⟨a, b⟩, c, e⟩
theorem tidy_mk {σ : St} (h1 : tdA n (vals σ.sl)) (h2 : tdO n σ.ob) : Tidy n σ := ⟨h1.1, h1.2, h2.1, h2.2⟩

/-! ### Numbers as digits to the base 65536 -/
def dig (v k : Nat) : Int := ((v / 65536 ^ k % 65536 : Nat) : Int)
def dgv (n v : Nat) : List (List AV) := (List.range n).map fun k => [u64 (dig v k)]
@[simp] theorem dgv_length (n v : Nat) : (dgv n v).length = n := by simp [dgv]
@[simp] theorem clean_dgv (n v : Nat) : Clean (dgv n v).flatten := (PL.map (f := fun k => [u64 (dig v k)]) (fun _ => .pl .nil) _).clean
theorem dgv_get {n v k : Nat} (h : k < n) : (dgv n v)[k]? = some [u64 (dig v k)] := by simp [dgv, h]
theorem dgv_at (n v : Nat) (i : Int) (h : 0 ≤ i ∧ i < n) : (dgv n v).getD i.toNat [u64 0] = [u64 (dig v i.toNat)] := by
  rw [List.getD, dgv_get (by omega)]; rfl
theorem dig_lo (v k : Nat) : 0 ≤ dig v k := Int.natCast_nonneg _
theorem dig_hi (v k : Nat) : dig v k ≤ 65535 := by
  have : v / 65536 ^ k % 65536 < 65536 := Nat.mod_lt _ (by decide)
  unfold dig; omega
theorem dig_rng (v k : Nat) : 0 ≤ dig v k ∧ dig v k ≤ 65535 := ⟨dig_lo v k, dig_hi v k⟩
theorem dig_zero {v n k : Nat} (h : v < 65536 ^ n) (hk : n ≤ k) : dig v k = 0 := by
  have : v < 65536 ^ k := Nat.lt_of_lt_of_le h (Nat.pow_le_pow_right (by decide) hk)
  simp [dig, Nat.div_eq_of_lt this]
theorem dgv_snoc {k s : Nat} {d : Int} (h : d = dig s k) : dgv k s ++ [[u64 d]] = dgv (k + 1) s := by
  subst h; simp [dgv, List.range_succ]
theorem dgv_congr {n v v' : Nat} (h : ∀ k, k < n → dig v k = dig v' k) : dgv n v = dgv n v' := by
  simp only [dgv]
  refine List.map_congr_left fun k hk => ?_
  rw [h k (by simpa using hk)]
theorem dgv_replicate (n : Nat) : List.replicate n [u64 0] = dgv n 0 := by
  simp only [dgv]
  refine List.ext_getElem (by simp) fun k h1 h2 => ?_
  simp [dig]
theorem dgv_take {n v k : Nat} (h : k ≤ n) : (dgv n v).take k = dgv k v := by
  simp only [dgv, ← List.map_take, List.take_range]
  rw [Nat.min_eq_left h]
def cyd (x y k : Nat) : Int := (((x % 65536 ^ k + y % 65536 ^ k) / 65536 ^ k : Nat) : Int)
theorem cyd_zero (x y : Nat) : cyd x y 0 = 0 := by simp [cyd, Nat.mod_one]
theorem cyd_rng (a b k : Nat) : 0 ≤ cyd a b k ∧ cyd a b k ≤ 1 := by
  have hM : 0 < 65536 ^ k := Nat.pow_pos (by decide)
  have h1 := Nat.mod_lt a hM
  have h2 := Nat.mod_lt b hM
  have : (a % 65536 ^ k + b % 65536 ^ k) / 65536 ^ k < 2 := by rw [Nat.div_lt_iff_lt_mul hM]; omega
  unfold cyd
  exact ⟨Int.natCast_nonneg _, by omega⟩
theorem addd_cy (a b k : Nat) : (cyd a b k + dig a k + dig b k) / 65536 = cyd a b (k + 1) := by
  have hM : 0 < 65536 ^ k := Nat.pow_pos (by decide)
  simp only [dig, cyd, Nat.pow_succ, Nat.mod_mul]
  generalize 65536 ^ k = M at hM
  have : (a % M + M * (a / M % 65536) + (b % M + M * (b / M % 65536))) / (M * 65536) = ((a % M + b % M) / M + (a / M % 65536 + b / M % 65536)) / 65536 := by
    rw [← Nat.div_div_eq_div_mul]
    congr 1
    have : a % M + M * (a / M % 65536) + (b % M + M * (b / M % 65536)) = (a % M + b % M) + M * (a / M % 65536 + b / M % 65536) := by rw [Nat.mul_add]; omega
    rw [this, Nat.add_mul_div_left _ _ hM]
  rw [this]
  omega
theorem addd_dig (a b k : Nat) : (cyd a b k + dig a k + dig b k) % 65536 = dig (a + b) k := by
  have hM : 0 < 65536 ^ k := Nat.pow_pos (by decide)
  simp only [dig, cyd]
  generalize 65536 ^ k = M at hM
  have : (a + b) / M = a / M + b / M + (a % M + b % M) / M := by
    conv => lhs; rw [← Nat.div_add_mod a M, ← Nat.div_add_mod b M]
    have : M * (a / M) + a % M + (M * (b / M) + b % M) = (a % M + b % M) + M * (a / M + b / M) := by rw [Nat.mul_add]; omega
    rw [this, Nat.add_mul_div_left _ _ hM]; omega
  rw [this]
  omega
def lenAdd (n m x y : Nat) : Nat := if x + y < 65536 ^ max n m then max n m else max n m + 1
theorem lenAdd_le (n m x y : Nat) : lenAdd n m x y ≤ max n m + 1 := by unfold lenAdd; split <;> omega
theorem lenAdd_ge (n m x y : Nat) : max n m ≤ lenAdd n m x y := by unfold lenAdd; split <;> omega
theorem lenAdd_lt {n m x y : Nat} (hx : x < 65536 ^ n) (hy : y < 65536 ^ m) : x + y < 65536 ^ lenAdd n m x y := by
  unfold lenAdd
  split
  · assumption
  · have h1 : 65536 ^ n ≤ 65536 ^ max n m := Nat.pow_le_pow_right (by decide) (by omega)
    have h2 : 65536 ^ m ≤ 65536 ^ max n m := Nat.pow_le_pow_right (by decide) (by omega)
    rw [Nat.pow_succ]; omega
/-- Behind both numbers there is something to carry just if the sum is that long. -/
theorem cyd_end {n m x y k : Nat} (hx : x < 65536 ^ n) (hy : y < 65536 ^ m) (hn : n ≤ k) (hm : m ≤ k) (hk : k ≤ lenAdd n m x y) : (0 < cyd x y k ↔ k < lenAdd n m x y) := by
  have h1 : x < 65536 ^ k := Nat.lt_of_lt_of_le hx (Nat.pow_le_pow_right (by decide) hn)
  have h2 : y < 65536 ^ k := Nat.lt_of_lt_of_le hy (Nat.pow_le_pow_right (by decide) hm)
  have hM : 0 < 65536 ^ k := Nat.pow_pos (by decide)
  have e : cyd x y k = (((x + y) / 65536 ^ k : Nat) : Int) := by unfold cyd; rw [Nat.mod_eq_of_lt h1, Nat.mod_eq_of_lt h2]
  rw [e]
  have : (0 : Int) < (((x + y) / 65536 ^ k : Nat) : Int) ↔ 65536 ^ k ≤ x + y := by
    rw [show (0 : Int) < (((x + y) / 65536 ^ k : Nat) : Int) ↔ 0 < (x + y) / 65536 ^ k by omega]
    rw [Nat.div_pos_iff]; omega
  rw [this]
  unfold lenAdd at hk ⊢
  by_cases hs : x + y < 65536 ^ max n m
  · rw [if_pos hs] at hk ⊢
    have : k = max n m := by omega
    subst this
    constructor <;> intro _ <;> omega
  · rw [if_neg hs] at hk ⊢
    constructor
    · intro h3
      rcases Nat.lt_or_ge k (max n m + 1) with h | h
      · exact h
      · exfalso
        have : k = max n m + 1 := by omega
        subst this
        have h4 : 65536 ^ n ≤ 65536 ^ max n m := Nat.pow_le_pow_right (by decide) (by omega)
        have h5 : 65536 ^ m ≤ 65536 ^ max n m := Nat.pow_le_pow_right (by decide) (by omega)
        rw [Nat.pow_succ] at h3; omega
    · intro h3
      have : k = max n m := by omega
      subst this; omega
end Go.Eng

namespace Go.Eng
/-! ### Digits: comparing, subtracting, multiplying -/
def cmpI (x y : Nat) : Int := if x < y then -1 else if y < x then 1 else 0
theorem div_digit (x i : Nat) : (x / 65536 ^ i : Nat) = 65536 * (x / 65536 ^ (i + 1)) + (dig x i).toNat := by
  have h1 : x / 65536 ^ (i + 1) = x / 65536 ^ i / 65536 := by rw [Nat.pow_succ, Nat.div_div_eq_div_mul]
  rw [h1]; unfold dig
  simp only [Int.toNat_natCast]
  omega
theorem lt_of_div_lt {x y M : Nat} (h : x / M < y / M) : x < y := by
  rcases Nat.lt_or_ge x y with h' | h'
  · exact h'
  · exact absurd (Nat.div_le_div_right (c := M) h') (by omega)
theorem cmp_step {x y : Nat} (i : Int) (h0 : 0 ≤ i) (h : x / 65536 ^ (i + 1).toNat = y / 65536 ^ (i + 1).toNat) :
    (dig x i.toNat < dig y i.toNat → x < y) ∧ (dig y i.toNat < dig x i.toNat → y < x) ∧ (dig x i.toNat = dig y i.toNat → x / 65536 ^ (i - 1 + 1).toNat = y / 65536 ^ (i - 1 + 1).toNat) := by
  obtain ⟨k, rfl⟩ := Int.eq_ofNat_of_zero_le h0
  have e1 : ((k : Int) + 1).toNat = k + 1 := by omega
  have e2 : ((k : Int) - 1 + 1).toNat = k := by omega
  rw [e1] at h
  rw [e2]
  simp only [Int.toNat_natCast]
  have hx := div_digit x k
  have hy := div_digit y k
  rw [h] at hx
  have a := dig_lo x k
  have b := dig_lo y k
  refine ⟨fun hl => lt_of_div_lt (M := 65536 ^ k) (by omega), fun hl => lt_of_div_lt (M := 65536 ^ k) (by omega), fun he => by rw [hx, hy, he]⟩
theorem pow_le_of_le {x n k : Nat} (h : x < 65536 ^ n) (hk : n ≤ k) : x < 65536 ^ k := Nat.lt_of_lt_of_le h (Nat.pow_le_pow_right (by decide) hk)
theorem div_zero_of {x n k : Nat} (h : x < 65536 ^ n) (hk : n ≤ k) : x / 65536 ^ k = 0 := Nat.div_eq_of_lt (pow_le_of_le h hk)
/-- What is borrowed. -/
def bd (x y k : Nat) : Int := if x % 65536 ^ k < y % 65536 ^ k then 1 else 0
theorem bd_zero (x y : Nat) : bd x y 0 = 0 := by simp [bd, Nat.mod_one]
theorem bd_rng (x y k : Nat) : 0 ≤ bd x y k ∧ bd x y k ≤ 1 := by unfold bd; split <;> omega
theorem subd_bd (a b k : Nat) : (dig a k < dig b k + bd a b k → bd a b (k + 1) = 1) ∧ (¬ dig a k < dig b k + bd a b k → bd a b (k + 1) = 0) := by
  have hM : 0 < 65536 ^ k := Nat.pow_pos (by decide)
  have key := sub_key (A := a / 65536 ^ k % 65536) (B := b / 65536 ^ k % 65536) (Nat.mod_lt a hM) (Nat.mod_lt b hM)
  have hl : bd a b (k + 1) = if a % 65536 ^ k + 65536 ^ k * (a / 65536 ^ k % 65536) < b % 65536 ^ k + 65536 ^ k * (b / 65536 ^ k % 65536) then 1 else 0 := by
    simp only [bd, Nat.pow_succ, Nat.mod_mul]
  rw [hl]
  have el : dig a k < dig b k + bd a b k ↔ a / 65536 ^ k % 65536 < b / 65536 ^ k % 65536 + (if a % 65536 ^ k < b % 65536 ^ k then 1 else 0) := by
    by_cases hxy : a % 65536 ^ k < b % 65536 ^ k
    · have hb : bd a b k = 1 := if_pos hxy
      rw [hb, if_pos hxy]; unfold dig; omega
    · have hb : bd a b k = 0 := if_neg hxy
      rw [hb, if_neg hxy]; unfold dig; omega
  exact ⟨fun h => if_pos (key.2 (el.1 h)), fun h => if_neg (fun h' => h (el.2 (key.1 h')))⟩
theorem subd_dig {a b : Nat} (k : Nat) (h : b ≤ a) : (dig a k - dig b k - bd a b k) % 65536 = dig (a - b) k := by
  have hM : 0 < 65536 ^ k := Nat.pow_pos (by decide)
  simp only [dig, bd]
  generalize 65536 ^ k = M at hM
  have ha := Nat.div_add_mod a M
  have hbb := Nat.div_add_mod b M
  have h1 := Nat.mod_lt a hM
  have h2 := Nat.mod_lt b hM
  have hq : b / M ≤ a / M := Nat.div_le_div_right h
  have : (a - b) / M = a / M - b / M - (if a % M < b % M then 1 else 0) := by
    generalize a / M = A at *
    generalize b / M = B at *
    generalize a % M = x at *
    generalize b % M = y at *
    subst ha; subst hbb
    by_cases hxy : x < y
    · rw [if_pos hxy]
      have hlt : B < A := by
        rcases Nat.lt_or_ge B A with h' | h'
        · exact h'
        · have : A = B := by omega
          subst this; omega
      have hle : M * (A - B - 1) + M * B + M = M * A := by
        rw [← Nat.mul_add, ← Nat.mul_succ]; congr 1; omega
      have : M * A + x - (M * B + y) = (x + M - y) + M * (A - B - 1) := by omega
      rw [this, Nat.add_mul_div_left _ _ hM, Nat.div_eq_of_lt (by omega)]; omega
    · rw [if_neg hxy]
      have hle : M * (A - B) + M * B = M * A := by rw [← Nat.mul_add]; congr 1; omega
      have : M * A + x - (M * B + y) = (x - y) + M * (A - B) := by omega
      rw [this, Nat.add_mul_div_left _ _ hM, Nat.div_eq_of_lt (by omega)]; omega
  rw [this]
  by_cases hxy : a % M < b % M
  · simp only [hxy, if_true]
    have : b / M < a / M := by
      rcases Nat.lt_or_ge (b / M) (a / M) with h' | h'
      · exact h'
      · have e : a / M = b / M := by omega
        rw [e] at ha; omega
    omega
  · simp only [hxy, if_false]; omega
/-! ### Products -/
/-- A digit set in a number. -/
def setD (v k : Nat) (d : Int) : Nat := v - (dig v k).toNat * 65536 ^ k + d.toNat * 65536 ^ k
theorem dig_mul_le (v k : Nat) : (dig v k).toNat * 65536 ^ k ≤ v := by
  have h := div_digit v k
  have hM : 0 < 65536 ^ k := Nat.pow_pos (by decide)
  have h2 := Nat.div_add_mod v (65536 ^ k)
  have : (dig v k).toNat ≤ v / 65536 ^ k := by omega
  calc (dig v k).toNat * 65536 ^ k ≤ v / 65536 ^ k * 65536 ^ k := Nat.mul_le_mul_right _ this
    _ ≤ v := Nat.div_mul_le_self _ _
theorem dig_setD {v k : Nat} {d : Int} (hd : 0 ≤ d ∧ d ≤ 65535) (j : Nat) : dig (setD v k d) j = if j = k then d else dig v j := by
  obtain ⟨D, rfl⟩ := Int.eq_ofNat_of_zero_le hd.1
  have hD : D ≤ 65535 := by omega
  have hle := dig_mul_le v k
  -- v = lo + d * M + hi * M * B
  have hM : 0 < 65536 ^ k := Nat.pow_pos (by decide)
  obtain ⟨lo, d0, hi, hv, hlo, hd0, hdd⟩ : ∃ lo d0 hi, v = lo + 65536 ^ k * (d0 + 65536 * hi) ∧ lo < 65536 ^ k ∧ d0 < 65536 ∧ (dig v k).toNat = d0 := by
    refine ⟨v % 65536 ^ k, v / 65536 ^ k % 65536, v / 65536 ^ k / 65536, ?_, Nat.mod_lt _ hM, Nat.mod_lt _ (by decide), by unfold dig; exact Int.toNat_natCast _⟩
    have := Nat.div_add_mod v (65536 ^ k)
    have h2 := Nat.mod_add_div (v / 65536 ^ k) 65536
    rw [h2]; omega
  have hs : setD v k (D : Int) = lo + 65536 ^ k * (D + 65536 * hi) := by
    unfold setD
    rw [hdd, hv, Nat.mul_add, Nat.mul_add, Int.toNat_natCast, Nat.mul_comm d0, Nat.mul_comm D]
    omega
  rw [hs]
  have dg : ∀ e, e < 65536 → dig (lo + 65536 ^ k * (e + 65536 * hi)) k = e := fun e he => by
    unfold dig
    rw [Nat.add_mul_div_left _ _ hM, Nat.div_eq_of_lt hlo]; omega
  by_cases hj : j = k
  · subst hj; rw [if_pos rfl]; exact dg D (by omega)
  · rw [if_neg hj, hv]
    rcases Nat.lt_or_gt_of_ne hj with h | h
    · -- below
      obtain ⟨q, rfl⟩ : ∃ q, k = j + 1 + q := ⟨k - j - 1, by omega⟩
      unfold dig
      have hp : (65536 : Nat) ^ (j + 1 + q) = 65536 ^ j * (65536 * 65536 ^ q) := by rw [Nat.pow_add, Nat.pow_succ, Nat.mul_assoc]
      have hJ : 0 < 65536 ^ j := Nat.pow_pos (by decide)
      have hq : ∀ e, (lo + 65536 ^ j * (65536 * 65536 ^ q) * (e + 65536 * hi)) / 65536 ^ j = lo / 65536 ^ j + 65536 * (65536 ^ q * (e + 65536 * hi)) := fun e => by
        rw [Nat.mul_assoc, Nat.add_mul_div_left _ _ hJ, Nat.mul_assoc]
      rw [hp, hq, hq]
      omega
    · obtain ⟨q, rfl⟩ : ∃ q, j = k + 1 + q := ⟨j - k - 1, by omega⟩
      unfold dig
      have hp : (65536 : Nat) ^ (k + 1 + q) = 65536 ^ k * 65536 * 65536 ^ q := by rw [Nat.pow_add, Nat.pow_succ]
      rw [hp, ← Nat.div_div_eq_div_mul, ← Nat.div_div_eq_div_mul, ← Nat.div_div_eq_div_mul, ← Nat.div_div_eq_div_mul, Nat.add_mul_div_left _ _ hM, Nat.add_mul_div_left _ _ hM, Nat.div_eq_of_lt hlo]
      have e1 : (0 + (D + 65536 * hi)) / 65536 = hi := by omega
      have e2 : (0 + (d0 + 65536 * hi)) / 65536 = hi := by omega
      rw [e1, e2]
theorem dgv_set {n v k : Nat} {d : Int} (hd : 0 ≤ d ∧ d ≤ 65535) : (dgv n v).set k [u64 d] = dgv n (setD v k d) := by
  refine List.ext_getElem? fun j => ?_
  rw [List.getElem?_set]
  by_cases hj : j < n
  · rw [dgv_get hj, dgv_get hj, dig_setD hd]
    by_cases hjk : k = j
    · subst hjk; simp [hj]
    · rw [if_neg hjk, if_neg (fun h => hjk h.symm)]
  · have h1 : (dgv n v)[j]? = none := List.getElem?_eq_none (by simp; omega)
    have h2 : ∀ w, (dgv n w)[j]? = none := fun w => List.getElem?_eq_none (by simp; omega)
    rw [h2, h2]
    by_cases hjk : k = j
    · subst hjk; simp [hj]
    · rw [if_neg hjk]
end Go.Eng

namespace Go.Eng
theorem setD_val {v k : Nat} {d : Int} (hd : 0 ≤ d) : ((setD v k d : Nat) : Int) = v - dig v k * 65536 ^ k + d * 65536 ^ k := by
  have h := dig_mul_le v k
  obtain ⟨D, rfl⟩ := Int.eq_ofNat_of_zero_le hd
  have e1 : dig v k = (((dig v k).toNat : Nat) : Int) := (Int.toNat_of_nonneg (dig_lo v k)).symm
  generalize hq : (dig v k).toNat = q at *
  unfold setD
  rw [hq, e1, Int.toNat_natCast]
  have e2 : (65536 : Int) ^ k = ((65536 ^ k : Nat) : Int) := by simp
  rw [e2, ← Int.natCast_mul, ← Int.natCast_mul]
  omega
theorem setD_lt {v k n : Nat} {d : Int} (hd : 0 ≤ d ∧ d ≤ 65535) (hv : v < 65536 ^ n) (hk : k < n) : setD v k d < 65536 ^ n := by
  have key : ∀ j, n ≤ j → dig (setD v k d) j = 0 := fun j hj => by
    rw [dig_setD hd, if_neg (by omega), dig_zero hv hj]
  -- all digits from n on are 0
  rcases Nat.lt_or_ge (setD v k d) (65536 ^ n) with h | h
  · exact h
  · exfalso
    have hall : ∀ j, setD v k d / 65536 ^ (n + j) = setD v k d / 65536 ^ n / 65536 ^ j := fun j => by rw [Nat.pow_add, Nat.div_div_eq_div_mul]
    generalize hw : setD v k d / 65536 ^ n = w at *
    have hM : 0 < 65536 ^ n := Nat.pow_pos (by decide)
    have hwpos : 0 < w := by rw [← hw]; exact Nat.div_pos h hM
    have hdig : ∀ j, w / 65536 ^ j % 65536 = 0 := fun j => by
      have := key (n + j) (by omega)
      unfold dig at this
      rw [hall] at this
      omega
    have hz : ∀ j, w % 65536 ^ j = 0 := fun j => by
      induction j with
      | zero => simp [Nat.mod_one]
      | succ j ih => rw [Nat.pow_succ, Nat.mod_mul, ih, hdig j]; simp
    have hlt : w < 65536 ^ w := Nat.lt_pow_self (by decide)
    have := hz w
    rw [Nat.mod_eq_of_lt hlt] at this
    omega
theorem mul_rng {a b : Int} (ha : 0 ≤ a ∧ a ≤ 65535) (hb : 0 ≤ b ∧ b ≤ 65535) : 0 ≤ a * b ∧ a * b ≤ 4294836225 :=
  ⟨Int.mul_nonneg ha.1 hb.1, Int.le_trans (Int.mul_le_mul ha.2 hb.2 hb.1 (by omega)) (by omega)⟩
theorem mod_succ_digit (y j : Nat) : ((y % 65536 ^ (j + 1) : Nat) : Int) = (y % 65536 ^ j : Nat) + dig y j * 65536 ^ j := by
  rw [Nat.pow_succ, Nat.mod_mul]
  unfold dig
  rw [Int.natCast_add, Int.natCast_mul]
  simp [Int.mul_comm]
/-- What is in the digits, and carried, within a row of a product. -/
def MulInv (x y V i j : Nat) (c : Int) : Prop := (V : Int) + c * 65536 ^ (i + j) = (x % 65536 ^ i : Nat) * y + dig x i * (y % 65536 ^ j : Nat) * 65536 ^ i
theorem mul_step {x y V i j : Nat} {c : Int} (hc : 0 ≤ c ∧ c ≤ 65535) (h : MulInv x y V i j c) {t : Int} (ht : t = c + (dig V (i + j) + dig x i * dig y j)) :
    MulInv x y (setD V (i + j) (t % 65536)) i (j + 1) (t / 65536) ∧ 0 ≤ t / 65536 ∧ t / 65536 ≤ 65535 := by
  have a := mul_rng (dig_rng x i) (dig_rng y j)
  have b := dig_rng V (i + j)
  refine ⟨?_, by omega, by omega⟩
  unfold MulInv at *
  rw [setD_val (by omega), mod_succ_digit]
  have e1 : (65536 : Int) ^ (i + (j + 1)) = 65536 ^ (i + j) * 65536 := by rw [← Nat.add_assoc, Int.pow_succ]
  rw [e1]
  have e2 : t % 65536 = t - 65536 * (t / 65536) := by omega
  rw [e2, ht]
  generalize (c + (dig V (i + j) + dig x i * dig y j)) / 65536 = q
  have e3 : (65536 : Int) ^ (i + j) = 65536 ^ i * 65536 ^ j := Int.pow_add ..
  rw [e3] at h ⊢
  grind
theorem mul_end {x y V i m : Nat} {c : Int} (hy : y < 65536 ^ m) (hV : V < 65536 ^ (i + m)) (hc : 0 ≤ c ∧ c ≤ 65535) (h : MulInv x y V i m c) : setD V (i + m) c = x % 65536 ^ (i + 1) * y := by
  have e0 : dig V (i + m) = 0 := dig_zero hV (Nat.le_refl _)
  have e1 := setD_val (v := V) (k := i + m) hc.1
  rw [e0] at e1
  unfold MulInv at h
  rw [Nat.mod_eq_of_lt hy] at h
  have e2 := mod_succ_digit x i
  have : ((setD V (i + m) c : Nat) : Int) = ((x % 65536 ^ (i + 1) * y : Nat) : Int) := by
    rw [e1, Int.natCast_mul, e2]
    grind
  exact Int.ofNat.inj this
theorem mul_start (x y i : Nat) : MulInv x y (x % 65536 ^ i * y) i 0 0 := by
  unfold MulInv
  simp [Nat.mod_one]
theorem mul_lt {x y i m : Nat} (hy : y < 65536 ^ m) : x % 65536 ^ i * y < 65536 ^ (i + m) := by
  have hM : 0 < 65536 ^ i := Nat.pow_pos (by decide)
  have hN : 0 < 65536 ^ m := Nat.pow_pos (by decide)
  rw [Nat.pow_add]
  calc x % 65536 ^ i * y ≤ x % 65536 ^ i * 65536 ^ m := Nat.mul_le_mul_left _ (by omega)
    _ < 65536 ^ i * 65536 ^ m := (Nat.mul_lt_mul_right hN).2 (Nat.mod_lt _ hM)
def mulV (x y i m : Nat) : Nat := x % 65536 ^ (i + 1) * y % 65536 ^ (i + m)
def mulC (x y i m : Nat) : Int := ((x % 65536 ^ (i + 1) * y / 65536 ^ (i + m) : Nat) : Int)
theorem mul_fin {x y V i m : Nat} {c : Int} (hy : y < 65536 ^ m) (hV : V < 65536 ^ (i + m)) (hc : 0 ≤ c ∧ c ≤ 65535) (h : MulInv x y V i m c) : V = mulV x y i m ∧ c = mulC x y i m := by
  unfold MulInv at h
  rw [Nat.mod_eq_of_lt hy] at h
  have e2 := mod_succ_digit x i
  obtain ⟨C, rfl⟩ := Int.eq_ofNat_of_zero_le hc.1
  have e : V + C * 65536 ^ (i + m) = x % 65536 ^ (i + 1) * y := by
    have : ((V + C * 65536 ^ (i + m) : Nat) : Int) = ((x % 65536 ^ (i + 1) * y : Nat) : Int) := by
      rw [Int.natCast_mul, e2, Int.natCast_add, Int.natCast_mul]
      simp only [Int.natCast_pow]
      grind
    exact Int.ofNat.inj this
  have hM : 0 < 65536 ^ (i + m) := Nat.pow_pos (by decide)
  unfold mulV mulC
  rw [← e]
  constructor
  · rw [Nat.add_mul_mod_self_right, Nat.mod_eq_of_lt hV]
  · rw [Nat.add_mul_div_right _ _ hM, Nat.div_eq_of_lt hV]; simp
theorem mulC_rng {x y i m : Nat} (hy : y < 65536 ^ m) : 0 ≤ mulC x y i m ∧ mulC x y i m ≤ 65535 := by
  have h := mul_lt (x := x) (i := i + 1) hy
  have hM : 0 < 65536 ^ (i + m) := Nat.pow_pos (by decide)
  have : x % 65536 ^ (i + 1) * y / 65536 ^ (i + m) < 65536 := by
    rw [Nat.div_lt_iff_lt_mul hM, ← Nat.pow_succ', show (i + m).succ = i + 1 + m by omega]; exact h
  unfold mulC
  exact ⟨Int.natCast_nonneg _, by omega⟩
theorem mul_put {x y i m : Nat} (hy : y < 65536 ^ m) : setD (mulV x y i m) (i + m) (mulC x y i m) = x % 65536 ^ (i + 1) * y := by
  have hr := mulC_rng (x := x) (i := i) hy
  have hM : 0 < 65536 ^ (i + m) := Nat.pow_pos (by decide)
  have hV : mulV x y i m < 65536 ^ (i + m) := Nat.mod_lt _ hM
  have e1 := setD_val (v := mulV x y i m) (k := i + m) hr.1
  rw [dig_zero hV (Nat.le_refl _)] at e1
  have e2 := Nat.div_add_mod (x % 65536 ^ (i + 1) * y) (65536 ^ (i + m))
  have : ((setD (mulV x y i m) (i + m) (mulC x y i m) : Nat) : Int) = ((x % 65536 ^ (i + 1) * y : Nat) : Int) := by
    rw [e1]
    conv => rhs; rw [← e2]
    unfold mulV mulC
    rw [Int.natCast_add, Int.natCast_mul]
    simp only [Int.natCast_pow]
    grind
  exact Int.ofNat.inj this
end Go.Eng
