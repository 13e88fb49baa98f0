/- What the operations of a program do, shown once for all programs; and numbers. -/
import Derived.Test.YteoeonfajlnggaaGreatVm6
import Derived.RangeFuncLeaves
import Derived.OpenShut
import Derived.WalkKit
import Derived.ProofKit
import Derived.KernelRfl
import Derived.Laws.Externs
set_option linter.constructorNameAsVariable false
set_option linter.unusedVariables false
set_option linter.unusedSimpArgs false
noncomputable section
namespace Go.Vm
open Go.RowKit
variable {P : Program} {T : TT} {c : Ctx} {e eb : Env} {of of' : Nat → Option Ob}
set_option linter.unusedVariables false
set_option linter.constructorNameAsVariable false

/-! ### What a function gives back -/
def oneRes (T : TT) (sl : Nat → A) (of : Nat → Option Ob) : ResultVar → Option (A × List Nat)
  | .tmp t => match sl t with
    | .t _ => none
    | v => some (v, [])
  | .cell a t => match T t, sl a with
    | some te, .p id _ path => match of id with
      | some (.box _ b _) => match atA T b path with
        | some a1 => match asT T t a1 with
          | some a2 => some (norm T a2, [id])
          | none => none
        | none => none
      | _ => none
    | _, _ => none
def manyRes (T : TT) (sl : Nat → A) (of : Nat → Option Ob) : List ResultVar → Option (List A × List Nat)
  | [] => some ([], [])
  | r :: rs => match oneRes T sl of r with
    | some (v, p) => match manyRes T sl of rs with
      | some (l, q) => some (v :: l, p ++ q)
      | none => none
    | none => none
def resA (T : TT) (sl : Nat → A) (of : Nat → Option Ob) (rs : List ResultVar) : Option (A × List Nat) :=
  match manyRes T sl of rs with
  | some (l, p) => match l with
    | [v] => some (v, p)
    | l => some (.t l, p)
  | none => none
def getRes (tmps : Array Value) : ResultVar → Sem Value
  | .tmp t => pure (tmps.getD t undef)
  | .cell a t => do loadVar t (← asAddr (tmps.getD a undef))
theorem results_eq (fn : Func) (tmps : Array Value) : results fn tmps = (do let vs ← fn.results.mapM (getRes tmps); pure (if h : vs.size = 1 then vs[0] else .tuple vs)) := by
  unfold results
  congr 2
theorem norm_not {t : Nat} {a b : A} (h : asT T t a = some b) : ∀ l, norm T b ≠ .t l := by
  intro l hl
  cases b with
  | v t' y => simp only [norm, mkA] at hl; repeat' split at hl
              all_goals cases hl
  | t l' => 
    have := asT_fit h
    simp [fitA] at this
  | _ => cases hl
theorem oneRes_ok (hT : TOK T P) {U : Nat → Prop} {nt : Nat} {mk : Option (List Nat)} {sl : Nat → A} {a : Act} (h : Stands T c eb sl of' U nt mk a e) {r : ResultVar} {v : A} {ro : List Nat} (hr : oneRes T sl of r = some (v, ro)) (ho : ∀ id ∈ ro, of' id = of id) :
    ∃ x, (getRes a.tmps r).run P e.w = .ok x e.w ∧ Rep T e v x ∧ ∀ l, v ≠ .t l := by
  cases r with
  | tmp t =>
    simp only [oneRes] at hr
    split at hr <;> try (cases hr; done)
    rename_i hne
    simp only [Option.some.injEq, Prod.mk.injEq] at hr
    obtain ⟨rfl, -⟩ := hr
    exact ⟨_, rfl, h.sl t, hne⟩
  | cell ad t =>
    simp only [oneRes] at hr
    split at hr <;> try (cases hr; done)
    rename_i te id t' path hte hsl
    split at hr <;> try (cases hr; done)
    rename_i t0 b sh hof
    split at hr <;> try (cases hr; done)
    rename_i a1 h1
    split at hr <;> try (cases hr; done)
    rename_i a2 h2
    simp only [Option.some.injEq, Prod.mk.injEq] at hr
    obtain ⟨rfl, rfl⟩ := hr
    have hx := h.sl ad
    rw [hsl] at hx
    obtain ⟨u1, u2, u3, u4, bb, cs, ty, fz, g1, g2, g3, g4, g5, g6⟩ := box_cells h.os ((ho id (by simp)).trans hof)
    obtain ⟨b', off, _, _, k1, k2, hv⟩ := rep_p_inv hx
    rw [g1] at k1; cases k1
    rw [u3] at k2
    obtain ⟨pre, d, post, q1, q2, q3, q4, q5⟩ := atA_spec path g5 u4 k2 h1
    obtain ⟨r1, r2⟩ := asT_RA q4 h2
    obtain ⟨x, y1, y2⟩ := run_load (P := P) hT hte r1 r2 (ad := ⟨bb, off, none⟩) (fun j y hj => by
      rw [add_none, cell_heap g2, q1, ← q2]; exact mid_get hj)
    exact ⟨x, by simp only [getRes, hv, asAddr]; exact y1, norm_rep hte y2 r2, norm_not h2⟩
theorem manyRes_ok (hT : TOK T P) {U : Nat → Prop} {nt : Nat} {mk : Option (List Nat)} {sl : Nat → A} {a : Act} (h : Stands T c eb sl of' U nt mk a e) : ∀ (rs : List ResultVar) (l : List A) (ro : List Nat), manyRes T sl of rs = some (l, ro) → (∀ id ∈ ro, of' id = of id) →
    ∃ xs, (rs.mapM (getRes a.tmps)).run P e.w = .ok xs e.w ∧ Reps T e l xs ∧ ∀ v ∈ l, ∀ m, v ≠ .t m := by
  intro rs
  induction rs with
  | nil =>
    intro l p hr _
    simp only [manyRes, Option.some.injEq, Prod.mk.injEq] at hr
    obtain ⟨rfl, -⟩ := hr
    exact ⟨[], by simp, .nil, fun v hv => by cases hv⟩
  | cons r rs ih =>
    intro l p hr ho
    simp only [manyRes] at hr
    split at hr <;> try (cases hr; done)
    rename_i v p1 h1
    split at hr <;> try (cases hr; done)
    rename_i l1 q1 h2
    simp only [Option.some.injEq, Prod.mk.injEq] at hr
    obtain ⟨rfl, rfl⟩ := hr
    obtain ⟨x, g1, g4, g5⟩ := oneRes_ok hT h h1 (fun id hid => ho id (by simp [hid]))
    obtain ⟨xs, k1, k4, k5⟩ := ih _ _ h2 (fun id hid => ho id (by simp [hid]))
    refine ⟨x :: xs, by simp [List.mapM_cons, g1, k1], .cons g4 k4, fun u hu => ?_⟩
    rcases List.mem_cons.1 hu with rfl | hu
    · exact g5
    · exact k5 u hu
theorem rep1_of {v : A} {x : Value} (h : Rep T e v x) (hv : ∀ l, v ≠ .t l) : Rep1 T e v x := by
  cases v with
  | t l => exact absurd rfl (hv l)
  | _ => exact h
theorem resA_ok (hT : TOK T P) {U : Nat → Prop} {nt : Nat} {mk : Option (List Nat)} {sl : Nat → A} {a : Act} (fn : Func) (h : Stands T c eb sl of' U nt mk a e) {v : A} {ro : List Nat} (hr : resA T sl of fn.results.toList = some (v, ro)) (ho : ∀ id ∈ ro, of' id = of id) :
    ∃ x, (results fn a.tmps).run P e.w = .ok x e.w ∧ Rep T e v x := by
  unfold resA at hr
  split at hr <;> try (cases hr; done)
  rename_i l p hm
  split at hr
  · rename_i v'
    simp only [Option.some.injEq, Prod.mk.injEq] at hr
    obtain ⟨rfl, rfl⟩ := hr
    obtain ⟨xs, h1, h4, h5⟩ := manyRes_ok hT h _ _ _ hm ho
    cases h4 with
    | @cons _ x _ s hx hs =>
    cases hs
    refine ⟨x, ?_, hx⟩
    rw [results_eq]
    simp [Array.mapM_eq_mapM_toList, h1]
  · rename_i hne
    simp only [Option.some.injEq, Prod.mk.injEq] at hr
    obtain ⟨rfl, rfl⟩ := hr
    obtain ⟨xs, h1, h4, h5⟩ := manyRes_ok hT h _ _ _ hm ho
    obtain ⟨g1, g2⟩ := h4.get
    have hl1 : l.length ≠ 1 := by
      intro hl
      obtain ⟨v, rfl⟩ := List.length_eq_one_iff.1 hl
      exact hne v rfl
    refine ⟨.tuple xs.toArray, ?_, ⟨xs.toArray, rfl, by simpa using g1, fun i v x hv hx => rep1_of (g2 i v x hv (by simpa using hx)) (h5 v (List.mem_of_getElem? hv))⟩⟩
    rw [results_eq]
    have hx1 : ¬ xs.length = 1 := by omega
    simp [Array.mapM_eq_mapM_toList, h1, hx1]

/-! ### A function, run -/
mutual
def hasN (n : Nat) : A → Bool
  | .p id _ _ => Nat.ble n id
  | .e id _ _ _ _ => Nat.ble n id
  | .o id _ => Nat.ble n id
  | .w id _ _ _ => Nat.ble n id
  | .a id _ _ _ _ => Nat.ble n id
  | .m id => Nat.ble n id
  | .y id => Nat.ble n id
  | .f _ l => hasNL n l
  | .g _ l => hasNL n l
  | .t l => hasNL n l
  | _ => false
def hasNL (n : Nat) : List A → Bool
  | [] => false
  | a :: r => hasN n a || hasNL n r
end
def hasNO (n : Nat) : Ob → Bool
  | .box _ a _ => hasN n a
  | .row _ _ _ _ _ => false
  | .map _ _ es => es.any fun p => hasN n p.2
  | .vm _ _ _ => false
  | .lp (some r) => r.sl.any fun p => hasN n p.2
  | .lp none => false
  | .it (some m) => Nat.ble n m
  | .it none => false
/-- Does anything that stays name what is new? -/
def stays (n : Nat) (v : A) (l : List (Nat × Ob)) : Bool := hasN n v || l.any fun p => Nat.blt p.1 n && hasNO n p.2
def pack (n : Nat) (v : A) (σ : St) (ro : List Nat) : Eff :=
  match σ.ob.toL fun j => j with
  | [] => ⟨v, [], addR σ.ob ro σ.rd, σ.nx⟩
  | l => ⟨v, bif stays n v l then l else l.filter fun p => Nat.blt p.1 n || Nat.ble σ.nx p.1, addR σ.ob ro σ.rd, σ.nx⟩
def argS : Nat → List A → List (Nat × A)
  | _, [] => []
  | k, v :: r => (k, v) :: argS (k + 1) r
def endB : Exit → Bool
  | .ret | .normal => true
  | _ => false
/-- The blocks of an activation's ranges over functions are shut when it ends. -/
def dropO (ms : List Nat) (f : Nat → Option Ob) : Nat → Option Ob := fun j => if mem j ms then none else f j
def mksB (n h : Nat) (f : Nat → Option Ob) : List Nat → Bool
  | [] => true
  | id :: r => (match f id with
    | some (.lp none) => true
    | _ => false) && Nat.ble n id && Nat.blt id h && !mem id r && mksB n h f r
def lessW (ms : List Nat) (f : Eff) : Eff :=
  match ms with
  | [] => f
  | _ => { f with wo := f.wo.filter fun p => !mem p.1 ms }
def runF (P : Program) (T : TT) (K : KS) (Lo : Nat → LTab) (fu f : Nat) : Sym := fun args of nx =>
  match P.funcs[f]? with
  | some fn => match fn.body with
    | some code => if !(fn.name == "runtime.NumGoroutine") && Nat.ble args.length fn.ntmps then
        (match exec T K (Lo nx) fu fn.ntmps of code ⟨argS 0 args, .e, [], nx, some []⟩ with
        | some (ex, σ) => if endB ex then
            (match σ.mks with
            | some ms => if mksB nx σ.nx σ.ob.get ms then
              (match resA T (getS σ.sl) (over σ.ob of) fn.results.toList with
              | some (v, ro) => some (lessW ms (pack nx v σ ro))
              | none => none) else none
            | none => none) else none
        | none => none) else none
    | none => none
  | none => none
theorem getS_argS : ∀ (l : List A) (k t : Nat), getS (argS k l) t = if t < k then .x else l.getD (t - k) .x := by
  intro l
  induction l with
  | nil => intro k t; simp [argS, getS]
  | cons v r ih =>
    intro k t
    rw [argS, getS_cons, upd]
    by_cases h : t = k
    · subst h; simp
    · rw [if_neg h, ih (k + 1) t]
      by_cases hlt : t < k
      · rw [if_pos (by omega), if_pos hlt]
      · rw [if_neg (by omega), if_neg hlt, show t - k = t - (k + 1) + 1 by omega]
        simp
theorem put_filter (keep : Nat → Bool) : ∀ (l : List (Nat × Ob)) (f g : Nat → Option Ob) (id : Nat), f id = g id → put f (l.filter fun p => keep p.1) id = if keep id then put g l id else f id := by
  intro l
  induction l with
  | nil => intro f g id h; simp only [List.filter_nil, put]; split; exact h; rfl
  | cons p r ih =>
    intro f g id h
    obtain ⟨k, o⟩ := p
    by_cases hk : keep k = true
    · rw [List.filter_cons_of_pos (by exact hk)]
      simp only [put]
      by_cases hid : id = k
      · subst hid
        rw [ih _ (upd g id (some o)) id (by rw [upd_same, upd_same]), if_pos hk, if_pos hk]
      · rw [ih _ (upd g k (some o)) id (by rw [upd_ne _ _ hid, upd_ne _ _ hid]; exact h), upd_ne _ _ hid]
    · rw [List.filter_cons_of_neg (by exact hk)]
      simp only [put]
      by_cases hid : id = k
      · subst hid
        rw [ih f f id rfl, if_neg hk, if_neg hk]
      · exact ih f _ id (by rw [upd_ne _ _ hid]; exact h)
theorem OSim.sub {of2 : Nat → Option Ob} (h : OSim T c e of) (hs : ∀ id o, of2 id = some o → of id = some o) : OSim T c e of2 := by
  have hs' : ∀ id, (of2 id).isSome → (of id).isSome := fun id h => by
    obtain ⟨o, ho⟩ := Option.isSome_iff_exists.1 h
    rw [hs _ _ ho]; rfl
  exact ⟨fun id o ho => h.ok id o (hs _ _ ho), fun i j b o b' o' hi hj => h.sep i j b o b' o' (hs' _ hi) (hs' _ hj), fun i b o hi => h.own i b o (hs' _ hi), h.lt, h.slt, h.s0, h.snew, h.os, h.tape, h.output, h.size, h.block⟩
theorem pack_spec (n : Nat) (v : A) (σ : St) (ro : List Nat) : (pack n v σ ro).val = v ∧ (pack n v σ ro).ro = addR σ.ob ro σ.rd ∧ (pack n v σ ro).nx = σ.nx ∧
    ((pack n v σ ro).wo = (σ.ob.toL fun j => j) ∨ (pack n v σ ro).wo = (σ.ob.toL fun j => j).filter fun p => Nat.blt p.1 n || Nat.ble σ.nx p.1) := by
  unfold pack
  split
  · rename_i h; rw [h]; exact ⟨rfl, rfl, rfl, .inl rfl⟩
  · cases stays n v (σ.ob.toL fun j => j)
    · exact ⟨rfl, rfl, rfl, .inr rfl⟩
    · exact ⟨rfl, rfl, rfl, .inl rfl⟩
theorem pack_sub {n : Nat} {v : A} {σ : St} {ro : List Nat} (hb : Base T e of') (hf : ∀ id, n ≤ id → id < σ.nx → ¬ e.U id) : ∀ id o, put of' (pack n v σ ro).wo id = some o → over σ.ob of' id = some o := by
  intro id o ho
  obtain ⟨o1, o2, o3, o4⟩ := pack_spec n v σ ro
  rcases o4 with h4 | h4
  · rw [h4, put_toL_id] at ho; exact ho
  · rw [h4, put_filter (fun k => Nat.blt k n || Nat.ble σ.nx k) _ of' of' id rfl] at ho
    split at ho
    · rw [put_toL_id] at ho; exact ho
    · rename_i hk
      simp only [Bool.or_eq_true, Nat.blt_eq, Nat.ble_eq, not_or, Nat.not_lt, Nat.not_le] at hk
      exact absurd (hb _ _ ho).use (hf id hk.1 hk.2)
theorem mksB_spec {n h : Nat} {f : Nat → Option Ob} : ∀ (ms : List Nat), mksB n h f ms = true → (∀ id ∈ ms, f id = some (.lp none) ∧ n ≤ id ∧ id < h) ∧ ms.Nodup := by
  intro ms
  induction ms with
  | nil => intro _; exact ⟨fun _ h => (by cases h), .nil⟩
  | cons id r ih =>
    intro hm
    simp only [mksB, Bool.and_eq_true, Bool.not_eq_true'] at hm
    obtain ⟨⟨⟨⟨h1, h2⟩, h3⟩, h4⟩, h5⟩ := hm
    obtain ⟨i1, i2⟩ := ih h5
    refine ⟨fun j hj => ?_, List.nodup_cons.2 ⟨fun q => (by rw [mem_iff.2 q] at h4; cases h4), i2⟩⟩
    rcases List.mem_cons.1 hj with rfl | hj
    · refine ⟨?_, Nat.le_of_ble_eq_true h2, by simpa [Nat.blt_eq] using h3⟩
      split at h1 <;> first | assumption | cases h1
    · exact i1 j hj
theorem dropO_nil (f : Nat → Option Ob) : dropO [] f = f := by
  funext j; simp [dropO, mem]
theorem dropO_cons {id : Nat} {r : List Nat} {f : Nat → Option Ob} : dropO r (fun j => if j = id then none else f j) = dropO (id :: r) f := by
  funext j
  simp only [dropO, mem]
  by_cases h : j = id
  · subst h; simp
  · have : Nat.beq id j = false := by
      rw [← Bool.not_eq_true]; intro q; exact h (Nat.eq_of_beq_eq_true q).symm
    simp [h, this]
theorem lessW_spec (ms : List Nat) (f : Eff) : (lessW ms f).val = f.val ∧ (lessW ms f).ro = f.ro ∧ (lessW ms f).nx = f.nx ∧ ∀ (of : Nat → Option Ob) id o, put of (lessW ms f).wo id = some o → (id ∈ ms ∧ of id = some o) ∨ (id ∉ ms ∧ put of f.wo id = some o) := by
  cases ms with
  | nil => exact ⟨rfl, rfl, rfl, fun of id o h => .inr ⟨by simp, h⟩⟩
  | cons m r =>
    refine ⟨rfl, rfl, rfl, fun of id o h => ?_⟩
    have h : put of (f.wo.filter fun p => !mem p.1 (m :: r)) id = some o := h
    rw [put_filter (fun k => !mem k (m :: r)) _ of of id rfl] at h
    by_cases hm : mem id (m :: r) = true
    · rw [hm] at h
      exact .inl ⟨mem_iff.1 hm, by simpa using h⟩
    · rw [Bool.not_eq_true] at hm
      rw [hm] at h
      exact .inr ⟨fun q => (by rw [mem_iff.2 q] at hm; cases hm), by simpa using h⟩
/-- A block that no object told of is in is written. -/
theorem OSim.aside (h : OSim T c e of) {b : Nat} (hown : c.w0.heap.size ≤ b ∨ c.M b) (hno : ∀ id q, (of id).isSome → e.ι id ≠ some (b, q)) {g g' : Go.Obj} (h0 : e.w.heap[b]? = some g) (hg : ∀ cs t fz, g ≠ .cells cs t fz) (hg' : ∀ cs t fz, g' ≠ .cells cs t fz) {w' : World} (hw : w' = { e.w with heap := e.w.heap.setIfInBounds b g' }) :
    OSim T c { e with w := w' } of ∧ e.le { e with w := w' } := by
  have hlt : b < e.w.heap.size := (Array.getElem?_eq_some_iff.1 h0).1
  have h1 : w'.heap[b]? = some g' := by rw [hw]; simp [hlt]
  have hne : ∀ k, k ≠ b → w'.heap[k]? = e.w.heap[k]? := fun k hk => by rw [hw]; simp [Ne.symm hk]
  have hsz : w'.heap.size = e.w.heap.size := by rw [hw]; simp
  have hln : ∀ k, blen w' k = blen e.w k := fun k => by
    by_cases hk' : k = b
    · subst hk'
      unfold blen
      rw [h0, h1]
      cases g <;> cases g' <;> first | rfl | exact absurd rfl (hg _ _ _) | exact absurd rfl (hg' _ _ _)
    · exact len_of_heap (hne _ hk')
  have hle : e.le { e with w := w' } := by
    refine ⟨fun k i hs => ⟨hs, fun x hx => ?_⟩, fun _ hu => hu, fun j hu _ => ⟨rfl, rfl, fun k q' hk => hln k⟩, fun _ _ h => h, fun _ _ => Nat.le_refl _, fun _ _ => rfl, by show _ ≤ w'.heap.size; omega, fun k _ => hln k⟩
    by_cases hk : k = b
    · subst hk
      exfalso
      unfold World.cell? at hx
      rw [h0] at hx
      cases g <;> first | (exact absurd rfl (hg _ _ _)) | (simp at hx; done)
    · rw [← hx]; exact cell_of_heap (hne _ hk)
  refine ⟨⟨fun id o ho => (h.ok id o ho).keep hle rfl (fun k q hk => hne k (fun hkb => hno id q (by rw [ho]; rfl) (by rw [← hkb]; exact hk))) (fun _ _ _ _ hs => hs), h.sep, h.own, fun id k q hu hk => by show k < w'.heap.size; rw [hsz]; exact h.lt id k q hu hk, fun k i hs => by show k < w'.heap.size; rw [hsz]; exact h.slt k i hs, h.s0, h.snew, by show w'.os = _; rw [hw]; exact h.os, by show w'.tape = _; rw [hw]; exact h.tape, by show w'.output = _; rw [hw]; exact h.output, by show _ ≤ w'.heap.size; rw [hsz]; exact h.size, fun k hk hm => ?_⟩, hle⟩
  show w'.heap[k]? = _
  rw [hne k (fun hkb => by subst hkb; rcases hown with h' | h'; omega; exact hm h')]
  exact h.block k hk hm
theorem leaves_marks {n : Nat} {fn : Func} {tmps : Array Value} {R : Ending → World → Prop} : ∀ (ms : List Nat) (ds : List Deferred) (e : Env) (f : Nat → Option Ob), MarksL e ms ds → (∀ id ∈ ms, f id = some (.lp none)) → ms.Nodup → OSim T c e f →
    (∀ e', e.le e' → (∀ id, e'.U id → e.U id) → OSim T c e' (dropO ms f) → ∃ v, (results fn tmps).run P e'.w = .ok v e'.w ∧ R (.returned v) e'.w) → LeavesInM (WF none) n P fn tmps R ds .returning e.w := by
  intro ms
  induction ms with
  | nil =>
    intro ds e f hm _ _ hos h
    cases hm
    rw [LeavesInM, LeavesIn]
    exact h e (Env.le.refl e) (fun _ q => q) (by rw [dropO_nil]; exact hos)
  | cons id r ih =>
    intro ds e f hm hn hd hos h
    cases hm with
    | @cons _ b _ ds' h1 h2 h3 h4 =>
    obtain ⟨g1, g2, b', g3, g4⟩ := hos.ok id _ (hn id (by simp))
    rw [h3] at g3; cases g3
    obtain ⟨d1, d2⟩ := List.nodup_cons.1 hd
    let f' : Nat → Option Ob := fun j => if j = id then none else f j
    have hsub : ∀ j o, f' j = some o → f j = some o := fun j o hj => by
      by_cases hj' : j = id
      · simp [f', hj'] at hj
      · simpa [f', hj'] using hj
    have os1 : OSim T c e f' := hos.sub hsub
    let w' : World := { e.w with heap := e.w.heap.setIfInBounds b (.deferred none) }
    obtain ⟨os2, le2⟩ := os1.aside (b := b) (hos.own id b 0 (by rw [hn id (by simp)]; rfl) h3) (fun j q hj hι => by
      have hj' : j ≠ id := by intro q'; subst q'; simp [f'] at hj
      have hjs : (f j).isSome := by simpa [f', hj'] using hj
      exact absurd rfl (hos.sep j id b q b 0 hjs (by rw [hn id (by simp)]; rfl) hι h3 hj')) g4 (fun _ _ _ h => by cases h) (g' := .deferred none) (fun _ _ _ h => by cases h) (w' := w') rfl
    rw [LeavesInM]
    refine ⟨by simp, .inl ⟨b, w', rfl, ?_, ?_⟩⟩
    · simp [Instr.takeDeferred, run_getObj_some g4, run_setObj_some _ g4, w']
    · refine ih ds' { e with w := w' } f' (h4.mono le2) (fun j hj => ?_) d2 os2 (fun e' hle hu hos' => ?_)
      · have : j ≠ id := by intro q; subst q; exact d1 hj
        simp only [f', if_neg this]
        exact hn j (by simp [hj])
      · exact h e' (le2.trans hle) hu (by rw [← dropO_cons]; exact hos')
theorem manyRes_congr {sl : Nat → A} {f g : Nat → Option Ob} (hfg : ∀ id t b sh, f id = some (.box t b sh) → g id = some (.box t b sh)) : ∀ (rs : List ResultVar) (x : List A × List Nat), manyRes T sl f rs = some x → manyRes T sl g rs = some x := by
  intro rs
  induction rs with
  | nil => intro x h; exact h
  | cons r rs ih =>
    intro x hr
    simp only [manyRes] at hr ⊢
    split at hr <;> try (cases hr; done)
    rename_i v p1 h1
    split at hr <;> try (cases hr; done)
    rename_i l1 q1 h2
    have k1 : oneRes T sl g r = some (v, p1) := by
      cases r with
      | tmp t => exact h1
      | cell ad t =>
        simp only [oneRes] at h1 ⊢
        split at h1 <;> try (cases h1; done)
        rename_i te id t' path hte hsl
        split at h1 <;> try (cases h1; done)
        rename_i hof
        rw [hfg _ _ _ _ hof]
        exact h1
    rw [k1, ih _ h2]
    exact hr
theorem resA_congr {sl : Nat → A} {f g : Nat → Option Ob} (hfg : ∀ id t b sh, f id = some (.box t b sh) → g id = some (.box t b sh)) {rs : List ResultVar} {x : A × List Nat} (h : resA T sl f rs = some x) : resA T sl g rs = some x := by
  unfold resA at h ⊢
  split at h <;> try (cases h; done)
  rename_i l p hm
  rw [manyRes_congr hfg _ _ hm]
  exact h
theorem runF_ok (hm : P.follows .mixedOrders = true) (hT : TOK T P) {K : KS} (hK : KOK P T K) {Lo : Nat → LTab} {fu f : Nat} (hL : ∀ n0 fn code, P.funcs[f]? = some fn → fn.body = some code → LoopsOK P T fn.ntmps n0 (Lo n0) code) : SymOK P T f (runF P T K Lo fu f) := by
  intro c e of of' args vals nx out hos hr hro hu hvals
  unfold runF at hr
  split at hr <;> try (cases hr; done)
  rename_i fn hf
  split at hr <;> try (cases hr; done)
  rename_i code hb
  split at hr <;> try (cases hr; done)
  rename_i hcc
  simp only [Bool.and_eq_true, Bool.not_eq_true'] at hcc
  obtain ⟨hn, hargs⟩ := hcc
  have hargs := Nat.le_of_ble_eq_true hargs
  split at hr <;> try (cases hr; done)
  rename_i ex σ hx
  split at hr <;> try (cases hr; done)
  rename_i hend
  split at hr <;> try (cases hr; done)
  rename_i ms hmk
  split at hr <;> try (cases hr; done)
  rename_i hmb
  obtain ⟨hms, hnd⟩ := mksB_spec _ hmb
  split at hr <;> try (cases hr; done)
  rename_i v ro hres
  injection hr with hr
  obtain ⟨q1, q2, q3, q4⟩ := lessW_spec ms (pack nx v σ ro)
  obtain ⟨o1, o2, o3, o4⟩ := pack_spec nx v σ ro
  rw [hr] at q1 q2 q3 q4
  have o1 := q1.trans o1
  have o2 := q2.trans o2
  have o3 := q3.trans o3
  have hcall : (callFunc f vals).run P e.w = .ok (.enter f vals) e.w := by
    have hn' : ¬ fn.name = "runtime.NumGoroutine" := by simpa using hn
    simp [callFunc, hf, hn', hb]
  refine .inr (.inr (.inl ⟨f, vals, e.w, hcall, ?_⟩))
  refine (callsIn_wide (n := 0)).1 (callsIn_of_wp_marks (F := WF none) hf hb trivial ?_ rfl)
  have hlen := hvals.get.1
  rw [Array.length_toList] at hlen
  have hsim : Sim T { c with rd := none } e of' nx fn.ntmps ⟨argS 0 args, .e, [], nx, some []⟩ { tmps := vals ++ Array.replicate (fn.ntmps - vals.size) undef, defers := [] } e.w := by
    refine ⟨e, rfl, ?_, Env.le.refl e, fun id hid => .inl hid, fun t => ?_, ⟨rfl, .nil⟩, by simp; omega⟩
    · have : over Tr.e of' = of' := by funext id; unfold over; rw [Tr.get_e]
      rw [this]; exact hos.ctx none
    · show Rep T e (getS (argS 0 args) t) _
      rw [getS_argS, if_neg (by omega), Nat.sub_zero]
      by_cases ht : t < args.length
      · have h1 : args[t]? = some args[t] := List.getElem?_eq_getElem ht
        have h2 : vals.toList[t]? = some vals[t] := by rw [Array.getElem?_toList]; exact Array.getElem?_eq_getElem (by omega)
        have := hvals.get.2 t _ _ h1 h2
        have e1 : args.getD t .x = args[t] := by simp [List.getD, h1]
        have e2 : (vals ++ Array.replicate (fn.ntmps - vals.size) undef).getD t undef = vals[t] := by
          have : t < vals.size := by omega
          simp [Array.getD, Array.getElem_append_left this]
          omega
        rw [e1]
        show Rep T e _ ((vals ++ Array.replicate (fn.ntmps - vals.size) undef).getD t undef)
        rw [e2]; exact this
      · rw [show args.getD t .x = .x by simp [List.getD, List.getElem?_eq_none (by omega : args.length ≤ t)]]
        trivial
  obtain ⟨l1, k1⟩ := exec_ok (of := of) (n0 := nx) hm hT hK code (hL nx fn code hf hb) _ _ _ hx
  have hfit : Fits of of' e nx σ := ⟨fun id hid => hro id (by rw [o2]; exact addR_mono _ _ _ _ hid), fun id h1 h2 => hu id h1 (by rw [o3]; exact h2)⟩
  refine wpI_mono ?_ (k1 0 of' { c with rd := none } e _ _ (Nat.le_refl _) hfit hos.ok hsim)
  rintro ex' a w ⟨rfl, e', rfl, hst⟩
  have hmarks := hst.def_
  rw [hmk] at hmarks
  have hms' : ∀ id ∈ ms, over σ.ob of' id = some (.lp none) := fun id hid => over_ge (hms id hid).1
  have fin : LeavesInM (WF none) 0 P fn a.tmps (fun en w' => ∃ x, en = .returned x ∧ LeftN T c e of' nx out x w') a.defers .returning e'.w := by
    refine leaves_marks ms a.defers e' (over σ.ob of') hmarks.2 hms' hnd hst.os (fun e2 hle hu2 hos2 => ?_)
    have hst2 : Stands T { c with rd := none } e (getS σ.sl) (dropO ms (over σ.ob of')) (fun id => e.U id ∨ (nx ≤ id ∧ id < σ.nx)) fn.ntmps σ.mks a e2 :=
      ⟨hos2, hst.le.trans hle, fun id hid => hst.U id (hu2 id hid), fun t => (hst.sl t).mono hle, hst.def_.mono hle, hst.nt⟩
    have hres2 : resA T (getS σ.sl) (dropO ms (over σ.ob of)) fn.results.toList = some (v, ro) := by
      refine resA_congr (fun id t b sh hid => ?_) hres
      unfold dropO
      have : mem id ms = false := by
        rw [← Bool.not_eq_true]; intro q
        rw [over_ge (of := of) (hms id (mem_iff.1 q)).1] at hid; cases hid
      rw [this]; exact hid
    have hagree := over_agree (ob := σ.ob) (rd := out.ro) (ro := ro) (l := σ.rd) (of := of) (of' := of') (fun id hid => hro id hid) (by rw [o2]; exact fun _ h => h)
    obtain ⟨x, g1, g2⟩ := resA_ok hT fn hst2 hres2 (fun id hid => by
      unfold dropO
      rw [hagree id hid])
    refine ⟨x, g1, x, rfl, e2, rfl, ?_, hst2.le, fun id hid => by rw [o3]; exact hst2.U id hid, by rw [o1]; exact g2⟩
    refine (hos2.unctx).sub (fun id o ho => ?_)
    rcases q4 of' id o ho with ⟨h1, h2⟩ | ⟨h1, h2⟩
    · obtain ⟨_, h3, h4⟩ := hms id h1
      exact absurd (hos.ok _ _ h2).use (hfit.fr id h3 h4)
    · have := pack_sub (of' := of') hos.ok hfit.fr id o h2
      unfold dropO
      have hm' : mem id ms = false := by
        rw [← Bool.not_eq_true]; intro q; exact h1 (mem_iff.1 q)
      rw [hm']; exact this
  cases ex' with
  | ret => exact fin
  | normal => exact fin
  | _ => cases hend
/-! ### A round of a range over a function -/
def argP : List Nat → List A → List (Nat × A) → List (Nat × A)
  | p :: ps, a :: as, sl => argP ps as ((p, a) :: sl)
  | _, _, sl => sl
def exJ : Exit → Option (Option Code)
  | .normal => some none
  | .ret => some (some .ret)
  | .exit k => some (some (.exit k))
  | _ => none
def lpE (ok : LoopState → Bool) (q : Option Ob) : Option LR :=
  match q with
  | some (.lp (some r)) => bif ok r.st then some r else none
  | _ => none
def isReady : LoopState → Bool
  | .ready => true
  | _ => false
def setLp (σ : St) (id : Nat) (r : LR) : St := { σ with ob := σ.ob.set id (.lp (some r)), rd := addR σ.ob [id] σ.rd }
def endR (id : Nat) (nx : Nat) (of : Nat → Option Ob) (q : Option (Exit × St)) : Option Eff :=
  match q with
  | some (ex, σ2) => match lpE (fun _ => true) (over σ2.ob of id), exJ ex with
    | some r2, some j => some (pack nx (.b j.isNone) (setLp σ2 id { r2 with st := bif j.isNone then .ready else .done, pend := j }) [])
    | _, _ => none
  | none => none
def yieldS (T : TT) (K : KS) (fu id : Nat) : Sym := fun args of nx =>
  match lpE isReady (of id) with
  | some r => if Nat.beq args.length r.ps.size && r.ps.toList.all (fun p => Nat.blt p r.nt) then
      (match exec T K (fun _ => none) fu r.nt of r.asg ⟨argP r.ps.toList args r.sl, .e, [id], nx, none⟩ with
      | some (.normal, σ1) => match lpE isReady (over σ1.ob of id) with
        | some r1 => endR id nx of (exec T K (fun _ => none) fu r.nt of r.body (setLp σ1 id { r1 with st := .busy }))
        | none => none
      | _ => none) else none
  | none => none
theorem lpE_spec {ok : LoopState → Bool} {q : Option Ob} {r : LR} (h : lpE ok q = some r) : q = some (.lp (some r)) ∧ ok r.st = true := by
  unfold lpE at h
  split at h <;> try (cases h; done)
  rename_i r'
  cases hk : ok r'.st <;> rw [hk] at h
  · cases h
  · simp only [cond_true, Option.some.injEq] at h; subst h; exact ⟨rfl, hk⟩
theorem getS_mem (l : List (Nat × A)) (t : Nat) : getS l t = .x ∨ ∃ p ∈ l, p.1 = t ∧ p.2 = getS l t := by
  induction l with
  | nil => exact .inl rfl
  | cons p r ih =>
    obtain ⟨k, v⟩ := p
    rw [getS_cons]
    by_cases h : t = k
    · subst h; rw [upd_same]; exact .inr ⟨(t, v), by simp, rfl, rfl⟩
    · rw [upd_ne _ _ h]
      rcases ih with ih | ⟨q, h1, h2, h3⟩
      · exact .inl ih
      · exact .inr ⟨q, by simp [h1], h2, h3⟩
theorem rep1_rep {e : Env} {v : A} {x : Value} (h : Rep1 T e v x) : Rep T e v x := by
  cases v with
  | t l => exact h.elim
  | _ => exact h
theorem argP_ok {nt : Nat} : ∀ (ps : List Nat) (args : List A) (vals : List Value) (sl : List (Nat × A)) (tm : Array Value), Reps T e args vals → args.length = ps.length → (∀ p ∈ ps, p < nt) → tm.size = nt → (∀ t, Rep T e (getS sl t) (tm.getD t undef)) →
    ((ps.zip vals).foldl (fun tmps (t, a) => tmps.setIfInBounds t a) tm).size = nt ∧ ∀ t, Rep T e (getS (argP ps args sl) t) (((ps.zip vals).foldl (fun tmps (t, a) => tmps.setIfInBounds t a) tm).getD t undef) := by
  intro ps
  induction ps with
  | nil =>
    intro args vals sl tm _ _ _ h1 h2
    cases args <;> exact ⟨h1, h2⟩
  | cons p ps ih =>
    intro args vals sl tm hr hl hp h1 h2
    cases hr with
    | nil => simp at hl
    | @cons v x r s hv hrs =>
      simp only [List.zip_cons_cons, List.foldl_cons, argP]
      refine ih _ _ _ _ hrs (by simpa using hl) (fun q hq => hp q (by simp [hq])) (by simpa using h1) (fun t => ?_)
      rw [getS_cons]
      by_cases ht : t = p
      · subst ht
        have := hp t (by simp)
        rw [upd_same, show (tm.setIfInBounds t x).getD t undef = x by simp [h1, this]]
        exact hv
      · rw [upd_ne _ _ ht, show (tm.setIfInBounds p x).getD t undef = tm.getD t undef by simp [Array.getElem?_setIfInBounds_ne (Ne.symm ht)]]
        exact h2 t
theorem Stands.setLp {nt id : Nat} {n0 : Nat} {σ : St} {a : Act} {mk : Option (List Nat)} (h : Stands T c eb (getS σ.sl) (over σ.ob of') (fun id => eb.U id ∨ (n0 ≤ id ∧ id < σ.nx)) nt mk a e) {r r' : LR} (hr : over σ.ob of' id = some (.lp (some r))) {b : Nat} (hb : e.ι id = some (b, 0))
    (hs : r'.nt = r.nt ∧ r'.sl = r.sl ∧ r'.ps = r.ps ∧ r'.asg = r.asg ∧ r'.body = r.body) :
    ∃ lr : Loop, e.w.heap[b]? = some (.loop lr) ∧ lr.state = r.st ∧ lr.pending = r.pend ∧ ∀ w', w' = { e.w with heap := e.w.heap.setIfInBounds b (.loop { lr with state := r'.st, pending := r'.pend }) } →
      Stands T c eb (getS (Go.Vm.setLp σ id r').sl) (over (Go.Vm.setLp σ id r').ob of') (fun k => eb.U k ∨ (n0 ≤ k ∧ k < (Go.Vm.setLp σ id r').nx)) nt mk a { e with w := w' } := by
  obtain ⟨k1, k2, b', tm, df, fn, k3, k4, k5, k6⟩ := h.os.ok _ _ hr
  rw [hb] at k3; cases k3
  refine ⟨_, k4, rfl, rfl, fun w' hw => ?_⟩
  obtain ⟨os4, le4⟩ := h.os.writeG (o' := .lp (some r')) hr hb k4 (fun _ _ _ h => by cases h) (g' := .loop { state := r'.st, pending := r'.pend, fn := fn, tmps := tm, params := r.ps, assign := r.asg, body := r.body, defers := df }) (fun _ _ _ h => by cases h) (w' := w') hw
      (fun hle hh => ⟨k1, k2, b, tm, df, fn, hb, by rw [hs.2.2.1, hs.2.2.2.1, hs.2.2.2.2]; exact hh, by rw [hs.1]; exact k5, fun p hp => (k6 p (by rw [← hs.2.1]; exact hp)).mono hle⟩)
  refine ⟨?_, h.le.trans le4, h.U, fun t => (h.sl t).mono le4, h.def_.mono le4, h.nt⟩
  show OSim T c _ (over (σ.ob.set id (.lp (some r'))) of')
  rw [over_set]; exact os4
theorem run_getLoop {w : World} {b : Nat} {lr : Loop} (h : w.heap[b]? = some (.loop lr)) : (Instr.getLoop b).run P w = .ok lr w := by
  simp [Instr.getLoop, run_getObj_some h]
theorem yieldS_ok (hm : P.follows .mixedOrders = true) (hT : TOK T P) {K : KS} (hK : KOK P T K) {fu id : Nat} : YOK P T id (yieldS T K fu id) := by
  intro c e of of' args vals nx out b hos hr hro hu hvals hU hbn hι
  unfold yieldS at hr
  split at hr <;> try (cases hr; done)
  rename_i r hofid
  obtain ⟨hofid, hrdy⟩ := lpE_spec hofid
  split at hr <;> try (cases hr; done)
  rename_i hcc
  simp only [Bool.and_eq_true] at hcc
  obtain ⟨hc1, hc2⟩ := hcc
  have hc1 := Nat.eq_of_beq_eq_true hc1
  have hc2 : ∀ p ∈ r.ps.toList, p < r.nt := fun p hp => by simpa [Nat.blt_eq] using List.all_eq_true.1 hc2 p hp
  split at hr <;> try (cases hr; done)
  rename_i σ1 hx1
  split at hr <;> try (cases hr; done)
  rename_i r1 hr1
  obtain ⟨hr1, hrdy1⟩ := lpE_spec hr1
  unfold endR at hr
  split at hr <;> try (cases hr; done)
  rename_i ex σ2 hx2
  split at hr <;> try (cases hr; done)
  rename_i r2 j hr2 hj
  obtain ⟨hr2, -⟩ := lpE_spec hr2
  generalize hr3 : ({ r2 with st := bif j.isNone then .ready else .done, pend := j } : LR) = r3 at hr
  generalize hσ3 : setLp σ2 id r3 = σ3 at hr
  injection hr with hr
  obtain ⟨o1, o2, o3, -⟩ := pack_spec nx (.b j.isNone) σ3 []
  rw [hr] at o1 o2 o3
  obtain ⟨l1, k1⟩ := exec_ok (of := of) (n0 := nx) hm hT hK r.asg (loopsOK_none _) _ _ _ hx1
  obtain ⟨l2, k2⟩ := exec_ok (of := of) (n0 := nx) hm hT hK r.body (loopsOK_none _) _ _ _ hx2
  have l3 : σ2.le σ3 := by rw [← hσ3]; exact ⟨addR_mono _ _ _, Nat.le_refl _⟩
  have l12 : σ1.le (setLp σ1 id { r1 with st := .busy }) := ⟨addR_mono _ _ _, Nat.le_refl _⟩
  have hfit3 : Fits of of' e nx σ3 := ⟨fun k hk => hro k (by rw [o2]; exact hk), fun k h1 h2 => hu k h1 (by rw [o3]; exact h2)⟩
  have hfit2 : Fits of of' e nx σ2 := hfit3.mono l3
  have hfit1' : Fits of of' e nx (setLp σ1 id { r1 with st := .busy }) := hfit2.mono l2
  have hfit1 : Fits of of' e nx σ1 := hfit1'.mono l12
  have hid' : of' id = of id := hfit1.rd id (l1.1 id (by simp))
  have hov : ∀ (σ : St), over σ.ob of' id = over σ.ob of id := fun σ => by
    unfold over; rw [hid']
  obtain ⟨g1, g2, b', tm, df, fn, g3, g4, g5, g6⟩ := hos.ok id _ (hid'.trans hofid)
  rw [hι] at g3; cases g3
  have hlen := hvals.get.1
  rw [Array.length_toList] at hlen
  have hsz : vals.size = r.ps.size := by omega
  obtain ⟨a1, a2⟩ := argP_ok r.ps.toList args vals.toList r.sl tm hvals (by rw [Array.length_toList]; exact hc1) hc2 g5 (fun t => by
    rcases getS_mem r.sl t with h | ⟨p, h1, h2, h3⟩
    · rw [h]; trivial
    · subst h2; rw [← h3]; exact rep1_rep (g6 p h1))
  generalize htm : (r.ps.toList.zip vals.toList).foldl (fun tmps (t, a) => tmps.setIfInBounds t a) tm = tm1 at a1 a2
  have hyield : (Instr.yield b vals).run P e.w = .ok (.round b fn tm1 r.asg r.body) e.w := by
    have hz : (r.ps.zip vals).foldl (fun tmps (t, a) => tmps.setIfInBounds t a) tm = tm1 := by
      rw [← htm, ← Array.toList_zip, Array.foldl_toList]
    simpa [Instr.yield, run_getLoop g4, hsz] using hz
  refine .inr (.inr (.inr ⟨b, fn, tm1, r.asg, r.body, e.w, hyield, ?_⟩))
  refine roundIn_of_wpIn trivial ?_
  show r.asg.wpIn (WF (some b)) 0 P _ { tmps := tm1, defers := [] } e.w
  have hsim : Sim T { c with rd := some b } e of' nx r.nt ⟨argP r.ps.toList args r.sl, .e, [id], nx, none⟩ { tmps := tm1, defers := [] } e.w := by
    refine ⟨e, rfl, ?_, Env.le.refl e, fun id hid => .inl hid, a2, rfl, a1⟩
    have : over Tr.e of' = of' := by funext id; unfold over; rw [Tr.get_e]
    rw [this]; exact hos.ctx _
  refine wpI_mono ?_ (k1 0 of' { c with rd := some b } e _ _ (Nat.le_refl _) hfit1 hos.ok hsim)
  rintro ex1 ac1 w1 ⟨rfl, e1, rfl, hst1⟩
  have hι1 : ∀ e1 : Env, e.le e1 → e1.ι id = some (b, 0) := fun e1 hle => by
    have h0 := hle.box _ hU hbn
    rw [(hle.obj _ hU (h0.trans hbn.symm)).1]; exact hι
  obtain ⟨lr1, m1, m2, m3, m4⟩ := hst1.setLp (r' := { r1 with st := .busy }) ((hov σ1).trans hr1) (hι1 e1 hst1.le) ⟨rfl, rfl, rfl, rfl, rfl⟩
  have hst1' := m4 _ rfl
  show ∃ w₂, (Instr.beginRound b).run P e1.w = .ok () w₂ ∧ _
  refine ⟨{ e1.w with heap := e1.w.heap.setIfInBounds b (.loop { lr1 with state := .busy, pending := r1.pend }) }, ?_, ?_⟩
  · have hst : lr1.state = .ready := by
      rw [m2]
      cases hh : r1.st <;> rw [hh] at hrdy1 <;> first | rfl | cases hrdy1
    simp [Instr.beginRound, run_getLoop m1, run_setObj_some _ m1, hst, m3]
  · show r.body.wpIn (WF (some b)) 0 P _ ac1 _
    refine wpI_mono ?_ (k2 0 of' { c with rd := some b } e ac1 _ l1.2 hfit2 hos.ok ⟨_, rfl, hst1'⟩)
    rintro ex2 ac2 w2 ⟨rfl, e2, rfl, hst2⟩
    obtain ⟨lr2, n1, n2, n3, n4⟩ := hst2.setLp (r' := r3) ((hov σ2).trans hr2) (hι1 e2 hst2.le) (by subst hr3; exact ⟨rfl, rfl, rfl, rfl, rfl⟩)
    have hst3 := n4 _ rfl
    have hend : (Instr.endRound b j).run P e2.w = .ok (.bool j.isNone) { e2.w with heap := e2.w.heap.setIfInBounds b (.loop { lr2 with state := r3.st, pending := r3.pend }) } := by
      subst hr3
      cases j <;> simp [Instr.endRound, run_getLoop n1, run_setObj_some _ n1]
    have hleft : ∃ x, Ending.returned (.bool j.isNone) = .returned x ∧ LeftN T c e of' nx out x { e2.w with heap := e2.w.heap.setIfInBounds b (.loop { lr2 with state := r3.st, pending := r3.pend }) } := by
      refine ⟨_, rfl, _, rfl, ?_, hst3.le, fun k hk => ?_, ?_⟩
      · rw [hσ3] at hst3
        refine (hst3.os.unctx).sub (fun k o ho => ?_)
        rw [← hr] at ho
        exact pack_sub (of' := of') hos.ok hfit3.fr k o ho
      · rw [o3]
        have := hst3.U k hk
        rw [hσ3] at this; exact this
      · rw [o1]; exact RA.b .nil
    cases ex2 with
    | normal => cases hj; exact ⟨_, _, hend, hleft⟩
    | ret => cases hj; exact ⟨_, _, hend, hleft⟩
    | exit k => cases hj; exact ⟨_, _, hend, hleft⟩
    | _ => cases hj
/-- Functions that call each other, so deep: by what is said of them, or run. -/
def enterB (P : Program) (f : Nat) : Bool :=
  match P.funcs[f]? with
  | some fn => fn.body.isSome && !(fn.name == "runtime.NumGoroutine")
  | none => false
theorem enterB_ok {f : Nat} (h : enterB P f = true) (vals : Array Value) (w : World) : (callFunc f vals).run P w = .ok (.enter f vals) w := by
  unfold enterB at h
  split at h <;> try (cases h; done)
  rename_i fn hf
  simp only [Bool.and_eq_true, Bool.not_eq_true'] at h
  have hn' : ¬ fn.name = "runtime.NumGoroutine" := by simpa using h.2
  obtain ⟨cd, hb⟩ := Option.isSome_iff_exists.1 h.1
  simp [callFunc, hf, hn', hb]
def runK (P : Program) (T : TT) (C : Nat → Option Sym) (L : Nat → Nat → LTab) (fu : Nat) : Nat → KS
  | 0 => ⟨fun _ _ _ _ => none, fun _ _ _ _ => none, fun _ => false⟩
  | d + 1 => ⟨fun f => match C f with
    | some s => s
    | none => runF P T (runK P T C L fu d) (L f) fu f, fun id => yieldS T (runK P T C L fu d) fu id, enterB P⟩
def runAll (P : Program) (T : TT) (C : Nat → Option Sym) (L : Nat → Nat → LTab) (fu d f : Nat) : Sym := (runK P T C L fu d).f f
theorem runK_ok (hm : P.follows .mixedOrders = true) (hT : TOK T P) {C : Nat → Option Sym} (hC : ∀ f s, C f = some s → SymOK P T f s) {L : Nat → Nat → LTab} (hL : ∀ f n0 fn code, P.funcs[f]? = some fn → fn.body = some code → LoopsOK P T fn.ntmps n0 (L f n0) code) {fu : Nat} : ∀ d, KOK P T (runK P T C L fu d) := by
  intro d
  induction d with
  | zero => exact ⟨fun f c e of of' args vals nx out _ h => (by cases h), fun id c e of of' args vals nx out b _ h => (by cases h), fun f h => (by cases h)⟩
  | succ d ih =>
    refine ⟨fun f => ?_, fun id => yieldS_ok hm hT ih, fun f h => enterB_ok h⟩
    show SymOK P T f (match C f with
      | some s => s
      | none => runF P T (runK P T C L fu d) (L f) fu f)
    split
    · rename_i s hs; exact hC f s hs
    · exact runF_ok hm hT ih (hL f)
theorem runAll_ok (hm : P.follows .mixedOrders = true) (hT : TOK T P) {C : Nat → Option Sym} (hC : ∀ f s, C f = some s → SymOK P T f s) {L : Nat → Nat → LTab} (hL : ∀ f n0 fn code, P.funcs[f]? = some fn → fn.body = some code → LoopsOK P T fn.ntmps n0 (L f n0) code) {fu : Nat} (d f : Nat) : SymOK P T f (runAll P T C L fu d f) := (runK_ok hm hT hC hL d).f f
end Go.Vm


namespace Go.Vm
open Go.RowKit
variable {P : Program} {T : TT} {c : Ctx} {e eb : Env} {of of' : Nat → Option Ob}
set_option linter.unusedVariables false
set_option linter.constructorNameAsVariable false

/-! ### A table of types, held against the program -/
def fitsB (T : TT) : TK → TypeDesc → Bool
  | .int k, .int k' => kbeq k k'
  | .bool, .bool => true
  | .str, .string => true
  | .ptr e, .pointer e' => Nat.beq e e'
  | .slice e, .slice e' => Nat.beq e e'
  | .arr n e, .array n' e' => Nat.beq n n' && Nat.beq e e'
  | .struct fs, .struct gs => lbeq (gs.toList.map (·.type)) fs && offB T fs 0 gs.toList
  | .map k e, .map k' e' => Nat.beq k k' && Nat.beq e e'
  | .func, .func _ _ _ => true
  | .other, .struct _ => false
  | .other, .array _ _ => false
  | .other, _ => true
  | _, _ => false
where
  offB (T : TT) : List Nat → Nat → List Field → Bool
  | f :: fs, off, g :: gs => Nat.beq g.offset off && offB T fs (off + szT T f) gs
  | [], _, [] => true
  | _, _, _ => false
theorem offB_spec : ∀ (fs : List Nat) (off : Nat) (gs : List Field), fitsB.offB T fs off gs = true → ∀ (j : Nat) g, gs[j]? = some g → g.offset = off + szs T (fs.take j) := by
  intro fs
  induction fs with
  | nil =>
    intro off gs h j g hg
    cases gs with
    | nil => simp at hg
    | cons g gs => simp [fitsB.offB] at h
  | cons f fs ih =>
    intro off gs h j g hg
    cases gs with
    | nil => simp [fitsB.offB] at h
    | cons g0 gs =>
      simp only [fitsB.offB, Bool.and_eq_true] at h
      cases j with
      | zero => simp only [List.getElem?_cons_zero, Option.some.injEq] at hg; subst hg; simp [szs, Nat.eq_of_beq_eq_true h.1]
      | succ j => have := ih _ _ h.2 j g (by simpa using hg); rw [this, List.take_succ_cons, szs]; omega
theorem fitsB_spec {k : TK} {d : TypeDesc} (h : fitsB T k d = true) : k.fits T d := by
  cases k <;> cases d <;> simp only [fitsB, TK.fits] at h ⊢ <;> first | (cases h; done) | trivial | skip
  · exact kbeq_eq h
  · exact Nat.eq_of_beq_eq_true h
  · exact Nat.eq_of_beq_eq_true h
  · simp only [Bool.and_eq_true] at h; exact ⟨Nat.eq_of_beq_eq_true h.1, Nat.eq_of_beq_eq_true h.2⟩
  · simp only [Bool.and_eq_true] at h
    refine ⟨lbeq_eq h.1, fun j g hg => ?_⟩
    have := offB_spec _ _ _ h.2 j g (by simpa using hg)
    simpa using this
  · simp only [Bool.and_eq_true] at h; exact ⟨Nat.eq_of_beq_eq_true h.1, Nat.eq_of_beq_eq_true h.2⟩
  all_goals (constructor <;> intro _ <;> intros <;> first | (intro q; cases q; done) | skip)
def rvB (T : TT) : Nat → List Nat → List V → List Value → Bool
  | 0, _, _, _ => false
  | _ + 1, [], [], [] => true
  | f + 1, t :: ts, x :: xs, cs => match kOf T t, x, cs with
    | some (.int k), .i n, .int k' m :: r => kbeq k k' && ieq n m && inRb k n && Nat.beq (szT T t) 1 && rvB T f ts xs r
    | some .bool, .b q, .bool q' :: r => (q == q') && Nat.beq (szT T t) 1 && rvB T f ts xs r
    | some .str, .s l, .string s :: r => Nat.beq l.length 0 && Nat.beq s.data.toList.length 0 && Nat.beq (szT T t) 1 && rvB T f ts xs r
    | some (.ptr _), .n, .pointer none :: r => Nat.beq (szT T t) 1 && rvB T f ts xs r
    | some (.slice _), .n, .slice none 0 0 :: r => Nat.beq (szT T t) 1 && rvB T f ts xs r
    | some (.map _ _), .n, .map none :: r => Nat.beq (szT T t) 1 && rvB T f ts xs r
    | some .func, .n, .nilFunc :: r => Nat.beq (szT T t) 1 && rvB T f ts xs r
    | some (.arr n el), .l ys, cs => Nat.ble (szT T t) cs.length && rvB T f (List.replicate n el) ys (cs.take (szT T t)) && rvB T f ts xs (cs.drop (szT T t))
    | some (.struct fs), .l ys, cs => Nat.ble (szT T t) cs.length && rvB T f fs ys (cs.take (szT T t)) && rvB T f ts xs (cs.drop (szT T t))
    | _, _, _ => false
  | _ + 1, _, _, _ => false
theorem rvB_spec (e : Env) : ∀ (f : Nat) (ts : List Nat) (xs : List V) (cs : List Value), rvB T f ts xs cs = true → RV T e ts xs cs := by
  intro f
  induction f with
  | zero => intro ts xs cs h; cases h
  | succ f ih =>
    intro ts xs cs h
    cases ts with
    | nil =>
      cases xs with
      | nil => cases cs with
        | nil => exact .nil
        | cons c cs => simp [rvB] at h
      | cons x xs => cases cs <;> simp [rvB] at h
    | cons t ts =>
      cases xs with
      | nil => cases cs <;> simp [rvB] at h
      | cons x xs =>
        simp only [rvB] at h
        split at h <;> try (cases h; done)
        all_goals simp only [Bool.and_eq_true] at h
        · rename_i hk
          obtain ⟨⟨⟨⟨h1, h2⟩, h3⟩, h4⟩, h5⟩ := h
          have := kbeq_eq h1; subst this
          have := ieq_iff.1 h2; subst this
          exact .int hk (Nat.eq_of_beq_eq_true h4) (inRb_iff h3) (ih _ _ _ h5)
        · rename_i hk
          obtain ⟨⟨h1, h2⟩, h3⟩ := h
          have h1 := eq_of_beq h1
          subst h1
          exact .bool hk (Nat.eq_of_beq_eq_true h2) (ih _ _ _ h3)
        · rename_i l s r hk
          obtain ⟨⟨⟨h1, h2⟩, h3⟩, h4⟩ := h
          have e1 : l = [] := List.eq_nil_of_length_eq_zero (Nat.eq_of_beq_eq_true h1)
          have e2 : txt s = [] := by unfold txt; rw [List.eq_nil_of_length_eq_zero (Nat.eq_of_beq_eq_true h2)]; rfl
          rw [e1, ← e2]
          exact .str hk (Nat.eq_of_beq_eq_true h3) (ih _ _ _ h4)
        · rename_i hk; exact .ptr hk (Nat.eq_of_beq_eq_true h.1) (ih _ _ _ h.2)
        · rename_i hk; exact .nils hk (Nat.eq_of_beq_eq_true h.1) (ih _ _ _ h.2)
        · rename_i hk; exact .map hk (Nat.eq_of_beq_eq_true h.1) (ih _ _ _ h.2)
        · rename_i hk; exact .func hk (Nat.eq_of_beq_eq_true h.1) (ih _ _ _ h.2)
        · rename_i n el ys hk
          obtain ⟨⟨h1, h2⟩, h3⟩ := h
          have hl := Nat.le_of_ble_eq_true h1
          have := RV.arr hk (by rw [List.length_take]; omega) (ih _ _ _ h2) (ih _ _ _ h3)
          rwa [List.take_append_drop] at this
        · rename_i fs ys hk
          obtain ⟨⟨h1, h2⟩, h3⟩ := h
          have hl := Nat.le_of_ble_eq_true h1
          have := RV.struct hk (by rw [List.length_take]; omega) (ih _ _ _ h2) (ih _ _ _ h3)
          rwa [List.take_append_drop] at this
def aggB : Value → Bool
  | .agg _ => true
  | _ => false
def eqB (P : Program) (t : Nat) (d : TypeDesc) : Bool :=
  !(P.eqGuardType P.depth t) && !(P.stoodInHeld t) && (match d with | .struct gs => gs.toList.all fun f => f.name != "_" | _ => true)
def teB (P : Program) (T : TT) (t : Nat) (te : TE) : Bool :=
  match P.info? t, P.underlying t with
  | some i, some d => match i.zero with
    | some z => Nat.beq i.size te.size && Nat.beq i.bytes te.bytes && fitsB T te.k d && (rvB T 1000 [t] [te.zero] z.cells.toList || !(TK.notOther te.k)) && (te.k.agg == aggB z) && (!te.eq || eqB P t d)
    | none => false
  | _, _ => false
theorem teB_spec {t : Nat} {te : TE} (h : teB P T t te = true) : TEok P T t te := by
  unfold teB at h
  split at h <;> try (cases h; done)
  rename_i i d h1 h2
  split at h <;> try (cases h; done)
  rename_i z h3
  simp only [Bool.and_eq_true] at h
  obtain ⟨⟨⟨⟨⟨a1, a2⟩, a3⟩, a4⟩, a5⟩, a6⟩ := h
  refine ⟨⟨i, d, z, h1, h2, Nat.eq_of_beq_eq_true a1, Nat.eq_of_beq_eq_true a2, fitsB_spec a3, h3, ?_, ?_⟩, fun he => ?_⟩
  · rw [Bool.or_eq_true] at a4
    rcases a4 with a4 | a4
    · exact .inl fun e => rvB_spec e _ _ _ _ a4
    · right; cases hk : te.k <;> rw [hk] at a4 <;> first | rfl | (cases a4; done)
  · have a5' : te.k.agg = aggB z := by simpa using a5
    rw [a5']
    cases z <;> simp [aggB]
  · rw [he] at a6
    simp only [Bool.not_true, Bool.false_or, eqB, Bool.and_eq_true, Bool.not_eq_true'] at a6
    obtain ⟨⟨b1, b2⟩, b3⟩ := a6
    refine ⟨b1, b2, fun gs hg f hf => ?_⟩
    rw [h2] at hg
    injection hg with hg; subst hg
    simpa using List.all_eq_true.1 b3 f hf
def ttOf : List (Nat × TE) → TT
  | [], _ => none
  | (k, v) :: r, t => bif Nat.beq k t then some v else ttOf r t
theorem ttOf_mem : ∀ (l : List (Nat × TE)) (t : Nat) (te : TE), ttOf l t = some te → (t, te) ∈ l := by
  intro l
  induction l with
  | nil => intro t te h; cases h
  | cons p r ih =>
    intro t te h
    obtain ⟨k, v⟩ := p
    simp only [ttOf] at h
    cases hk : Nat.beq k t with
    | true => rw [hk] at h; have := Nat.eq_of_beq_eq_true hk; subst this; injection h with h; subst h; simp
    | false => rw [hk] at h; exact List.mem_cons_of_mem _ (ih _ _ h)
theorem tok {l : List (Nat × TE)} (h : (l.all fun p => teB P (ttOf l) p.1 p.2) = true) : TOK (ttOf l) P := fun t te ht => teB_spec (List.all_eq_true.1 h (t, te) (ttOf_mem l t te ht))

/-! ### From a run to what the machine does -/
def base (w : World) : Env := { w := w, ι := fun _ => none, S := fun b _ => b < w.heap.size, bn := fun _ => 0, U := fun _ => False, ty := fun _ => 0, ln := fun _ => 0 }
def baseC (w : World) : Ctx := { w0 := w, M := fun _ => False, S0 := fun b _ => b < w.heap.size }
theorem base_sim (w : World) : OSim T (baseC w) (base w) (fun _ => none) :=
  ⟨fun _ _ h => (by cases h), fun _ _ _ _ _ _ h => (by cases h), fun _ _ _ h => (by cases h), fun _ _ _ h => False.elim h, fun _ _ h => h, fun _ _ h => h, fun _ _ h => .inl h, rfl, rfl, rfl, Nat.le_refl _, fun _ _ _ => rfl⟩
/-- Nothing that was there has turned. -/
def Still (w w' : World) : Prop := w'.os = w.os ∧ w'.output = w.output ∧ w.heap.size ≤ w'.heap.size ∧ ∀ i, i < w.heap.size → w'.heap[i]? = w.heap[i]?
theorem Still.kept {w w' : World} (h : Still w w') (may : MemPlace → Prop) : w.keptBut w' may := by
  refine ⟨h.1, h.2.1, fun i hi => ?_⟩
  rw [h.2.2.2 i hi]
  cases hw : w.heap[i]? with
  | none => rfl
  | some o =>
    cases o with
    | cells c t fr => exact ⟨rfl, rfl, rfl, fun _ _ => rfl⟩
    | map es clock => exact .inr ⟨rfl, rfl⟩
    | _ => rfl
def ansB (b : Bool) (o : Option Eff) : Bool :=
  match o with
  | some f => match f.val with
    | .b q => q == b
    | _ => false
  | none => false
theorem calls_of_sym {f : FuncId} {fn : Func} {code : Code} {args : List A} {b : Bool} {s : Sym} (hf : P.funcs[f]? = some fn) (hb : fn.body = some code) (hn : (fn.name == "runtime.NumGoroutine") = false)
    (h : SymOK P T f s) (ha : ansB b (s args (fun _ => none) 0) = true) {w : World} {vals : Array Value} (hv : Reps T (base w) args vals.toList) : Calls P f vals w fun en w' => en = .returned (.bool b) ∧ Still w w' := by
  have hcall : (callFunc f vals).run P w = .ok (.enter f vals) w := by
    have hn' : ¬ fn.name = "runtime.NumGoroutine" := by simpa using hn
    simp [callFunc, hf, hn', hb]
  unfold ansB at ha
  split at ha <;> try (cases ha; done)
  rename_i out hout
  split at ha <;> try (cases ha; done)
  rename_i q hval
  have hq : q = b := by simpa using ha
  subst hq
  have := h (baseC w) (base w) (fun _ => none) (fun _ => none) args vals 0 _ (base_sim w) hout (fun _ _ => rfl) (fun _ _ _ h => h) hv
  unfold Does at this
  rcases this with ⟨x, w', g1, g2⟩ | ⟨w', g1, g2⟩ | ⟨f', args', w1, g1, g2⟩ | ⟨_, _, _, _, _, w1, g1, g2⟩
  · rw [show (base w).w = w from rfl, hcall] at g1; cases g1
  · rw [show (base w).w = w from rfl, hcall] at g1; cases g1
  · rw [show (base w).w = w from rfl, hcall] at g1
    cases g1
    refine g2.mono fun en w' ⟨x, h1, e', h2, h3, h4, h5, h6⟩ => ?_
    subst h2
    rw [hval] at h6
    have hx := rep_b_inv h6
    subst hx
    exact ⟨h1, h3.os, h3.output, h3.size, fun i hi => h3.block i hi (fun h => h)⟩
  · rw [show (base w).w = w from rfl, hcall] at g1; cases g1
end Go.Vm


namespace Go.Vm
open Go.RowKit
variable {P : Program} {T : TT} {c : Ctx} {e eb : Env} {of of' : Nat → Option Ob}
set_option linter.unusedVariables false
set_option linter.constructorNameAsVariable false

/-! ### Functions of the machine -/
theorem sym_value {f : FuncId} {s : Sym} (h : ∀ (e : Env) (args : List A) (of : Nat → Option Ob) (nx : Nat) (out : Eff) (vals : List Value), s args of nx = some out → Reps T e args vals → ∃ v, out = .pv nx v [] ∧ ∀ w, ∃ x, (callFunc f vals.toArray).run P w = .ok (.value x) w ∧ Rep T e v x) : SymOK P T f s := by
  intro c e of of' as vals nx out hos hs hro hu hvals
  obtain ⟨v, rfl, hx⟩ := h e _ _ _ _ _ hs hvals
  obtain ⟨x, hx, hr⟩ := hx e.w
  exact does_pv (.inl ⟨x, e.w, by simpa using hx, left_same hos hr⟩)
def sub64Entry : Array Value → Sem Value := fun args => do
  let (x, y, b) ← Extern.MathBitsCarry.three "Sub64" args
  pure (Extern.MathBitsCarry.pair ((x + Extern.MathBitsCarry.m64 - y - b) % Extern.MathBitsCarry.m64) (if x < y + b then 1 else 0))
theorem run_sub64 (x y b : Nat) (hb : b ≤ 1) (w : World) :
    (sub64Entry #[.int .u64 x, .int .u64 y, .int .u64 b]).run P w =
      .ok (.tuple #[.int .u64 (((x + 18446744073709551616 - y - b) % 18446744073709551616 : Nat) : Int), .int .u64 ((if x < y + b then 1 else 0 : Nat) : Int)]) w := by
  have : b = 0 ∨ b = 1 := by omega
  rcases this with rfl | rfl <;> rfl
def carry64 : Sym := fun args of nx =>
  match args with
  | [.i .u64 x, .i .u64 y, .i .u64 c] => if ile 0 c && ile c 1 then some (.pv nx (.t [.i .u64 ((x + y + c) % 18446744073709551616), .i .u64 ((x + y + c) / 18446744073709551616)]) []) else none
  | _ => none
def borrow64 : Sym := fun args of nx =>
  match args with
  | [.i .u64 x, .i .u64 y, .i .u64 c] => if ile 0 c && ile c 1 then some (.pv nx (.t [.i .u64 ((x - y - c) % 18446744073709551616), .i .u64 (bif ilt x (y + c) then 1 else 0)]) []) else none
  | _ => none
theorem reps3 {a b d : A} {vals : List Value} (h : Reps T e [a, b, d] vals) : ∃ x y z, vals = [x, y, z] ∧ Rep T e a x ∧ Rep T e b y ∧ Rep T e d z := by
  cases h with | cons h1 h => cases h with | cons h2 h => cases h with | cons h3 h =>
  cases h
  exact ⟨_, _, _, rfl, h1, h2, h3⟩
theorem rep_t2 {a b : A} {x y : Value} (ha : Rep1 T e a x) (hb : Rep1 T e b y) : Rep T e (.t [a, b]) (.tuple #[x, y]) := by
  refine ⟨#[x, y], rfl, rfl, fun i v z hv hz => ?_⟩
  match i, hv, hz with
  | 0, hv, hz => simp at hv hz; subst hv; subst hz; exact ha
  | 1, hv, hz => simp at hv hz; subst hv; subst hz; exact hb
  | i + 2, hv, hz => simp at hv
theorem carry64_ok {f : FuncId} {fn : Func} (hf : P.funcs[f]? = some fn) (hname : (fn.name == "runtime.NumGoroutine") = false) (hb : fn.body.isNone = true) (hn : Extern.findNext fn = none) (he : Extern.find fn = some add64Entry) : SymOK P T f carry64 := by
  refine sym_value fun e args of nx out vals hs hv => ?_
  unfold carry64 at hs
  split at hs <;> try (cases hs; done)
  rename_i x y c
  split at hs <;> try (cases hs; done)
  rename_i hc
  simp only [Bool.and_eq_true, ile_iff] at hc
  injection hs with hs; subst hs
  obtain ⟨a, b, d, rfl, h1, h2, h3⟩ := reps3 hv
  have r1 := rep_i_rng h1
  have r2 := rep_i_rng h2
  simp only [inR, lo, hi] at r1 r2
  rw [rep_i_inv h1, rep_i_inv h2, rep_i_inv h3]
  refine ⟨_, rfl, fun w => ⟨_, ?_, rep_t2 (rep_i ?_) (rep_i ?_)⟩⟩
  · rw [run_callFunc_extern hf hname hb hn he]
    rw [run_add64 x y c r1.1 r2.1 hc.1 hc.2]
    rfl
  · constructor <;> simp only [lo, hi] <;> omega
  · constructor <;> simp only [lo, hi] <;> omega
theorem borrow64_ok {f : FuncId} {fn : Func} (hf : P.funcs[f]? = some fn) (hname : (fn.name == "runtime.NumGoroutine") = false) (hb : fn.body.isNone = true) (hn : Extern.findNext fn = none) (he : Extern.find fn = some sub64Entry) : SymOK P T f borrow64 := by
  refine sym_value fun e args of nx out vals hs hv => ?_
  unfold borrow64 at hs
  split at hs <;> try (cases hs; done)
  rename_i x y c
  split at hs <;> try (cases hs; done)
  rename_i hc
  simp only [Bool.and_eq_true, ile_iff] at hc
  injection hs with hs; subst hs
  obtain ⟨a, b, d, rfl, h1, h2, h3⟩ := reps3 hv
  have r1 := rep_i_rng h1
  have r2 := rep_i_rng h2
  simp only [inR, lo, hi] at r1 r2
  rw [rep_i_inv h1, rep_i_inv h2, rep_i_inv h3]
  have e2 : (bif ilt x (y + c) then (1 : Int) else 0) = if x < y + c then 1 else 0 := by
    by_cases hlt : x < y + c
    · rw [ilt_iff.2 hlt, if_pos hlt]; rfl
    · have : ilt x (y + c) = false := by rw [← Bool.not_eq_true, ilt_iff]; exact hlt
      rw [this, if_neg hlt]; rfl
  refine ⟨_, rfl, fun w => ?_⟩
  obtain ⟨x, rfl⟩ := Int.eq_ofNat_of_zero_le r1.1
  obtain ⟨y, rfl⟩ := Int.eq_ofNat_of_zero_le r2.1
  obtain ⟨c, rfl⟩ := Int.eq_ofNat_of_zero_le hc.1
  have e1 : (((x + 18446744073709551616 - y - c) % 18446744073709551616 : Nat) : Int) = ((x : Int) - y - c) % 18446744073709551616 := by omega
  have e3 : (((if x < y + c then 1 else 0 : Nat)) : Int) = if (x : Int) < y + c then 1 else 0 := by
    by_cases hlt : x < y + c
    · rw [if_pos hlt, if_pos (by omega)]; rfl
    · rw [if_neg hlt, if_neg (by omega)]; rfl
  refine ⟨_, ?_, rep_t2 (rep_i (n := ((x : Int) - y - c) % 18446744073709551616) ?_) (rep_i (n := bif ilt (x : Int) (y + c) then (1 : Int) else 0) ?_)⟩
  · rw [run_callFunc_extern hf hname hb hn he]
    rw [run_sub64 x y c (by omega), e2, e1, e3]
    rfl
  · constructor <;> simp only [lo, hi] <;> omega
  · rw [e2]; split <;> constructor <;> simp [lo, hi]
end Go.Vm


namespace Go.Vm
open Go.RowKit
variable {P : Program} {T : TT} {c : Ctx} {e eb : Env} {of of' : Nat → Option Ob}
set_option linter.unusedVariables false
set_option linter.constructorNameAsVariable false

/-- Data hold where what must not be written is the same. -/
theorem RV.change {e e' : Env} (hf : ∀ a ds, Fz e a ds → Fz e' a ds) {ts : List Nat} {xs : List V} {cs : List Value} (h : RV T e ts xs cs) : RV T e' ts xs cs := by
  induction h with
  | nil => exact .nil
  | int h1 h2 hr _ ih => exact .int h1 h2 hr ih
  | bool h1 h2 _ ih => exact .bool h1 h2 ih
  | str h1 h2 _ ih => exact .str h1 h2 ih
  | ptr h1 h2 _ ih => exact .ptr h1 h2 ih
  | nils h1 h2 _ ih => exact .nils h1 h2 ih
  | map h1 h2 _ ih => exact .map h1 h2 ih
  | func h1 h2 _ ih => exact .func h1 h2 ih
  | fn h1 h2 _ ih => exact .fn h1 h2 ih
  | slice h1 h2 h3 h4 h5 _ _ ih1 ih => exact .slice h1 h2 h3 h4 (hf _ _ h5) ih1 ih
  | arr h1 h2 _ _ ih1 ih => exact .arr h1 h2 ih1 ih
  | struct h1 h2 _ _ ih1 ih => exact .struct h1 h2 ih1 ih

/-! ### What a value names -/
mutual
def refA : A → List Nat
  | .p id _ _ => [id]
  | .e id _ _ _ _ => [id]
  | .o id _ => [id]
  | .w id _ _ _ => [id]
  | .a id _ _ _ _ => [id]
  | .m id => [id]
  | .y id => [id]
  | .f _ l => refL l
  | .g _ l => refL l
  | .t l => refL l
  | _ => []
def refL : List A → List Nat
  | [] => []
  | a :: r => refA a ++ refL r
end
def refE : List (V × A) → List Nat
  | [] => []
  | p :: r => refA p.2 ++ refE r
def refS : List (Nat × A) → List Nat
  | [] => []
  | p :: r => refA p.2 ++ refS r
theorem refS_mem : ∀ (l : List (Nat × A)) p, p ∈ l → ∀ id ∈ refA p.2, id ∈ refS l := by
  intro l
  induction l with
  | nil => intro p hp; cases hp
  | cons q r ih =>
    intro p hp id hid
    simp only [refS, List.mem_append]
    rcases List.mem_cons.1 hp with rfl | hp
    · exact .inl hid
    · exact .inr (ih p hp id hid)
def refO : Ob → List Nat
  | .box _ a _ => refA a
  | .row _ _ _ _ _ => []
  | .map _ _ es => refE es
  | .vm _ _ _ => []
  | .lp (some r) => refS r.sl
  | .lp none => []
  | .it (some m) => [m]
  | .it none => []
theorem refs_vms {et : Nat} : ∀ {es : List (V × V)}, ∀ p ∈ vms et es, refA p.2 = [] := by
  intro es
  induction es with
  | nil => intro p hp; cases hp
  | cons q r ih =>
    intro p hp
    rcases List.mem_cons.1 hp with rfl | hp
    · rfl
    · exact ih p hp
theorem R1.use {a : A} {v : Value} (h : R1 T e a v) : ∀ id ∈ refA a, e.U id := by
  cases a <;> simp only [refA, List.mem_singleton] <;> intro id hid
  case p => subst hid; obtain ⟨b, off, h1, _⟩ := h; exact h1
  case e => subst hid; exact h.2.1
  case o => subst hid; exact h.2.1
  case w => subst hid; exact h.2.1
  case a => subst hid; obtain ⟨b, off, n, el, k, cap, h1, _⟩ := h; exact h1
  case m => subst hid; obtain ⟨b, h1, _⟩ := h; exact h1
  case y => subst hid; obtain ⟨b, h1, _⟩ := h; exact h1
  case f => exact h.elim
  case g => exact h.elim
  case t => exact h.elim
  all_goals cases hid
theorem RA.use {l : List A} {cs : List Value} (h : RA T e l cs) : ∀ id ∈ refL l, e.U id := by
  induction h with
  | nil => intro id h; cases h
  | f _ _ ih1 ih => intro id h; simp only [refL, refA, List.mem_append] at h; exact h.elim (ih1 id) (ih id)
  | g _ _ _ _ _ ih1 ih => intro id h; simp only [refL, refA, List.mem_append] at h; exact h.elim (ih1 id) (ih id)
  | r h1 _ _ ih => intro id h; simp only [refL, List.mem_append] at h; exact h.elim (h1.use id) (ih id)
  | _ => rename_i ih; intro id h; simp only [refL, refA, List.nil_append] at h; exact ih id h

/-! ### The same, told anew: what is not named any more is forgotten, rows that are new begin again -/
def isNew (n0 nx id : Nat) : Bool := Nat.ble n0 id && Nat.blt id nx
/-- The version of a row that is new. -/
def newV (ob : Tr) (n0 nx id : Nat) : Option Nat :=
  bif isNew n0 nx id then (match ob.get id with
    | some (.row _ v _ _ _) => some v
    | _ => none) else none
def fixR (ob : Tr) (n0 nx id ver : Nat) (k : Nat → A) : A :=
  match newV ob n0 nx id with
  | some v => bif Nat.beq v ver then k 1 else .x
  | none => k ver
mutual
def fixA (ob : Tr) (n0 nx : Nat) : A → A
  | .e id ver i t path => fixR ob n0 nx id ver fun v => .e id v i t path
  | .o id ver => fixR ob n0 nx id ver fun v => .o id v
  | .w id ver off n => fixR ob n0 nx id ver fun v => .w id v off n
  | .f fn l => .f fn (fixL ob n0 nx l)
  | .g t l => .g t (fixL ob n0 nx l)
  | .t l => .t (fixL ob n0 nx l)
  | a => a
def fixL (ob : Tr) (n0 nx : Nat) : List A → List A
  | [] => []
  | a :: r => fixA ob n0 nx a :: fixL ob n0 nx r
end
def fixS (ob : Tr) (n0 nx : Nat) : List (Nat × A) → List (Nat × A)
  | [] => []
  | p :: r => (p.1, fixA ob n0 nx p.2) :: fixS ob n0 nx r
def fixO (ob : Tr) (n0 nx id : Nat) : Ob → Ob
  | .box t a sh => .box t (fixA ob n0 nx a) sh
  | .row el ver xs nl sh => .row el (bif isNew n0 nx id then 1 else ver) xs nl sh
  | .map kt et es => .map kt et es
  | .vm kt et es => .vm kt et es
  | .lp (some r) => .lp (some { r with sl := fixS ob n0 nx r.sl })
  | .lp none => .lp none
  | .it q => .it q
theorem fixS_mem (ob : Tr) (n0 nx : Nat) : ∀ (l : List (Nat × A)), ∀ p ∈ fixS ob n0 nx l, ∃ q ∈ l, p = (q.1, fixA ob n0 nx q.2) := by
  intro l
  induction l with
  | nil => intro p hp; cases hp
  | cons q r ih =>
    intro p hp
    rcases List.mem_cons.1 hp with rfl | hp
    · exact ⟨q, by simp, rfl⟩
    · obtain ⟨q', h1, h2⟩ := ih p hp
      exact ⟨q', by simp [h1], h2⟩
/-- The environment that it is told of. -/
def Env.anew (e : Env) (ob : Tr) (n0 nx : Nat) (keep : List Nat) : Env :=
  { e with U := fun j => e.U j ∧ (isNew n0 nx j = true → j ∈ keep), bn := fun j => match newV ob n0 nx j with
    | some _ => 1
    | none => e.bn j }
structure Anew (T : TT) (c : Ctx) (e eb : Env) (of' : Nat → Option Ob) (ob : Tr) (n0 nx : Nat) : Prop where
  os : OSim T c e (over ob of')
  new : ∀ id, isNew n0 nx id = true → ¬ eb.U id
theorem newV_row {ob : Tr} {n0 nx id v : Nat} (h : newV ob n0 nx id = some v) : isNew n0 nx id = true ∧ ∃ el xs nl sh, ob.get id = some (.row el v xs nl sh) := by
  unfold newV at h
  cases hn : isNew n0 nx id with
  | false => rw [hn] at h; cases h
  | true =>
    rw [hn] at h
    simp only [cond_true] at h
    split at h
    · rename_i el v' xs nl sh hg
      injection h with h; subst h
      exact ⟨rfl, el, xs, nl, sh, hg⟩
    · cases h
theorem Anew.ver {ob : Tr} {n0 nx : Nat} (h : Anew T c e eb of' ob n0 nx) {id v : Nat} (hv : newV ob n0 nx id = some v) : e.bn id = v ∧ 0 < v := by
  obtain ⟨_, el, xs, nl, sh, hg⟩ := newV_row hv
  have := h.os.ok id (.row el v xs nl sh) (by unfold over; rw [hg])
  exact ⟨this.2.2.1, this.2.1⟩
theorem fz_anew {ob : Tr} {n0 nx : Nat} {keep : List Nat} {a : Addr} {ds : List Value} (h : Fz e a ds) : Fz (e.anew ob n0 nx keep) a ds := h
theorem bn_none {ob : Tr} {n0 nx j : Nat} {keep : List Nat} (h : newV ob n0 nx j = none) : (e.anew ob n0 nx keep).bn j = e.bn j := by
  show (match newV ob n0 nx j with | some _ => 1 | none => e.bn j) = e.bn j
  rw [h]
theorem bn_some {ob : Tr} {n0 nx j v : Nat} {keep : List Nat} (h : newV ob n0 nx j = some v) : (e.anew ob n0 nx keep).bn j = 1 := by
  show (match newV ob n0 nx j with | some _ => 1 | none => e.bn j) = 1
  rw [h]
theorem Anew.box0 {ob : Tr} {n0 nx j : Nat} {keep : List Nat} (h : Anew T c e eb of' ob n0 nx) (h0 : e.bn j = 0) : (e.anew ob n0 nx keep).bn j = 0 := by
  cases hv : newV ob n0 nx j with
  | none => rw [bn_none hv]; exact h0
  | some v => have := h.ver hv; omega
theorem R1.fix {ob : Tr} {n0 nx : Nat} {keep : List Nat} (hA : Anew T c e eb of' ob n0 nx) {a : A} {v : Value} (h : R1 T e a v) (ho : one v = true) (hk : ∀ id ∈ refA (fixA ob n0 nx a), isNew n0 nx id = true → id ∈ keep) : R1 T (e.anew ob n0 nx keep) (fixA ob n0 nx a) v := by
  cases a with
  | x => exact h
  | p id t path =>
    obtain ⟨b, off, h1, h2, h3, h4, h5⟩ := h
    exact ⟨b, off, ⟨h1, hk id (by simp [fixA, refA])⟩, hA.box0 h2, h3, h4, h5⟩
  | a id t path lo m =>
    obtain ⟨b, off, n, el, k, cap, h1, h2, h3⟩ := h
    exact ⟨b, off, n, el, k, cap, ⟨h1, hk id (by simp [fixA, refA])⟩, hA.box0 h2, h3⟩
  | m id =>
    obtain ⟨b, h1, h2, h3⟩ := h
    exact ⟨b, ⟨h1, hk id (by simp [fixA, refA])⟩, hA.box0 h2, h3⟩
  | y id =>
    obtain ⟨b, h1, h2, h3⟩ := h
    exact ⟨b, ⟨h1, hk id (by simp [fixA, refA])⟩, hA.box0 h2, h3⟩
  | e id ver i t path =>
    obtain ⟨h0, h1, h2, h3, h4⟩ := h
    simp only [fixA] at hk ⊢
    unfold fixR at hk ⊢
    cases hv : newV ob n0 nx id with
    | none =>
      rw [hv] at hk
      exact ⟨h0, ⟨h1, hk id (by simp [refA])⟩, by rw [bn_none hv]; exact h2, h3, fun hb => h4 (by rw [bn_none hv] at hb; exact hb)⟩
    | some v' =>
      rw [hv] at hk
      simp only at hk ⊢
      cases hq : Nat.beq v' ver with
      | false => exact ho
      | true =>
        rw [hq] at hk
        have := Nat.eq_of_beq_eq_true hq; subst this
        exact ⟨h0, ⟨h1, hk id (by simp [refA])⟩, by rw [bn_some hv]; exact Nat.le_refl _, by omega, fun _ => h4 (hA.ver hv).1⟩
  | o id ver =>
    obtain ⟨h0, h1, h2, h3, h4⟩ := h
    simp only [fixA] at hk ⊢
    unfold fixR at hk ⊢
    cases hv : newV ob n0 nx id with
    | none =>
      rw [hv] at hk
      exact ⟨h0, ⟨h1, hk id (by simp [refA])⟩, by rw [bn_none hv]; exact h2, h3, fun hb => h4 (by rw [bn_none hv] at hb; exact hb)⟩
    | some v' =>
      rw [hv] at hk
      simp only at hk ⊢
      cases hq : Nat.beq v' ver with
      | false => exact ho
      | true =>
        rw [hq] at hk
        have := Nat.eq_of_beq_eq_true hq; subst this
        exact ⟨h0, ⟨h1, hk id (by simp [refA])⟩, by rw [bn_some hv]; exact Nat.le_refl _, by omega, fun _ => h4 (hA.ver hv).1⟩
  | w id ver off n =>
    obtain ⟨h0, h1, h2, h3, h4⟩ := h
    simp only [fixA] at hk ⊢
    unfold fixR at hk ⊢
    cases hv : newV ob n0 nx id with
    | none =>
      rw [hv] at hk
      exact ⟨h0, ⟨h1, hk id (by simp [refA])⟩, by rw [bn_none hv]; exact h2, h3, fun hb => h4 (by rw [bn_none hv] at hb; exact hb)⟩
    | some v' =>
      rw [hv] at hk
      simp only at hk ⊢
      cases hq : Nat.beq v' ver with
      | false => exact ho
      | true =>
        rw [hq] at hk
        have := Nat.eq_of_beq_eq_true hq; subst this
        exact ⟨h0, ⟨h1, hk id (by simp [refA])⟩, by rw [bn_some hv]; exact Nat.le_refl _, by omega, fun _ => h4 (hA.ver hv).1⟩
  | _ => exact h.elim
theorem fitA_x {ob : Tr} {n0 nx t : Nat} : ∀ {a : A}, fitA T t a = true → fitA T t (fixA ob n0 nx a) = true := by
  have r : ∀ {id ver : Nat} {k : Nat → A}, (∀ v, fitA T t (k v) = scal T t) → fitA T t (k ver) = true → fitA T t (fixR ob n0 nx id ver k) = true := by
    intro id ver k hk h
    rw [hk] at h
    unfold fixR
    split
    · rename_i v _; cases Nat.beq v ver
      · exact h
      · exact (hk _).trans h
    · exact (hk _).trans h
  intro a h
  cases a with
  | e id ver i t path => exact r (k := fun v => .e id v i t path) (fun _ => rfl) h
  | o id ver => exact r (k := fun v => .o id v) (fun _ => rfl) h
  | w id ver off n => exact r (k := fun v => .w id v off n) (fun _ => rfl) h
  | f fn l => exact h
  | g t' l => exact h
  | t l => cases h
  | _ => exact h
theorem fitL_x {ob : Tr} {n0 nx : Nat} : ∀ {ts : List Nat} {l : List A}, fitL T ts l = true → fitL T ts (fixL ob n0 nx l) = true := by
  intro ts
  induction ts with
  | nil => intro l h; cases l with
    | nil => rfl
    | cons a l => cases h
  | cons t ts ih => intro l h; cases l with
    | nil => cases h
    | cons a l =>
      simp only [fitL, Bool.and_eq_true] at h
      simp only [fixL, fitL, Bool.and_eq_true]
      exact ⟨fitA_x h.1, ih h.2⟩
theorem RV.anew {ob : Tr} {n0 nx : Nat} {keep : List Nat} {ts : List Nat} {xs : List V} {cs : List Value} (h : RV T e ts xs cs) : RV T (e.anew ob n0 nx keep) ts xs cs := RV.change (e := e) (e' := e.anew ob n0 nx keep) (fun a ds q => fz_anew q) h
theorem RA.fix {ob : Tr} {n0 nx : Nat} {keep : List Nat} (hA : Anew T c e eb of' ob n0 nx) {l : List A} {cs : List Value} (h : RA T e l cs) : (∀ id ∈ refL (fixL ob n0 nx l), isNew n0 nx id = true → id ∈ keep) → RA T (e.anew ob n0 nx keep) (fixL ob n0 nx l) cs := by
  induction h with
  | nil => intro _; exact .nil
  | i hr _ ih => intro hk; exact .i hr (ih (fun id hid => hk id (by simp only [fixL, refL, List.mem_append]; exact .inr hid)))
  | b _ ih => intro hk; exact .b (ih (fun id hid => hk id (by simp only [fixL, refL, List.mem_append]; exact .inr hid)))
  | s _ ih => intro hk; exact .s (ih (fun id hid => hk id (by simp only [fixL, refL, List.mem_append]; exact .inr hid)))
  | z h1 _ ih => intro hk; exact .z h1 (ih (fun id hid => hk id (by simp only [fixL, refL, List.mem_append]; exact .inr hid)))
  | v h1 _ ih => intro hk; exact .v h1.anew (ih (fun id hid => hk id (by simp only [fixL, refL, List.mem_append]; exact .inr hid)))
  | c h1 h2 _ ih => intro hk; exact .c h1.anew h2 (ih (fun id hid => hk id (by simp only [fixL, refL, List.mem_append]; exact .inr hid)))
  | q h1 _ ih => intro hk; exact .q h1.anew (ih (fun id hid => hk id (by simp only [fixL, refL, List.mem_append]; exact .inr hid)))
  | f _ _ ih1 ih =>
    intro hk
    exact .f (ih1 (fun id hid => hk id (by simp only [fixL, fixA, refL, refA, List.mem_append]; exact .inl hid))) (ih (fun id hid => hk id (by simp only [fixL, refL, List.mem_append]; exact .inr hid)))
  | g h1 h2 h3 _ _ ih1 ih =>
    intro hk
    exact .g h1 (fitL_x h2) h3 (ih1 (fun id hid => hk id (by simp only [fixL, fixA, refL, refA, List.mem_append]; exact .inl hid))) (ih (fun id hid => hk id (by simp only [fixL, refL, List.mem_append]; exact .inr hid)))
  | r h1 h2 _ ih =>
    intro hk
    exact .r (h1.fix hA h2 (fun id hid => hk id (by simp only [fixL, refL, List.mem_append]; exact .inl hid))) h2 (ih (fun id hid => hk id (by simp only [fixL, refL, List.mem_append]; exact .inr hid)))
theorem newV_old {ob : Tr} {n0 nx id : Nat} (h : isNew n0 nx id = false) : newV ob n0 nx id = none := by unfold newV; rw [h]; rfl
theorem R1.old {ob : Tr} {n0 nx : Nat} {keep : List Nat} (hA : Anew T c e eb of' ob n0 nx) {a : A} {v : Value} (h : R1 T e a v) (hn : ∀ id ∈ refA a, isNew n0 nx id = false) : R1 T (e.anew ob n0 nx keep) a v := by
  have nk : ∀ {id : Nat}, isNew n0 nx id = false → (isNew n0 nx id = true → id ∈ keep) := fun hf ht => by rw [hf] at ht; cases ht
  cases a with
  | x => exact h
  | p id t path =>
    obtain ⟨b, off, h1, h2, h3, h4, h5⟩ := h
    exact ⟨b, off, ⟨h1, nk (hn id (by simp [refA]))⟩, hA.box0 h2, h3, h4, h5⟩
  | a id t path lo m =>
    obtain ⟨b, off, n, el, k, cap, h1, h2, h3⟩ := h
    exact ⟨b, off, n, el, k, cap, ⟨h1, nk (hn id (by simp [refA]))⟩, hA.box0 h2, h3⟩
  | m id =>
    obtain ⟨b, h1, h2, h3⟩ := h
    exact ⟨b, ⟨h1, nk (hn id (by simp [refA]))⟩, hA.box0 h2, h3⟩
  | y id =>
    obtain ⟨b, h1, h2, h3⟩ := h
    exact ⟨b, ⟨h1, nk (hn id (by simp [refA]))⟩, hA.box0 h2, h3⟩
  | e id ver i t path =>
    obtain ⟨h0, h1, h2, h3, h4⟩ := h
    have hv := newV_old (ob := ob) (hn id (by simp [refA]))
    exact ⟨h0, ⟨h1, nk (hn id (by simp [refA]))⟩, by rw [bn_none hv]; exact h2, h3, fun hb => h4 (by rw [bn_none hv] at hb; exact hb)⟩
  | o id ver =>
    obtain ⟨h0, h1, h2, h3, h4⟩ := h
    have hv := newV_old (ob := ob) (hn id (by simp [refA]))
    exact ⟨h0, ⟨h1, nk (hn id (by simp [refA]))⟩, by rw [bn_none hv]; exact h2, h3, fun hb => h4 (by rw [bn_none hv] at hb; exact hb)⟩
  | w id ver off n =>
    obtain ⟨h0, h1, h2, h3, h4⟩ := h
    have hv := newV_old (ob := ob) (hn id (by simp [refA]))
    exact ⟨h0, ⟨h1, nk (hn id (by simp [refA]))⟩, by rw [bn_none hv]; exact h2, h3, fun hb => h4 (by rw [bn_none hv] at hb; exact hb)⟩
  | _ => exact h.elim
theorem RA.old {ob : Tr} {n0 nx : Nat} {keep : List Nat} (hA : Anew T c e eb of' ob n0 nx) {l : List A} {cs : List Value} (h : RA T e l cs) : (∀ id ∈ refL l, isNew n0 nx id = false) → RA T (e.anew ob n0 nx keep) l cs := by
  induction h with
  | nil => intro _; exact .nil
  | i hr _ ih => intro hk; exact .i hr (ih (fun id hid => hk id (by simp only [refL, List.mem_append]; exact .inr hid)))
  | b _ ih => intro hk; exact .b (ih (fun id hid => hk id (by simp only [refL, List.mem_append]; exact .inr hid)))
  | s _ ih => intro hk; exact .s (ih (fun id hid => hk id (by simp only [refL, List.mem_append]; exact .inr hid)))
  | z h1 _ ih => intro hk; exact .z h1 (ih (fun id hid => hk id (by simp only [refL, List.mem_append]; exact .inr hid)))
  | v h1 _ ih => intro hk; exact .v h1.anew (ih (fun id hid => hk id (by simp only [refL, List.mem_append]; exact .inr hid)))
  | c h1 h2 _ ih => intro hk; exact .c h1.anew h2 (ih (fun id hid => hk id (by simp only [refL, List.mem_append]; exact .inr hid)))
  | q h1 _ ih => intro hk; exact .q h1.anew (ih (fun id hid => hk id (by simp only [refL, List.mem_append]; exact .inr hid)))
  | f _ _ ih1 ih =>
    intro hk
    exact .f (ih1 (fun id hid => hk id (by simp only [refL, refA, List.mem_append]; exact .inl hid))) (ih (fun id hid => hk id (by simp only [refL, List.mem_append]; exact .inr hid)))
  | g h1 h2 h3 _ _ ih1 ih =>
    intro hk
    exact .g h1 h2 h3 (ih1 (fun id hid => hk id (by simp only [refL, refA, List.mem_append]; exact .inl hid))) (ih (fun id hid => hk id (by simp only [refL, List.mem_append]; exact .inr hid)))
  | r h1 h2 _ ih =>
    intro hk
    exact .r (h1.old hA (fun id hid => hk id (by simp only [refL, List.mem_append]; exact .inl hid))) h2 (ih (fun id hid => hk id (by simp only [refL, List.mem_append]; exact .inr hid)))
theorem Rep1.use {a : A} {v : Value} (h : Rep1 T e a v) : ∀ id ∈ refA a, e.U id := by
  have one : ∀ {a : A} {cs : List Value}, RA T e [a] cs → ∀ id ∈ refA a, e.U id := fun g id hid => g.use id (by simp only [refL, List.append_nil]; exact hid)
  cases a with
  | x => intro id h; cases h
  | t l => exact h.elim
  | v t y => intro id h; cases h
  | g t l => exact one h.1
  | _ => exact one h
theorem Rep1.old {ob : Tr} {n0 nx : Nat} {keep : List Nat} (hA : Anew T c e eb of' ob n0 nx) {a : A} {v : Value} (h : Rep1 T e a v) (hn : ∀ id ∈ refA a, isNew n0 nx id = false) : Rep1 T (e.anew ob n0 nx keep) a v := by
  have one : ∀ {a : A} {cs : List Value}, RA T e [a] cs → (∀ id ∈ refA a, isNew n0 nx id = false) → RA T (e.anew ob n0 nx keep) [a] cs := fun g hk => g.old hA (fun id hid => hk id (by simpa [refL] using hid))
  cases a with
  | x => trivial
  | t l => exact h.elim
  | v t y => exact ⟨h.1.anew, h.2⟩
  | g t l => exact ⟨one h.1 hn, h.2⟩
  | _ => exact one h hn
theorem MR.use {kt et : Nat} {es : List (V × A)} {ms : List MapEntry} (h : MR T e kt et es ms) : ∀ p ∈ es, ∀ id ∈ refA p.2, e.U id := by
  induction h with
  | nil => intro p hp; cases hp
  | cons _ h2 _ _ ih =>
    intro p hp
    rcases List.mem_cons.1 hp with rfl | hp
    · exact h2.use
    · exact ih p hp
theorem MR.old {ob : Tr} {n0 nx : Nat} {keep : List Nat} (hA : Anew T c e eb of' ob n0 nx) {kt et : Nat} {es : List (V × A)} {ms : List MapEntry} (h : MR T e kt et es ms) : (∀ p ∈ es, ∀ id ∈ refA p.2, isNew n0 nx id = false) → MR T (e.anew ob n0 nx keep) kt et es ms := by
  induction h with
  | nil => intro _; exact .nil
  | cons h1 h2 h3 _ ih => intro hk; exact .cons (h1.old hA (fun id hid => by cases hid)) (h2.old hA (hk _ (List.mem_cons_self ..))) h3 (ih (fun p hp => hk p (List.mem_cons_of_mem _ hp)))
/-- An object of old that was not touched. -/
theorem OK.old {ob : Tr} {n0 nx id : Nat} {keep : List Nat} {o : Ob} (hA : Anew T c e eb of' ob n0 nx) (h : OK T e id o) (hb : OK T eb id o) : OK T (e.anew ob n0 nx keep) id o := by
  have nn : ∀ {j : Nat}, eb.U j → isNew n0 nx j = false := fun {j} hj => by
    cases hq : isNew n0 nx j with
    | false => rfl
    | true => exact absurd hj (hA.new j hq)
  have hid := nn hb.use
  have hU : (e.anew ob n0 nx keep).U id := ⟨h.use, fun ht => by rw [hid] at ht; cases ht⟩
  cases o with
  | box t a sh =>
    obtain ⟨h1, h2, h2', h2'', b, cs, ty, fz, h3, h4, h5, h5', h6, h7⟩ := h
    obtain ⟨_, _, _, _, _, cs0, _, _, _, _, _, _, g6, _⟩ := hb
    exact ⟨hU, hA.box0 h2, h2', h2'', b, cs, ty, fz, h3, h4, h5, h5', h6.old hA (fun j hj => nn (g6.use j hj)), h7⟩
  | row el ver xs nl sh =>
    obtain ⟨h1, h2, h3, h4, h4', h5, h6⟩ := h
    refine ⟨hU, h2, by rw [bn_none (newV_old hid)]; exact h3, h4, h4', h5, ?_⟩
    rcases h6 with h6 | ⟨nn', b, o, cs, t, fz, pre, ys, post, g1, g2, g3, g4, g5, g6, g7, g8⟩
    · exact .inl h6
    · exact .inr ⟨nn', b, o, cs, t, fz, pre, ys, post, g1, g2, g3, g4, g5, g6.anew, g7, g8⟩
  | map kt et es =>
    obtain ⟨h1, h2, b, ms, clock, h3, h4, h5, es', h6, h7⟩ := h
    obtain ⟨_, _, _, ms0, _, _, _, _, es0, k6, k7⟩ := hb
    have hes : ∀ p ∈ es, ∀ j ∈ refA p.2, isNew n0 nx j = false := fun p hp j hj => nn (k7.use p (k6.mem_iff.2 hp) j hj)
    exact ⟨hU, hA.box0 h2, b, ms, clock, h3, h4, h5, es', h6, h7.old hA (fun p hp => hes p (h6.mem_iff.1 hp))⟩
  | vm kt et es =>
    obtain ⟨h1, h2, b, ms, clock, h3, h4, h5, es', h6, h7⟩ := h
    exact ⟨hU, hA.box0 h2, b, ms, clock, h3, h4, h5, es', h6, h7.old hA (fun p hp j hj => by rw [refs_vms p (h6.mem_iff.1 hp)] at hj; cases hj)⟩
  | lp q =>
    cases q with
    | none =>
      obtain ⟨h1, h2, b, h3, h4⟩ := h
      exact ⟨hU, hA.box0 h2, b, h3, h4⟩
    | some r =>
      obtain ⟨h1, h2, b, tm, df, fn, h3, h4, h5, h6⟩ := h
      obtain ⟨_, _, _, tm0, _, _, _, _, _, k6⟩ := hb
      exact ⟨hU, hA.box0 h2, b, tm, df, fn, h3, h4, h5, fun p hp => (h6 p hp).old hA (fun j hj => nn ((k6 p hp).use j hj))⟩
  | it q =>
    cases q with
    | none =>
      obtain ⟨h1, h2, b, x, y, z, h3, h4⟩ := h
      exact ⟨hU, hA.box0 h2, b, x, y, z, h3, h4⟩
    | some m =>
      obtain ⟨h1, h2, b, bm, x, z, h3, h4, h5, h6, h7⟩ := h
      obtain ⟨_, _, _, _, _, _, _, _, k5, _⟩ := hb
      have hm := nn k5
      exact ⟨hU, hA.box0 h2, b, bm, x, z, h3, h4, ⟨h5, fun ht => by rw [hm] at ht; cases ht⟩, hA.box0 h6, h7⟩
theorem Rep1.fix {ob : Tr} {n0 nx : Nat} {keep : List Nat} (hA : Anew T c e eb of' ob n0 nx) {a : A} {v : Value} (h : Rep1 T e a v) (hk : ∀ id ∈ refA (fixA ob n0 nx a), isNew n0 nx id = true → id ∈ keep) : Rep1 T (e.anew ob n0 nx keep) (fixA ob n0 nx a) v := by
  have one : ∀ {a : A} {cs : List Value}, RA T e [a] cs → (∀ id ∈ refA (fixA ob n0 nx a), isNew n0 nx id = true → id ∈ keep) → RA T (e.anew ob n0 nx keep) [fixA ob n0 nx a] cs := fun {a cs} g hk => by
    have := g.fix (keep := keep) hA (fun id hid => hk id (by simpa [fixL, refL] using hid))
    simpa [fixL] using this
  have sc : ∀ {a : A}, RA T e [a] [v] → (∀ id ∈ refA (fixA ob n0 nx a), isNew n0 nx id = true → id ∈ keep) → (fixA ob n0 nx a = .x ∨ ((∀ t y, fixA ob n0 nx a ≠ .v t y) ∧ (∀ t l, fixA ob n0 nx a ≠ .g t l) ∧ (∀ l, fixA ob n0 nx a ≠ .t l))) → Rep1 T (e.anew ob n0 nx keep) (fixA ob n0 nx a) v := fun {a} g hk hs => by
    have r := one g hk
    rcases hs with hs | ⟨s1, s2, s3⟩
    · rw [hs]; trivial
    · cases hf : fixA ob n0 nx a with
      | v t y => exact absurd hf (s1 _ _)
      | g t l => exact absurd hf (s2 _ _)
      | t l => exact absurd hf (s3 _)
      | x => trivial
      | _ => rw [hf] at r; exact r
  have fr : ∀ {id ver : Nat} {k : Nat → A}, (∀ v, (∀ t y, k v ≠ .v t y) ∧ (∀ t l, k v ≠ .g t l) ∧ (∀ l, k v ≠ .t l)) → (fixR ob n0 nx id ver k = .x ∨ ((∀ t y, fixR ob n0 nx id ver k ≠ .v t y) ∧ (∀ t l, fixR ob n0 nx id ver k ≠ .g t l) ∧ (∀ l, fixR ob n0 nx id ver k ≠ .t l))) := by
    intro id ver k hk
    unfold fixR
    split
    · rename_i v _; cases Nat.beq v ver
      · exact .inl rfl
      · exact .inr (hk _)
    · exact .inr (hk _)
  cases a with
  | x => trivial
  | t l => exact h.elim
  | v t y => exact ⟨h.1.anew, h.2⟩
  | g t l => exact ⟨one h.1 hk, h.2⟩
  | e id ver i t path => exact sc h hk (fr (k := fun v => .e id v i t path) (fun v => ⟨by simp, by simp, by simp⟩))
  | o id ver => exact sc h hk (fr (k := fun v => .o id v) (fun v => ⟨by simp, by simp, by simp⟩))
  | w id ver off n => exact sc h hk (fr (k := fun v => .w id v off n) (fun v => ⟨by simp, by simp, by simp⟩))
  | _ => exact one h hk
/-- An object that is known, told anew. -/
theorem OK.fix {ob : Tr} {n0 nx id : Nat} {keep : List Nat} {o : Ob} (hA : Anew T c e eb of' ob n0 nx) (hg : ob.get id = some o) (h : OK T e id o) (hkeep : isNew n0 nx id = true → id ∈ keep) (hk : ∀ j ∈ refO (fixO ob n0 nx id o), isNew n0 nx j = true → j ∈ keep) (hmap : ∀ kt et es, o = .map kt et es → ∀ p ∈ es, refA p.2 = []) : OK T (e.anew ob n0 nx keep) id (fixO ob n0 nx id o) := by
  have hU : (e.anew ob n0 nx keep).U id := ⟨h.use, hkeep⟩
  cases o with
  | box t a sh =>
    obtain ⟨h1, h2, h2', h2'', b, cs, ty, fz, h3, h4, h5, h5', h6, h7⟩ := h
    refine ⟨hU, hA.box0 h2, h2', fitA_x h2'', b, cs, ty, fz, h3, h4, h5, h5', ?_, h7⟩
    have := h6.fix (keep := keep) hA (fun j hj => hk j (by simpa [fixL, refL, fixO, refO] using hj))
    simpa [fixL] using this
  | row el ver xs nl sh =>
    obtain ⟨h1, h2, h3, h4, h4', h5, h6⟩ := h
    have rest : 0 < szT T el ∧ ((nl = true ∧ (e.anew ob n0 nx keep).ι id = none ∧ xs = []) ∨ (nl = false ∧ ∃ b o cs t fz pre ys post, (e.anew ob n0 nx keep).ι id = some (b, o) ∧ (e.anew ob n0 nx keep).w.heap[b]? = some (.cells cs t fz) ∧ free (e.anew ob n0 nx keep).w b cs ∧ cs.toList = pre ++ ys ++ post ∧ pre.length = o ∧ RV T (e.anew ob n0 nx keep) (List.replicate xs.length el) xs ys ∧
         (∀ i, o + ys.length ≤ i → ¬ (e.anew ob n0 nx keep).S b i) ∧ (sh = false → ∀ i, o ≤ i → ¬ (e.anew ob n0 nx keep).S b i))) := by
      refine ⟨h5, ?_⟩
      rcases h6 with h6 | ⟨nn', b, o, cs, t, fz, pre, ys, post, g1, g2, g3, g4, g5, g6, g7, g8⟩
      · exact .inl h6
      · exact .inr ⟨nn', b, o, cs, t, fz, pre, ys, post, g1, g2, g3, g4, g5, g6.anew, g7, g8⟩
    cases hn : isNew n0 nx id with
    | false =>
      have hf : fixO ob n0 nx id (.row el ver xs nl sh) = .row el ver xs nl sh := by simp [fixO, hn]
      rw [hf]
      exact ⟨hU, h2, by rw [bn_none (newV_old hn)]; exact h3, h4, h4', rest⟩
    | true =>
      have hf : fixO ob n0 nx id (.row el ver xs nl sh) = .row el 1 xs nl sh := by simp [fixO, hn]
      rw [hf]
      have hv : newV ob n0 nx id = some ver := by unfold newV; rw [hn, hg]; rfl
      exact ⟨hU, by omega, bn_some hv, h4, h4', rest⟩
  | map kt et es =>
    obtain ⟨h1, h2, b, ms, clock, h3, h4, h5, es', h6, h7⟩ := h
    exact ⟨hU, hA.box0 h2, b, ms, clock, h3, h4, h5, es', h6, h7.old hA (fun p hp j hj => by rw [hmap kt et es rfl p (h6.mem_iff.1 hp)] at hj; cases hj)⟩
  | vm kt et es =>
    obtain ⟨h1, h2, b, ms, clock, h3, h4, h5, es', h6, h7⟩ := h
    exact ⟨hU, hA.box0 h2, b, ms, clock, h3, h4, h5, es', h6, h7.old hA (fun p hp j hj => by rw [refs_vms p (h6.mem_iff.1 hp)] at hj; cases hj)⟩
  | lp q =>
    cases q with
    | none =>
      obtain ⟨h1, h2, b, h3, h4⟩ := h
      exact ⟨hU, hA.box0 h2, b, h3, h4⟩
    | some r =>
      obtain ⟨h1, h2, b, tm, df, fn, h3, h4, h5, h6⟩ := h
      refine ⟨hU, hA.box0 h2, b, tm, df, fn, h3, h4, h5, fun p hp => ?_⟩
      obtain ⟨q, hq, rfl⟩ := fixS_mem _ _ _ _ p hp
      exact (h6 q hq).fix hA (fun j hj => hk j (refS_mem _ _ hp j hj))
  | it q =>
    cases q with
    | none =>
      obtain ⟨h1, h2, b, x, y, z, h3, h4⟩ := h
      exact ⟨hU, hA.box0 h2, b, x, y, z, h3, h4⟩
    | some m =>
      obtain ⟨h1, h2, b, bm, x, z, h3, h4, h5, h6, h7⟩ := h
      exact ⟨hU, hA.box0 h2, b, bm, x, z, h3, h4, ⟨h5, hk m (by simp [fixO, refO])⟩, hA.box0 h6, h7⟩
theorem fixL_get {ob : Tr} {n0 nx : Nat} : ∀ {l : List A} {i : Nat} {v : A}, (fixL ob n0 nx l)[i]? = some v → ∃ a, l[i]? = some a ∧ v = fixA ob n0 nx a := by
  intro l
  induction l with
  | nil => intro i v h; simp [fixL] at h
  | cons a l ih =>
    intro i v h
    cases i with
    | zero => simp [fixL] at h; exact ⟨a, rfl, h.symm⟩
    | succ i => exact ih (by simpa [fixL] using h)
theorem fixL_len {ob : Tr} {n0 nx : Nat} : ∀ {l : List A}, (fixL ob n0 nx l).length = l.length := by
  intro l
  induction l with
  | nil => rfl
  | cons a l ih => simp [fixL, ih]
theorem refL_mem : ∀ {l : List A} {i : Nat} {a : A}, l[i]? = some a → ∀ id ∈ refA a, id ∈ refL l := by
  intro l
  induction l with
  | nil => intro i a h; simp at h
  | cons b l ih =>
    intro i a h id hid
    simp only [refL, List.mem_append]
    cases i with
    | zero => simp at h; subst h; exact .inl hid
    | succ i => exact .inr (ih (by simpa using h) id hid)
theorem Rep.fix {ob : Tr} {n0 nx : Nat} {keep : List Nat} (hA : Anew T c e eb of' ob n0 nx) {a : A} {v : Value} (h : Rep T e a v) (hk : ∀ id ∈ refA (fixA ob n0 nx a), isNew n0 nx id = true → id ∈ keep) : Rep T (e.anew ob n0 nx keep) (fixA ob n0 nx a) v := by
  have lift : ∀ {a : A}, (∀ l, a ≠ .t l) → Rep1 T e a v → (∀ id ∈ refA (fixA ob n0 nx a), isNew n0 nx id = true → id ∈ keep) → Rep T (e.anew ob n0 nx keep) (fixA ob n0 nx a) v := fun {a} ht g hk => by
    have r := g.fix (keep := keep) hA hk
    cases hf : fixA ob n0 nx a with
    | t l =>
      rw [hf] at r; exact r.elim
    | _ => rw [hf] at r; exact r
  cases a with
  | t l =>
    obtain ⟨xs, rfl, h2, h3⟩ := h
    refine ⟨xs, rfl, by rw [fixL_len]; exact h2, fun i v x hv hx => ?_⟩
    obtain ⟨a, ha, rfl⟩ := fixL_get hv
    exact (h3 i a x ha hx).fix hA (fun id hid => hk id (refL_mem hv id hid))
  | _ => exact lift (by intro l hl; cases hl) h hk
end Go.Vm


namespace Go.Vm
open Go.RowKit
variable {P : Program} {T : TT} {c : Ctx} {e eb : Env} {of of' : Nat → Option Ob}
set_option linter.unusedVariables false
set_option linter.constructorNameAsVariable false

/-! ### Two objects change their numbers -/
def sw (i j n : Nat) : Nat := bif Nat.beq n i then j else bif Nat.beq n j then i else n
theorem beq_ne {a b : Nat} (h : a ≠ b) : Nat.beq a b = false := by
  cases hq : Nat.beq a b with
  | false => rfl
  | true => exact absurd (Nat.eq_of_beq_eq_true hq) h
theorem sw_l (i j : Nat) : sw i j i = j := by unfold sw; rw [Nat.beq_refl]; rfl
theorem sw_r (i j : Nat) : sw i j j = i := by
  unfold sw
  by_cases h : j = i
  · subst h; rw [Nat.beq_refl]; rfl
  · rw [beq_ne h, Nat.beq_refl]; rfl
theorem sw_o {i j n : Nat} (h1 : n ≠ i) (h2 : n ≠ j) : sw i j n = n := by unfold sw; rw [beq_ne h1, beq_ne h2]; rfl
@[simp] theorem sw_sw (i j n : Nat) : sw i j (sw i j n) = n := by
  by_cases h1 : n = i
  · subst h1; rw [sw_l, sw_r]
  · by_cases h2 : n = j
    · subst h2; rw [sw_r, sw_l]
    · rw [sw_o h1 h2, sw_o h1 h2]
theorem sw_inj {i j a b : Nat} (h : sw i j a = sw i j b) : a = b := by rw [← sw_sw i j a, h, sw_sw]
mutual
def swA (i j : Nat) : A → A
  | .p id t path => .p (sw i j id) t path
  | .e id ver k t path => .e (sw i j id) ver k t path
  | .o id ver => .o (sw i j id) ver
  | .w id ver off n => .w (sw i j id) ver off n
  | .a id t path lo m => .a (sw i j id) t path lo m
  | .m id => .m (sw i j id)
  | .y id => .y (sw i j id)
  | .f fn l => .f fn (swL i j l)
  | .g t l => .g t (swL i j l)
  | .t l => .t (swL i j l)
  | a => a
def swL (i j : Nat) : List A → List A
  | [] => []
  | a :: r => swA i j a :: swL i j r
end
def swE (i j : Nat) : List (V × A) → List (V × A)
  | [] => []
  | p :: r => (p.1, swA i j p.2) :: swE i j r
def swS (i j : Nat) : List (Nat × A) → List (Nat × A)
  | [] => []
  | p :: r => (p.1, swA i j p.2) :: swS i j r
def swO (i j : Nat) : Ob → Ob
  | .box t a sh => .box t (swA i j a) sh
  | .row el ver xs nl sh => .row el ver xs nl sh
  | .map kt et es => .map kt et (swE i j es)
  | .vm kt et es => .vm kt et es
  | .lp (some r) => .lp (some { r with sl := swS i j r.sl })
  | .lp none => .lp none
  | .it (some m) => .it (some (sw i j m))
  | .it none => .it none
def Env.sw (e : Env) (i j : Nat) : Env := { e with ι := fun n => e.ι (Vm.sw i j n), bn := fun n => e.bn (Vm.sw i j n), U := fun n => e.U (Vm.sw i j n), ty := fun n => e.ty (Vm.sw i j n), ln := fun n => e.ln (Vm.sw i j n) }
variable {i j : Nat}
theorem R1.sw {a : A} {v : Value} (h : R1 T e a v) : R1 T (e.sw i j) (swA i j a) v := by
  cases a <;> simp only [R1, swA, Env.sw, sw_sw] at h ⊢ <;> exact h
theorem fitA_sw {t : Nat} {a : A} : fitA T t (swA i j a) = fitA T t a := by cases a <;> rfl
theorem fitL_sw : ∀ {ts : List Nat} {l : List A}, fitL T ts (swL i j l) = fitL T ts l := by
  intro ts
  induction ts with
  | nil => intro l; cases l <;> rfl
  | cons t ts ih => intro l; cases l with
    | nil => rfl
    | cons a l => simp only [swL, fitL, fitA_sw, ih]
theorem RV.sw {ts : List Nat} {xs : List V} {cs : List Value} (h : RV T e ts xs cs) : RV T (e.sw i j) ts xs cs := RV.change (e := e) (e' := e.sw i j) (fun a ds q => q) h
theorem RA.sw {l : List A} {cs : List Value} (h : RA T e l cs) : RA T (e.sw i j) (swL i j l) cs := by
  induction h with
  | nil => exact .nil
  | i hr _ ih => exact .i hr ih
  | b _ ih => exact .b ih
  | s _ ih => exact .s ih
  | z h1 _ ih => exact .z h1 ih
  | v h1 _ ih => exact .v h1.sw ih
  | c h1 h2 _ ih => exact .c h1.sw h2 ih
  | q h1 _ ih => exact .q h1.sw ih
  | f _ _ ih1 ih => exact .f ih1 ih
  | g h1 h2 h3 _ _ ih1 ih => exact .g h1 (by rw [fitL_sw]; exact h2) h3 ih1 ih
  | r h1 h2 _ ih => exact .r h1.sw h2 ih
theorem Rep1.sw {a : A} {v : Value} (h : Rep1 T e a v) : Rep1 T (e.sw i j) (swA i j a) v := by
  cases a <;> simp only [Rep1] at h <;> first | trivial | exact h.elim | exact ⟨h.1.sw, h.2⟩ | exact RA.sw h
theorem swL_get : ∀ {l : List A} {k : Nat} {v : A}, (swL i j l)[k]? = some v → ∃ a, l[k]? = some a ∧ v = swA i j a := by
  intro l
  induction l with
  | nil => intro k v h; simp [swL] at h
  | cons a l ih =>
    intro k v h
    cases k with
    | zero => simp [swL] at h; exact ⟨a, rfl, h.symm⟩
    | succ k => exact ih (by simpa [swL] using h)
theorem swL_len : ∀ {l : List A}, (swL i j l).length = l.length := by
  intro l
  induction l with
  | nil => rfl
  | cons a l ih => simp [swL, ih]
theorem Rep.sw {a : A} {v : Value} (h : Rep T e a v) : Rep T (e.sw i j) (swA i j a) v := by
  cases a with
  | t l =>
    obtain ⟨xs, rfl, h2, h3⟩ := h
    refine ⟨xs, rfl, by rw [swL_len]; exact h2, fun k v x hv hx => ?_⟩
    obtain ⟨a, ha, rfl⟩ := swL_get hv
    exact (h3 k a x ha hx).sw
  | _ => exact (by first | exact Rep1.sw (a := .i _ _) h | exact Rep1.sw (a := .b _) h | exact Rep1.sw (a := .s _) h | exact Rep1.sw (a := .z _) h | exact Rep1.sw (a := .v _ _) h | exact Rep1.sw (a := .p _ _ _) h | exact Rep1.sw (a := .e _ _ _ _ _) h | exact Rep1.sw (a := .c _ _) h | exact Rep1.sw (a := .q _ _) h | exact Rep1.sw (a := .o _ _) h | exact Rep1.sw (a := .w _ _ _ _) h | exact Rep1.sw (a := .a _ _ _ _ _) h | exact Rep1.sw (a := .m _) h | exact Rep1.sw (a := .y _) h | exact Rep1.sw (a := .f _ _) h | exact Rep1.sw (a := .g _ _) h | trivial)
theorem MR.sw {kt et : Nat} {es : List (V × A)} {ms : List MapEntry} (h : MR T e kt et es ms) : MR T (e.sw i j) kt et (swE i j es) ms := by
  induction h with
  | nil => exact .nil
  | cons h1 h2 h3 _ ih => exact .cons h1.sw h2.sw (by rw [fitA_sw]; exact h3) ih
theorem swE_map : ∀ l : List (V × A), swE i j l = l.map fun p => (p.1, swA i j p.2) := by
  intro l
  induction l with
  | nil => rfl
  | cons p r ih => simp [swE, ih]
theorem swE_vms {et : Nat} : ∀ es : List (V × V), swE i j (vms et es) = vms et es := by
  intro es
  induction es with
  | nil => rfl
  | cons p r ih => simp only [vms, swE, ih]; rfl
theorem swS_mem : ∀ {l : List (Nat × A)} {p : Nat × A}, p ∈ swS i j l → ∃ q ∈ l, p = (q.1, swA i j q.2) := by
  intro l
  induction l with
  | nil => intro p hp; cases hp
  | cons q r ih =>
    intro p hp
    rcases List.mem_cons.1 hp with rfl | hp
    · exact ⟨q, by simp, rfl⟩
    · obtain ⟨q', h1, h2⟩ := ih hp
      exact ⟨q', by simp [h1], h2⟩
theorem OK.sw {id : Nat} {o : Ob} (h : OK T e id o) : OK T (e.sw i j) (Vm.sw i j id) (swO i j o) := by
  cases o with
  | box t a sh =>
    obtain ⟨h1, h2, h2', h2'', b, cs, ty, fz, h3, h4, h5, h5', h6, h7⟩ := h
    simp only [OK, swO, Env.sw, sw_sw, fitA_sw]
    exact ⟨h1, h2, h2', h2'', b, cs, ty, fz, h3, h4, h5, h5', RA.sw h6, h7⟩
  | row el ver xs nl sh =>
    obtain ⟨h1, h2, h3, h4, h4', h5, h6⟩ := h
    simp only [OK, swO, Env.sw, sw_sw]
    refine ⟨h1, h2, h3, h4, h4', h5, ?_⟩
    rcases h6 with h6 | ⟨nn', b, o, cs, t, fz, pre, ys, post, g1, g2, g3, g4, g5, g6, g7, g8⟩
    · exact .inl h6
    · exact .inr ⟨nn', b, o, cs, t, fz, pre, ys, post, g1, g2, g3, g4, g5, g6.sw, g7, g8⟩
  | map kt et es =>
    obtain ⟨h1, h2, b, ms, clock, h3, h4, ⟨h5, h5'⟩, es', h6, h7⟩ := h
    simp only [OK, swO, Env.sw, sw_sw]
    refine ⟨h1, h2, b, ms, clock, h3, h4, ⟨by rw [swE_map, List.map_map]; exact h5, h5'⟩, swE i j es', by rw [swE_map, swE_map]; exact h6.map _, h7.sw⟩
  | vm kt et es =>
    obtain ⟨h1, h2, b, ms, clock, h3, h4, ⟨h5, h5'⟩, es', h6, h7⟩ := h
    simp only [OK, swO, Env.sw, sw_sw]
    refine ⟨h1, h2, b, ms, clock, h3, h4, ⟨h5, h5'⟩, swE i j es', by rw [← swE_vms (i := i) (j := j) es, swE_map, swE_map]; exact h6.map _, h7.sw⟩
  | lp q =>
    cases q with
    | none =>
      obtain ⟨h1, h2, b, h3, h4⟩ := h
      simp only [OK, swO, Env.sw, sw_sw]
      exact ⟨h1, h2, b, h3, h4⟩
    | some r =>
      obtain ⟨h1, h2, b, tm, df, fn, h3, h4, h5, h6⟩ := h
      simp only [OK, swO, Env.sw, sw_sw]
      refine ⟨h1, h2, b, tm, df, fn, h3, h4, h5, fun p hp => ?_⟩
      obtain ⟨q, hq, rfl⟩ := swS_mem hp
      exact (h6 q hq).sw
  | it q =>
    cases q with
    | none =>
      obtain ⟨h1, h2, b, x, y, z, h3, h4⟩ := h
      simp only [OK, swO, Env.sw, sw_sw]
      exact ⟨h1, h2, b, x, y, z, h3, h4⟩
    | some m =>
      obtain ⟨h1, h2, b, bm, x, z, h3, h4, h5, h6, h7⟩ := h
      simp only [OK, swO, Env.sw, sw_sw]
      exact ⟨h1, h2, b, bm, x, z, h3, h4, h5, h6, h7⟩
/-! Where neither is named nothing changes. -/
mutual
theorem swA_id : ∀ (a : A), (∀ k ∈ refA a, k ≠ i ∧ k ≠ j) → swA i j a = a := by
  intro a h
  cases a with
  | p id t path => have := h id (by simp [refA]); simp only [swA, sw_o this.1 this.2]
  | e id ver k t path => have := h id (by simp [refA]); simp only [swA, sw_o this.1 this.2]
  | o id ver => have := h id (by simp [refA]); simp only [swA, sw_o this.1 this.2]
  | w id ver off n => have := h id (by simp [refA]); simp only [swA, sw_o this.1 this.2]
  | a id t path lo m => have := h id (by simp [refA]); simp only [swA, sw_o this.1 this.2]
  | m id => have := h id (by simp [refA]); simp only [swA, sw_o this.1 this.2]
  | y id => have := h id (by simp [refA]); simp only [swA, sw_o this.1 this.2]
  | f fn l => simp only [swA, swL_id l (fun k hk => h k (by simpa [refA] using hk))]
  | g t l => simp only [swA, swL_id l (fun k hk => h k (by simpa [refA] using hk))]
  | t l => simp only [swA, swL_id l (fun k hk => h k (by simpa [refA] using hk))]
  | _ => rfl
theorem swL_id : ∀ (l : List A), (∀ k ∈ refL l, k ≠ i ∧ k ≠ j) → swL i j l = l := by
  intro l h
  cases l with
  | nil => rfl
  | cons a r => simp only [swL, swA_id a (fun k hk => h k (by simp [refL, hk])), swL_id r (fun k hk => h k (by simp [refL, hk]))]
end
theorem swE_id : ∀ (l : List (V × A)), (∀ k ∈ refE l, k ≠ i ∧ k ≠ j) → swE i j l = l := by
  intro l
  induction l with
  | nil => intro _; rfl
  | cons p r ih => intro h; simp only [swE, swA_id p.2 (fun k hk => h k (by simp [refE, hk])), ih (fun k hk => h k (by simp [refE, hk]))]
theorem swS_id : ∀ (l : List (Nat × A)), (∀ k ∈ refS l, k ≠ i ∧ k ≠ j) → swS i j l = l := by
  intro l
  induction l with
  | nil => intro _; rfl
  | cons p r ih => intro h; simp only [swS, swA_id p.2 (fun k hk => h k (by simp [refS, hk])), ih (fun k hk => h k (by simp [refS, hk]))]
theorem swO_id : ∀ (o : Ob), (∀ k ∈ refO o, k ≠ i ∧ k ≠ j) → swO i j o = o := by
  intro o h
  cases o with
  | box t a sh => simp only [swO, swA_id a h]
  | row el ver xs nl sh => rfl
  | map kt et es => simp only [swO, swE_id es h]
  | vm kt et es => rfl
  | lp q => cases q with
    | none => rfl
    | some r => simp only [swO, swS_id r.sl h]
  | it q => cases q with
    | none => rfl
    | some m => have := h m (by simp [refO]); simp only [swO, sw_o this.1 this.2]
theorem Rep1.used {a : A} {v : Value} (h : Rep1 T e a v) : ∀ id ∈ refA a, e.U id := by
  have one : ∀ {a : A} {cs : List Value}, RA T e [a] cs → ∀ id ∈ refA a, e.U id := fun g id hid => g.use id (by simp [refL, hid])
  cases a <;> simp only [Rep1] at h
  case x => intro id hid; cases hid
  case v => intro id hid; cases hid
  case g => exact one h.1
  all_goals exact one h
theorem MR.used {kt et : Nat} {es : List (V × A)} {ms : List MapEntry} (h : MR T e kt et es ms) : ∀ id ∈ refE es, e.U id := by
  induction h with
  | nil => intro id hid; cases hid
  | cons h1 h2 _ _ ih =>
    intro id hid
    simp only [refE, List.mem_append] at hid
    exact hid.elim (h2.used id) (ih id)
theorem refE_perm {a b : List (V × A)} (h : a.Perm b) : ∀ id, id ∈ refE b → id ∈ refE a := by
  have mem : ∀ (l : List (V × A)) id, id ∈ refE l ↔ ∃ p ∈ l, id ∈ refA p.2 := by
    intro l id
    induction l with
    | nil => simp [refE]
    | cons p r ih => simp [refE, ih]
  intro id hid
  rw [mem] at hid ⊢
  obtain ⟨p, hp, hq⟩ := hid
  exact ⟨p, h.mem_iff.2 hp, hq⟩
theorem OK.used {id : Nat} {o : Ob} (h : OK T e id o) : ∀ k ∈ refO o, e.U k := by
  cases o with
  | box t a sh =>
    obtain ⟨h1, h2, h2', h2'', b, cs, ty, fz, h3, h4, h5, h5', h6, h7⟩ := h
    exact fun k hk => h6.use k (by simpa [refL, refO] using hk)
  | row el ver xs nl sh => intro k hk; cases hk
  | map kt et es =>
    obtain ⟨h1, h2, b, ms, clock, h3, h4, h5, es', h6, h7⟩ := h
    exact fun k hk => h7.used k (refE_perm h6 k hk)
  | vm kt et es => intro k hk; cases hk
  | lp q =>
    cases q with
    | none => intro k hk; cases hk
    | some r =>
      obtain ⟨h1, h2, b, tm, df, fn, h3, h4, h5, h6⟩ := h
      have mem : ∀ (l : List (Nat × A)) id, id ∈ refS l → ∃ p ∈ l, id ∈ refA p.2 := by
        intro l id
        induction l with
        | nil => intro h; cases h
        | cons p r ih =>
          intro h
          simp only [refS, List.mem_append] at h
          rcases h with h | h
          · exact ⟨p, by simp, h⟩
          · obtain ⟨q, q1, q2⟩ := ih h; exact ⟨q, by simp [q1], q2⟩
      intro k hk
      obtain ⟨p, hp, hq⟩ := mem _ _ hk
      exact (h6 p hp).used k hq
  | it q =>
    cases q with
    | none => intro k hk; cases hk
    | some m =>
      obtain ⟨h1, h2, b, bm, x, z, h3, h4, h5, h6, h7⟩ := h
      intro k hk
      have : k = m := by simpa [refO] using hk
      subst this; exact h5
def swP (i j : Nat) (p : Nat × Ob) : Nat × Ob := (sw i j p.1, swO i j p.2)
def swM (i j : Nat) : List (Nat × Ob) → List (Nat × Ob)
  | [] => []
  | p :: r => swP i j p :: swM i j r
theorem put_swM : ∀ (l : List (Nat × Ob)) (f g : Nat → Option Ob), (∀ n, g n = (f (sw i j n)).map (swO i j)) → ∀ n, put g (swM i j l) n = (put f l (sw i j n)).map (swO i j) := by
  intro l
  induction l with
  | nil => intro f g h n; exact h n
  | cons p r ih =>
    intro f g h n
    obtain ⟨k, o⟩ := p
    simp only [swM, swP, put]
    refine ih _ _ (fun n => ?_) n
    by_cases hn : n = sw i j k
    · subst hn; rw [upd_same, sw_sw, upd_same]; rfl
    · rw [upd_ne _ _ hn, upd_ne _ _ (fun q => hn (by rw [← q, sw_sw])), h]
theorem marks_sw {l : List Nat} {ds : List Deferred} (h : MarksL e l ds) : MarksL (e.sw i j) (l.map (sw i j)) ds := by
  induction h with
  | nil => exact .nil
  | cons h1 h2 h3 _ ih => exact .cons (by simp only [Env.sw, sw_sw]; exact h1) (by simp only [Env.sw, sw_sw]; exact h2) (by simp only [Env.sw, sw_sw]; exact h3) ih
end Go.Vm

end
