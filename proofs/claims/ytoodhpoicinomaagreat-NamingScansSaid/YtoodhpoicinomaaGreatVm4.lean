/- What the operations of a program do, shown once for all programs; and numbers. -/
import Derived.Test.YtoodhpoicinomaaGreatVm3
import Derived.Laws.BytesString
import Derived.DeepKeys3
import Derived.MapKept
set_option linter.constructorNameAsVariable false
set_option linter.unusedVariables false
set_option linter.unusedSimpArgs false
noncomputable section
namespace Go.Vm
open Go.RowKit
variable {P : Program} {T : TT} {c : Ctx} {e : Env} {of : Nat → Option Ob}
def loadA (T : TT) (of : Nat → Option Ob) (t : Nat) (u : A) : Option (A × List Nat) :=
  if (T t).isSome then
    match u with
    | .p id _ path => match of id with
      | some (.box _ a _) => match atA T a path with
        | some a1 => match asT T t a1 with
          | some a2 => some (norm T a2, [id])
          | none => none
        | none => none
      | _ => none
    | .e id ver i _ path => match of id with
      | some (.row el v xs _ _) => if Nat.beq v ver then (match elA T el xs i path with
        | some a1 => match asT T t a1 with
          | some a2 => some (norm T a2, [id])
          | none => none
        | none => none) else none
      | _ => none
    | .c t' y => if same T t t' then some (mkA T t y, []) else none
    | _ => none
  else none
theorem norm_rep {a : A} {x : Value} {t : Nat} {te : TE} (hte : T t = some te) (h : Rep T e a x) (hf : fitA T t a = true) : Rep T e (norm T a) x := by
  cases a with
  | v t' y =>
    have hq : t = t' := by simp only [fitA] at hf; exact Nat.eq_of_beq_eq_true hf
    subst hq
    have h1 := mkA_RA h.1
    unfold norm
    have h2 := fitA_mk h.1
    rcases rep_load hte h1 h2 with ⟨ha, hr⟩ | ⟨ha, w, hw, hr⟩
    · obtain ⟨cs, rfl⟩ := h.2.1 ⟨te.k, kOf_of hte, ha⟩
      simpa [Value.cells] using hr
    · have hs := rv_single h ⟨te.k, kOf_of hte, ha⟩
      have ho := hs.one x (by simp)
      rw [cells_one ho] at hw
      injection hw with hw; subst hw; exact hr
  | _ => exact h
theorem left_norm {t : Nat} {te : TE} (hte : T t = some te) {a : A} (hf : fitA T t a = true) {wo : List (Nat × Ob)} {ro nw : List Nat} {x : Value} {w' : World} (h : Left T c e of ⟨a, wo, ro, nw⟩ x w') : Left T c e of ⟨norm T a, wo, ro, nw⟩ x w' := by
  obtain ⟨e', p1, p2, p3, p4, p5⟩ := h
  exact ⟨e', p1, p2, p3, p4, norm_rep hte p5 hf⟩
theorem does_mono {s : Sem Next} {w : World} {R R' : Value → World → Prop} (h : Does P s w R) (hr : ∀ x w', R x w' → R' x w') : Does P s w R' := by
  rcases h with ⟨x, w', h1, h2⟩ | ⟨w', h1, h2⟩ | ⟨f, args, w1, h1, h2⟩ | ⟨l, f, tmps, asg, body, w1, h1, h2⟩
  · exact .inl ⟨x, w', h1, hr _ _ h2⟩
  · exact .inr (.inl ⟨w', h1, hr _ _ h2⟩)
  · exact .inr (.inr (.inl ⟨f, args, w1, h1, h2.mono fun en w' ⟨x, hx, hl⟩ => ⟨x, hx, hr _ _ hl⟩⟩))
  · exact .inr (.inr (.inr ⟨l, f, tmps, asg, body, w1, h1, h2.mono fun en w' ⟨x, hx, hl⟩ => ⟨x, hx, hr _ _ hl⟩⟩))
theorem asT_fit {t : Nat} {a b : A} (h : asT T t a = some b) : fitA T t b = true := by
  cases a with
  | v t' y => simp only [asT] at h; split at h <;> first | (injection h with h; subst h; exact fitA_v _ _) | cases h
  | g t' l => simp only [asT] at h; split at h <;> first | (injection h with h; subst h; simp [fitA]) | cases h
  | z v =>
    simp only [asT] at h
    split at h <;> try (cases h; done)
    all_goals (split at h <;> first | (injection h with h; subst h; exact fitA_v _ _) | cases h)
  | t l => simp [asT] at h
  | x => simp [asT] at h
  | _ => simp only [asT] at h; split at h <;> first | (rename_i hs; injection h with h; subst h; exact hs) | cases h
theorem loadA_ok (hT : TOK T P) {of' : Nat → Option Ob} {t : Nat} {u r : A} {x : Value} {ro : List Nat} (h : OSim T c e of') (hr : loadA T of t u = some (r, ro)) (ho : ∀ id ∈ ro, of' id = of id) (hx : Rep T e u x) :
    Does P (do pure (.value (← Instr.loadAt t x))) e.w (Left T c e of' ⟨r, [], ro, []⟩) := by
  unfold loadA at hr
  split at hr <;> try (cases hr; done)
  rename_i ht
  obtain ⟨te, hte⟩ := Option.isSome_iff_exists.1 ht
  split at hr
  · rename_i id t' path
    split at hr <;> try (cases hr; done)
    rename_i t0 a sh hof
    split at hr <;> try (cases hr; done)
    rename_i a1 h1
    split at hr <;> try (cases hr; done)
    rename_i a2 h2
    injection hr with hr; injection hr with e1 e2; subst e1; subst e2
    exact does_mono (law_load_p h hT hte ((ho id (by simp)).trans hof) h1 h2 hx) (fun x w' => left_norm hte (asT_fit h2))
  · rename_i id ver i t' path
    split at hr <;> try (cases hr; done)
    rename_i el v xs nl sh hof
    split at hr <;> try (cases hr; done)
    rename_i hc
    have := Nat.eq_of_beq_eq_true hc; subst this
    split at hr <;> try (cases hr; done)
    rename_i a1 h1
    split at hr <;> try (cases hr; done)
    rename_i a2 h2
    injection hr with hr; injection hr with e1 e2; subst e1; subst e2
    exact does_mono (law_load_e h hT hte ((ho id (by simp)).trans hof) h1 h2 hx) (fun x w' => left_norm hte (asT_fit h2))
  · rename_i t' y
    split at hr <;> try (cases hr; done)
    rename_i hs
    injection hr with hr; injection hr with e1 e2; subst e1; subst e2
    obtain ⟨a, ds, rfl, q1, q2⟩ := rep_c_inv hx
    obtain ⟨p, q⟩ := same_spec hs
    have q1' := q1.cast p q
    exact law_load_cells h hT hte (mkA_RA q1') (fitA_mk q1') (fun j z hj => (q2.2 j z hj).1)
  · cases hr
def storeA (T : TT) (of : Nat → Option Ob) (t : Nat) (u v : A) : Option (List (Nat × Ob) × List Nat) :=
  if (T t).isSome then
    match u with
    | .p id t' path => match of id with
      | some (.box t0 a false) => if same T t t' then (match asT T t' v with
        | some v' => match putA T a path v' with
          | some a' => some ([(id, .box t0 a' false)], [id])
          | none => none
        | none => none) else none
      | _ => none
    | .e id ver i t' path => match toV T DEP of t' v with
      | some (xv, wo) => match put of wo id with
        | some (.row el w xs nl false) => if Nat.beq w ver && same T t t' then (match putA T (.v el (xs.getD i .n)) path (.v t' xv) with
          | some (.v t2 y) => if Nat.beq t2 el then some (wo ++ [(id, .row el ver (xs.set i y) nl false)], id :: ids wo) else none
          | _ => none) else none
        | _ => none
      | none => none
    | _ => none
  else none
theorem storeA_ok (hT : TOK T P) {of' : Nat → Option Ob} {t : Nat} {u v : A} {x y : Value} {wo : List (Nat × Ob)} {ro : List Nat} (h : OSim T c e of') (hr : storeA T of t u v = some (wo, ro)) (ho : ∀ id ∈ ro, of' id = of id) (hx : Rep T e u x) (hy : Rep T e v y) :
    Does P (do Instr.storeAt t x y; pure .skip) e.w (Left T c e of' ⟨.x, wo, ro, []⟩) := by
  unfold storeA at hr
  split at hr <;> try (cases hr; done)
  rename_i ht
  obtain ⟨te, hte⟩ := Option.isSome_iff_exists.1 ht
  split at hr
  · rename_i id t' path
    split at hr <;> try (cases hr; done)
    rename_i t0 a hof
    split at hr <;> try (cases hr; done)
    rename_i hs
    split at hr <;> try (cases hr; done)
    rename_i v' hv'
    split at hr <;> try (cases hr; done)
    rename_i a' ha'
    injection hr with hr; injection hr with e1 e2; subst e1; subst e2
    exact law_store_p h hT hte hs ((ho id (by simp)).trans hof) hv' ha' hx hy
  · rename_i id ver i t' path
    split at hr <;> try (cases hr; done)
    rename_i xv wo1 htoV
    split at hr <;> try (cases hr; done)
    rename_i el w xs nl hof
    split at hr <;> try (cases hr; done)
    rename_i hc
    simp only [Bool.and_eq_true] at hc
    have := Nat.eq_of_beq_eq_true hc.1; subst this
    split at hr <;> try (cases hr; done)
    rename_i t2 y' hput
    split at hr <;> try (cases hr; done)
    rename_i ht2
    have := Nat.eq_of_beq_eq_true ht2; subst this
    injection hr with hr; injection hr with e1 e2; subst e1; subst e2
    have htoV' := (toV_congr (T := T) DEP).1 of of' _ _ _ _ htoV (fun id hid => ho id (by simp [hid]))
    refine left_after (out := ⟨.x, [(id, .row t2 w (xs.set i y') nl false)], [id], []⟩) (toV_spec h htoV' hy) (fun e1 hw h1 hle hU hq => ?_)
    have hof' : put of' wo1 id = some (.row t2 w xs nl false) := by rw [put_at wo1 of' of id (ho id (by simp))]; exact hof
    exact law_store_e h1 hT hte hc.2 hof' (RA.v1 hq) (fitA_v _ _) hput (hx.mono hle)
  · cases hr
def fieldA (T : TT) (s f : Nat) (u : A) : Option A :=
  match kOf T s with
  | some (.struct fs) => match fs[f]? with
    | some ft => if (T ft).isSome then
        match u with
        | .v t y => if same T s t then some (mkA T ft (y.nth f)) else none
        | .g t l => if same T s t then (match l[f]? with
          | some a => match asT T ft a with
            | some b => some (norm T b)
            | none => none
          | none => none) else none
        | _ => none
      else none
    | none => none
  | _ => none
theorem run_partA {t : Nat} {te : TE} (hT : TOK T P) (ht : T t = some te) {xs : Array Value} {pre d post : List Value} {off : Nat} {a : A} (hx : xs.toList = pre ++ (d ++ post)) (hp : pre.length = off) (hd : RA T e [a] d) (hf : fitA T t a = true) (w : World) :
    ∃ v, (part t xs off).run P w = .ok v w ∧ Rep T e a v := by
  have hl := hd.width hf
  rw [szT_of ht] at hl
  subst hp
  rcases rep_load ht hd hf with ⟨ha, hr⟩ | ⟨ha, v, rfl, hr⟩
  · refine ⟨.agg (xs.extract pre.length (pre.length + te.size)), by simp [part, run_agg (hT _ _ ht), ha, run_size (hT _ _ ht)], ?_⟩
    have : xs.extract pre.length (pre.length + te.size) = d.toArray := by
      apply Array.ext'
      rw [Array.toList_extract, hx, List.extract_eq_take_drop, List.drop_left, ← hl]
      simp
    rw [this]; exact hr
  · have hv : xs[pre.length]? = some v := by rw [← Array.getElem?_toList, hx]; simp
    exact ⟨v, by simp [part, run_agg (hT _ _ ht), ha, hv], hr⟩
theorem fieldA_ok (hT : TOK T P) {s f : Nat} {u r : A} {x : Value} (h : OSim T c e of) (hr : fieldA T s f u = some r) (hx : Rep T e u x) {ro : List Nat} :
    Does P (do pure (.value (← Instr.field s x f))) e.w (Left T c e of ⟨r, [], ro, []⟩) := by
  unfold fieldA at hr
  split at hr <;> try (cases hr; done)
  rename_i fs hk
  obtain ⟨te, h1, h2⟩ := kOf_some hk
  obtain ⟨gs, g1, g2, g3⟩ := under_struct (hT _ _ h1) h2
  split at hr <;> try (cases hr; done)
  rename_i ft hft
  obtain ⟨g, hg, rfl⟩ := struct_field g2 hft
  have hoff := g3 _ _ hg
  split at hr <;> try (cases hr; done)
  rename_i hsome
  obtain ⟨tf, htf⟩ := Option.isSome_iff_exists.1 hsome
  split at hr
  · rename_i t y
    split at hr <;> try (cases hr; done)
    rename_i hs
    injection hr with hr; subst hr
    have hk' := (same_spec hs).1.symm.trans hk
    obtain ⟨cs, rfl, hv⟩ := rep_v_agg hx ⟨_, hk', rfl⟩
    obtain ⟨ys, rfl, hy⟩ := hv.struct_inv hk'
    obtain ⟨z, pre, d, post, k1, k2, k3, k4, k5⟩ := hy.at hft
    rw [nth_of k1]
    obtain ⟨v, r1, r2⟩ := run_partA hT htf k2 (k3.trans hoff.symm) (mkA_RA k5) (fitA_mk k5) e.w
    refine does_value (x := v) (w' := e.w) ?_ (left_same h r2)
    simp [Instr.field, run_under g1, hg, asAgg, r1]
  · rename_i t l
    split at hr <;> try (cases hr; done)
    rename_i hs
    split at hr <;> try (cases hr; done)
    rename_i a ha
    split at hr <;> try (cases hr; done)
    rename_i b hb
    injection hr with hr; subst hr
    obtain ⟨h3, cs, rfl⟩ := hx
    have h3 : RA T e [.g t l] cs.toList := h3
    have hct : chT T t = some fs := by rw [← chT_same (same_spec hs).1]; simp [chT, hk]
    generalize hcs : cs.toList = dd at h3
    cases h3 with
    | g g4 g5 g6 g7 g8 =>
      cases g8
      rw [hct] at g4; cases g4
      obtain ⟨a', pre, d, post, k1, k2, k3, k4, k5, k6⟩ := g7.at g5 hft
      rw [ha] at k1; cases k1
      obtain ⟨q1, q2⟩ := asT_RA k5 hb
      rw [List.append_nil, k2] at hcs
      obtain ⟨v, r1, r2⟩ := run_partA hT htf hcs (k3.trans hoff.symm) q1 q2 e.w
      refine does_value (x := v) (w' := e.w) ?_ (left_same h (norm_rep htf r2 q2))
      simp [Instr.field, run_under g1, hg, asAgg, r1]
    | r g1 _ _ => exact g1.elim
  · cases hr
def indexA (T : TT) (t : Nat) (i : Int) (u : A) : Option A :=
  match u with
  | .s l => match kOf T t with
    | some .str => if ile 0 i && ilt i l.length then some (.i .u8 (l.getD i.toNat .n).int) else none
    | _ => none
  | .v t' y => match kOf T t with
    | some (.arr n el) => if same T t t' && ile 0 i && ilt i n && (T el).isSome then some (mkA T el (y.nth i.toNat)) else none
    | _ => none
  | _ => none
theorem indexA_ok (hT : TOK T P) {t : Nat} {k : IntKind} {i : Int} {u r : A} {x : Value} (h : OSim T c e of) (hr : indexA T t i u = some r) (hx : Rep T e u x) {ro : List Nat} :
    Does P (do pure (.value (← Instr.index t x (.int k i)))) e.w (Left T c e of ⟨r, [], ro, []⟩) := by
  unfold indexA at hr
  split at hr
  · rename_i l
    split at hr <;> try (cases hr; done)
    rename_i hk
    obtain ⟨te, h1, h2⟩ := kOf_some hk
    have hu := under_str (hT _ _ h1) h2
    split at hr <;> try (cases hr; done)
    rename_i hc
    simp only [Bool.and_eq_true, ile_iff, ilt_iff] at hc
    injection hr with hr; subst hr
    obtain ⟨s, rfl, rfl⟩ := rep_s_inv hx
    rw [txt_length] at hc
    have hlt : i.toNat < s.data.size := by have : s.size = s.data.size := rfl; omega
    have e1 : s[i.toNat]? = some s.data[i.toNat] := by
      have hi2 : i.toNat < s.size := hlt
      rw [getElem?_pos s i.toNat hi2]
      rfl
    have e2 : (txt s).getD i.toNat .n = V.i (s.data[i.toNat].toNat : Int) := by
      unfold txt
      simp [List.getD, Array.getElem?_eq_getElem hlt]
    rw [e2]
    have hb := s.data[i.toNat].toNat_lt
    refine does_value (x := .int .u8 s.data[i.toNat].toNat) (w' := e.w) ?_ (left_same h (rep_i (by constructor <;> simp only [lo, hi, V.int] <;> omega)))
    simp [Instr.index, asIntOf, run_under hu, hc.1, e1]
  · rename_i t' y
    split at hr <;> try (cases hr; done)
    rename_i n el hk
    obtain ⟨te, h1, h2⟩ := kOf_some hk
    have hu := under_arr (hT _ _ h1) h2
    split at hr <;> try (cases hr; done)
    rename_i hc
    simp only [Bool.and_eq_true, ile_iff, ilt_iff] at hc
    obtain ⟨⟨⟨hs, h0⟩, hn⟩, hel⟩ := hc
    obtain ⟨tel, htel⟩ := Option.isSome_iff_exists.1 hel
    injection hr with hr; subst hr
    have hk' := (same_spec hs).1.symm.trans hk
    obtain ⟨cs, rfl, hv⟩ := rep_v_agg hx ⟨_, hk', rfl⟩
    obtain ⟨ys, rfl, hl, hy⟩ := hv.arr_inv hk'
    have hg : (List.replicate n el)[i.toNat]? = some el := by rw [List.getElem?_replicate, if_pos (by omega)]
    obtain ⟨z, pre, d, post, k1, k2, k3, k4, k5⟩ := hy.at hg
    rw [List.take_replicate, szs_replicate, Nat.min_eq_left (by omega), szT_of htel] at k3
    rw [nth_of k1]
    obtain ⟨v, r1, r2⟩ := run_partA hT htel k2 k3 (mkA_RA k5) (fitA_mk k5) e.w
    refine does_value (x := v) (w' := e.w) ?_ (left_same h r2)
    simp [Instr.index, asIntOf, run_under hu, h0, hn, run_size (hT _ _ htel), r1]
  · cases hr
end Go.Vm

namespace Go.Vm
open Go.RowKit
variable {P : Program} {T : TT} {c : Ctx} {e : Env} {of : Nat → Option Ob}
theorem bytes_cells {el : Nat} (hk : kOf T el = some (.int .u8)) : ∀ {n : Nat} {xs : List V} {us : List Value}, RV T e (List.replicate n el) xs us → us = (xs.map V.int).map (Value.int .u8) ∧ ∀ x ∈ xs, ∃ m : Int, x = .i m ∧ inR .u8 m := by
  intro n
  induction n with
  | zero =>
    intro xs us h
    have h1 := h.length.1
    have h2 := h.length.2
    simp only [List.replicate_zero, szs, List.length_eq_zero_iff, List.length_nil] at h1 h2
    subst h1; subst h2
    exact ⟨rfl, fun x hx => by cases hx⟩
  | succ n ih =>
    intro xs us h
    rw [List.replicate_succ] at h
    cases xs with
    | nil => have := h.length.2; simp at this
    | cons x xs =>
      obtain ⟨d, r, rfl, h1, h2⟩ := h.cons_inv
      obtain ⟨m, rfl, rfl, hr⟩ := h1.int_inv hk
      obtain ⟨q1, q2⟩ := ih h2
      refine ⟨by rw [q1]; rfl, fun y hy => ?_⟩
      rcases List.mem_cons.1 hy with rfl | hy
      · exact ⟨m, rfl, hr⟩
      · exact q2 y hy
theorem foldl_push : ∀ (ns : List Int) (s : ByteArray), (ns.foldl (fun (r : ByteArray) (n : Int) => r.push (UInt8.ofNat n.toNat)) s).data.toList = s.data.toList ++ ns.map fun n => UInt8.ofNat n.toNat := by
  intro ns
  induction ns with
  | nil => intro s; simp
  | cons n ns ih => intro s; rw [List.foldl_cons, ih]; simp
theorem txt_fold {xs : List V} (h : ∀ x ∈ xs, ∃ m : Int, x = .i m ∧ inR .u8 m) : txt ((xs.map V.int).foldl (fun (r : ByteArray) (n : Int) => r.push (UInt8.ofNat n.toNat)) ByteArray.empty) = xs := by
  unfold txt
  rw [foldl_push]
  simp only [List.map_map, List.map_append]
  have : ByteArray.empty.data.toList = [] := rfl
  rw [this, List.map_nil, List.nil_append]
  conv => rhs; rw [← List.map_id xs]
  apply List.map_congr_left
  intro x hx
  obtain ⟨m, rfl, h1, h2⟩ := h x hx
  simp only [lo, hi] at h1 h2
  simp only [Function.comp, V.int, id]
  congr 1
  have : (UInt8.ofNat m.toNat).toNat = m.toNat := UInt8.toNat_ofNat_of_lt' (by show _ < 256; omega)
  rw [this]; omega
def bytesOf (T : TT) (of : Nat → Option Ob) (el : Nat) (u : A) : Option (List V × List Nat) :=
  match kOf T el with
  | some (.int .u8) => if Nat.beq (szT T el) 1 then srcA T of el u else none
  | _ => none
theorem run_bytes {s t el : Nat} (hs : P.underlying s = some (.slice el)) (he : P.underlying el = some (.int .u8)) (ht : P.underlying t = some .string) {xt : TypeId} {w : World} {v : Value} {xs : List V} {us : List Value} (hsrc : Src P w xt v 1 xs.length us) (hus : us = (xs.map V.int).map (Value.int .u8))
    (hv : ∃ a n k, v = .slice a n k) : (convert s t v).run P w = .ok (.string ((xs.map V.int).foldl (fun (r : ByteArray) (n : Int) => r.push (UInt8.ofNat n.toNat)) ByteArray.empty)) w := by
  obtain ⟨a, n, k, rfl⟩ := hv
  rw [run_convert_bytes_string w s t el a n k hs he ht]
  have hn : n = xs.length := by
    have := hsrc.len w
    simp only [Builtin.lenOf, Sem.run_pure] at this
    injection this
  subst hn
  cases a with
  | none =>
    have hf := hsrc.first w rfl
    simp only [Builtin.firstCells, Sem.run_pure] at hf
    injection hf with hf
    have h0 : us = [] := by simpa using hf.symm
    have hl := hsrc.size
    rw [h0] at hl
    have hx : xs = [] := List.eq_nil_of_length_eq_zero (by simpa using hl.symm)
    subst hx
    simp [Conv.bytesToString, Sem.run_pure]
  | some a =>
    have hf := hsrc.first w rfl
    simp only [Builtin.firstCells, Nat.mul_one] at hf
    exact run_bytesToString w a _ k _ (by rw [hf, hus])
theorem law_bytes {s t el id : Nat} {te : TE} (h : OSim T c e of) (hT : TOK T P) (hs : P.underlying s = some .string) (ht : P.underlying t = some (.slice el)) (he : P.underlying el = some (.int .u8)) (hk : kOf T el = some (.int .u8)) (hz : szT T el = 1) (hu : ¬ e.U id) {x : Value} {l : List V} (hx : Rep T e (.s l) x) {ro : List Nat} :
    Does P (do pure (.value (← convert s t x))) e.w (Left T c e of ⟨.o id 1, [(id, .row el 1 l false false)], ro, [id]⟩) := by
  obtain ⟨bs, rfl, rfl⟩ := rep_s_inv hx
  obtain ⟨hd0, hle0⟩ := h.same_heap (w' := e.w.drew) rfl rfl rfl rfl
  obtain ⟨cap, hcap⟩ : ∃ cap, cap = (Question.appendCap bs.size 0 el).cut (e.w.tape e.w.drawn (Question.appendCap bs.size 0 el)) := ⟨_, rfl⟩
  have hle : bs.size ≤ cap := by rw [hcap]; simp only [Question.cut]; omega
  obtain ⟨cells, hcells⟩ : ∃ cells : Array Value, cells = (bs.data.map fun b => Value.int .u8 b.toNat) ++ Array.replicate (cap - bs.size) (.int .u8 0) := ⟨_, rfl⟩
  have hbs : bs.data.size = bs.size := rfl
  have hcs : cells.size = cap * szT T el := by
    rw [hcells]
    simp only [Array.size_append, Array.size_map, Array.size_replicate, hz]; omega
  have hheap : (e.w.drew.alloc (.cells cells el)).heap[e.w.heap.size]? = some (.cells cells el (0, 0)) := alloc_new e.w.drew _
  have hfr : (e.w.drew.alloc (.cells cells el)).freeze ⟨e.w.heap.size, cells.size, none⟩ 1 = e.w.drew.alloc (.cells cells el (cells.size, cells.size + 1)) := by
    unfold World.freeze
    rw [if_neg (by decide)]
    refine congrArg (fun h : Array Go.Obj => World.mk h e.w.drew.tape e.w.drew.drawn e.w.drew.os e.w.drew.output) (a₁ := (e.w.drew.alloc (.cells cells el)).heap.modify e.w.heap.size _) (a₂ := (e.w.drew.alloc (.cells cells el (cells.size, cells.size + 1))).heap) ?_
    apply Array.ext_getElem?
    intro i
    rw [Array.getElem?_modify]
    by_cases hi : e.w.heap.size = i
    · subst hi
      rw [if_pos rfl, hheap]
      show _ = (e.w.drew.alloc (.cells cells el (cells.size, cells.size + 1))).heap[e.w.drew.heap.size]?
      rw [alloc_new]
      rfl
    · rw [if_neg hi]
      show (e.w.heap.push _)[i]? = (e.w.heap.push _)[i]?
      rw [Array.getElem?_push, Array.getElem?_push, if_neg (fun q => hi q.symm), if_neg (fun q => hi q.symm)]
  have hrun : (convert s t (.string bs)).run P e.w = .ok (.slice (some ⟨e.w.heap.size, 0, none⟩) bs.size cap) (e.w.drew.alloc (.cells cells el (cells.size, cells.size + 1))) := by
    rw [← hfr]
    have hsh : (e.w.drew.alloc (.cells cells el)).shape? e.w.heap.size = some (el, cells.size) := by
      unfold World.shape?
      rw [hheap]
    simp only [convert, Sem.run_bind, run_under hs, run_under ht, run_under he, Result.andThen_ok, Conv.stringToBytes]
    simp [choose, Sem.run, Question.forced, ← hcap, newRow, ← hcells, markStringish, shape, hsh, freeze]
  have hok := OK_rowF (id := id) (el := el) (xs := txt bs) (cs := cells) (ys := bs.data.toList.map fun b => Value.int .u8 b.toNat) (post := (Array.replicate (cap - bs.size) (Value.int .u8 0)).toList) (fz := (cells.size, cells.size + 1)) hd0 hu (by omega) (by rw [hcells]; simp)
    (by have := rv_bytes (e := { e with w := e.w.drew }) hk hz bs.data.toList; simpa [txt] using this)
    (by
      have := heap_new { e with w := e.w.drew } id 1 el (txt bs).length cells el (cells.size, cells.size + 1)
      simp only at this
      refine ⟨fun i hi => ?_, fun c t l hh hc => ?_⟩
      · unfold World.frozen?
        rw [this]
        simp; omega
      · rw [this] at hc
        injection hc with hc; injection hc with e1 e2 e3; injection e3 with e3 e4; omega)
  obtain ⟨e', p1, p2, p3, p4, p5⟩ := left_new (ro := ro) hd0 hu hok (rep_o_newF (n := (txt bs).length) (cap := cap) hcs (by rw [txt_length]; exact hle))
  rw [txt_length] at p5
  exact does_value hrun ⟨e', p1, p2, hle0.trans p3, p4, p5⟩
end Go.Vm

namespace Go.Vm
open Go.RowKit
variable {P : Program} {T : TT} {c : Ctx} {e : Env} {of : Nat → Option Ob}
theorem law_mark {t el id ver : Nat} (h : OSim T c e of) (hu : P.underlying t = some (.slice el)) (he : P.underlying el = some (.int .u8)) {xs : List V} {sh : Bool} {x : Value} (ho : of id = some (.row el ver xs false sh)) (hx : Rep T e (.o id ver) x) {ro : List Nat} :
    Does P (do pure (.value (← convert t t x))) e.w (Left T c e of ⟨.o id ver, [(id, .row el ver xs false sh)], ro, []⟩) := by
  obtain ⟨u1, u2, u3, u4, u5, u6, u7⟩ := row_ok h ho
  rcases u7 with ⟨hq, _, _⟩ | ⟨_, b, o, cs, ty, fz, pre, ys, post, g1, g2, g3, g4, g5, g6, g7, g8⟩
  · cases hq
  rcases rep_o_inv hx u3 with ⟨k1, _, _⟩ | ⟨b', o', cap, k, k1, k2, k3, k4, rfl⟩
  · rw [g1] at k1; cases k1
  rw [g1] at k1; cases k1
  obtain ⟨l, hh⟩ := fz
  have hlt : b < e.w.heap.size := (Array.getElem?_eq_some_iff.1 g2).1
  obtain ⟨w', hw'⟩ : ∃ w', w' = e.w.freeze ⟨b, cs.size, none⟩ 1 := ⟨_, rfl⟩
  obtain ⟨fz', hfz'⟩ : ∃ fz' : Nat × Nat, fz' = (if l == hh then (cs.size, cs.size + 1) else (min l cs.size, max hh (cs.size + 1))) := ⟨_, rfl⟩
  have hheap : w'.heap = e.w.heap.modify b (fun
      | .cells c elem (lo, hi) => .cells c elem (if lo == hi then (cs.size, cs.size + 1) else (min lo cs.size, max hi (cs.size + 1)))
      | o => o) := by rw [hw']; unfold World.freeze; rw [if_neg (by decide)]; rfl
  have h1 : w'.heap[b]? = some (.cells cs ty fz') := by
    rw [hheap, Array.getElem?_modify, if_pos rfl, g2, hfz']; rfl
  have hne : ∀ k, k ≠ b → w'.heap[k]? = e.w.heap[k]? := fun k hk => by rw [hheap, Array.getElem?_modify, if_neg (Ne.symm hk)]
  have hsz : w'.heap.size = e.w.heap.size := by rw [hheap]; simp
  have hos : w'.os = e.w.os ∧ w'.tape = e.w.tape ∧ w'.output = e.w.output := by rw [hw']; unfold World.freeze; rw [if_neg (by decide)]; exact ⟨rfl, rfl, rfl⟩
  have hlh : l ≤ hh := g3.2 cs ty l hh g2
  have hsize : l < hh → cs.size ≤ l := fun hl => by
    rcases Nat.lt_or_ge l cs.size with h0 | h0
    · have := g3.1 l h0
      simp only [World.frozen?, g2, Nat.le_refl, decide_true, Bool.true_and, decide_eq_false_iff_not, Nat.not_lt] at this
      omega
    · exact h0
  have hfz : cs.size ≤ fz'.1 ∧ fz'.1 ≤ fz'.2 := by
    rw [hfz']
    by_cases hq : l = hh
    · subst hq; simp
    · have := hsize (by omega)
      have hb : (l == hh) = false := by simpa using hq
      rw [hb]
      simp only [Bool.false_eq_true, if_false]
      omega
  have hfree : free w' b cs := by
    refine ⟨fun i hi => ?_, fun c t l2 h2 hc => ?_⟩
    · have : ¬ fz'.1 ≤ i := by omega
      simp [World.frozen?, h1, this]
    · rw [h1] at hc
      injection hc with hc; injection hc with e1 e2 e3
      rw [e3] at hfz; exact hfz.2
  obtain ⟨hos', hll⟩ := h.write ho g1 g2 h1 rfl hne hsz hos (fun i _ => rfl) (o' := .row el ver xs false sh)
    (fun hle => ⟨u1, u2, u3, u4, u5, u6, .inr ⟨rfl, b, o, cs, ty, fz', pre, ys, post, g1, h1, hfree, g4, g5, g6.mono hle, g7, g8⟩⟩)
  refine does_value (x := .slice (some ⟨b, k, none⟩) (e.ln id) cap) (w' := w') ?_ ⟨_, rfl, hos', hll, fun _ hu => .inl hu, hx.mono hll⟩
  have hshape : e.w.shape? b = some (ty, cs.size) := by unfold World.shape?; rw [g2]
  simp [convert, run_under hu, run_under he, markStringish, shape, freeze, Sem.run, hshape, hw']
def convA (T : TT) (of : Nat → Option Ob) (nx s t : Nat) (u : A) : Option Out :=
  match kOf T t with
  | some (.int k) => match u with
    | .i _ n => if (T s).isSome then some (.pure (.i k (k.wrap n))) else none
    | _ => none
  | some .str => match u with
    | .s l => if (T s).isSome then some (.pure (.s l)) else none
    | u => match kOf T s with
      | some (.slice el) => match bytesOf T of el u with
        | some (xs, ro) => some ⟨.s xs, [], ro, []⟩
        | none => none
      | _ => none
  | some (.slice el) => match u, kOf T s, kOf T el with
    | .s l, some .str, some (.int .u8) => if Nat.beq (szT T el) 1 then some ⟨.o nx 1, [(nx, .row el 1 l false false)], [], [nx]⟩ else none
    | .o id ver, _, some (.int .u8) => match of id with
      | some (.row el' v xs false sh) => if Nat.beq s t && Nat.beq el el' && Nat.beq v ver then some ⟨.o id ver, [(id, .row el ver xs false sh)], [id], []⟩ else none
      | _ => none
    | _, _, _ => none
  | _ => none
theorem srcA_slice {of' : Nat → Option Ob} {el : Nat} {a : A} {v : Value} {ns : List V} {ro : List Nat} (h : OSim T c e of') (hs : srcA T of el a = some (ns, ro)) (ho : ∀ id ∈ ro, of' id = of id) (hr : Rep T e a v) (hns : ∀ l, a ≠ .s l) : ∃ p n k, v = .slice p n k := by
  cases a with
  | s l => exact absurd rfl (hns l)
  | v t x =>
    simp only [srcA] at hs
    split at hs <;> try (cases hs; done)
    rename_i el' hk
    rcases (rv_single hr ⟨_, hk, rfl⟩).slice_inv hk with ⟨_, hv⟩ | ⟨ys, ds, ad, cap, _, hv, _⟩ <;> (injection hv with hv; exact ⟨_, _, _, hv⟩)
  | q t x =>
    have hr : RA T e [.q t x] [v] := hr
    cases hr with
    | q _ _ => exact ⟨_, _, _, rfl⟩
    | r g1 _ _ => exact g1.elim
  | z y =>
    simp only [srcA] at hs
    split at hs
    · rename_i hz
      have hr : RA T e [.z y] [v] := hr
      cases hr with
      | z _ _ => rw [nilS_eq hz]; exact ⟨_, _, _, rfl⟩
      | r g1 _ _ => exact g1.elim
    · cases hs
  | o id ver =>
    simp only [srcA] at hs
    split at hs <;> try (cases hs; done)
    rename_i el' v' xs nl sh hof
    split at hs <;> try (cases hs; done)
    rename_i hc
    simp only [Bool.and_eq_true] at hc
    have := Nat.eq_of_beq_eq_true hc.2; subst this
    injection hs with hs; injection hs with h1 h2; subst h2
    have hv := (row_ok h ((ho id (by simp)).trans hof)).2.2.1
    rcases rep_o_inv hr hv with ⟨_, _, rfl⟩ | ⟨b, o, cap, k, _, _, _, _, rfl⟩ <;> exact ⟨_, _, _, rfl⟩
  | w id ver off n =>
    simp only [srcA] at hs
    split at hs <;> try (cases hs; done)
    rename_i el' v' xs nl sh hof
    split at hs <;> try (cases hs; done)
    rename_i hc
    simp only [Bool.and_eq_true] at hc
    have := Nat.eq_of_beq_eq_true hc.1.2; subst this
    injection hs with hs; injection hs with h1 h2; subst h2
    have hv := (row_ok h ((ho id (by simp)).trans hof)).2.2.1
    obtain ⟨b, o, cap, k, _, _, _, _, _, rfl⟩ := rep_w_inv hr hv
    exact ⟨_, _, _, rfl⟩
  | a id t1 path l0 m =>
    obtain ⟨b, off, n, el', k, cap, _, _, _, _, _, _, _, _, rfl⟩ := rep_a_inv hr
    exact ⟨_, _, _, rfl⟩
  | _ => simp [srcA] at hs
theorem convA_ok (hT : TOK T P) {of' : Nat → Option Ob} {nx s t : Nat} {u : A} {x : Value} {out : Out} (h : OSim T c e of') (hr : convA T of nx s t u = some out) (ho : ∀ id ∈ out.ro, of' id = of id) (hu : ∀ id ∈ out.nw, ¬ e.U id) (hx : Rep T e u x) :
    Does P (do pure (.value (← convert s t x))) e.w (Left T c e of' out) := by
  have hsd : (T s).isSome = true → ∃ d, P.underlying s = some d := fun hs => by
    obtain ⟨te, hte⟩ := Option.isSome_iff_exists.1 hs
    obtain ⟨d, h1, _⟩ := under_of (hT _ _ hte)
    exact ⟨d, h1⟩
  unfold convA at hr
  split at hr
  · rename_i k hk
    obtain ⟨te, h1, h2⟩ := kOf_some hk
    have ht := under_int (hT _ _ h1) h2
    split at hr <;> try (cases hr; done)
    rename_i k' n
    split at hr <;> try (cases hr; done)
    rename_i hs
    obtain ⟨d, hs⟩ := hsd hs
    injection hr with hr; subst hr
    rw [rep_i_inv hx]
    refine does_value (x := .int k (k.wrap n)) ?_ (left_same h (rep_i (wrap_inR k n)))
    simp [convert, run_under hs, run_under ht, Conv.intToInt]
  · rename_i hk
    obtain ⟨te, h1, h2⟩ := kOf_some hk
    have ht := under_str (hT _ _ h1) h2
    split at hr
    · rename_i l
      split at hr <;> try (cases hr; done)
      rename_i hs
      obtain ⟨d, hs⟩ := hsd hs
      injection hr with hr; subst hr
      obtain ⟨bs, rfl, rfl⟩ := rep_s_inv hx
      refine does_value (x := .string bs) ?_ (left_same h (rep_s bs))
      simp [convert, run_under hs, run_under ht]
    · rename_i u hns
      split at hr <;> try (cases hr; done)
      rename_i el hks
      obtain ⟨tes, hs1, hs2⟩ := kOf_some hks
      have hs := under_slice (hT _ _ hs1) hs2
      split at hr <;> try (cases hr; done)
      rename_i xs ro hb
      injection hr with hr; subst hr
      unfold bytesOf at hb
      split at hb <;> try (cases hb; done)
      rename_i hke
      obtain ⟨tee, he1, he2⟩ := kOf_some hke
      have he := under_int (hT _ _ he1) he2
      split at hb <;> try (cases hb; done)
      rename_i hz
      have hz := Nat.eq_of_beq_eq_true hz
      obtain ⟨us, s1, s2⟩ := srcA_ok (xt := s) h (.inl ⟨el, hs⟩) (fun l hl => absurd hl (hns l)) hb ho hx
      rw [hz] at s1
      obtain ⟨c1, c2⟩ := bytes_cells hke s2
      refine does_value (run_bytes hs he ht s1 c1 (srcA_slice h hb ho hx hns)) (left_same h (v := .s xs) ?_)
      have := rep_s (T := T) (e := e) ((xs.map V.int).foldl (fun (r : ByteArray) (n : Int) => r.push (UInt8.ofNat n.toNat)) ByteArray.empty)
      rwa [txt_fold c2] at this
  · rename_i el hk
    obtain ⟨te, h1, h2⟩ := kOf_some hk
    have ht := under_slice (hT _ _ h1) h2
    split at hr <;> try (cases hr; done)
    case h_2 id ver hke =>
      split at hr <;> try (cases hr; done)
      rename_i el' v xs sh hof
      split at hr <;> try (cases hr; done)
      rename_i hcc
      simp only [Bool.and_eq_true] at hcc
      have := Nat.eq_of_beq_eq_true hcc.1.1; subst this
      have := Nat.eq_of_beq_eq_true hcc.1.2; subst this
      have := Nat.eq_of_beq_eq_true hcc.2; subst this
      injection hr with hr; subst hr
      obtain ⟨tee, he1, he2⟩ := kOf_some hke
      exact law_mark h ht (under_int (hT _ _ he1) he2) ((ho id (by simp)).trans hof) hx
    rename_i l hks hke
    split at hr <;> try (cases hr; done)
    rename_i hz
    injection hr with hr; subst hr
    obtain ⟨tes, hs1, hs2⟩ := kOf_some hks
    obtain ⟨tee, he1, he2⟩ := kOf_some hke
    exact law_bytes (te := te) h hT (under_str (hT _ _ hs1) hs2) ht (under_int (hT _ _ he1) he2) hke (Nat.eq_of_beq_eq_true hz) (hu nx (by simp)) hx
  · cases hr
def lenA (T : TT) (of : Nat → Option Ob) (t : Nat) (u : A) : Option (A × List Nat) :=
  match kOf T t with
  | some .str => match u with
    | .s l => if Nat.ble l.length 9223372036854775807 then some (.i .i64 (l.length : Nat), []) else none
    | _ => none
  | some (.slice el) => match srcA T of el u with
    | some (xs, ro) => match u with
      | .s _ => none
      | _ => if Nat.ble xs.length 9223372036854775807 then some (.i .i64 (xs.length : Nat), ro) else none
    | none => none
  | some (.map _ _) => match u with
    | .m id => match of id with
      | some (.map _ _ es) => if Nat.ble es.length 9223372036854775807 then some (.i .i64 (es.length : Nat), [id]) else none
      | _ => none
    | _ => none
  | _ => none
end Go.Vm

namespace Go.Vm
open Go.RowKit
variable {P : Program} {T : TT} {c : Ctx} {e : Env} {of : Nat → Option Ob}
theorem len_rng {n : Nat} (h : Nat.ble n 9223372036854775807 = true) : inR .i64 (n : Nat) := by
  have := Nat.le_of_ble_eq_true h
  constructor <;> simp only [lo, hi] <;> omega
theorem rep_m_inv {id : Nat} {x : Value} (h : Rep T e (.m id) x) : ∃ b, e.U id ∧ e.bn id = 0 ∧ e.ι id = some (b, 0) ∧ x = .map (some b) := by
  have h : RA T e [.m id] [x] := h
  cases h with
  | r h1 _ _ => exact h1
theorem MR.length {kt et : Nat} {es : List (V × A)} {ms : List MapEntry} (h : MR T e kt et es ms) : es.length = ms.length := by
  induction h with
  | nil => rfl
  | cons _ _ _ _ ih => simp [ih]
theorem map_ok {id kt et : Nat} {es : List (V × A)} (h : OSim T c e of) (ho : of id = some (.map kt et es)) : e.U id ∧ e.bn id = 0 ∧ ∃ b ms clock, e.ι id = some (b, 0) ∧ e.w.heap[b]? = some (.map ms clock) ∧ ((es.map (·.1)).Nodup ∧ StB ms clock) ∧ ∃ es', es'.Perm es ∧ MR T e kt et es' ms.toList := h.ok _ _ ho
theorem lenA_ok (hT : TOK T P) {of' : Nat → Option Ob} {t ty : TypeId} {u r : A} {x : Value} {ro : List Nat} (h : OSim T c e of') (hr : lenA T of t u = some (r, ro)) (ho : ∀ id ∈ ro, of' id = of id) (hx : Rep T e u x) :
    Does P (do pure (.value (← Builtin.len_ #[t] ty #[x]))) e.w (Left T c e of' ⟨r, [], ro, []⟩) := by
  unfold lenA at hr
  split at hr
  · rename_i hk
    obtain ⟨te, h1, h2⟩ := kOf_some hk
    split at hr <;> try (cases hr; done)
    rename_i l
    split at hr <;> try (cases hr; done)
    rename_i hl
    injection hr with hr; injection hr with e1 e2; subst e1; subst e2
    obtain ⟨s, rfl, rfl⟩ := rep_s_inv hx
    refine does_value (x := .int .i64 s.size) (w' := e.w) (by simp [Builtin.len_, run_under (under_str (hT _ _ h1) h2), goInt]) ?_
    have := rep_i (T := T) (e := e) (len_rng hl)
    rw [txt_length] at this ⊢
    exact left_same h this
  · rename_i el hk
    obtain ⟨te, h1, h2⟩ := kOf_some hk
    have hu := under_slice (hT _ _ h1) h2
    split at hr <;> try (cases hr; done)
    rename_i xs ro' hs
    have key : ∀ (hns : ∀ l, u ≠ .s l), (if Nat.ble xs.length 9223372036854775807 then some (A.i .i64 (xs.length : Nat), ro') else none) = some (r, ro) → Does P (do pure (.value (← Builtin.len_ #[t] ty #[x]))) e.w (Left T c e of' ⟨r, [], ro, []⟩) := by
      intro hns hr
      split at hr <;> try (cases hr; done)
      rename_i hl
      injection hr with hr; injection hr with e1 e2; subst e1; subst e2
      obtain ⟨us, s1, s2⟩ := srcA_ok (xt := t) h (.inl ⟨el, hu⟩) (fun l hl => absurd hl (hns l)) hs ho hx
      obtain ⟨p, n, k, rfl⟩ := srcA_slice h hs ho hx hns
      have hn : n = xs.length := by
        have := s1.len e.w
        simp only [Builtin.lenOf, Sem.run_pure] at this
        injection this
      subst hn
      exact does_value (x := .int .i64 xs.length) (w' := e.w) (by simp [Builtin.len_, run_under hu, goInt]) (left_same h (rep_i (len_rng hl)))
    cases u with
    | s l => cases hr
    | _ => exact key (fun l q => by cases q) hr
  · rename_i kt et hk
    obtain ⟨te, h1, h2⟩ := kOf_some hk
    have hu := under_map (hT _ _ h1) h2
    split at hr <;> try (cases hr; done)
    rename_i id
    split at hr <;> try (cases hr; done)
    rename_i kt' et' es hof
    split at hr <;> try (cases hr; done)
    rename_i hl
    injection hr with hr; injection hr with e1 e2; subst e1; subst e2
    obtain ⟨b, u1, u2, u3, rfl⟩ := rep_m_inv hx
    obtain ⟨v1, v2, b', ms, clock, v3, v4, v5, es', v6, v7⟩ := map_ok h ((ho id (by simp)).trans hof)
    rw [u3] at v3; cases v3
    have hlen : ms.size = es.length := by rw [← v6.length_eq, v7.length, Array.length_toList]
    have hg : ∀ w : World, w.heap[b]? = some (.map ms clock) → (getObj b).run P w = .ok (.map ms clock) w := fun w hw => by simp [getObj, Sem.run, hw]
    refine does_value (x := .int .i64 ms.size) (w' := e.w) (by simp [Builtin.len_, run_under hu, goInt, hg _ v4]) ?_
    rw [hlen]
    exact left_same h (rep_i (len_rng hl))
  · cases hr
def capA (T : TT) (t : Nat) (u : A) : Option A :=
  match kOf T t with
  | some (.slice _) => match u with
    | .v t' .n => if same T t t' then some (.i .i64 0) else none
    | .z v => if nilS v then some (.i .i64 0) else none
    | .q t' x => if same T t t' && Nat.ble x.els.length 9223372036854775807 then some (.i .i64 (x.els.length : Nat)) else none
    | _ => none
  | _ => none
theorem capA_ok (hT : TOK T P) {t ty : TypeId} {u r : A} {x : Value} (h : OSim T c e of) (hr : capA T t u = some r) (hx : Rep T e u x) {ro : List Nat} :
    Does P (do pure (.value (← Builtin.cap_ #[t] ty #[x]))) e.w (Left T c e of ⟨r, [], ro, []⟩) := by
  unfold capA at hr
  split at hr <;> try (cases hr; done)
  rename_i el hk
  obtain ⟨te, h1, h2⟩ := kOf_some hk
  have hu := under_slice (hT _ _ h1) h2
  have key : ∀ p (m k : Nat), x = .slice p m k → Nat.ble k 9223372036854775807 = true → Does P (do pure (.value (← Builtin.cap_ #[t] ty #[x]))) e.w (Left T c e of ⟨.i .i64 (k : Nat), [], ro, []⟩) := by
    rintro p m k rfl hl
    exact does_value (x := .int .i64 k) (w' := e.w) (by simp [Builtin.cap_, run_under hu, goInt]) (left_same h (rep_i (len_rng hl)))
  split at hr
  · rename_i t'
    split at hr <;> try (cases hr; done)
    rename_i hs
    injection hr with hr; subst hr
    have hk' := (same_spec hs).1.symm.trans hk
    rcases (rv_single hx ⟨_, hk', rfl⟩).slice_inv hk' with ⟨_, hv⟩ | ⟨_, _, _, _, h0, _⟩
    · injection hv with hv; exact key none 0 0 hv rfl
    · cases h0
  · split at hr <;> try (cases hr; done)
    rename_i v hz
    injection hr with hr; subst hr
    have hx : RA T e [.z v] [x] := hx
    cases hx with
    | z _ _ => exact key none 0 0 (nilS_eq hz) rfl
    | r g1 _ _ => exact g1.elim
  · rename_i t' y
    split at hr <;> try (cases hr; done)
    rename_i hc
    simp only [Bool.and_eq_true] at hc
    injection hr with hr; subst hr
    have hk' := (same_spec hc.1).1.symm.trans hk
    have hx : RA T e [.q t' y] [x] := hx
    cases hx with
    | q g1 _ =>
      rename_i p n
      rcases g1.slice_inv hk' with ⟨rfl, hv⟩ | ⟨ys, _, _, _, rfl, hv, _⟩
      · injection hv with hv; injection hv with hv1 hv2 hv3
        subst hv2
        exact key _ 0 0 rfl rfl
      · injection hv with hv; injection hv with hv1 hv2 hv3
        subst hv2
        exact key _ _ _ rfl hc.2
    | r g1 _ _ => exact g1.elim
  · cases hr
def minA (mx : Bool) (u v : A) : Option A :=
  match u, v with
  | .i k a, .i k' b => if kbeq k k' then some (.i k (bif (bif mx then ilt a b else ilt b a) then b else a)) else none
  | _, _ => none
theorem min_ok {t : Array TypeId} {ty : TypeId} {u v r : A} {a b : Value} (h : OSim T c e of) (hr : minA false u v = some r) (hu : Rep T e u a) (hv : Rep T e v b) {ro : List Nat} :
    Does P (do pure (.value (← Builtin.min_ t ty #[a, b]))) e.w (Left T c e of ⟨r, [], ro, []⟩) := by
  unfold minA at hr
  split at hr <;> try (cases hr; done)
  split at hr <;> try (cases hr; done)
  rename_i hk
  have := kbeq_eq hk; subst this
  injection hr with hr; subst hr
  have r1 := rep_i_rng hu
  have r2 := rep_i_rng hv
  rw [rep_i_inv hu, rep_i_inv hv]
  rename_i k m n
  refine does_value (x := .int k (if n < m then n else m)) (w' := e.w) (by simp [Builtin.min_, Builtin.min2]) ?_
  have : (bif (bif false then ilt m n else ilt n m) then n else m) = if n < m then n else m := by
    simp only [cond_false]
    by_cases hlt : n < m
    · rw [ilt_iff.2 hlt, if_pos hlt]; rfl
    · have : ilt n m = false := by rw [← Bool.not_eq_true, ilt_iff]; exact hlt
      rw [this, if_neg hlt]; rfl
  rw [this]
  refine left_same h (rep_i ?_)
  split
  · exact r2
  · exact r1
theorem max_ok {t : Array TypeId} {ty : TypeId} {u v r : A} {a b : Value} (h : OSim T c e of) (hr : minA true u v = some r) (hu : Rep T e u a) (hv : Rep T e v b) {ro : List Nat} :
    Does P (do pure (.value (← Builtin.max_ t ty #[a, b]))) e.w (Left T c e of ⟨r, [], ro, []⟩) := by
  unfold minA at hr
  split at hr <;> try (cases hr; done)
  split at hr <;> try (cases hr; done)
  rename_i hk
  have := kbeq_eq hk; subst this
  injection hr with hr; subst hr
  have r1 := rep_i_rng hu
  have r2 := rep_i_rng hv
  rw [rep_i_inv hu, rep_i_inv hv]
  rename_i k m n
  refine does_value (x := .int k (if m < n then n else m)) (w' := e.w) (by simp [Builtin.max_, Builtin.max2]) ?_
  have : (bif (bif true then ilt m n else ilt n m) then n else m) = if m < n then n else m := by
    simp only [cond_true]
    by_cases hlt : m < n
    · rw [ilt_iff.2 hlt, if_pos hlt]; rfl
    · have : ilt m n = false := by rw [← Bool.not_eq_true, ilt_iff]; exact hlt
      rw [this, if_neg hlt]; rfl
  rw [this]
  refine left_same h (rep_i ?_)
  split
  · exact r2
  · exact r1
def inRb (k : IntKind) (n : Int) : Bool := ile (lo k) n && ile n (hi k)
theorem inRb_iff {k : IntKind} {n : Int} (h : inRb k n = true) : inR k n := by
  simp only [inRb, Bool.and_eq_true, ile_iff] at h; exact h
def chk (k : IntKind) (n : Int) : Option A := if inRb k n then some (.i k n) else none
theorem chk_spec {k : IntKind} {n : Int} {r : A} (h : chk k n = some r) : r = .i k n ∧ inR k n := by
  unfold chk at h
  split at h
  · rename_i hc; injection h with h; exact ⟨h.symm, inRb_iff hc⟩
  · cases h
def unA (op : UnOp) (u : A) : Option A :=
  match op, u with
  | .neg, .i k n => some (.i k (k.wrap (0 - n)))
  | .xor, .i k n => chk k (bitsOf .xor k (if k.signed then -1 else k.max) n)
  | .not, .b q => some (.b !q)
  | _, _ => none
theorem unA_ok {op : UnOp} {u r : A} {x : Value} (h : OSim T c e of) (hr : unA op u = some r) (hx : Rep T e u x) {ro : List Nat} :
    Does P (do pure (.value (← Op.unary op x))) e.w (Left T c e of ⟨r, [], ro, []⟩) := by
  unfold unA at hr
  split at hr
  · injection hr with hr; subst hr
    rw [rep_i_inv hx]
    exact does_value (by simp [Op.unary, Op.intArith]) (left_same h (rep_i (wrap_inR _ _)))
  · obtain ⟨rfl, hrg⟩ := chk_spec hr
    rw [rep_i_inv hx]
    exact does_value (by simp [Op.unary]; exact run_intBits _ _ _ _ _ (by simp)) (left_same h (rep_i hrg))
  · injection hr with hr; subst hr
    rw [rep_b_inv hx]
    exact does_value (by simp [Op.unary]) (left_same h (rep_b _))
  · cases hr
def tupA (i : Nat) (u : A) : Option A :=
  match u with
  | .t l => match l[i]? with
    | some (.t _) => none
    | r => r
  | _ => none
theorem tupA_ok {i : Nat} {u r : A} {x : Value} (h : OSim T c e of) (hr : tupA i u = some r) (hx : Rep T e u x) {ro : List Nat} :
    Does P (do pure (.value (← Instr.extract x i))) e.w (Left T c e of ⟨r, [], ro, []⟩) := by
  unfold tupA at hr
  split at hr <;> try (cases hr; done)
  rename_i l
  split at hr
  · cases hr
  · rename_i hne
    obtain ⟨xs, rfl, hs, hall⟩ := hx
    obtain ⟨hi, -⟩ := List.getElem?_eq_some_iff.1 hr
    have hxi : xs[i]? = some xs[i] := Array.getElem?_eq_getElem (by omega)
    refine does_value (x := xs[i]) (w' := e.w) (by simp [Instr.extract, hxi]) (left_same h ?_)
    have := hall i r xs[i] hr hxi
    cases r with
    | t l => exact absurd hr (hne l)
    | _ => exact this
end Go.Vm

namespace Go.Vm
open Go.RowKit
variable {P : Program} {T : TT} {c : Ctx} {e : Env} {of : Nat → Option Ob}
def chkA (of : Nat → Option Ob) (u : A) : Option (List Nat) :=
  match u with
  | .p _ _ _ => some []
  | .c _ _ => some []
  | .f _ _ => some []
  | .e id ver _ _ _ => if curR of id ver then some [id] else none
  | _ => none
theorem rep_f_inv {fn : Nat} {cap : List A} {x : Value} (h : Rep T e (.f fn cap) x) : ∃ vs, x = .func (.func fn) #[] vs.toArray ∧ RA T e cap vs := by
  have h : RA T e [.f fn cap] [x] := h
  cases h with
  | f h1 _ => exact ⟨_, rfl, h1⟩
  | r h1 _ _ => exact h1.elim
theorem chkA_ok {of' : Nat → Option Ob} {u : A} {ρ : Operand → Value} {o : Oper} {y : Operand} {ro : List Nat} (hop : o.op = .nilCheck y) (h : OSim T c e of') (hr : chkA of u = some ro) (ho : ∀ id ∈ ro, of' id = of id) (hx : Rep T e u (ρ y)) :
    Does P (execOp ρ o) e.w (Left T c e of' ⟨u, [], ro, []⟩) := by
  have key : (∃ a, ρ y = .pointer (some a)) → Does P (execOp ρ o) e.w (Left T c e of' ⟨u, [], ro, []⟩) := fun ⟨a, ha⟩ => by
    have : execOp ρ o = pure (.value (ρ y)) := by simp [execOp, hop, ha]
    rw [this]
    exact .inl ⟨ρ y, e.w, by simp, left_same h hx⟩
  unfold chkA at hr
  split at hr <;> try (cases hr; done)
  · obtain ⟨b, off, _, _, _, _, hv⟩ := rep_p_inv hx
    exact key ⟨_, hv⟩
  · obtain ⟨a, ds, hv, _⟩ := rep_c_inv hx
    exact key ⟨_, hv⟩
  · obtain ⟨vs, hv, _⟩ := rep_f_inv hx
    have : execOp ρ o = pure (.value (ρ y)) := by simp [execOp, hop, hv]
    rw [this]
    exact .inl ⟨ρ y, e.w, by simp, left_same h hx⟩
  · split at hr <;> try (cases hr; done)
    rename_i hc
    injection hr with hr; subst hr
    obtain ⟨b, o', off, _, _, _, hv⟩ := rep_e_inv hx (curR_spec h hc (ho _ (by simp)))
    exact key ⟨_, hv⟩
theorem share_row_w (h : OSim T c e of) {id el ver : Nat} {xs : List V} {sh : Bool} (ho : of id = some (.row el ver xs false sh)) {off n : Nat} {x : Value} (hn : off + n ≤ xs.length) (hx : Rep T e (.w id ver off n) x) (h0 : 0 < n) :
    ∃ (e' : Env) (a : Addr) (cap : Nat) (ds : List Value), e'.w = e.w ∧ OSim T c e' (upd of id (some (.row el ver xs false true))) ∧ e.le e' ∧ (∀ j, e'.U j → e.U j) ∧ x = .slice (some a) n cap ∧ n ≤ cap ∧ Fz e' a ds ∧ RV T e' (List.replicate n el) ((xs.drop off).take n) ds := by
  obtain ⟨v0, v1, v2, v3, v4, v5, h6⟩ := row_ok h ho
  rcases h6 with ⟨hf, g1, rfl⟩ | ⟨_, b, o, cs, ty, fz, pre, ys, post, h1, h2, h3, h4, h5, h6, h7, h8⟩
  · cases hf
  · have hok : OK T (e.share b o (o + ys.length)) id (.row el ver xs false true) :=
      ⟨v0, v1, v2, v3, v4, v5, .inr ⟨rfl, b, o, cs, ty, fz, pre, ys, post, h1, h2, h3, h4, h5, h6.mono (le_share _ _ _ _), fun i hi hs => hs.elim (h7 i hi) (fun ⟨_, _, hlt⟩ => by omega), fun hh => by cases hh⟩⟩
    obtain ⟨b', o', cap, k, k1, k2, k3, k4, k5, rfl⟩ := rep_w_inv hx v2
    rw [h1] at k1; cases k1
    rw [v3] at k4 k5
    obtain ⟨as, bs, zs, rfl, q1, q2, q3, q4⟩ := take_drop_cells h6 hn
    refine ⟨e.share b o (o + (as ++ (bs ++ zs)).length), ⟨b, k, none⟩, cap, bs, rfl, share_turn h ho h1 hok, le_share _ _ _ _, fun _ hu => hu, rfl, k2, ⟨fun _ => rfl, fun j y hj => ?_⟩, q3.mono (le_share _ _ _ _)⟩
    have hjl := (List.getElem?_eq_some_iff.1 hj).1
    have hkk := k5 (by omega)
    refine ⟨?_, .inr ⟨rfl, by show o ≤ k + j; omega, by show k + j < _; simp only [List.length_append]; omega⟩⟩
    show e.w.cell? _ = _
    rw [add_none, cell_heap h2, h4, hkk]
    have e1 : pre ++ (as ++ (bs ++ zs)) ++ post = (pre ++ as) ++ (bs ++ (zs ++ post)) := by simp
    rw [e1, show o + off * szT T el + j = (pre ++ as).length + j by simp only [List.length_append]; omega]
    exact mid_get hj
theorem share_box_a (h : OSim T c e of) {id t : Nat} {a : A} {sh : Bool} (ho : of id = some (.box t a sh)) {t1 : Nat} {path : List Nat} {n el lo m : Nat} {x : Value} {y : V} (hat : atA T a path = some (.v t1 y)) (hk : kOf T t1 = some (.arr n el)) (hx : Rep T e (.a id t1 path lo m) x) (h0 : 0 < m) :
    ∃ (e' : Env) (ad : Addr) (cap : Nat) (ds : List Value), e'.w = e.w ∧ OSim T c e' (upd of id (some (.box t a true))) ∧ e.le e' ∧ (∀ j, e'.U j → e.U j) ∧ x = .slice (some ad) m cap ∧ m ≤ cap ∧ Fz e' ad ds ∧ RV T e' (List.replicate m el) ((y.els.drop lo).take m) ds := by
  obtain ⟨u1, u2, u3, u4, b, cs, ty, fz, g1, g2, g3, g4, g5, g6⟩ := box_cells h ho
  have hok : OK T (e.share b 0 cs.size) id (.box t a true) := ⟨u1, u2, u3, u4, b, cs, ty, fz, g1, g2, g3, g4, g5.mono (le_share _ _ _ _), fun hh => by cases hh⟩
  have hlen : cs.toList.length = cs.size := Array.length_toList ..
  obtain ⟨b', off, n', el', k, cap, _, _, k1, k2, k3, k4, k5, k6, rfl⟩ := rep_a_inv hx
  rw [g1] at k1; cases k1
  rw [hk] at k3; cases k3
  rw [u3] at k2
  obtain ⟨pre, d, post, q1, q2, q3, q4, q5⟩ := atA_spec path g5 u4 k2 hat
  obtain ⟨as, bs, zs, rfl, r1, r2, r3⟩ := arr_cells q4.v_inv hk k4
  refine ⟨e.share b 0 cs.size, ⟨b, k, none⟩, cap, bs, rfl, share_turn h ho g1 hok, le_share _ _ _ _, fun _ hu => hu, rfl, k5, ⟨fun _ => rfl, fun j z hj => ?_⟩, r3.mono (le_share _ _ _ _)⟩
  have hkk := k6 (by omega)
  have hcell : cs.toList[k + j]? = some z := by
    rw [q1, hkk]
    have e1 : pre ++ ((as ++ (bs ++ zs)) ++ post) = (pre ++ as) ++ (bs ++ (zs ++ post)) := by simp
    rw [e1, show off + lo * szT T el + j = (pre ++ as).length + j by simp only [List.length_append]; omega]
    exact mid_get hj
  refine ⟨?_, .inr ⟨rfl, Nat.zero_le _, ?_⟩⟩
  · show e.w.cell? _ = _
    rw [add_none, cell_heap g2, hcell]
  · have := (List.getElem?_eq_some_iff.1 hcell).1
    rwa [Array.length_toList] at this
theorem Fz.take {a : Addr} {bs zs : List Value} (h : Fz e a (bs ++ zs)) : Fz e a bs := by
  refine ⟨fun hn => h.1 (by simp [hn]), fun j y hj => h.2 j y ?_⟩
  rw [List.getElem?_append_left (List.getElem?_eq_some_iff.1 hj).1]; exact hj
theorem arr_of {t n el m : Nat} {ys : List V} {ds : List Value} {a : Addr} (hk : kOf T t = some (.arr n el)) (hz : szT T t = n * szT T el) (hm : n ≤ m) (hf : Fz e a ds) (hr : RV T e (List.replicate m el) ys ds) : Rep T e (.c t (.l (ys.take n))) (.pointer (some a)) := by
  obtain ⟨as, bs, rfl, q2, q3, q4⟩ := hr.split_at n hm
  have := RV.arr hk (by rw [q2, hz]) q3 .nil
  rw [List.append_nil] at this
  exact RA.c this hf.take .nil
def arrA (T : TT) (of : Nat → Option Ob) (t : Nat) (u : A) : Option (A × List (Nat × Ob) × List Nat) :=
  match kOf T t with
  | some (.arr n el) => if Nat.blt 0 n && Nat.beq (szT T t) (n * szT T el) then
      match u with
      | .v t' y => match kOf T t' with
        | some (.slice el') => if Nat.beq el el' && Nat.ble n y.els.length then some (.c t (.l (y.els.take n)), [], []) else none
        | _ => none
      | .w id ver off m => match of id with
        | some (.row el' v xs false _) => if Nat.beq el el' && Nat.beq v ver && Nat.ble n m && Nat.ble (off + m) xs.length then some (.c t (.l (((xs.drop off).take m).take n)), [(id, .row el' ver xs false true)], [id]) else none
        | _ => none
      | .o id ver => match of id with
        | some (.row el' v xs false _) => if Nat.beq el el' && Nat.beq v ver && Nat.ble n xs.length then some (.c t (.l (xs.take n)), [(id, .row el' ver xs false true)], [id]) else none
        | _ => none
      | .a id t1 path lo m => match kOf T t1, of id with
        | some (.arr _ el'), some (.box t0 a _) => match atA T a path with
          | some (.v t2 y) => if Nat.beq el el' && Nat.beq t1 t2 && Nat.ble n m then some (.c t (.l (((y.els.drop lo).take m).take n)), [(id, .box t0 a true)], [id]) else none
          | _ => none
        | _, _ => none
      | _ => none
    else none
  | _ => none
theorem arrA_ok (hT : TOK T P) {of' : Nat → Option Ob} {t : Nat} {u r : A} {x : Value} {wo : List (Nat × Ob)} {ro : List Nat} (h : OSim T c e of') (hr : arrA T of t u = some (r, wo, ro)) (ho : ∀ id ∈ ro, of' id = of id) (hx : Rep T e u x) :
    Does P (do pure (.value (← Instr.arrayAt t x))) e.w (Left T c e of' ⟨r, wo, ro, []⟩) := by
  unfold arrA at hr
  split at hr <;> try (cases hr; done)
  rename_i n el hk
  obtain ⟨te, h1, h2⟩ := kOf_some hk
  have hu := under_arr (hT _ _ h1) h2
  split at hr <;> try (cases hr; done)
  rename_i hc
  simp only [Bool.and_eq_true] at hc
  have h0 : 0 < n := by simpa [Nat.blt_eq] using hc.1
  have hz := Nat.eq_of_beq_eq_true hc.2
  have key : ∀ {a : Addr} {m cap : Nat}, x = .slice (some a) m cap → n ≤ m → (Instr.arrayAt t x).run P e.w = .ok (.pointer (some a)) e.w := fun {a m cap} hx hm => by
    subst hx
    simp [Instr.arrayAt, run_under hu, show ¬ m < n by omega]
  have fin : ∀ {id : Nat} {o : Ob} {m : Nat} {ys : List V}, n ≤ m → (∃ (e' : Env) (a : Addr) (cap : Nat) (ds : List Value), e'.w = e.w ∧ OSim T c e' (upd of' id (some o)) ∧ e.le e' ∧ (∀ j, e'.U j → e.U j) ∧ x = .slice (some a) m cap ∧ m ≤ cap ∧ Fz e' a ds ∧ RV T e' (List.replicate m el) ys ds) →
      Does P (do pure (.value (← Instr.arrayAt t x))) e.w (Left T c e of' ⟨.c t (.l (ys.take n)), [(id, o)], [id], []⟩) := by
    rintro id o m ys hm ⟨e', a, cap, ds, p1, p2, p3, p4, p5, p6, p7, p8⟩
    exact does_value (key p5 hm) ⟨e', p1, p2, p3, fun j hj => .inl (p4 j hj), arr_of hk hz hm p7 p8⟩
  split at hr
  · rename_i t' y
    split at hr <;> try (cases hr; done)
    rename_i el' hk'
    split at hr <;> try (cases hr; done)
    rename_i hc2
    simp only [Bool.and_eq_true] at hc2
    have := Nat.eq_of_beq_eq_true hc2.1; subst this
    have hm := Nat.le_of_ble_eq_true hc2.2
    injection hr with hr; injection hr with e1 e2; injection e2 with e2 e3; subst e1; subst e2; subst e3
    rcases (rv_single hx ⟨_, hk', rfl⟩).slice_inv hk' with ⟨rfl, hv⟩ | ⟨ys, ds, a, cap, rfl, hv, q1, q2, q3⟩
    · simp [V.els] at hm; omega
    · injection hv with hv
      exact does_value (key hv hm) (left_same h (arr_of hk hz hm q2 q3))
  · rename_i id ver off m
    split at hr <;> try (cases hr; done)
    rename_i el' v xs sh hof
    split at hr <;> try (cases hr; done)
    rename_i hc2
    simp only [Bool.and_eq_true] at hc2
    obtain ⟨⟨⟨c1, c2⟩, c3⟩, c4⟩ := hc2
    have := Nat.eq_of_beq_eq_true c1; subst this
    have := Nat.eq_of_beq_eq_true c2; subst this
    have hm := Nat.le_of_ble_eq_true c3
    injection hr with hr; injection hr with e1 e2; injection e2 with e2 e3; subst e1; subst e2; subst e3
    exact fin hm (share_row_w h ((ho id (by simp)).trans hof) (Nat.le_of_ble_eq_true c4) hx (by omega))
  · rename_i id ver
    split at hr <;> try (cases hr; done)
    rename_i el' v xs sh hof
    split at hr <;> try (cases hr; done)
    rename_i hc2
    simp only [Bool.and_eq_true] at hc2
    obtain ⟨⟨c1, c2⟩, c3⟩ := hc2
    have := Nat.eq_of_beq_eq_true c1; subst this
    have := Nat.eq_of_beq_eq_true c2; subst this
    have hm := Nat.le_of_ble_eq_true c3
    injection hr with hr; injection hr with e1 e2; injection e2 with e2 e3; subst e1; subst e2; subst e3
    have hof' := (ho id (by simp)).trans hof
    obtain ⟨v0, v1, v2, v3, v4, v5, h6⟩ := row_ok h hof'
    have hι : e.ι id ≠ none := by
      rcases h6 with ⟨hf, _⟩ | ⟨_, b, o, _, _, _, _, _, _, g, _⟩
      · cases hf
      · rw [g]; intro q; cases q
    have := fin (m := xs.length) hm (share_row_w h hof' (off := 0) (by omega) (by rw [← v4]; exact o_as_w hx v2 v1 hι v0) (by omega))
    simpa using this
  · rename_i id t1 path l0 m
    split at hr <;> try (cases hr; done)
    rename_i n1 el' t0 a sh hk1 hof
    split at hr <;> try (cases hr; done)
    rename_i t2 y hat
    split at hr <;> try (cases hr; done)
    rename_i hc2
    simp only [Bool.and_eq_true] at hc2
    obtain ⟨⟨c1, c2⟩, c3⟩ := hc2
    have := Nat.eq_of_beq_eq_true c1; subst this
    have := Nat.eq_of_beq_eq_true c2; subst this
    have hm := Nat.le_of_ble_eq_true c3
    injection hr with hr; injection hr with e1 e2; injection e2 with e2 e3; subst e1; subst e2; subst e3
    exact fin hm (share_box_a h ((ho id (by simp)).trans hof) hat hk1 hx (by omega))
  · cases hr
end Go.Vm

namespace Go.Vm
open Go.RowKit
variable {P : Program} {T : TT} {c : Ctx} {e : Env} {of : Nat → Option Ob}
def bounds (n : Nat) (lo hi : Option A) : Option (Nat × Nat) :=
  match bnd (0 : Nat) lo, bnd n hi with
  | some l, some h => if ile 0 l && ile l h && ile h n then some (l.toNat, (h - l).toNat) else none
  | _, _ => none
theorem bounds_spec {n a m : Nat} {lo hi : Option A} (h : bounds n lo hi = some (a, m)) : ∃ l hh : Int, bnd (0 : Nat) lo = some l ∧ bnd n hi = some hh ∧ 0 ≤ l ∧ l ≤ hh ∧ hh ≤ n ∧ a = l.toNat ∧ m = (hh - l).toNat := by
  unfold bounds at h
  split at h <;> try (cases h; done)
  rename_i l hh h1 h2
  split at h <;> try (cases h; done)
  rename_i hc
  simp only [Bool.and_eq_true, ile_iff] at hc
  injection h with h; injection h with e1 e2
  exact ⟨l, hh, h1, h2, hc.1.1, hc.1.2, hc.2, e1.symm, e2.symm⟩
def zV (T : TT) (t : Nat) (u : A) : A :=
  match u with
  | .z v => if nilS v && scal T t then .v t .n else .z v
  | .q t' y => .v t' y
  | u => u
theorem nil_rep {t el : Nat} (hk : kOf T t = some (.slice el)) (hz : szT T t = 1) : Rep T e (.v t .n) (.slice none 0 0) := by
  refine ⟨.nils hk hz .nil, ⟨fun ⟨k, h1, h2⟩ => ?_, fun ⟨cs, h⟩ => by cases h⟩⟩
  rw [hk] at h1; cases h1; cases h2
theorem sl_rep {t el : Nat} {y : V} {v : Value} (hk : kOf T t = some (.slice el)) (h : RV T e [t] [y] [v]) (ho : one v = true) : Rep T e (.v t y) v := by
  refine ⟨by rw [cells_one ho]; exact h, ⟨fun ⟨k, h1, h2⟩ => ?_, fun ⟨cs, h⟩ => by subst h; cases ho⟩⟩
  rw [hk] at h1; cases h1; cases h2
theorem zV_ok {t el : Nat} {u : A} {x : Value} (hk : kOf T t = some (.slice el)) (hx : Rep T e u x) (hq : ∀ t' y, u = .q t' y → ∃ el', kOf T t' = some (.slice el')) : Rep T e (zV T t u) x := by
  unfold zV
  split
  · rename_i v
    split
    · rename_i hc
      simp only [Bool.and_eq_true] at hc
      have hx : RA T e [.z v] [x] := hx
      cases hx with
      | z _ _ => rw [nilS_eq hc.1]; exact nil_rep hk (scal_size hc.2)
      | r g1 _ _ => exact g1.elim
    · exact hx
  · rename_i t' y
    obtain ⟨el', hk'⟩ := hq _ _ rfl
    have hx : RA T e [.q t' y] [x] := hx
    cases hx with
    | q g1 _ => exact sl_rep hk' g1 rfl
    | r g1 _ _ => exact g1.elim
  · exact hx
def isQ (T : TT) (u : A) : Bool :=
  match u with
  | .q t _ => match kOf T t with
    | some (.slice _) => true
    | _ => false
  | _ => true
theorem isQ_spec {u : A} (h : isQ T u = true) : ∀ t' y, u = .q t' y → ∃ el', kOf T t' = some (.slice el') := by
  rintro t' y rfl
  simp only [isQ] at h
  split at h
  · exact ⟨_, by assumption⟩
  · cases h
def sliceA (T : TT) (of : Nat → Option Ob) (t : Nat) (u : A) (lo hi mx : Option A) : Option (A × List (Nat × Ob) × List Nat) :=
  match kOf T t with
  | some .str => match u, mx with
    | .s l, none => match bounds l.length lo hi with
      | some (a, m) => some (.s ((l.drop a).take m), [], [])
      | none => none
    | _, _ => none
  | some (.slice el) => if (T el).isSome && isQ T u then
      match mx with
      | none => match zV T t u with
        | .v t' y => if same T t t' then (match bounds y.els.length lo hi with
          | some (a, m) => some (.v t' (subV y a m), [], [])
          | none => none) else none
        | .w id ver off n => match of id with
          | some (.row el' v xs _ _) => if Nat.beq el el' && Nat.beq v ver then (match bounds n lo hi with
            | some (a, m) => some (.w id ver (off + a) m, [], [id])
            | none => none) else none
          | _ => none
        | .o id ver => match of id with
          | some (.row el' v xs false _) => if Nat.beq el el' && Nat.beq v ver then (match bounds xs.length lo hi with
            | some (a, m) => some (.w id ver (0 + a) m, [], [id])
            | none => none) else none
          | some (.row el' v xs true _) => if Nat.beq el el' && Nat.beq v ver && scal T t then (match bounds 0 lo hi with
            | some (a, m) => some (.v t (subV .n a m), [], [id])
            | none => none) else none
          | _ => none
        | .a id t1 path lo0 m => match kOf T t1 with
          | some (.arr _ el') => if Nat.beq el el' then (match bounds m lo hi with
            | some (a, k) => some (.a id t1 path (lo0 + a) k, [], [])
            | none => none) else none
          | _ => none
        | _ => none
      | some mx => match bnd (0 : Nat) lo, hi, mx with
        | some l, some (.i _ h), .i _ h' => if ieq h h' then (match toV T DEP of t u with
          | some (x, wo) => if ile 0 l && ile l h && ile h x.els.length then some (.q t (subV x l.toNat (h - l).toNat), wo, ids wo) else none
          | none => none) else none
        | _, _, _ => none
    else none
  | some (.arr n el) => match u, mx with
    | .p id t1 path, none => if same T t t1 && (T el).isSome then (match bounds n lo hi with
      | some (a, m) => some (.a id t1 path a m, [], [])
      | none => none) else none
    | _, _ => none
  | _ => none
theorem rep_one {t el : Nat} {u : A} {x : Value} (hk : kOf T t = some (.slice el)) {y : V} {wo : List (Nat × Ob)} {d : Nat} (ht : toV T d of t u = some (y, wo)) (h : OSim T c e of) (hx : Rep T e u x) : one x = true := by
  cases d with
  | zero => simp [toV] at ht
  | succ d =>
  have hone : RA T e [u] [x] → one x = true := fun h => RA.one_ h x (by simp)
  cases u with
  | v t' y' =>
    simp only [toV, asT] at ht
    split at ht <;> try (cases ht; done)
    rename_i b hb
    split at hb <;> try (cases hb; done)
    rename_i hs
    have hv := rv_single hx ⟨_, (same_spec hs).1.symm.trans hk, rfl⟩
    exact hv.one x (by simp)
  | g t' l =>
    simp only [toV] at ht
    split at ht <;> try (cases ht; done)
    rename_i hs
    have : chT T t' = none := by rw [← chT_same (same_spec hs).1]; simp [chT, hk]
    simp [this] at ht
  | t l => simp [toV, asT] at ht
  | x => simp [toV, asT] at ht
  | _ => exact hone hx
theorem sliceA_ok (hT : TOK T P) {of' : Nat → Option Ob} {t : Nat} {u r : A} {x : Value} {lo hi mx : Option A} {lo' hi' mx' : Option Value} {wo : List (Nat × Ob)} {ro : List Nat} (h : OSim T c e of') (hr : sliceA T of t u lo hi mx = some (r, wo, ro)) (ho : ∀ id ∈ ro, of' id = of id) (hx : Rep T e u x) (hlo : RepO T e lo lo') (hhi : RepO T e hi hi') (hmx : RepO T e mx mx') :
    Does P (do pure (.value (← Instr.sliceAt t x lo' hi' mx'))) e.w (Left T c e of' ⟨r, wo, ro, []⟩) := by
  unfold sliceA at hr
  split at hr
  · rename_i hk
    obtain ⟨te, h1, h2⟩ := kOf_some hk
    split at hr <;> try (cases hr; done)
    rename_i l
    split at hr <;> try (cases hr; done)
    rename_i a m hb
    injection hr with hr; injection hr with e1 e2; injection e2 with e2 e3; subst e1; subst e2; subst e3
    obtain ⟨l1, h1', b1, b2, b3, b4, b5, rfl, rfl⟩ := bounds_spec hb
    cases hmx
    exact law_slice_str h (under_str (hT _ _ h1) h2) hx hlo hhi b1 b2 b3 b4 b5
  · rename_i el hk
    obtain ⟨te, h1, h2⟩ := kOf_some hk
    have hu := under_slice (hT _ _ h1) h2
    split at hr <;> try (cases hr; done)
    rename_i hel
    simp only [Bool.and_eq_true] at hel
    obtain ⟨tel, hel'⟩ := Option.isSome_iff_exists.1 hel.1
    split at hr
    · cases hmx
      have hz := zV_ok hk hx (isQ_spec hel.2)
      generalize zV T t u = u' at hz hr
      split at hr <;> try (cases hr; done)
      · rename_i t' y
        split at hr <;> try (cases hr; done)
        rename_i hs
        split at hr <;> try (cases hr; done)
        rename_i a m hb
        injection hr with hr; injection hr with e1 e2; injection e2 with e2 e3; subst e1; subst e2; subst e3
        obtain ⟨l1, h1', b1, b2, b3, b4, b5, rfl, rfl⟩ := bounds_spec hb
        exact law_slice_v h hT hu hel' ((same_spec hs).1.symm.trans hk) hz hlo hhi b1 b2 b3 b4 b5
      · rename_i id ver off n
        split at hr <;> try (cases hr; done)
        rename_i el' v xs nl sh hof
        split at hr <;> try (cases hr; done)
        rename_i hc
        simp only [Bool.and_eq_true] at hc
        have := Nat.eq_of_beq_eq_true hc.1; subst this
        have := Nat.eq_of_beq_eq_true hc.2; subst this
        split at hr <;> try (cases hr; done)
        rename_i a m hb
        injection hr with hr; injection hr with e1 e2; injection e2 with e2 e3; subst e1; subst e2; subst e3
        obtain ⟨l1, h1', b1, b2, b3, b4, b5, rfl, rfl⟩ := bounds_spec hb
        exact law_slice_w h hT hu hel' ((ho id (by simp)).trans hof) hz hlo hhi b1 b2 b3 b4 b5
      · rename_i id ver
        split at hr <;> try (cases hr; done)
        · rename_i el' v xs sh hof
          split at hr <;> try (cases hr; done)
          rename_i hc
          simp only [Bool.and_eq_true] at hc
          have := Nat.eq_of_beq_eq_true hc.1; subst this
          have := Nat.eq_of_beq_eq_true hc.2; subst this
          split at hr <;> try (cases hr; done)
          rename_i a m hb
          injection hr with hr; injection hr with e1 e2; injection e2 with e2 e3; subst e1; subst e2; subst e3
          obtain ⟨l1, h1', b1, b2, b3, b4, b5, rfl, rfl⟩ := bounds_spec hb
          have hof' := (ho id (by simp)).trans hof
          obtain ⟨v0, v1, v2, v3, v4, v5, h6⟩ := row_ok h hof'
          have hι : e.ι id ≠ none := by
            rcases h6 with ⟨hf, _⟩ | ⟨_, b, o, _, _, _, _, _, _, g, _⟩
            · cases hf
            · rw [g]; intro q; cases q
          have hw := o_as_w hz v2 v1 hι v0
          rw [v4] at hw
          exact law_slice_w h hT hu hel' hof' hw hlo hhi b1 b2 b3 b4 b5
        · rename_i el' v xs sh hof
          split at hr <;> try (cases hr; done)
          rename_i hc
          simp only [Bool.and_eq_true] at hc
          have := Nat.eq_of_beq_eq_true hc.1.1; subst this
          have := Nat.eq_of_beq_eq_true hc.1.2; subst this
          split at hr <;> try (cases hr; done)
          rename_i a m hb
          injection hr with hr; injection hr with e1 e2; injection e2 with e2 e3; subst e1; subst e2; subst e3
          obtain ⟨l1, h1', b1, b2, b3, b4, b5, rfl, rfl⟩ := bounds_spec hb
          have hof' := (ho id (by simp)).trans hof
          obtain ⟨v0, v1, v2, v3, v4, v5, h6⟩ := row_ok h hof'
          have hxn : x = .slice none 0 0 := by
            rcases h6 with ⟨_, g1, rfl⟩ | ⟨hf, _⟩
            · rcases rep_o_inv hz v2 with ⟨_, _, hv⟩ | ⟨b, o, cap, k, k1, _⟩
              · exact hv
              · rw [g1] at k1; cases k1
            · cases hf
          rw [hxn]
          exact law_slice_v h hT hu hel' hk (nil_rep hk (scal_size hc.2)) hlo hhi b1 b2 b3 b4 b5
      · rename_i id t1 path lo0 m
        split at hr <;> try (cases hr; done)
        rename_i n1 el' hk1
        split at hr <;> try (cases hr; done)
        rename_i hc
        have := Nat.eq_of_beq_eq_true hc; subst this
        split at hr <;> try (cases hr; done)
        rename_i a k hb
        injection hr with hr; injection hr with e1 e2; injection e2 with e2 e3; subst e1; subst e2; subst e3
        obtain ⟨l1, h1', b1, b2, b3, b4, b5, rfl, rfl⟩ := bounds_spec hb
        exact law_slice_a h hT hu hel' hk1 hz hlo hhi b1 b2 b3 b4 b5
    · split at hr <;> try (cases hr; done)
      rename_i l0 k1 hh k2 hh' hl0
      split at hr <;> try (cases hr; done)
      rename_i he
      have := ieq_iff.1 he; subst this
      split at hr <;> try (cases hr; done)
      rename_i y wo' htv
      split at hr <;> try (cases hr; done)
      rename_i hc
      simp only [Bool.and_eq_true, ile_iff] at hc
      injection hr with hr; injection hr with e1 e2; injection e2 with e2 e3; subst e1; subst e2; subst e3
      cases hhi with | some hhi =>
      cases hmx with | some hmx =>
      have htv' := (toV_congr (T := T) DEP).1 of of' _ _ _ _ htv ho
      have := left_after (out := ⟨.q t (subV y l0.toNat (hh - l0).toNat), [], [], []⟩) (ro := ids wo') (toV_spec h htv' hx) (fun e1 hw h1 hle hU hq => law_slice3_v h1 hT hu hel' hk (sl_rep hk (by rwa [cells_one (rep_one hk htv' h hx)] at hq) (rep_one hk htv' h hx)) (hlo.mono hle) hl0 (hhi.mono hle) (hmx.mono hle) rfl rfl hc.1.1 hc.1.2 hc.2)
      simpa using this
  · rename_i n el hk
    obtain ⟨te, h1, h2⟩ := kOf_some hk
    have hu := under_arr (hT _ _ h1) h2
    split at hr <;> try (cases hr; done)
    rename_i id t1 path
    split at hr <;> try (cases hr; done)
    rename_i hc
    simp only [Bool.and_eq_true] at hc
    obtain ⟨tel, hel'⟩ := Option.isSome_iff_exists.1 hc.2
    split at hr <;> try (cases hr; done)
    rename_i a m hb
    injection hr with hr; injection hr with e1 e2; injection e2 with e2 e3; subst e1; subst e2; subst e3
    obtain ⟨l1, h1', b1, b2, b3, b4, b5, rfl, rfl⟩ := bounds_spec hb
    cases hmx
    exact law_slice_p h hT hu hel' ((same_spec hc.1).1.symm.trans hk) hx hlo hhi b1 b2 b3 b4 b5
  · cases hr
end Go.Vm

namespace Go.Vm
open Go.RowKit
variable {P : Program} {T : TT} {c : Ctx} {e : Env} {of : Nat → Option Ob}
def plainC : Value → Bool
  | .int _ _ | .bool _ | .string _ => true
  | _ => false
theorem eqT_kind {f t : Nat} (h : eqT T f t = true) : ∃ te, T t = some te ∧ ((∃ k, te.k = .int k) ∨ te.k = .bool ∨ te.k = .str ∨ (∃ n el f', te.k = .arr n el ∧ eqT T f' el = true) ∨ ∃ fs f', te.k = .struct fs ∧ ∀ t ∈ fs, eqT T f' t = true) := by
  cases f with
  | zero => simp [eqT] at h
  | succ f =>
    simp only [eqT] at h
    split at h <;> try (cases h; done)
    rename_i te hte
    refine ⟨te, hte, ?_⟩
    split at h
    · exact .inl ⟨_, by assumption⟩
    · exact .inr (.inl (by assumption))
    · exact .inr (.inr (.inl (by assumption)))
    · exact .inr (.inr (.inr (.inl ⟨_, _, f, by assumption, h⟩)))
    · simp only [Bool.and_eq_true, List.all_eq_true] at h
      exact .inr (.inr (.inr (.inr ⟨_, f, by assumption, h.2⟩)))
    · cases h
theorem RV.key {ts : List Nat} {xs : List V} {cs : List Value} (h : RV T e ts xs cs) : (∀ t ∈ ts, ∃ f, eqT T f t = true) → (∀ c ∈ cs, plainC c = true) ∧ ∀ cs', RV T e ts xs cs' → cs' = cs := by
  have no : ∀ {t : Nat} {k : TK} {ts : List Nat}, kOf T t = some k → (∀ u ∈ t :: ts, ∃ f, eqT T f u = true) → (∃ kd, k = .int kd) ∨ k = .bool ∨ k = .str ∨ (∃ n el, k = .arr n el ∧ ∃ f, eqT T f el = true) ∨ ∃ fs, k = .struct fs ∧ ∀ t ∈ fs, ∃ f, eqT T f t = true := by
    intro t k ts hk hall
    obtain ⟨f, hf⟩ := hall t (by simp)
    obtain ⟨te, hte, hh⟩ := eqT_kind hf
    rw [kOf_of hte] at hk
    injection hk with hk
    subst hk
    rcases hh with h | h | h | ⟨n, el, f', h1, h2⟩ | ⟨fs, f', h1, h2⟩
    · exact .inl h
    · exact .inr (.inl h)
    · exact .inr (.inr (.inl h))
    · exact .inr (.inr (.inr (.inl ⟨n, el, h1, f', h2⟩)))
    · exact .inr (.inr (.inr (.inr ⟨fs, h1, fun t ht => ⟨f', h2 t ht⟩⟩)))
  induction h with
  | nil => intro _; exact ⟨fun c hc => (by cases hc), fun cs' h => (by cases h; rfl)⟩
  | int h1 h2 hr _ ih =>
    intro hall
    obtain ⟨i1, i2⟩ := ih (fun t ht => hall t (by simp [ht]))
    refine ⟨fun c hc => ?_, fun cs' h' => ?_⟩
    · rcases List.mem_cons.1 hc with rfl | hc
      · rfl
      · exact i1 c hc
    · obtain ⟨d, r, rfl, q1, q2⟩ := h'.cons_inv
      obtain ⟨n, hn, rfl, _⟩ := q1.int_inv h1
      cases hn
      rw [i2 _ q2]; rfl
  | bool h1 h2 _ ih =>
    intro hall
    obtain ⟨i1, i2⟩ := ih (fun t ht => hall t (by simp [ht]))
    refine ⟨fun c hc => ?_, fun cs' h' => ?_⟩
    · rcases List.mem_cons.1 hc with rfl | hc
      · rfl
      · exact i1 c hc
    · obtain ⟨d, r, rfl, q1, q2⟩ := h'.cons_inv
      obtain ⟨n, hn, rfl⟩ := q1.bool_inv h1
      cases hn
      rw [i2 _ q2]; rfl
  | str h1 h2 _ ih =>
    intro hall
    obtain ⟨i1, i2⟩ := ih (fun t ht => hall t (by simp [ht]))
    refine ⟨fun c hc => ?_, fun cs' h' => ?_⟩
    · rcases List.mem_cons.1 hc with rfl | hc
      · rfl
      · exact i1 c hc
    · obtain ⟨d, r, rfl, q1, q2⟩ := h'.cons_inv
      obtain ⟨n, hn, rfl⟩ := q1.str_inv h1
      injection hn with hn
      rw [i2 _ q2, txt_inj hn]; rfl
  | arr h1 h2 _ _ ih1 ih2 =>
    intro hall
    rcases no h1 hall with ⟨_, h⟩ | h | h | ⟨n, el, h, hf⟩ | ⟨fs, h, _⟩ <;> cases h
    obtain ⟨a1, a2⟩ := ih1 (fun t ht => by rw [(List.mem_replicate.1 ht).2]; exact hf)
    obtain ⟨i1, i2⟩ := ih2 (fun t ht => hall t (by simp [ht]))
    refine ⟨fun c hc => (List.mem_append.1 hc).elim (a1 c) (i1 c), fun cs' h' => ?_⟩
    obtain ⟨d, r, rfl, q1, q2⟩ := h'.cons_inv
    obtain ⟨ys, hy, _, q3⟩ := q1.arr_inv h1
    cases hy
    rw [i2 _ q2, a2 _ q3]
  | struct h1 h2 _ _ ih1 ih2 =>
    intro hall
    rcases no h1 hall with ⟨_, h⟩ | h | h | ⟨n, el, h, hf⟩ | ⟨fs, h, hf⟩ <;> cases h
    obtain ⟨a1, a2⟩ := ih1 hf
    obtain ⟨i1, i2⟩ := ih2 (fun t ht => hall t (by simp [ht]))
    refine ⟨fun c hc => (List.mem_append.1 hc).elim (a1 c) (i1 c), fun cs' h' => ?_⟩
    obtain ⟨d, r, rfl, q1, q2⟩ := h'.cons_inv
    obtain ⟨ys, hy, q3⟩ := q1.struct_inv h1
    cases hy
    rw [i2 _ q2, a2 _ q3]
  | ptr h1 => intro hall; rcases no h1 hall with ⟨_, h⟩ | h | h | ⟨_, _, h, _⟩ | ⟨_, h, _⟩ <;> cases h
  | nils h1 => intro hall; rcases no h1 hall with ⟨_, h⟩ | h | h | ⟨_, _, h, _⟩ | ⟨_, h, _⟩ <;> cases h
  | map h1 => intro hall; rcases no h1 hall with ⟨_, h⟩ | h | h | ⟨_, _, h, _⟩ | ⟨_, h, _⟩ <;> cases h
  | func h1 => intro hall; rcases no h1 hall with ⟨_, h⟩ | h | h | ⟨_, _, h, _⟩ | ⟨_, h, _⟩ <;> cases h
  | fn h1 => intro hall; rcases no h1 hall with ⟨_, h⟩ | h | h | ⟨_, _, h, _⟩ | ⟨_, h, _⟩ <;> cases h
  | slice h1 => intro hall; rcases no h1 hall with ⟨_, h⟩ | h | h | ⟨_, _, h, _⟩ | ⟨_, h, _⟩ <;> cases h
theorem rep_key {f t : Nat} {x : V} {a : Value} (hf : eqT T f t = true) (h : Rep T e (.v t x) a) : (∀ c ∈ a.cells.toList, plainC c = true) ∧ ∀ b, Rep T e (.v t x) b → b = a := by
  have hall : ∀ u ∈ [t], ∃ f, eqT T f u = true := fun u hu => by simp only [List.mem_singleton] at hu; subst hu; exact ⟨f, hf⟩
  obtain ⟨h1, h2⟩ := h
  obtain ⟨k1, k2⟩ := h1.key hall
  refine ⟨k1, fun b hb => ?_⟩
  obtain ⟨g1, g2⟩ := hb
  have hc := k2 _ g1
  by_cases hk : ∃ k, kOf T t = some k ∧ k.agg = true
  · obtain ⟨cs, rfl⟩ := h2.1 hk
    obtain ⟨ds, rfl⟩ := g2.1 hk
    have : ds.toList = cs.toList := hc
    rw [Array.ext' this]
  · have ha : one a = true := by
      cases a <;> first | rfl | skip
      · exact absurd (h2.2 ⟨_, rfl⟩) hk
      · have := h1.one (.tuple _) (by show _ ∈ [_]; exact List.mem_singleton_self _); cases this
    have hb : one b = true := by
      cases b <;> first | rfl | skip
      · exact absurd (g2.2 ⟨_, rfl⟩) hk
      · have := g1.one (.tuple _) (by show _ ∈ [_]; exact List.mem_singleton_self _); cases this
    rw [cells_one ha, cells_one hb] at hc
    injection hc
theorem sameBits_key {a : Value} (h : ∀ c ∈ a.cells.toList, plainC c = true) (n : Nat) : Instr.sameBits (n + 1) a a = true := by
  have one' : ∀ (m : Nat) (c : Value), plainC c = true → Instr.sameBits m c c = true := fun m c hc => by
    cases c <;> simp [plainC] at hc <;> cases m <;> simp [Instr.sameBits] <;> exact (ba_beq _ _).2 rfl
  cases a with
  | agg cs =>
    simp only [Instr.sameBits, beq_self_eq_true, Bool.true_and, List.all_eq_true]
    rintro ⟨x, y⟩ hxy
    have : x = y ∧ x ∈ cs.toList := by
      have h1 := List.of_mem_zip hxy
      refine ⟨?_, h1.1⟩
      obtain ⟨i, hi, hget⟩ := List.mem_iff_getElem.1 hxy
      simp only [List.getElem_zip, Prod.mk.injEq] at hget
      rw [← hget.1, ← hget.2]
    obtain ⟨rfl, hm⟩ := this
    exact one' _ _ (h _ hm)
  | _ => exact one' _ _ (h _ (by simp [Value.cells]))
theorem run_stays {a : Value} (h : ∀ c ∈ a.cells.toList, plainC c = true) (w : World) : (Instr.keyThatStays a a).run P w = .ok a w := by
  simp [Instr.keyThatStays, sameBits_key h 9999]
theorem run_checkKey_V (hT : TOK T P) (em : Bool) (w : World) : ∀ (f : Nat) (t d : Nat) (x : V) (a : Value), eqT T f t = true → Rep T e (.v t x) a → (Instr.checkKey em (d + f) t a).run P w = .ok () w := by
  intro f
  induction f with
  | zero => intro t d x a h; simp [eqT] at h
  | succ f ih =>
    intro t d x a h ha
    have h0 := h
    simp only [eqT] at h
    split at h <;> try (cases h; done)
    rename_i te hte
    have hok := hT _ _ hte
    have hkk := kOf_of hte
    rw [show d + (f + 1) = (d + f) + 1 by omega, Instr.checkKey]
    split at h
    · rename_i k hk
      simp only [Sem.run_bind, run_under (under_int hok hk), Result.andThen_ok]
      simp
    · rename_i hk
      simp only [Sem.run_bind, run_under (under_bool hok hk), Result.andThen_ok]
      simp
    · rename_i hk
      simp only [Sem.run_bind, run_under (under_str hok hk), Result.andThen_ok]
      simp
    · rename_i n el hk
      rw [hk] at hkk
      obtain ⟨as, rfl, hra⟩ := rep_v_agg ha ⟨_, hkk, rfl⟩
      obtain ⟨xs, rfl, hxl, hxs⟩ := hra.arr_inv hkk
      obtain ⟨tel, hel, _⟩ := eqT_kind h
      obtain ⟨i, dd, z, h1, h2, h3, _⟩ := (hT _ _ hel).fits
      simp only [Sem.run_bind, run_under (under_arr hok hk), Result.andThen_ok]
      simp only [Std.Legacy.Range.forIn_eq_forIn_range', Std.Legacy.Range.size, Nat.sub_zero, Nat.add_one_sub_one, Nat.div_one]
      have key : ∀ (m k : Nat), k + m = n → (forIn (m := Sem) (List.range' k m) PUnit.unit (fun i r => do
          Instr.checkKey em (d + f) el (← part el as (i * (← sizeOf el)))
          pure (ForInStep.yield PUnit.unit))).run P w = .ok PUnit.unit w := by
        intro m
        induction m with
        | zero => intro k _; simp
        | succ m ihm =>
          intro k hkm
          have hg : (List.replicate n el)[k]? = some el := by rw [List.getElem?_replicate, if_pos (by omega)]
          obtain ⟨x', p1, d1, s1, e1, e2, e3, e4, e5⟩ := hxs.at hg
          rw [List.take_replicate, szs_replicate, Nat.min_eq_left (by omega), szT_of hel] at e3
          obtain ⟨u, r1, r2⟩ := run_part hT hel e2 e3 e5 w
          rw [List.range'_succ, List.forIn_cons]
          simp only [Sem.run_bind, run_size (hT _ _ hel), Result.andThen_ok, r1, ih el d x' u h r2, Sem.run_pure]
          exact ihm (k + 1) (by omega)
      have h5 := key n 0 (by omega)
      simp at h5 ⊢
      rw [h5]; rfl
    · rename_i fs hk
      simp only [Bool.and_eq_true, List.all_eq_true] at h
      rw [hk] at hkk
      obtain ⟨as, rfl, hra⟩ := rep_v_agg ha ⟨_, hkk, rfl⟩
      obtain ⟨xs, rfl, hxs⟩ := hra.struct_inv hkk
      obtain ⟨gs, g1, g2, g3⟩ := under_struct hok hk
      simp only [Sem.run_bind, run_under g1, Result.andThen_ok]
      rw [← Array.forIn_toList]
      have key : ∀ (L : List Field), (∀ g ∈ L, ∃ j : Nat, gs[j]? = some g) → (forIn (m := Sem) L PUnit.unit (fun f_1 r => do
          if f_1.name ≠ "_" then Instr.checkKey em (d + f) f_1.type (← part f_1.type as f_1.offset)
          pure (ForInStep.yield PUnit.unit))).run P w = .ok PUnit.unit w := by
        intro L
        induction L with
        | nil => intro _; simp
        | cons g L ihL =>
          intro hL
          obtain ⟨j, hj⟩ := hL g (by simp)
          have hft : fs[j]? = some g.type := by
            rw [← g2, List.getElem?_map, Array.getElem?_toList, hj]; rfl
          obtain ⟨x', p1, d1, s1, e1, e2, e3, e4, e5⟩ := hxs.at hft
          rw [← g3 _ _ hj] at e3
          obtain ⟨tg, htg, _⟩ := eqT_kind (h.2 _ (List.mem_of_getElem? hft))
          obtain ⟨u, r1, r2⟩ := run_part hT htg e2 e3 e5 w
          have hrest := ihL (fun g' hg' => hL g' (by simp [hg']))
          rw [List.forIn_cons]
          by_cases hnm : g.name ≠ "_"
          · simp only [hnm, ne_eq, not_false_eq_true, if_true, Sem.run_bind, Result.andThen_ok, r1, ih g.type d x' u (h.2 _ (List.mem_of_getElem? hft)) r2, Sem.run_pure]
            exact hrest
          · simp only [hnm, if_false, Sem.run_bind, Result.andThen_ok, Sem.run_pure]
            exact hrest
      have h5 := key gs.toList (fun g hg => by
        obtain ⟨j, hj⟩ := List.mem_iff_getElem?.1 hg
        exact ⟨j, by simpa using hj⟩)
      simp at h5 ⊢
      rw [h5]; rfl
    · cases h
end Go.Vm

namespace Go.Vm
open Go.RowKit
variable {P : Program} {T : TT} {c : Ctx} {e : Env} {of : Nat → Option Ob}
def FR (kv : V) (es : List (V × A)) (ms : List MapEntry) (i : Nat) : Option (Nat × Value) → Prop
  | none => ∀ p ∈ es, p.1 ≠ kv
  | some (k, v) => ∃ (j : Nat) (m : MapEntry) (a : A), k = i + j ∧ ms[j]? = some m ∧ es[j]? = some (kv, a) ∧ v = m.val
theorem FR.next {kv k' : V} {a : A} {m : MapEntry} {es : List (V × A)} {ms : List MapEntry} {i : Nat} {r : Option (Nat × Value)} (hne : k' ≠ kv) (h : FR kv es ms (i + 1) r) : FR kv ((k', a) :: es) (m :: ms) i r := by
  cases r with
  | none =>
    intro p hp
    rcases List.mem_cons.1 hp with rfl | hp
    · exact hne
    · exact h p hp
  | some q =>
    obtain ⟨k, v⟩ := q
    obtain ⟨j, m', a', h1, h2, h3, h4⟩ := h
    exact ⟨j + 1, m', a', by omega, by simpa using h2, by simpa using h3, h4⟩
theorem findNow_V {d : TypeDesc} {kt et : Nat} {kv : V} {key : Value} (hs : ∀ k' b, Rep T e (.v kt k') b → Instr.sameNow d key b = some (veq kv k')) : ∀ {es : List (V × A)} {ms : List MapEntry}, MR T e kt et es ms → ∀ i, ∃ r, Instr.findNow d key ms i = some r ∧ FR kv es ms i r := by
  intro es ms h
  induction h with
  | nil => intro i; exact ⟨none, rfl, fun p hp => by cases hp⟩
  | @cons k' a r m ms h1 h2 h3 _ ih =>
    intro i
    have hsn := hs k' m.key h1
    cases hb : veq kv k' with
    | true =>
      have := (veq_iff _ _).1 hb
      subst this
      exact ⟨some (i, m.val), by simp [Instr.findNow, hsn, hb], 0, m, a, rfl, rfl, rfl, rfl⟩
    | false =>
      have hne : k' ≠ kv := fun q => by rw [(veq_iff _ _).2 q.symm] at hb; cases hb
      obtain ⟨r', g1, g2⟩ := ih (i + 1)
      exact ⟨r', by simp [Instr.findNow, hsn, hb, g1], g2.next hne⟩
theorem findAsk_V (hT : TOK T P) {kt et : Nat} {kv : V} {key : Value} (hf : eqT T EQD kt = true) (hk : Rep T e (.v kt kv) key) (w : World) : ∀ {es : List (V × A)} {ms : List MapEntry}, MR T e kt et es ms → ∀ i, ∃ r, (Instr.findAsking kt key ms i).run P w = .ok r w ∧ FR kv es ms i r := by
  intro es ms h
  induction h with
  | nil => intro i; exact ⟨none, by simp [Instr.findAsking], fun p hp => by cases hp⟩
  | @cons k' a r m ms h1 h2 h3 _ ih =>
    intro i
    have hsn : (Op.equal kt key m.key).run P w = .ok (veq kv k') w := run_equal_V hT w EQD kt 9992 kv k' key m.key hf hk h1
    cases hb : veq kv k' with
    | true =>
      have := (veq_iff _ _).1 hb
      subst this
      rw [hb] at hsn
      refine ⟨some (i, m.val), ?_, 0, m, a, rfl, rfl, rfl, rfl⟩
      simp only [Instr.findAsking, Sem.run_bind, hsn, Result.andThen_ok, if_true, Sem.run_pure]
    | false =>
      have hne : k' ≠ kv := fun q => by rw [(veq_iff _ _).2 q.symm] at hb; cases hb
      rw [hb] at hsn
      obtain ⟨r', g1, g2⟩ := ih (i + 1)
      refine ⟨r', ?_, g2.next hne⟩
      simp only [Instr.findAsking, Sem.run_bind, hsn, Result.andThen_ok, Bool.false_eq_true, if_false]
      exact g1
theorem find_V (hT : TOK T P) {kt et : Nat} {kv : V} {key : Value} (hf : eqT T EQD kt = true) (hk : Rep T e (.v kt kv) key) (w : World) {es : List (V × A)} {ms : List MapEntry} (h : MR T e kt et es ms) : ∃ r, (Instr.findKey kt key ms).run P w = .ok r w ∧ FR kv es ms 0 r := by
  obtain ⟨te, hte, hh⟩ := eqT_kind hf
  have hok := hT _ _ hte
  have hkk := kOf_of hte
  have now : ∀ d, P.underlying kt = some d → (∀ k' b, Rep T e (.v kt k') b → Instr.sameNow d key b = some (veq kv k')) → ∃ r, (Instr.findKey kt key ms).run P w = .ok r w ∧ FR kv es ms 0 r := by
    intro d hd hs
    obtain ⟨r, g1, g2⟩ := findNow_V hs h 0
    exact ⟨r, by simp [Instr.findKey, run_under hd, g1], g2⟩
  have ask : ∀ d, P.underlying kt = some d → (∀ b, Instr.sameNow d key b = none) → ∃ r, (Instr.findKey kt key ms).run P w = .ok r w ∧ FR kv es ms 0 r := by
    intro d hd hs
    cases h with
    | nil => exact ⟨none, by simp [Instr.findKey, run_under hd, Instr.findNow], fun p hp => by cases hp⟩
    | cons h1 h2 h3 h4 =>
      obtain ⟨r, g1, g2⟩ := findAsk_V hT hf hk w (.cons h1 h2 h3 h4) 0
      refine ⟨r, ?_, g2⟩
      simp only [Instr.findKey, Sem.run_bind, run_under hd, Result.andThen_ok, Instr.findNow, hs]
      exact g1
  rcases hh with ⟨k, hk'⟩ | hk' | hk' | ⟨n, el, f', hk', _⟩ | ⟨fs, f', hk', _⟩
  · rw [hk'] at hkk
    refine now _ (under_int hok hk') (fun k' b hb => ?_)
    obtain ⟨m, rfl, hm, _⟩ := (rv_single hk ⟨_, hkk, rfl⟩).int_inv hkk
    obtain ⟨n, rfl, hn, _⟩ := (rv_single hb ⟨_, hkk, rfl⟩).int_inv hkk
    injection hm with hm; injection hn with hn
    subst hm; subst hn
    simp [Instr.sameNow, veq, ieq_beq]
  · rw [hk'] at hkk
    refine now _ (under_bool hok hk') (fun k' b hb => ?_)
    obtain ⟨m, rfl, hm⟩ := (rv_single hk ⟨_, hkk, rfl⟩).bool_inv hkk
    obtain ⟨n, rfl, hn⟩ := (rv_single hb ⟨_, hkk, rfl⟩).bool_inv hkk
    injection hm with hm; injection hn with hn
    subst hm; subst hn
    simp [Instr.sameNow, veq]
  · rw [hk'] at hkk
    refine now _ (under_str hok hk') (fun k' b hb => ?_)
    obtain ⟨m, rfl, hm⟩ := (rv_single hk ⟨_, hkk, rfl⟩).str_inv hkk
    obtain ⟨n, rfl, hn⟩ := (rv_single hb ⟨_, hkk, rfl⟩).str_inv hkk
    injection hm with hm; injection hn with hn
    subst hm; subst hn
    simp only [Instr.sameNow, Option.some.injEq]
    rw [Bool.eq_iff_iff]
    simp only [veq, veqL_iff, ba_beq]
    exact ⟨fun h => by rw [h], txt_inj⟩
  · refine ask _ (under_arr hok hk') (fun b => ?_)
    rw [hk'] at hkk
    obtain ⟨as, rfl, _⟩ := rep_v_agg hk ⟨_, hkk, rfl⟩
    rfl
  · obtain ⟨gs, g1, g2, g3⟩ := under_struct hok hk'
    refine ask _ g1 (fun b => ?_)
    rfl
def fndM (kv : V) : List (V × A) → Option A
  | [] => none
  | (k, a) :: r => bif veq k kv then some a else fndM kv r
def delM (kv : V) : List (V × A) → List (V × A)
  | [] => []
  | (k, a) :: r => bif veq k kv then delM kv r else (k, a) :: delM kv r
theorem delM_filter (kv : V) : ∀ es : List (V × A), delM kv es = es.filter fun p => !veq p.1 kv := by
  intro es
  induction es with
  | nil => rfl
  | cons p r ih =>
    obtain ⟨k, a⟩ := p
    simp only [delM, List.filter_cons]
    cases veq k kv
    · simp [ih]
    · simp [ih]
theorem fndM_some {kv : V} {a : A} : ∀ {es : List (V × A)}, (es.map (·.1)).Nodup → (fndM kv es = some a ↔ (kv, a) ∈ es) := by
  intro es
  induction es with
  | nil => intro _; simp [fndM]
  | cons p r ih =>
    intro hn
    obtain ⟨k, b⟩ := p
    simp only [List.map_cons, List.nodup_cons] at hn
    simp only [fndM, List.mem_cons, Prod.mk.injEq]
    cases hb : veq k kv with
    | true =>
      have := (veq_iff _ _).1 hb
      subst this
      simp only [cond_true, Option.some.injEq]
      constructor
      · intro h; exact .inl ⟨trivial, h.symm⟩
      · rintro (⟨_, h⟩ | h)
        · exact h.symm
        · exact absurd (List.mem_map.2 ⟨_, h, rfl⟩) hn.1
    | false =>
      have hne : k ≠ kv := fun q => by rw [(veq_iff _ _).2 q] at hb; cases hb
      simp only [cond_false]
      rw [ih hn.2]
      constructor
      · exact .inr
      · rintro (⟨h, _⟩ | h)
        · exact absurd h.symm hne
        · exact h
theorem fndM_none {kv : V} : ∀ {es : List (V × A)}, (fndM kv es = none ↔ ∀ p ∈ es, p.1 ≠ kv) := by
  intro es
  induction es with
  | nil => simp [fndM]
  | cons p r ih =>
    obtain ⟨k, b⟩ := p
    simp only [fndM, List.mem_cons, forall_eq_or_imp]
    cases hb : veq k kv with
    | true => have := (veq_iff _ _).1 hb; simp [this]
    | false =>
      have hne : k ≠ kv := fun q => by rw [(veq_iff _ _).2 q] at hb; cases hb
      simp only [cond_false, ih]
      exact ⟨fun h => ⟨hne, h⟩, fun h => h.2⟩
theorem FR.fnd {kv : V} {es es' : List (V × A)} {ms : List MapEntry} {r : Option (Nat × Value)} (hn : (es.map (·.1)).Nodup) (hp : es'.Perm es) (h : FR kv es' ms 0 r) :
    (r = none ∧ fndM kv es = none) ∨ ∃ i m a, r = some (i, m.val) ∧ ms[i]? = some m ∧ es'[i]? = some (kv, a) ∧ fndM kv es = some a := by
  cases r with
  | none => exact .inl ⟨rfl, fndM_none.2 (fun p hpm => h p (hp.mem_iff.2 hpm))⟩
  | some q =>
    obtain ⟨k, v⟩ := q
    obtain ⟨j, m, a, h1, h2, h3, h4⟩ := h
    rw [Nat.zero_add] at h1
    subst h1; subst h4
    exact .inr ⟨_, m, a, rfl, h2, h3, (fndM_some hn).2 (hp.mem_iff.1 (List.mem_of_getElem? h3))⟩
theorem MR.at {kt et : Nat} {es : List (V × A)} {ms : List MapEntry} (h : MR T e kt et es ms) : ∀ {i : Nat} {k : V} {a : A} {m : MapEntry}, es[i]? = some (k, a) → ms[i]? = some m → Rep1 T e (.v kt k) m.key ∧ Rep1 T e a m.val ∧ fitA T et a = true := by
  induction h with
  | nil => intro i k a m h; simp at h
  | cons h1 h2 h3 _ ih =>
    intro i k a m he hm
    cases i with
    | zero => simp at he hm; obtain ⟨rfl, rfl⟩ := he; subst hm; exact ⟨h1, h2, h3⟩
    | succ i => exact ih (by simpa using he) (by simpa using hm)
theorem MR.set {kt et : Nat} {es : List (V × A)} {ms : List MapEntry} (h : MR T e kt et es ms) : ∀ {i : Nat} {k : V} {a0 a : A} {m m' : MapEntry}, es[i]? = some (k, a0) → ms[i]? = some m → Rep1 T e (.v kt k) m'.key → Rep1 T e a m'.val → fitA T et a = true → MR T e kt et (es.set i (k, a)) (ms.set i m') := by
  induction h with
  | nil => intro i k a0 a m m' h; simp at h
  | cons h1 h2 h3 h4 ih =>
    intro i k a0 a m m' he hm g1 g2 g3
    cases i with
    | zero => simp at he hm; obtain ⟨rfl, rfl⟩ := he; subst hm; exact .cons g1 g2 g3 h4
    | succ i => exact .cons h1 h2 h3 (ih (by simpa using he) (by simpa using hm) g1 g2 g3)
theorem MR.push {kt et : Nat} {es : List (V × A)} {ms : List MapEntry} (h : MR T e kt et es ms) {k : V} {a : A} {m : MapEntry} (g1 : Rep1 T e (.v kt k) m.key) (g2 : Rep1 T e a m.val) (g3 : fitA T et a = true) : MR T e kt et (es ++ [(k, a)]) (ms ++ [m]) := by
  induction h with
  | nil => exact .cons g1 g2 g3 .nil
  | cons h1 h2 h3 _ ih => exact .cons h1 h2 h3 ih
theorem MR.erase {kt et : Nat} {es : List (V × A)} {ms : List MapEntry} (h : MR T e kt et es ms) : ∀ i, MR T e kt et (es.eraseIdx i) (ms.eraseIdx i) := by
  induction h with
  | nil => intro i; exact .nil
  | cons h1 h2 h3 h4 ih =>
    intro i
    cases i with
    | zero => exact h4
    | succ i => exact .cons h1 h2 h3 (ih i)
theorem filter_none {kv : V} {es : List (V × A)} (h : ∀ p ∈ es, p.1 ≠ kv) : (es.filter fun p => !veq p.1 kv) = es := by
  rw [List.filter_eq_self]
  intro p hp
  have : veq p.1 kv = false := by rw [← Bool.not_eq_true, veq_iff]; exact h p hp
  rw [this]; rfl
theorem filter_erase {kv : V} {a : A} : ∀ {es : List (V × A)} {i : Nat}, (es.map (·.1)).Nodup → es[i]? = some (kv, a) → (es.filter fun p => !veq p.1 kv) = es.eraseIdx i := by
  intro es
  induction es with
  | nil => intro i _ h; simp at h
  | cons p r ih =>
    intro i hn hi
    obtain ⟨k, b⟩ := p
    simp only [List.map_cons, List.nodup_cons] at hn
    cases i with
    | zero =>
      simp only [List.getElem?_cons_zero, Option.some.injEq, Prod.mk.injEq] at hi
      obtain ⟨rfl, rfl⟩ := hi
      rw [List.filter_cons_of_neg (by simp [veq_refl]), List.eraseIdx_cons_zero]
      exact filter_none (fun p hp q => hn.1 (by rw [← q]; exact List.mem_map.2 ⟨p, hp, rfl⟩))
    | succ i =>
      have hi' : r[i]? = some (kv, a) := by simpa using hi
      have hne : k ≠ kv := fun q => hn.1 (by rw [q]; exact List.mem_map.2 ⟨_, List.mem_of_getElem? hi', rfl⟩)
      have : veq k kv = false := by rw [← Bool.not_eq_true, veq_iff]; exact hne
      rw [List.filter_cons_of_pos (by simp [this]), List.eraseIdx_cons_succ, ih hn.2 hi']
theorem set_perm {kv : V} {a0 a : A} : ∀ {es : List (V × A)} {i : Nat}, es[i]? = some (kv, a0) → (es.set i (kv, a)).Perm ((kv, a) :: es.eraseIdx i) := by
  intro es
  induction es with
  | nil => intro i h; simp at h
  | cons p r ih =>
    intro i hi
    cases i with
    | zero => simp
    | succ i =>
      rw [List.set_cons_succ, List.eraseIdx_cons_succ]
      exact ((ih (by simpa using hi)).cons p).trans (List.Perm.swap _ _ _)
end Go.Vm

namespace Go.Vm
open Go.RowKit
variable {P : Program} {T : TT} {c : Ctx} {e : Env} {of : Nat → Option Ob}
theorem chT_agg {t : Nat} {ts : List Nat} (h : chT T t = some ts) : ∃ k, kOf T t = some k ∧ k.agg = true := by
  unfold chT at h
  split at h
  · exact ⟨_, by assumption, rfl⟩
  · exact ⟨_, by assumption, rfl⟩
  · cases h
theorem asT_rep {t : Nat} {te : TE} {u a : A} {x : Value} (hte : T t = some te) (hu : Rep T e u x) (ha : asT T t u = some a) : Rep T e a x := by
  obtain ⟨r1, r2⟩ := asT_spec hu ha
  have hkk := kOf_of hte
  have single : ∀ {y : Value}, RA T e [u] [x] → x.cells.toList = [y] → x = y := fun h hy => by
    rw [cells_one (RA.one_ h x (by simp))] at hy; injection hy
  have notagg : fitA T t u = true → (∀ t' y, u ≠ .v t' y) → (∀ t' l, u ≠ .g t' l) → te.k.agg = false := fun h h1 h2 => by
    have : scal T t = true → te.k.agg = false := fun hs => by
      simp only [scal, Bool.and_eq_true, hkk] at hs; simpa using hs.1
    cases u <;> simp only [fitA] at h <;> first | exact this h | (cases h; done) | exact absurd rfl (h1 _ _) | exact absurd rfl (h2 _ _) | skip
    all_goals
      cases hkt : te.k <;> rw [hkk, hkt] at h <;> first | rfl | (simp at h; done)
  rcases rep_load hte r1 r2 with ⟨hg, hr⟩ | ⟨hg, y, hy, hr⟩
  · cases u with
    | v t' y =>
      simp only [asT] at ha
      split at ha <;> try (cases ha; done)
      rename_i hs
      obtain ⟨cs, rfl⟩ := hu.2.1 ⟨te.k, by rw [← (same_spec hs).1, hkk], hg⟩
      simpa [Value.cells] using hr
    | g t' l =>
      obtain ⟨_, cs, rfl⟩ := hu
      simpa [Value.cells] using hr
    | z v =>
      exfalso
      simp only [asT] at ha
      split at ha <;> try (cases ha; done)
      all_goals (split at ha <;> try (cases ha; done))
      all_goals
        rename_i hs
        simp only [scal, Bool.and_eq_true, hkk] at hs
        rw [hg] at hs; simp at hs
    | t l => simp [asT] at ha
    | x => simp [asT] at ha
    | _ =>
      simp only [asT] at ha
      split at ha <;> try (cases ha; done)
      rename_i hs
      have := notagg hs (fun _ _ q => by cases q) (fun _ _ q => by cases q)
      rw [hg] at this; cases this
  · have hxy : x = y := by
      cases u with
      | v t' z =>
        simp only [asT] at ha
        split at ha <;> try (cases ha; done)
        rename_i hs
        have h1 := rv_single hu ⟨te.k, by rw [← (same_spec hs).1, hkk], hg⟩
        have := h1.one x (by simp)
        rw [cells_one this] at hy; injection hy
      | g t' l =>
        exfalso
        simp only [asT] at ha
        split at ha <;> try (cases ha; done)
        rename_i hs
        obtain ⟨h3, cs, rfl⟩ := hu
        have h3 : RA T e [.g t' l] (Value.agg cs).cells.toList := h3
        generalize (Value.agg cs).cells.toList = dd at h3
        cases h3 with
        | g g1 _ _ _ _ =>
          obtain ⟨k, h4, h5⟩ := chT_agg g1
          rw [← (same_spec hs).1, hkk] at h4
          injection h4 with h4; subst h4
          rw [hg] at h5; cases h5
        | r g1 _ _ => exact g1.elim
      | t l => simp [asT] at ha
      | x => simp [asT] at ha
      | _ => exact single hu hy
    rw [hxy]; exact hr
theorem rep1_fit {t : Nat} {a : A} {x : Value} (h : Rep T e a x) (hf : fitA T t a = true) : Rep1 T e a x := by
  cases a with
  | t l => simp [fitA] at hf
  | _ => exact h
theorem rep_fit {t : Nat} {a : A} {x : Value} (h : Rep1 T e a x) (hf : fitA T t a = true) : Rep T e a x := by
  cases a with
  | t l => simp [fitA] at hf
  | _ => exact h
theorem zero_rep (hT : TOK T P) {t : Nat} {te : TE} (hte : T t = some te) (hne : TK.notOther te.k = true) (w : World) : ∃ z, (zeroValue t).run P w = .ok z w ∧ ∀ e : Env, Rep T e (mkA T t te.zero) z := by
  obtain ⟨z, h1, h2, h3⟩ := run_zero (hT _ _ hte) w
  refine ⟨z, h1, fun e => ?_⟩
  have hv := (h2.resolve_right (notOther_ne hne)) e
  have : Rep T e (.v t te.zero) z := ⟨hv, ⟨fun ⟨k, hk, ha⟩ => h3.1 (by rw [kOf_of hte] at hk; injection hk with hk; rw [hk]; exact ha), fun hz => ⟨te.k, kOf_of hte, h3.2 hz⟩⟩⟩
  exact norm_rep hte this (fitA_v _ _)
def keyV (T : TT) (kt : Nat) (k : A) : Option V :=
  if eqT T EQD kt then (match asT T kt k with
    | some a => purV a
    | none => none) else none
theorem keyV_ok {kt : Nat} {k : A} {kv : V} {x : Value} (h : keyV T kt k = some kv) (hx : Rep T e k x) : eqT T EQD kt = true ∧ Rep T e (.v kt kv) x := by
  unfold keyV at h
  split at h <;> try (cases h; done)
  rename_i hf
  split at h <;> try (cases h; done)
  rename_i a ha
  obtain ⟨te, hte, _⟩ := eqT_kind hf
  exact ⟨hf, pur_rep hte hx ha h⟩
def isMapN (T : TT) (t : Nat) : A → Bool
  | .v t' .n => same T t t'
  | .z (.map none) => true
  | _ => false
theorem isMapN_ok {t kt et : Nat} {m : A} {x : Value} (hk : kOf T t = some (.map kt et)) (h : isMapN T t m = true) (hx : Rep T e m x) : x = .map none := by
  unfold isMapN at h
  split at h
  · rename_i t'
    have hk' := (same_spec h).1.symm.trans hk
    have := (rv_single hx ⟨_, hk', rfl⟩).map_inv hk'
    injection this.2
  · have hx : RA T e [.z (.map none)] [x] := hx
    cases hx with
    | z _ _ => rfl
    | r g1 _ _ => exact g1.elim
  · cases h
def okA (ok : Bool) (v : A) (b : Bool) : A := bif ok then .t [v, .b b] else v
def lookA (T : TT) (of : Nat → Option Ob) (t : Nat) (m k : A) (ok : Bool) : Option (A × List Nat) :=
  match kOf T t with
  | some (.map kt et) => match T et, keyV T kt k with
    | some te, some kv => if TK.notOther te.k then
        bif isMapN T t m then some (okA ok (mkA T et te.zero) false, []) else
        match m with
        | .m id => match of id with
          | some (.map kt' et' es) => if Nat.beq kt kt' && Nat.beq et et' then (match fndM kv es with
            | some a => some (okA ok (norm T a) true, [id])
            | none => some (okA ok (mkA T et te.zero) false, [id])) else none
          | _ => none
        | _ => none
      else none
    | _, _ => none
  | _ => none
theorem okA_rep {ok b : Bool} {v : A} {x : Value} (h : Rep T e v x) (hv : ∀ l, v ≠ .t l) : Rep T e (okA ok v b) (if ok then .tuple #[x, .bool b] else x) := by
  cases ok with
  | false => exact h
  | true =>
    refine ⟨#[x, .bool b], rfl, rfl, fun i u z hu hz => ?_⟩
    match i, hu, hz with
    | 0, hu, hz =>
      simp at hu hz; subst hu; subst hz
      cases v with
      | t l => exact absurd rfl (hv l)
      | _ => exact h
    | 1, hu, hz => simp at hu hz; subst hu; subst hz; exact rep_b b
    | i + 2, hu, hz => simp at hu
theorem mkA_not (t : Nat) (x : V) : ∀ l, mkA T t x ≠ .t l := by
  intro l h; unfold mkA at h; repeat' split at h
  all_goals cases h
theorem normA_not {t : Nat} {a : A} (h : fitA T t a = true) : ∀ l, norm T a ≠ .t l := by
  intro l hl
  cases a with
  | v t' y => exact mkA_not _ _ _ hl
  | t l' => simp [fitA] at h
  | _ => cases hl
theorem lookA_ok (hT : TOK T P) {of' : Nat → Option Ob} {t : Nat} {m k r : A} {x y : Value} {ok : Bool} {ro : List Nat} (h : OSim T c e of') (hr : lookA T of t m k ok = some (r, ro)) (ho : ∀ id ∈ ro, of' id = of id) (hx : Rep T e m x) (hy : Rep T e k y) :
    Does P (do pure (.value (← Instr.lookup t x y ok))) e.w (Left T c e of' ⟨r, [], ro, []⟩) := by
  unfold lookA at hr
  split at hr <;> try (cases hr; done)
  rename_i kt et hk
  obtain ⟨tem, h1, h2⟩ := kOf_some hk
  have hu := under_map (hT _ _ h1) h2
  split at hr <;> try (cases hr; done)
  rename_i te kv hte hkv
  obtain ⟨hf, hkey⟩ := keyV_ok hkv hy
  split at hr <;> try (cases hr; done)
  rename_i hne
  obtain ⟨z, hz1, hz2⟩ := zero_rep hT hte hne e.w
  have hck : ∀ em, (Instr.checkKey em 10000 kt y).run P e.w = .ok () e.w := fun em => run_checkKey_V hT em e.w EQD kt 9992 kv y hf hkey
  cases hmn : isMapN T t m with
  | true =>
    rw [hmn] at hr
    simp only [cond_true, Option.some.injEq, Prod.mk.injEq] at hr
    obtain ⟨rfl, rfl⟩ := hr
    have := isMapN_ok hk hmn hx
    subst this
    refine does_value (x := if ok then .tuple #[z, .bool false] else z) (w' := e.w) ?_ (left_same h (okA_rep (hz2 e) (mkA_not _ _)))
    have hfk : (Instr.findKey kt y []).run P e.w = .ok none e.w := by
      obtain ⟨r, g1, g2⟩ := find_V (et := et) hT hf hkey e.w .nil
      cases r with
      | none => exact g1
      | some q => obtain ⟨j, m, a, _, h3, _⟩ := g2; simp at h3
    simp [Instr.lookup, run_under hu, hck, hfk, hz1]
  | false =>
    rw [hmn] at hr
    simp only [cond_false] at hr
    split at hr <;> try (cases hr; done)
    rename_i id
    split at hr <;> try (cases hr; done)
    rename_i kt' et' es hof
    split at hr <;> try (cases hr; done)
    rename_i hc
    simp only [Bool.and_eq_true] at hc
    have := Nat.eq_of_beq_eq_true hc.1; subst this
    have := Nat.eq_of_beq_eq_true hc.2; subst this
    have hid : id ∈ ro := by
      split at hr <;> (injection hr with hr; injection hr with _ hr; rw [← hr]; simp)
    obtain ⟨v1, v2, b, ms, clock, v3, v4, v5, es', v6, v7⟩ := map_ok h ((ho id hid).trans hof)
    obtain ⟨b', u1, u2, u3, rfl⟩ := rep_m_inv hx
    rw [v3] at u3; cases u3
    obtain ⟨rr, g1, g2⟩ := find_V hT hf hkey e.w v7
    have hg : (getObj b).run P e.w = .ok (.map ms clock) e.w := MapKept.run_getObj_map v4
    rcases g2.fnd v5.1 v6 with ⟨rfl, hfn⟩ | ⟨i, me, a, rfl, hm1, hm2, hfn⟩
    · rw [hfn] at hr
      simp only [Option.some.injEq, Prod.mk.injEq] at hr
      obtain ⟨rfl, rfl⟩ := hr
      refine does_value (x := if ok then .tuple #[z, .bool false] else z) (w' := e.w) ?_ (left_same h (okA_rep (hz2 e) (mkA_not _ _)))
      simp [Instr.lookup, run_under hu, hg, hck, g1, hz1]
    · rw [hfn] at hr
      simp only [Option.some.injEq, Prod.mk.injEq] at hr
      obtain ⟨rfl, rfl⟩ := hr
      obtain ⟨q1, q2, q3⟩ := v7.at hm2 hm1
      refine does_value (x := if ok then .tuple #[me.val, .bool true] else me.val) (w' := e.w) ?_ (left_same h (okA_rep (norm_rep hte (rep_fit q2 q3) q3) (normA_not q3)))
      simp [Instr.lookup, run_under hu, hg, hck, g1]
end Go.Vm
end
