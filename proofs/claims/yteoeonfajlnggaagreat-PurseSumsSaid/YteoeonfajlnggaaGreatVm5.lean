/- What the operations of a program do, shown once for all programs; and numbers. -/
import Derived.Test.YteoeonfajlnggaaGreatVm4
set_option linter.constructorNameAsVariable false
set_option linter.unusedVariables false
set_option linter.unusedSimpArgs false
noncomputable section
namespace Go.Vm
open Go.RowKit
variable {P : Program} {T : TT} {c : Ctx} {e : Env} {of : Nat → Option Ob}
set_option linter.unusedVariables false
set_option linter.constructorNameAsVariable false

/-! ### Maps, made and changed -/
def Env.newM (e : Env) (id : Nat) (o : Go.Obj) : Env :=
  { w := e.w.alloc o, ι := upd e.ι id (some (e.w.heap.size, 0)), S := e.S, bn := upd e.bn id 0, U := fun j => j = id ∨ e.U j, ty := e.ty, ln := e.ln }
theorem OSim.le_newM (h : OSim T c e of) {id : Nat} (hu : ¬ e.U id) (o : Go.Obj) : e.le (e.newM id o) := by
  refine ⟨fun b i hs => ⟨hs, fun x hx => ?_⟩, fun _ hj => .inr hj, fun j hj _ => ?_, fun j hj h0 => ?_, fun j hj => ?_, fun j hj => rfl, by show _ ≤ (e.w.alloc _).heap.size; rw [size_alloc]; omega, fun b hb => len_of_heap (alloc_old _ _ hb)⟩
  · rw [← hx]; exact cell_of_heap (alloc_old _ _ (h.slt _ _ hs))
  · have hne : j ≠ id := fun e => hu (e ▸ hj)
    exact ⟨upd_ne _ _ hne, rfl, fun b o hb => len_of_heap (alloc_old _ _ (h.lt _ _ _ hj hb))⟩
  · have hne : j ≠ id := fun e => hu (e ▸ hj)
    show upd e.bn id 0 j = 0
    rw [upd_ne _ _ hne]; exact h0
  · have hne : j ≠ id := fun e => hu (e ▸ hj)
    show _ ≤ upd e.bn id 0 j
    rw [upd_ne _ _ hne]; exact Nat.le_refl _
theorem OSim.newM (h : OSim T c e of) {id : Nat} (hu : ¬ e.U id) {g : Go.Obj} {o : Ob} (ho : OK T (e.newM id g) id o) : OSim T c (e.newM id g) (upd of id (some o)) := by
  have hle := h.le_newM hu g
  have ιne : ∀ j, j ≠ id → (e.newM id g).ι j = e.ι j := fun j hj => upd_ne _ _ hj
  have obne : ∀ j, j ≠ id → upd of id (some o) j = of j := fun j hj => upd_ne _ _ hj
  have old : ∀ j b q, (of j).isSome → e.ι j = some (b, q) → b < e.w.heap.size := fun j b q hj hb => by
    obtain ⟨x, hx⟩ := Option.isSome_iff_exists.1 hj
    exact h.lt _ _ _ (h.ok _ _ hx).use hb
  refine ⟨fun j x hj => ?_, fun j k b q b' q' hj hk hb hb' hne => ?_, fun j b q hj hb => ?_, fun j b q hj hb => ?_, fun b i hs => ?_, h.s0, h.snew, h.os, h.tape, h.output, ?_, fun k hk hm => ?_⟩
  · by_cases he : j = id
    · subst he; rw [upd_same] at hj; cases hj; exact ho
    · rw [obne _ he] at hj
      exact (h.ok _ _ hj).keep hle (upd_ne _ _ he) (fun b q hb => alloc_old _ _ (old _ _ _ (by rw [hj]; rfl) hb)) (fun _ _ _ _ hs => hs)
  · by_cases h1 : j = id
    · subst h1
      have hk' : k ≠ j := Ne.symm hne
      rw [obne _ hk'] at hk; rw [ιne _ hk'] at hb'
      have := old _ _ _ hk hb'
      have hb1 : (e.w.heap.size, 0) = (b, q) := by simpa [Env.newM] using hb
      cases hb1; omega
    · by_cases h2 : k = id
      · subst h2
        rw [obne _ h1] at hj; rw [ιne _ h1] at hb
        have := old _ _ _ hj hb
        have hb1 : (e.w.heap.size, 0) = (b', q') := by simpa [Env.newM] using hb'
        cases hb1; omega
      · rw [obne _ h1] at hj; rw [obne _ h2] at hk; rw [ιne _ h1] at hb; rw [ιne _ h2] at hb'
        exact h.sep _ _ _ _ _ _ hj hk hb hb' hne
  · by_cases h1 : j = id
    · subst h1
      have hb1 : (e.w.heap.size, 0) = (b, q) := by simpa [Env.newM] using hb
      cases hb1; exact .inl h.size
    · rw [obne _ h1] at hj; rw [ιne _ h1] at hb
      exact h.own _ _ _ hj hb
  · have hsz : (e.newM id g).w.heap.size = e.w.heap.size + 1 := size_alloc _ _
    rw [hsz]
    by_cases h1 : j = id
    · subst h1
      have hb1 : (e.w.heap.size, 0) = (b, q) := by simpa [Env.newM] using hb
      cases hb1; omega
    · rw [ιne _ h1] at hb
      rcases hj with hj | hj
      · exact absurd hj h1
      · have := h.lt _ _ _ hj hb; omega
  · have := h.slt _ _ hs
    show b < (e.w.alloc _).heap.size
    rw [size_alloc]; omega
  · show _ ≤ (e.w.alloc _).heap.size
    rw [size_alloc]; have := h.size; omega
  · exact (alloc_old _ _ (by have := h.size; omega)).trans (h.block k hk hm)
theorem law_makeMap {t kt et id : Nat} (h : OSim T c e of) (ht : P.underlying t = some (.map kt et)) (hu : ¬ e.U id) {r : Option Value} (hr : r = none ∨ ∃ k n, r = some (.int k n)) {ro : List Nat} :
    Does P (do pure (.value (← Instr.makeMap t r))) e.w (Left T c e of ⟨.m id, [(id, .map kt et [])], ro, [id]⟩) := by
  have hrun : (Instr.makeMap t r).run P e.w = .ok (.map (some e.w.heap.size)) (e.w.alloc (.map #[] 0)) := by
    rcases hr with rfl | ⟨k, n, rfl⟩
    · simp [Instr.makeMap]
    · simp [Instr.makeMap, run_under ht, asInt, asIntOf]
  have hok : OK T (e.newM id (.map #[] 0)) id (.map kt et []) :=
    ⟨.inl rfl, upd_same _ _ _, e.w.heap.size, #[], 0, upd_same _ _ _, alloc_new _ _, ⟨List.nodup_nil, stB_nil⟩, [], List.Perm.refl _, .nil⟩
  refine does_value hrun ⟨e.newM id (.map #[] 0), rfl, h.newM hu hok, h.le_newM hu _, fun j hj => hj.elim (fun q => .inr (by simp [q])) .inl, ?_⟩
  exact RA.r ⟨e.w.heap.size, .inl rfl, upd_same _ _ _, upd_same _ _ _, rfl⟩ rfl .nil
theorem OSim.writeM (h : OSim T c e of) {id : Nat} {o o' : Ob} (ho : of id = some o) {b q : Nat} (hι : e.ι id = some (b, q)) {ms ms' : Array MapEntry} {cl cl' : Nat} (h0 : e.w.heap[b]? = some (.map ms cl)) {w' : World} (hw : w' = { e.w with heap := e.w.heap.setIfInBounds b (.map ms' cl') })
    (hok : e.le { e with w := w' } → w'.heap[b]? = some (.map ms' cl') → OK T { e with w := w' } id o') : OSim T c { e with w := w' } (upd of id (some o')) ∧ e.le { e with w := w' } := by
  have hlt : b < e.w.heap.size := (Array.getElem?_eq_some_iff.1 h0).1
  have h1 : w'.heap[b]? = some (.map ms' cl') := by rw [hw]; simp [hlt]
  have hne : ∀ k, k ≠ b → w'.heap[k]? = e.w.heap[k]? := fun k hk => by rw [hw]; simp [Ne.symm hk]
  have hsz : w'.heap.size = e.w.heap.size := by rw [hw]; simp
  have hln : ∀ k, blen w' k = blen e.w k := fun k => by
    by_cases hk' : k = b
    · subst hk'; simp [blen, h0, h1]
    · exact len_of_heap (hne _ hk')
  have hle : e.le { e with w := w' } := by
    refine ⟨fun k i hs => ⟨hs, fun x hx => ?_⟩, fun _ hu => hu, fun j hu _ => ⟨rfl, rfl, fun k q' hk => hln k⟩, fun _ _ h => h, fun _ _ => Nat.le_refl _, fun _ _ => rfl, by show _ ≤ w'.heap.size; omega, fun k _ => hln k⟩
    by_cases hk : k = b
    · subst hk
      simp [World.cell?, h0] at hx
    · rw [← hx]; exact cell_of_heap (hne _ hk)
  exact ⟨h.turn ho hle (fun _ _ => rfl) (fun _ _ => rfl) (fun _ hu => hu) (fun k _ hk => hne k (fun hkb => hk q (by rw [hkb]; exact hι))) (by show _ ≤ w'.heap.size; omega) (fun _ _ hs => .inl hs) (fun k q' hk => .inl ⟨q', hk⟩) (by rw [hw]) (by rw [hw]) (by rw [hw]) (hok hle h1), hle⟩
theorem StB.push {ms : Array MapEntry} {clock : Nat} (h : StB ms clock) {k v : Value} : StB (ms.push { key := k, val := v, born := clock }) (clock + 1) := by
  refine ⟨fun x hx => ?_, ?_⟩
  · rw [Array.toList_push, List.mem_append, List.mem_singleton] at hx
    rcases hx with hx | rfl
    · have := h.1 x hx; omega
    · exact Nat.lt_succ_self _
  · rw [Array.toList_push, List.map_append, List.nodup_append]
    refine ⟨h.2, by simp, fun a ha b hb => ?_⟩
    simp at hb; subst hb
    obtain ⟨x, hx, rfl⟩ := List.mem_map.1 ha
    exact Nat.ne_of_lt (h.1 x hx)
theorem StB.mod {ms : Array MapEntry} {clock : Nat} (h : StB ms clock) {i : Nat} {f : MapEntry → MapEntry} (hf : ∀ x, (f x).born = x.born) : StB (ms.modify i f) clock := by
  have e : (ms.modify i f).toList.map (·.born) = ms.toList.map (·.born) := by
    apply List.ext_getElem?
    intro j
    rw [List.getElem?_map, List.getElem?_map, Array.getElem?_toList, Array.getElem?_toList, Array.getElem?_modify]
    by_cases hij : i = j
    · subst hij; rw [if_pos rfl]; cases ms[i]? with
      | none => rfl
      | some x => simp [hf]
    · rw [if_neg hij]
  refine ⟨fun x hx => ?_, by rw [e]; exact h.2⟩
  have : x.born ∈ (ms.modify i f).toList.map (·.born) := List.mem_map_of_mem hx
  rw [e] at this
  obtain ⟨y, hy, hyx⟩ := List.mem_map.1 this
  rw [← hyx]; exact h.1 y hy
theorem StB.erase {ms : Array MapEntry} {clock : Nat} (h : StB ms clock) (i : Nat) : StB (ms.eraseIdxIfInBounds i) clock := by
  by_cases hi : i < ms.size
  · have e : (ms.eraseIdxIfInBounds i).toList = ms.toList.eraseIdx i := by simp [Array.eraseIdxIfInBounds, hi]
    exact ⟨fun x hx => by rw [e] at hx; exact h.1 x (List.mem_of_mem_eraseIdx hx), by rw [e]; exact h.2.sublist ((List.eraseIdx_sublist _ _).map _)⟩
  · have e : ms.eraseIdxIfInBounds i = ms := by simp [Array.eraseIdxIfInBounds, hi]
    rw [e]; exact h
def updM (T : TT) (of : Nat → Option Ob) (t : Nat) (m k v : A) : Option (List (Nat × Ob) × List Nat) :=
  match kOf T t with
  | some (.map kt et) => match keyV T kt k, asT T et v, m with
    | some kv, some a, .m id => match of id with
      | some (.map kt' et' es) => if (T et).isSome && Nat.beq kt kt' && Nat.beq et et' then some ([(id, .map kt et ((kv, a) :: delM kv es))], [id]) else none
      | _ => none
    | _, _, _ => none
  | _ => none
theorem updM_ok (hT : TOK T P) {of' : Nat → Option Ob} {t : Nat} {m k v : A} {x y z : Value} {wo : List (Nat × Ob)} {ro : List Nat} (h : OSim T c e of') (hr : updM T of t m k v = some (wo, ro)) (ho : ∀ id ∈ ro, of' id = of id) (hx : Rep T e m x) (hy : Rep T e k y) (hz : Rep T e v z) :
    Does P (do Instr.mapUpdate t x y z; pure .skip) e.w (Left T c e of' ⟨.x, wo, ro, []⟩) := by
  unfold updM at hr
  split at hr <;> try (cases hr; done)
  rename_i kt et hk
  obtain ⟨tem, h1, h2⟩ := kOf_some hk
  have hu := under_map (hT _ _ h1) h2
  split at hr <;> try (cases hr; done)
  rename_i kv a id hkv hva
  obtain ⟨hf, hkey⟩ := keyV_ok hkv hy
  split at hr <;> try (cases hr; done)
  rename_i kt' et' es hof
  split at hr <;> try (cases hr; done)
  rename_i hc
  simp only [Bool.and_eq_true] at hc
  obtain ⟨⟨c1, c2⟩, c3⟩ := hc
  have := Nat.eq_of_beq_eq_true c2; subst this
  have := Nat.eq_of_beq_eq_true c3; subst this
  obtain ⟨te, hte⟩ := Option.isSome_iff_exists.1 c1
  injection hr with hr; injection hr with e1 e2; subst e1; subst e2
  have hof' := (ho id (by simp)).trans hof
  obtain ⟨v1, v2, b, ms, clock, v3, v4, v5, es', v6, v7⟩ := map_ok h hof'
  obtain ⟨b', u1, u2, u3, rfl⟩ := rep_m_inv hx
  rw [v3] at u3; cases u3
  obtain ⟨rr, g1, g2⟩ := find_V hT hf hkey e.w v7
  have hg : (getObj b).run P e.w = .ok (.map ms clock) e.w := MapKept.run_getObj_map v4
  have hck : ∀ em, (Instr.checkKey em 10000 kt y).run P e.w = .ok () e.w := fun em => run_checkKey_V hT em e.w EQD kt 9992 kv y hf hkey
  have hset : ∀ o, (setObj b o).run P e.w = .ok () { e.w with heap := e.w.heap.setIfInBounds b o } := fun o => MapKept.run_setObj_map o v4
  have hrepv := asT_rep hte hz hva
  have hfit := asT_fit hva
  have k1 : Rep1 T e (.v kt kv) y := hkey
  have hnd : ((delM kv es).map (·.1)).Nodup := by rw [delM_filter]; exact v5.1.sublist (List.filter_sublist.map _)
  have hnin : kv ∉ (delM kv es).map (·.1) := by
    rw [delM_filter]
    intro hm
    obtain ⟨p, hp, hpk⟩ := List.mem_map.1 hm
    have := (List.mem_filter.1 hp).2
    rw [hpk, veq_refl] at this
    simp at this
  have hnd2 : (((kv, a) :: delM kv es).map (·.1)).Nodup := by
    rw [List.map_cons, List.nodup_cons]; exact ⟨hnin, hnd⟩
  have v6' : (es'.map (·.1)).Nodup := (v6.map _).nodup_iff.2 v5.1
  rcases g2.fnd v5.1 v6 with ⟨rfl, hfn⟩ | ⟨i, me, a0, rfl, hm1, hm2, hfn⟩
  · obtain ⟨q1, q2⟩ := h.writeM hof' v3 v4 (ms' := ms.push { key := y, val := z, born := clock }) (cl' := clock + 1) rfl (o' := .map kt et ((kv, a) :: delM kv es)) (fun hle hh =>
      ⟨v1, v2, b, _, _, v3, hh, ⟨hnd2, v5.2.push⟩, es' ++ [(kv, a)], by
        rw [delM_filter, filter_none (fndM_none.1 hfn)]
        exact (List.perm_append_singleton _ _).trans (v6.cons _), by
        rw [Array.toList_push]
        exact (v7.mono hle).push (m := { key := y, val := z, born := clock }) (k1.mono hle) ((rep1_fit hrepv hfit).mono hle) hfit⟩)
    refine .inr (.inl ⟨_, ?_, ⟨_, rfl, q1, q2, fun j hj => .inl hj, trivial⟩⟩)
    simp [Instr.mapUpdate, run_under hu, hg, hck, g1, hset]
  · obtain ⟨r1, r2, r3⟩ := v7.at hm2 hm1
    have hkeq : me.key = y := (rep_key hf k1).2 _ r1
    have hj : ms[i]? = some me := by simpa using hm1
    obtain ⟨q1, q2⟩ := h.writeM hof' v3 v4 (ms' := ms.modify i fun e => { e with key := y, val := z }) (cl' := clock) rfl (o' := .map kt et ((kv, a) :: delM kv es)) (fun hle hh =>
      ⟨v1, v2, b, _, _, v3, hh, ⟨hnd2, v5.2.mod (fun _ => rfl)⟩, es'.set i (kv, a), by
        refine (set_perm hm2).trans (List.Perm.cons _ ?_)
        rw [delM_filter, ← filter_erase v6' hm2]
        exact v6.filter _, by
        have e1 : (ms.modify i fun e => { e with key := y, val := z }).toList = ms.toList.set i { me with key := y, val := z } := by
          apply List.ext_getElem?
          intro j
          rw [Array.getElem?_toList, Array.getElem?_modify, List.getElem?_set]
          by_cases hij : i = j
          · subst hij
            rw [if_pos rfl, if_pos rfl, hj]
            have : i < ms.toList.length := (List.getElem?_eq_some_iff.1 hm1).1
            rw [if_pos this]; rfl
          · rw [if_neg hij, if_neg hij, Array.getElem?_toList]
        rw [e1]
        exact (v7.mono hle).set hm2 hm1 (m' := { me with key := y, val := z }) (k1.mono hle) ((rep1_fit hrepv hfit).mono hle) hfit⟩)
    have hst : (Instr.keyThatStays y y).run P e.w = .ok y e.w := run_stays (rep_key hf k1).1 e.w
    refine .inr (.inl ⟨_, ?_, ⟨_, rfl, q1, q2, fun j hj => .inl hj, trivial⟩⟩)
    simp [Instr.mapUpdate, run_under hu, hg, hck, g1, hj, hkeq, hst, hset]
def dropM (T : TT) (of : Nat → Option Ob) (t : Nat) (m k : A) : Option (List (Nat × Ob) × List Nat) :=
  match kOf T t with
  | some (.map kt et) => match keyV T kt k, m with
    | some kv, .m id => match of id with
      | some (.map kt' et' es) => if Nat.beq kt kt' && Nat.beq et et' then some ([(id, .map kt et (delM kv es))], [id]) else none
      | _ => none
    | _, _ => none
  | _ => none
theorem dropM_ok (hT : TOK T P) {of' : Nat → Option Ob} {t kt0 ty : TypeId} {m k : A} {x y : Value} {wo : List (Nat × Ob)} {ro : List Nat} (h : OSim T c e of') (hr : dropM T of t m k = some (wo, ro)) (ho : ∀ id ∈ ro, of' id = of id) (hx : Rep T e m x) (hy : Rep T e k y) :
    Does P (do pure (.value (← Builtin.delete_ #[t, kt0] ty #[x, y]))) e.w (Left T c e of' ⟨.x, wo, ro, []⟩) := by
  unfold dropM at hr
  split at hr <;> try (cases hr; done)
  rename_i kt et hk
  obtain ⟨tem, h1, h2⟩ := kOf_some hk
  have hu := under_map (hT _ _ h1) h2
  split at hr <;> try (cases hr; done)
  rename_i kv id hkv
  obtain ⟨hf, hkey⟩ := keyV_ok hkv hy
  split at hr <;> try (cases hr; done)
  rename_i kt' et' es hof
  split at hr <;> try (cases hr; done)
  rename_i hc
  simp only [Bool.and_eq_true] at hc
  have := Nat.eq_of_beq_eq_true hc.1; subst this
  have := Nat.eq_of_beq_eq_true hc.2; subst this
  injection hr with hr; injection hr with e1 e2; subst e1; subst e2
  have hof' := (ho id (by simp)).trans hof
  obtain ⟨v1, v2, b, ms, clock, v3, v4, v5, es', v6, v7⟩ := map_ok h hof'
  obtain ⟨b', u1, u2, u3, rfl⟩ := rep_m_inv hx
  rw [v3] at u3; cases u3
  obtain ⟨rr, g1, g2⟩ := find_V hT hf hkey e.w v7
  have hg : (getObj b).run P e.w = .ok (.map ms clock) e.w := MapKept.run_getObj_map v4
  have hck : ∀ em, (Instr.checkKey em 10000 kt y).run P e.w = .ok () e.w := fun em => run_checkKey_V hT em e.w EQD kt 9992 kv y hf hkey
  have hset : ∀ o, (setObj b o).run P e.w = .ok () { e.w with heap := e.w.heap.setIfInBounds b o } := fun o => MapKept.run_setObj_map o v4
  have hnd : ((delM kv es).map (·.1)).Nodup := by rw [delM_filter]; exact v5.1.sublist (List.filter_sublist.map _)
  have v6' : (es'.map (·.1)).Nodup := (v6.map _).nodup_iff.2 v5.1
  rcases g2.fnd v5.1 v6 with ⟨rfl, hfn⟩ | ⟨i, me, a0, rfl, hm1, hm2, hfn⟩
  · obtain ⟨q1, q2⟩ := h.writeM hof' v3 v4 (ms' := ms) (cl' := clock) rfl (o' := .map kt et (delM kv es)) (fun hle hh =>
      ⟨v1, v2, b, _, _, v3, hh, ⟨hnd, v5.2⟩, es', by rw [delM_filter, filter_none (fndM_none.1 hfn)]; exact v6, v7.mono hle⟩)
    refine does_value (x := .tuple #[]) ?_ ⟨_, rfl, q1, q2, fun j hj => .inl hj, trivial⟩
    simp [Builtin.delete_, run_under hu, hg, hck, g1, hset]
  · obtain ⟨q1, q2⟩ := h.writeM hof' v3 v4 (ms' := ms.eraseIdxIfInBounds i) (cl' := clock) rfl (o' := .map kt et (delM kv es)) (fun hle hh =>
      ⟨v1, v2, b, _, _, v3, hh, ⟨hnd, v5.2.erase i⟩, es'.eraseIdx i, by rw [delM_filter, ← filter_erase v6' hm2]; exact v6.filter _, by
        have e1 : (ms.eraseIdxIfInBounds i).toList = ms.toList.eraseIdx i := by
          have : i < ms.size := by have := (List.getElem?_eq_some_iff.1 hm1).1; simpa using this
          simp [Array.eraseIdxIfInBounds, this]
        rw [e1]
        exact (v7.mono hle).erase i⟩)
    refine does_value (x := .tuple #[]) ?_ ⟨_, rfl, q1, q2, fun j hj => .inl hj, trivial⟩
    simp [Builtin.delete_, run_under hu, hg, hck, g1, hset]
end Go.Vm


namespace Go.Vm
open Go.RowKit
variable {P : Program} {T : TT} {c : Ctx} {e : Env} {of : Nat → Option Ob}
set_option linter.unusedVariables false
set_option linter.constructorNameAsVariable false

/-! ### Copying -/
def splice (xs : List V) (k : Nat) (ns : List V) : List V := xs.take k ++ (ns ++ xs.drop (k + ns.length))
theorem splice_length {xs : List V} {k : Nat} {ns : List V} (h : k + ns.length ≤ xs.length) : (splice xs k ns).length = xs.length := by
  unfold splice; simp only [List.length_append, List.length_take, List.length_drop]; omega
theorem splice_cells {xs : List V} {el : Nat} {ys : List Value} (h : RV T e (List.replicate xs.length el) xs ys) {k : Nat} {ns : List V} {us : List Value} (hk : k + ns.length ≤ xs.length) (hn : RV T e (List.replicate ns.length el) ns us) :
    ∃ as bs zs, ys = as ++ (bs ++ zs) ∧ as.length = k * szT T el ∧ bs.length = us.length ∧ RV T e (List.replicate xs.length el) (splice xs k ns) (as ++ (us ++ zs)) := by
  obtain ⟨as, q, rfl, h1, h2, h3⟩ := h.split_at k (by omega)
  obtain ⟨bs, zs, rfl, g1, g2, g3⟩ := h3.split_at ns.length (by omega)
  have hul : us.length = ns.length * szT T el := by rw [hn.length.1, szs_replicate]
  refine ⟨as, bs, zs, rfl, h1, by rw [g1, hul], ?_⟩
  have := h2.append (hn.append g3)
  rw [List.drop_drop] at this
  have e1 : List.replicate xs.length el = List.replicate k el ++ (List.replicate ns.length el ++ List.replicate (xs.length - k - ns.length) el) := by
    rw [List.replicate_append_replicate, List.replicate_append_replicate]; congr 1; omega
  rw [e1]
  exact this
theorem run_copy {dt el xt ty : TypeId} {te : TE} {w w' : World} (hd : P.underlying dt = some (.slice el)) (hel : TEok P T el te) {A : Option Addr} {n cap m : Nat} {y : Value} {us : List Value} (hs : Src P w xt y te.size m us) (hm : m ≤ n)
    (hst : ∀ a, A = some a → (storeCells a us).run P w = .ok () w') (hno : A = none → w' = w) :
    (Builtin.copy_ #[dt, xt] ty #[.slice A n cap, y]).run P w = .ok (goInt m) w' := by
  have hmin : Nat.min m n = m := Nat.min_eq_left hm
  have h1 := hs.len w
  have h2 := hs.first w rfl
  cases A with
  | none =>
    have := hno rfl
    subst this
    simp [Builtin.copy_, run_under hd, h1, hmin, run_size hel, h2]
  | some a => simp [Builtin.copy_, run_under hd, h1, hmin, run_size hel, h2, hst a rfl]
def copyA (T : TT) (of : Nat → Option Ob) (t xt : Nat) (u v : A) : Option (A × List (Nat × Ob) × List Nat) :=
  match kOf T t with
  | some (.slice el) => if appOk T xt v && (T el).isSome then
      match srcA T of el v with
      | some (ns, ro) => if Nat.ble ns.length LIM then
          (match ns with
          | [] => (match u with
            | .s _ => none
            | u => match srcA T of el u with
              | some (_, ro2) => some (.i .i64 0, [], ro ++ ro2)
              | none => none)
          | _ :: _ => match u with
            | .a id t1 path lo m => match kOf T t1, of id with
              | some (.arr N el'), some (.box t0 a false) => match atA T a path with
                | some (.v t2 y) => if Nat.beq el el' && Nat.beq t1 t2 && Nat.ble ns.length m && Nat.ble (lo + m) N then (match putA T a path (.v t1 (.l (splice y.els lo ns))) with
                  | some a' => some (.i .i64 (ns.length : Nat), [(id, .box t0 a' false)], id :: ro)
                  | none => none) else none
                | _ => none
              | _, _ => none
            | .w id ver off m => match of id with
              | some (.row el' v' xs false false) => if Nat.beq el el' && Nat.beq v' ver && Nat.ble ns.length m && Nat.ble (off + m) xs.length then some (.i .i64 (ns.length : Nat), [(id, .row el ver (splice xs off ns) false false)], id :: ro) else none
              | _ => none
            | .o id ver => match of id with
              | some (.row el' v' xs false false) => if Nat.beq el el' && Nat.beq v' ver && Nat.ble ns.length xs.length then some (.i .i64 (ns.length : Nat), [(id, .row el ver (splice xs 0 ns) false false)], id :: ro) else none
              | _ => none
            | _ => none)
        else none
      | none => none
    else none
  | _ => none
theorem law_copy_w {dt el xt ty : TypeId} {te : TE} (h : OSim T c e of) (hT : TOK T P) (hd : P.underlying dt = some (.slice el)) (hel : T el = some te) {id ver off m : Nat} {xs ns : List V} {x y : Value} {us : List Value} (ho : of id = some (.row el ver xs false false)) (hx : Rep T e (.w id ver off m) x) (hm : off + m ≤ xs.length) (hn : ns.length ≤ m) (h0 : 0 < ns.length)
    (hs : Src P e.w xt y te.size ns.length us) (hus : RV T e (List.replicate ns.length el) ns us) (hl : ns.length ≤ 9223372036854775807) {ro : List Nat} :
    Does P (do pure (.value (← Builtin.copy_ #[dt, xt] ty #[x, y]))) e.w (Left T c e of ⟨.i .i64 (ns.length : Nat), [(id, .row el ver (splice xs off ns) false false)], ro, []⟩) := by
  obtain ⟨u1, u2, u3, u4, u5, u6, u7⟩ := row_ok h ho
  obtain ⟨b, o, cap, k, k1, k2, k3, k4, k5, rfl⟩ := rep_w_inv hx u3
  rcases u7 with ⟨hq, _, _⟩ | ⟨_, b', o', cs, ty', fz, pre, ys, post, g1, g2, g3, g4, g5, g6, g7, g8⟩
  · cases hq
  rw [g1] at k1; cases k1
  rw [u4] at k4 k5
  have hkk := k5 (by omega)
  obtain ⟨as, bs, zs, rfl, s1, s2, s3⟩ := splice_cells g6 (k := off) (ns := ns) (by omega) hus
  have e1 : pre ++ (as ++ (bs ++ zs)) ++ post = (pre ++ as) ++ (bs ++ (zs ++ post)) := by simp
  rw [e1] at g4
  have hoff : (pre ++ as).length = k := by simp only [List.length_append]; omega
  have hcl : cs.size = (pre ++ as).length + (bs.length + (zs ++ post).length) := by
    have := congrArg List.length g4; simpa only [Array.length_toList, List.length_append] using this
  obtain ⟨cs', f1, f2⟩ := setCells_heap_eq us g2 (i := k) (by omega)
  rw [set_mid g4 hoff (by omega)] at f2
  have hsz : cs'.size = cs.size := by
    have := congrArg List.length f2
    simp only [Array.length_toList, List.length_append] at this hcl
    omega
  have hspl : (splice xs off ns).length = xs.length := splice_length (by omega)
  obtain ⟨hos, hll⟩ := h.write ho g1 g2 f1 hsz (fun k hk => setCells_heap_ne _ _ _ _ hk) (setCells_size _ _ _ _) (setCells_os _ _ _ _)
    (fun j hs => by
      have hj : j < o := Nat.lt_of_not_le (fun hoj => g8 rfl j hoj hs)
      have key : ∀ X : List Value, ((pre ++ as) ++ X)[j]? = (pre ++ as)[j]? := fun X => List.getElem?_append_left (by simp only [List.length_append]; omega)
      rw [← Array.getElem?_toList, ← Array.getElem?_toList, f2, g4, key, key])
    (o' := .row el ver (splice xs off ns) false false)
    (fun hle => ⟨u1, u2, u3, u4, by rw [hspl]; exact u5, u6, .inr ⟨rfl, b, o, cs', ty', fz, pre, as ++ (us ++ zs), post, g1, f1, free_of g3 g2 f1 hsz, by rw [f2]; simp, g5, by rw [hspl]; exact s3.mono hle,
      fun j hj => g7 j (by simp only [List.length_append] at hj ⊢; omega), fun hh j hj => g8 hh j hj⟩⟩)
  refine does_value (x := goInt ns.length) (w' := setCells e.w b k us) (run_copy hd (hT _ _ hel) hs hn (fun a ha => ?_) (fun ha => by cases ha)) ⟨_, rfl, hos, hll, fun _ hu => .inl hu, rep_i (by constructor <;> simp only [lo, hi] <;> omega)⟩
  cases ha
  exact run_storeCells g2 g3 hus.one (by omega)
theorem law_copy_a {dt el xt ty : TypeId} {te : TE} (h : OSim T c e of) (hT : TOK T P) (hd : P.underlying dt = some (.slice el)) (hel : T el = some te) {id t0 t1 N lo0 m : Nat} {path : List Nat} {a a' : A} {v : V} {ns : List V} {x y : Value} {us : List Value} (ho : of id = some (.box t0 a false)) (hk1 : kOf T t1 = some (.arr N el)) (hat : atA T a path = some (.v t1 v))
    (hput : putA T a path (.v t1 (.l (splice v.els lo0 ns))) = some a') (hx : Rep T e (.a id t1 path lo0 m) x) (hn : ns.length ≤ m) (h0 : 0 < ns.length)
    (hs : Src P e.w xt y te.size ns.length us) (hus : RV T e (List.replicate ns.length el) ns us) (hl : ns.length ≤ 9223372036854775807) {ro : List Nat} :
    Does P (do pure (.value (← Builtin.copy_ #[dt, xt] ty #[x, y]))) e.w (Left T c e of ⟨.i .i64 (ns.length : Nat), [(id, .box t0 a' false)], ro, []⟩) := by
  obtain ⟨u1, u2, u3, u4, b, cs, ty', fz, g1, g2, g3, g4, g5, g6⟩ := box_cells h ho
  obtain ⟨b', off, n', el', k, cap, _, _, k1, k2, k3, k4, k5, k6, rfl⟩ := rep_a_inv hx
  rw [g1] at k1; cases k1
  rw [hk1] at k3; cases k3
  rw [u3] at k2
  obtain ⟨pre0, d0, post0, q1, q2, q3, q4, q5⟩ := atA_spec path g5 u4 k2 hat
  obtain ⟨ys, rfl, hyl, hy⟩ := q4.v_inv.arr_inv hk1
  subst hyl
  obtain ⟨as, bs, zs, rfl, s1, s2, s3⟩ := splice_cells hy (k := lo0) (ns := ns) (by omega) hus
  have hsz1 : szT T t1 = (as ++ (us ++ zs)).length := by rw [← q3]; simp only [List.length_append]; omega
  have hnew : RV T e [t1] [.l (splice ys lo0 ns)] (as ++ (us ++ zs)) := by
    have := RV.arr hk1 hsz1 s3 .nil
    rwa [List.append_nil] at this
  obtain ⟨pre, d, post, p1, p2, p3, p4, p5⟩ := putA_spec path g5 u4 k2 (RA.v1 hnew) (fitA_v _ _) hput
  have hkk := k6 (by omega)
  have hpp : pre = pre0 ∧ d = as ++ (bs ++ zs) ∧ post = post0 := by
    rw [q1] at p1
    obtain ⟨e1, e2⟩ := List.append_inj p1 (by omega)
    obtain ⟨e3, e4⟩ := List.append_inj e2 (by omega)
    exact ⟨e1.symm, e3.symm, e4.symm⟩
  obtain ⟨rfl, rfl, rfl⟩ := hpp
  have e1 : pre ++ ((as ++ (bs ++ zs)) ++ post) = (pre ++ as) ++ (bs ++ (zs ++ post)) := by simp
  rw [e1] at p1
  have hoff : (pre ++ as).length = k := by simp only [List.length_append]; omega
  have hcl : cs.size = (pre ++ as).length + (bs.length + (zs ++ post).length) := by
    have := congrArg List.length p1; simpa only [Array.length_toList, List.length_append] using this
  obtain ⟨cs', f1, f2⟩ := setCells_heap_eq us g2 (i := k) (by omega)
  rw [set_mid p1 hoff (by omega)] at f2
  have hsz : cs'.size = cs.size := by
    have := congrArg List.length f2
    simp only [Array.length_toList, List.length_append] at this hcl
    omega
  obtain ⟨hos, hll⟩ := h.write ho g1 g2 f1 hsz (fun k hk => setCells_heap_ne _ _ _ _ hk) (setCells_size _ _ _ _) (setCells_os _ _ _ _) (fun i hs => absurd hs (g6 rfl i))
    (o' := .box t0 a' false) (fun hle => ⟨u1, u2, u3, p5, b, cs', ty', fz, g1, f1, free_of g3 g2 f1 hsz, by omega, by
      rw [f2, show pre ++ as ++ (us ++ (zs ++ post)) = pre ++ ((as ++ (us ++ zs)) ++ post) by simp]; exact p4.mono hle, fun _ i => g6 rfl i⟩)
  refine does_value (x := goInt ns.length) (w' := setCells e.w b k us) (run_copy hd (hT _ _ hel) hs hn (fun a ha => ?_) (fun ha => by cases ha)) ⟨_, rfl, hos, hll, fun _ hu => .inl hu, rep_i (by constructor <;> simp only [lo, hi] <;> omega)⟩
  cases ha
  exact run_storeCells g2 g3 hus.one (by omega)
theorem copyA_ok (hT : TOK T P) {of' : Nat → Option Ob} {t xt ty : TypeId} {u v r : A} {x y : Value} {wo : List (Nat × Ob)} {ro : List Nat} (h : OSim T c e of') (hr : copyA T of t xt u v = some (r, wo, ro)) (ho : ∀ id ∈ ro, of' id = of id) (hx : Rep T e u x) (hy : Rep T e v y) :
    Does P (do pure (.value (← Builtin.copy_ #[t, xt] ty #[x, y]))) e.w (Left T c e of' ⟨r, wo, ro, []⟩) := by
  unfold copyA at hr
  split at hr <;> try (cases hr; done)
  rename_i el hk
  obtain ⟨tem, h1, h2⟩ := kOf_some hk
  have hu := under_slice (hT _ _ h1) h2
  split at hr <;> try (cases hr; done)
  rename_i hc
  simp only [Bool.and_eq_true] at hc
  obtain ⟨hty, hst⟩ := appOk_spec hT hc.1
  obtain ⟨te, hte⟩ := Option.isSome_iff_exists.1 hc.2
  split at hr <;> try (cases hr; done)
  rename_i ns ro1 hsrc
  split at hr <;> try (cases hr; done)
  rename_i hlim
  have hlim : ns.length ≤ 9223372036854775807 := Nat.le_trans (Nat.le_of_ble_eq_true hlim) (by decide)
  have src : (∀ id ∈ ro1, of' id = of id) → ∃ us, Src P e.w xt y te.size ns.length us ∧ RV T e (List.replicate ns.length el) ns us := fun ho => by
    obtain ⟨us, s1, s2⟩ := srcA_ok (xt := xt) h hty hst hsrc ho hy
    rw [szT_of hte] at s1
    exact ⟨us, s1, s2⟩
  split at hr
  · split at hr <;> try (cases hr; done)
    rename_i hns
    split at hr <;> try (cases hr; done)
    rename_i ro2 hs2
    injection hr with hr; injection hr with e1 e2; injection e2 with e2 e3; subst e1; subst e2; subst e3
    obtain ⟨us, s1, s2⟩ := src (fun id hid => ho id (by simp [hid]))
    obtain ⟨p, n, k, rfl⟩ := srcA_slice h hs2 (fun id hid => ho id (by simp [hid])) hx hns
    have hus : us = [] := by have := s1.size; simpa using this
    subst hus
    refine does_value (run_copy hu (hT _ _ hte) s1 (Nat.zero_le _) (fun a ha => ?_) (fun _ => rfl)) (left_same h (rep_i (by constructor <;> simp [lo, hi])))
    simp [storeCells]
  · rename_i q qs hq0
    have h0 : 0 < (q :: qs).length := by simp
    split at hr <;> try (cases hr; done)
    · rename_i id t1 path lo0 m
      split at hr <;> try (cases hr; done)
      rename_i N el' t0 a hk1 hof
      split at hr <;> try (cases hr; done)
      rename_i t2 v2 hat
      split at hr <;> try (cases hr; done)
      rename_i hc2
      simp only [Bool.and_eq_true] at hc2
      obtain ⟨⟨⟨c1, c2⟩, c3⟩, c4⟩ := hc2
      have := Nat.eq_of_beq_eq_true c1; subst this
      have := Nat.eq_of_beq_eq_true c2; subst this
      split at hr <;> try (cases hr; done)
      rename_i a' hput
      injection hr with hr; injection hr with e1 e2; injection e2 with e2 e3; subst e1; subst e2; subst e3
      obtain ⟨us, s1, s2⟩ := src (fun id hid => ho id (by simp [hid]))
      exact law_copy_a h hT hu hte ((ho id (by simp)).trans hof) hk1 hat hput hx (Nat.le_of_ble_eq_true c3) h0 s1 s2 hlim
    · rename_i id ver off m
      split at hr <;> try (cases hr; done)
      rename_i el' v' xs hof
      split at hr <;> try (cases hr; done)
      rename_i hc2
      simp only [Bool.and_eq_true] at hc2
      obtain ⟨⟨⟨c1, c2⟩, c3⟩, c4⟩ := hc2
      have := Nat.eq_of_beq_eq_true c1; subst this
      have := Nat.eq_of_beq_eq_true c2; subst this
      injection hr with hr; injection hr with e1 e2; injection e2 with e2 e3; subst e1; subst e2; subst e3
      obtain ⟨us, s1, s2⟩ := src (fun id hid => ho id (by simp [hid]))
      exact law_copy_w h hT hu hte ((ho id (by simp)).trans hof) hx (Nat.le_of_ble_eq_true c4) (Nat.le_of_ble_eq_true c3) h0 s1 s2 hlim
    · rename_i id ver
      split at hr <;> try (cases hr; done)
      rename_i el' v' xs hof
      split at hr <;> try (cases hr; done)
      rename_i hc2
      simp only [Bool.and_eq_true] at hc2
      obtain ⟨⟨c1, c2⟩, c3⟩ := hc2
      have := Nat.eq_of_beq_eq_true c1; subst this
      have := Nat.eq_of_beq_eq_true c2; subst this
      injection hr with hr; injection hr with e1 e2; injection e2 with e2 e3; subst e1; subst e2; subst e3
      obtain ⟨us, s1, s2⟩ := src (fun id hid => ho id (by simp [hid]))
      have hof' := (ho id (by simp)).trans hof
      obtain ⟨v0, v1, v2, v3, v4, v5, h6⟩ := row_ok h hof'
      have hι : e.ι id ≠ none := by
        rcases h6 with ⟨hf, _⟩ | ⟨_, b, o, _, _, _, _, _, _, g, _⟩
        · cases hf
        · rw [g]; intro q; cases q
      have hw := o_as_w hx v2 v1 hι v0
      rw [v4] at hw
      exact law_copy_w h hT hu hte hof' hw (by omega) (Nat.le_of_ble_eq_true c3) h0 s1 s2 hlim
end Go.Vm


namespace Go.Vm
open Go.RowKit
variable {P : Program} {T : TT} {c : Ctx} {e : Env} {of : Nat → Option Ob}
set_option linter.unusedVariables false
set_option linter.constructorNameAsVariable false

/-! ### So many zeros onto nil -/
theorem run_append_zeros {t xt ty el : TypeId} {te : TE} {w : World} {k : IntKind} (ht : P.underlying t = some (.slice el)) (hel : TEok P T el te) (hxt : P.underlying xt = some (.int k)) {m : Nat} (h0 : 0 < m) (hz0 : 0 < te.size)
    (hbytes : m * te.bytes ≤ 140737488355328) (h63 : m ≤ 4611686018427387904) :
    ∃ (z : Value) (cap2 : Nat), m ≤ cap2 ∧ ((∀ e, RV T e [el] [te.zero] z.cells.toList) ∨ te.k = .other) ∧ (Builtin.append_ #[t, xt] ty #[.slice none 0 0, .int k m]).run P w = .ok (.slice (some ⟨w.heap.size, 0, none⟩) m cap2)
      (w.drew.alloc (.cells (Builtin.zeroCells z.cells m ++ Builtin.zeroCells z.cells (cap2 - m)) el)) := by
  obtain ⟨i, d, z, h1, h2, h3, h4, h5, h6, h7, h8⟩ := hel.fits
  have hn : ¬ (m ≤ 0) := by omega
  have hw : IntKind.i64.wrap (m : Int) = m := by
    have h1 : (0 : Int) ≤ m := by omega
    have h2 : (m : Int) ≤ 4611686018427387904 := by omega
    generalize (m : Int) = q at h1 h2
    simp only [IntKind.wrap, IntKind.bits, IntKind.signed]; simp; omega
  have h63' : ¬ (9223372036854775807 < (m : Int)) := by omega
  have hlt : ¬ ((m : Int) < 0) := by omega
  have h48 : ¬ ((281474976710656 : Int) < (m : Int) * (te.bytes : Int)) := by
    have h5 : ((m * te.bytes : Nat) : Int) ≤ ((140737488355328 : Nat) : Int) := Int.ofNat_le.2 hbytes
    rw [Int.natCast_mul] at h5
    have e3 : ((140737488355328 : Nat) : Int) = 140737488355328 := rfl
    rw [e3] at h5
    generalize (m : Int) * (te.bytes : Int) = q at h5
    omega
  have hfit := growslice_fits (need := m) (old := 0) (bytes := te.bytes) (by omega) hbytes
  have h48' : ¬ (281474976710656 < Builtin.nextslicecap m 0 * te.bytes) := by omega
  have hms : ¬ (m * te.size = 0) := Nat.mul_ne_zero (by omega) (by omega)
  refine ⟨z, grownCap w m 0 el, ?_, h7, ?_⟩
  · simp only [grownCap, Question.cut]; omega
  · have hm0 : ¬ m = 0 := by omega
    simp [Builtin.append_, run_under ht, run_under hxt, sizeOf, typeInfo, zeroValue, h1, h3, h4, h6, asInt, asIntOf, hw, hlt, h48, hn, h63', h48', hms, hm0, Question.forced, newRow, grownCap, Builtin.firstCells, show ¬ te.size = 0 by omega]
def zerosA (T : TT) (nx t xt : Nat) (u v : A) : Option Out :=
  match kOf T t, kOf T xt, v with
  | some (.slice el), some (.int k), .i k' m => match T el with
    | some te => if kbeq k k' && Nat.blt 0 te.size && TK.notOther te.k && Nat.ble te.bytes 131072 && ilt 0 m && ile m LIM then
        (match zV T t u with
        | .v t' .n => if same T t t' then some ⟨.o nx 1, [(nx, .row el 1 (List.replicate m.toNat te.zero) false false)], [], [nx]⟩ else none
        | _ => none) else none
    | none => none
  | _, _, _ => none
theorem zerosA_ok (hT : TOK T P) {t xt ty : TypeId} {nx : Nat} {u v : A} {x y : Value} {out : Out} (h : OSim T c e of) (hr : zerosA T nx t xt u v = some out) (hq : isQ T u = true) (hu : ∀ id ∈ out.nw, ¬ e.U id) (hx : Rep T e u x) (hy : Rep T e v y) :
    Does P (do pure (.value (← Builtin.append_ #[t, xt] ty #[x, y]))) e.w (Left T c e of out) := by
  unfold zerosA at hr
  split at hr <;> try (cases hr; done)
  rename_i el k k' m hk hkx
  obtain ⟨te1, h1, h2⟩ := kOf_some hk
  obtain ⟨te2, h3, h4⟩ := kOf_some hkx
  have ht := under_slice (hT _ _ h1) h2
  have hxt := under_int (hT _ _ h3) h4
  split at hr <;> try (cases hr; done)
  rename_i te hte
  split at hr <;> try (cases hr; done)
  rename_i hc
  simp only [Bool.and_eq_true, ilt_iff, ile_iff] at hc
  obtain ⟨⟨⟨⟨⟨c1, c2⟩, c3⟩, c4⟩, c5⟩, c6⟩ := hc
  have := kbeq_eq c1; subst this
  have hz0 : 0 < te.size := by simpa [Nat.blt_eq] using c2
  have hzx := zV_ok hk hx (isQ_spec hq)
  generalize zV T t u = u' at hzx hr
  split at hr <;> try (cases hr; done)
  rename_i t'
  split at hr <;> try (cases hr; done)
  rename_i hs
  injection hr with hr; subst hr
  have hk' := (same_spec hs).1.symm.trans hk
  rcases (rv_single hzx ⟨_, hk', rfl⟩).slice_inv hk' with ⟨_, hv⟩ | ⟨_, _, _, _, h0, _⟩
  · injection hv with hv
    rw [hv, rep_i_inv hy]
    obtain ⟨n, rfl⟩ := Int.eq_ofNat_of_zero_le (Int.le_of_lt c5)
    have hn : n ≤ 1073741824 := by have h1 : (n : Int) ≤ 1073741824 := c6; omega
    have hb := Nat.le_of_ble_eq_true c4
    obtain ⟨l1, l2⟩ := lim_bytes (n := n) (b := te.bytes) (by rw [Nat.ble_eq]; exact hn) c4
    have hz : szT T el = te.size := szT_of hte
    obtain ⟨z, cap2, hc2, hzr, hrun⟩ := run_append_zeros (P := P) (ty := ty) (w := e.w) ht (hT _ _ hte) hxt (m := n) (by omega) hz0 l1 l2
    have hzz := hzr.elim (fun q => q) (fun q => absurd q (notOther_ne c3))
    have hzs : z.cells.size = te.size := by
      have := (hzz e).one_len
      rw [hz, Array.length_toList] at this; exact this
    have hrow : (Builtin.zeroCells z.cells n).toList = (List.replicate n z.cells.toList).flatten := toList_madeCells z.cells n
    have hcs : (Builtin.zeroCells z.cells n ++ Builtin.zeroCells z.cells (cap2 - n)).size = cap2 * szT T el := by
      rw [hz]
      simp only [Array.size_append, size_zeroCells, hzs, ← Nat.add_mul]
      congr 1; omega
    obtain ⟨hd0, hle0⟩ := h.same_heap (w' := e.w.drew) rfl rfl rfl rfl
    have hok := OK_row (id := nx) (el := el) (xs := List.replicate n te.zero) (cs := Builtin.zeroCells z.cells n ++ Builtin.zeroCells z.cells (cap2 - n)) (ys := (List.replicate n z.cells.toList).flatten) (post := (Builtin.zeroCells z.cells (cap2 - n)).toList) hd0 (hu nx (by simp)) (by omega) (by rw [Array.toList_append, hrow])
      (by rw [List.length_replicate]; exact rv_replicate (hzz _) n)
    obtain ⟨e', p1, p2, p3, p4, p5⟩ := left_new (ro := []) hd0 (hu nx (by simp)) hok (rep_o_new (n := (List.replicate n te.zero).length) (cap := cap2) hcs (by rw [List.length_replicate]; exact hc2))
    rw [List.length_replicate] at p5
    exact does_value hrun ⟨e', p1, p2, hle0.trans p3, p4, p5⟩
  · cases h0
end Go.Vm


namespace Go.Vm
open Go.RowKit
variable {P : Program} {T : TT} {c : Ctx} {e : Env} {of : Nat → Option Ob}
set_option linter.unusedVariables false
set_option linter.constructorNameAsVariable false

/-! ### Ranges over maps: those that have no entries -/
def Env.newT (e : Env) (id t : Nat) (o : Go.Obj) : Env :=
  { w := e.w.alloc o, ι := upd e.ι id (some (e.w.heap.size, 0)), S := e.S, bn := upd e.bn id 0, U := fun j => j = id ∨ e.U j, ty := upd e.ty id t, ln := e.ln }
theorem OSim.le_newT (h : OSim T c e of) {id t : Nat} (hu : ¬ e.U id) (o : Go.Obj) : e.le (e.newT id t o) := by
  refine ⟨fun b i hs => ⟨hs, fun x hx => ?_⟩, fun _ hj => .inr hj, fun j hj _ => ?_, fun j hj h0 => ?_, fun j hj => ?_, fun j hj => upd_ne _ _ (fun e => hu (e ▸ hj)), by show _ ≤ (e.w.alloc _).heap.size; rw [size_alloc]; omega, fun b hb => len_of_heap (alloc_old _ _ hb)⟩
  · rw [← hx]; exact cell_of_heap (alloc_old _ _ (h.slt _ _ hs))
  · have hne : j ≠ id := fun e => hu (e ▸ hj)
    exact ⟨upd_ne _ _ hne, rfl, fun b o hb => len_of_heap (alloc_old _ _ (h.lt _ _ _ hj hb))⟩
  · have hne : j ≠ id := fun e => hu (e ▸ hj)
    show upd e.bn id 0 j = 0
    rw [upd_ne _ _ hne]; exact h0
  · have hne : j ≠ id := fun e => hu (e ▸ hj)
    show _ ≤ upd e.bn id 0 j
    rw [upd_ne _ _ hne]; exact Nat.le_refl _
theorem OSim.newT (h : OSim T c e of) {id t : Nat} (hu : ¬ e.U id) {g : Go.Obj} {o : Ob} (ho : OK T (e.newT id t g) id o) : OSim T c (e.newT id t g) (upd of id (some o)) := by
  have hle := h.le_newT (t := t) hu g
  have ιne : ∀ j, j ≠ id → (e.newT id t g).ι j = e.ι j := fun j hj => upd_ne _ _ hj
  have obne : ∀ j, j ≠ id → upd of id (some o) j = of j := fun j hj => upd_ne _ _ hj
  have old : ∀ j b q, (of j).isSome → e.ι j = some (b, q) → b < e.w.heap.size := fun j b q hj hb => by
    obtain ⟨x, hx⟩ := Option.isSome_iff_exists.1 hj
    exact h.lt _ _ _ (h.ok _ _ hx).use hb
  refine ⟨fun j x hj => ?_, fun j k b q b' q' hj hk hb hb' hne => ?_, fun j b q hj hb => ?_, fun j b q hj hb => ?_, fun b i hs => ?_, h.s0, h.snew, h.os, h.tape, h.output, ?_, fun k hk hm => ?_⟩
  · by_cases he : j = id
    · subst he; rw [upd_same] at hj; cases hj; exact ho
    · rw [obne _ he] at hj
      exact (h.ok _ _ hj).keep hle (upd_ne _ _ he) (fun b q hb => alloc_old _ _ (old _ _ _ (by rw [hj]; rfl) hb)) (fun _ _ _ _ hs => hs)
  · by_cases h1 : j = id
    · subst h1
      have hk' : k ≠ j := Ne.symm hne
      rw [obne _ hk'] at hk; rw [ιne _ hk'] at hb'
      have := old _ _ _ hk hb'
      have hb1 : (e.w.heap.size, 0) = (b, q) := by simpa [Env.newT] using hb
      cases hb1; omega
    · by_cases h2 : k = id
      · subst h2
        rw [obne _ h1] at hj; rw [ιne _ h1] at hb
        have := old _ _ _ hj hb
        have hb1 : (e.w.heap.size, 0) = (b', q') := by simpa [Env.newT] using hb'
        cases hb1; omega
      · rw [obne _ h1] at hj; rw [obne _ h2] at hk; rw [ιne _ h1] at hb; rw [ιne _ h2] at hb'
        exact h.sep _ _ _ _ _ _ hj hk hb hb' hne
  · by_cases h1 : j = id
    · subst h1
      have hb1 : (e.w.heap.size, 0) = (b, q) := by simpa [Env.newT] using hb
      cases hb1; exact .inl h.size
    · rw [obne _ h1] at hj; rw [ιne _ h1] at hb
      exact h.own _ _ _ hj hb
  · have hsz : (e.newT id t g).w.heap.size = e.w.heap.size + 1 := size_alloc _ _
    rw [hsz]
    by_cases h1 : j = id
    · subst h1
      have hb1 : (e.w.heap.size, 0) = (b, q) := by simpa [Env.newT] using hb
      cases hb1; omega
    · rw [ιne _ h1] at hb
      rcases hj with hj | hj
      · exact absurd hj h1
      · have := h.lt _ _ _ hj hb; omega
  · have := h.slt _ _ hs
    show b < (e.w.alloc _).heap.size
    rw [size_alloc]; omega
  · show _ ≤ (e.w.alloc _).heap.size
    rw [size_alloc]; have := h.size; omega
  · exact (alloc_old _ _ (by have := h.size; omega)).trans (h.block k hk hm)
def rangeM (T : TT) (of : Nat → Option Ob) (nx t : Nat) (u : A) : Option Out :=
  match kOf T t with
  | some (.map _ _) => match u with
    | .m m => match of m with
      | some (.map _ _ _) => some ⟨.p nx 0 [], [(nx, .it (some m))], [m], [nx]⟩
      | _ => none
    | u => if isMapN T t u then some ⟨.p nx 0 [], [(nx, .it none)], [], [nx]⟩ else none
  | _ => none
theorem rangeM_ok (hT : TOK T P) {of' : Nat → Option Ob} {nx t : Nat} {u : A} {x : Value} {out : Out} (h : OSim T c e of') (hr : rangeM T of nx t u = some out) (ho : ∀ id ∈ out.ro, of' id = of id) (hu : ∀ id ∈ out.nw, ¬ e.U id) (hx : Rep T e u x) :
    Does P (do pure (.value (← Instr.range t x))) e.w (Left T c e of' out) := by
  unfold rangeM at hr
  split at hr <;> try (cases hr; done)
  rename_i kt et hk
  obtain ⟨te, h1, h2⟩ := kOf_some hk
  have hun := under_map (hT _ _ h1) h2
  split at hr
  · rename_i m
    split at hr <;> try (cases hr; done)
    rename_i kt' et' es hof
    injection hr with hr; subst hr
    have hum : ¬ e.U nx := hu nx (by simp)
    have hof' : of' m = some (.map kt' et' es) := (ho m (by simp)).trans hof
    obtain ⟨k1, k2, b, ms, clock, k3, k4, k5⟩ := h.ok _ _ hof'
    have hx' : RA T e [.m m] [x] := hx
    have hxv : x = .map (some b) := by
      generalize x = y at hx'
      cases hx' with
      | r g1 _ _ =>
        obtain ⟨b', u1, u2, u3, u4⟩ := g1
        rw [k3] at u3; cases u3; exact u4
    have hne : m ≠ nx := fun q => hum (q ▸ k1)
    have hrun : (Instr.range t x).run P e.w = .ok (.pointer (some ⟨e.w.heap.size, 0, none⟩)) (e.w.alloc (.mapIter (some b) clock #[] clock)) := by
      rw [hxv]
      simp [Instr.range, run_under hun, getObj, Sem.run, k4, newObj]
    refine does_value hrun ⟨e.newT nx 0 (.mapIter (some b) clock #[] clock), rfl, h.newT hum ?_, h.le_newT hum _, fun j hj => hj.elim (fun q => .inr (by simp [q])) .inl, ?_⟩
    · exact ⟨.inl rfl, upd_same _ _ _, e.w.heap.size, b, clock, clock, upd_same _ _ _, alloc_new _ _, .inr k1, by show upd e.bn nx 0 m = 0; rw [upd_ne _ _ hne]; exact k2, by show upd e.ι nx _ m = _; rw [upd_ne _ _ hne]; exact k3⟩
    · exact RA.r ⟨e.w.heap.size, 0, .inl rfl, upd_same _ _ _, upd_same _ _ _, (by show Pth T (upd e.ty nx 0 nx) [] 0 0; rw [upd_same]; exact .nil), rfl⟩ rfl .nil
  · split at hr <;> try (cases hr; done)
    rename_i hn
    injection hr with hr; subst hr
    have hum : ¬ e.U nx := hu nx (by simp)
    have hxv := isMapN_ok hk hn hx
    have hrun : (Instr.range t x).run P e.w = .ok (.pointer (some ⟨e.w.heap.size, 0, none⟩)) (e.w.alloc (.mapIter none 0 #[] 0)) := by
      rw [hxv]
      simp [Instr.range, run_under hun, Sem.run, newObj]
    refine does_value hrun ⟨e.newT nx 0 (.mapIter none 0 #[] 0), rfl, h.newT hum ?_, h.le_newT hum _, fun j hj => hj.elim (fun q => .inr (by simp [q])) .inl, ?_⟩
    · exact ⟨.inl rfl, upd_same _ _ _, e.w.heap.size, 0, #[], 0, upd_same _ _ _, alloc_new _ _⟩
    · exact RA.r ⟨e.w.heap.size, 0, .inl rfl, upd_same _ _ _, upd_same _ _ _, (by show Pth T (upd e.ty nx 0 nx) [] 0 0; rw [upd_same]; exact .nil), rfl⟩ rfl .nil
def nextM (of : Nat → Option Ob) (u : A) : Option (A × List Nat) :=
  match u with
  | .p id _ [] => match of id with
    | some (.it none) => some (.t [.b false], [id])
    | some (.it (some m)) => match of m with
      | some (.map _ _ []) => some (.t [.b false], [id, m])
      | _ => none
    | _ => none
  | _ => none
theorem nextM_ok {of' : Nat → Option Ob} {u v : A} {x : Value} {ty : Nat} {ro : List Nat} (h : OSim T c e of') (hr : nextM of u = some (v, ro)) (ho : ∀ id ∈ ro, of' id = of id) (hx : Rep T e u x) :
    Does P (do pure (.value (← Instr.next x false ty))) e.w (Left T c e of' ⟨v, [], ro, []⟩) := by
  unfold nextM at hr
  split at hr <;> try (cases hr; done)
  rename_i id t
  have hx' := rep_p_inv hx
  obtain ⟨b0, off, u1, u2, u3, u4, hxv⟩ := hx'
  cases u4
  have hrep : Rep T e (.t [.b false]) (.tuple #[.bool false]) := by
    refine ⟨#[.bool false], rfl, rfl, fun i v z hv hz => ?_⟩
    match i, hv, hz with
    | 0, hv, hz => simp at hv hz; subst hv; subst hz; exact RA.b .nil
    | i + 1, hv, hz => simp at hv
  split at hr <;> try (cases hr; done)
  · rename_i hof
    simp only [Option.some.injEq, Prod.mk.injEq] at hr
    obtain ⟨rfl, rfl⟩ := hr
    obtain ⟨k1, k2, b, y1, y2, y3, k3, k4⟩ := h.ok _ _ ((ho id (by simp)).trans hof)
    rw [u3] at k3; cases k3
    have hrun : (Instr.next x false ty).run P e.w = .ok (.tuple #[.bool false]) e.w := by
      rw [hxv]
      simp [Instr.next, getObj, Sem.run, k4]
    exact does_value hrun (left_same h hrep)
  · rename_i m hof
    split at hr <;> try (cases hr; done)
    rename_i kt et hm
    simp only [Option.some.injEq, Prod.mk.injEq] at hr
    obtain ⟨rfl, rfl⟩ := hr
    obtain ⟨k1, k2, b, bm, y1, y2, k3, k4, k5, k6, k7⟩ := h.ok _ _ ((ho id (by simp)).trans hof)
    rw [u3] at k3; cases k3
    obtain ⟨m1, m2, b', ms, clock, m3, m4, m5, es', m6, m7⟩ := h.ok _ _ ((ho m (by simp)).trans hm)
    rw [k7] at m3; cases m3
    have hes : es' = [] := List.Perm.eq_nil m6
    subst hes
    have hms : ms = #[] := by
      generalize hl : ms.toList = l at m7
      cases m7
      exact Array.toList_eq_nil_iff.1 hl
    subst hms
    have hrun : (Instr.next x false ty).run P e.w = .ok (.tuple #[.bool false]) e.w := by
      rw [hxv]
      simp [Instr.next, getObj, Sem.run, k4, m4, choose, Question.forced]
    exact does_value hrun (left_same h hrep)
end Go.Vm


namespace Go.Vm
open Go.RowKit
variable {P : Program} {T : TT} {c : Ctx} {e : Env} {of : Nat → Option Ob}
set_option linter.unusedVariables false
set_option linter.constructorNameAsVariable false

/-- Is it made of parts? As its type says. -/
def AggIff (T : TT) (t : Nat) (v : Value) : Prop := (∃ k, kOf T t = some k ∧ k.agg = true) ↔ ∃ cs, v = .agg cs
theorem one_not_agg {v : Value} (h : one v = true) : ¬ ∃ cs, v = .agg cs := fun ⟨cs, hc⟩ => by subst hc; cases h
theorem aggIff_scal {t : Nat} {v : Value} {k : TK} (hk : kOf T t = some k) (ha : k.agg = false) (h : one v = true) : AggIff T t v :=
  ⟨fun ⟨k', h1, h2⟩ => (by rw [hk] at h1; cases h1; rw [ha] at h2; cases h2), fun h' => absurd h' (one_not_agg h)⟩
theorem same_agg {t t' : Nat} (h : same T t t' = true) {v : Value} (ha : AggIff T t' v) : AggIff T t v := by
  have := (same_spec h).1
  unfold AggIff
  rw [this]; exact ha
theorem toV_agg {d t : Nat} {of : Nat → Option Ob} {a : A} {x : V} {wo : List (Nat × Ob)} {v : Value} (hv : toV T d of t a = some (x, wo)) (hr : Rep T e a v) : AggIff T t v := by
  cases d with
  | zero => simp [toV] at hv
  | succ d =>
  have single : ∀ a : A, RA T e [a] [v] → one v = true := fun a h => h.one_ v (by simp)
  have sl : ∀ {a : A}, (∃ y, sliV T of t a = some y) → one v = true → AggIff T t v := fun {a} ⟨y, hy⟩ ho => by
    cases a <;> simp only [sliV] at hy <;> try (cases hy; done)
    all_goals
      (repeat' split at hy) <;> first | (cases hy; done) | skip
      exact aggIff_scal (by assumption) rfl ho
  have fit : ∀ {a a' : A}, asT T t a = some a' → fitA T t a' = true → (∀ t' y, a' ≠ .v t' y) → (∀ t' l, a' ≠ .g t' l) → one v = true → AggIff T t v := by
    intro a a' _ hf h1 h2 ho
    have sc : scal T t = true → AggIff T t v := fun hs => by
      simp only [scal, Bool.and_eq_true] at hs
      cases hk : kOf T t with
      | none => rw [hk] at hs; simp at hs
      | some k => rw [hk] at hs; exact aggIff_scal hk (by simpa using hs.1) ho
    cases a' with
    | v t' y => exact absurd rfl (h1 _ _)
    | g t' l => exact absurd rfl (h2 _ _)
    | i k n => simp only [fitA, Bool.and_eq_true] at hf; split at hf <;> first | exact aggIff_scal (by assumption) rfl ho | (simp at hf; done)
    | b q => simp only [fitA, Bool.and_eq_true] at hf; split at hf <;> first | exact aggIff_scal (by assumption) rfl ho | (simp at hf; done)
    | s l => simp only [fitA, Bool.and_eq_true] at hf; split at hf <;> first | exact aggIff_scal (by assumption) rfl ho | (simp at hf; done)
    | t l => simp [fitA] at hf
    | _ => exact sc hf
  cases a with
  | o id ver => exact sl (a := .o id ver) (by simp only [toV] at hv; split at hv <;> first | (cases hv; done) | exact ⟨_, by assumption⟩) (single _ hr)
  | w id ver off n => exact sl (a := .w id ver off n) (by simp only [toV] at hv; split at hv <;> first | (cases hv; done) | exact ⟨_, by assumption⟩) (single _ hr)
  | a id t1 path lo m => exact sl (a := .a id t1 path lo m) (by simp only [toV] at hv; split at hv <;> first | (cases hv; done) | exact ⟨_, by assumption⟩) (single _ hr)
  | q t' y =>
    simp only [toV] at hv
    split at hv <;> try (cases hv; done)
    rename_i hs
    simp only [Bool.and_eq_true, scal] at hs
    cases hk : kOf T t with
    | none => rw [hk] at hs; simp at hs
    | some k => rw [hk] at hs; exact aggIff_scal hk (by simpa using hs.2.1) (single _ hr)
  | g t' l =>
    simp only [toV] at hv
    split at hv <;> try (cases hv; done)
    rename_i hs
    split at hv <;> try (cases hv; done)
    rename_i ts hts
    refine ⟨fun _ => hr.2, fun _ => ?_⟩
    have e1 : chT T t = some ts := by rw [chT_same (same_spec hs).1]; exact hts
    unfold chT at e1
    split at e1
    · exact ⟨_, by assumption, rfl⟩
    · exact ⟨_, by assumption, rfl⟩
    · cases e1
  | v t' y =>
    simp only [toV, asT] at hv
    split at hv <;> try (cases hv; done)
    rename_i b hb
    split at hb <;> try (cases hb; done)
    rename_i hs
    exact same_agg hs hr.2
  | f fn cap =>
    cases cap with
    | nil =>
      simp only [toV] at hv
      split at hv <;> try (cases hv; done)
      exact aggIff_scal (by assumption) rfl (single _ hr)
    | cons a r =>
      simp only [toV] at hv
      split at hv <;> try (cases hv; done)
      rename_i b hb
      simp only [asT] at hb
      split at hb <;> try (cases hb; done)
      rename_i hf
      injection hb with hb; subst hb
      exact fit (a := .f fn (a :: r)) (a' := .f fn (a :: r)) (by simp only [asT]; rw [if_pos hf]) hf (by intros; simp) (by intros; simp) (single _ hr)
  | z y =>
    simp only [toV, asT] at hv
    split at hv <;> try (cases hv; done)
    rename_i b hb
    have ho := single _ hr
    (repeat' split at hb) <;> first | (cases hb; done) | exact aggIff_scal (by assumption) rfl ho
  | t l => simp only [toV, asT] at hv; cases hv
  | x => simp only [toV, asT] at hv; cases hv
  | _ =>
    simp only [toV] at hv
    split at hv <;> try (cases hv; done)
    rename_i b hb
    have hb' := hb
    simp only [asT] at hb
    split at hb <;> try (cases hb; done)
    rename_i hf
    injection hb with hb; subst hb
    exact fit hb' hf (by intros; simp) (by intros; simp) (single _ hr)

/-! ### Maps of data: entries that no object stands in -/
def dataT (T : TT) : Nat → Nat → Bool
  | 0, _ => false
  | d + 1, t => match kOf T t with
    | some (.int _) | some .bool | some .str => true
    | some (.arr _ el) => dataT T d el
    | some (.slice el) => dataT T d el
    | some (.struct fs) => fs.all (dataT T d)
    | _ => false
/-- Is a map kept as data? Its elements are data, and no slices. -/
def dmapT (T : TT) (et : Nat) : Bool :=
  (match kOf T et with
  | some (.slice _) => false
  | _ => true) && dataT T 8 et
def hasV (kv : V) : List (V × V) → Bool
  | [] => false
  | p :: r => veq p.1 kv || hasV kv r
def getV (kv : V) : List (V × V) → V
  | [] => .n
  | p :: r => bif veq p.1 kv then p.2 else getV kv r
def delV (kv : V) : List (V × V) → List (V × V)
  | [] => []
  | p :: r => bif veq p.1 kv then delV kv r else p :: delV kv r
def setV (kv x : V) (es : List (V × V)) : List (V × V) := (kv, x) :: delV kv es
theorem fndM_vms {et : Nat} {kv : V} : ∀ es : List (V × V), fndM kv (vms et es) = bif hasV kv es then some (.v et (getV kv es)) else none := by
  intro es
  induction es with
  | nil => rfl
  | cons p r ih =>
    simp only [vms, fndM, hasV, getV, ih]
    cases veq p.1 kv <;> rfl
theorem delM_vms {et : Nat} {kv : V} : ∀ es : List (V × V), delM kv (vms et es) = vms et (delV kv es) := by
  intro es
  induction es with
  | nil => rfl
  | cons p r ih =>
    simp only [vms, delM, delV, ih]
    cases veq p.1 kv <;> rfl
theorem vms_len {et : Nat} : ∀ es : List (V × V), (vms et es).length = es.length := by
  intro es
  induction es with
  | nil => rfl
  | cons p r ih => simp [vms, ih]
/-- The same object, told entry by entry. -/
def flat : Ob → Ob
  | .vm kt et es => .map kt et (vms et es)
  | o => o
theorem OK.flat {id : Nat} {o : Ob} : OK T e id (flat o) ↔ OK T e id o := by cases o <;> exact Iff.rfl
theorem OSim.flat_eq {f g : Nat → Option Ob} (h : OSim T c e f) (hfg : ∀ id, (f id).map flat = (g id).map flat) : OSim T c e g := by
  have hs : ∀ id, (g id).isSome → (f id).isSome := fun id hi => by
    have := hfg id
    cases hf : f id with
    | some _ => rfl
    | none => rw [hf] at this; cases hg : g id with
      | none => rw [hg] at hi; cases hi
      | some o => rw [hg] at this; cases this
  refine ⟨fun id o ho => ?_, fun i j b o b' o' hi hj => h.sep i j b o b' o' (hs i hi) (hs j hj), fun id b o hi => h.own id b o (hs id hi), h.lt, h.slt, h.s0, h.snew, h.os, h.tape, h.output, h.size, h.block⟩
  have := hfg id
  rw [ho] at this
  cases hf : f id with
  | none => rw [hf] at this; cases this
  | some o1 =>
    rw [hf] at this
    simp only [Option.map_some, Option.some.injEq] at this
    exact OK.flat.1 (this ▸ OK.flat.2 (h.ok id o1 hf))
theorem flat_upd {f : Nat → Option Ob} {id kt et : Nat} {es : List (V × V)} (h : f id = some (.vm kt et es)) : ∀ j, (f j).map flat = (upd f id (some (.map kt et (vms et es))) j).map flat := by
  intro j
  by_cases hj : j = id
  · subst hj; rw [upd_same, h]; rfl
  · rw [upd_ne _ _ hj]
/-- A map of data, whose number it is. -/
def vmOf (of : Nat → Option Ob) (m : A) : Option (Nat × Nat × Nat × List (V × V)) :=
  match m with
  | .m id => match of id with
    | some (.vm kt et es) => some (id, kt, et, es)
    | _ => none
  | _ => none
theorem vmOf_spec {m : A} {id kt et : Nat} {es : List (V × V)} (h : vmOf of m = some (id, kt, et, es)) : m = .m id ∧ of id = some (.vm kt et es) := by
  unfold vmOf at h
  split at h <;> try (cases h; done)
  split at h <;> try (cases h; done)
  cases h
  exact ⟨rfl, by assumption⟩
/-! Look-ups. -/
def lookV (T : TT) (t : Nat) (k : A) (ok : Bool) (q : Nat × Nat × Nat × List (V × V)) : Option (A × List Nat) :=
  match kOf T t with
  | some (.map kt et) => match T et, keyV T kt k with
    | some te, some kv => if TK.notOther te.k then (if Nat.beq kt q.2.1 && Nat.beq et q.2.2.1 then
        (match hasV kv q.2.2.2 with
        | true => some (okA ok (mkA T et (getV kv q.2.2.2)) true, [q.1])
        | false => some (okA ok (mkA T et te.zero) false, [q.1])) else none) else none
    | _, _ => none
  | _ => none
def lookB (T : TT) (of : Nat → Option Ob) (t : Nat) (m k : A) (ok : Bool) : Option (A × List Nat) :=
  match vmOf of m with
  | some q => lookV T t k ok q
  | none => lookA T of t m k ok
theorem lookB_ok (hT : TOK T P) {of' : Nat → Option Ob} {t : Nat} {m k r : A} {x y : Value} {ok : Bool} {ro : List Nat} (h : OSim T c e of') (hr : lookB T of t m k ok = some (r, ro)) (ho : ∀ id ∈ ro, of' id = of id) (hx : Rep T e m x) (hy : Rep T e k y) :
    Does P (do pure (.value (← Instr.lookup t x y ok))) e.w (Left T c e of' ⟨r, [], ro, []⟩) := by
  unfold lookB at hr
  split at hr
  · rename_i q hq
    obtain ⟨id, kt', et', es⟩ := q
    obtain ⟨rfl, hof⟩ := vmOf_spec hq
    unfold lookV at hr
    split at hr <;> try (cases hr; done)
    rename_i kt et hk
    split at hr <;> try (cases hr; done)
    rename_i te kv hte hkv
    split at hr <;> try (cases hr; done)
    rename_i hne
    split at hr <;> try (cases hr; done)
    rename_i hc
    simp only at hr hc
    have hro : id ∈ ro := by
      split at hr <;> (injection hr with hr; injection hr with _ hr; rw [← hr]; simp)
    have hof' := (ho id hro).trans hof
    have h2 := h.flat_eq (flat_upd hof')
    have hla : lookA T (upd of id (some (.map kt' et' (vms et' es)))) t (.m id) k ok = some (r, ro) := by
      unfold lookA
      simp only [hk, hte, hkv]
      rw [if_pos hne, show isMapN T t (.m id) = false from rfl, cond_false, upd_same]
      simp only
      rw [if_pos hc]
      have hc2 := hc
      simp only [Bool.and_eq_true] at hc2
      have e1 := Nat.eq_of_beq_eq_true hc2.2
      rw [fndM_vms]
      cases hv : hasV kv es with
      | true => rw [hv] at hr; simp only at hr; rw [← e1]; exact hr
      | false => rw [hv] at hr; exact hr
    have := lookA_ok hT h2 hla (fun j hj => by
      by_cases hji : j = id
      · subst hji; rw [upd_same, upd_same]
      · rw [upd_ne _ _ hji, upd_ne _ _ hji]; exact ho j hj) hx hy
    refine does_mono this ?_
    rintro z w' ⟨e', p1, p2, p3, p4, p5⟩
    exact ⟨e', p1, OSim.flat_eq (f := upd of' id (some (.map kt' et' (vms et' es)))) p2 (fun j => (flat_upd hof' j).symm), p3, p4, p5⟩
  · exact lookA_ok hT h hr ho hx hy
/-! New entries, entries that go. -/
def updV (T : TT) (of : Nat → Option Ob) (t : Nat) (k v : A) (q : Nat × Nat × Nat × List (V × V)) : Option (List (Nat × Ob) × List Nat) :=
  match kOf T t with
  | some (.map kt et) => match keyV T kt k, toV T DEP of et v with
    | some kv, some (x, wo) => if (T et).isSome && Nat.beq kt q.2.1 && Nat.beq et q.2.2.1 && !(ids wo).contains q.1 then
        some (wo ++ [(q.1, .vm kt et (setV kv x q.2.2.2))], q.1 :: ids wo) else none
    | _, _ => none
  | _ => none
def updB (T : TT) (of : Nat → Option Ob) (t : Nat) (m k v : A) : Option (List (Nat × Ob) × List Nat) :=
  match vmOf of m with
  | some q => updV T of t k v q
  | none => updM T of t m k v
theorem put_notin : ∀ {wo : List (Nat × Ob)} {f : Nat → Option Ob} {id : Nat}, id ∉ ids wo → put f wo id = f id := by
  intro wo
  induction wo with
  | nil => intro f id _; rfl
  | cons p r ih =>
    intro f id h
    simp only [ids, List.map_cons, List.mem_cons, not_or] at h
    show put (upd f p.1 (some p.2)) r id = _
    rw [ih h.2, upd_ne _ _ h.1]
theorem updB_ok (hT : TOK T P) {of' : Nat → Option Ob} {t : Nat} {m k v : A} {x y z : Value} {wo : List (Nat × Ob)} {ro : List Nat} (h : OSim T c e of') (hr : updB T of t m k v = some (wo, ro)) (ho : ∀ id ∈ ro, of' id = of id) (hx : Rep T e m x) (hy : Rep T e k y) (hz : Rep T e v z) :
    Does P (do Instr.mapUpdate t x y z; pure .skip) e.w (Left T c e of' ⟨.x, wo, ro, []⟩) := by
  unfold updB at hr
  split at hr
  · rename_i q hq
    obtain ⟨id, kt', et', es⟩ := q
    obtain ⟨rfl, hof⟩ := vmOf_spec hq
    unfold updV at hr
    split at hr <;> try (cases hr; done)
    rename_i kt et hk
    split at hr <;> try (cases hr; done)
    rename_i kv xv w1 hkv hxv
    split at hr <;> try (cases hr; done)
    rename_i hc
    simp only [Bool.and_eq_true, Bool.not_eq_true'] at hc
    obtain ⟨⟨⟨hTe, c1⟩, c2⟩, c4⟩ := hc
    have := Nat.eq_of_beq_eq_true c1; subst this
    have := Nat.eq_of_beq_eq_true c2; subst this
    injection hr with hr; injection hr with hr1 hr2; subst hr1; subst hr2
    have hnin : id ∉ ids w1 := fun hin => by
      have : (ids w1).contains id = true := List.contains_iff_mem.2 hin
      rw [this] at c4; cases c4
    have hof' := (ho id (by simp)).trans hof
    have hxv' := (toV_congr (T := T) DEP).1 of of' _ _ _ _ hxv (fun j hj => ho j (by simp [hj]))
    obtain ⟨e1, a1, a2, a3, a4, a5⟩ := toV_spec h hxv' hz
    have ag := toV_agg hxv' hz
    have hp1 : put of' w1 id = some (.vm kt et es) := by rw [put_notin hnin]; exact hof'
    have h2 := a2.flat_eq (flat_upd hp1)
    have hz2 : Rep T e1 (.v et xv) z := ⟨a5, ag⟩
    have hum : updM T (upd (put of' w1) id (some (.map kt et (vms et es)))) t (.m id) k (.v et xv) = some ([(id, .map kt et ((kv, .v et xv) :: delM kv (vms et es)))], [id]) := by
      unfold updM
      simp only [hk, hkv, asT, same_refl, if_true, upd_same, hTe, Nat.beq_refl, Bool.and_self]
    have := updM_ok hT h2 hum (fun _ _ => rfl) (hx.mono a3) (hy.mono a3) hz2
    rw [a1] at this
    refine does_mono this ?_
    rintro u w' ⟨e', p1, p2, p3, p4, p5⟩
    refine ⟨e', p1, ?_, a3.trans p3, fun j hj => (p4 j hj).imp (a4 j) (fun q => by cases q), p5⟩
    have p2 : OSim T c e' (upd (upd (put of' w1) id (some (.map kt et (vms et es)))) id (some (.map kt et ((kv, .v et xv) :: delM kv (vms et es))))) := p2
    refine p2.flat_eq (fun j => ?_)
    show _ = (put of' (w1 ++ [(id, Ob.vm kt et (setV kv xv es))]) j).map flat
    rw [put_append]
    show _ = (upd (put of' w1) id (some (Ob.vm kt et (setV kv xv es))) j).map flat
    by_cases hj : j = id
    · subst hj; rw [upd_same, upd_same, delM_vms]; rfl
    · rw [upd_ne _ _ hj, upd_ne _ _ hj, upd_ne _ _ hj]
  · exact updM_ok hT h hr ho hx hy hz
def dropV (T : TT) (t : Nat) (k : A) (q : Nat × Nat × Nat × List (V × V)) : Option (List (Nat × Ob) × List Nat) :=
  match kOf T t with
  | some (.map kt et) => match keyV T kt k with
    | some kv => if Nat.beq kt q.2.1 && Nat.beq et q.2.2.1 then some ([(q.1, .vm kt et (delV kv q.2.2.2))], [q.1]) else none
    | none => none
  | _ => none
def dropB (T : TT) (of : Nat → Option Ob) (t : Nat) (m k : A) : Option (List (Nat × Ob) × List Nat) :=
  match vmOf of m with
  | some q => dropV T t k q
  | none => dropM T of t m k
theorem dropB_ok (hT : TOK T P) {of' : Nat → Option Ob} {t kt0 ty : TypeId} {m k : A} {x y : Value} {wo : List (Nat × Ob)} {ro : List Nat} (h : OSim T c e of') (hr : dropB T of t m k = some (wo, ro)) (ho : ∀ id ∈ ro, of' id = of id) (hx : Rep T e m x) (hy : Rep T e k y) :
    Does P (do pure (.value (← Builtin.delete_ #[t, kt0] ty #[x, y]))) e.w (Left T c e of' ⟨.x, wo, ro, []⟩) := by
  unfold dropB at hr
  split at hr
  · rename_i q hq
    obtain ⟨id, kt', et', es⟩ := q
    obtain ⟨rfl, hof⟩ := vmOf_spec hq
    unfold dropV at hr
    split at hr <;> try (cases hr; done)
    rename_i kt et hk
    split at hr <;> try (cases hr; done)
    rename_i kv hkv
    split at hr <;> try (cases hr; done)
    rename_i hc
    simp only [Bool.and_eq_true] at hc
    have := Nat.eq_of_beq_eq_true hc.1; subst this
    have := Nat.eq_of_beq_eq_true hc.2; subst this
    injection hr with hr; injection hr with hr1 hr2; subst hr1; subst hr2
    have hof' := (ho id (by simp)).trans hof
    have h2 := h.flat_eq (flat_upd hof')
    have hdm : dropM T (upd of' id (some (.map kt et (vms et es)))) t (.m id) k = some ([(id, .map kt et (delM kv (vms et es)))], [id]) := by
      unfold dropM
      simp only [hk, hkv, upd_same, Nat.beq_refl, Bool.and_self, if_true]
    refine does_mono (dropM_ok hT h2 hdm (fun _ _ => rfl) hx hy) ?_
    rintro u w' ⟨e', p1, p2, p3, p4, p5⟩
    refine ⟨e', p1, ?_, p3, p4, p5⟩
    have p2 : OSim T c e' (upd (upd of' id (some (.map kt et (vms et es)))) id (some (.map kt et (delM kv (vms et es))))) := p2
    refine p2.flat_eq (fun j => ?_)
    show _ = (upd of' id (some (Ob.vm kt et (delV kv es))) j).map flat
    by_cases hj : j = id
    · subst hj; rw [upd_same, upd_same, delM_vms]; rfl
    · rw [upd_ne _ _ hj, upd_ne _ _ hj, upd_ne _ _ hj]
  · exact dropM_ok hT h hr ho hx hy
/-! How many. -/
def lenB (T : TT) (of : Nat → Option Ob) (t : Nat) (u : A) : Option (A × List Nat) :=
  match vmOf of u with
  | some q => match kOf T t with
    | some (.map _ _) => if Nat.ble q.2.2.2.length 9223372036854775807 then some (.i .i64 (q.2.2.2.length : Nat), [q.1]) else none
    | _ => none
  | none => lenA T of t u
theorem lenB_ok (hT : TOK T P) {of' : Nat → Option Ob} {t ty : TypeId} {u r : A} {x : Value} {ro : List Nat} (h : OSim T c e of') (hr : lenB T of t u = some (r, ro)) (ho : ∀ id ∈ ro, of' id = of id) (hx : Rep T e u x) :
    Does P (do pure (.value (← Builtin.len_ #[t] ty #[x]))) e.w (Left T c e of' ⟨r, [], ro, []⟩) := by
  unfold lenB at hr
  split at hr
  · rename_i q hq
    obtain ⟨id, kt', et', es⟩ := q
    obtain ⟨rfl, hof⟩ := vmOf_spec hq
    split at hr <;> try (cases hr; done)
    rename_i kt et hk
    split at hr <;> try (cases hr; done)
    rename_i hc
    injection hr with hr; injection hr with hr1 hr2; subst hr1; subst hr2
    have hof' := (ho id (by simp)).trans hof
    have h2 := h.flat_eq (flat_upd hof')
    have hl : lenA T (upd of' id (some (.map kt' et' (vms et' es)))) t (.m id) = some (.i .i64 (es.length : Nat), [id]) := by
      unfold lenA
      simp only at hc
      simp only [hk, upd_same, vms_len]
      rw [if_pos hc]
    refine does_mono (lenA_ok hT h2 hl (fun _ _ => rfl) hx) ?_
    rintro u w' ⟨e', p1, p2, p3, p4, p5⟩
    exact ⟨e', p1, OSim.flat_eq (f := upd of' id (some (.map kt' et' (vms et' es)))) p2 (fun j => (flat_upd hof' j).symm), p3, p4, p5⟩
  · exact lenA_ok hT h hr ho hx
/-! Ranges. -/
def rangeB (T : TT) (of : Nat → Option Ob) (nx t : Nat) (u : A) : Option Out :=
  match vmOf of u with
  | some q => match kOf T t with
    | some (.map _ _) => some ⟨.p nx 0 [], [(nx, .it (some q.1))], [q.1], [nx]⟩
    | _ => none
  | none => rangeM T of nx t u
theorem rangeB_ok (hT : TOK T P) {of' : Nat → Option Ob} {nx t : Nat} {u : A} {x : Value} {out : Out} (h : OSim T c e of') (hr : rangeB T of nx t u = some out) (ho : ∀ id ∈ out.ro, of' id = of id) (hu : ∀ id ∈ out.nw, ¬ e.U id) (hx : Rep T e u x) :
    Does P (do pure (.value (← Instr.range t x))) e.w (Left T c e of' out) := by
  unfold rangeB at hr
  split at hr
  · rename_i q hq
    obtain ⟨id, kt', et', es⟩ := q
    obtain ⟨rfl, hof⟩ := vmOf_spec hq
    split at hr <;> try (cases hr; done)
    rename_i kt et hk
    injection hr with hr; subst hr
    have hof' := (ho id (by simp)).trans hof
    have h2 := h.flat_eq (flat_upd hof')
    have hl : rangeM T (upd of' id (some (.map kt' et' (vms et' es)))) nx t (.m id) = some ⟨.p nx 0 [], [(nx, .it (some id))], [id], [nx]⟩ := by
      unfold rangeM
      simp only [hk, upd_same]
    refine does_mono (rangeM_ok hT h2 hl (fun _ _ => rfl) hu hx) ?_
    rintro u w' ⟨e', p1, p2, p3, p4, p5⟩
    refine ⟨e', p1, ?_, p3, p4, p5⟩
    have hne : id ≠ nx := fun q => hu nx (by simp) (q ▸ (h.ok id _ hof').use)
    refine p2.flat_eq (fun j => ?_)
    show (upd (upd of' id (some (.map kt' et' (vms et' es)))) nx (some (.it (some id))) j).map flat = (upd of' nx (some (.it (some id))) j).map flat
    by_cases hj : j = nx
    · subst hj; rw [upd_same, upd_same]
    · rw [upd_ne _ _ hj, upd_ne _ _ hj]; exact (flat_upd hof' j).symm
  · exact rangeM_ok hT h hr ho hu hx
def nextB (of : Nat → Option Ob) (u : A) : Option (A × List Nat) :=
  match u with
  | .p id _ [] => match of id with
    | some (.it (some m)) => match of m with
      | some (.vm _ _ []) => some (.t [.b false], [id, m])
      | _ => nextM of u
    | _ => nextM of u
  | _ => none
theorem nextB_ok {of' : Nat → Option Ob} {u v : A} {x : Value} {ty : Nat} {ro : List Nat} (h : OSim T c e of') (hr : nextB of u = some (v, ro)) (ho : ∀ id ∈ ro, of' id = of id) (hx : Rep T e u x) :
    Does P (do pure (.value (← Instr.next x false ty))) e.w (Left T c e of' ⟨v, [], ro, []⟩) := by
  unfold nextB at hr
  split at hr <;> try (cases hr; done)
  rename_i id t
  split at hr
  · rename_i m hof
    split at hr
    · rename_i kt et hm
      injection hr with hr; injection hr with hr1 hr2; subst hr1; subst hr2
      have hof' := (ho id (by simp)).trans hof
      have hm' := (ho m (by simp)).trans hm
      have h2 := h.flat_eq (flat_upd hm')
      have hne : id ≠ m := fun q => by subst q; rw [hof] at hm; cases hm
      have hn : nextM (upd of' m (some (.map kt et (vms et [])))) (.p id t []) = some (.t [.b false], [id, m]) := by
        unfold nextM
        simp only [upd_ne _ _ hne, hof', upd_same, vms]
      refine does_mono (nextM_ok h2 hn (fun _ _ => rfl) hx) ?_
      rintro u w' ⟨e', p1, p2, p3, p4, p5⟩
      exact ⟨e', p1, OSim.flat_eq (f := upd of' m (some (.map kt et (vms et [])))) p2 (fun j => (flat_upd hm' j).symm), p3, p4, p5⟩
    · exact nextM_ok h hr ho hx
  · exact nextM_ok h hr ho hx
/-! A new map. -/
def newMap (T : TT) (kt et : Nat) : Ob := bif dmapT T et then .vm kt et [] else .map kt et []
theorem newMap_flat (kt et : Nat) : flat (newMap T kt et) = .map kt et [] := by
  unfold newMap
  cases dmapT T et <;> rfl
theorem law_newMap {t kt et id : Nat} (h : OSim T c e of) (ht : P.underlying t = some (.map kt et)) (hu : ¬ e.U id) {r : Option Value} (hr : r = none ∨ ∃ k n, r = some (.int k n)) {ro : List Nat} :
    Does P (do pure (.value (← Instr.makeMap t r))) e.w (Left T c e of ⟨.m id, [(id, newMap T kt et)], ro, [id]⟩) := by
  refine does_mono (law_makeMap (ro := ro) h ht hu hr) ?_
  rintro u w' ⟨e', p1, p2, p3, p4, p5⟩
  refine ⟨e', p1, p2.flat_eq (fun j => ?_), p3, p4, p5⟩
  show (upd of id (some (.map kt et [])) j).map flat = (upd of id (some (newMap T kt et)) j).map flat
  by_cases hj : j = id
  · subst hj; rw [upd_same, upd_same, Option.map_some, Option.map_some, newMap_flat]; rfl
  · rw [upd_ne _ _ hj, upd_ne _ _ hj]
end Go.Vm


namespace Go.Vm
open Go.RowKit
variable {P : Program} {T : TT} {c : Ctx} {e : Env} {of : Nat → Option Ob}
set_option linter.unusedVariables false
set_option linter.constructorNameAsVariable false

/-! ### What an operation or a call leaves -/
structure Eff where
  val : A
  wo : List (Nat × Ob)
  ro : List Nat
  nx : Nat
def LeftN (T : TT) (c : Ctx) (e : Env) (of : Nat → Option Ob) (nx : Nat) (f : Eff) (x : Value) (w' : World) : Prop :=
  ∃ e' : Env, e'.w = w' ∧ OSim T c e' (put of f.wo) ∧ e.le e' ∧ (∀ id, e'.U id → e.U id ∨ (nx ≤ id ∧ id < f.nx)) ∧ Rep T e' f.val x
inductive Reps (T : TT) (e : Env) : List A → List Value → Prop
  | nil : Reps T e [] []
  | cons {v x r s} : Rep T e v x → Reps T e r s → Reps T e (v :: r) (x :: s)
abbrev Sym := List A → (Nat → Option Ob) → Nat → Option Eff
/-- What a call of f does. -/
def SymOK (P : Program) (T : TT) (f : FuncId) (s : Sym) : Prop :=
  ∀ (c : Ctx) (e : Env) (of of' : Nat → Option Ob) (args : List A) (vals : Array Value) (nx : Nat) (out : Eff), OSim T c e of' → s args of nx = some out → (∀ id ∈ out.ro, of' id = of id) → (∀ id, nx ≤ id → id < out.nx → ¬ e.U id) → Reps T e args vals.toList →
    Does P (callFunc f vals) e.w (LeftN T c e of' nx out)
def Eff.pv (nx : Nat) (v : A) (ro : List Nat) : Eff := ⟨v, [], ro, nx⟩
def lift (nx : Nat) (o : Option Out) : Option Eff :=
  match o with
  | some ⟨v, wo, ro, nw⟩ => match nw with
    | [] => some ⟨v, wo, ro, nx⟩
    | [k] => if Nat.beq k nx then some ⟨v, wo, ro, nx + 1⟩ else none
    | _ => none
  | none => none
theorem lift_spec {nx : Nat} {o : Option Out} {f : Eff} (h : lift nx o = some f) : ∃ out, o = some out ∧ f.ro = out.ro ∧ (∀ id ∈ out.nw, nx ≤ id ∧ id < f.nx) ∧ (∀ {c : Ctx} {e : Env} {of : Nat → Option Ob} {x w'}, Left T c e of out x w' → LeftN T c e of nx f x w') := by
  unfold lift at h
  split at h <;> try (cases h; done)
  rename_i v wo ro nw
  split at h
  · injection h with h; subst h
    refine ⟨_, rfl, rfl, ?_, ?_⟩
    · intro id hid; cases hid
    · rintro c e of x w' ⟨e', p1, p2, p3, p4, p5⟩
      exact ⟨e', p1, p2, p3, fun id hid => (p4 id hid).elim .inl (fun q => by cases q), p5⟩
  · rename_i k
    split at h <;> try (cases h; done)
    rename_i hk
    have := Nat.eq_of_beq_eq_true hk; subst this
    injection h with h; subst h
    refine ⟨_, rfl, rfl, ?_, ?_⟩
    · intro id hid
      simp only [List.mem_singleton] at hid; subst hid; exact ⟨Nat.le_refl _, Nat.lt_succ_self _⟩
    · rintro c e of x w' ⟨e', p1, p2, p3, p4, p5⟩
      refine ⟨e', p1, p2, p3, fun id hid => (p4 id hid).imp (fun q => q) (fun q => ?_), p5⟩
      simp only [List.mem_singleton] at q; subst q; exact ⟨Nat.le_refl _, Nat.lt_succ_self _⟩
  · cases h
theorem pv_left {nx : Nat} {v : A} {ro : List Nat} {x : Value} {w' : World} (h : Left T c e of ⟨v, [], ro, []⟩ x w') : LeftN T c e of nx (.pv nx v ro) x w' := by
  obtain ⟨e', p1, p2, p3, p4, p5⟩ := h
  exact ⟨e', p1, p2, p3, fun id hid => (p4 id hid).elim .inl (fun q => by cases q), p5⟩
theorem wo_left {nx : Nat} {v : A} {wo : List (Nat × Ob)} {ro : List Nat} {x : Value} {w' : World} (h : Left T c e of ⟨v, wo, ro, []⟩ x w') : LeftN T c e of nx ⟨v, wo, ro, nx⟩ x w' := by
  obtain ⟨e', p1, p2, p3, p4, p5⟩ := h
  exact ⟨e', p1, p2, p3, fun id hid => (p4 id hid).elim .inl (fun q => by cases q), p5⟩
theorem does_pv {s : Sem Next} {w : World} {nx : Nat} {v : A} {ro : List Nat} (h : Does P s w (Left T c e of ⟨v, [], ro, []⟩)) : Does P s w (LeftN T c e of nx (.pv nx v ro)) := does_mono h (fun _ _ => pv_left)
theorem does_wo {s : Sem Next} {w : World} {nx : Nat} {v : A} {wo : List (Nat × Ob)} {ro : List Nat} (h : Does P s w (Left T c e of ⟨v, wo, ro, []⟩)) : Does P s w (LeftN T c e of nx ⟨v, wo, ro, nx⟩) := does_mono h (fun _ _ => wo_left)

/-! ### What stands in a struct is shared -/
theorem OK.sh {id : Nat} {o : Ob} (h : OK T e id o) : OK T e id (shOb o) := by
  cases o with
  | box t a sh =>
    obtain ⟨h1, h2, h2', h2'', b, cs, ty, fz, h3, h4, h5, h5', h6, h7⟩ := h
    exact ⟨h1, h2, h2', h2'', b, cs, ty, fz, h3, h4, h5, h5', h6, fun hh => by cases hh⟩
  | row el ver xs nl sh =>
    obtain ⟨h1, h2, h3, h4, h4', h5, h6⟩ := h
    refine ⟨h1, h2, h3, h4, h4', h5, ?_⟩
    rcases h6 with h6 | ⟨nn, b, o, cs, t, fz, pre, ys, post, g1, g2, g3, g4, g5, g6, g7, g8⟩
    · exact .inl h6
    · exact .inr ⟨nn, b, o, cs, t, fz, pre, ys, post, g1, g2, g3, g4, g5, g6, g7, fun hh => by cases hh⟩
  | map kt et es => exact h
  | vm kt et es => exact h
  | lp q => exact h
  | it q => exact h
theorem OSim.weak {wo : List (Nat × Ob)} (h : OSim T c e of) (hw : AllSh of wo) : OSim T c e (put of wo) := by
  have key : ∀ id, put of wo id = of id ∨ ∃ o0, of id = some o0 ∧ put of wo id = some (shOb o0) := fun id => (allSh_put wo of of hw id (.inl rfl)).1
  have some' : ∀ id, (put of wo id).isSome → (of id).isSome := fun id hs => by
    rcases key id with k | ⟨o0, k1, k2⟩
    · rw [← k]; exact hs
    · rw [k1]; rfl
  refine ⟨fun id o ho => ?_, fun i j b o b' o' hi hj => h.sep i j b o b' o' (some' _ hi) (some' _ hj), fun i b o hi => h.own i b o (some' _ hi), h.lt, h.slt, h.s0, h.snew, h.os, h.tape, h.output, h.size, h.block⟩
  rcases key id with k | ⟨o0, k1, k2⟩
  · rw [k] at ho; exact h.ok _ _ ho
  · rw [k2] at ho; cases ho; exact (h.ok _ _ k1).sh
def shW (of : Nat → Option Ob) : List Nat → List (Nat × Ob)
  | [] => []
  | id :: r => match of id with
    | some o0 => bif isSh o0 then shW of r else (id, shOb o0) :: shW of r
    | none => shW of r
theorem shW_all {of : Nat → Option Ob} : ∀ l : List Nat, AllSh of (shW of l) ∧ ∀ id ∈ ids (shW of l), id ∈ l := by
  intro l
  induction l with
  | nil => exact ⟨fun p hp => (by cases hp), fun id h => (by cases h)⟩
  | cons k r ih =>
    simp only [shW]
    split
    · rename_i o0 ho0
      cases isSh o0 with
      | true => exact ⟨ih.1, fun id h => List.mem_cons_of_mem _ (ih.2 id h)⟩
      | false =>
        refine ⟨fun p hp => ?_, fun id h => ?_⟩
        · rcases List.mem_cons.1 hp with rfl | hp
          · exact ⟨o0, ho0, rfl⟩
          · exact ih.1 p hp
        · simp only [cond_false, ids, List.map_cons, List.mem_cons] at h
          rcases h with rfl | h
          · exact List.mem_cons_self ..
          · exact List.mem_cons_of_mem _ (ih.2 id h)
    · exact ⟨ih.1, fun id h => List.mem_cons_of_mem _ (ih.2 id h)⟩
/-! ### Values of one cell -/
def cellA (T : TT) : A → Bool
  | .v t _ => scal T t
  | .g _ _ | .t _ | .x => false
  | _ => true
theorem cell_RA {a : A} {x : Value} (h : Rep T e a x) (hc : cellA T a = true) : RA T e [a] [x] ∧ one x = true := by
  cases a with
  | v t y =>
    simp only [cellA, scal, Bool.and_eq_true] at hc
    have hk : ∃ k, kOf T t = some k ∧ k.agg = false := by
      cases hk : kOf T t with
      | none => rw [hk] at hc; simp at hc
      | some k => rw [hk] at hc; exact ⟨k, rfl, by simpa using hc.1⟩
    have := rv_single h hk
    exact ⟨RA.v1 this, this.one x (by simp)⟩
  | g _ _ => cases hc
  | t _ => cases hc
  | x => cases hc
  | _ => exact ⟨h, RA.one_ h x (by simp)⟩
theorem RA_cell {a : A} {x : Value} (h : RA T e [a] [x]) (hc : cellA T a = true) : Rep T e a x := by
  have ho := RA.one_ h x (by simp)
  cases a with
  | v t y =>
    simp only [cellA, scal, Bool.and_eq_true] at hc
    refine ⟨by rw [cells_one ho]; exact h.v_inv, ⟨fun ⟨k, h1, h2⟩ => ?_, fun ⟨cs, hx⟩ => by subst hx; cases ho⟩⟩
    rw [h1] at hc; simp [h2] at hc
  | g _ _ => cases hc
  | t _ => cases hc
  | x => cases hc
  | _ => exact h
theorem cell_len {a : A} {d : List Value} (h : RA T e [a] d) (hc : cellA T a = true) : ∃ x, d = [x] := by
  cases a with
  | v t y =>
    simp only [cellA] at hc
    have := h.v_inv.one_len
    rw [scal_size hc] at this
    exact List.length_eq_one_iff.1 this
  | g _ _ => cases hc
  | t _ => cases hc
  | x => cases hc
  | _ => exact h.single rfl
theorem reps_RA : ∀ {l : List A} {vs : List Value}, Reps T e l vs → l.all (cellA T) = true → RA T e l vs := by
  intro l vs h
  induction h with
  | nil => intro _; exact .nil
  | @cons v x r s h1 _ ih =>
    intro hc
    simp only [List.all_cons, Bool.and_eq_true] at hc
    exact RA.append (l := [v]) (xs := [x]) (cell_RA h1 hc.1).1 (ih hc.2)
theorem RA_reps : ∀ {l : List A} {vs : List Value}, RA T e l vs → l.all (cellA T) = true → Reps T e l vs := by
  intro l
  induction l with
  | nil => intro vs h _; cases h; exact .nil
  | cons a l ih =>
    intro vs h hc
    simp only [List.all_cons, Bool.and_eq_true] at hc
    obtain ⟨d, r, rfl, h1, h2⟩ := h.uncons
    obtain ⟨x, rfl⟩ := cell_len h1 hc.1
    exact .cons (RA_cell h1 hc.1) (ih h2 hc.2)
theorem Reps.append {a b : List A} {x y : List Value} (h : Reps T e a x) (k : Reps T e b y) : Reps T e (a ++ b) (x ++ y) := by
  induction h with
  | nil => exact k
  | cons h1 _ ih => exact .cons h1 ih
theorem Reps.get {l : List A} {xs : List Value} (h : Reps T e l xs) : xs.length = l.length ∧ ∀ (i : Nat) v x, l[i]? = some v → xs[i]? = some x → Rep T e v x := by
  induction h with
  | nil => exact ⟨rfl, fun i v x h => by simp at h⟩
  | cons h1 _ ih =>
    refine ⟨by simp [ih.1], fun i v x hv hx => ?_⟩
    cases i with
    | zero => simp at hv hx; subst hv; subst hx; exact h1
    | succ i => exact ih.2 i v x (by simpa using hv) (by simpa using hx)
theorem Reps.mono {e e' : Env} (he : e.le e') {l : List A} {xs : List Value} (h : Reps T e l xs) : Reps T e' l xs := by
  induction h with
  | nil => exact .nil
  | cons h1 _ ih => exact .cons (h1.mono he) ih

/-! ### Constants -/
def constA : Value → A
  | .int k n => if inRb k n then .i k n else .x
  | .bool b => .b b
  | .string s => .s (txt s)
  | v => if nilV v then .z v else .x
theorem constA_ok (v : Value) : Rep T e (constA v) v := by
  unfold constA
  split
  · split
    · rename_i h; exact rep_i (inRb_iff h)
    · trivial
  · exact rep_b _
  · exact rep_s _
  · split
    · rename_i h; exact RA.z h .nil
    · trivial
def evO (sl : Nat → A) : Operand → A
  | .tmp t => sl t
  | .const v => constA v
  | .func f => .f f []
  | .global _ => .x
theorem evO_ok {sl : Nat → A} {a : Act} {x : Operand} (h : ∀ t, x = .tmp t → Rep T e (sl t) (a.tmps.getD t undef)) : Rep T e (evO sl x) (a.eval x) := by
  cases x with
  | tmp t => exact h t rfl
  | const v => exact constA_ok v
  | global g => trivial
  | func f => exact RA.f .nil .nil
end Go.Vm


namespace Go.Vm
open Go.RowKit
variable {P : Program} {T : TT} {c : Ctx} {e : Env} {of : Nat → Option Ob}
set_option linter.unusedVariables false
set_option linter.constructorNameAsVariable false

/-! ### What is known of functions, and of the rounds of a range over a function -/
/-- f: of a function's call; y: of a call of the yield of that loop; ord: is that function called as itself? -/
structure KS where
  f : Nat → Sym
  y : Nat → Sym
  ord : Nat → Bool
instance : CoeFun KS (fun _ => Nat → Sym) := ⟨KS.f⟩
/-- What a call of a loop's yield does. -/
def YOK (P : Program) (T : TT) (id : Nat) (s : Sym) : Prop :=
  ∀ (c : Ctx) (e : Env) (of of' : Nat → Option Ob) (args : List A) (vals : Array Value) (nx : Nat) (out : Eff) (b : Nat), OSim T c e of' → s args of nx = some out → (∀ id ∈ out.ro, of' id = of id) → (∀ id, nx ≤ id → id < out.nx → ¬ e.U id) → Reps T e args vals.toList →
    e.U id → e.bn id = 0 → e.ι id = some (b, 0) → Does P (Instr.yield b vals) e.w (LeftN T c e of' nx out)
structure KOK (P : Program) (T : TT) (K : KS) : Prop where
  f : ∀ f, SymOK P T f (K.f f)
  y : ∀ id, YOK P T id (K.y id)
  ord : ∀ f, K.ord f = true → ∀ (vals : Array Value) (w : World), (callFunc f vals).run P w = .ok (.enter f vals) w
/-- Nothing is known of rounds. -/
def KS.no (f : Nat → Sym) : KS := ⟨f, fun _ _ _ _ => none, fun _ => false⟩
theorem KOK.no {f : Nat → Sym} (h : ∀ i, SymOK P T i (f i)) : KOK P T (.no f) := ⟨h, fun id c e of of' args vals nx out b _ hr => (by cases hr), fun f h => (by cases h)⟩
theorem rep_y_inv {id : Nat} {v : Value} (h : Rep T e (.y id) v) : ∃ b, e.U id ∧ e.bn id = 0 ∧ e.ι id = some (b, 0) ∧ v = .func (.yield b) #[] #[] := by
  have h : RA T e [.y id] [v] := h
  cases h with
  | r h1 _ _ => exact h1

/-! ### Calls -/
def callA (T : TT) (K : KS) (ev : Operand → A) (of : Nat → Option Ob) (nx : Nat) (k : Call) : Option Eff :=
  match k.callee with
  | .value f => match ev f with
    | .f fn cap => if cap.all (cellA T) then K fn (k.args.toList.map ev ++ cap) of nx else none
    | .y id => K.y id (k.args.toList.map ev) of nx
    | _ => none
  | .builtin .len => match k.argTypes.toList, k.args.toList with
    | [t], [x] => match lenB T of t (ev x) with
      | some (v, ro) => some (.pv nx v ro)
      | none => none
    | _, _ => none
  | .builtin .cap => match k.argTypes.toList, k.args.toList with
    | [t], [x] => match capA T t (ev x) with
      | some v => some (.pv nx v [])
      | none => none
    | _, _ => none
  | .builtin .append => match k.argTypes.toList, k.args.toList with
    | [t, xt], [x, y] => if appOk T xt (ev y) then lift nx (appendA T of nx t (ev x) (ev y)) else if isQ T (ev x) then lift nx (zerosA T nx t xt (ev x) (ev y)) else none
    | _, _ => none
  | .builtin .min => match k.args.toList with
    | [x, y] => match minA false (ev x) (ev y) with
      | some v => some (.pv nx v [])
      | none => none
    | _ => none
  | .builtin .max => match k.args.toList with
    | [x, y] => match minA true (ev x) (ev y) with
      | some v => some (.pv nx v [])
      | none => none
    | _ => none
  | .builtin .delete => match k.argTypes.toList, k.args.toList with
    | [t, _], [x, y] => match dropB T of t (ev x) (ev y) with
      | some (wo, ro) => some ⟨.x, wo, ro, nx⟩
      | none => none
    | _, _ => none
  | .builtin .copy => match k.argTypes.toList, k.args.toList with
    | [t, xt], [x, y] => match copyA T of t xt (ev x) (ev y) with
      | some (v, wo, ro) => some ⟨v, wo, ro, nx⟩
      | none => none
    | _, _ => none
  | _ => none
theorem does_congr {s s' : Sem Next} {w : World} {R : Value → World → Prop} (h : ∀ w, s.run P w = s'.run P w) (hd : Does P s' w R) : Does P s w R := by
  unfold Does at hd ⊢
  rw [h]; exact hd
theorem arr1 {α : Type} {a : Array α} {x : α} (h : a.toList = [x]) : a = #[x] := by
  have := congrArg List.toArray h; simpa using this
theorem arr2 {α : Type} {a : Array α} {x y : α} (h : a.toList = [x, y]) : a = #[x, y] := by
  have := congrArg List.toArray h; simpa using this
theorem reps_map {ev : Operand → A} {ρ : Operand → Value} (hx : ∀ x, Rep T e (ev x) (ρ x)) : ∀ l : List Operand, Reps T e (l.map ev) (l.map ρ) := by
  intro l
  induction l with
  | nil => exact .nil
  | cons x r ih => exact .cons (hx x) ih
theorem callA_ok (hT : TOK T P) {K : KS} (hK : KOK P T K) {of' : Nat → Option Ob} {nx : Nat} {k : Call} {ev : Operand → A} {ρ : Operand → Value} {out : Eff} (h : OSim T c e of') (hr : callA T K ev of nx k = some out) (ho : ∀ id ∈ out.ro, of' id = of id)
    (hu : ∀ id, nx ≤ id → id < out.nx → ¬ e.U id) (hx : ∀ x, Rep T e (ev x) (ρ x)) (ty : TypeId) :
    Does P (do let d ← resolve ρ k ty; invoke d.target d.args) e.w (LeftN T c e of' nx out) := by
  unfold callA at hr
  split at hr
  · rename_i f hk
    split at hr <;> try (cases hr; done)
    case h_2 id hf =>
      have hf' := hx f
      rw [hf] at hf'
      obtain ⟨b, y1, y2, y3, hv⟩ := rep_y_inv hf'
      have q1 := hK.y id c e of of' _ (k.args.map ρ) nx out b h hr ho hu (by rw [Array.toList_map]; exact reps_map hx _) y1 y2 y3
      refine does_congr (s' := Instr.yield b (k.args.map ρ)) (fun w => ?_) q1
      simp [resolve, hk, hv, Deferred.ofValue, invoke]
    rename_i fn cap hf
    split at hr <;> try (cases hr; done)
    rename_i hcap
    have hf' := hx f
    rw [hf] at hf'
    obtain ⟨vs, hv, hvs⟩ := rep_f_inv hf'
    have hcaps := RA_reps hvs hcap
    have q1 := hK.f fn c e of of' _ (k.args.map ρ ++ vs.toArray) nx out h hr ho hu (by rw [Array.toList_append, Array.toList_map]; exact (reps_map hx _).append hcaps)
    refine does_congr (s' := callFunc fn (k.args.map ρ ++ vs.toArray)) (fun w => ?_) q1
    simp [resolve, hk, hv, Deferred.ofValue, invoke]
  · rename_i hk
    split at hr <;> try (cases hr; done)
    rename_i t x hty har
    split at hr <;> try (cases hr; done)
    rename_i v ro hl
    injection hr with hr; subst hr
    have hrun : ∀ w, (do let d ← resolve ρ k ty; invoke d.target d.args : Sem Next).run P w = (do pure (.value (← Builtin.len_ #[t] ty #[ρ x])) : Sem Next).run P w := fun w => by
      simp [resolve, hk, invoke, builtin, arr1 hty, arr1 har]
    exact does_congr hrun (does_pv (lenB_ok hT h hl ho (hx x)))
  · rename_i hk
    split at hr <;> try (cases hr; done)
    rename_i t x hty har
    split at hr <;> try (cases hr; done)
    rename_i v hl
    injection hr with hr; subst hr
    have hrun : ∀ w, (do let d ← resolve ρ k ty; invoke d.target d.args : Sem Next).run P w = (do pure (.value (← Builtin.cap_ #[t] ty #[ρ x])) : Sem Next).run P w := fun w => by
      simp [resolve, hk, invoke, builtin, arr1 hty, arr1 har]
    exact does_congr hrun (does_pv (capA_ok hT h hl (hx x)))
  · rename_i hk
    split at hr <;> try (cases hr; done)
    rename_i t xt x y hty har
    have hrun : ∀ w, (do let d ← resolve ρ k ty; invoke d.target d.args : Sem Next).run P w = (do pure (.value (← Builtin.append_ #[t, xt] ty #[ρ x, ρ y])) : Sem Next).run P w := fun w => by
      simp [resolve, hk, invoke, builtin, arr2 hty, arr2 har]
    split at hr
    · rename_i hap
      obtain ⟨o2, h2, h3, h4, h5⟩ := lift_spec hr
      exact does_congr hrun (does_mono (appendA_ok h hT hap h2 (by rw [← h3]; exact ho) (fun id hid => hu id (h4 id hid).1 (h4 id hid).2) (hx x) (hx y)) (fun _ _ => h5))
    · split at hr <;> try (cases hr; done)
      rename_i hq
      obtain ⟨o2, h2, h3, h4, h5⟩ := lift_spec hr
      exact does_congr hrun (does_mono (zerosA_ok hT h h2 hq (fun id hid => hu id (h4 id hid).1 (h4 id hid).2) (hx x) (hx y)) (fun _ _ => h5))
  · rename_i hk
    split at hr <;> try (cases hr; done)
    rename_i x y har
    split at hr <;> try (cases hr; done)
    rename_i v hl
    injection hr with hr; subst hr
    have hrun : ∀ w, (do let d ← resolve ρ k ty; invoke d.target d.args : Sem Next).run P w = (do pure (.value (← Builtin.min_ k.argTypes ty #[ρ x, ρ y])) : Sem Next).run P w := fun w => by
      simp [resolve, hk, invoke, builtin, arr2 har]
    exact does_congr hrun (does_pv (min_ok h hl (hx x) (hx y)))
  · rename_i hk
    split at hr <;> try (cases hr; done)
    rename_i x y har
    split at hr <;> try (cases hr; done)
    rename_i v hl
    injection hr with hr; subst hr
    have hrun : ∀ w, (do let d ← resolve ρ k ty; invoke d.target d.args : Sem Next).run P w = (do pure (.value (← Builtin.max_ k.argTypes ty #[ρ x, ρ y])) : Sem Next).run P w := fun w => by
      simp [resolve, hk, invoke, builtin, arr2 har]
    exact does_congr hrun (does_pv (max_ok h hl (hx x) (hx y)))
  · rename_i hk
    split at hr <;> try (cases hr; done)
    rename_i t t2 x y hty har
    split at hr <;> try (cases hr; done)
    rename_i wo ro hl
    injection hr with hr; subst hr
    have hrun : ∀ w, (do let d ← resolve ρ k ty; invoke d.target d.args : Sem Next).run P w = (do pure (.value (← Builtin.delete_ #[t, t2] ty #[ρ x, ρ y])) : Sem Next).run P w := fun w => by
      simp [resolve, hk, invoke, builtin, arr2 hty, arr2 har]
    exact does_congr hrun (does_wo (dropB_ok hT h hl ho (hx x) (hx y)))
  · rename_i hk
    split at hr <;> try (cases hr; done)
    rename_i t xt x y hty har
    split at hr <;> try (cases hr; done)
    rename_i v wo ro hl
    injection hr with hr; subst hr
    have hrun : ∀ w, (do let d ← resolve ρ k ty; invoke d.target d.args : Sem Next).run P w = (do pure (.value (← Builtin.copy_ #[t, xt] ty #[ρ x, ρ y])) : Sem Next).run P w := fun w => by
      simp [resolve, hk, invoke, builtin, arr2 hty, arr2 har]
    exact does_congr hrun (does_wo (copyA_ok hT h hl ho (hx x) (hx y)))
  · cases hr

/-! ### One operation -/
def partsA (ev : Operand → A) (parts : List (Nat × Operand)) : List (Nat × A) := parts.map fun p => (p.1, ev p.2)
theorem parts_rep {ev : Operand → A} {ρ : Operand → Value} (hx : ∀ x, Rep T e (ev x) (ρ x)) : ∀ (l : List (Nat × Operand)), RepP T e (partsA ev l) (l.map fun p => (p.1, ρ p.2)) := by
  intro l
  induction l with
  | nil => exact .nil
  | cons p r ih => exact .cons (hx _) ih
theorem map_rep {ev : Operand → A} {ρ : Operand → Value} (hx : ∀ x, Rep T e (ev x) (ρ x)) (o : Option Operand) : RepO T e (o.map ev) (o.map ρ) := by
  cases o with
  | none => exact .none
  | some x => exact .some (hx x)
def assignA (T : TT) (ty nx : Nat) (u : A) : Eff :=
  match u with
  | .z v => match kOf T ty with
    | some (.slice el) => if nilS v && Nat.blt 0 (szT T el) then ⟨.o nx 1, [(nx, .row el 1 [] true false)], [], nx + 1⟩ else .pv nx u []
    | _ => .pv nx u []
  | _ => .pv nx u []
def makeSliceA (T : TT) (nx t : Nat) (u v : A) : Option Eff :=
  match kOf T t, u, v with
  | some (.slice el), .i _ a, .i _ b => match T el with
    | some te => if Nat.blt 0 te.size && TK.notOther te.k && Nat.ble te.bytes 131072 && ile 0 a && ile a b && ile b LIM then some ⟨.o nx 1, [(nx, .row el 1 (List.replicate a.toNat te.zero) false false)], [], nx + 1⟩ else none
    | none => none
  | _, _, _ => none
def makeMapA (T : TT) (nx t : Nat) (r : Option A) : Option Eff :=
  match kOf T t with
  | some (.map kt et) => match r with
    | none => some ⟨.m nx, [(nx, newMap T kt et)], [], nx + 1⟩
    | some (.i _ _) => some ⟨.m nx, [(nx, newMap T kt et)], [], nx + 1⟩
    | _ => none
  | _ => none
def putM (T : TT) (of : Nat → Option Ob) (nx t : Nat) (m k v : A) : Option Eff :=
  match updB T of t m k v with
  | some (wo, ro) => some ⟨.x, wo, ro, nx⟩
  | none => none
def pvO (nx : Nat) (o : Option A) : Option Eff :=
  match o with
  | some v => some (.pv nx v [])
  | none => none
def pvR (nx : Nat) (o : Option (A × List Nat)) : Option Eff :=
  match o with
  | some (v, ro) => some (.pv nx v ro)
  | none => none
def pvW (nx : Nat) (o : Option (A × List (Nat × Ob) × List Nat)) : Option Eff :=
  match o with
  | some (v, wo, ro) => some ⟨v, wo, ro, nx⟩
  | none => none
def stepOp (T : TT) (K : KS) (ev : Operand → A) (of : Nat → Option Ob) (nx : Nat) (o : Oper) : Option Eff :=
  match o.op with
  | .move x => some (.pv nx (ev x) [])
  | .assign x => some (assignA T o.type nx (ev x))
  | .pick q a b => match ev q with
    | .b t => some (.pv nx (bif t then ev a else ev b) [])
    | _ => none
  | .alloc el => match T el with
    | some te => if TK.notOther te.k then some ⟨.p nx el [], [(nx, .box el (.v el te.zero) false)], [], nx + 1⟩ else none
    | none => none
  | .box el x => match asT T el (ev x) with
    | some a => some ⟨.p nx el [], [(nx, .box el a false)], [], nx + 1⟩
    | none => none
  | .build t parts => match buildA T t (partsA ev parts.toList) with
    | some v => some (.pv nx v [])
    | none => none
  | .buildSlice t len parts => lift nx (buildSliceA T of nx t len (partsA ev parts.toList))
  | .load t a => pvR nx (loadA T of t (ev a))
  | .store t a x => match storeA T of t (ev a) (ev x) with
    | some (wo, ro) => some ⟨.x, wo, ro, nx⟩
    | none => none
  | .sliceToArrayPointer t x => pvW nx (arrA T of t (ev x))
  | .nilCheck x => match chkA of (ev x) with
    | some ro => some (.pv nx (ev x) ro)
    | none => none
  | .binOp op t x y _ => pvR nx (binA T of op t (ev x) (ev y))
  | .unOp op _ x => pvO nx (unA op (ev x))
  | .convert s t x => lift nx (convA T of nx s t (ev x))
  | .makeFunc fn first captured => match fn with
    | .func f => if Nat.beq first.toList.length 0 && (captured.toList.map ev).all (cellA T) then some (.pv nx (.f f (captured.toList.map ev)) []) else none
    | _ => none
  | .makeSlice t l k => makeSliceA T nx t (ev l) (ev k)
  | .makeMap t r => makeMapA T nx t (r.map ev)
  | .lookup t m k ok => pvR nx (lookB T of t (ev m) (ev k) ok)
  | .mapUpdate t m k v => putM T of nx t (ev m) (ev k) (ev v)
  | .insert t m k v => putM T of nx t (ev m) (ev k) (ev v)
  | .slice t x lo hi mx => pvW nx (sliceA T of t (ev x) (lo.map ev) (hi.map ev) (mx.map ev))
  | .fieldAddr s x f => pvR nx (fieldAddrA T of s f (ev x))
  | .field s x f => pvO nx (fieldA T s f (ev x))
  | .indexAddr t x ix => match ev ix with
    | .i _ i => pvR nx (indexAddrA T of t i (ev x))
    | _ => none
  | .index t x ix => match ev ix with
    | .i _ i => pvO nx (indexA T t i (ev x))
    | _ => none
  | .extract x i => pvO nx (tupA i (ev x))
  | .call k => callA T K ev of nx k
  | .range t x => lift nx (rangeB T of nx t (ev x))
  | .next x str => if str then none else pvR nx (nextB of (ev x))
  | _ => none
theorem pvO_spec {nx : Nat} {o : Option A} {f : Eff} (h : pvO nx o = some f) : ∃ v, o = some v ∧ f = .pv nx v [] := by
  unfold pvO at h
  split at h
  · injection h with h; exact ⟨_, rfl, h.symm⟩
  · cases h
theorem pvR_spec {nx : Nat} {o : Option (A × List Nat)} {f : Eff} (h : pvR nx o = some f) : ∃ v ro, o = some (v, ro) ∧ f = .pv nx v ro := by
  unfold pvR at h
  split at h
  · injection h with h; exact ⟨_, _, rfl, h.symm⟩
  · cases h
theorem pvW_spec {nx : Nat} {o : Option (A × List (Nat × Ob) × List Nat)} {f : Eff} (h : pvW nx o = some f) : ∃ v wo ro, o = some (v, wo, ro) ∧ f = ⟨v, wo, ro, nx⟩ := by
  unfold pvW at h
  split at h
  · injection h with h; exact ⟨_, _, _, rfl, h.symm⟩
  · cases h
theorem does_new {s : Sem Next} {w : World} {nx id : Nat} {v : A} {wo : List (Nat × Ob)} {ro : List Nat} (hd : Does P s w (Left T c e of ⟨v, wo, ro, [nx]⟩)) : Does P s w (LeftN T c e of nx ⟨v, wo, ro, nx + 1⟩) :=
  does_mono hd (fun _ _ ⟨e', p1, p2, p3, p4, p5⟩ => ⟨e', p1, p2, p3, fun id hid => (p4 id hid).imp (fun q => q) (fun q => by simp only [List.mem_singleton] at q; subst q; exact ⟨Nat.le_refl _, Nat.lt_succ_self _⟩), p5⟩)
theorem stepOp_ok (hT : TOK T P) {K : KS} (hK : KOK P T K) {of' : Nat → Option Ob} {nx : Nat} {o : Oper} {ev : Operand → A} {ρ : Operand → Value} {out : Eff} (h : OSim T c e of') (hr : stepOp T K ev of nx o = some out) (ho : ∀ id ∈ out.ro, of' id = of id) (hu : ∀ id, nx ≤ id → id < out.nx → ¬ e.U id)
    (hc : ∀ v, ρ (.const v) = v) (hx : ∀ x, Rep T e (ev x) (ρ x)) : Does P (execOp ρ o) e.w (LeftN T c e of' nx out) := by
  have pure' : ∀ {v : A} {x : Value} {s : Sem Next}, s = pure (.value x) → Rep T e v x → Does P s e.w (LeftN T c e of' nx (.pv nx v [])) := fun {v x s} hs hv => by
    subst hs
    exact does_pv (.inl ⟨x, e.w, by simp, left_same h hv⟩)
  obtain ⟨dst, op, ty, pos, after, guard⟩ := o
  cases op <;> simp only [stepOp] at hr <;> try (cases hr; done)
  case move x =>
    injection hr with hr; subst hr
    exact pure' rfl (hx x)
  case assign x =>
    injection hr with hr
    unfold assignA at hr
    split at hr
    · rename_i v hv
      split at hr
      · rename_i el hk
        split at hr
        · rename_i hcc
          simp only [Bool.and_eq_true] at hcc
          subst hr
          have hxx := hx x
          rw [hv] at hxx
          have hxv : ρ x = .slice none 0 0 := by
            have hxx : RA T e [.z v] [ρ x] := hxx
            generalize ρ x = r at hxx
            cases hxx with
            | z _ _ => exact nilS_eq hcc.1
            | r g1 _ _ => exact g1.elim
          refine does_new (id := nx) (.inl ⟨.slice none 0 0, e.w, by simp [execOp, hxv], left_nil (nl := true) h (hu nx (Nat.le_refl _) (Nat.lt_succ_self _)) rfl (by simpa [Nat.blt_eq] using hcc.2)⟩)
        · subst hr; exact pure' rfl (hv ▸ hx x)
      · subst hr; exact pure' rfl (hv ▸ hx x)
    · subst hr; exact pure' rfl (hx x)
  case pick q a b =>
    split at hr <;> try (cases hr; done)
    rename_i t hq
    injection hr with hr; subst hr
    have hq' := hx q
    rw [hq] at hq'
    have e1 := rep_b_inv hq'
    refine does_pv (.inl ⟨if t then ρ a else ρ b, e.w, by simp [execOp, e1, asBool], left_same h ?_⟩)
    cases t
    · exact hx b
    · exact hx a
  case alloc el =>
    split at hr <;> try (cases hr; done)
    rename_i te hte
    split at hr <;> try (cases hr; done)
    rename_i hne
    injection hr with hr; subst hr
    exact does_new (id := nx) (law_alloc h hT hte hne (hu nx (Nat.le_refl _) (Nat.lt_succ_self _)))
  case box el x =>
    split at hr <;> try (cases hr; done)
    rename_i a ha
    injection hr with hr; subst hr
    exact does_new (id := nx) (law_box h (hu nx (Nat.le_refl _) (Nat.lt_succ_self _)) (hx x) ha)
  case build t parts =>
    split at hr <;> try (cases hr; done)
    rename_i v h2
    injection hr with hr; subst hr
    have := law_build (ro := []) hT h (parts_rep hx parts.toList) h2
    rw [← Array.toList_map, Array.toArray_toList] at this
    exact does_pv this
  case buildSlice t len parts =>
    obtain ⟨o2, h2, h3, h4, h5⟩ := lift_spec hr
    have := law_buildSlice h hT h2 (by rw [← h3]; exact ho) (fun id hid => hu id (h4 id hid).1 (h4 id hid).2) (parts_rep hx parts.toList)
    rw [← Array.toList_map, Array.toArray_toList] at this
    exact does_mono this (fun _ _ => h5)
  case load t a =>
    obtain ⟨v, ro, h2, rfl⟩ := pvR_spec hr
    exact does_pv (loadA_ok hT h h2 ho (hx a))
  case store t a x =>
    split at hr <;> try (cases hr; done)
    rename_i wo ro h2
    injection hr with hr; subst hr
    exact does_wo (storeA_ok hT h h2 ho (hx a) (hx x))
  case sliceToArrayPointer t x =>
    obtain ⟨v, wo, ro, h2, rfl⟩ := pvW_spec hr
    exact does_wo (arrA_ok hT h h2 ho (hx x))
  case nilCheck x =>
    split at hr <;> try (cases hr; done)
    rename_i ro h2
    injection hr with hr; subst hr
    exact does_pv (chkA_ok rfl h h2 ho (hx x))
  case binOp op t x y t2 =>
    obtain ⟨v, ro, h2, rfl⟩ := pvR_spec hr
    exact does_pv (law_binOp hT h (hx x) (hx y) h2 ho)
  case unOp op t x =>
    obtain ⟨v, h2, rfl⟩ := pvO_spec hr
    exact does_pv (unA_ok h h2 (hx x))
  case convert s t x =>
    obtain ⟨o2, h2, h3, h4, h5⟩ := lift_spec hr
    exact does_mono (convA_ok hT h h2 (by rw [← h3]; exact ho) (fun id hid => hu id (h4 id hid).1 (h4 id hid).2) (hx x)) (fun _ _ => h5)
  case makeFunc fn first captured =>
    split at hr <;> try (cases hr; done)
    rename_i f
    split at hr <;> try (cases hr; done)
    rename_i hcc
    simp only [Bool.and_eq_true] at hcc
    injection hr with hr; subst hr
    have h0 : first = #[] := by
      have := Nat.eq_of_beq_eq_true hcc.1
      rw [Array.length_toList] at this
      exact Array.eq_empty_of_size_eq_zero this
    refine does_pv (.inl ⟨.func (.func f) #[] (captured.map ρ), e.w, by simp [execOp, Instr.makeFunc, h0], left_same h ?_⟩)
    have := RA.f (fn := f) (reps_RA (reps_map hx captured.toList) hcc.2) .nil
    have e1 : captured.map ρ = (captured.toList.map ρ).toArray := Array.ext' (by rw [Array.toList_map])
    rw [e1]
    exact this
  case makeSlice t l k =>
    unfold makeSliceA at hr
    split at hr <;> try (cases hr; done)
    rename_i el k1 a k2 b hk hl hkk
    split at hr <;> try (cases hr; done)
    rename_i te hte
    split at hr <;> try (cases hr; done)
    rename_i hcc
    simp only [Bool.and_eq_true, ile_iff] at hcc
    obtain ⟨⟨⟨⟨⟨c1, c2⟩, c3⟩, c4⟩, c5⟩, c6⟩ := hcc
    injection hr with hr; subst hr
    obtain ⟨te', h1, h2⟩ := kOf_some hk
    have hl' := hx l
    have hk' := hx k
    rw [hl] at hl'
    rw [hkk] at hk'
    have e1 := rep_i_inv hl'
    have e2 := rep_i_inv hk'
    refine ?_
    show Does P (do pure (.value (← Instr.makeSlice t (ρ l) (ρ k)))) _ _
    rw [e1, e2]
    have hb := Nat.le_of_ble_eq_true c3
    have hbb : b * te.bytes ≤ 140737488355328 := by
      have h1 : (b : Int) ≤ 1073741824 := c6
      have h2 : (te.bytes : Int) ≤ 131072 := by omega
      calc b * te.bytes ≤ 1073741824 * te.bytes := Int.mul_le_mul_of_nonneg_right h1 (by omega)
        _ ≤ 1073741824 * 131072 := Int.mul_le_mul_of_nonneg_left h2 (by omega)
        _ ≤ 140737488355328 := by omega
    have h63 : b ≤ 4611686018427387904 := by have h1 : (b : Int) ≤ 1073741824 := c6; omega
    exact does_new (id := nx) (law_make (ro := []) h hT (under_slice (hT _ _ h1) h2) hte (notOther_ne c2) (hu nx (Nat.le_refl _) (Nat.lt_succ_self _)) (by simpa [Nat.blt_eq] using c1) c4 c5 hbb h63)
  case makeMap t r =>
    unfold makeMapA at hr
    split at hr <;> try (cases hr; done)
    rename_i kt et hk
    obtain ⟨te', h1, h2⟩ := kOf_some hk
    split at hr <;> try (cases hr; done)
    · rename_i hrn
      have hr0 : r = none := by cases r <;> first | rfl | (simp at hrn; done)
      subst hr0
      injection hr with hr; subst hr
      exact does_new (id := nx) (law_newMap h (under_map (hT _ _ h1) h2) (hu nx (Nat.le_refl _) (Nat.lt_succ_self _)) (.inl rfl))
    · rename_i k n hrn
      obtain ⟨x, rfl, hxn⟩ : ∃ x, r = some x ∧ ev x = .i k n := by cases r <;> simp at hrn; exact ⟨_, rfl, hrn⟩
      injection hr with hr; subst hr
      have hx' := hx x
      rw [hxn] at hx'
      exact does_new (id := nx) (law_newMap h (under_map (hT _ _ h1) h2) (hu nx (Nat.le_refl _) (Nat.lt_succ_self _)) (.inr ⟨k, n, by rw [← rep_i_inv hx']; rfl⟩))
  case lookup t m k ok =>
    obtain ⟨v, ro, h2, rfl⟩ := pvR_spec hr
    exact does_pv (lookB_ok hT h h2 ho (hx m) (hx k))
  case mapUpdate t m k v =>
    unfold putM at hr
    split at hr <;> try (cases hr; done)
    rename_i wo ro h2
    injection hr with hr; subst hr
    exact does_wo (updB_ok hT h h2 ho (hx m) (hx k) (hx v))
  case insert t m k v =>
    unfold putM at hr
    split at hr <;> try (cases hr; done)
    rename_i wo ro h2
    injection hr with hr; subst hr
    exact does_wo (updB_ok hT h h2 ho (hx m) (hx k) (hx v))
  case slice t x lo hi mx =>
    obtain ⟨v, wo, ro, h2, rfl⟩ := pvW_spec hr
    exact does_wo (sliceA_ok hT h h2 ho (hx x) (map_rep hx lo) (map_rep hx hi) (map_rep hx mx))
  case fieldAddr s x f =>
    obtain ⟨v, ro, h2, rfl⟩ := pvR_spec hr
    exact does_pv (fieldAddrA_ok hT h h2 ho (hx x))
  case field s x f =>
    obtain ⟨v, h2, rfl⟩ := pvO_spec hr
    exact does_pv (fieldA_ok hT h h2 (hx x))
  case indexAddr t x ix =>
    split at hr <;> try (cases hr; done)
    rename_i kk i hi
    obtain ⟨v, ro, h2, rfl⟩ := pvR_spec hr
    have hi' := hx ix
    rw [hi] at hi'
    have e1 := rep_i_inv hi'
    refine ?_
    show Does P (do pure (.value (← Instr.indexAt t (ρ x) (ρ ix)))) _ _
    rw [e1]
    exact does_pv (indexAddrA_ok hT h h2 ho (hx x))
  case index t x ix =>
    split at hr <;> try (cases hr; done)
    rename_i kk i hi
    obtain ⟨v, h2, rfl⟩ := pvO_spec hr
    have hi' := hx ix
    rw [hi] at hi'
    have e1 := rep_i_inv hi'
    refine ?_
    show Does P (do pure (.value (← Instr.index t (ρ x) (ρ ix)))) _ _
    rw [e1]
    exact does_pv (indexA_ok hT h h2 (hx x))
  case extract x i =>
    obtain ⟨v, h2, rfl⟩ := pvO_spec hr
    exact does_pv (tupA_ok h h2 (hx x))
  case call k => exact callA_ok hT hK h hr ho hu hx ty
  case range t x =>
    obtain ⟨o2, h2, h3, h4, h5⟩ := lift_spec hr
    exact does_mono (rangeB_ok hT h h2 (by rw [← h3]; exact ho) (fun id hid => hu id (h4 id hid).1 (h4 id hid).2) (hx x)) (fun _ _ => h5)
  case next x str =>
    split at hr <;> try (cases hr; done)
    rename_i hstr
    have hs : str = false := by simpa using hstr
    subst hs
    obtain ⟨v, ro, h2, rfl⟩ := pvR_spec hr
    exact does_pv (nextB_ok h h2 ho (hx x))
end Go.Vm

end
