/- What the operations of a program do, shown once for all programs; and numbers. -/
import Derived.Test.YtoodhpoicinomaaGreatVm4
set_option linter.constructorNameAsVariable false
set_option linter.unusedVariables false
set_option linter.unusedSimpArgs false
noncomputable section
namespace Go.Vm
open Go.RowKit
variable {P : Program} {T : TT} {c : Ctx} {e : Env} {of : Nat → Option Ob}
def Env.newM (e : Env) (id : Nat) (o : Go.Obj) : Env :=
  { w := e.w.alloc o, ι := upd e.ι id (some (e.w.heap.size, 0)), S := e.S, bn := upd e.bn id 0, U := fun j => j = id ∨ e.U j, ty := e.ty, ln := e.ln, G := e.G }
theorem OSim.le_newM (h : OSim T c e of) {id : Nat} (hu : ¬ e.U id) (o : Go.Obj) : e.le (e.newM id o) := by
  refine ⟨fun b i hs => ⟨hs, fun x hx => ?_⟩, fun _ hj => .inr hj, fun j hj _ => ?_, fun j hj h0 => ?_, fun j hj => ?_, fun j hj => rfl, by show _ ≤ (e.w.alloc _).heap.size; rw [size_alloc]; omega, fun b hb => len_of_heap (alloc_old _ _ hb)⟩
  · rw [← hx]; exact cell_of_heap (alloc_old _ _ (h.slt _ _ hs))
  · have hne : j ≠ id := fun e => hu (e ▸ hj)
    exact ⟨upd_ne _ _ hne, rfl, fun b o hb => len_of_heap (alloc_old _ _ (h.lt _ _ _ hj hb))⟩
  · have hne : j ≠ id := fun e => hu (e ▸ hj)
    show upd e.bn id 0 j = 0
    rw [upd_ne _ _ hne]; exact h0
  · have hne : j ≠ id := fun e => hu (e ▸ hj)
    show _ ≤ upd e.bn id 0 j
    rw [upd_ne _ _ hne]; exact Nat.le_refl _
theorem OSim.newM (h : OSim T c e of) {id : Nat} (hu : ¬ e.U id) {g : Go.Obj} {o : Ob} (ho : OK T (e.newM id g) id o) : OSim T c (e.newM id g) (upd of id (some o)) := by
  have hle := h.le_newM hu g
  have ιne : ∀ j, j ≠ id → (e.newM id g).ι j = e.ι j := fun j hj => upd_ne _ _ hj
  have obne : ∀ j, j ≠ id → upd of id (some o) j = of j := fun j hj => upd_ne _ _ hj
  have old : ∀ j b q, (of j).isSome → e.ι j = some (b, q) → b < e.w.heap.size := fun j b q hj hb => by
    obtain ⟨x, hx⟩ := Option.isSome_iff_exists.1 hj
    exact h.lt _ _ _ (h.ok _ _ hx).use hb
  refine ⟨fun j x hj => ?_, fun j k b q b' q' hj hk hb hb' hne => ?_, fun j b q hj hb => ?_, fun j b q hj hb => ?_, fun b i hs => ?_, h.s0, h.snew, h.os, h.tape, h.output, ?_, fun k hk hm => ?_, ?_⟩
  · by_cases he : j = id
    · subst he; rw [upd_same] at hj; cases hj; exact ho
    · rw [obne _ he] at hj
      exact (h.ok _ _ hj).keep hle (upd_ne _ _ he) (fun b q hb => alloc_old _ _ (old _ _ _ (by rw [hj]; rfl) hb)) (fun _ _ _ _ hs => hs) (fun a o' b _ hG => ⟨hG, alloc_old _ _ (h.g.lt _ _ hG), fun i hs => hs⟩)
  · by_cases h1 : j = id
    · subst h1
      have hk' : k ≠ j := Ne.symm hne
      rw [obne _ hk'] at hk; rw [ιne _ hk'] at hb'
      have := old _ _ _ hk hb'
      have hb1 : (e.w.heap.size, 0) = (b, q) := by simpa [Env.newM] using hb
      cases hb1; omega
    · by_cases h2 : k = id
      · subst h2
        rw [obne _ h1] at hj; rw [ιne _ h1] at hb
        have := old _ _ _ hj hb
        have hb1 : (e.w.heap.size, 0) = (b', q') := by simpa [Env.newM] using hb'
        cases hb1; omega
      · rw [obne _ h1] at hj; rw [obne _ h2] at hk; rw [ιne _ h1] at hb; rw [ιne _ h2] at hb'
        exact h.sep _ _ _ _ _ _ hj hk hb hb' hne
  · by_cases h1 : j = id
    · subst h1
      have hb1 : (e.w.heap.size, 0) = (b, q) := by simpa [Env.newM] using hb
      cases hb1; exact .inl h.size
    · rw [obne _ h1] at hj; rw [ιne _ h1] at hb
      exact h.own _ _ _ hj hb
  · have hsz : (e.newM id g).w.heap.size = e.w.heap.size + 1 := size_alloc _ _
    rw [hsz]
    by_cases h1 : j = id
    · subst h1
      have hb1 : (e.w.heap.size, 0) = (b, q) := by simpa [Env.newM] using hb
      cases hb1; omega
    · rw [ιne _ h1] at hb
      rcases hj with hj | hj
      · exact absurd hj h1
      · have := h.lt _ _ _ hj hb; omega
  · have := h.slt _ _ hs
    show b < (e.w.alloc _).heap.size
    rw [size_alloc]; omega
  · show _ ≤ (e.w.alloc _).heap.size
    rw [size_alloc]; have := h.size; omega
  · exact (alloc_old _ _ (by have := h.size; omega)).trans (h.block k hk hm)
  · refine h.g.mono (fun _ _ q => q) rfl (fun _ q => q) (by show _ ≤ (e.w.alloc _).heap.size; rw [size_alloc]; omega) (fun j b o hj hb => ?_)
    by_cases h1 : j = id
    · subst h1
      have hb1 : (e.w.heap.size, 0) = (b, o) := by simpa [Env.newM] using hb
      cases hb1; exact .inr (Nat.le_refl _)
    · rw [obne _ h1] at hj; rw [ιne _ h1] at hb
      exact .inl ⟨j, o, hj, hb⟩
theorem law_makeMap {t kt et id : Nat} (h : OSim T c e of) (ht : P.underlying t = some (.map kt et)) (hu : ¬ e.U id) {r : Option Value} (hr : r = none ∨ ∃ k n, r = some (.int k n)) {ro : List Nat} :
    Does P (do pure (.value (← Instr.makeMap t r))) e.w (Left T c e of ⟨.m id, [(id, .map kt et [])], ro, [id]⟩) := by
  have hrun : (Instr.makeMap t r).run P e.w = .ok (.map (some e.w.heap.size)) (e.w.alloc (.map #[] 0)) := by
    rcases hr with rfl | ⟨k, n, rfl⟩
    · simp [Instr.makeMap]
    · simp [Instr.makeMap, run_under ht, asInt, asIntOf]
  have hok : OK T (e.newM id (.map #[] 0)) id (.map kt et []) :=
    ⟨.inl rfl, upd_same _ _ _, e.w.heap.size, #[], 0, upd_same _ _ _, alloc_new _ _, ⟨List.nodup_nil, stB_nil⟩, [], List.Perm.refl _, .nil⟩
  refine does_value hrun ⟨e.newM id (.map #[] 0), rfl, h.newM hu hok, h.le_newM hu _, fun j hj => hj.elim (fun q => .inr (by simp [q])) .inl, ?_⟩
  exact RA.r ⟨e.w.heap.size, .inl rfl, upd_same _ _ _, upd_same _ _ _, rfl⟩ rfl .nil
theorem OSim.writeM (h : OSim T c e of) {id : Nat} {o o' : Ob} (ho : of id = some o) {b q : Nat} (hι : e.ι id = some (b, q)) {ms ms' : Array MapEntry} {cl cl' : Nat} (h0 : e.w.heap[b]? = some (.map ms cl)) {w' : World} (hw : w' = { e.w with heap := e.w.heap.setIfInBounds b (.map ms' cl') })
    (hok : e.le { e with w := w' } → w'.heap[b]? = some (.map ms' cl') → OK T { e with w := w' } id o') : OSim T c { e with w := w' } (upd of id (some o')) ∧ e.le { e with w := w' } := by
  have hlt : b < e.w.heap.size := (Array.getElem?_eq_some_iff.1 h0).1
  have h1 : w'.heap[b]? = some (.map ms' cl') := by rw [hw]; simp [hlt]
  have hne : ∀ k, k ≠ b → w'.heap[k]? = e.w.heap[k]? := fun k hk => by rw [hw]; simp [Ne.symm hk]
  have hsz : w'.heap.size = e.w.heap.size := by rw [hw]; simp
  have hln : ∀ k, blen w' k = blen e.w k := fun k => by
    by_cases hk' : k = b
    · subst hk'; simp [blen, h0, h1]
    · exact len_of_heap (hne _ hk')
  have hle : e.le { e with w := w' } := by
    refine ⟨fun k i hs => ⟨hs, fun x hx => ?_⟩, fun _ hu => hu, fun j hu _ => ⟨rfl, rfl, fun k q' hk => hln k⟩, fun _ _ h => h, fun _ _ => Nat.le_refl _, fun _ _ => rfl, by show _ ≤ w'.heap.size; omega, fun k _ => hln k⟩
    by_cases hk : k = b
    · subst hk
      simp [World.cell?, h0] at hx
    · rw [← hx]; exact cell_of_heap (hne _ hk)
  exact ⟨h.turn ho hle (fun _ _ => rfl) (fun _ _ => rfl) (fun _ hu => hu) (fun k _ hk => hne k (fun hkb => hk q (by rw [hkb]; exact hι))) (by show _ ≤ w'.heap.size; omega) (fun _ _ hs => .inl hs) (fun k q' hk => .inl ⟨q', hk⟩) (by rw [hw]) (by rw [hw]) (by rw [hw]) (hok hle h1), hle⟩
theorem StB.push {ms : Array MapEntry} {clock : Nat} (h : StB ms clock) {k v : Value} : StB (ms.push { key := k, val := v, born := clock }) (clock + 1) := by
  refine ⟨fun x hx => ?_, ?_⟩
  · rw [Array.toList_push, List.mem_append, List.mem_singleton] at hx
    rcases hx with hx | rfl
    · have := h.1 x hx; omega
    · exact Nat.lt_succ_self _
  · rw [Array.toList_push, List.map_append, List.nodup_append]
    refine ⟨h.2, by simp, fun a ha b hb => ?_⟩
    simp at hb; subst hb
    obtain ⟨x, hx, rfl⟩ := List.mem_map.1 ha
    exact Nat.ne_of_lt (h.1 x hx)
theorem StB.mod {ms : Array MapEntry} {clock : Nat} (h : StB ms clock) {i : Nat} {f : MapEntry → MapEntry} (hf : ∀ x, (f x).born = x.born) : StB (ms.modify i f) clock := by
  have e : (ms.modify i f).toList.map (·.born) = ms.toList.map (·.born) := by
    apply List.ext_getElem?
    intro j
    rw [List.getElem?_map, List.getElem?_map, Array.getElem?_toList, Array.getElem?_toList, Array.getElem?_modify]
    by_cases hij : i = j
    · subst hij; rw [if_pos rfl]; cases ms[i]? with
      | none => rfl
      | some x => simp [hf]
    · rw [if_neg hij]
  refine ⟨fun x hx => ?_, by rw [e]; exact h.2⟩
  have : x.born ∈ (ms.modify i f).toList.map (·.born) := List.mem_map_of_mem hx
  rw [e] at this
  obtain ⟨y, hy, hyx⟩ := List.mem_map.1 this
  rw [← hyx]; exact h.1 y hy
theorem StB.erase {ms : Array MapEntry} {clock : Nat} (h : StB ms clock) (i : Nat) : StB (ms.eraseIdxIfInBounds i) clock := by
  by_cases hi : i < ms.size
  · have e : (ms.eraseIdxIfInBounds i).toList = ms.toList.eraseIdx i := by simp [Array.eraseIdxIfInBounds, hi]
    exact ⟨fun x hx => by rw [e] at hx; exact h.1 x (List.mem_of_mem_eraseIdx hx), by rw [e]; exact h.2.sublist ((List.eraseIdx_sublist _ _).map _)⟩
  · have e : ms.eraseIdxIfInBounds i = ms := by simp [Array.eraseIdxIfInBounds, hi]
    rw [e]; exact h
def updM (T : TT) (of : Nat → Option Ob) (t : Nat) (m k v : A) : Option (List (Nat × Ob) × List Nat) :=
  match kOf T t with
  | some (.map kt et) => match keyV T kt k, asT T et v, m with
    | some kv, some a, .m id => match of id with
      | some (.map kt' et' es) => if (T et).isSome && Nat.beq kt kt' && Nat.beq et et' then some ([(id, .map kt et ((kv, a) :: delM kv es))], [id]) else none
      | _ => none
    | _, _, _ => none
  | _ => none
theorem updM_ok (hT : TOK T P) {of' : Nat → Option Ob} {t : Nat} {m k v : A} {x y z : Value} {wo : List (Nat × Ob)} {ro : List Nat} (h : OSim T c e of') (hr : updM T of t m k v = some (wo, ro)) (ho : ∀ id ∈ ro, of' id = of id) (hx : Rep T e m x) (hy : Rep T e k y) (hz : Rep T e v z) :
    Does P (do Instr.mapUpdate t x y z; pure .skip) e.w (Left T c e of' ⟨.x, wo, ro, []⟩) := by
  unfold updM at hr
  split at hr <;> try (cases hr; done)
  rename_i kt et hk
  obtain ⟨tem, h1, h2⟩ := kOf_some hk
  have hu := under_map (hT _ _ h1) h2
  split at hr <;> try (cases hr; done)
  rename_i kv a id hkv hva
  obtain ⟨hf, hkey⟩ := keyV_ok hkv hy
  split at hr <;> try (cases hr; done)
  rename_i kt' et' es hof
  split at hr <;> try (cases hr; done)
  rename_i hc
  simp only [Bool.and_eq_true] at hc
  obtain ⟨⟨c1, c2⟩, c3⟩ := hc
  have := Nat.eq_of_beq_eq_true c2; subst this
  have := Nat.eq_of_beq_eq_true c3; subst this
  obtain ⟨te, hte⟩ := Option.isSome_iff_exists.1 c1
  injection hr with hr; injection hr with e1 e2; subst e1; subst e2
  have hof' := (ho id (by simp)).trans hof
  obtain ⟨v1, v2, b, ms, clock, v3, v4, v5, es', v6, v7⟩ := map_ok h hof'
  obtain ⟨b', u1, u2, u3, rfl⟩ := rep_m_inv hx
  rw [v3] at u3; cases u3
  obtain ⟨rr, g1, g2⟩ := find_V hT hf hkey e.w v7
  have hg : (getObj b).run P e.w = .ok (.map ms clock) e.w := MapKept.run_getObj_map v4
  have hck : ∀ em, (Instr.checkKey em 10000 kt y).run P e.w = .ok () e.w := fun em => run_checkKey_V hT em e.w EQD kt 9992 kv y hf hkey
  have hset : ∀ o, (setObj b o).run P e.w = .ok () { e.w with heap := e.w.heap.setIfInBounds b o } := fun o => MapKept.run_setObj_map o v4
  have hrepv := asT_rep hte hz hva
  have hfit := asT_fit hva
  have k1 : Rep1 T e (.v kt kv) y := hkey
  have hnd : ((delM kv es).map (·.1)).Nodup := by rw [delM_filter]; exact v5.1.sublist (List.filter_sublist.map _)
  have hnin : kv ∉ (delM kv es).map (·.1) := by
    rw [delM_filter]
    intro hm
    obtain ⟨p, hp, hpk⟩ := List.mem_map.1 hm
    have := (List.mem_filter.1 hp).2
    rw [hpk, veq_refl] at this
    simp at this
  have hnd2 : (((kv, a) :: delM kv es).map (·.1)).Nodup := by
    rw [List.map_cons, List.nodup_cons]; exact ⟨hnin, hnd⟩
  have v6' : (es'.map (·.1)).Nodup := (v6.map _).nodup_iff.2 v5.1
  rcases g2.fnd v5.1 v6 with ⟨rfl, hfn⟩ | ⟨i, me, a0, rfl, hm1, hm2, hfn⟩
  · obtain ⟨q1, q2⟩ := h.writeM hof' v3 v4 (ms' := ms.push { key := y, val := z, born := clock }) (cl' := clock + 1) rfl (o' := .map kt et ((kv, a) :: delM kv es)) (fun hle hh =>
      ⟨v1, v2, b, _, _, v3, hh, ⟨hnd2, v5.2.push⟩, es' ++ [(kv, a)], by
        rw [delM_filter, filter_none (fndM_none.1 hfn)]
        exact (List.perm_append_singleton _ _).trans (v6.cons _), by
        rw [Array.toList_push]
        exact (v7.mono hle).push (m := { key := y, val := z, born := clock }) (k1.mono hle) ((rep1_fit hrepv hfit).mono hle) hfit⟩)
    refine .inr (.inl ⟨_, ?_, ⟨_, rfl, q1, q2, fun j hj => .inl hj, trivial⟩⟩)
    simp [Instr.mapUpdate, run_under hu, hg, hck, g1, hset]
  · obtain ⟨r1, r2, r3⟩ := v7.at hm2 hm1
    have hkeq : me.key = y := (rep_key hf k1).2 _ r1
    have hj : ms[i]? = some me := by simpa using hm1
    obtain ⟨q1, q2⟩ := h.writeM hof' v3 v4 (ms' := ms.modify i fun e => { e with key := y, val := z }) (cl' := clock) rfl (o' := .map kt et ((kv, a) :: delM kv es)) (fun hle hh =>
      ⟨v1, v2, b, _, _, v3, hh, ⟨hnd2, v5.2.mod (fun _ => rfl)⟩, es'.set i (kv, a), by
        refine (set_perm hm2).trans (List.Perm.cons _ ?_)
        rw [delM_filter, ← filter_erase v6' hm2]
        exact v6.filter _, by
        have e1 : (ms.modify i fun e => { e with key := y, val := z }).toList = ms.toList.set i { me with key := y, val := z } := by
          apply List.ext_getElem?
          intro j
          rw [Array.getElem?_toList, Array.getElem?_modify, List.getElem?_set]
          by_cases hij : i = j
          · subst hij
            rw [if_pos rfl, if_pos rfl, hj]
            have : i < ms.toList.length := (List.getElem?_eq_some_iff.1 hm1).1
            rw [if_pos this]; rfl
          · rw [if_neg hij, if_neg hij, Array.getElem?_toList]
        rw [e1]
        exact (v7.mono hle).set hm2 hm1 (m' := { me with key := y, val := z }) (k1.mono hle) ((rep1_fit hrepv hfit).mono hle) hfit⟩)
    have hst : (Instr.keyThatStays y y).run P e.w = .ok y e.w := run_stays (rep_key hf k1).1 e.w
    refine .inr (.inl ⟨_, ?_, ⟨_, rfl, q1, q2, fun j hj => .inl hj, trivial⟩⟩)
    simp [Instr.mapUpdate, run_under hu, hg, hck, g1, hj, hkeq, hst, hset]
def dropM (T : TT) (of : Nat → Option Ob) (t : Nat) (m k : A) : Option (List (Nat × Ob) × List Nat) :=
  match kOf T t with
  | some (.map kt et) => match keyV T kt k, m with
    | some kv, .m id => match of id with
      | some (.map kt' et' es) => if Nat.beq kt kt' && Nat.beq et et' then some ([(id, .map kt et (delM kv es))], [id]) else none
      | _ => none
    | _, _ => none
  | _ => none
theorem dropM_ok (hT : TOK T P) {of' : Nat → Option Ob} {t kt0 ty : TypeId} {m k : A} {x y : Value} {wo : List (Nat × Ob)} {ro : List Nat} (h : OSim T c e of') (hr : dropM T of t m k = some (wo, ro)) (ho : ∀ id ∈ ro, of' id = of id) (hx : Rep T e m x) (hy : Rep T e k y) :
    Does P (do pure (.value (← Builtin.delete_ #[t, kt0] ty #[x, y]))) e.w (Left T c e of' ⟨.x, wo, ro, []⟩) := by
  unfold dropM at hr
  split at hr <;> try (cases hr; done)
  rename_i kt et hk
  obtain ⟨tem, h1, h2⟩ := kOf_some hk
  have hu := under_map (hT _ _ h1) h2
  split at hr <;> try (cases hr; done)
  rename_i kv id hkv
  obtain ⟨hf, hkey⟩ := keyV_ok hkv hy
  split at hr <;> try (cases hr; done)
  rename_i kt' et' es hof
  split at hr <;> try (cases hr; done)
  rename_i hc
  simp only [Bool.and_eq_true] at hc
  have := Nat.eq_of_beq_eq_true hc.1; subst this
  have := Nat.eq_of_beq_eq_true hc.2; subst this
  injection hr with hr; injection hr with e1 e2; subst e1; subst e2
  have hof' := (ho id (by simp)).trans hof
  obtain ⟨v1, v2, b, ms, clock, v3, v4, v5, es', v6, v7⟩ := map_ok h hof'
  obtain ⟨b', u1, u2, u3, rfl⟩ := rep_m_inv hx
  rw [v3] at u3; cases u3
  obtain ⟨rr, g1, g2⟩ := find_V hT hf hkey e.w v7
  have hg : (getObj b).run P e.w = .ok (.map ms clock) e.w := MapKept.run_getObj_map v4
  have hck : ∀ em, (Instr.checkKey em 10000 kt y).run P e.w = .ok () e.w := fun em => run_checkKey_V hT em e.w EQD kt 9992 kv y hf hkey
  have hset : ∀ o, (setObj b o).run P e.w = .ok () { e.w with heap := e.w.heap.setIfInBounds b o } := fun o => MapKept.run_setObj_map o v4
  have hnd : ((delM kv es).map (·.1)).Nodup := by rw [delM_filter]; exact v5.1.sublist (List.filter_sublist.map _)
  have v6' : (es'.map (·.1)).Nodup := (v6.map _).nodup_iff.2 v5.1
  rcases g2.fnd v5.1 v6 with ⟨rfl, hfn⟩ | ⟨i, me, a0, rfl, hm1, hm2, hfn⟩
  · obtain ⟨q1, q2⟩ := h.writeM hof' v3 v4 (ms' := ms) (cl' := clock) rfl (o' := .map kt et (delM kv es)) (fun hle hh =>
      ⟨v1, v2, b, _, _, v3, hh, ⟨hnd, v5.2⟩, es', by rw [delM_filter, filter_none (fndM_none.1 hfn)]; exact v6, v7.mono hle⟩)
    refine does_value (x := .tuple #[]) ?_ ⟨_, rfl, q1, q2, fun j hj => .inl hj, trivial⟩
    simp [Builtin.delete_, run_under hu, hg, hck, g1, hset]
  · obtain ⟨q1, q2⟩ := h.writeM hof' v3 v4 (ms' := ms.eraseIdxIfInBounds i) (cl' := clock) rfl (o' := .map kt et (delM kv es)) (fun hle hh =>
      ⟨v1, v2, b, _, _, v3, hh, ⟨hnd, v5.2.erase i⟩, es'.eraseIdx i, by rw [delM_filter, ← filter_erase v6' hm2]; exact v6.filter _, by
        have e1 : (ms.eraseIdxIfInBounds i).toList = ms.toList.eraseIdx i := by
          have : i < ms.size := by have := (List.getElem?_eq_some_iff.1 hm1).1; simpa using this
          simp [Array.eraseIdxIfInBounds, this]
        rw [e1]
        exact (v7.mono hle).erase i⟩)
    refine does_value (x := .tuple #[]) ?_ ⟨_, rfl, q1, q2, fun j hj => .inl hj, trivial⟩
    simp [Builtin.delete_, run_under hu, hg, hck, g1, hset]
end Go.Vm

namespace Go.Vm
open Go.RowKit
variable {P : Program} {T : TT} {c : Ctx} {e : Env} {of : Nat → Option Ob}
def splice (xs : List V) (k : Nat) (ns : List V) : List V := xs.take k ++ (ns ++ xs.drop (k + ns.length))
theorem splice_length {xs : List V} {k : Nat} {ns : List V} (h : k + ns.length ≤ xs.length) : (splice xs k ns).length = xs.length := by
  unfold splice; simp only [List.length_append, List.length_take, List.length_drop]; omega
theorem splice_cells {xs : List V} {el : Nat} {ys : List Value} (h : RV T e (List.replicate xs.length el) xs ys) {k : Nat} {ns : List V} {us : List Value} (hk : k + ns.length ≤ xs.length) (hn : RV T e (List.replicate ns.length el) ns us) :
    ∃ as bs zs, ys = as ++ (bs ++ zs) ∧ as.length = k * szT T el ∧ bs.length = us.length ∧ RV T e (List.replicate xs.length el) (splice xs k ns) (as ++ (us ++ zs)) := by
  obtain ⟨as, q, rfl, h1, h2, h3⟩ := h.split_at k (by omega)
  obtain ⟨bs, zs, rfl, g1, g2, g3⟩ := h3.split_at ns.length (by omega)
  have hul : us.length = ns.length * szT T el := by rw [hn.length.1, szs_replicate]
  refine ⟨as, bs, zs, rfl, h1, by rw [g1, hul], ?_⟩
  have := h2.append (hn.append g3)
  rw [List.drop_drop] at this
  have e1 : List.replicate xs.length el = List.replicate k el ++ (List.replicate ns.length el ++ List.replicate (xs.length - k - ns.length) el) := by
    rw [List.replicate_append_replicate, List.replicate_append_replicate]; congr 1; omega
  rw [e1]
  exact this
theorem run_copy {dt el xt ty : TypeId} {te : TE} {w w' : World} (hd : P.underlying dt = some (.slice el)) (hel : TEok P T el te) {A : Option Addr} {n cap m : Nat} {y : Value} {us : List Value} (hs : Src P w xt y te.size m us) (hm : m ≤ n)
    (hst : ∀ a, A = some a → (storeCells a us).run P w = .ok () w') (hno : A = none → w' = w) :
    (Builtin.copy_ #[dt, xt] ty #[.slice A n cap, y]).run P w = .ok (goInt m) w' := by
  have hmin : Nat.min m n = m := Nat.min_eq_left hm
  have h1 := hs.len w
  have h2 := hs.first w rfl
  cases A with
  | none =>
    have := hno rfl
    subst this
    simp [Builtin.copy_, run_under hd, h1, hmin, run_size hel, h2]
  | some a => simp [Builtin.copy_, run_under hd, h1, hmin, run_size hel, h2, hst a rfl]
def copyA (T : TT) (of : Nat → Option Ob) (t xt : Nat) (u v : A) : Option (A × List (Nat × Ob) × List Nat) :=
  match kOf T t with
  | some (.slice el) => if appOk T xt v && (T el).isSome then
      match srcA T of el v with
      | some (ns, ro) => if Nat.ble ns.length LIM then
          (match ns with
          | [] => (match u with
            | .s _ => none
            | u => match srcA T of el u with
              | some (_, ro2) => some (.i .i64 0, [], ro ++ ro2)
              | none => none)
          | _ :: _ => match u with
            | .a id t1 path lo m => match kOf T t1, of id with
              | some (.arr N el'), some (.box t0 a false) => match atA T a path with
                | some (.v t2 y) => if Nat.beq el el' && Nat.beq t1 t2 && Nat.ble ns.length m && Nat.ble (lo + m) N then (match putA T a path (.v t1 (.l (splice y.els lo ns))) with
                  | some a' => some (.i .i64 (ns.length : Nat), [(id, .box t0 a' false)], id :: ro)
                  | none => none) else none
                | _ => none
              | _, _ => none
            | .w id ver off m => match of id with
              | some (.row el' v' xs false false) => if Nat.beq el el' && Nat.beq v' ver && Nat.ble ns.length m && Nat.ble (off + m) xs.length then some (.i .i64 (ns.length : Nat), [(id, .row el ver (splice xs off ns) false false)], id :: ro) else none
              | _ => none
            | .o id ver => match of id with
              | some (.row el' v' xs false false) => if Nat.beq el el' && Nat.beq v' ver && Nat.ble ns.length xs.length then some (.i .i64 (ns.length : Nat), [(id, .row el ver (splice xs 0 ns) false false)], id :: ro) else none
              | _ => none
            | _ => none)
        else none
      | none => none
    else none
  | _ => none
theorem law_copy_w {dt el xt ty : TypeId} {te : TE} (h : OSim T c e of) (hT : TOK T P) (hd : P.underlying dt = some (.slice el)) (hel : T el = some te) {id ver off m : Nat} {xs ns : List V} {x y : Value} {us : List Value} (ho : of id = some (.row el ver xs false false)) (hx : Rep T e (.w id ver off m) x) (hm : off + m ≤ xs.length) (hn : ns.length ≤ m) (h0 : 0 < ns.length)
    (hs : Src P e.w xt y te.size ns.length us) (hus : RV T e (List.replicate ns.length el) ns us) (hl : ns.length ≤ 9223372036854775807) {ro : List Nat} :
    Does P (do pure (.value (← Builtin.copy_ #[dt, xt] ty #[x, y]))) e.w (Left T c e of ⟨.i .i64 (ns.length : Nat), [(id, .row el ver (splice xs off ns) false false)], ro, []⟩) := by
  obtain ⟨u1, u2, u3, u4, u5, u6, u7⟩ := row_ok h ho
  obtain ⟨b, o, cap, k, k1, k2, k3, k4, k5, rfl⟩ := rep_w_inv hx u3
  rcases u7 with ⟨hq, _, _⟩ | ⟨_, b', o', cs, ty', fz, pre, ys, post, g1, g2, g3, g4, g5, g6, g7, g8⟩
  · cases hq
  rw [g1] at k1; cases k1
  rw [u4] at k4 k5
  have hkk := k5 (by omega)
  obtain ⟨as, bs, zs, rfl, s1, s2, s3⟩ := splice_cells g6 (k := off) (ns := ns) (by omega) hus
  have e1 : pre ++ (as ++ (bs ++ zs)) ++ post = (pre ++ as) ++ (bs ++ (zs ++ post)) := by simp
  rw [e1] at g4
  have hoff : (pre ++ as).length = k := by simp only [List.length_append]; omega
  have hcl : cs.size = (pre ++ as).length + (bs.length + (zs ++ post).length) := by
    have := congrArg List.length g4; simpa only [Array.length_toList, List.length_append] using this
  obtain ⟨cs', f1, f2⟩ := setCells_heap_eq us g2 (i := k) (by omega)
  rw [set_mid g4 hoff (by omega)] at f2
  have hsz : cs'.size = cs.size := by
    have := congrArg List.length f2
    simp only [Array.length_toList, List.length_append] at this hcl
    omega
  have hspl : (splice xs off ns).length = xs.length := splice_length (by omega)
  obtain ⟨hos, hll⟩ := h.write ho g1 g2 f1 hsz (fun k hk => setCells_heap_ne _ _ _ _ hk) (setCells_size _ _ _ _) (setCells_os _ _ _ _)
    (fun j hs => by
      have hj : j < o := Nat.lt_of_not_le (fun hoj => g8 rfl j hoj hs)
      have key : ∀ X : List Value, ((pre ++ as) ++ X)[j]? = (pre ++ as)[j]? := fun X => List.getElem?_append_left (by simp only [List.length_append]; omega)
      rw [← Array.getElem?_toList, ← Array.getElem?_toList, f2, g4, key, key])
    (o' := .row el ver (splice xs off ns) false false)
    (fun hle => ⟨u1, u2, u3, u4, by rw [hspl]; exact u5, u6, .inr ⟨rfl, b, o, cs', ty', fz, pre, as ++ (us ++ zs), post, g1, f1, free_of g3 g2 f1 hsz, by rw [f2]; simp, g5, by rw [hspl]; exact s3.mono hle,
      fun j hj => g7 j (by simp only [List.length_append] at hj ⊢; omega), fun hh j hj => g8 hh j hj⟩⟩)
  refine does_value (x := goInt ns.length) (w' := setCells e.w b k us) (run_copy hd (hT _ _ hel) hs hn (fun a ha => ?_) (fun ha => by cases ha)) ⟨_, rfl, hos, hll, fun _ hu => .inl hu, rep_i (by constructor <;> simp only [lo, hi] <;> omega)⟩
  cases ha
  exact run_storeCells g2 g3 hus.one (by omega)
theorem law_copy_a {dt el xt ty : TypeId} {te : TE} (h : OSim T c e of) (hT : TOK T P) (hd : P.underlying dt = some (.slice el)) (hel : T el = some te) {id t0 t1 N lo0 m : Nat} {path : List Nat} {a a' : A} {v : V} {ns : List V} {x y : Value} {us : List Value} (ho : of id = some (.box t0 a false)) (hk1 : kOf T t1 = some (.arr N el)) (hat : atA T a path = some (.v t1 v))
    (hput : putA T a path (.v t1 (.l (splice v.els lo0 ns))) = some a') (hx : Rep T e (.a id t1 path lo0 m) x) (hn : ns.length ≤ m) (h0 : 0 < ns.length)
    (hs : Src P e.w xt y te.size ns.length us) (hus : RV T e (List.replicate ns.length el) ns us) (hl : ns.length ≤ 9223372036854775807) {ro : List Nat} :
    Does P (do pure (.value (← Builtin.copy_ #[dt, xt] ty #[x, y]))) e.w (Left T c e of ⟨.i .i64 (ns.length : Nat), [(id, .box t0 a' false)], ro, []⟩) := by
  obtain ⟨u1, u2, u3, u4, b, cs, ty', fz, g1, g2, g3, g4, g5, g6⟩ := box_cells h ho
  obtain ⟨b', off, n', el', k, cap, _, _, k1, k2, k3, k4, k5, k6, rfl⟩ := rep_a_inv hx
  rw [g1] at k1; cases k1
  rw [hk1] at k3; cases k3
  rw [u3] at k2
  obtain ⟨pre0, d0, post0, q1, q2, q3, q4, q5⟩ := atA_spec path g5 u4 k2 hat
  obtain ⟨ys, rfl, hyl, hy⟩ := q4.v_inv.arr_inv hk1
  subst hyl
  obtain ⟨as, bs, zs, rfl, s1, s2, s3⟩ := splice_cells hy (k := lo0) (ns := ns) (by omega) hus
  have hsz1 : szT T t1 = (as ++ (us ++ zs)).length := by rw [← q3]; simp only [List.length_append]; omega
  have hnew : RV T e [t1] [.l (splice ys lo0 ns)] (as ++ (us ++ zs)) := by
    have := RV.arr hk1 hsz1 s3 .nil
    rwa [List.append_nil] at this
  obtain ⟨pre, d, post, p1, p2, p3, p4, p5⟩ := putA_spec path g5 u4 k2 (RA.v1 hnew) (fitA_v _ _) hput
  have hkk := k6 (by omega)
  have hpp : pre = pre0 ∧ d = as ++ (bs ++ zs) ∧ post = post0 := by
    rw [q1] at p1
    obtain ⟨e1, e2⟩ := List.append_inj p1 (by omega)
    obtain ⟨e3, e4⟩ := List.append_inj e2 (by omega)
    exact ⟨e1.symm, e3.symm, e4.symm⟩
  obtain ⟨rfl, rfl, rfl⟩ := hpp
  have e1 : pre ++ ((as ++ (bs ++ zs)) ++ post) = (pre ++ as) ++ (bs ++ (zs ++ post)) := by simp
  rw [e1] at p1
  have hoff : (pre ++ as).length = k := by simp only [List.length_append]; omega
  have hcl : cs.size = (pre ++ as).length + (bs.length + (zs ++ post).length) := by
    have := congrArg List.length p1; simpa only [Array.length_toList, List.length_append] using this
  obtain ⟨cs', f1, f2⟩ := setCells_heap_eq us g2 (i := k) (by omega)
  rw [set_mid p1 hoff (by omega)] at f2
  have hsz : cs'.size = cs.size := by
    have := congrArg List.length f2
    simp only [Array.length_toList, List.length_append] at this hcl
    omega
  obtain ⟨hos, hll⟩ := h.write ho g1 g2 f1 hsz (fun k hk => setCells_heap_ne _ _ _ _ hk) (setCells_size _ _ _ _) (setCells_os _ _ _ _) (fun i hs => absurd hs (g6 rfl i))
    (o' := .box t0 a' false) (fun hle => ⟨u1, u2, u3, p5, b, cs', ty', fz, g1, f1, free_of g3 g2 f1 hsz, by omega, by
      rw [f2, show pre ++ as ++ (us ++ (zs ++ post)) = pre ++ ((as ++ (us ++ zs)) ++ post) by simp]; exact p4.mono hle, fun _ i => g6 rfl i⟩)
  refine does_value (x := goInt ns.length) (w' := setCells e.w b k us) (run_copy hd (hT _ _ hel) hs hn (fun a ha => ?_) (fun ha => by cases ha)) ⟨_, rfl, hos, hll, fun _ hu => .inl hu, rep_i (by constructor <;> simp only [lo, hi] <;> omega)⟩
  cases ha
  exact run_storeCells g2 g3 hus.one (by omega)
theorem copyA_ok (hT : TOK T P) {of' : Nat → Option Ob} {t xt ty : TypeId} {u v r : A} {x y : Value} {wo : List (Nat × Ob)} {ro : List Nat} (h : OSim T c e of') (hr : copyA T of t xt u v = some (r, wo, ro)) (ho : ∀ id ∈ ro, of' id = of id) (hx : Rep T e u x) (hy : Rep T e v y) :
    Does P (do pure (.value (← Builtin.copy_ #[t, xt] ty #[x, y]))) e.w (Left T c e of' ⟨r, wo, ro, []⟩) := by
  unfold copyA at hr
  split at hr <;> try (cases hr; done)
  rename_i el hk
  obtain ⟨tem, h1, h2⟩ := kOf_some hk
  have hu := under_slice (hT _ _ h1) h2
  split at hr <;> try (cases hr; done)
  rename_i hc
  simp only [Bool.and_eq_true] at hc
  obtain ⟨hty, hst⟩ := appOk_spec hT hc.1
  obtain ⟨te, hte⟩ := Option.isSome_iff_exists.1 hc.2
  split at hr <;> try (cases hr; done)
  rename_i ns ro1 hsrc
  split at hr <;> try (cases hr; done)
  rename_i hlim
  have hlim : ns.length ≤ 9223372036854775807 := Nat.le_trans (Nat.le_of_ble_eq_true hlim) (by decide)
  have src : (∀ id ∈ ro1, of' id = of id) → ∃ us, Src P e.w xt y te.size ns.length us ∧ RV T e (List.replicate ns.length el) ns us := fun ho => by
    obtain ⟨us, s1, s2⟩ := srcA_ok (xt := xt) h hty hst hsrc ho hy
    rw [szT_of hte] at s1
    exact ⟨us, s1, s2⟩
  split at hr
  · split at hr <;> try (cases hr; done)
    rename_i hns
    split at hr <;> try (cases hr; done)
    rename_i ro2 hs2
    injection hr with hr; injection hr with e1 e2; injection e2 with e2 e3; subst e1; subst e2; subst e3
    obtain ⟨us, s1, s2⟩ := src (fun id hid => ho id (by simp [hid]))
    obtain ⟨p, n, k, rfl⟩ := srcA_slice h hs2 (fun id hid => ho id (by simp [hid])) hx hns
    have hus : us = [] := by have := s1.size; simpa using this
    subst hus
    refine does_value (run_copy hu (hT _ _ hte) s1 (Nat.zero_le _) (fun a ha => ?_) (fun _ => rfl)) (left_same h (rep_i (by constructor <;> simp [lo, hi])))
    simp [storeCells]
  · rename_i q qs hq0
    have h0 : 0 < (q :: qs).length := by simp
    split at hr <;> try (cases hr; done)
    · rename_i id t1 path lo0 m
      split at hr <;> try (cases hr; done)
      rename_i N el' t0 a hk1 hof
      split at hr <;> try (cases hr; done)
      rename_i t2 v2 hat
      split at hr <;> try (cases hr; done)
      rename_i hc2
      simp only [Bool.and_eq_true] at hc2
      obtain ⟨⟨⟨c1, c2⟩, c3⟩, c4⟩ := hc2
      have := Nat.eq_of_beq_eq_true c1; subst this
      have := Nat.eq_of_beq_eq_true c2; subst this
      split at hr <;> try (cases hr; done)
      rename_i a' hput
      injection hr with hr; injection hr with e1 e2; injection e2 with e2 e3; subst e1; subst e2; subst e3
      obtain ⟨us, s1, s2⟩ := src (fun id hid => ho id (by simp [hid]))
      exact law_copy_a h hT hu hte ((ho id (by simp)).trans hof) hk1 hat hput hx (Nat.le_of_ble_eq_true c3) h0 s1 s2 hlim
    · rename_i id ver off m
      split at hr <;> try (cases hr; done)
      rename_i el' v' xs hof
      split at hr <;> try (cases hr; done)
      rename_i hc2
      simp only [Bool.and_eq_true] at hc2
      obtain ⟨⟨⟨c1, c2⟩, c3⟩, c4⟩ := hc2
      have := Nat.eq_of_beq_eq_true c1; subst this
      have := Nat.eq_of_beq_eq_true c2; subst this
      injection hr with hr; injection hr with e1 e2; injection e2 with e2 e3; subst e1; subst e2; subst e3
      obtain ⟨us, s1, s2⟩ := src (fun id hid => ho id (by simp [hid]))
      exact law_copy_w h hT hu hte ((ho id (by simp)).trans hof) hx (Nat.le_of_ble_eq_true c4) (Nat.le_of_ble_eq_true c3) h0 s1 s2 hlim
    · rename_i id ver
      split at hr <;> try (cases hr; done)
      rename_i el' v' xs hof
      split at hr <;> try (cases hr; done)
      rename_i hc2
      simp only [Bool.and_eq_true] at hc2
      obtain ⟨⟨c1, c2⟩, c3⟩ := hc2
      have := Nat.eq_of_beq_eq_true c1; subst this
      have := Nat.eq_of_beq_eq_true c2; subst this
      injection hr with hr; injection hr with e1 e2; injection e2 with e2 e3; subst e1; subst e2; subst e3
      obtain ⟨us, s1, s2⟩ := src (fun id hid => ho id (by simp [hid]))
      have hof' := (ho id (by simp)).trans hof
      obtain ⟨v0, v1, v2, v3, v4, v5, h6⟩ := row_ok h hof'
      have hι : e.ι id ≠ none := by
        rcases h6 with ⟨hf, _⟩ | ⟨_, b, o, _, _, _, _, _, _, g, _⟩
        · cases hf
        · rw [g]; intro q; cases q
      have hw := o_as_w hx v2 v1 hι v0
      rw [v4] at hw
      exact law_copy_w h hT hu hte hof' hw (by omega) (Nat.le_of_ble_eq_true c3) h0 s1 s2 hlim
end Go.Vm

namespace Go.Vm
open Go.RowKit
variable {P : Program} {T : TT} {c : Ctx} {e : Env} {of : Nat → Option Ob}
theorem run_append_zeros {t xt ty el : TypeId} {te : TE} {w : World} {k : IntKind} (ht : P.underlying t = some (.slice el)) (hel : TEok P T el te) (hxt : P.underlying xt = some (.int k)) {m : Nat} (h0 : 0 < m) (hz0 : 0 < te.size)
    (hbytes : m * te.bytes ≤ 140737488355328) (h63 : m ≤ 4611686018427387904) :
    ∃ (z : Value) (cap2 : Nat), m ≤ cap2 ∧ ((∀ e, RV T e [el] [te.zero] z.cells.toList) ∨ te.k = .other) ∧ (Builtin.append_ #[t, xt] ty #[.slice none 0 0, .int k m]).run P w = .ok (.slice (some ⟨w.heap.size, 0, none⟩) m cap2)
      (w.drew.alloc (.cells (Builtin.zeroCells z.cells m ++ Builtin.zeroCells z.cells (cap2 - m)) el)) := by
  obtain ⟨i, d, z, h1, h2, h3, h4, h5, h6, h7, h8⟩ := hel.fits
  have hn : ¬ (m ≤ 0) := by omega
  have hw : IntKind.i64.wrap (m : Int) = m := by
    have h1 : (0 : Int) ≤ m := by omega
    have h2 : (m : Int) ≤ 4611686018427387904 := by omega
    generalize (m : Int) = q at h1 h2
    simp only [IntKind.wrap, IntKind.bits, IntKind.signed]; simp; omega
  have h63' : ¬ (9223372036854775807 < (m : Int)) := by omega
  have hlt : ¬ ((m : Int) < 0) := by omega
  have h48 : ¬ ((281474976710656 : Int) < (m : Int) * (te.bytes : Int)) := by
    have h5 : ((m * te.bytes : Nat) : Int) ≤ ((140737488355328 : Nat) : Int) := Int.ofNat_le.2 hbytes
    rw [Int.natCast_mul] at h5
    have e3 : ((140737488355328 : Nat) : Int) = 140737488355328 := rfl
    rw [e3] at h5
    generalize (m : Int) * (te.bytes : Int) = q at h5
    omega
  have hfit := growslice_fits (need := m) (old := 0) (bytes := te.bytes) (by omega) hbytes
  have h48' : ¬ (281474976710656 < Builtin.nextslicecap m 0 * te.bytes) := by omega
  have hms : ¬ (m * te.size = 0) := Nat.mul_ne_zero (by omega) (by omega)
  refine ⟨z, grownCap w m 0 el, ?_, h7, ?_⟩
  · simp only [grownCap, Question.cut]; omega
  · have hm0 : ¬ m = 0 := by omega
    simp [Builtin.append_, run_under ht, run_under hxt, sizeOf, typeInfo, zeroValue, h1, h3, h4, h6, asInt, asIntOf, hw, hlt, h48, hn, h63', h48', hms, hm0, Question.forced, newRow, grownCap, Builtin.firstCells, show ¬ te.size = 0 by omega]
def zerosA (T : TT) (nx t xt : Nat) (u v : A) : Option Out :=
  match kOf T t, kOf T xt, v with
  | some (.slice el), some (.int k), .i k' m => match T el with
    | some te => if kbeq k k' && Nat.blt 0 te.size && TK.notOther te.k && Nat.ble te.bytes 131072 && ilt 0 m && ile m LIM then
        (match zV T t u with
        | .v t' .n => if same T t t' then some ⟨.o nx 1, [(nx, .row el 1 (List.replicate m.toNat te.zero) false false)], [], [nx]⟩ else none
        | _ => none) else none
    | none => none
  | _, _, _ => none
theorem zerosA_ok (hT : TOK T P) {t xt ty : TypeId} {nx : Nat} {u v : A} {x y : Value} {out : Out} (h : OSim T c e of) (hr : zerosA T nx t xt u v = some out) (hq : isQ T u = true) (hu : ∀ id ∈ out.nw, ¬ e.U id) (hx : Rep T e u x) (hy : Rep T e v y) :
    Does P (do pure (.value (← Builtin.append_ #[t, xt] ty #[x, y]))) e.w (Left T c e of out) := by
  unfold zerosA at hr
  split at hr <;> try (cases hr; done)
  rename_i el k k' m hk hkx
  obtain ⟨te1, h1, h2⟩ := kOf_some hk
  obtain ⟨te2, h3, h4⟩ := kOf_some hkx
  have ht := under_slice (hT _ _ h1) h2
  have hxt := under_int (hT _ _ h3) h4
  split at hr <;> try (cases hr; done)
  rename_i te hte
  split at hr <;> try (cases hr; done)
  rename_i hc
  simp only [Bool.and_eq_true, ilt_iff, ile_iff] at hc
  obtain ⟨⟨⟨⟨⟨c1, c2⟩, c3⟩, c4⟩, c5⟩, c6⟩ := hc
  have := kbeq_eq c1; subst this
  have hz0 : 0 < te.size := by simpa [Nat.blt_eq] using c2
  have hzx := zV_ok hk hx (isQ_spec hq)
  generalize zV T t u = u' at hzx hr
  split at hr <;> try (cases hr; done)
  rename_i t'
  split at hr <;> try (cases hr; done)
  rename_i hs
  injection hr with hr; subst hr
  have hk' := (same_spec hs).1.symm.trans hk
  rcases (rv_single hzx ⟨_, hk', rfl⟩).slice_inv hk' with ⟨_, hv⟩ | ⟨_, _, _, _, h0, _⟩
  · injection hv with hv
    rw [hv, rep_i_inv hy]
    obtain ⟨n, rfl⟩ := Int.eq_ofNat_of_zero_le (Int.le_of_lt c5)
    have hn : n ≤ 1073741824 := by have h1 : (n : Int) ≤ 1073741824 := c6; omega
    have hb := Nat.le_of_ble_eq_true c4
    obtain ⟨l1, l2⟩ := lim_bytes (n := n) (b := te.bytes) (by rw [Nat.ble_eq]; exact hn) c4
    have hz : szT T el = te.size := szT_of hte
    obtain ⟨z, cap2, hc2, hzr, hrun⟩ := run_append_zeros (P := P) (ty := ty) (w := e.w) ht (hT _ _ hte) hxt (m := n) (by omega) hz0 l1 l2
    have hzz := hzr.elim (fun q => q) (fun q => absurd q (notOther_ne c3))
    have hzs : z.cells.size = te.size := by
      have := (hzz e).one_len
      rw [hz, Array.length_toList] at this; exact this
    have hrow : (Builtin.zeroCells z.cells n).toList = (List.replicate n z.cells.toList).flatten := toList_madeCells z.cells n
    have hcs : (Builtin.zeroCells z.cells n ++ Builtin.zeroCells z.cells (cap2 - n)).size = cap2 * szT T el := by
      rw [hz]
      simp only [Array.size_append, size_zeroCells, hzs, ← Nat.add_mul]
      congr 1; omega
    obtain ⟨hd0, hle0⟩ := h.same_heap (w' := e.w.drew) rfl rfl rfl rfl
    have hok := OK_row (id := nx) (el := el) (xs := List.replicate n te.zero) (cs := Builtin.zeroCells z.cells n ++ Builtin.zeroCells z.cells (cap2 - n)) (ys := (List.replicate n z.cells.toList).flatten) (post := (Builtin.zeroCells z.cells (cap2 - n)).toList) hd0 (hu nx (by simp)) (by omega) (by rw [Array.toList_append, hrow])
      (by rw [List.length_replicate]; exact rv_replicate (hzz _) n)
    obtain ⟨e', p1, p2, p3, p4, p5⟩ := left_new (ro := []) hd0 (hu nx (by simp)) hok (rep_o_new (n := (List.replicate n te.zero).length) (cap := cap2) hcs (by rw [List.length_replicate]; exact hc2))
    rw [List.length_replicate] at p5
    exact does_value hrun ⟨e', p1, p2, hle0.trans p3, p4, p5⟩
  · cases h0
end Go.Vm

namespace Go.Vm
open Go.RowKit
variable {P : Program} {T : TT} {c : Ctx} {e : Env} {of : Nat → Option Ob}
def Env.newT (e : Env) (id t : Nat) (o : Go.Obj) : Env :=
  { w := e.w.alloc o, ι := upd e.ι id (some (e.w.heap.size, 0)), S := e.S, bn := upd e.bn id 0, U := fun j => j = id ∨ e.U j, ty := upd e.ty id t, ln := e.ln, G := e.G }
theorem OSim.le_newT (h : OSim T c e of) {id t : Nat} (hu : ¬ e.U id) (o : Go.Obj) : e.le (e.newT id t o) := by
  refine ⟨fun b i hs => ⟨hs, fun x hx => ?_⟩, fun _ hj => .inr hj, fun j hj _ => ?_, fun j hj h0 => ?_, fun j hj => ?_, fun j hj => upd_ne _ _ (fun e => hu (e ▸ hj)), by show _ ≤ (e.w.alloc _).heap.size; rw [size_alloc]; omega, fun b hb => len_of_heap (alloc_old _ _ hb)⟩
  · rw [← hx]; exact cell_of_heap (alloc_old _ _ (h.slt _ _ hs))
  · have hne : j ≠ id := fun e => hu (e ▸ hj)
    exact ⟨upd_ne _ _ hne, rfl, fun b o hb => len_of_heap (alloc_old _ _ (h.lt _ _ _ hj hb))⟩
  · have hne : j ≠ id := fun e => hu (e ▸ hj)
    show upd e.bn id 0 j = 0
    rw [upd_ne _ _ hne]; exact h0
  · have hne : j ≠ id := fun e => hu (e ▸ hj)
    show _ ≤ upd e.bn id 0 j
    rw [upd_ne _ _ hne]; exact Nat.le_refl _
theorem OSim.newT (h : OSim T c e of) {id t : Nat} (hu : ¬ e.U id) {g : Go.Obj} {o : Ob} (ho : OK T (e.newT id t g) id o) : OSim T c (e.newT id t g) (upd of id (some o)) := by
  have hle := h.le_newT (t := t) hu g
  have ιne : ∀ j, j ≠ id → (e.newT id t g).ι j = e.ι j := fun j hj => upd_ne _ _ hj
  have obne : ∀ j, j ≠ id → upd of id (some o) j = of j := fun j hj => upd_ne _ _ hj
  have old : ∀ j b q, (of j).isSome → e.ι j = some (b, q) → b < e.w.heap.size := fun j b q hj hb => by
    obtain ⟨x, hx⟩ := Option.isSome_iff_exists.1 hj
    exact h.lt _ _ _ (h.ok _ _ hx).use hb
  refine ⟨fun j x hj => ?_, fun j k b q b' q' hj hk hb hb' hne => ?_, fun j b q hj hb => ?_, fun j b q hj hb => ?_, fun b i hs => ?_, h.s0, h.snew, h.os, h.tape, h.output, ?_, fun k hk hm => ?_, ?_⟩
  · by_cases he : j = id
    · subst he; rw [upd_same] at hj; cases hj; exact ho
    · rw [obne _ he] at hj
      exact (h.ok _ _ hj).keep hle (upd_ne _ _ he) (fun b q hb => alloc_old _ _ (old _ _ _ (by rw [hj]; rfl) hb)) (fun _ _ _ _ hs => hs) (fun a o' b _ hG => ⟨hG, alloc_old _ _ (h.g.lt _ _ hG), fun i hs => hs⟩)
  · by_cases h1 : j = id
    · subst h1
      have hk' : k ≠ j := Ne.symm hne
      rw [obne _ hk'] at hk; rw [ιne _ hk'] at hb'
      have := old _ _ _ hk hb'
      have hb1 : (e.w.heap.size, 0) = (b, q) := by simpa [Env.newT] using hb
      cases hb1; omega
    · by_cases h2 : k = id
      · subst h2
        rw [obne _ h1] at hj; rw [ιne _ h1] at hb
        have := old _ _ _ hj hb
        have hb1 : (e.w.heap.size, 0) = (b', q') := by simpa [Env.newT] using hb'
        cases hb1; omega
      · rw [obne _ h1] at hj; rw [obne _ h2] at hk; rw [ιne _ h1] at hb; rw [ιne _ h2] at hb'
        exact h.sep _ _ _ _ _ _ hj hk hb hb' hne
  · by_cases h1 : j = id
    · subst h1
      have hb1 : (e.w.heap.size, 0) = (b, q) := by simpa [Env.newT] using hb
      cases hb1; exact .inl h.size
    · rw [obne _ h1] at hj; rw [ιne _ h1] at hb
      exact h.own _ _ _ hj hb
  · have hsz : (e.newT id t g).w.heap.size = e.w.heap.size + 1 := size_alloc _ _
    rw [hsz]
    by_cases h1 : j = id
    · subst h1
      have hb1 : (e.w.heap.size, 0) = (b, q) := by simpa [Env.newT] using hb
      cases hb1; omega
    · rw [ιne _ h1] at hb
      rcases hj with hj | hj
      · exact absurd hj h1
      · have := h.lt _ _ _ hj hb; omega
  · have := h.slt _ _ hs
    show b < (e.w.alloc _).heap.size
    rw [size_alloc]; omega
  · show _ ≤ (e.w.alloc _).heap.size
    rw [size_alloc]; have := h.size; omega
  · exact (alloc_old _ _ (by have := h.size; omega)).trans (h.block k hk hm)
  · refine h.g.mono (fun _ _ q => q) rfl (fun _ q => q) (by show _ ≤ (e.w.alloc _).heap.size; rw [size_alloc]; omega) (fun j b o hj hb => ?_)
    by_cases h1 : j = id
    · subst h1
      have hb1 : (e.w.heap.size, 0) = (b, o) := by simpa [Env.newT] using hb
      cases hb1; exact .inr (Nat.le_refl _)
    · rw [obne _ h1] at hj; rw [ιne _ h1] at hb
      exact .inl ⟨j, o, hj, hb⟩
def rangeM (T : TT) (of : Nat → Option Ob) (nx t : Nat) (u : A) : Option Out :=
  match kOf T t with
  | some (.map _ _) => match u with
    | .m m => match of m with
      | some (.map _ _ _) => some ⟨.p nx 0 [], [(nx, .it (some m))], [m], [nx]⟩
      | _ => none
    | u => if isMapN T t u then some ⟨.p nx 0 [], [(nx, .it none)], [], [nx]⟩ else none
  | _ => none
theorem rangeM_ok (hT : TOK T P) {of' : Nat → Option Ob} {nx t : Nat} {u : A} {x : Value} {out : Out} (h : OSim T c e of') (hr : rangeM T of nx t u = some out) (ho : ∀ id ∈ out.ro, of' id = of id) (hu : ∀ id ∈ out.nw, ¬ e.U id) (hx : Rep T e u x) :
    Does P (do pure (.value (← Instr.range t x))) e.w (Left T c e of' out) := by
  unfold rangeM at hr
  split at hr <;> try (cases hr; done)
  rename_i kt et hk
  obtain ⟨te, h1, h2⟩ := kOf_some hk
  have hun := under_map (hT _ _ h1) h2
  split at hr
  · rename_i m
    split at hr <;> try (cases hr; done)
    rename_i kt' et' es hof
    injection hr with hr; subst hr
    have hum : ¬ e.U nx := hu nx (by simp)
    have hof' : of' m = some (.map kt' et' es) := (ho m (by simp)).trans hof
    obtain ⟨k1, k2, b, ms, clock, k3, k4, k5⟩ := h.ok _ _ hof'
    have hx' : RA T e [.m m] [x] := hx
    have hxv : x = .map (some b) := by
      generalize x = y at hx'
      cases hx' with
      | r g1 _ _ =>
        obtain ⟨b', u1, u2, u3, u4⟩ := g1
        rw [k3] at u3; cases u3; exact u4
    have hne : m ≠ nx := fun q => hum (q ▸ k1)
    have hrun : (Instr.range t x).run P e.w = .ok (.pointer (some ⟨e.w.heap.size, 0, none⟩)) (e.w.alloc (.mapIter (some b) clock #[] clock)) := by
      rw [hxv]
      simp [Instr.range, run_under hun, getObj, Sem.run, k4, newObj]
    refine does_value hrun ⟨e.newT nx 0 (.mapIter (some b) clock #[] clock), rfl, h.newT hum ?_, h.le_newT hum _, fun j hj => hj.elim (fun q => .inr (by simp [q])) .inl, ?_⟩
    · exact ⟨.inl rfl, upd_same _ _ _, e.w.heap.size, b, clock, clock, upd_same _ _ _, alloc_new _ _, .inr k1, by show upd e.bn nx 0 m = 0; rw [upd_ne _ _ hne]; exact k2, by show upd e.ι nx _ m = _; rw [upd_ne _ _ hne]; exact k3⟩
    · exact RA.r ⟨e.w.heap.size, 0, .inl rfl, upd_same _ _ _, upd_same _ _ _, (by show Pth T (upd e.ty nx 0 nx) [] 0 0; rw [upd_same]; exact .nil), rfl⟩ rfl .nil
  · split at hr <;> try (cases hr; done)
    rename_i hn
    injection hr with hr; subst hr
    have hum : ¬ e.U nx := hu nx (by simp)
    have hxv := isMapN_ok hk hn hx
    have hrun : (Instr.range t x).run P e.w = .ok (.pointer (some ⟨e.w.heap.size, 0, none⟩)) (e.w.alloc (.mapIter none 0 #[] 0)) := by
      rw [hxv]
      simp [Instr.range, run_under hun, Sem.run, newObj]
    refine does_value hrun ⟨e.newT nx 0 (.mapIter none 0 #[] 0), rfl, h.newT hum ?_, h.le_newT hum _, fun j hj => hj.elim (fun q => .inr (by simp [q])) .inl, ?_⟩
    · exact ⟨.inl rfl, upd_same _ _ _, e.w.heap.size, 0, #[], 0, upd_same _ _ _, alloc_new _ _⟩
    · exact RA.r ⟨e.w.heap.size, 0, .inl rfl, upd_same _ _ _, upd_same _ _ _, (by show Pth T (upd e.ty nx 0 nx) [] 0 0; rw [upd_same]; exact .nil), rfl⟩ rfl .nil
def nextM (of : Nat → Option Ob) (u : A) : Option (A × List Nat) :=
  match u with
  | .p id _ [] => match of id with
    | some (.it none) => some (.t [.b false], [id])
    | some (.it (some m)) => match of m with
      | some (.map _ _ []) => some (.t [.b false], [id, m])
      | _ => none
    | _ => none
  | _ => none
theorem nextM_ok {of' : Nat → Option Ob} {u v : A} {x : Value} {ty : Nat} {ro : List Nat} (h : OSim T c e of') (hr : nextM of u = some (v, ro)) (ho : ∀ id ∈ ro, of' id = of id) (hx : Rep T e u x) :
    Does P (do pure (.value (← Instr.next x false ty))) e.w (Left T c e of' ⟨v, [], ro, []⟩) := by
  unfold nextM at hr
  split at hr <;> try (cases hr; done)
  rename_i id t
  have hx' := rep_p_inv hx
  obtain ⟨b0, off, u1, u2, u3, u4, hxv⟩ := hx'
  cases u4
  have hrep : Rep T e (.t [.b false]) (.tuple #[.bool false]) := by
    refine ⟨#[.bool false], rfl, rfl, fun i v z hv hz => ?_⟩
    match i, hv, hz with
    | 0, hv, hz => simp at hv hz; subst hv; subst hz; exact RA.b .nil
    | i + 1, hv, hz => simp at hv
  split at hr <;> try (cases hr; done)
  · rename_i hof
    simp only [Option.some.injEq, Prod.mk.injEq] at hr
    obtain ⟨rfl, rfl⟩ := hr
    obtain ⟨k1, k2, b, y1, y2, y3, k3, k4⟩ := h.ok _ _ ((ho id (by simp)).trans hof)
    rw [u3] at k3; cases k3
    have hrun : (Instr.next x false ty).run P e.w = .ok (.tuple #[.bool false]) e.w := by
      rw [hxv]
      simp [Instr.next, getObj, Sem.run, k4]
    exact does_value hrun (left_same h hrep)
  · rename_i m hof
    split at hr <;> try (cases hr; done)
    rename_i kt et hm
    simp only [Option.some.injEq, Prod.mk.injEq] at hr
    obtain ⟨rfl, rfl⟩ := hr
    obtain ⟨k1, k2, b, bm, y1, y2, k3, k4, k5, k6, k7⟩ := h.ok _ _ ((ho id (by simp)).trans hof)
    rw [u3] at k3; cases k3
    obtain ⟨m1, m2, b', ms, clock, m3, m4, m5, es', m6, m7⟩ := h.ok _ _ ((ho m (by simp)).trans hm)
    rw [k7] at m3; cases m3
    have hes : es' = [] := List.Perm.eq_nil m6
    subst hes
    have hms : ms = #[] := by
      generalize hl : ms.toList = l at m7
      cases m7
      exact Array.toList_eq_nil_iff.1 hl
    subst hms
    have hrun : (Instr.next x false ty).run P e.w = .ok (.tuple #[.bool false]) e.w := by
      rw [hxv]
      simp [Instr.next, getObj, Sem.run, k4, m4, choose, Question.forced]
    exact does_value hrun (left_same h hrep)
end Go.Vm

namespace Go.Vm
open Go.RowKit
variable {P : Program} {T : TT} {c : Ctx} {e : Env} {of : Nat → Option Ob}
def AggIff (T : TT) (t : Nat) (v : Value) : Prop := (∃ k, kOf T t = some k ∧ k.agg = true) ↔ ∃ cs, v = .agg cs
theorem one_not_agg {v : Value} (h : one v = true) : ¬ ∃ cs, v = .agg cs := fun ⟨cs, hc⟩ => by subst hc; cases h
theorem aggIff_scal {t : Nat} {v : Value} {k : TK} (hk : kOf T t = some k) (ha : k.agg = false) (h : one v = true) : AggIff T t v :=
  ⟨fun ⟨k', h1, h2⟩ => (by rw [hk] at h1; cases h1; rw [ha] at h2; cases h2), fun h' => absurd h' (one_not_agg h)⟩
theorem same_agg {t t' : Nat} (h : same T t t' = true) {v : Value} (ha : AggIff T t' v) : AggIff T t v := by
  have := (same_spec h).1
  unfold AggIff
  rw [this]; exact ha
theorem toV_agg {d t : Nat} {of : Nat → Option Ob} {a : A} {x : V} {wo : List (Nat × Ob)} {v : Value} (hv : toV T d of t a = some (x, wo)) (hr : Rep T e a v) : AggIff T t v := by
  cases d with
  | zero => simp [toV] at hv
  | succ d =>
  have single : ∀ a : A, RA T e [a] [v] → one v = true := fun a h => h.one_ v (by simp)
  have sl : ∀ {a : A}, (∃ y, sliV T of t a = some y) → one v = true → AggIff T t v := fun {a} ⟨y, hy⟩ ho => by
    cases a <;> simp only [sliV] at hy <;> try (cases hy; done)
    all_goals
      (repeat' split at hy) <;> first | (cases hy; done) | skip
      exact aggIff_scal (by assumption) rfl ho
  have fit : ∀ {a a' : A}, asT T t a = some a' → fitA T t a' = true → (∀ t' y, a' ≠ .v t' y) → (∀ t' l, a' ≠ .g t' l) → one v = true → AggIff T t v := by
    intro a a' _ hf h1 h2 ho
    have sc : scal T t = true → AggIff T t v := fun hs => by
      simp only [scal, Bool.and_eq_true] at hs
      cases hk : kOf T t with
      | none => rw [hk] at hs; simp at hs
      | some k => rw [hk] at hs; exact aggIff_scal hk (by simpa using hs.1) ho
    cases a' with
    | v t' y => exact absurd rfl (h1 _ _)
    | g t' l => exact absurd rfl (h2 _ _)
    | i k n => simp only [fitA, Bool.and_eq_true] at hf; split at hf <;> first | exact aggIff_scal (by assumption) rfl ho | (simp at hf; done)
    | b q => simp only [fitA, Bool.and_eq_true] at hf; split at hf <;> first | exact aggIff_scal (by assumption) rfl ho | (simp at hf; done)
    | s l => simp only [fitA, Bool.and_eq_true] at hf; split at hf <;> first | exact aggIff_scal (by assumption) rfl ho | (simp at hf; done)
    | t l => simp [fitA] at hf
    | _ => exact sc hf
  cases a with
  | o id ver => exact sl (a := .o id ver) (by simp only [toV] at hv; split at hv <;> first | (cases hv; done) | exact ⟨_, by assumption⟩) (single _ hr)
  | w id ver off n => exact sl (a := .w id ver off n) (by simp only [toV] at hv; split at hv <;> first | (cases hv; done) | exact ⟨_, by assumption⟩) (single _ hr)
  | a id t1 path lo m => exact sl (a := .a id t1 path lo m) (by simp only [toV] at hv; split at hv <;> first | (cases hv; done) | exact ⟨_, by assumption⟩) (single _ hr)
  | q t' y =>
    simp only [toV] at hv
    split at hv <;> try (cases hv; done)
    rename_i hs
    simp only [Bool.and_eq_true, scal] at hs
    cases hk : kOf T t with
    | none => rw [hk] at hs; simp at hs
    | some k => rw [hk] at hs; exact aggIff_scal hk (by simpa using hs.2.1) (single _ hr)
  | g t' l =>
    simp only [toV] at hv
    split at hv <;> try (cases hv; done)
    rename_i hs
    split at hv <;> try (cases hv; done)
    rename_i ts hts
    refine ⟨fun _ => hr.2, fun _ => ?_⟩
    have e1 : chT T t = some ts := by rw [chT_same (same_spec hs).1]; exact hts
    unfold chT at e1
    split at e1
    · exact ⟨_, by assumption, rfl⟩
    · exact ⟨_, by assumption, rfl⟩
    · cases e1
  | v t' y =>
    simp only [toV, asT] at hv
    split at hv <;> try (cases hv; done)
    rename_i b hb
    split at hb <;> try (cases hb; done)
    rename_i hs
    exact same_agg hs hr.2
  | f fn cap =>
    cases cap with
    | nil =>
      simp only [toV] at hv
      split at hv <;> try (cases hv; done)
      exact aggIff_scal (by assumption) rfl (single _ hr)
    | cons a r =>
      simp only [toV] at hv
      split at hv <;> try (cases hv; done)
      rename_i b hb
      simp only [asT] at hb
      split at hb <;> try (cases hb; done)
      rename_i hf
      injection hb with hb; subst hb
      exact fit (a := .f fn (a :: r)) (a' := .f fn (a :: r)) (by simp only [asT]; rw [if_pos hf]) hf (by intros; simp) (by intros; simp) (single _ hr)
  | z y =>
    simp only [toV, asT] at hv
    split at hv <;> try (cases hv; done)
    rename_i b hb
    have ho := single _ hr
    (repeat' split at hb) <;> first | (cases hb; done) | exact aggIff_scal (by assumption) rfl ho
  | t l => simp only [toV, asT] at hv; cases hv
  | x => simp only [toV, asT] at hv; cases hv
  | _ =>
    simp only [toV] at hv
    split at hv <;> try (cases hv; done)
    rename_i b hb
    have hb' := hb
    simp only [asT] at hb
    split at hb <;> try (cases hb; done)
    rename_i hf
    injection hb with hb; subst hb
    exact fit hb' hf (by intros; simp) (by intros; simp) (single _ hr)
def dataT (T : TT) : Nat → Nat → Bool
  | 0, _ => false
  | d + 1, t => match kOf T t with
    | some (.int _) | some .bool | some .str => true
    | some (.arr _ el) => dataT T d el
    | some (.slice el) => dataT T d el
    | some (.struct fs) => fs.all (dataT T d)
    | _ => false
def dmapT (T : TT) (et : Nat) : Bool :=
  (match kOf T et with
  | some (.slice _) => false
  | _ => true) && dataT T 8 et
def hasV (kv : V) : List (V × V) → Bool
  | [] => false
  | p :: r => veq p.1 kv || hasV kv r
def getV (kv : V) : List (V × V) → V
  | [] => .n
  | p :: r => bif veq p.1 kv then p.2 else getV kv r
def delV (kv : V) : List (V × V) → List (V × V)
  | [] => []
  | p :: r => bif veq p.1 kv then delV kv r else p :: delV kv r
def setV (kv x : V) (es : List (V × V)) : List (V × V) := (kv, x) :: delV kv es
theorem fndM_vms {et : Nat} {kv : V} : ∀ es : List (V × V), fndM kv (vms et es) = bif hasV kv es then some (.v et (getV kv es)) else none := by
  intro es
  induction es with
  | nil => rfl
  | cons p r ih =>
    simp only [vms, fndM, hasV, getV, ih]
    cases veq p.1 kv <;> rfl
theorem delM_vms {et : Nat} {kv : V} : ∀ es : List (V × V), delM kv (vms et es) = vms et (delV kv es) := by
  intro es
  induction es with
  | nil => rfl
  | cons p r ih =>
    simp only [vms, delM, delV, ih]
    cases veq p.1 kv <;> rfl
theorem vms_len {et : Nat} : ∀ es : List (V × V), (vms et es).length = es.length := by
  intro es
  induction es with
  | nil => rfl
  | cons p r ih => simp [vms, ih]
def flat : Ob → Ob
  | .vm kt et es => .map kt et (vms et es)
  | o => o
theorem OK.flat {id : Nat} {o : Ob} : OK T e id (flat o) ↔ OK T e id o := by cases o <;> exact Iff.rfl
theorem OSim.flat_eq {f g : Nat → Option Ob} (h : OSim T c e f) (hfg : ∀ id, (f id).map flat = (g id).map flat) : OSim T c e g := by
  have hs : ∀ id, (g id).isSome → (f id).isSome := fun id hi => by
    have := hfg id
    cases hf : f id with
    | some _ => rfl
    | none => rw [hf] at this; cases hg : g id with
      | none => rw [hg] at hi; cases hi
      | some o => rw [hg] at this; cases this
  refine ⟨fun id o ho => ?_, fun i j b o b' o' hi hj => h.sep i j b o b' o' (hs i hi) (hs j hj), fun id b o hi => h.own id b o (hs id hi), h.lt, h.slt, h.s0, h.snew, h.os, h.tape, h.output, h.size, h.block, h.g.mono (fun _ _ q => q) rfl (fun _ q => q) (Nat.le_refl _) (fun j b o hj hb => .inl ⟨j, o, hs j hj, hb⟩)⟩
  have := hfg id
  rw [ho] at this
  cases hf : f id with
  | none => rw [hf] at this; cases this
  | some o1 =>
    rw [hf] at this
    simp only [Option.map_some, Option.some.injEq] at this
    exact OK.flat.1 (this ▸ OK.flat.2 (h.ok id o1 hf))
theorem flat_upd {f : Nat → Option Ob} {id kt et : Nat} {es : List (V × V)} (h : f id = some (.vm kt et es)) : ∀ j, (f j).map flat = (upd f id (some (.map kt et (vms et es))) j).map flat := by
  intro j
  by_cases hj : j = id
  · subst hj; rw [upd_same, h]; rfl
  · rw [upd_ne _ _ hj]
def vmOf (of : Nat → Option Ob) (m : A) : Option (Nat × Nat × Nat × List (V × V)) :=
  match m with
  | .m id => match of id with
    | some (.vm kt et es) => some (id, kt, et, es)
    | _ => none
  | _ => none
theorem vmOf_spec {m : A} {id kt et : Nat} {es : List (V × V)} (h : vmOf of m = some (id, kt, et, es)) : m = .m id ∧ of id = some (.vm kt et es) := by
  unfold vmOf at h
  split at h <;> try (cases h; done)
  split at h <;> try (cases h; done)
  cases h
  exact ⟨rfl, by assumption⟩
def lookV (T : TT) (t : Nat) (k : A) (ok : Bool) (q : Nat × Nat × Nat × List (V × V)) : Option (A × List Nat) :=
  match kOf T t with
  | some (.map kt et) => match T et, keyV T kt k with
    | some te, some kv => if TK.notOther te.k then (if Nat.beq kt q.2.1 && Nat.beq et q.2.2.1 then
        (match hasV kv q.2.2.2 with
        | true => some (okA ok (mkA T et (getV kv q.2.2.2)) true, [q.1])
        | false => some (okA ok (mkA T et te.zero) false, [q.1])) else none) else none
    | _, _ => none
  | _ => none
def lookB (T : TT) (of : Nat → Option Ob) (t : Nat) (m k : A) (ok : Bool) : Option (A × List Nat) :=
  match vmOf of m with
  | some q => lookV T t k ok q
  | none => lookA T of t m k ok
theorem lookB_ok (hT : TOK T P) {of' : Nat → Option Ob} {t : Nat} {m k r : A} {x y : Value} {ok : Bool} {ro : List Nat} (h : OSim T c e of') (hr : lookB T of t m k ok = some (r, ro)) (ho : ∀ id ∈ ro, of' id = of id) (hx : Rep T e m x) (hy : Rep T e k y) :
    Does P (do pure (.value (← Instr.lookup t x y ok))) e.w (Left T c e of' ⟨r, [], ro, []⟩) := by
  unfold lookB at hr
  split at hr
  · rename_i q hq
    obtain ⟨id, kt', et', es⟩ := q
    obtain ⟨rfl, hof⟩ := vmOf_spec hq
    unfold lookV at hr
    split at hr <;> try (cases hr; done)
    rename_i kt et hk
    split at hr <;> try (cases hr; done)
    rename_i te kv hte hkv
    split at hr <;> try (cases hr; done)
    rename_i hne
    split at hr <;> try (cases hr; done)
    rename_i hc
    simp only at hr hc
    have hro : id ∈ ro := by
      split at hr <;> (injection hr with hr; injection hr with _ hr; rw [← hr]; simp)
    have hof' := (ho id hro).trans hof
    have h2 := h.flat_eq (flat_upd hof')
    have hla : lookA T (upd of id (some (.map kt' et' (vms et' es)))) t (.m id) k ok = some (r, ro) := by
      unfold lookA
      simp only [hk, hte, hkv]
      rw [if_pos hne, show isMapN T t (.m id) = false from rfl, cond_false, upd_same]
      simp only
      rw [if_pos hc]
      have hc2 := hc
      simp only [Bool.and_eq_true] at hc2
      have e1 := Nat.eq_of_beq_eq_true hc2.2
      rw [fndM_vms]
      cases hv : hasV kv es with
      | true => rw [hv] at hr; simp only at hr; rw [← e1]; exact hr
      | false => rw [hv] at hr; exact hr
    have := lookA_ok hT h2 hla (fun j hj => by
      by_cases hji : j = id
      · subst hji; rw [upd_same, upd_same]
      · rw [upd_ne _ _ hji, upd_ne _ _ hji]; exact ho j hj) hx hy
    refine does_mono this ?_
    rintro z w' ⟨e', p1, p2, p3, p4, p5⟩
    exact ⟨e', p1, OSim.flat_eq (f := upd of' id (some (.map kt' et' (vms et' es)))) p2 (fun j => (flat_upd hof' j).symm), p3, p4, p5⟩
  · exact lookA_ok hT h hr ho hx hy
def updV (T : TT) (of : Nat → Option Ob) (t : Nat) (k v : A) (q : Nat × Nat × Nat × List (V × V)) : Option (List (Nat × Ob) × List Nat) :=
  match kOf T t with
  | some (.map kt et) => match keyV T kt k, toV T DEP of et v with
    | some kv, some (x, wo) => if (T et).isSome && Nat.beq kt q.2.1 && Nat.beq et q.2.2.1 && !(ids wo).contains q.1 then
        some (wo ++ [(q.1, .vm kt et (setV kv x q.2.2.2))], q.1 :: ids wo) else none
    | _, _ => none
  | _ => none
def updB (T : TT) (of : Nat → Option Ob) (t : Nat) (m k v : A) : Option (List (Nat × Ob) × List Nat) :=
  match vmOf of m with
  | some q => updV T of t k v q
  | none => updM T of t m k v
theorem put_notin : ∀ {wo : List (Nat × Ob)} {f : Nat → Option Ob} {id : Nat}, id ∉ ids wo → put f wo id = f id := by
  intro wo
  induction wo with
  | nil => intro f id _; rfl
  | cons p r ih =>
    intro f id h
    simp only [ids, List.map_cons, List.mem_cons, not_or] at h
    show put (upd f p.1 (some p.2)) r id = _
    rw [ih h.2, upd_ne _ _ h.1]
theorem updB_ok (hT : TOK T P) {of' : Nat → Option Ob} {t : Nat} {m k v : A} {x y z : Value} {wo : List (Nat × Ob)} {ro : List Nat} (h : OSim T c e of') (hr : updB T of t m k v = some (wo, ro)) (ho : ∀ id ∈ ro, of' id = of id) (hx : Rep T e m x) (hy : Rep T e k y) (hz : Rep T e v z) :
    Does P (do Instr.mapUpdate t x y z; pure .skip) e.w (Left T c e of' ⟨.x, wo, ro, []⟩) := by
  unfold updB at hr
  split at hr
  · rename_i q hq
    obtain ⟨id, kt', et', es⟩ := q
    obtain ⟨rfl, hof⟩ := vmOf_spec hq
    unfold updV at hr
    split at hr <;> try (cases hr; done)
    rename_i kt et hk
    split at hr <;> try (cases hr; done)
    rename_i kv xv w1 hkv hxv
    split at hr <;> try (cases hr; done)
    rename_i hc
    simp only [Bool.and_eq_true, Bool.not_eq_true'] at hc
    obtain ⟨⟨⟨hTe, c1⟩, c2⟩, c4⟩ := hc
    have := Nat.eq_of_beq_eq_true c1; subst this
    have := Nat.eq_of_beq_eq_true c2; subst this
    injection hr with hr; injection hr with hr1 hr2; subst hr1; subst hr2
    have hnin : id ∉ ids w1 := fun hin => by
      have : (ids w1).contains id = true := List.contains_iff_mem.2 hin
      rw [this] at c4; cases c4
    have hof' := (ho id (by simp)).trans hof
    have hxv' := (toV_congr (T := T) DEP).1 of of' _ _ _ _ hxv (fun j hj => ho j (by simp [hj]))
    obtain ⟨e1, a1, a2, a3, a4, a5⟩ := toV_spec h hxv' hz
    have ag := toV_agg hxv' hz
    have hp1 : put of' w1 id = some (.vm kt et es) := by rw [put_notin hnin]; exact hof'
    have h2 := a2.flat_eq (flat_upd hp1)
    have hz2 : Rep T e1 (.v et xv) z := ⟨a5, ag⟩
    have hum : updM T (upd (put of' w1) id (some (.map kt et (vms et es)))) t (.m id) k (.v et xv) = some ([(id, .map kt et ((kv, .v et xv) :: delM kv (vms et es)))], [id]) := by
      unfold updM
      simp only [hk, hkv, asT, same_refl, if_true, upd_same, hTe, Nat.beq_refl, Bool.and_self]
    have := updM_ok hT h2 hum (fun _ _ => rfl) (hx.mono a3) (hy.mono a3) hz2
    rw [a1] at this
    refine does_mono this ?_
    rintro u w' ⟨e', p1, p2, p3, p4, p5⟩
    refine ⟨e', p1, ?_, a3.trans p3, fun j hj => (p4 j hj).imp (a4 j) (fun q => by cases q), p5⟩
    have p2 : OSim T c e' (upd (upd (put of' w1) id (some (.map kt et (vms et es)))) id (some (.map kt et ((kv, .v et xv) :: delM kv (vms et es))))) := p2
    refine p2.flat_eq (fun j => ?_)
    show _ = (put of' (w1 ++ [(id, Ob.vm kt et (setV kv xv es))]) j).map flat
    rw [put_append]
    show _ = (upd (put of' w1) id (some (Ob.vm kt et (setV kv xv es))) j).map flat
    by_cases hj : j = id
    · subst hj; rw [upd_same, upd_same, delM_vms]; rfl
    · rw [upd_ne _ _ hj, upd_ne _ _ hj, upd_ne _ _ hj]
  · exact updM_ok hT h hr ho hx hy hz
def dropV (T : TT) (t : Nat) (k : A) (q : Nat × Nat × Nat × List (V × V)) : Option (List (Nat × Ob) × List Nat) :=
  match kOf T t with
  | some (.map kt et) => match keyV T kt k with
    | some kv => if Nat.beq kt q.2.1 && Nat.beq et q.2.2.1 then some ([(q.1, .vm kt et (delV kv q.2.2.2))], [q.1]) else none
    | none => none
  | _ => none
def dropB (T : TT) (of : Nat → Option Ob) (t : Nat) (m k : A) : Option (List (Nat × Ob) × List Nat) :=
  match vmOf of m with
  | some q => dropV T t k q
  | none => dropM T of t m k
theorem dropB_ok (hT : TOK T P) {of' : Nat → Option Ob} {t kt0 ty : TypeId} {m k : A} {x y : Value} {wo : List (Nat × Ob)} {ro : List Nat} (h : OSim T c e of') (hr : dropB T of t m k = some (wo, ro)) (ho : ∀ id ∈ ro, of' id = of id) (hx : Rep T e m x) (hy : Rep T e k y) :
    Does P (do pure (.value (← Builtin.delete_ #[t, kt0] ty #[x, y]))) e.w (Left T c e of' ⟨.x, wo, ro, []⟩) := by
  unfold dropB at hr
  split at hr
  · rename_i q hq
    obtain ⟨id, kt', et', es⟩ := q
    obtain ⟨rfl, hof⟩ := vmOf_spec hq
    unfold dropV at hr
    split at hr <;> try (cases hr; done)
    rename_i kt et hk
    split at hr <;> try (cases hr; done)
    rename_i kv hkv
    split at hr <;> try (cases hr; done)
    rename_i hc
    simp only [Bool.and_eq_true] at hc
    have := Nat.eq_of_beq_eq_true hc.1; subst this
    have := Nat.eq_of_beq_eq_true hc.2; subst this
    injection hr with hr; injection hr with hr1 hr2; subst hr1; subst hr2
    have hof' := (ho id (by simp)).trans hof
    have h2 := h.flat_eq (flat_upd hof')
    have hdm : dropM T (upd of' id (some (.map kt et (vms et es)))) t (.m id) k = some ([(id, .map kt et (delM kv (vms et es)))], [id]) := by
      unfold dropM
      simp only [hk, hkv, upd_same, Nat.beq_refl, Bool.and_self, if_true]
    refine does_mono (dropM_ok hT h2 hdm (fun _ _ => rfl) hx hy) ?_
    rintro u w' ⟨e', p1, p2, p3, p4, p5⟩
    refine ⟨e', p1, ?_, p3, p4, p5⟩
    have p2 : OSim T c e' (upd (upd of' id (some (.map kt et (vms et es)))) id (some (.map kt et (delM kv (vms et es))))) := p2
    refine p2.flat_eq (fun j => ?_)
    show _ = (upd of' id (some (Ob.vm kt et (delV kv es))) j).map flat
    by_cases hj : j = id
    · subst hj; rw [upd_same, upd_same, delM_vms]; rfl
    · rw [upd_ne _ _ hj, upd_ne _ _ hj, upd_ne _ _ hj]
  · exact dropM_ok hT h hr ho hx hy
def lenB (T : TT) (of : Nat → Option Ob) (t : Nat) (u : A) : Option (A × List Nat) :=
  match vmOf of u with
  | some q => match kOf T t with
    | some (.map _ _) => if Nat.ble q.2.2.2.length 9223372036854775807 then some (.i .i64 (q.2.2.2.length : Nat), [q.1]) else none
    | _ => none
  | none => lenA T of t u
theorem lenB_ok (hT : TOK T P) {of' : Nat → Option Ob} {t ty : TypeId} {u r : A} {x : Value} {ro : List Nat} (h : OSim T c e of') (hr : lenB T of t u = some (r, ro)) (ho : ∀ id ∈ ro, of' id = of id) (hx : Rep T e u x) :
    Does P (do pure (.value (← Builtin.len_ #[t] ty #[x]))) e.w (Left T c e of' ⟨r, [], ro, []⟩) := by
  unfold lenB at hr
  split at hr
  · rename_i q hq
    obtain ⟨id, kt', et', es⟩ := q
    obtain ⟨rfl, hof⟩ := vmOf_spec hq
    split at hr <;> try (cases hr; done)
    rename_i kt et hk
    split at hr <;> try (cases hr; done)
    rename_i hc
    injection hr with hr; injection hr with hr1 hr2; subst hr1; subst hr2
    have hof' := (ho id (by simp)).trans hof
    have h2 := h.flat_eq (flat_upd hof')
    have hl : lenA T (upd of' id (some (.map kt' et' (vms et' es)))) t (.m id) = some (.i .i64 (es.length : Nat), [id]) := by
      unfold lenA
      simp only at hc
      simp only [hk, upd_same, vms_len]
      rw [if_pos hc]
    refine does_mono (lenA_ok hT h2 hl (fun _ _ => rfl) hx) ?_
    rintro u w' ⟨e', p1, p2, p3, p4, p5⟩
    exact ⟨e', p1, OSim.flat_eq (f := upd of' id (some (.map kt' et' (vms et' es)))) p2 (fun j => (flat_upd hof' j).symm), p3, p4, p5⟩
  · exact lenA_ok hT h hr ho hx
def rangeB (T : TT) (of : Nat → Option Ob) (nx t : Nat) (u : A) : Option Out :=
  match vmOf of u with
  | some q => match kOf T t with
    | some (.map _ _) => some ⟨.p nx 0 [], [(nx, .it (some q.1))], [q.1], [nx]⟩
    | _ => none
  | none => rangeM T of nx t u
theorem rangeB_ok (hT : TOK T P) {of' : Nat → Option Ob} {nx t : Nat} {u : A} {x : Value} {out : Out} (h : OSim T c e of') (hr : rangeB T of nx t u = some out) (ho : ∀ id ∈ out.ro, of' id = of id) (hu : ∀ id ∈ out.nw, ¬ e.U id) (hx : Rep T e u x) :
    Does P (do pure (.value (← Instr.range t x))) e.w (Left T c e of' out) := by
  unfold rangeB at hr
  split at hr
  · rename_i q hq
    obtain ⟨id, kt', et', es⟩ := q
    obtain ⟨rfl, hof⟩ := vmOf_spec hq
    split at hr <;> try (cases hr; done)
    rename_i kt et hk
    injection hr with hr; subst hr
    have hof' := (ho id (by simp)).trans hof
    have h2 := h.flat_eq (flat_upd hof')
    have hl : rangeM T (upd of' id (some (.map kt' et' (vms et' es)))) nx t (.m id) = some ⟨.p nx 0 [], [(nx, .it (some id))], [id], [nx]⟩ := by
      unfold rangeM
      simp only [hk, upd_same]
    refine does_mono (rangeM_ok hT h2 hl (fun _ _ => rfl) hu hx) ?_
    rintro u w' ⟨e', p1, p2, p3, p4, p5⟩
    refine ⟨e', p1, ?_, p3, p4, p5⟩
    have hne : id ≠ nx := fun q => hu nx (by simp) (q ▸ (h.ok id _ hof').use)
    refine p2.flat_eq (fun j => ?_)
    show (upd (upd of' id (some (.map kt' et' (vms et' es)))) nx (some (.it (some id))) j).map flat = (upd of' nx (some (.it (some id))) j).map flat
    by_cases hj : j = nx
    · subst hj; rw [upd_same, upd_same]
    · rw [upd_ne _ _ hj, upd_ne _ _ hj]; exact (flat_upd hof' j).symm
  · exact rangeM_ok hT h hr ho hu hx
def nextB (of : Nat → Option Ob) (u : A) : Option (A × List Nat) :=
  match u with
  | .p id _ [] => match of id with
    | some (.it (some m)) => match of m with
      | some (.vm _ _ []) => some (.t [.b false], [id, m])
      | _ => nextM of u
    | _ => nextM of u
  | _ => none
theorem nextB_ok {of' : Nat → Option Ob} {u v : A} {x : Value} {ty : Nat} {ro : List Nat} (h : OSim T c e of') (hr : nextB of u = some (v, ro)) (ho : ∀ id ∈ ro, of' id = of id) (hx : Rep T e u x) :
    Does P (do pure (.value (← Instr.next x false ty))) e.w (Left T c e of' ⟨v, [], ro, []⟩) := by
  unfold nextB at hr
  split at hr <;> try (cases hr; done)
  rename_i id t
  split at hr
  · rename_i m hof
    split at hr
    · rename_i kt et hm
      injection hr with hr; injection hr with hr1 hr2; subst hr1; subst hr2
      have hof' := (ho id (by simp)).trans hof
      have hm' := (ho m (by simp)).trans hm
      have h2 := h.flat_eq (flat_upd hm')
      have hne : id ≠ m := fun q => by subst q; rw [hof] at hm; cases hm
      have hn : nextM (upd of' m (some (.map kt et (vms et [])))) (.p id t []) = some (.t [.b false], [id, m]) := by
        unfold nextM
        simp only [upd_ne _ _ hne, hof', upd_same, vms]
      refine does_mono (nextM_ok h2 hn (fun _ _ => rfl) hx) ?_
      rintro u w' ⟨e', p1, p2, p3, p4, p5⟩
      exact ⟨e', p1, OSim.flat_eq (f := upd of' m (some (.map kt et (vms et [])))) p2 (fun j => (flat_upd hm' j).symm), p3, p4, p5⟩
    · exact nextM_ok h hr ho hx
  · exact nextM_ok h hr ho hx
def newMap (T : TT) (kt et : Nat) : Ob := bif dmapT T et then .vm kt et [] else .map kt et []
theorem newMap_flat (kt et : Nat) : flat (newMap T kt et) = .map kt et [] := by
  unfold newMap
  cases dmapT T et <;> rfl
theorem law_newMap {t kt et id : Nat} (h : OSim T c e of) (ht : P.underlying t = some (.map kt et)) (hu : ¬ e.U id) {r : Option Value} (hr : r = none ∨ ∃ k n, r = some (.int k n)) {ro : List Nat} :
    Does P (do pure (.value (← Instr.makeMap t r))) e.w (Left T c e of ⟨.m id, [(id, newMap T kt et)], ro, [id]⟩) := by
  refine does_mono (law_makeMap (ro := ro) h ht hu hr) ?_
  rintro u w' ⟨e', p1, p2, p3, p4, p5⟩
  refine ⟨e', p1, p2.flat_eq (fun j => ?_), p3, p4, p5⟩
  show (upd of id (some (.map kt et [])) j).map flat = (upd of id (some (newMap T kt et)) j).map flat
  by_cases hj : j = id
  · subst hj; rw [upd_same, upd_same, Option.map_some, Option.map_some, newMap_flat]; rfl
  · rw [upd_ne _ _ hj, upd_ne _ _ hj]
end Go.Vm

namespace Go.Vm
open Go.RowKit
variable {P : Program} {T : TT} {c : Ctx} {e : Env} {of : Nat → Option Ob}
def hasS (kv : V) : List (V × V × Bool) → Bool
  | [] => false
  | p :: r => veq p.1 kv || hasS kv r
def valS (kv : V) : List (V × V × Bool) → V
  | [] => .n
  | p :: r => bif veq p.1 kv then p.2.1 else valS kv r
def ownS (kv : V) : List (V × V × Bool) → Bool
  | [] => true
  | p :: r => bif veq p.1 kv then p.2.2 else ownS kv r
def delS (kv : V) : List (V × V × Bool) → List (V × V × Bool)
  | [] => []
  | p :: r => bif veq p.1 kv then delS kv r else p :: delS kv r
def setS (kv x : V) (q : Bool) (es : List (V × V × Bool)) : List (V × V × Bool) := (kv, x, q) :: delS kv es
def keyS (es : List (V × V × Bool)) : List (V × A) := es.map fun p => (p.1, A.x)
theorem delS_filter (kv : V) : ∀ es : List (V × V × Bool), delS kv es = es.filter fun p => !veq p.1 kv := by
  intro es
  induction es with
  | nil => rfl
  | cons p r ih =>
    simp only [delS, List.filter_cons]
    cases veq p.1 kv
    · simp [ih]
    · simp [ih]
theorem hasS_no {kv : V} : ∀ {es : List (V × V × Bool)}, (∀ p ∈ es, p.1 ≠ kv) → hasS kv es = false := by
  intro es
  induction es with
  | nil => intro _; rfl
  | cons p r ih =>
    intro h
    have : veq p.1 kv = false := by rw [← Bool.not_eq_true, veq_iff]; exact h p (by simp)
    simp only [hasS, this, ih (fun q hq => h q (by simp [hq])), Bool.or_self]
theorem hasS_mem {kv x : V} {q : Bool} : ∀ {es : List (V × V × Bool)}, (es.map (·.1)).Nodup → (kv, x, q) ∈ es → hasS kv es = true ∧ valS kv es = x ∧ ownS kv es = q := by
  intro es
  induction es with
  | nil => intro _ h; cases h
  | cons p r ih =>
    intro hn h
    simp only [List.map_cons, List.nodup_cons] at hn
    rcases List.mem_cons.1 h with rfl | h
    · simp only [hasS, valS, ownS, veq_refl, Bool.true_or, cond_true, and_self]
    · have hne : p.1 ≠ kv := fun q => hn.1 (by rw [q]; exact List.mem_map.2 ⟨_, h, rfl⟩)
      have : veq p.1 kv = false := by rw [← Bool.not_eq_true, veq_iff]; exact hne
      simp only [hasS, valS, ownS, this, Bool.false_or, cond_false]
      exact ih hn.2 h
theorem filterS_none {kv : V} {es : List (V × V × Bool)} (h : ∀ p ∈ es, p.1 ≠ kv) : (es.filter fun p => !veq p.1 kv) = es := by
  rw [List.filter_eq_self]
  intro p hp
  have : veq p.1 kv = false := by rw [← Bool.not_eq_true, veq_iff]; exact h p hp
  rw [this]; rfl
theorem filterS_erase {kv : V} {a : V × Bool} : ∀ {es : List (V × V × Bool)} {i : Nat}, (es.map (·.1)).Nodup → es[i]? = some (kv, a) → (es.filter fun p => !veq p.1 kv) = es.eraseIdx i := by
  intro es
  induction es with
  | nil => intro i _ h; simp at h
  | cons p r ih =>
    intro i hn hi
    obtain ⟨k, b⟩ := p
    simp only [List.map_cons, List.nodup_cons] at hn
    cases i with
    | zero =>
      simp only [List.getElem?_cons_zero, Option.some.injEq, Prod.mk.injEq] at hi
      obtain ⟨rfl, rfl⟩ := hi
      rw [List.filter_cons_of_neg (by simp [veq_refl]), List.eraseIdx_cons_zero]
      exact filterS_none (fun p hp q => hn.1 (by rw [← q]; exact List.mem_map.2 ⟨p, hp, rfl⟩))
    | succ i =>
      have hi' : r[i]? = some (kv, a) := by simpa using hi
      have hne : k ≠ kv := fun q => hn.1 (by rw [q]; exact List.mem_map.2 ⟨_, List.mem_of_getElem? hi', rfl⟩)
      have : veq k kv = false := by rw [← Bool.not_eq_true, veq_iff]; exact hne
      rw [List.filter_cons_of_pos (by simp [this]), List.eraseIdx_cons_succ, ih hn.2 hi']
theorem setS_perm {p p0 : V × V × Bool} : ∀ {es : List (V × V × Bool)} {i : Nat}, es[i]? = some p0 → (es.set i p).Perm (p :: es.eraseIdx i) := by
  intro es
  induction es with
  | nil => intro i h; simp at h
  | cons q r ih =>
    intro i hi
    cases i with
    | zero => simp
    | succ i =>
      rw [List.set_cons_succ, List.eraseIdx_cons_succ]
      exact ((ih (by simpa using hi)).cons q).trans (List.Perm.swap _ _ _)
theorem set_self {α : Type} : ∀ {l : List α} {i : Nat} {x : α}, l[i]? = some x → l.set i x = l := by
  intro l
  induction l with
  | nil => intro i x h; simp at h
  | cons y r ih =>
    intro i x h
    cases i with
    | zero => simp at h; subst h; rfl
    | succ i => rw [List.set_cons_succ, ih (by simpa using h)]
variable {a kt st el : Nat} {ho : Option V} {es : List (V × V × Bool)} {ms : List MapEntry} {bs : List Nat}
theorem EntS.key {p : V × V × Bool} {m : MapEntry} (h : EntS T e a kt st el ho p m bs) : Rep1 T e (.v kt p.1) m.key := by
  cases h <;> assumption
theorem EntS.val {p : V × V × Bool} {m : MapEntry} (h : EntS T e a kt st el ho p m bs) : one m.val = true := by
  cases h with
  | lent _ h2 _ => exact h2
  | data _ h2 => exact h2.one _ (by simp)
  | own _ h2 => rw [h2]; rfl
theorem SR.mr (hk : kOf T st = some (.slice el)) (hz : szT T st = 1) (h : SR T e a kt st el ho es ms bs) : MR T e kt st (keyS es) ms := by
  induction h with
  | nil => exact .nil
  | cons h1 _ _ ih => exact .cons h1.key trivial (by simp [fitA, scal, hk, hz, TK.agg]) ih
theorem SR.pull (h : SR T e a kt st el ho es ms bs) : ∀ {i : Nat} {p : V × V × Bool} {m : MapEntry}, es[i]? = some p → ms[i]? = some m →
    ∃ bs0 cs, EntS T e a kt st el ho p m bs0 ∧ SR T e a kt st el ho (es.eraseIdx i) (ms.eraseIdx i) cs ∧ (∀ b ∈ bs0, b ∉ cs) ∧ (∀ b, b ∈ bs0 ∨ b ∈ cs → b ∈ bs) := by
  induction h with
  | nil => intro i p m h; simp at h
  | @cons p0 r m0 ms bs0 cs h1 h2 h3 ih =>
    intro i p m hp hm
    cases i with
    | zero =>
      simp only [List.getElem?_cons_zero, Option.some.injEq] at hp hm
      subst hp; subst hm
      exact ⟨bs0, cs, h1, h3, h2, fun b hb => List.mem_append.2 hb⟩
    | succ i =>
      obtain ⟨b1, c1, g1, g2, g3, g4⟩ := ih (by simpa using hp) (by simpa using hm)
      refine ⟨b1, bs0 ++ c1, g1, .cons h1 (fun b hb hc => h2 b hb (g4 b (.inr hc))) g2, fun b hb hc => ?_, fun b hb => ?_⟩
      · rcases List.mem_append.1 hc with hc | hc
        · exact h2 b hc (g4 b (.inl hb))
        · exact g3 b hb hc
      · rcases hb with hb | hb
        · exact List.mem_append.2 (.inr (g4 b (.inl hb)))
        · rcases List.mem_append.1 hb with hb | hb
          · exact List.mem_append.2 (.inl hb)
          · exact List.mem_append.2 (.inr (g4 b (.inr hb)))
theorem SR.putAt : ∀ {es : List (V × V × Bool)} {ms : List MapEntry} {i : Nat} {p p0 : V × V × Bool} {m m0 : MapEntry} {bs0 cs : List Nat}, es[i]? = some p0 → ms[i]? = some m0 → SR T e a kt st el ho (es.eraseIdx i) (ms.eraseIdx i) cs → EntS T e a kt st el ho p m bs0 → (∀ b ∈ bs0, b ∉ cs) →
    ∃ bs', SR T e a kt st el ho (es.set i p) (ms.set i m) bs' ∧ ∀ b ∈ bs', b ∈ bs0 ∨ b ∈ cs := by
  intro es
  induction es with
  | nil => intro ms i p p0 m m0 bs0 cs h; simp at h
  | cons q r ih =>
    intro ms i p p0 m m0 bs0 cs hp hm h he hd
    cases ms with
    | nil => simp at hm
    | cons n ms =>
      cases i with
      | zero => exact ⟨bs0 ++ cs, .cons he hd h, fun b hb => List.mem_append.1 hb⟩
      | succ i =>
        simp only [List.eraseIdx_cons_succ] at h
        cases h with
        | @cons _ _ _ _ b1 c1 h1 h2 h3 =>
          obtain ⟨b', g1, g2⟩ := ih (by simpa using hp) (by simpa using hm) h3 he (fun b hb hc => hd b hb (List.mem_append.2 (.inr hc)))
          refine ⟨b1 ++ b', .cons h1 (fun b hb hc => ?_) g1, fun b hb => ?_⟩
          · rcases g2 b hc with hc | hc
            · exact hd b hc (List.mem_append.2 (.inl hb))
            · exact h2 b hb hc
          · rcases List.mem_append.1 hb with hb | hb
            · exact .inr (List.mem_append.2 (.inl hb))
            · exact (g2 b hb).imp id (fun hb => List.mem_append.2 (.inr hb))
theorem EntS.rho {ho' : Option V} {p : V × V × Bool} {m : MapEntry} (h : EntS T e a kt st el ho p m bs) (hn : ho ≠ some p.1) : EntS T e a kt st el ho' p m bs := by
  cases h with
  | lent _ _ h3 => exact absurd h3 hn
  | data h1 h2 => exact .data h1 h2
  | own h1 h2 h0 h3 h5 h6 h7 h8 h9 h10 h11 h12 => exact .own h1 h2 h0 h3 h5 h6 h7 h8 h9 h10 h11 h12
theorem SR.rho {ho' : Option V} (h : SR T e a kt st el ho es ms bs) : (∀ p ∈ es, ho ≠ some p.1) → SR T e a kt st el ho' es ms bs := by
  induction h with
  | nil => intro _; exact .nil
  | cons h1 h2 _ ih => intro hn; exact .cons (h1.rho (hn _ (by simp))) h2 (ih (fun p hp => hn p (by simp [hp])))
theorem SR.snoc {p : V × V × Bool} {m : MapEntry} {bs0 : List Nat} (h : SR T e a kt st el ho es ms bs) : EntS T e a kt st el ho p m bs0 → (∀ b ∈ bs0, b ∉ bs) → ∃ bs', SR T e a kt st el ho (es ++ [p]) (ms ++ [m]) bs' ∧ ∀ b ∈ bs', b ∈ bs0 ∨ b ∈ bs := by
  induction h with
  | nil => intro he _; exact ⟨bs0 ++ [], .cons he (fun b _ hc => by cases hc) .nil, fun b hb => .inl (by simpa using hb)⟩
  | @cons q r n ms b1 c1 h1 h2 h3 ih =>
    intro he hd
    obtain ⟨b', g1, g2⟩ := ih he (fun b hb hc => hd b hb (List.mem_append.2 (.inr hc)))
    refine ⟨b1 ++ b', .cons h1 (fun b hb hc => ?_) g1, fun b hb => ?_⟩
    · rcases g2 b hc with hc | hc
      · exact hd b hc (List.mem_append.2 (.inl hb))
      · exact h2 b hb hc
    · rcases List.mem_append.1 hb with hb | hb
      · exact .inr (List.mem_append.2 (.inl hb))
      · exact (g2 b hb).imp id (fun hb => List.mem_append.2 (.inr hb))
theorem SR.find (hT : TOK T P) {kv : V} {key : Value} (hk : kOf T st = some (.slice el)) (hz : szT T st = 1) (hf : eqT T EQD kt = true) (hy : Rep T e (.v kt kv) key) (w : World) (h : SR T e a kt st el ho es ms bs) :
    ∃ r, (Instr.findKey kt key ms).run P w = .ok r w ∧ ((r = none ∧ ∀ p ∈ es, p.1 ≠ kv) ∨ ∃ i m p, r = some (i, m.val) ∧ ms[i]? = some m ∧ es[i]? = some p ∧ p.1 = kv) := by
  obtain ⟨r, g1, g2⟩ := find_V hT hf hy w (h.mr hk hz)
  refine ⟨r, g1, ?_⟩
  cases r with
  | none => exact .inl ⟨rfl, fun p hp => g2 (p.1, A.x) (List.mem_map.2 ⟨p, hp, rfl⟩)⟩
  | some q =>
    obtain ⟨k, v⟩ := q
    obtain ⟨j, m, a, h1, h2, h3, h4⟩ := g2
    rw [Nat.zero_add] at h1
    subst h1; subst h4
    rw [keyS, List.getElem?_map] at h3
    cases hj : es[k]? with
    | none => rw [hj] at h3; cases h3
    | some p =>
      rw [hj] at h3
      injection h3 with h3; injection h3 with h3 _
      exact .inr ⟨_, m, p, rfl, h2, hj, h3⟩
theorem sm_ok {id : Nat} (h : OSim T c e of) (hof : of id = some (.sm kt st el es ho)) : e.U id ∧ e.bn id = 0 ∧ kOf T st = some (.slice el) ∧ szT T st = 1 ∧ 0 < szT T el ∧ ∃ b ms clock, e.ι id = some (b, 0) ∧ e.w.heap[b]? = some (.map ms clock) ∧ ((es.map (·.1)).Nodup ∧ StB ms clock) ∧ ∃ es' bs, es'.Perm es ∧ SR T e b kt st el ho es' ms.toList bs := h.ok _ _ hof
def smOf (of : Nat → Option Ob) (m : A) : Option (Nat × Nat × Nat × Nat × List (V × V × Bool) × Option V) :=
  match m with
  | .m id => match of id with
    | some (.sm kt st el es ho) => some (id, kt, st, el, es, ho)
    | _ => none
  | _ => none
theorem smOf_spec {m : A} {id : Nat} (h : smOf of m = some (id, kt, st, el, es, ho)) : m = .m id ∧ of id = some (.sm kt st el es ho) := by
  unfold smOf at h
  split at h <;> try (cases h; done)
  split at h <;> try (cases h; done)
  cases h
  exact ⟨rfl, by assumption⟩
theorem sm_find (hT : TOK T P) {id : Nat} {kv : V} {key : Value} (h : OSim T c e of) (hof : of id = some (.sm kt st el es ho)) (hf : eqT T EQD kt = true) (hy : Rep T e (.v kt kv) key) :
    ∃ b ms clock es' bs, e.ι id = some (b, 0) ∧ e.w.heap[b]? = some (.map ms clock) ∧ StB ms clock ∧ es'.Perm es ∧ (es.map (·.1)).Nodup ∧ (es'.map (·.1)).Nodup ∧ SR T e b kt st el ho es' ms.toList bs ∧
      (((Instr.findKey kt key ms.toList).run P e.w = .ok none e.w ∧ hasS kv es = false ∧ ∀ p ∈ es', p.1 ≠ kv) ∨
        ∃ i m x q, (Instr.findKey kt key ms.toList).run P e.w = .ok (some (i, m.val)) e.w ∧ ms.toList[i]? = some m ∧ es'[i]? = some (kv, x, q) ∧ hasS kv es = true ∧ valS kv es = x ∧ ownS kv es = q) := by
  obtain ⟨u1, u2, hk, hz, hz2, b, ms, clock, v3, v4, v5, es', bs, v6, v7⟩ := sm_ok h hof
  have v8 : (es'.map (·.1)).Nodup := (v6.map _).nodup_iff.2 v5.1
  obtain ⟨r, g1, g2⟩ := v7.find hT hk hz hf hy e.w
  refine ⟨b, ms, clock, es', bs, v3, v4, v5.2, v6, v5.1, v8, v7, ?_⟩
  rcases g2 with ⟨rfl, g2⟩ | ⟨i, m, p, rfl, g2, g3, g4⟩
  · exact .inl ⟨g1, hasS_no (fun p hp => g2 p (v6.mem_iff.2 hp)), g2⟩
  · obtain ⟨k, x, q⟩ := p
    simp only at g4
    subst g4
    obtain ⟨q1, q2, q3⟩ := hasS_mem v5.1 (v6.mem_iff.1 (List.mem_of_getElem? g3))
    exact .inr ⟨i, m, x, q, g1, g2, g3, q1, q2, q3⟩
theorem OSim.shareG (h : OSim T c e of) {id : Nat} {o : Ob} (ho : of id = some o) {a b lo hi : Nat} (hι : e.ι id = some (a, 0)) (hG : e.G a b) (hok : OK T (e.share b lo hi) id o) : OSim T c (e.share b lo hi) of := by
  have hid : (of id).isSome := by rw [ho]; rfl
  refine ⟨fun j x hj => ?_, h.sep, h.own, h.lt, fun k i hs => hs.elim (h.slt k i) (fun ⟨q, _⟩ => by rw [q]; exact h.g.lt _ _ hG), fun k i hs => .inl (h.s0 k i hs), fun k i hs => hs.elim (h.snew k i) (fun ⟨q, _⟩ => .inr (by rw [q]; exact h.g.own _ _ hG)), h.os, h.tape, h.output, h.size, h.block, ⟨h.g.sep, h.g.uniq, h.g.own, h.g.lt⟩⟩
  by_cases hj' : j = id
  · subst hj'; rw [ho] at hj; cases hj; exact hok
  · have hjs : (of j).isSome := by rw [hj]; rfl
    refine (h.ok j x hj).keep (le_share _ _ _ _) rfl (fun _ _ _ => rfl) (fun k q i hk hs => hs.elim (fun q => q) (fun ⟨q', _⟩ => absurd q' (h.g.sep _ _ hG _ _ _ hjs hk))) (fun a' q k hk hG' => ⟨hG', rfl, fun i hs => hs.elim (fun q => q) (fun ⟨q', _⟩ => ?_)⟩)
    subst q'
    have := h.g.uniq _ _ _ hG hG'
    subst this
    exact absurd rfl (h.sep _ _ _ _ _ _ hjs hid hk hι hj')
def seekS (T : TT) (t : Nat) (k : A) (ok : Bool) (q : Nat × Nat × Nat × Nat × List (V × V × Bool) × Option V) : Option (A × List Nat) :=
  match q.2.2.2.2.2 with
  | none => match kOf T t with
    | some (.map kt et) => match T et, keyV T kt k with
      | some te, some kv => if TK.notOther te.k then (if Nat.beq kt q.2.1 && Nat.beq et q.2.2.1 then
          (match hasS kv q.2.2.2.2.1 with
          | true => some (okA ok (mkA T et (valS kv q.2.2.2.2.1)) true, [q.1])
          | false => some (okA ok (mkA T et te.zero) false, [q.1])) else none) else none
      | _, _ => none
    | _ => none
  | some _ => none
theorem seekS_ok (hT : TOK T P) {id t : Nat} {k r : A} {x y : Value} {ok : Bool} {ro : List Nat} (h : OSim T c e of) (hr : seekS T t k ok (id, kt, st, el, es, ho) = some (r, ro)) (hof : of id = some (.sm kt st el es ho)) (hx : Rep T e (.m id) x) (hy : Rep T e k y) :
    Does P (do pure (.value (← Instr.lookup t x y ok))) e.w (Left T c e of ⟨r, [], ro, []⟩) := by
  unfold seekS at hr
  split at hr <;> try (cases hr; done)
  rename_i hho
  simp only at hho
  subst hho
  split at hr <;> try (cases hr; done)
  rename_i kt' et hk
  obtain ⟨tem, h1, h2⟩ := kOf_some hk
  have hu := under_map (hT _ _ h1) h2
  split at hr <;> try (cases hr; done)
  rename_i te kv hte hkv
  obtain ⟨hf, hkey⟩ := keyV_ok hkv hy
  split at hr <;> try (cases hr; done)
  rename_i hne
  split at hr <;> try (cases hr; done)
  rename_i hc
  simp only [Bool.and_eq_true] at hc
  have := Nat.eq_of_beq_eq_true hc.1; subst this
  have := Nat.eq_of_beq_eq_true hc.2; subst this
  obtain ⟨z, hz1, hz2⟩ := zero_rep hT hte hne e.w
  have hck : ∀ em, (Instr.checkKey em 10000 kt' y).run P e.w = .ok () e.w := fun em => run_checkKey_V hT em e.w EQD kt' 9992 kv y hf hkey
  obtain ⟨u1, u2, hks, hz, hz3, _⟩ := sm_ok h hof
  obtain ⟨b, ms, clock, es', bs, v3, v4, vb, v6, v5, v8, v7, g⟩ := sm_find hT h hof hf hkey
  obtain ⟨b', _, _, u3, rfl⟩ := rep_m_inv hx
  rw [v3] at u3; cases u3
  have hg : (getObj b).run P e.w = .ok (.map ms clock) e.w := MapKept.run_getObj_map v4
  rcases g with ⟨g1, g2, _⟩ | ⟨i, me, xv, q, g1, hm1, hm2, g2, g3, g4⟩
  · simp only [g2] at hr
    simp only [Option.some.injEq, Prod.mk.injEq] at hr
    obtain ⟨rfl, rfl⟩ := hr
    refine does_value (x := if ok then .tuple #[z, .bool false] else z) (w' := e.w) ?_ (left_same h (okA_rep (hz2 e) (mkA_not _ _)))
    simp [Instr.lookup, run_under hu, hg, hck, g1, hz1]
  · simp only [g2] at hr
    simp only [Option.some.injEq, Prod.mk.injEq] at hr
    obtain ⟨rfl, rfl⟩ := hr
    have hrun : (Instr.lookup t (.map (some b)) y ok).run P e.w = .ok (if ok then .tuple #[me.val, .bool true] else me.val) e.w := by
      simp [Instr.lookup, run_under hu, hg, hck, g1]
    obtain ⟨bs0, cs, k1, k2, k3, k4⟩ := v7.pull hm2 hm1
    have back : ∀ e' : Env, e'.w = e.w → OSim T c e' of → e.le e' → (∀ j, e'.U j → e.U j) → RV T e' [et] [xv] [me.val] → Left T c e of ⟨okA ok (mkA T et (valS kv es)) true, [], [id], []⟩ (if ok then .tuple #[me.val, .bool true] else me.val) e.w := by
      intro e' q1 q2 q3 q4 q5
      refine ⟨e', q1, q2, q3, fun j hj => .inl (q4 j hj), okA_rep ?_ (mkA_not _ _)⟩
      rw [g3]
      have hone : one me.val = true := k1.val
      exact norm_rep hte (a := .v et xv) ⟨by rw [cells_one hone]; exact q5, aggIff_scal hks rfl hone⟩ (fitA_v _ _)
    refine does_value hrun ?_
    cases k1 with
    | lent _ _ h3 => cases h3
    | data j1 j2 => exact back e rfl h (Env.le.refl e) (fun _ hu => hu) j2
    | @own _ xs _ bb o j cap cells t' fz pre ys post j1 j2 j0 j3 j5 j6 j7 j8 j9 j10 j11 j12 =>
      have hle := le_share e bb o (o + ys.length)
      have hne' : ∀ b' ∈ cs, e.G b b' → (e.share bb o (o + ys.length)).G b b' ∧ (e.share bb o (o + ys.length)).w.heap[b']? = e.w.heap[b']? ∧ ∀ i, (e.share bb o (o + ys.length)).S b' i → e.S b' i := fun b' hb' hG' => ⟨hG', rfl, fun i hs => hs.elim (fun q => q) (fun ⟨q', _⟩ => absurd (q' ▸ hb') (k3 bb (by simp)))⟩
      have hent : EntS T (e.share bb o (o + ys.length)) b kt' et el none (kv, .l xs, true) me [bb] := .own (j1.mono hle) j2 j0 j3 j5 j6 j7 j8 (j9.mono hle) j10 j11 (fun i hi hs => hs.elim (j12 i hi) (fun ⟨_, _, q⟩ => by omega))
      obtain ⟨bs', q1, _⟩ := SR.putAt hm2 hm1 (k2.keep' hle hne') hent k3
      rw [show es'.set i (kv, .l xs, true) = es' from set_self hm2, show ms.toList.set i me = ms.toList from set_self hm1] at q1
      have hok : OK T (e.share bb o (o + ys.length)) id (.sm kt' et el es none) := ⟨u1, u2, hks, hz, hz3, b, ms, clock, v3, v4, ⟨v5, vb⟩, es', bs', v6, q1⟩
      refine back (e.share bb o (o + ys.length)) rfl (h.shareG hof v3 j3 hok) hle (fun _ hu => hu) ?_
      rw [j2]
      refine .slice hks hz rfl j10 ⟨fun _ => rfl, fun jj y' hj => ?_⟩ (j9.mono hle) .nil
      have hjl := (List.getElem?_eq_some_iff.1 hj).1
      have hcap : 0 < cap := by
        rcases Nat.eq_zero_or_pos cap with h0 | h0
        · have : xs = [] := List.eq_nil_of_length_eq_zero (by omega)
          subst this
          have := j9.length.1
          simp [szs] at this
          subst this; simp at hjl
        · exact h0
      have := j0 hcap
      subst this
      refine ⟨?_, .inr ⟨rfl, by show j ≤ j + jj; omega, by show j + jj < _; omega⟩⟩
      show e.w.cell? _ = _
      rw [add_none, cell_heap j5, j7, ← j8, List.append_assoc]
      exact mid_get hj
end Go.Vm

namespace Go.Vm
open Go.RowKit
variable {P : Program} {T : TT} {c : Ctx} {e : Env} {of : Nat → Option Ob}
variable {a kt st el : Nat} {ho : Option V} {es : List (V × V × Bool)} {ms : List MapEntry} {bs : List Nat}
theorem SR.inG (h : SR T e a kt st el ho es ms bs) : ∀ b ∈ bs, e.G a b := by
  induction h with
  | nil => intro b hb; cases hb
  | cons h1 _ _ ih =>
    intro b hb
    rcases List.mem_append.1 hb with hb | hb
    · cases h1 with
      | lent => cases hb
      | data => cases hb
      | own _ _ _ h3 => simp only [List.mem_singleton] at hb; subst hb; exact h3
    · exact ih b hb
def Env.give (e : Env) (id b o el ln : Nat) : Env :=
  { w := e.w, ι := upd e.ι id (some (b, o)), S := e.S, bn := upd e.bn id 1, U := fun j => j = id ∨ e.U j, ty := upd e.ty id el, ln := upd e.ln id ln, G := fun a b' => e.G a b' ∧ b' ≠ b }
theorem le_give {id : Nat} (hu : ¬ e.U id) (b o el ln : Nat) : e.le (e.give id b o el ln) := by
  have ne : ∀ j, e.U j → j ≠ id := fun j hj q => hu (q ▸ hj)
  refine ⟨fun b i hs => ⟨hs, fun x hx => hx⟩, fun _ hj => .inr hj, fun j hj _ => ⟨upd_ne _ _ (ne j hj), upd_ne _ _ (ne j hj), fun _ _ _ => rfl⟩, fun j hj h0 => ?_, fun j hj => ?_, fun j hj => upd_ne _ _ (ne j hj), Nat.le_refl _, fun _ _ => rfl⟩
  · show upd e.bn id 1 j = 0
    rw [upd_ne _ _ (ne j hj)]; exact h0
  · show _ ≤ upd e.bn id 1 j
    rw [upd_ne _ _ (ne j hj)]; exact Nat.le_refl _
theorem OSim.give (h : OSim T c e of) {id id0 : Nat} (hu : ¬ e.U id) {o0 o1 o2 : Ob} (hof : of id0 = some o0) {a b q el ln : Nat} (hι : e.ι id0 = some (a, 0)) (hG : e.G a b) (h1 : OK T (e.give id b q el ln) id0 o1) (h2 : OK T (e.give id b q el ln) id o2) :
    OSim T c (e.give id b q el ln) (upd (upd of id0 (some o1)) id (some o2)) := by
  have hle := le_give hu b q el ln
  have hs0 : (of id0).isSome := by rw [hof]; rfl
  have hne : id0 ≠ id := fun e => hu (e ▸ (h.ok _ _ hof).use)
  have ιne : ∀ j, j ≠ id → (e.give id b q el ln).ι j = e.ι j := fun j hj => upd_ne _ _ hj
  have some' : ∀ j, j ≠ id → (upd (upd of id0 (some o1)) id (some o2) j).isSome → (of j).isSome := fun j hj hh => by
    rw [upd_ne _ _ hj] at hh
    by_cases h0 : j = id0
    · subst h0; exact hs0
    · rw [upd_ne _ _ h0] at hh; exact hh
  refine ⟨fun j x hj => ?_, fun j k b1 q1 b2 q2 hj hk hb1 hb2 hjk => ?_, fun j b1 q1 hj hb1 => ?_, fun j b1 q1 hj hb1 => ?_, h.slt, h.s0, h.snew, h.os, h.tape, h.output, h.size, h.block, ⟨fun a1 b1 hg j b2 q2 hj hb2 => ?_, fun a1 a2 b1 g1 g2 => h.g.uniq a1 a2 b1 g1.1 g2.1, fun a1 b1 g1 => h.g.own a1 b1 g1.1, fun a1 b1 g1 => h.g.lt a1 b1 g1.1⟩⟩
  · by_cases hj1 : j = id
    · subst hj1; rw [upd_same] at hj; cases hj; exact h2
    · rw [upd_ne _ _ hj1] at hj
      by_cases hj2 : j = id0
      · subst hj2; rw [upd_same] at hj; cases hj; exact h1
      · rw [upd_ne _ _ hj2] at hj
        have hjs : (of j).isSome := by rw [hj]; rfl
        refine (h.ok j x hj).keep hle (upd_ne _ _ hj1) (fun _ _ _ => rfl) (fun _ _ _ _ hs => hs) (fun a' q' k hk hG' => ⟨⟨hG', fun q => ?_⟩, rfl, fun _ hs => hs⟩)
        subst q
        have := h.g.uniq _ _ _ hG hG'
        subst this
        exact h.sep _ _ _ _ _ _ hjs hs0 hk hι hj2 rfl
  · by_cases e1 : j = id
    · subst e1
      have e2 : k ≠ j := Ne.symm hjk
      rw [ιne k e2] at hb2
      have hb1 : (b, q) = (b1, q1) := by simpa [Env.give] using hb1
      cases hb1
      exact Ne.symm (h.g.sep _ _ hG _ _ _ (some' k e2 hk) hb2)
    · by_cases e2 : k = id
      · subst e2
        rw [ιne j e1] at hb1
        have hb2 : (b, q) = (b2, q2) := by simpa [Env.give] using hb2
        cases hb2
        exact h.g.sep _ _ hG _ _ _ (some' j e1 hj) hb1
      · rw [ιne _ e1] at hb1; rw [ιne _ e2] at hb2
        exact h.sep _ _ _ _ _ _ (some' j e1 hj) (some' k e2 hk) hb1 hb2 hjk
  · by_cases e1 : j = id
    · subst e1
      have hb1 : (b, q) = (b1, q1) := by simpa [Env.give] using hb1
      cases hb1
      exact h.g.own _ _ hG
    · rw [ιne _ e1] at hb1
      exact h.own _ _ _ (some' j e1 hj) hb1
  · by_cases e1 : j = id
    · subst e1
      have hb1 : (b, q) = (b1, q1) := by simpa [Env.give] using hb1
      cases hb1
      exact h.g.lt _ _ hG
    · rw [ιne _ e1] at hb1
      rcases hj with hj | hj
      · exact absurd hj e1
      · exact h.lt _ _ _ hj hb1
  · by_cases e1 : j = id
    · subst e1
      have hb2 : (b, q) = (b2, q2) := by simpa [Env.give] using hb2
      cases hb2
      exact Ne.symm hg.2
    · rw [ιne _ e1] at hb2
      exact h.g.sep _ _ hg.1 _ _ _ (some' j e1 hj) hb2
def lendS (T : TT) (nx t : Nat) (k : A) (q : Nat × Nat × Nat × Nat × List (V × V × Bool) × Option V) : Option Out :=
  match q.2.2.2.2.2 with
  | none => match kOf T t with
    | some (.map kt et) => match T et, keyV T kt k with
      | some te, some kv => if TK.notOther te.k then (if Nat.beq kt q.2.1 && Nat.beq et q.2.2.1 then
          (match hasS kv q.2.2.2.2.1 with
          | true => if ownS kv q.2.2.2.2.1 then some ⟨.o nx 1, [(q.1, .sm q.2.1 q.2.2.1 q.2.2.2.1 q.2.2.2.2.1 (some kv)), (nx, .row q.2.2.2.1 1 (valS kv q.2.2.2.2.1).els false true)], [q.1], [nx]⟩ else none
          | false => some ⟨mkA T et te.zero, [], [q.1], []⟩) else none) else none
      | _, _ => none
    | _ => none
  | some _ => none
theorem lendS_ok (hT : TOK T P) {id t nx : Nat} {k : A} {x y : Value} {out : Out} (h : OSim T c e of) (hr : lendS T nx t k (id, kt, st, el, es, ho) = some out) (hof : of id = some (.sm kt st el es ho)) (hu0 : ∀ j ∈ out.nw, ¬ e.U j) (hx : Rep T e (.m id) x) (hy : Rep T e k y) :
    Does P (do pure (.value (← Instr.lookup t x y false))) e.w (Left T c e of out) := by
  unfold lendS at hr
  split at hr <;> try (cases hr; done)
  rename_i hho
  simp only at hho
  subst hho
  split at hr <;> try (cases hr; done)
  rename_i kt' et hk
  obtain ⟨tem, h1, h2⟩ := kOf_some hk
  have hu := under_map (hT _ _ h1) h2
  split at hr <;> try (cases hr; done)
  rename_i te kv hte hkv
  obtain ⟨hf, hkey⟩ := keyV_ok hkv hy
  split at hr <;> try (cases hr; done)
  rename_i hne
  split at hr <;> try (cases hr; done)
  rename_i hc
  simp only [Bool.and_eq_true] at hc
  have := Nat.eq_of_beq_eq_true hc.1; subst this
  have := Nat.eq_of_beq_eq_true hc.2; subst this
  obtain ⟨z, hz1, hz2⟩ := zero_rep hT hte hne e.w
  have hck : ∀ em, (Instr.checkKey em 10000 kt' y).run P e.w = .ok () e.w := fun em => run_checkKey_V hT em e.w EQD kt' 9992 kv y hf hkey
  obtain ⟨u1, u2, hks, hz, hz3, _⟩ := sm_ok h hof
  obtain ⟨b, ms, clock, es', bs, v3, v4, vb, v6, v5, v8, v7, g⟩ := sm_find hT h hof hf hkey
  obtain ⟨b', _, _, u3, rfl⟩ := rep_m_inv hx
  rw [v3] at u3; cases u3
  have hg : (getObj b).run P e.w = .ok (.map ms clock) e.w := MapKept.run_getObj_map v4
  rcases g with ⟨g1, g2, _⟩ | ⟨i, me, xv, q, g1, hm1, hm2, g2, g3, g4⟩
  · simp only [g2] at hr
    injection hr with hr; subst hr
    refine does_value (x := z) (w' := e.w) ?_ (left_same h (hz2 e))
    simp [Instr.lookup, run_under hu, hg, hck, g1, hz1]
  · simp only [g2] at hr
    split at hr <;> try (cases hr; done)
    rename_i hown
    injection hr with hr; subst hr
    rw [g4] at hown
    subst hown
    have hun : ¬ e.U nx := hu0 nx (by simp)
    obtain ⟨bs0, cs, k1, k2, k3, k4⟩ := v7.pull hm2 hm1
    cases k1 with
    | lent _ _ h3 => cases h3
    | @own _ xs _ bb o j cap cells t' fz pre ys post j1 j2 j0 j3 j5 j6 j7 j8 j9 j10 j11 j12 =>
      have hle := le_give hun bb o el xs.length
      have hent : EntS T (e.give nx bb o el xs.length) b kt' et el (some kv) (kv, .l xs, true) me [] := .lent (j1.mono hle) (by rw [j2]; rfl) rfl
      have k2' : SR T e b kt' et el (some kv) (es'.eraseIdx i) (ms.toList.eraseIdx i) cs := k2.rho (fun p _ q => by cases q)
      obtain ⟨bs', q1, _⟩ := SR.putAt hm2 hm1 (k2'.keep' hle (fun b' hb' hG' => ⟨⟨hG', fun q => k3 bb (by simp) (q ▸ hb')⟩, rfl, fun _ hs => hs⟩)) hent (fun b hb => by cases hb)
      rw [show es'.set i (kv, .l xs, true) = es' from set_self hm2, show ms.toList.set i me = ms.toList from set_self hm1] at q1
      have hne : id ≠ nx := fun q => hun (q ▸ u1)
      have hok1 : OK T (e.give nx bb o el xs.length) id (.sm kt' et el es (some kv)) := ⟨.inr u1, (upd_ne _ _ hne).trans u2, hks, hz, hz3, b, ms, clock, (upd_ne _ _ hne).trans v3, v4, ⟨v5, vb⟩, es', bs', v6, q1⟩
      have hok2 : OK T (e.give nx bb o el xs.length) nx (.row el 1 xs false true) := ⟨.inl rfl, Nat.one_pos, upd_same _ _ _, upd_same _ _ _, upd_same _ _ _, hz3, .inr ⟨rfl, bb, o, cells, t', fz, pre, ys, post, upd_same _ _ _, j5, j6, j7, j8, j9.mono hle, j12, fun q => by cases q⟩⟩
      refine does_value (x := me.val) (w' := e.w) (by simp [Instr.lookup, run_under hu, hg, hck, g1]) ⟨e.give nx bb o el xs.length, rfl, ?_, hle, fun jj hj => hj.elim (fun q => .inr (by simp [q])) .inl, ?_⟩
      · have := h.give hun hof v3 j3 hok1 hok2
        rw [g3]
        exact this
      · rw [j2]
        refine RA.r ⟨rfl, .inl rfl, Nat.le_of_eq (upd_same _ _ _).symm, Nat.one_pos, fun _ => .inr ⟨bb, o, cap, j, upd_same _ _ _, ?_, ?_, j0, ?_⟩⟩ rfl .nil
        · show upd e.ln nx xs.length nx ≤ cap
          rw [upd_same]; exact j10
        · show o + cap * szT T (upd e.ty nx el nx) = blen e.w bb
          rw [upd_same, j11]; simp [blen, j5]
        · show _ = Value.slice _ (upd e.ln nx xs.length nx) cap
          rw [upd_same]
end Go.Vm
end
