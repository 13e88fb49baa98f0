/- What the operations of a program do, shown once for all programs; and numbers. -/
import Derived.Test.YtdilkihonfnpcaaGreatVm4
import Derived.Orders
import Derived.OrdersIn
import Derived.LoopNIn
import Derived.RangeFuncIn
set_option linter.constructorNameAsVariable false
set_option linter.unusedVariables false
set_option linter.unusedSimpArgs false
noncomputable section
namespace Go.Vm
open Go.RowKit
variable {P : Program} {T : TT} {c : Ctx} {e : Env} {of : Nat → Option Ob}
set_option linter.unusedVariables false
set_option linter.constructorNameAsVariable false

/-! ### Maps, made and changed -/
def Env.newM (e : Env) (id : Nat) (o : Go.Obj) : Env :=
  { w := e.w.alloc o, ι := upd e.ι id (some (e.w.heap.size, 0)), S := e.S, bn := upd e.bn id 0, U := fun j => j = id ∨ e.U j, ty := e.ty, ln := e.ln }
theorem OSim.le_newM (h : OSim T c e of) {id : Nat} (hu : ¬ e.U id) (o : Go.Obj) : e.le (e.newM id o) := by
  refine ⟨fun b i hs => ⟨hs, fun x hx => ?_⟩, fun _ hj => .inr hj, fun j hj _ => ?_, fun j hj h0 => ?_, fun j hj => ?_, fun j hj => rfl, by show _ ≤ (e.w.alloc _).heap.size; rw [size_alloc]; omega, fun b hb => len_of_heap (alloc_old _ _ hb)⟩
  · rw [← hx]; exact cell_of_heap (alloc_old _ _ (h.slt _ _ hs))
  · have hne : j ≠ id := fun e => hu (e ▸ hj)
    exact ⟨upd_ne _ _ hne, rfl, fun b o hb => len_of_heap (alloc_old _ _ (h.lt _ _ _ hj hb))⟩
  · have hne : j ≠ id := fun e => hu (e ▸ hj)
    show upd e.bn id 0 j = 0
    rw [upd_ne _ _ hne]; exact h0
  · have hne : j ≠ id := fun e => hu (e ▸ hj)
    show _ ≤ upd e.bn id 0 j
    rw [upd_ne _ _ hne]; exact Nat.le_refl _
theorem OSim.newM (h : OSim T c e of) {id : Nat} (hu : ¬ e.U id) {g : Go.Obj} {o : Ob} (ho : OK T (e.newM id g) id o) : OSim T c (e.newM id g) (upd of id (some o)) := by
  have hle := h.le_newM hu g
  have ιne : ∀ j, j ≠ id → (e.newM id g).ι j = e.ι j := fun j hj => upd_ne _ _ hj
  have obne : ∀ j, j ≠ id → upd of id (some o) j = of j := fun j hj => upd_ne _ _ hj
  have old : ∀ j b q, (of j).isSome → e.ι j = some (b, q) → b < e.w.heap.size := fun j b q hj hb => by
    obtain ⟨x, hx⟩ := Option.isSome_iff_exists.1 hj
    exact h.lt _ _ _ (h.ok _ _ hx).use hb
  refine ⟨fun j x hj => ?_, fun j k b q b' q' hj hk hb hb' hne => ?_, fun j b q hj hb => ?_, fun j b q hj hb => ?_, fun b i hs => ?_, h.s0, h.snew, h.os, h.tape, h.output, ?_, fun k hk hm => ?_⟩
  · by_cases he : j = id
    · subst he; rw [upd_same] at hj; cases hj; exact ho
    · rw [obne _ he] at hj
      exact (h.ok _ _ hj).keep hle (upd_ne _ _ he) (fun b q hb => alloc_old _ _ (old _ _ _ (by rw [hj]; rfl) hb)) (fun _ _ _ _ hs => hs)
  · by_cases h1 : j = id
    · subst h1
      have hk' : k ≠ j := Ne.symm hne
      rw [obne _ hk'] at hk; rw [ιne _ hk'] at hb'
      have := old _ _ _ hk hb'
      have hb1 : (e.w.heap.size, 0) = (b, q) := by simpa [Env.newM] using hb
      cases hb1; omega
    · by_cases h2 : k = id
      · subst h2
        rw [obne _ h1] at hj; rw [ιne _ h1] at hb
        have := old _ _ _ hj hb
        have hb1 : (e.w.heap.size, 0) = (b', q') := by simpa [Env.newM] using hb'
        cases hb1; omega
      · rw [obne _ h1] at hj; rw [obne _ h2] at hk; rw [ιne _ h1] at hb; rw [ιne _ h2] at hb'
        exact h.sep _ _ _ _ _ _ hj hk hb hb' hne
  · by_cases h1 : j = id
    · subst h1
      have hb1 : (e.w.heap.size, 0) = (b, q) := by simpa [Env.newM] using hb
      cases hb1; exact .inl h.size
    · rw [obne _ h1] at hj; rw [ιne _ h1] at hb
      exact h.own _ _ _ hj hb
  · have hsz : (e.newM id g).w.heap.size = e.w.heap.size + 1 := size_alloc _ _
    rw [hsz]
    by_cases h1 : j = id
    · subst h1
      have hb1 : (e.w.heap.size, 0) = (b, q) := by simpa [Env.newM] using hb
      cases hb1; omega
    · rw [ιne _ h1] at hb
      rcases hj with hj | hj
      · exact absurd hj h1
      · have := h.lt _ _ _ hj hb; omega
  · have := h.slt _ _ hs
    show b < (e.w.alloc _).heap.size
    rw [size_alloc]; omega
  · show _ ≤ (e.w.alloc _).heap.size
    rw [size_alloc]; have := h.size; omega
  · exact (alloc_old _ _ (by have := h.size; omega)).trans (h.block k hk hm)
theorem law_makeMap {t kt et id : Nat} (h : OSim T c e of) (ht : P.underlying t = some (.map kt et)) (hu : ¬ e.U id) {r : Option Value} (hr : r = none ∨ ∃ k n, r = some (.int k n)) {ro : List Nat} :
    Does P (do pure (.value (← Instr.makeMap t r))) e.w (Left T c e of ⟨.m id, [(id, .map kt et [])], ro, [id]⟩) := by
  have hrun : (Instr.makeMap t r).run P e.w = .ok (.map (some e.w.heap.size)) (e.w.alloc (.map #[] 0)) := by
    rcases hr with rfl | ⟨k, n, rfl⟩
    · simp [Instr.makeMap]
    · simp [Instr.makeMap, run_under ht, asInt, asIntOf]
  have hok : OK T (e.newM id (.map #[] 0)) id (.map kt et []) :=
    ⟨.inl rfl, upd_same _ _ _, e.w.heap.size, #[], 0, upd_same _ _ _, alloc_new _ _, ⟨List.nodup_nil, stB_nil⟩, [], List.Perm.refl _, .nil⟩
  refine does_value hrun ⟨e.newM id (.map #[] 0), rfl, h.newM hu hok, h.le_newM hu _, fun j hj => hj.elim (fun q => .inr (by simp [q])) .inl, ?_⟩
  exact RA.r ⟨e.w.heap.size, .inl rfl, upd_same _ _ _, upd_same _ _ _, rfl⟩ rfl .nil
theorem OSim.writeM (h : OSim T c e of) {id : Nat} {o o' : Ob} (ho : of id = some o) {b q : Nat} (hι : e.ι id = some (b, q)) {ms ms' : Array MapEntry} {cl cl' : Nat} (h0 : e.w.heap[b]? = some (.map ms cl)) {w' : World} (hw : w' = { e.w with heap := e.w.heap.setIfInBounds b (.map ms' cl') })
    (hok : e.le { e with w := w' } → w'.heap[b]? = some (.map ms' cl') → OK T { e with w := w' } id o') : OSim T c { e with w := w' } (upd of id (some o')) ∧ e.le { e with w := w' } := by
  have hlt : b < e.w.heap.size := (Array.getElem?_eq_some_iff.1 h0).1
  have h1 : w'.heap[b]? = some (.map ms' cl') := by rw [hw]; simp [hlt]
  have hne : ∀ k, k ≠ b → w'.heap[k]? = e.w.heap[k]? := fun k hk => by rw [hw]; simp [Ne.symm hk]
  have hsz : w'.heap.size = e.w.heap.size := by rw [hw]; simp
  have hln : ∀ k, blen w' k = blen e.w k := fun k => by
    by_cases hk' : k = b
    · subst hk'; simp [blen, h0, h1]
    · exact len_of_heap (hne _ hk')
  have hle : e.le { e with w := w' } := by
    refine ⟨fun k i hs => ⟨hs, fun x hx => ?_⟩, fun _ hu => hu, fun j hu _ => ⟨rfl, rfl, fun k q' hk => hln k⟩, fun _ _ h => h, fun _ _ => Nat.le_refl _, fun _ _ => rfl, by show _ ≤ w'.heap.size; omega, fun k _ => hln k⟩
    by_cases hk : k = b
    · subst hk
      simp [World.cell?, h0] at hx
    · rw [← hx]; exact cell_of_heap (hne _ hk)
  exact ⟨h.turn ho hle (fun _ _ => rfl) (fun _ _ => rfl) (fun _ hu => hu) (fun k _ hk => hne k (fun hkb => hk q (by rw [hkb]; exact hι))) (by show _ ≤ w'.heap.size; omega) (fun _ _ hs => .inl hs) (fun k q' hk => .inl ⟨q', hk⟩) (by rw [hw]) (by rw [hw]) (by rw [hw]) (hok hle h1), hle⟩
theorem StB.push {ms : Array MapEntry} {clock : Nat} (h : StB ms clock) {k v : Value} : StB (ms.push { key := k, val := v, born := clock }) (clock + 1) := by
  refine ⟨fun x hx => ?_, ?_⟩
  · rw [Array.toList_push, List.mem_append, List.mem_singleton] at hx
    rcases hx with hx | rfl
    · have := h.1 x hx; omega
    · exact Nat.lt_succ_self _
  · rw [Array.toList_push, List.map_append, List.nodup_append]
    refine ⟨h.2, by simp, fun a ha b hb => ?_⟩
    simp at hb; subst hb
    obtain ⟨x, hx, rfl⟩ := List.mem_map.1 ha
    exact Nat.ne_of_lt (h.1 x hx)
theorem StB.mod {ms : Array MapEntry} {clock : Nat} (h : StB ms clock) {i : Nat} {f : MapEntry → MapEntry} (hf : ∀ x, (f x).born = x.born) : StB (ms.modify i f) clock := by
  have e : (ms.modify i f).toList.map (·.born) = ms.toList.map (·.born) := by
    apply List.ext_getElem?
    intro j
    rw [List.getElem?_map, List.getElem?_map, Array.getElem?_toList, Array.getElem?_toList, Array.getElem?_modify]
    by_cases hij : i = j
    · subst hij; rw [if_pos rfl]; cases ms[i]? with
      | none => rfl
      | some x => simp [hf]
    · rw [if_neg hij]
  refine ⟨fun x hx => ?_, by rw [e]; exact h.2⟩
  have : x.born ∈ (ms.modify i f).toList.map (·.born) := List.mem_map_of_mem hx
  rw [e] at this
  obtain ⟨y, hy, hyx⟩ := List.mem_map.1 this
  rw [← hyx]; exact h.1 y hy
theorem StB.erase {ms : Array MapEntry} {clock : Nat} (h : StB ms clock) (i : Nat) : StB (ms.eraseIdxIfInBounds i) clock := by
  by_cases hi : i < ms.size
  · have e : (ms.eraseIdxIfInBounds i).toList = ms.toList.eraseIdx i := by simp [Array.eraseIdxIfInBounds, hi]
    exact ⟨fun x hx => by rw [e] at hx; exact h.1 x (List.mem_of_mem_eraseIdx hx), by rw [e]; exact h.2.sublist ((List.eraseIdx_sublist _ _).map _)⟩
  · have e : ms.eraseIdxIfInBounds i = ms := by simp [Array.eraseIdxIfInBounds, hi]
    rw [e]; exact h
def updM (T : TT) (of : Nat → Option Ob) (t : Nat) (m k v : A) : Option (List (Nat × Ob) × List Nat) :=
  match kOf T t with
  | some (.map kt et) => match keyV T kt k, asT T et v, m with
    | some kv, some a, .m id => match of id with
      | some (.map kt' et' es) => if (T et).isSome && Nat.beq kt kt' && Nat.beq et et' then some ([(id, .map kt et ((kv, a) :: delM kv es))], [id]) else none
      | _ => none
    | _, _, _ => none
  | _ => none
theorem updM_ok (hT : TOK T P) {of' : Nat → Option Ob} {t : Nat} {m k v : A} {x y z : Value} {wo : List (Nat × Ob)} {ro : List Nat} (h : OSim T c e of') (hr : updM T of t m k v = some (wo, ro)) (ho : ∀ id ∈ ro, of' id = of id) (hx : Rep T e m x) (hy : Rep T e k y) (hz : Rep T e v z) :
    Does P (do Instr.mapUpdate t x y z; pure .skip) e.w (Left T c e of' ⟨.x, wo, ro, []⟩) := by
  unfold updM at hr
  split at hr <;> try (cases hr; done)
  rename_i kt et hk
  obtain ⟨tem, h1, h2⟩ := kOf_some hk
  have hu := under_map (hT _ _ h1) h2
  split at hr <;> try (cases hr; done)
  rename_i kv a id hkv hva
  obtain ⟨hf, hkey⟩ := keyV_ok hkv hy
  split at hr <;> try (cases hr; done)
  rename_i kt' et' es hof
  split at hr <;> try (cases hr; done)
  rename_i hc
  simp only [Bool.and_eq_true] at hc
  obtain ⟨⟨c1, c2⟩, c3⟩ := hc
  have := Nat.eq_of_beq_eq_true c2; subst this
  have := Nat.eq_of_beq_eq_true c3; subst this
  obtain ⟨te, hte⟩ := Option.isSome_iff_exists.1 c1
  injection hr with hr; injection hr with e1 e2; subst e1; subst e2
  have hof' := (ho id (by simp)).trans hof
  obtain ⟨v1, v2, b, ms, clock, v3, v4, v5, es', v6, v7⟩ := map_ok h hof'
  obtain ⟨b', u1, u2, u3, rfl⟩ := rep_m_inv hx
  rw [v3] at u3; cases u3
  obtain ⟨rr, g1, g2⟩ := find_V hT hf hkey e.w v7
  have hg : (getObj b).run P e.w = .ok (.map ms clock) e.w := MapKept.run_getObj_map v4
  have hck : ∀ em, (Instr.checkKey em 10000 kt y).run P e.w = .ok () e.w := fun em => run_checkKey_V hT em e.w EQD kt 9992 kv y hf hkey
  have hset : ∀ o, (setObj b o).run P e.w = .ok () { e.w with heap := e.w.heap.setIfInBounds b o } := fun o => MapKept.run_setObj_map o v4
  have hrepv := asT_rep hte hz hva
  have hfit := asT_fit hva
  have k1 : Rep1 T e (.v kt kv) y := hkey
  have hnd : ((delM kv es).map (·.1)).Nodup := by rw [delM_filter]; exact v5.1.sublist (List.filter_sublist.map _)
  have hnin : kv ∉ (delM kv es).map (·.1) := by
    rw [delM_filter]
    intro hm
    obtain ⟨p, hp, hpk⟩ := List.mem_map.1 hm
    have := (List.mem_filter.1 hp).2
    rw [hpk, veq_refl] at this
    simp at this
  have hnd2 : (((kv, a) :: delM kv es).map (·.1)).Nodup := by
    rw [List.map_cons, List.nodup_cons]; exact ⟨hnin, hnd⟩
  have v6' : (es'.map (·.1)).Nodup := (v6.map _).nodup_iff.2 v5.1
  rcases g2.fnd v5.1 v6 with ⟨rfl, hfn⟩ | ⟨i, me, a0, rfl, hm1, hm2, hfn⟩
  · obtain ⟨q1, q2⟩ := h.writeM hof' v3 v4 (ms' := ms.push { key := y, val := z, born := clock }) (cl' := clock + 1) rfl (o' := .map kt et ((kv, a) :: delM kv es)) (fun hle hh =>
      ⟨v1, v2, b, _, _, v3, hh, ⟨hnd2, v5.2.push⟩, es' ++ [(kv, a)], by
        rw [delM_filter, filter_none (fndM_none.1 hfn)]
        exact (List.perm_append_singleton _ _).trans (v6.cons _), by
        rw [Array.toList_push]
        exact (v7.mono hle).push (m := { key := y, val := z, born := clock }) (k1.mono hle) ((rep1_fit hrepv hfit).mono hle) hfit⟩)
    refine .inr (.inl ⟨_, ?_, ⟨_, rfl, q1, q2, fun j hj => .inl hj, trivial⟩⟩)
    simp [Instr.mapUpdate, run_under hu, hg, hck, g1, hset]
  · obtain ⟨r1, r2, r3⟩ := v7.at hm2 hm1
    have hkeq : me.key = y := (rep_key hf k1).2 _ r1
    have hj : ms[i]? = some me := by simpa using hm1
    obtain ⟨q1, q2⟩ := h.writeM hof' v3 v4 (ms' := ms.modify i fun e => { e with key := y, val := z }) (cl' := clock) rfl (o' := .map kt et ((kv, a) :: delM kv es)) (fun hle hh =>
      ⟨v1, v2, b, _, _, v3, hh, ⟨hnd2, v5.2.mod (fun _ => rfl)⟩, es'.set i (kv, a), by
        refine (set_perm hm2).trans (List.Perm.cons _ ?_)
        rw [delM_filter, ← filter_erase v6' hm2]
        exact v6.filter _, by
        have e1 : (ms.modify i fun e => { e with key := y, val := z }).toList = ms.toList.set i { me with key := y, val := z } := by
          apply List.ext_getElem?
          intro j
          rw [Array.getElem?_toList, Array.getElem?_modify, List.getElem?_set]
          by_cases hij : i = j
          · subst hij
            rw [if_pos rfl, if_pos rfl, hj]
            have : i < ms.toList.length := (List.getElem?_eq_some_iff.1 hm1).1
            rw [if_pos this]; rfl
          · rw [if_neg hij, if_neg hij, Array.getElem?_toList]
        rw [e1]
        exact (v7.mono hle).set hm2 hm1 (m' := { me with key := y, val := z }) (k1.mono hle) ((rep1_fit hrepv hfit).mono hle) hfit⟩)
    have hst : (Instr.keyThatStays y y).run P e.w = .ok y e.w := run_stays (rep_key hf k1).1 e.w
    refine .inr (.inl ⟨_, ?_, ⟨_, rfl, q1, q2, fun j hj => .inl hj, trivial⟩⟩)
    simp [Instr.mapUpdate, run_under hu, hg, hck, g1, hj, hkeq, hst, hset]
def dropM (T : TT) (of : Nat → Option Ob) (t : Nat) (m k : A) : Option (List (Nat × Ob) × List Nat) :=
  match kOf T t with
  | some (.map kt et) => match keyV T kt k, m with
    | some kv, .m id => match of id with
      | some (.map kt' et' es) => if Nat.beq kt kt' && Nat.beq et et' then some ([(id, .map kt et (delM kv es))], [id]) else none
      | _ => none
    | _, _ => none
  | _ => none
theorem dropM_ok (hT : TOK T P) {of' : Nat → Option Ob} {t kt0 ty : TypeId} {m k : A} {x y : Value} {wo : List (Nat × Ob)} {ro : List Nat} (h : OSim T c e of') (hr : dropM T of t m k = some (wo, ro)) (ho : ∀ id ∈ ro, of' id = of id) (hx : Rep T e m x) (hy : Rep T e k y) :
    Does P (do pure (.value (← Builtin.delete_ #[t, kt0] ty #[x, y]))) e.w (Left T c e of' ⟨.x, wo, ro, []⟩) := by
  unfold dropM at hr
  split at hr <;> try (cases hr; done)
  rename_i kt et hk
  obtain ⟨tem, h1, h2⟩ := kOf_some hk
  have hu := under_map (hT _ _ h1) h2
  split at hr <;> try (cases hr; done)
  rename_i kv id hkv
  obtain ⟨hf, hkey⟩ := keyV_ok hkv hy
  split at hr <;> try (cases hr; done)
  rename_i kt' et' es hof
  split at hr <;> try (cases hr; done)
  rename_i hc
  simp only [Bool.and_eq_true] at hc
  have := Nat.eq_of_beq_eq_true hc.1; subst this
  have := Nat.eq_of_beq_eq_true hc.2; subst this
  injection hr with hr; injection hr with e1 e2; subst e1; subst e2
  have hof' := (ho id (by simp)).trans hof
  obtain ⟨v1, v2, b, ms, clock, v3, v4, v5, es', v6, v7⟩ := map_ok h hof'
  obtain ⟨b', u1, u2, u3, rfl⟩ := rep_m_inv hx
  rw [v3] at u3; cases u3
  obtain ⟨rr, g1, g2⟩ := find_V hT hf hkey e.w v7
  have hg : (getObj b).run P e.w = .ok (.map ms clock) e.w := MapKept.run_getObj_map v4
  have hck : ∀ em, (Instr.checkKey em 10000 kt y).run P e.w = .ok () e.w := fun em => run_checkKey_V hT em e.w EQD kt 9992 kv y hf hkey
  have hset : ∀ o, (setObj b o).run P e.w = .ok () { e.w with heap := e.w.heap.setIfInBounds b o } := fun o => MapKept.run_setObj_map o v4
  have hnd : ((delM kv es).map (·.1)).Nodup := by rw [delM_filter]; exact v5.1.sublist (List.filter_sublist.map _)
  have v6' : (es'.map (·.1)).Nodup := (v6.map _).nodup_iff.2 v5.1
  rcases g2.fnd v5.1 v6 with ⟨rfl, hfn⟩ | ⟨i, me, a0, rfl, hm1, hm2, hfn⟩
  · obtain ⟨q1, q2⟩ := h.writeM hof' v3 v4 (ms' := ms) (cl' := clock) rfl (o' := .map kt et (delM kv es)) (fun hle hh =>
      ⟨v1, v2, b, _, _, v3, hh, ⟨hnd, v5.2⟩, es', by rw [delM_filter, filter_none (fndM_none.1 hfn)]; exact v6, v7.mono hle⟩)
    refine does_value (x := .tuple #[]) ?_ ⟨_, rfl, q1, q2, fun j hj => .inl hj, trivial⟩
    simp [Builtin.delete_, run_under hu, hg, hck, g1, hset]
  · obtain ⟨q1, q2⟩ := h.writeM hof' v3 v4 (ms' := ms.eraseIdxIfInBounds i) (cl' := clock) rfl (o' := .map kt et (delM kv es)) (fun hle hh =>
      ⟨v1, v2, b, _, _, v3, hh, ⟨hnd, v5.2.erase i⟩, es'.eraseIdx i, by rw [delM_filter, ← filter_erase v6' hm2]; exact v6.filter _, by
        have e1 : (ms.eraseIdxIfInBounds i).toList = ms.toList.eraseIdx i := by
          have : i < ms.size := by have := (List.getElem?_eq_some_iff.1 hm1).1; simpa using this
          simp [Array.eraseIdxIfInBounds, this]
        rw [e1]
        exact (v7.mono hle).erase i⟩)
    refine does_value (x := .tuple #[]) ?_ ⟨_, rfl, q1, q2, fun j hj => .inl hj, trivial⟩
    simp [Builtin.delete_, run_under hu, hg, hck, g1, hset]
end Go.Vm

namespace Go.Vm
open Go.RowKit
variable {P : Program} {T : TT} {c : Ctx} {e : Env} {of : Nat → Option Ob}
set_option linter.unusedVariables false
set_option linter.constructorNameAsVariable false

/-! ### Copying -/
def splice (xs : List V) (k : Nat) (ns : List V) : List V := xs.take k ++ (ns ++ xs.drop (k + ns.length))
theorem splice_length {xs : List V} {k : Nat} {ns : List V} (h : k + ns.length ≤ xs.length) : (splice xs k ns).length = xs.length := by
  unfold splice; simp only [List.length_append, List.length_take, List.length_drop]; omega
theorem splice_cells {xs : List V} {el : Nat} {ys : List Value} (h : RV T e (List.replicate xs.length el) xs ys) {k : Nat} {ns : List V} {us : List Value} (hk : k + ns.length ≤ xs.length) (hn : RV T e (List.replicate ns.length el) ns us) :
    ∃ as bs zs, ys = as ++ (bs ++ zs) ∧ as.length = k * szT T el ∧ bs.length = us.length ∧ RV T e (List.replicate xs.length el) (splice xs k ns) (as ++ (us ++ zs)) := by
  obtain ⟨as, q, rfl, h1, h2, h3⟩ := h.split_at k (by omega)
  obtain ⟨bs, zs, rfl, g1, g2, g3⟩ := h3.split_at ns.length (by omega)
  have hul : us.length = ns.length * szT T el := by rw [hn.length.1, szs_replicate]
  refine ⟨as, bs, zs, rfl, h1, by rw [g1, hul], ?_⟩
  have := h2.append (hn.append g3)
  rw [List.drop_drop] at this
  have e1 : List.replicate xs.length el = List.replicate k el ++ (List.replicate ns.length el ++ List.replicate (xs.length - k - ns.length) el) := by
    rw [List.replicate_append_replicate, List.replicate_append_replicate]; congr 1; omega
  rw [e1]
  exact this
theorem run_copy {dt el xt ty : TypeId} {te : TE} {w w' : World} (hd : P.underlying dt = some (.slice el)) (hel : TEok P T el te) {A : Option Addr} {n cap m : Nat} {y : Value} {us : List Value} (hs : Src P w xt y te.size m us) (hm : m ≤ n)
    (hst : ∀ a, A = some a → (storeCells a us).run P w = .ok () w') (hno : A = none → w' = w) :
    (Builtin.copy_ #[dt, xt] ty #[.slice A n cap, y]).run P w = .ok (goInt m) w' := by
  have hmin : Nat.min m n = m := Nat.min_eq_left hm
  have h1 := hs.len w
  have h2 := hs.first w rfl
  cases A with
  | none =>
    have := hno rfl
    subst this
    simp [Builtin.copy_, run_under hd, h1, hmin, run_size hel, h2]
  | some a => simp [Builtin.copy_, run_under hd, h1, hmin, run_size hel, h2, hst a rfl]
def copyA (T : TT) (of : Nat → Option Ob) (t xt : Nat) (u v : A) : Option (A × List (Nat × Ob) × List Nat) :=
  match kOf T t with
  | some (.slice el) => if appOk T xt v && (T el).isSome then
      match srcA T of el v with
      | some (ns, ro) => if Nat.ble ns.length LIM then
          (match ns with
          | [] => (match u with
            | .s _ => none
            | u => match srcA T of el u with
              | some (_, ro2) => some (.i .i64 0, [], ro ++ ro2)
              | none => none)
          | _ :: _ => match u with
            | .a id t1 path lo m => match kOf T t1, of id with
              | some (.arr N el'), some (.box t0 a false) => match atA T a path with
                | some (.v t2 y) => if Nat.beq el el' && Nat.beq t1 t2 && Nat.ble ns.length m && Nat.ble (lo + m) N then (match putA T a path (.v t1 (.l (splice y.els lo ns))) with
                  | some a' => some (.i .i64 (ns.length : Nat), [(id, .box t0 a' false)], id :: ro)
                  | none => none) else none
                | _ => none
              | _, _ => none
            | .w id ver off m => match of id with
              | some (.row el' v' xs false false) => if Nat.beq el el' && Nat.beq v' ver && Nat.ble ns.length m && Nat.ble (off + m) xs.length then some (.i .i64 (ns.length : Nat), [(id, .row el ver (splice xs off ns) false false)], id :: ro) else none
              | _ => none
            | .o id ver => match of id with
              | some (.row el' v' xs false false) => if Nat.beq el el' && Nat.beq v' ver && Nat.ble ns.length xs.length then some (.i .i64 (ns.length : Nat), [(id, .row el ver (splice xs 0 ns) false false)], id :: ro) else none
              | _ => none
            | _ => none)
        else none
      | none => none
    else none
  | _ => none
theorem law_copy_w {dt el xt ty : TypeId} {te : TE} (h : OSim T c e of) (hT : TOK T P) (hd : P.underlying dt = some (.slice el)) (hel : T el = some te) {id ver off m : Nat} {xs ns : List V} {x y : Value} {us : List Value} (ho : of id = some (.row el ver xs false false)) (hx : Rep T e (.w id ver off m) x) (hm : off + m ≤ xs.length) (hn : ns.length ≤ m) (h0 : 0 < ns.length)
    (hs : Src P e.w xt y te.size ns.length us) (hus : RV T e (List.replicate ns.length el) ns us) (hl : ns.length ≤ 9223372036854775807) {ro : List Nat} :
    Does P (do pure (.value (← Builtin.copy_ #[dt, xt] ty #[x, y]))) e.w (Left T c e of ⟨.i .i64 (ns.length : Nat), [(id, .row el ver (splice xs off ns) false false)], ro, []⟩) := by
  obtain ⟨u1, u2, u3, u4, u5, u6, u7⟩ := row_ok h ho
  obtain ⟨b, o, cap, k, k1, k2, k3, k4, k5, rfl⟩ := rep_w_inv hx u3
  rcases u7 with ⟨hq, _, _⟩ | ⟨_, b', o', cs, ty', fz, pre, ys, post, g1, g2, g3, g4, g5, g6, g7, g8⟩
  · cases hq
  rw [g1] at k1; cases k1
  rw [u4] at k4 k5
  have hkk := k5 (by omega)
  obtain ⟨as, bs, zs, rfl, s1, s2, s3⟩ := splice_cells g6 (k := off) (ns := ns) (by omega) hus
  have e1 : pre ++ (as ++ (bs ++ zs)) ++ post = (pre ++ as) ++ (bs ++ (zs ++ post)) := by simp
  rw [e1] at g4
  have hoff : (pre ++ as).length = k := by simp only [List.length_append]; omega
  have hcl : cs.size = (pre ++ as).length + (bs.length + (zs ++ post).length) := by
    have := congrArg List.length g4; simpa only [Array.length_toList, List.length_append] using this
  obtain ⟨cs', f1, f2⟩ := setCells_heap_eq us g2 (i := k) (by omega)
  rw [set_mid g4 hoff (by omega)] at f2
  have hsz : cs'.size = cs.size := by
    have := congrArg List.length f2
    simp only [Array.length_toList, List.length_append] at this hcl
    omega
  have hspl : (splice xs off ns).length = xs.length := splice_length (by omega)
  obtain ⟨hos, hll⟩ := h.write ho g1 g2 f1 hsz (fun k hk => setCells_heap_ne _ _ _ _ hk) (setCells_size _ _ _ _) (setCells_os _ _ _ _)
    (fun j hs => by
      have hj : j < o := Nat.lt_of_not_le (fun hoj => g8 rfl j hoj hs)
      have key : ∀ X : List Value, ((pre ++ as) ++ X)[j]? = (pre ++ as)[j]? := fun X => List.getElem?_append_left (by simp only [List.length_append]; omega)
      rw [← Array.getElem?_toList, ← Array.getElem?_toList, f2, g4, key, key])
    (o' := .row el ver (splice xs off ns) false false)
    (fun hle => ⟨u1, u2, u3, u4, by rw [hspl]; exact u5, u6, .inr ⟨rfl, b, o, cs', ty', fz, pre, as ++ (us ++ zs), post, g1, f1, free_of g3 g2 f1 hsz, by rw [f2]; simp, g5, by rw [hspl]; exact s3.mono hle,
      fun j hj => g7 j (by simp only [List.length_append] at hj ⊢; omega), fun hh j hj => g8 hh j hj⟩⟩)
  refine does_value (x := goInt ns.length) (w' := setCells e.w b k us) (run_copy hd (hT _ _ hel) hs hn (fun a ha => ?_) (fun ha => by cases ha)) ⟨_, rfl, hos, hll, fun _ hu => .inl hu, rep_i (by constructor <;> simp only [lo, hi] <;> omega)⟩
  cases ha
  exact run_storeCells g2 g3 hus.one (by omega)
theorem law_copy_a {dt el xt ty : TypeId} {te : TE} (h : OSim T c e of) (hT : TOK T P) (hd : P.underlying dt = some (.slice el)) (hel : T el = some te) {id t0 t1 N lo0 m : Nat} {path : List Nat} {a a' : A} {v : V} {ns : List V} {x y : Value} {us : List Value} (ho : of id = some (.box t0 a false)) (hk1 : kOf T t1 = some (.arr N el)) (hat : atA T a path = some (.v t1 v))
    (hput : putA T a path (.v t1 (.l (splice v.els lo0 ns))) = some a') (hx : Rep T e (.a id t1 path lo0 m) x) (hn : ns.length ≤ m) (h0 : 0 < ns.length)
    (hs : Src P e.w xt y te.size ns.length us) (hus : RV T e (List.replicate ns.length el) ns us) (hl : ns.length ≤ 9223372036854775807) {ro : List Nat} :
    Does P (do pure (.value (← Builtin.copy_ #[dt, xt] ty #[x, y]))) e.w (Left T c e of ⟨.i .i64 (ns.length : Nat), [(id, .box t0 a' false)], ro, []⟩) := by
  obtain ⟨u1, u2, u3, u4, b, cs, ty', fz, g1, g2, g3, g4, g5, g6⟩ := box_cells h ho
  obtain ⟨b', off, n', el', k, cap, _, _, k1, k2, k3, k4, k5, k6, rfl⟩ := rep_a_inv hx
  rw [g1] at k1; cases k1
  rw [hk1] at k3; cases k3
  rw [u3] at k2
  obtain ⟨pre0, d0, post0, q1, q2, q3, q4, q5⟩ := atA_spec path g5 u4 k2 hat
  obtain ⟨ys, rfl, hyl, hy⟩ := q4.v_inv.arr_inv hk1
  subst hyl
  obtain ⟨as, bs, zs, rfl, s1, s2, s3⟩ := splice_cells hy (k := lo0) (ns := ns) (by omega) hus
  have hsz1 : szT T t1 = (as ++ (us ++ zs)).length := by rw [← q3]; simp only [List.length_append]; omega
  have hnew : RV T e [t1] [.l (splice ys lo0 ns)] (as ++ (us ++ zs)) := by
    have := RV.arr hk1 hsz1 s3 .nil
    rwa [List.append_nil] at this
  obtain ⟨pre, d, post, p1, p2, p3, p4, p5⟩ := putA_spec path g5 u4 k2 (RA.v1 hnew) (fitA_v _ _) hput
  have hkk := k6 (by omega)
  have hpp : pre = pre0 ∧ d = as ++ (bs ++ zs) ∧ post = post0 := by
    rw [q1] at p1
    obtain ⟨e1, e2⟩ := List.append_inj p1 (by omega)
    obtain ⟨e3, e4⟩ := List.append_inj e2 (by omega)
    exact ⟨e1.symm, e3.symm, e4.symm⟩
  obtain ⟨rfl, rfl, rfl⟩ := hpp
  have e1 : pre ++ ((as ++ (bs ++ zs)) ++ post) = (pre ++ as) ++ (bs ++ (zs ++ post)) := by simp
  rw [e1] at p1
  have hoff : (pre ++ as).length = k := by simp only [List.length_append]; omega
  have hcl : cs.size = (pre ++ as).length + (bs.length + (zs ++ post).length) := by
    have := congrArg List.length p1; simpa only [Array.length_toList, List.length_append] using this
  obtain ⟨cs', f1, f2⟩ := setCells_heap_eq us g2 (i := k) (by omega)
  rw [set_mid p1 hoff (by omega)] at f2
  have hsz : cs'.size = cs.size := by
    have := congrArg List.length f2
    simp only [Array.length_toList, List.length_append] at this hcl
    omega
  obtain ⟨hos, hll⟩ := h.write ho g1 g2 f1 hsz (fun k hk => setCells_heap_ne _ _ _ _ hk) (setCells_size _ _ _ _) (setCells_os _ _ _ _) (fun i hs => absurd hs (g6 rfl i))
    (o' := .box t0 a' false) (fun hle => ⟨u1, u2, u3, p5, b, cs', ty', fz, g1, f1, free_of g3 g2 f1 hsz, by omega, by
      rw [f2, show pre ++ as ++ (us ++ (zs ++ post)) = pre ++ ((as ++ (us ++ zs)) ++ post) by simp]; exact p4.mono hle, fun _ i => g6 rfl i⟩)
  refine does_value (x := goInt ns.length) (w' := setCells e.w b k us) (run_copy hd (hT _ _ hel) hs hn (fun a ha => ?_) (fun ha => by cases ha)) ⟨_, rfl, hos, hll, fun _ hu => .inl hu, rep_i (by constructor <;> simp only [lo, hi] <;> omega)⟩
  cases ha
  exact run_storeCells g2 g3 hus.one (by omega)
theorem copyA_ok (hT : TOK T P) {of' : Nat → Option Ob} {t xt ty : TypeId} {u v r : A} {x y : Value} {wo : List (Nat × Ob)} {ro : List Nat} (h : OSim T c e of') (hr : copyA T of t xt u v = some (r, wo, ro)) (ho : ∀ id ∈ ro, of' id = of id) (hx : Rep T e u x) (hy : Rep T e v y) :
    Does P (do pure (.value (← Builtin.copy_ #[t, xt] ty #[x, y]))) e.w (Left T c e of' ⟨r, wo, ro, []⟩) := by
  unfold copyA at hr
  split at hr <;> try (cases hr; done)
  rename_i el hk
  obtain ⟨tem, h1, h2⟩ := kOf_some hk
  have hu := under_slice (hT _ _ h1) h2
  split at hr <;> try (cases hr; done)
  rename_i hc
  simp only [Bool.and_eq_true] at hc
  obtain ⟨hty, hst⟩ := appOk_spec hT hc.1
  obtain ⟨te, hte⟩ := Option.isSome_iff_exists.1 hc.2
  split at hr <;> try (cases hr; done)
  rename_i ns ro1 hsrc
  split at hr <;> try (cases hr; done)
  rename_i hlim
  have hlim : ns.length ≤ 9223372036854775807 := Nat.le_trans (Nat.le_of_ble_eq_true hlim) (by decide)
  have src : (∀ id ∈ ro1, of' id = of id) → ∃ us, Src P e.w xt y te.size ns.length us ∧ RV T e (List.replicate ns.length el) ns us := fun ho => by
    obtain ⟨us, s1, s2⟩ := srcA_ok (xt := xt) h hty hst hsrc ho hy
    rw [szT_of hte] at s1
    exact ⟨us, s1, s2⟩
  split at hr
  · split at hr <;> try (cases hr; done)
    rename_i hns
    split at hr <;> try (cases hr; done)
    rename_i ro2 hs2
    injection hr with hr; injection hr with e1 e2; injection e2 with e2 e3; subst e1; subst e2; subst e3
    obtain ⟨us, s1, s2⟩ := src (fun id hid => ho id (by simp [hid]))
    obtain ⟨p, n, k, rfl⟩ := srcA_slice h hs2 (fun id hid => ho id (by simp [hid])) hx hns
    have hus : us = [] := by have := s1.size; simpa using this
    subst hus
    refine does_value (run_copy hu (hT _ _ hte) s1 (Nat.zero_le _) (fun a ha => ?_) (fun _ => rfl)) (left_same h (rep_i (by constructor <;> simp [lo, hi])))
    simp [storeCells]
  · rename_i q qs hq0
    have h0 : 0 < (q :: qs).length := by simp
    split at hr <;> try (cases hr; done)
    · rename_i id t1 path lo0 m
      split at hr <;> try (cases hr; done)
      rename_i N el' t0 a hk1 hof
      split at hr <;> try (cases hr; done)
      rename_i t2 v2 hat
      split at hr <;> try (cases hr; done)
      rename_i hc2
      simp only [Bool.and_eq_true] at hc2
      obtain ⟨⟨⟨c1, c2⟩, c3⟩, c4⟩ := hc2
      have := Nat.eq_of_beq_eq_true c1; subst this
      have := Nat.eq_of_beq_eq_true c2; subst this
      split at hr <;> try (cases hr; done)
      rename_i a' hput
      injection hr with hr; injection hr with e1 e2; injection e2 with e2 e3; subst e1; subst e2; subst e3
      obtain ⟨us, s1, s2⟩ := src (fun id hid => ho id (by simp [hid]))
      exact law_copy_a h hT hu hte ((ho id (by simp)).trans hof) hk1 hat hput hx (Nat.le_of_ble_eq_true c3) h0 s1 s2 hlim
    · rename_i id ver off m
      split at hr <;> try (cases hr; done)
      rename_i el' v' xs hof
      split at hr <;> try (cases hr; done)
      rename_i hc2
      simp only [Bool.and_eq_true] at hc2
      obtain ⟨⟨⟨c1, c2⟩, c3⟩, c4⟩ := hc2
      have := Nat.eq_of_beq_eq_true c1; subst this
      have := Nat.eq_of_beq_eq_true c2; subst this
      injection hr with hr; injection hr with e1 e2; injection e2 with e2 e3; subst e1; subst e2; subst e3
      obtain ⟨us, s1, s2⟩ := src (fun id hid => ho id (by simp [hid]))
      exact law_copy_w h hT hu hte ((ho id (by simp)).trans hof) hx (Nat.le_of_ble_eq_true c4) (Nat.le_of_ble_eq_true c3) h0 s1 s2 hlim
    · rename_i id ver
      split at hr <;> try (cases hr; done)
      rename_i el' v' xs hof
      split at hr <;> try (cases hr; done)
      rename_i hc2
      simp only [Bool.and_eq_true] at hc2
      obtain ⟨⟨c1, c2⟩, c3⟩ := hc2
      have := Nat.eq_of_beq_eq_true c1; subst this
      have := Nat.eq_of_beq_eq_true c2; subst this
      injection hr with hr; injection hr with e1 e2; injection e2 with e2 e3; subst e1; subst e2; subst e3
      obtain ⟨us, s1, s2⟩ := src (fun id hid => ho id (by simp [hid]))
      have hof' := (ho id (by simp)).trans hof
      obtain ⟨v0, v1, v2, v3, v4, v5, h6⟩ := row_ok h hof'
      have hι : e.ι id ≠ none := by
        rcases h6 with ⟨hf, _⟩ | ⟨_, b, o, _, _, _, _, _, _, g, _⟩
        · cases hf
        · rw [g]; intro q; cases q
      have hw := o_as_w hx v2 v1 hι v0
      rw [v4] at hw
      exact law_copy_w h hT hu hte hof' hw (by omega) (Nat.le_of_ble_eq_true c3) h0 s1 s2 hlim
end Go.Vm

namespace Go.Vm
open Go.RowKit
variable {P : Program} {T : TT} {c : Ctx} {e : Env} {of : Nat → Option Ob}
set_option linter.unusedVariables false
set_option linter.constructorNameAsVariable false

/-! ### So many zeros onto nil -/
theorem run_append_zeros {t xt ty el : TypeId} {te : TE} {w : World} {k : IntKind} (ht : P.underlying t = some (.slice el)) (hel : TEok P T el te) (hxt : P.underlying xt = some (.int k)) {m : Nat} (h0 : 0 < m) (hz0 : 0 < te.size)
    (hbytes : m * te.bytes ≤ 140737488355328) (h63 : m ≤ 4611686018427387904) :
    ∃ (z : Value) (cap2 : Nat), m ≤ cap2 ∧ ((∀ e, RV T e [el] [te.zero] z.cells.toList) ∨ te.k = .other) ∧ (Builtin.append_ #[t, xt] ty #[.slice none 0 0, .int k m]).run P w = .ok (.slice (some ⟨w.heap.size, 0, none⟩) m cap2)
      (w.drew.alloc (.cells (Builtin.zeroCells z.cells m ++ Builtin.zeroCells z.cells (cap2 - m)) el)) := by
  obtain ⟨i, d, z, h1, h2, h3, h4, h5, h6, h7, h8⟩ := hel.fits
  have hn : ¬ (m ≤ 0) := by omega
  have hw : IntKind.i64.wrap (m : Int) = m := by
    have h1 : (0 : Int) ≤ m := by omega
    have h2 : (m : Int) ≤ 4611686018427387904 := by omega
    generalize (m : Int) = q at h1 h2
    simp only [IntKind.wrap, IntKind.bits, IntKind.signed]; simp; omega
  have h63' : ¬ (9223372036854775807 < (m : Int)) := by omega
  have hlt : ¬ ((m : Int) < 0) := by omega
  have h48 : ¬ ((281474976710656 : Int) < (m : Int) * (te.bytes : Int)) := by
    have h5 : ((m * te.bytes : Nat) : Int) ≤ ((140737488355328 : Nat) : Int) := Int.ofNat_le.2 hbytes
    rw [Int.natCast_mul] at h5
    have e3 : ((140737488355328 : Nat) : Int) = 140737488355328 := rfl
    rw [e3] at h5
    generalize (m : Int) * (te.bytes : Int) = q at h5
    omega
  have hfit := growslice_fits (need := m) (old := 0) (bytes := te.bytes) (by omega) hbytes
  have h48' : ¬ (281474976710656 < Builtin.nextslicecap m 0 * te.bytes) := by omega
  have hms : ¬ (m * te.size = 0) := Nat.mul_ne_zero (by omega) (by omega)
  refine ⟨z, grownCap w m 0 el, ?_, h7, ?_⟩
  · simp only [grownCap, Question.cut]; omega
  · have hm0 : ¬ m = 0 := by omega
    simp [Builtin.append_, run_under ht, run_under hxt, sizeOf, typeInfo, zeroValue, h1, h3, h4, h6, asInt, asIntOf, hw, hlt, h48, hn, h63', h48', hms, hm0, Question.forced, newRow, grownCap, Builtin.firstCells, show ¬ te.size = 0 by omega]
def zerosA (T : TT) (nx t xt : Nat) (u v : A) : Option Out :=
  match kOf T t, kOf T xt, v with
  | some (.slice el), some (.int k), .i k' m => match T el with
    | some te => if kbeq k k' && Nat.blt 0 te.size && TK.notOther te.k && Nat.ble te.bytes 131072 && ilt 0 m && ile m LIM then
        (match zV T t u with
        | .v t' .n => if same T t t' then some ⟨.o nx 1, [(nx, .row el 1 (List.replicate m.toNat te.zero) false false)], [], [nx]⟩ else none
        | _ => none) else none
    | none => none
  | _, _, _ => none
theorem zerosA_ok (hT : TOK T P) {t xt ty : TypeId} {nx : Nat} {u v : A} {x y : Value} {out : Out} (h : OSim T c e of) (hr : zerosA T nx t xt u v = some out) (hq : isQ T u = true) (hu : ∀ id ∈ out.nw, ¬ e.U id) (hx : Rep T e u x) (hy : Rep T e v y) :
    Does P (do pure (.value (← Builtin.append_ #[t, xt] ty #[x, y]))) e.w (Left T c e of out) := by
  unfold zerosA at hr
  split at hr <;> try (cases hr; done)
  rename_i el k k' m hk hkx
  obtain ⟨te1, h1, h2⟩ := kOf_some hk
  obtain ⟨te2, h3, h4⟩ := kOf_some hkx
  have ht := under_slice (hT _ _ h1) h2
  have hxt := under_int (hT _ _ h3) h4
  split at hr <;> try (cases hr; done)
  rename_i te hte
  split at hr <;> try (cases hr; done)
  rename_i hc
  simp only [Bool.and_eq_true, ilt_iff, ile_iff] at hc
  obtain ⟨⟨⟨⟨⟨c1, c2⟩, c3⟩, c4⟩, c5⟩, c6⟩ := hc
  have := kbeq_eq c1; subst this
  have hz0 : 0 < te.size := by simpa [Nat.blt_eq] using c2
  have hzx := zV_ok hk hx (isQ_spec hq)
  generalize zV T t u = u' at hzx hr
  split at hr <;> try (cases hr; done)
  rename_i t'
  split at hr <;> try (cases hr; done)
  rename_i hs
  injection hr with hr; subst hr
  have hk' := (same_spec hs).1.symm.trans hk
  rcases (rv_single hzx ⟨_, hk', rfl⟩).slice_inv hk' with ⟨_, hv⟩ | ⟨_, _, _, _, h0, _⟩
  · injection hv with hv
    rw [hv, rep_i_inv hy]
    obtain ⟨n, rfl⟩ := Int.eq_ofNat_of_zero_le (Int.le_of_lt c5)
    have hn : n ≤ 1073741824 := by have h1 : (n : Int) ≤ 1073741824 := c6; omega
    have hb := Nat.le_of_ble_eq_true c4
    obtain ⟨l1, l2⟩ := lim_bytes (n := n) (b := te.bytes) (by rw [Nat.ble_eq]; exact hn) c4
    have hz : szT T el = te.size := szT_of hte
    obtain ⟨z, cap2, hc2, hzr, hrun⟩ := run_append_zeros (P := P) (ty := ty) (w := e.w) ht (hT _ _ hte) hxt (m := n) (by omega) hz0 l1 l2
    have hzz := hzr.elim (fun q => q) (fun q => absurd q (notOther_ne c3))
    have hzs : z.cells.size = te.size := by
      have := (hzz e).one_len
      rw [hz, Array.length_toList] at this; exact this
    have hrow : (Builtin.zeroCells z.cells n).toList = (List.replicate n z.cells.toList).flatten := toList_madeCells z.cells n
    have hcs : (Builtin.zeroCells z.cells n ++ Builtin.zeroCells z.cells (cap2 - n)).size = cap2 * szT T el := by
      rw [hz]
      simp only [Array.size_append, size_zeroCells, hzs, ← Nat.add_mul]
      congr 1; omega
    obtain ⟨hd0, hle0⟩ := h.same_heap (w' := e.w.drew) rfl rfl rfl rfl
    have hok := OK_row (id := nx) (el := el) (xs := List.replicate n te.zero) (cs := Builtin.zeroCells z.cells n ++ Builtin.zeroCells z.cells (cap2 - n)) (ys := (List.replicate n z.cells.toList).flatten) (post := (Builtin.zeroCells z.cells (cap2 - n)).toList) hd0 (hu nx (by simp)) (by omega) (by rw [Array.toList_append, hrow])
      (by rw [List.length_replicate]; exact rv_replicate (hzz _) n)
    obtain ⟨e', p1, p2, p3, p4, p5⟩ := left_new (ro := []) hd0 (hu nx (by simp)) hok (rep_o_new (n := (List.replicate n te.zero).length) (cap := cap2) hcs (by rw [List.length_replicate]; exact hc2))
    rw [List.length_replicate] at p5
    exact does_value hrun ⟨e', p1, p2, hle0.trans p3, p4, p5⟩
  · cases h0
end Go.Vm

namespace Go.Vm
open Go.RowKit
variable {P : Program} {T : TT} {c : Ctx} {e : Env} {of : Nat → Option Ob}
set_option linter.unusedVariables false
set_option linter.constructorNameAsVariable false

/-! ### Ranges over maps: those that have no entries -/
def Env.newT (e : Env) (id t : Nat) (o : Go.Obj) : Env :=
  { w := e.w.alloc o, ι := upd e.ι id (some (e.w.heap.size, 0)), S := e.S, bn := upd e.bn id 0, U := fun j => j = id ∨ e.U j, ty := upd e.ty id t, ln := e.ln }
theorem OSim.le_newT (h : OSim T c e of) {id t : Nat} (hu : ¬ e.U id) (o : Go.Obj) : e.le (e.newT id t o) := by
  refine ⟨fun b i hs => ⟨hs, fun x hx => ?_⟩, fun _ hj => .inr hj, fun j hj _ => ?_, fun j hj h0 => ?_, fun j hj => ?_, fun j hj => upd_ne _ _ (fun e => hu (e ▸ hj)), by show _ ≤ (e.w.alloc _).heap.size; rw [size_alloc]; omega, fun b hb => len_of_heap (alloc_old _ _ hb)⟩
  · rw [← hx]; exact cell_of_heap (alloc_old _ _ (h.slt _ _ hs))
  · have hne : j ≠ id := fun e => hu (e ▸ hj)
    exact ⟨upd_ne _ _ hne, rfl, fun b o hb => len_of_heap (alloc_old _ _ (h.lt _ _ _ hj hb))⟩
  · have hne : j ≠ id := fun e => hu (e ▸ hj)
    show upd e.bn id 0 j = 0
    rw [upd_ne _ _ hne]; exact h0
  · have hne : j ≠ id := fun e => hu (e ▸ hj)
    show _ ≤ upd e.bn id 0 j
    rw [upd_ne _ _ hne]; exact Nat.le_refl _
theorem OSim.newT (h : OSim T c e of) {id t : Nat} (hu : ¬ e.U id) {g : Go.Obj} {o : Ob} (ho : OK T (e.newT id t g) id o) : OSim T c (e.newT id t g) (upd of id (some o)) := by
  have hle := h.le_newT (t := t) hu g
  have ιne : ∀ j, j ≠ id → (e.newT id t g).ι j = e.ι j := fun j hj => upd_ne _ _ hj
  have obne : ∀ j, j ≠ id → upd of id (some o) j = of j := fun j hj => upd_ne _ _ hj
  have old : ∀ j b q, (of j).isSome → e.ι j = some (b, q) → b < e.w.heap.size := fun j b q hj hb => by
    obtain ⟨x, hx⟩ := Option.isSome_iff_exists.1 hj
    exact h.lt _ _ _ (h.ok _ _ hx).use hb
  refine ⟨fun j x hj => ?_, fun j k b q b' q' hj hk hb hb' hne => ?_, fun j b q hj hb => ?_, fun j b q hj hb => ?_, fun b i hs => ?_, h.s0, h.snew, h.os, h.tape, h.output, ?_, fun k hk hm => ?_⟩
  · by_cases he : j = id
    · subst he; rw [upd_same] at hj; cases hj; exact ho
    · rw [obne _ he] at hj
      exact (h.ok _ _ hj).keep hle (upd_ne _ _ he) (fun b q hb => alloc_old _ _ (old _ _ _ (by rw [hj]; rfl) hb)) (fun _ _ _ _ hs => hs)
  · by_cases h1 : j = id
    · subst h1
      have hk' : k ≠ j := Ne.symm hne
      rw [obne _ hk'] at hk; rw [ιne _ hk'] at hb'
      have := old _ _ _ hk hb'
      have hb1 : (e.w.heap.size, 0) = (b, q) := by simpa [Env.newT] using hb
      cases hb1; omega
    · by_cases h2 : k = id
      · subst h2
        rw [obne _ h1] at hj; rw [ιne _ h1] at hb
        have := old _ _ _ hj hb
        have hb1 : (e.w.heap.size, 0) = (b', q') := by simpa [Env.newT] using hb'
        cases hb1; omega
      · rw [obne _ h1] at hj; rw [obne _ h2] at hk; rw [ιne _ h1] at hb; rw [ιne _ h2] at hb'
        exact h.sep _ _ _ _ _ _ hj hk hb hb' hne
  · by_cases h1 : j = id
    · subst h1
      have hb1 : (e.w.heap.size, 0) = (b, q) := by simpa [Env.newT] using hb
      cases hb1; exact .inl h.size
    · rw [obne _ h1] at hj; rw [ιne _ h1] at hb
      exact h.own _ _ _ hj hb
  · have hsz : (e.newT id t g).w.heap.size = e.w.heap.size + 1 := size_alloc _ _
    rw [hsz]
    by_cases h1 : j = id
    · subst h1
      have hb1 : (e.w.heap.size, 0) = (b, q) := by simpa [Env.newT] using hb
      cases hb1; omega
    · rw [ιne _ h1] at hb
      rcases hj with hj | hj
      · exact absurd hj h1
      · have := h.lt _ _ _ hj hb; omega
  · have := h.slt _ _ hs
    show b < (e.w.alloc _).heap.size
    rw [size_alloc]; omega
  · show _ ≤ (e.w.alloc _).heap.size
    rw [size_alloc]; have := h.size; omega
  · exact (alloc_old _ _ (by have := h.size; omega)).trans (h.block k hk hm)
def rangeM (T : TT) (of : Nat → Option Ob) (nx t : Nat) (u : A) : Option Out :=
  match kOf T t with
  | some (.map _ _) => match u with
    | .m m => match of m with
      | some (.map _ _ _) => some ⟨.p nx 0 [], [(nx, .it (some m))], [m], [nx]⟩
      | _ => none
    | u => if isMapN T t u then some ⟨.p nx 0 [], [(nx, .it none)], [], [nx]⟩ else none
  | _ => none
theorem rangeM_ok (hT : TOK T P) {of' : Nat → Option Ob} {nx t : Nat} {u : A} {x : Value} {out : Out} (h : OSim T c e of') (hr : rangeM T of nx t u = some out) (ho : ∀ id ∈ out.ro, of' id = of id) (hu : ∀ id ∈ out.nw, ¬ e.U id) (hx : Rep T e u x) :
    Does P (do pure (.value (← Instr.range t x))) e.w (Left T c e of' out) := by
  unfold rangeM at hr
  split at hr <;> try (cases hr; done)
  rename_i kt et hk
  obtain ⟨te, h1, h2⟩ := kOf_some hk
  have hun := under_map (hT _ _ h1) h2
  split at hr
  · rename_i m
    split at hr <;> try (cases hr; done)
    rename_i kt' et' es hof
    injection hr with hr; subst hr
    have hum : ¬ e.U nx := hu nx (by simp)
    have hof' : of' m = some (.map kt' et' es) := (ho m (by simp)).trans hof
    obtain ⟨k1, k2, b, ms, clock, k3, k4, k5⟩ := h.ok _ _ hof'
    have hx' : RA T e [.m m] [x] := hx
    have hxv : x = .map (some b) := by
      generalize x = y at hx'
      cases hx' with
      | r g1 _ _ =>
        obtain ⟨b', u1, u2, u3, u4⟩ := g1
        rw [k3] at u3; cases u3; exact u4
    have hne : m ≠ nx := fun q => hum (q ▸ k1)
    have hrun : (Instr.range t x).run P e.w = .ok (.pointer (some ⟨e.w.heap.size, 0, none⟩)) (e.w.alloc (.mapIter (some b) clock #[] clock)) := by
      rw [hxv]
      simp [Instr.range, run_under hun, getObj, Sem.run, k4, newObj]
    refine does_value hrun ⟨e.newT nx 0 (.mapIter (some b) clock #[] clock), rfl, h.newT hum ?_, h.le_newT hum _, fun j hj => hj.elim (fun q => .inr (by simp [q])) .inl, ?_⟩
    · exact ⟨.inl rfl, upd_same _ _ _, e.w.heap.size, b, clock, clock, upd_same _ _ _, alloc_new _ _, .inr k1, by show upd e.bn nx 0 m = 0; rw [upd_ne _ _ hne]; exact k2, by show upd e.ι nx _ m = _; rw [upd_ne _ _ hne]; exact k3⟩
    · exact RA.r ⟨e.w.heap.size, 0, .inl rfl, upd_same _ _ _, upd_same _ _ _, (by show Pth T (upd e.ty nx 0 nx) [] 0 0; rw [upd_same]; exact .nil), rfl⟩ rfl .nil
  · split at hr <;> try (cases hr; done)
    rename_i hn
    injection hr with hr; subst hr
    have hum : ¬ e.U nx := hu nx (by simp)
    have hxv := isMapN_ok hk hn hx
    have hrun : (Instr.range t x).run P e.w = .ok (.pointer (some ⟨e.w.heap.size, 0, none⟩)) (e.w.alloc (.mapIter none 0 #[] 0)) := by
      rw [hxv]
      simp [Instr.range, run_under hun, Sem.run, newObj]
    refine does_value hrun ⟨e.newT nx 0 (.mapIter none 0 #[] 0), rfl, h.newT hum ?_, h.le_newT hum _, fun j hj => hj.elim (fun q => .inr (by simp [q])) .inl, ?_⟩
    · exact ⟨.inl rfl, upd_same _ _ _, e.w.heap.size, 0, #[], 0, upd_same _ _ _, alloc_new _ _⟩
    · exact RA.r ⟨e.w.heap.size, 0, .inl rfl, upd_same _ _ _, upd_same _ _ _, (by show Pth T (upd e.ty nx 0 nx) [] 0 0; rw [upd_same]; exact .nil), rfl⟩ rfl .nil
def nextM (of : Nat → Option Ob) (u : A) : Option (A × List Nat) :=
  match u with
  | .p id _ [] => match of id with
    | some (.it none) => some (.t [.b false], [id])
    | some (.it (some m)) => match of m with
      | some (.map _ _ []) => some (.t [.b false], [id, m])
      | _ => none
    | _ => none
  | _ => none
theorem nextM_ok {of' : Nat → Option Ob} {u v : A} {x : Value} {ty : Nat} {ro : List Nat} (h : OSim T c e of') (hr : nextM of u = some (v, ro)) (ho : ∀ id ∈ ro, of' id = of id) (hx : Rep T e u x) :
    Does P (do pure (.value (← Instr.next x false ty))) e.w (Left T c e of' ⟨v, [], ro, []⟩) := by
  unfold nextM at hr
  split at hr <;> try (cases hr; done)
  rename_i id t
  have hx' := rep_p_inv hx
  obtain ⟨b0, off, u1, u2, u3, u4, hxv⟩ := hx'
  cases u4
  have hrep : Rep T e (.t [.b false]) (.tuple #[.bool false]) := by
    refine ⟨#[.bool false], rfl, rfl, fun i v z hv hz => ?_⟩
    match i, hv, hz with
    | 0, hv, hz => simp at hv hz; subst hv; subst hz; exact RA.b .nil
    | i + 1, hv, hz => simp at hv
  split at hr <;> try (cases hr; done)
  · rename_i hof
    simp only [Option.some.injEq, Prod.mk.injEq] at hr
    obtain ⟨rfl, rfl⟩ := hr
    obtain ⟨k1, k2, b, y1, y2, y3, k3, k4⟩ := h.ok _ _ ((ho id (by simp)).trans hof)
    rw [u3] at k3; cases k3
    have hrun : (Instr.next x false ty).run P e.w = .ok (.tuple #[.bool false]) e.w := by
      rw [hxv]
      simp [Instr.next, getObj, Sem.run, k4]
    exact does_value hrun (left_same h hrep)
  · rename_i m hof
    split at hr <;> try (cases hr; done)
    rename_i kt et hm
    simp only [Option.some.injEq, Prod.mk.injEq] at hr
    obtain ⟨rfl, rfl⟩ := hr
    obtain ⟨k1, k2, b, bm, y1, y2, k3, k4, k5, k6, k7⟩ := h.ok _ _ ((ho id (by simp)).trans hof)
    rw [u3] at k3; cases k3
    obtain ⟨m1, m2, b', ms, clock, m3, m4, m5, es', m6, m7⟩ := h.ok _ _ ((ho m (by simp)).trans hm)
    rw [k7] at m3; cases m3
    have hes : es' = [] := List.Perm.eq_nil m6
    subst hes
    have hms : ms = #[] := by
      generalize hl : ms.toList = l at m7
      cases m7
      exact Array.toList_eq_nil_iff.1 hl
    subst hms
    have hrun : (Instr.next x false ty).run P e.w = .ok (.tuple #[.bool false]) e.w := by
      rw [hxv]
      simp [Instr.next, getObj, Sem.run, k4, m4, choose, Question.forced]
    exact does_value hrun (left_same h hrep)
end Go.Vm

namespace Go.Vm
open Go.RowKit
variable {P : Program} {T : TT} {c : Ctx} {e : Env} {of : Nat → Option Ob}
set_option linter.unusedVariables false
set_option linter.constructorNameAsVariable false

/-! ### What an operation or a call leaves -/
structure Eff where
  val : A
  wo : List (Nat × Ob)
  ro : List Nat
  nx : Nat
def LeftN (T : TT) (c : Ctx) (e : Env) (of : Nat → Option Ob) (nx : Nat) (f : Eff) (x : Value) (w' : World) : Prop :=
  ∃ e' : Env, e'.w = w' ∧ OSim T c e' (put of f.wo) ∧ e.le e' ∧ (∀ id, e'.U id → e.U id ∨ (nx ≤ id ∧ id < f.nx)) ∧ Rep T e' f.val x
inductive Reps (T : TT) (e : Env) : List A → List Value → Prop
  | nil : Reps T e [] []
  | cons {v x r s} : Rep T e v x → Reps T e r s → Reps T e (v :: r) (x :: s)
abbrev Sym := List A → (Nat → Option Ob) → Nat → Option Eff
/-- What a call of f does. -/
def SymOK (P : Program) (T : TT) (f : FuncId) (s : Sym) : Prop :=
  ∀ (c : Ctx) (e : Env) (of of' : Nat → Option Ob) (args : List A) (vals : Array Value) (nx : Nat) (out : Eff), OSim T c e of' → s args of nx = some out → (∀ id ∈ out.ro, of' id = of id) → (∀ id, nx ≤ id → id < out.nx → ¬ e.U id) → Reps T e args vals.toList →
    Does P (callFunc f vals) e.w (LeftN T c e of' nx out)
def Eff.pv (nx : Nat) (v : A) (ro : List Nat) : Eff := ⟨v, [], ro, nx⟩
def lift (nx : Nat) (o : Option Out) : Option Eff :=
  match o with
  | some ⟨v, wo, ro, nw⟩ => match nw with
    | [] => some ⟨v, wo, ro, nx⟩
    | [k] => if Nat.beq k nx then some ⟨v, wo, ro, nx + 1⟩ else none
    | _ => none
  | none => none
theorem lift_spec {nx : Nat} {o : Option Out} {f : Eff} (h : lift nx o = some f) : ∃ out, o = some out ∧ f.ro = out.ro ∧ (∀ id ∈ out.nw, nx ≤ id ∧ id < f.nx) ∧ (∀ {c : Ctx} {e : Env} {of : Nat → Option Ob} {x w'}, Left T c e of out x w' → LeftN T c e of nx f x w') := by
  unfold lift at h
  split at h <;> try (cases h; done)
  rename_i v wo ro nw
  split at h
  · injection h with h; subst h
    refine ⟨_, rfl, rfl, ?_, ?_⟩
    · intro id hid; cases hid
    · rintro c e of x w' ⟨e', p1, p2, p3, p4, p5⟩
      exact ⟨e', p1, p2, p3, fun id hid => (p4 id hid).elim .inl (fun q => by cases q), p5⟩
  · rename_i k
    split at h <;> try (cases h; done)
    rename_i hk
    have := Nat.eq_of_beq_eq_true hk; subst this
    injection h with h; subst h
    refine ⟨_, rfl, rfl, ?_, ?_⟩
    · intro id hid
      simp only [List.mem_singleton] at hid; subst hid; exact ⟨Nat.le_refl _, Nat.lt_succ_self _⟩
    · rintro c e of x w' ⟨e', p1, p2, p3, p4, p5⟩
      refine ⟨e', p1, p2, p3, fun id hid => (p4 id hid).imp (fun q => q) (fun q => ?_), p5⟩
      simp only [List.mem_singleton] at q; subst q; exact ⟨Nat.le_refl _, Nat.lt_succ_self _⟩
  · cases h
theorem pv_left {nx : Nat} {v : A} {ro : List Nat} {x : Value} {w' : World} (h : Left T c e of ⟨v, [], ro, []⟩ x w') : LeftN T c e of nx (.pv nx v ro) x w' := by
  obtain ⟨e', p1, p2, p3, p4, p5⟩ := h
  exact ⟨e', p1, p2, p3, fun id hid => (p4 id hid).elim .inl (fun q => by cases q), p5⟩
theorem wo_left {nx : Nat} {v : A} {wo : List (Nat × Ob)} {ro : List Nat} {x : Value} {w' : World} (h : Left T c e of ⟨v, wo, ro, []⟩ x w') : LeftN T c e of nx ⟨v, wo, ro, nx⟩ x w' := by
  obtain ⟨e', p1, p2, p3, p4, p5⟩ := h
  exact ⟨e', p1, p2, p3, fun id hid => (p4 id hid).elim .inl (fun q => by cases q), p5⟩
theorem does_pv {s : Sem Next} {w : World} {nx : Nat} {v : A} {ro : List Nat} (h : Does P s w (Left T c e of ⟨v, [], ro, []⟩)) : Does P s w (LeftN T c e of nx (.pv nx v ro)) := does_mono h (fun _ _ => pv_left)
theorem does_wo {s : Sem Next} {w : World} {nx : Nat} {v : A} {wo : List (Nat × Ob)} {ro : List Nat} (h : Does P s w (Left T c e of ⟨v, wo, ro, []⟩)) : Does P s w (LeftN T c e of nx ⟨v, wo, ro, nx⟩) := does_mono h (fun _ _ => wo_left)

/-! ### What stands in a struct is shared -/
theorem OK.sh {id : Nat} {o : Ob} (h : OK T e id o) : OK T e id (shOb o) := by
  cases o with
  | box t a sh =>
    obtain ⟨h1, h2, h2', h2'', b, cs, ty, fz, h3, h4, h5, h5', h6, h7⟩ := h
    exact ⟨h1, h2, h2', h2'', b, cs, ty, fz, h3, h4, h5, h5', h6, fun hh => by cases hh⟩
  | row el ver xs nl sh =>
    obtain ⟨h1, h2, h3, h4, h4', h5, h6⟩ := h
    refine ⟨h1, h2, h3, h4, h4', h5, ?_⟩
    rcases h6 with h6 | ⟨nn, b, o, cs, t, fz, pre, ys, post, g1, g2, g3, g4, g5, g6, g7, g8⟩
    · exact .inl h6
    · exact .inr ⟨nn, b, o, cs, t, fz, pre, ys, post, g1, g2, g3, g4, g5, g6, g7, fun hh => by cases hh⟩
  | map kt et es => exact h
  | lp q => exact h
  | it q => exact h
theorem OSim.weak {wo : List (Nat × Ob)} (h : OSim T c e of) (hw : AllSh of wo) : OSim T c e (put of wo) := by
  have key : ∀ id, put of wo id = of id ∨ ∃ o0, of id = some o0 ∧ put of wo id = some (shOb o0) := fun id => (allSh_put wo of of hw id (.inl rfl)).1
  have some' : ∀ id, (put of wo id).isSome → (of id).isSome := fun id hs => by
    rcases key id with k | ⟨o0, k1, k2⟩
    · rw [← k]; exact hs
    · rw [k1]; rfl
  refine ⟨fun id o ho => ?_, fun i j b o b' o' hi hj => h.sep i j b o b' o' (some' _ hi) (some' _ hj), fun i b o hi => h.own i b o (some' _ hi), h.lt, h.slt, h.s0, h.snew, h.os, h.tape, h.output, h.size, h.block⟩
  rcases key id with k | ⟨o0, k1, k2⟩
  · rw [k] at ho; exact h.ok _ _ ho
  · rw [k2] at ho; cases ho; exact (h.ok _ _ k1).sh
mutual
def refsA : A → List Nat
  | .o id _ => [id]
  | .w id _ _ _ => [id]
  | .a id _ _ _ _ => [id]
  | .g _ l => refsL l
  | _ => []
def refsL : List A → List Nat
  | [] => []
  | a :: r => refsA a ++ refsL r
end
def shW (of : Nat → Option Ob) : List Nat → List (Nat × Ob)
  | [] => []
  | id :: r => match of id with
    | some o0 => bif isSh o0 then shW of r else (id, shOb o0) :: shW of r
    | none => shW of r
theorem shW_all {of : Nat → Option Ob} : ∀ l : List Nat, AllSh of (shW of l) ∧ ∀ id ∈ ids (shW of l), id ∈ l := by
  intro l
  induction l with
  | nil => exact ⟨fun p hp => (by cases hp), fun id h => (by cases h)⟩
  | cons k r ih =>
    simp only [shW]
    split
    · rename_i o0 ho0
      cases isSh o0 with
      | true => exact ⟨ih.1, fun id h => List.mem_cons_of_mem _ (ih.2 id h)⟩
      | false =>
        refine ⟨fun p hp => ?_, fun id h => ?_⟩
        · rcases List.mem_cons.1 hp with rfl | hp
          · exact ⟨o0, ho0, rfl⟩
          · exact ih.1 p hp
        · simp only [cond_false, ids, List.map_cons, List.mem_cons] at h
          rcases h with rfl | h
          · exact List.mem_cons_self ..
          · exact List.mem_cons_of_mem _ (ih.2 id h)
    · exact ⟨ih.1, fun id h => List.mem_cons_of_mem _ (ih.2 id h)⟩
theorem left_sh {of of' : Nat → Option Ob} {v : A} {l ro : List Nat} {nx : Nat} {x : Value} {w' : World} (ho : ∀ id ∈ l, of' id = of id) (hl : Left T c e of' ⟨v, [], ro, []⟩ x w') : LeftN T c e of' nx ⟨v, shW of l, l, nx⟩ x w' := by
  obtain ⟨e', p1, p2, p3, p4, p5⟩ := hl
  have p2 : OSim T c e' of' := p2
  refine ⟨e', p1, p2.weak (fun p hp => ?_), p3, fun id hid => (p4 id hid).elim .inl (fun q => by cases q), p5⟩
  rw [ho p.1 ((shW_all l).2 _ (List.mem_map.2 ⟨p, hp, rfl⟩))]
  exact (shW_all l).1 p hp

/-! ### Values of one cell -/
def cellA (T : TT) : A → Bool
  | .v t _ => scal T t
  | .g _ _ | .t _ | .x => false
  | _ => true
theorem cell_RA {a : A} {x : Value} (h : Rep T e a x) (hc : cellA T a = true) : RA T e [a] [x] ∧ one x = true := by
  cases a with
  | v t y =>
    simp only [cellA, scal, Bool.and_eq_true] at hc
    have hk : ∃ k, kOf T t = some k ∧ k.agg = false := by
      cases hk : kOf T t with
      | none => rw [hk] at hc; simp at hc
      | some k => rw [hk] at hc; exact ⟨k, rfl, by simpa using hc.1⟩
    have := rv_single h hk
    exact ⟨RA.v1 this, this.one x (by simp)⟩
  | g _ _ => cases hc
  | t _ => cases hc
  | x => cases hc
  | _ => exact ⟨h, RA.one_ h x (by simp)⟩
theorem RA_cell {a : A} {x : Value} (h : RA T e [a] [x]) (hc : cellA T a = true) : Rep T e a x := by
  have ho := RA.one_ h x (by simp)
  cases a with
  | v t y =>
    simp only [cellA, scal, Bool.and_eq_true] at hc
    refine ⟨by rw [cells_one ho]; exact h.v_inv, ⟨fun ⟨k, h1, h2⟩ => ?_, fun ⟨cs, hx⟩ => by subst hx; cases ho⟩⟩
    rw [h1] at hc; simp [h2] at hc
  | g _ _ => cases hc
  | t _ => cases hc
  | x => cases hc
  | _ => exact h
theorem cell_len {a : A} {d : List Value} (h : RA T e [a] d) (hc : cellA T a = true) : ∃ x, d = [x] := by
  cases a with
  | v t y =>
    simp only [cellA] at hc
    have := h.v_inv.one_len
    rw [scal_size hc] at this
    exact List.length_eq_one_iff.1 this
  | g _ _ => cases hc
  | t _ => cases hc
  | x => cases hc
  | _ => exact h.single rfl
theorem reps_RA : ∀ {l : List A} {vs : List Value}, Reps T e l vs → l.all (cellA T) = true → RA T e l vs := by
  intro l vs h
  induction h with
  | nil => intro _; exact .nil
  | @cons v x r s h1 _ ih =>
    intro hc
    simp only [List.all_cons, Bool.and_eq_true] at hc
    exact RA.append (l := [v]) (xs := [x]) (cell_RA h1 hc.1).1 (ih hc.2)
theorem RA_reps : ∀ {l : List A} {vs : List Value}, RA T e l vs → l.all (cellA T) = true → Reps T e l vs := by
  intro l
  induction l with
  | nil => intro vs h _; cases h; exact .nil
  | cons a l ih =>
    intro vs h hc
    simp only [List.all_cons, Bool.and_eq_true] at hc
    obtain ⟨d, r, rfl, h1, h2⟩ := h.uncons
    obtain ⟨x, rfl⟩ := cell_len h1 hc.1
    exact .cons (RA_cell h1 hc.1) (ih h2 hc.2)
theorem Reps.append {a b : List A} {x y : List Value} (h : Reps T e a x) (k : Reps T e b y) : Reps T e (a ++ b) (x ++ y) := by
  induction h with
  | nil => exact k
  | cons h1 _ ih => exact .cons h1 ih
theorem Reps.get {l : List A} {xs : List Value} (h : Reps T e l xs) : xs.length = l.length ∧ ∀ (i : Nat) v x, l[i]? = some v → xs[i]? = some x → Rep T e v x := by
  induction h with
  | nil => exact ⟨rfl, fun i v x h => by simp at h⟩
  | cons h1 _ ih =>
    refine ⟨by simp [ih.1], fun i v x hv hx => ?_⟩
    cases i with
    | zero => simp at hv hx; subst hv; subst hx; exact h1
    | succ i => exact ih.2 i v x (by simpa using hv) (by simpa using hx)
theorem Reps.mono {e e' : Env} (he : e.le e') {l : List A} {xs : List Value} (h : Reps T e l xs) : Reps T e' l xs := by
  induction h with
  | nil => exact .nil
  | cons h1 _ ih => exact .cons (h1.mono he) ih

/-! ### Constants -/
def constA : Value → A
  | .int k n => if inRb k n then .i k n else .x
  | .bool b => .b b
  | .string s => .s (txt s)
  | v => if nilV v then .z v else .x
theorem constA_ok (v : Value) : Rep T e (constA v) v := by
  unfold constA
  split
  · split
    · rename_i h; exact rep_i (inRb_iff h)
    · trivial
  · exact rep_b _
  · exact rep_s _
  · split
    · rename_i h; exact RA.z h .nil
    · trivial
def evO (sl : Nat → A) : Operand → A
  | .tmp t => sl t
  | .const v => constA v
  | .func f => .f f []
  | .global _ => .x
theorem evO_ok {sl : Nat → A} {a : Act} {x : Operand} (h : ∀ t, x = .tmp t → Rep T e (sl t) (a.tmps.getD t undef)) : Rep T e (evO sl x) (a.eval x) := by
  cases x with
  | tmp t => exact h t rfl
  | const v => exact constA_ok v
  | global g => trivial
  | func f => exact RA.f .nil .nil
end Go.Vm

namespace Go.Vm
open Go.RowKit
variable {P : Program} {T : TT} {c : Ctx} {e : Env} {of : Nat → Option Ob}
set_option linter.unusedVariables false
set_option linter.constructorNameAsVariable false

/-! ### What is known of functions, and of the rounds of a range over a function -/
/-- f: of a function's call; y: of a call of the yield of that loop; ord: is that function called as itself? -/
structure KS where
  f : Nat → Sym
  y : Nat → Sym
  ord : Nat → Bool
instance : CoeFun KS (fun _ => Nat → Sym) := ⟨KS.f⟩
/-- What a call of a loop's yield does. -/
def YOK (P : Program) (T : TT) (id : Nat) (s : Sym) : Prop :=
  ∀ (c : Ctx) (e : Env) (of of' : Nat → Option Ob) (args : List A) (vals : Array Value) (nx : Nat) (out : Eff) (b : Nat), OSim T c e of' → s args of nx = some out → (∀ id ∈ out.ro, of' id = of id) → (∀ id, nx ≤ id → id < out.nx → ¬ e.U id) → Reps T e args vals.toList →
    e.U id → e.bn id = 0 → e.ι id = some (b, 0) → Does P (Instr.yield b vals) e.w (LeftN T c e of' nx out)
structure KOK (P : Program) (T : TT) (K : KS) : Prop where
  f : ∀ f, SymOK P T f (K.f f)
  y : ∀ id, YOK P T id (K.y id)
  ord : ∀ f, K.ord f = true → ∀ (vals : Array Value) (w : World), (callFunc f vals).run P w = .ok (.enter f vals) w
/-- Nothing is known of rounds. -/
def KS.no (f : Nat → Sym) : KS := ⟨f, fun _ _ _ _ => none, fun _ => false⟩
theorem KOK.no {f : Nat → Sym} (h : ∀ i, SymOK P T i (f i)) : KOK P T (.no f) := ⟨h, fun id c e of of' args vals nx out b _ hr => (by cases hr), fun f h => (by cases h)⟩
theorem rep_y_inv {id : Nat} {v : Value} (h : Rep T e (.y id) v) : ∃ b, e.U id ∧ e.bn id = 0 ∧ e.ι id = some (b, 0) ∧ v = .func (.yield b) #[] #[] := by
  have h : RA T e [.y id] [v] := h
  cases h with
  | r h1 _ _ => exact h1

/-! ### Calls -/
def callA (T : TT) (K : KS) (ev : Operand → A) (of : Nat → Option Ob) (nx : Nat) (k : Call) : Option Eff :=
  match k.callee with
  | .value f => match ev f with
    | .f fn cap => if cap.all (cellA T) then K fn (k.args.toList.map ev ++ cap) of nx else none
    | .y id => K.y id (k.args.toList.map ev) of nx
    | _ => none
  | .builtin .len => match k.argTypes.toList, k.args.toList with
    | [t], [x] => match lenA T of t (ev x) with
      | some (v, ro) => some (.pv nx v ro)
      | none => none
    | _, _ => none
  | .builtin .cap => match k.argTypes.toList, k.args.toList with
    | [t], [x] => match capA T t (ev x) with
      | some v => some (.pv nx v [])
      | none => none
    | _, _ => none
  | .builtin .append => match k.argTypes.toList, k.args.toList with
    | [t, xt], [x, y] => if appOk T xt (ev y) then lift nx (appendA T of nx t (ev x) (ev y)) else if isQ T (ev x) then lift nx (zerosA T nx t xt (ev x) (ev y)) else none
    | _, _ => none
  | .builtin .min => match k.args.toList with
    | [x, y] => match minA false (ev x) (ev y) with
      | some v => some (.pv nx v [])
      | none => none
    | _ => none
  | .builtin .max => match k.args.toList with
    | [x, y] => match minA true (ev x) (ev y) with
      | some v => some (.pv nx v [])
      | none => none
    | _ => none
  | .builtin .delete => match k.argTypes.toList, k.args.toList with
    | [t, _], [x, y] => match dropM T of t (ev x) (ev y) with
      | some (wo, ro) => some ⟨.x, wo, ro, nx⟩
      | none => none
    | _, _ => none
  | .builtin .copy => match k.argTypes.toList, k.args.toList with
    | [t, xt], [x, y] => match copyA T of t xt (ev x) (ev y) with
      | some (v, wo, ro) => some ⟨v, wo, ro, nx⟩
      | none => none
    | _, _ => none
  | _ => none
theorem does_congr {s s' : Sem Next} {w : World} {R : Value → World → Prop} (h : ∀ w, s.run P w = s'.run P w) (hd : Does P s' w R) : Does P s w R := by
  unfold Does at hd ⊢
  rw [h]; exact hd
theorem arr1 {α : Type} {a : Array α} {x : α} (h : a.toList = [x]) : a = #[x] := by
  have := congrArg List.toArray h; simpa using this
theorem arr2 {α : Type} {a : Array α} {x y : α} (h : a.toList = [x, y]) : a = #[x, y] := by
  have := congrArg List.toArray h; simpa using this
theorem reps_map {ev : Operand → A} {ρ : Operand → Value} (hx : ∀ x, Rep T e (ev x) (ρ x)) : ∀ l : List Operand, Reps T e (l.map ev) (l.map ρ) := by
  intro l
  induction l with
  | nil => exact .nil
  | cons x r ih => exact .cons (hx x) ih
theorem callA_ok (hT : TOK T P) {K : KS} (hK : KOK P T K) {of' : Nat → Option Ob} {nx : Nat} {k : Call} {ev : Operand → A} {ρ : Operand → Value} {out : Eff} (h : OSim T c e of') (hr : callA T K ev of nx k = some out) (ho : ∀ id ∈ out.ro, of' id = of id)
    (hu : ∀ id, nx ≤ id → id < out.nx → ¬ e.U id) (hx : ∀ x, Rep T e (ev x) (ρ x)) (ty : TypeId) :
    Does P (do let d ← resolve ρ k ty; invoke d.target d.args) e.w (LeftN T c e of' nx out) := by
  unfold callA at hr
  split at hr
  · rename_i f hk
    split at hr <;> try (cases hr; done)
    case h_2 id hf =>
      have hf' := hx f
      rw [hf] at hf'
      obtain ⟨b, y1, y2, y3, hv⟩ := rep_y_inv hf'
      have q1 := hK.y id c e of of' _ (k.args.map ρ) nx out b h hr ho hu (by rw [Array.toList_map]; exact reps_map hx _) y1 y2 y3
      refine does_congr (s' := Instr.yield b (k.args.map ρ)) (fun w => ?_) q1
      simp [resolve, hk, hv, Deferred.ofValue, invoke]
    rename_i fn cap hf
    split at hr <;> try (cases hr; done)
    rename_i hcap
    have hf' := hx f
    rw [hf] at hf'
    obtain ⟨vs, hv, hvs⟩ := rep_f_inv hf'
    have hcaps := RA_reps hvs hcap
    have q1 := hK.f fn c e of of' _ (k.args.map ρ ++ vs.toArray) nx out h hr ho hu (by rw [Array.toList_append, Array.toList_map]; exact (reps_map hx _).append hcaps)
    refine does_congr (s' := callFunc fn (k.args.map ρ ++ vs.toArray)) (fun w => ?_) q1
    simp [resolve, hk, hv, Deferred.ofValue, invoke]
  · rename_i hk
    split at hr <;> try (cases hr; done)
    rename_i t x hty har
    split at hr <;> try (cases hr; done)
    rename_i v ro hl
    injection hr with hr; subst hr
    have hrun : ∀ w, (do let d ← resolve ρ k ty; invoke d.target d.args : Sem Next).run P w = (do pure (.value (← Builtin.len_ #[t] ty #[ρ x])) : Sem Next).run P w := fun w => by
      simp [resolve, hk, invoke, builtin, arr1 hty, arr1 har]
    exact does_congr hrun (does_pv (lenA_ok hT h hl ho (hx x)))
  · rename_i hk
    split at hr <;> try (cases hr; done)
    rename_i t x hty har
    split at hr <;> try (cases hr; done)
    rename_i v hl
    injection hr with hr; subst hr
    have hrun : ∀ w, (do let d ← resolve ρ k ty; invoke d.target d.args : Sem Next).run P w = (do pure (.value (← Builtin.cap_ #[t] ty #[ρ x])) : Sem Next).run P w := fun w => by
      simp [resolve, hk, invoke, builtin, arr1 hty, arr1 har]
    exact does_congr hrun (does_pv (capA_ok hT h hl (hx x)))
  · rename_i hk
    split at hr <;> try (cases hr; done)
    rename_i t xt x y hty har
    have hrun : ∀ w, (do let d ← resolve ρ k ty; invoke d.target d.args : Sem Next).run P w = (do pure (.value (← Builtin.append_ #[t, xt] ty #[ρ x, ρ y])) : Sem Next).run P w := fun w => by
      simp [resolve, hk, invoke, builtin, arr2 hty, arr2 har]
    split at hr
    · rename_i hap
      obtain ⟨o2, h2, h3, h4, h5⟩ := lift_spec hr
      exact does_congr hrun (does_mono (appendA_ok h hT hap h2 (by rw [← h3]; exact ho) (fun id hid => hu id (h4 id hid).1 (h4 id hid).2) (hx x) (hx y)) (fun _ _ => h5))
    · split at hr <;> try (cases hr; done)
      rename_i hq
      obtain ⟨o2, h2, h3, h4, h5⟩ := lift_spec hr
      exact does_congr hrun (does_mono (zerosA_ok hT h h2 hq (fun id hid => hu id (h4 id hid).1 (h4 id hid).2) (hx x) (hx y)) (fun _ _ => h5))
  · rename_i hk
    split at hr <;> try (cases hr; done)
    rename_i x y har
    split at hr <;> try (cases hr; done)
    rename_i v hl
    injection hr with hr; subst hr
    have hrun : ∀ w, (do let d ← resolve ρ k ty; invoke d.target d.args : Sem Next).run P w = (do pure (.value (← Builtin.min_ k.argTypes ty #[ρ x, ρ y])) : Sem Next).run P w := fun w => by
      simp [resolve, hk, invoke, builtin, arr2 har]
    exact does_congr hrun (does_pv (min_ok h hl (hx x) (hx y)))
  · rename_i hk
    split at hr <;> try (cases hr; done)
    rename_i x y har
    split at hr <;> try (cases hr; done)
    rename_i v hl
    injection hr with hr; subst hr
    have hrun : ∀ w, (do let d ← resolve ρ k ty; invoke d.target d.args : Sem Next).run P w = (do pure (.value (← Builtin.max_ k.argTypes ty #[ρ x, ρ y])) : Sem Next).run P w := fun w => by
      simp [resolve, hk, invoke, builtin, arr2 har]
    exact does_congr hrun (does_pv (max_ok h hl (hx x) (hx y)))
  · rename_i hk
    split at hr <;> try (cases hr; done)
    rename_i t t2 x y hty har
    split at hr <;> try (cases hr; done)
    rename_i wo ro hl
    injection hr with hr; subst hr
    have hrun : ∀ w, (do let d ← resolve ρ k ty; invoke d.target d.args : Sem Next).run P w = (do pure (.value (← Builtin.delete_ #[t, t2] ty #[ρ x, ρ y])) : Sem Next).run P w := fun w => by
      simp [resolve, hk, invoke, builtin, arr2 hty, arr2 har]
    exact does_congr hrun (does_wo (dropM_ok hT h hl ho (hx x) (hx y)))
  · rename_i hk
    split at hr <;> try (cases hr; done)
    rename_i t xt x y hty har
    split at hr <;> try (cases hr; done)
    rename_i v wo ro hl
    injection hr with hr; subst hr
    have hrun : ∀ w, (do let d ← resolve ρ k ty; invoke d.target d.args : Sem Next).run P w = (do pure (.value (← Builtin.copy_ #[t, xt] ty #[ρ x, ρ y])) : Sem Next).run P w := fun w => by
      simp [resolve, hk, invoke, builtin, arr2 hty, arr2 har]
    exact does_congr hrun (does_wo (copyA_ok hT h hl ho (hx x) (hx y)))
  · cases hr

/-! ### One operation -/
def partsA (ev : Operand → A) (parts : List (Nat × Operand)) : List (Nat × A) := parts.map fun p => (p.1, ev p.2)
theorem parts_rep {ev : Operand → A} {ρ : Operand → Value} (hx : ∀ x, Rep T e (ev x) (ρ x)) : ∀ (l : List (Nat × Operand)), RepP T e (partsA ev l) (l.map fun p => (p.1, ρ p.2)) := by
  intro l
  induction l with
  | nil => exact .nil
  | cons p r ih => exact .cons (hx _) ih
theorem map_rep {ev : Operand → A} {ρ : Operand → Value} (hx : ∀ x, Rep T e (ev x) (ρ x)) (o : Option Operand) : RepO T e (o.map ev) (o.map ρ) := by
  cases o with
  | none => exact .none
  | some x => exact .some (hx x)
def assignA (T : TT) (ty nx : Nat) (u : A) : Eff :=
  match u with
  | .z v => match kOf T ty with
    | some (.slice el) => if nilS v && Nat.blt 0 (szT T el) then ⟨.o nx 1, [(nx, .row el 1 [] true false)], [], nx + 1⟩ else .pv nx u []
    | _ => .pv nx u []
  | _ => .pv nx u []
def makeSliceA (T : TT) (nx t : Nat) (u v : A) : Option Eff :=
  match kOf T t, u, v with
  | some (.slice el), .i _ a, .i _ b => match T el with
    | some te => if Nat.blt 0 te.size && TK.notOther te.k && Nat.ble te.bytes 131072 && ile 0 a && ile a b && ile b LIM then some ⟨.o nx 1, [(nx, .row el 1 (List.replicate a.toNat te.zero) false false)], [], nx + 1⟩ else none
    | none => none
  | _, _, _ => none
def makeMapA (T : TT) (nx t : Nat) (r : Option A) : Option Eff :=
  match kOf T t with
  | some (.map kt et) => match r with
    | none => some ⟨.m nx, [(nx, .map kt et [])], [], nx + 1⟩
    | some (.i _ _) => some ⟨.m nx, [(nx, .map kt et [])], [], nx + 1⟩
    | _ => none
  | _ => none
def putM (T : TT) (of : Nat → Option Ob) (nx t : Nat) (m k v : A) : Option Eff :=
  match updM T of t m k v with
  | some (wo, ro) => some ⟨.x, wo, ro, nx⟩
  | none => none
def pvO (nx : Nat) (o : Option A) : Option Eff :=
  match o with
  | some v => some (.pv nx v [])
  | none => none
def pvR (nx : Nat) (o : Option (A × List Nat)) : Option Eff :=
  match o with
  | some (v, ro) => some (.pv nx v ro)
  | none => none
def pvW (nx : Nat) (o : Option (A × List (Nat × Ob) × List Nat)) : Option Eff :=
  match o with
  | some (v, wo, ro) => some ⟨v, wo, ro, nx⟩
  | none => none
def stepOp (T : TT) (K : KS) (ev : Operand → A) (of : Nat → Option Ob) (nx : Nat) (o : Oper) : Option Eff :=
  match o.op with
  | .move x => some (.pv nx (ev x) [])
  | .assign x => some (assignA T o.type nx (ev x))
  | .pick q a b => match ev q with
    | .b t => some (.pv nx (bif t then ev a else ev b) [])
    | _ => none
  | .alloc el => match T el with
    | some te => if TK.notOther te.k then some ⟨.p nx el [], [(nx, .box el (.v el te.zero) false)], [], nx + 1⟩ else none
    | none => none
  | .box el x => match asT T el (ev x) with
    | some a => some ⟨.p nx el [], [(nx, .box el a false)], [], nx + 1⟩
    | none => none
  | .build t parts => match buildA T t (partsA ev parts.toList) with
    | some v => some (.pv nx v [])
    | none => none
  | .buildSlice t len parts => lift nx (buildSliceA T of nx t len (partsA ev parts.toList))
  | .load t a => pvR nx (loadA T of t (ev a))
  | .store t a x => match storeA T of t (ev a) (ev x) with
    | some (wo, ro) => some ⟨.x, wo, ro, nx⟩
    | none => none
  | .sliceToArrayPointer t x => pvW nx (arrA T of t (ev x))
  | .nilCheck x => match chkA of (ev x) with
    | some ro => some (.pv nx (ev x) ro)
    | none => none
  | .binOp op t x y _ => pvR nx (binA T of op t (ev x) (ev y))
  | .unOp op _ x => pvO nx (unA op (ev x))
  | .convert s t x => lift nx (convA T of nx s t (ev x))
  | .makeFunc fn first captured => match fn with
    | .func f => if Nat.beq first.toList.length 0 && (captured.toList.map ev).all (cellA T) then some (.pv nx (.f f (captured.toList.map ev)) []) else none
    | _ => none
  | .makeSlice t l k => makeSliceA T nx t (ev l) (ev k)
  | .makeMap t r => makeMapA T nx t (r.map ev)
  | .lookup t m k ok => pvR nx (lookA T of t (ev m) (ev k) ok)
  | .mapUpdate t m k v => putM T of nx t (ev m) (ev k) (ev v)
  | .insert t m k v => putM T of nx t (ev m) (ev k) (ev v)
  | .slice t x lo hi mx => pvW nx (sliceA T of t (ev x) (lo.map ev) (hi.map ev) (mx.map ev))
  | .fieldAddr s x f => pvR nx (fieldAddrA T of s f (ev x))
  | .field s x f => pvO nx (fieldA T s f (ev x))
  | .indexAddr t x ix => match ev ix with
    | .i _ i => pvR nx (indexAddrA T of t i (ev x))
    | _ => none
  | .index t x ix => match ev ix with
    | .i _ i => pvO nx (indexA T t i (ev x))
    | _ => none
  | .extract x i => pvO nx (tupA i (ev x))
  | .call k => callA T K ev of nx k
  | .range t x => lift nx (rangeM T of nx t (ev x))
  | .next x str => if str then none else pvR nx (nextM of (ev x))
  | _ => none
theorem pvO_spec {nx : Nat} {o : Option A} {f : Eff} (h : pvO nx o = some f) : ∃ v, o = some v ∧ f = .pv nx v [] := by
  unfold pvO at h
  split at h
  · injection h with h; exact ⟨_, rfl, h.symm⟩
  · cases h
theorem pvR_spec {nx : Nat} {o : Option (A × List Nat)} {f : Eff} (h : pvR nx o = some f) : ∃ v ro, o = some (v, ro) ∧ f = .pv nx v ro := by
  unfold pvR at h
  split at h
  · injection h with h; exact ⟨_, _, rfl, h.symm⟩
  · cases h
theorem pvW_spec {nx : Nat} {o : Option (A × List (Nat × Ob) × List Nat)} {f : Eff} (h : pvW nx o = some f) : ∃ v wo ro, o = some (v, wo, ro) ∧ f = ⟨v, wo, ro, nx⟩ := by
  unfold pvW at h
  split at h
  · injection h with h; exact ⟨_, _, _, rfl, h.symm⟩
  · cases h
theorem does_new {s : Sem Next} {w : World} {nx id : Nat} {v : A} {wo : List (Nat × Ob)} {ro : List Nat} (hd : Does P s w (Left T c e of ⟨v, wo, ro, [nx]⟩)) : Does P s w (LeftN T c e of nx ⟨v, wo, ro, nx + 1⟩) :=
  does_mono hd (fun _ _ ⟨e', p1, p2, p3, p4, p5⟩ => ⟨e', p1, p2, p3, fun id hid => (p4 id hid).imp (fun q => q) (fun q => by simp only [List.mem_singleton] at q; subst q; exact ⟨Nat.le_refl _, Nat.lt_succ_self _⟩), p5⟩)
theorem stepOp_ok (hT : TOK T P) {K : KS} (hK : KOK P T K) {of' : Nat → Option Ob} {nx : Nat} {o : Oper} {ev : Operand → A} {ρ : Operand → Value} {out : Eff} (h : OSim T c e of') (hr : stepOp T K ev of nx o = some out) (ho : ∀ id ∈ out.ro, of' id = of id) (hu : ∀ id, nx ≤ id → id < out.nx → ¬ e.U id)
    (hc : ∀ v, ρ (.const v) = v) (hx : ∀ x, Rep T e (ev x) (ρ x)) : Does P (execOp ρ o) e.w (LeftN T c e of' nx out) := by
  have pure' : ∀ {v : A} {x : Value} {s : Sem Next}, s = pure (.value x) → Rep T e v x → Does P s e.w (LeftN T c e of' nx (.pv nx v [])) := fun {v x s} hs hv => by
    subst hs
    exact does_pv (.inl ⟨x, e.w, by simp, left_same h hv⟩)
  obtain ⟨dst, op, ty, pos, after, guard⟩ := o
  cases op <;> simp only [stepOp] at hr <;> try (cases hr; done)
  case move x =>
    injection hr with hr; subst hr
    exact pure' rfl (hx x)
  case assign x =>
    injection hr with hr
    unfold assignA at hr
    split at hr
    · rename_i v hv
      split at hr
      · rename_i el hk
        split at hr
        · rename_i hcc
          simp only [Bool.and_eq_true] at hcc
          subst hr
          have hxx := hx x
          rw [hv] at hxx
          have hxv : ρ x = .slice none 0 0 := by
            have hxx : RA T e [.z v] [ρ x] := hxx
            generalize ρ x = r at hxx
            cases hxx with
            | z _ _ => exact nilS_eq hcc.1
            | r g1 _ _ => exact g1.elim
          refine does_new (id := nx) (.inl ⟨.slice none 0 0, e.w, by simp [execOp, hxv], left_nil (nl := true) h (hu nx (Nat.le_refl _) (Nat.lt_succ_self _)) rfl (by simpa [Nat.blt_eq] using hcc.2)⟩)
        · subst hr; exact pure' rfl (hv ▸ hx x)
      · subst hr; exact pure' rfl (hv ▸ hx x)
    · subst hr; exact pure' rfl (hx x)
  case pick q a b =>
    split at hr <;> try (cases hr; done)
    rename_i t hq
    injection hr with hr; subst hr
    have hq' := hx q
    rw [hq] at hq'
    have e1 := rep_b_inv hq'
    refine does_pv (.inl ⟨if t then ρ a else ρ b, e.w, by simp [execOp, e1, asBool], left_same h ?_⟩)
    cases t
    · exact hx b
    · exact hx a
  case alloc el =>
    split at hr <;> try (cases hr; done)
    rename_i te hte
    split at hr <;> try (cases hr; done)
    rename_i hne
    injection hr with hr; subst hr
    exact does_new (id := nx) (law_alloc h hT hte hne (hu nx (Nat.le_refl _) (Nat.lt_succ_self _)))
  case box el x =>
    split at hr <;> try (cases hr; done)
    rename_i a ha
    injection hr with hr; subst hr
    exact does_new (id := nx) (law_box h (hu nx (Nat.le_refl _) (Nat.lt_succ_self _)) (hx x) ha)
  case build t parts =>
    split at hr <;> try (cases hr; done)
    rename_i v h2
    injection hr with hr; subst hr
    have := law_build (ro := []) hT h (parts_rep hx parts.toList) h2
    rw [← Array.toList_map, Array.toArray_toList] at this
    exact does_pv this
  case buildSlice t len parts =>
    obtain ⟨o2, h2, h3, h4, h5⟩ := lift_spec hr
    have := law_buildSlice h hT h2 (by rw [← h3]; exact ho) (fun id hid => hu id (h4 id hid).1 (h4 id hid).2) (parts_rep hx parts.toList)
    rw [← Array.toList_map, Array.toArray_toList] at this
    exact does_mono this (fun _ _ => h5)
  case load t a =>
    obtain ⟨v, ro, h2, rfl⟩ := pvR_spec hr
    exact does_pv (loadA_ok hT h h2 ho (hx a))
  case store t a x =>
    split at hr <;> try (cases hr; done)
    rename_i wo ro h2
    injection hr with hr; subst hr
    exact does_wo (storeA_ok hT h h2 ho (hx a) (hx x))
  case sliceToArrayPointer t x =>
    obtain ⟨v, wo, ro, h2, rfl⟩ := pvW_spec hr
    exact does_wo (arrA_ok hT h h2 ho (hx x))
  case nilCheck x =>
    split at hr <;> try (cases hr; done)
    rename_i ro h2
    injection hr with hr; subst hr
    exact does_pv (chkA_ok rfl h h2 ho (hx x))
  case binOp op t x y t2 =>
    obtain ⟨v, ro, h2, rfl⟩ := pvR_spec hr
    exact does_pv (law_binOp hT h (hx x) (hx y) h2 ho)
  case unOp op t x =>
    obtain ⟨v, h2, rfl⟩ := pvO_spec hr
    exact does_pv (unA_ok h h2 (hx x))
  case convert s t x =>
    obtain ⟨o2, h2, h3, h4, h5⟩ := lift_spec hr
    exact does_mono (convA_ok hT h h2 (by rw [← h3]; exact ho) (fun id hid => hu id (h4 id hid).1 (h4 id hid).2) (hx x)) (fun _ _ => h5)
  case makeFunc fn first captured =>
    split at hr <;> try (cases hr; done)
    rename_i f
    split at hr <;> try (cases hr; done)
    rename_i hcc
    simp only [Bool.and_eq_true] at hcc
    injection hr with hr; subst hr
    have h0 : first = #[] := by
      have := Nat.eq_of_beq_eq_true hcc.1
      rw [Array.length_toList] at this
      exact Array.eq_empty_of_size_eq_zero this
    refine does_pv (.inl ⟨.func (.func f) #[] (captured.map ρ), e.w, by simp [execOp, Instr.makeFunc, h0], left_same h ?_⟩)
    have := RA.f (fn := f) (reps_RA (reps_map hx captured.toList) hcc.2) .nil
    have e1 : captured.map ρ = (captured.toList.map ρ).toArray := Array.ext' (by rw [Array.toList_map])
    rw [e1]
    exact this
  case makeSlice t l k =>
    unfold makeSliceA at hr
    split at hr <;> try (cases hr; done)
    rename_i el k1 a k2 b hk hl hkk
    split at hr <;> try (cases hr; done)
    rename_i te hte
    split at hr <;> try (cases hr; done)
    rename_i hcc
    simp only [Bool.and_eq_true, ile_iff] at hcc
    obtain ⟨⟨⟨⟨⟨c1, c2⟩, c3⟩, c4⟩, c5⟩, c6⟩ := hcc
    injection hr with hr; subst hr
    obtain ⟨te', h1, h2⟩ := kOf_some hk
    have hl' := hx l
    have hk' := hx k
    rw [hl] at hl'
    rw [hkk] at hk'
    have e1 := rep_i_inv hl'
    have e2 := rep_i_inv hk'
    refine ?_
    show Does P (do pure (.value (← Instr.makeSlice t (ρ l) (ρ k)))) _ _
    rw [e1, e2]
    have hb := Nat.le_of_ble_eq_true c3
    have hbb : b * te.bytes ≤ 140737488355328 := by
      have h1 : (b : Int) ≤ 1073741824 := c6
      have h2 : (te.bytes : Int) ≤ 131072 := by omega
      calc b * te.bytes ≤ 1073741824 * te.bytes := Int.mul_le_mul_of_nonneg_right h1 (by omega)
        _ ≤ 1073741824 * 131072 := Int.mul_le_mul_of_nonneg_left h2 (by omega)
        _ ≤ 140737488355328 := by omega
    have h63 : b ≤ 4611686018427387904 := by have h1 : (b : Int) ≤ 1073741824 := c6; omega
    exact does_new (id := nx) (law_make (ro := []) h hT (under_slice (hT _ _ h1) h2) hte (notOther_ne c2) (hu nx (Nat.le_refl _) (Nat.lt_succ_self _)) (by simpa [Nat.blt_eq] using c1) c4 c5 hbb h63)
  case makeMap t r =>
    unfold makeMapA at hr
    split at hr <;> try (cases hr; done)
    rename_i kt et hk
    obtain ⟨te', h1, h2⟩ := kOf_some hk
    split at hr <;> try (cases hr; done)
    · rename_i hrn
      have hr0 : r = none := by cases r <;> first | rfl | (simp at hrn; done)
      subst hr0
      injection hr with hr; subst hr
      exact does_new (id := nx) (law_makeMap h (under_map (hT _ _ h1) h2) (hu nx (Nat.le_refl _) (Nat.lt_succ_self _)) (.inl rfl))
    · rename_i k n hrn
      obtain ⟨x, rfl, hxn⟩ : ∃ x, r = some x ∧ ev x = .i k n := by cases r <;> simp at hrn; exact ⟨_, rfl, hrn⟩
      injection hr with hr; subst hr
      have hx' := hx x
      rw [hxn] at hx'
      exact does_new (id := nx) (law_makeMap h (under_map (hT _ _ h1) h2) (hu nx (Nat.le_refl _) (Nat.lt_succ_self _)) (.inr ⟨k, n, by rw [← rep_i_inv hx']; rfl⟩))
  case lookup t m k ok =>
    obtain ⟨v, ro, h2, rfl⟩ := pvR_spec hr
    exact does_pv (lookA_ok hT h h2 ho (hx m) (hx k))
  case mapUpdate t m k v =>
    unfold putM at hr
    split at hr <;> try (cases hr; done)
    rename_i wo ro h2
    injection hr with hr; subst hr
    exact does_wo (updM_ok hT h h2 ho (hx m) (hx k) (hx v))
  case insert t m k v =>
    unfold putM at hr
    split at hr <;> try (cases hr; done)
    rename_i wo ro h2
    injection hr with hr; subst hr
    exact does_wo (updM_ok hT h h2 ho (hx m) (hx k) (hx v))
  case slice t x lo hi mx =>
    obtain ⟨v, wo, ro, h2, rfl⟩ := pvW_spec hr
    exact does_wo (sliceA_ok hT h h2 ho (hx x) (map_rep hx lo) (map_rep hx hi) (map_rep hx mx))
  case fieldAddr s x f =>
    obtain ⟨v, ro, h2, rfl⟩ := pvR_spec hr
    exact does_pv (fieldAddrA_ok hT h h2 ho (hx x))
  case field s x f =>
    obtain ⟨v, h2, rfl⟩ := pvO_spec hr
    exact does_pv (fieldA_ok hT h h2 (hx x))
  case indexAddr t x ix =>
    split at hr <;> try (cases hr; done)
    rename_i kk i hi
    obtain ⟨v, ro, h2, rfl⟩ := pvR_spec hr
    have hi' := hx ix
    rw [hi] at hi'
    have e1 := rep_i_inv hi'
    refine ?_
    show Does P (do pure (.value (← Instr.indexAt t (ρ x) (ρ ix)))) _ _
    rw [e1]
    exact does_pv (indexAddrA_ok hT h h2 ho (hx x))
  case index t x ix =>
    split at hr <;> try (cases hr; done)
    rename_i kk i hi
    obtain ⟨v, h2, rfl⟩ := pvO_spec hr
    have hi' := hx ix
    rw [hi] at hi'
    have e1 := rep_i_inv hi'
    refine ?_
    show Does P (do pure (.value (← Instr.index t (ρ x) (ρ ix)))) _ _
    rw [e1]
    exact does_pv (indexA_ok hT h h2 (hx x))
  case extract x i =>
    obtain ⟨v, h2, rfl⟩ := pvO_spec hr
    exact does_pv (tupA_ok h h2 (hx x))
  case call k => exact callA_ok hT hK h hr ho hu hx ty
  case range t x =>
    obtain ⟨o2, h2, h3, h4, h5⟩ := lift_spec hr
    exact does_mono (rangeM_ok hT h h2 (by rw [← h3]; exact ho) (fun id hid => hu id (h4 id hid).1 (h4 id hid).2) (hx x)) (fun _ _ => h5)
  case next x str =>
    split at hr <;> try (cases hr; done)
    rename_i hstr
    have hs : str = false := by simpa using hstr
    subst hs
    obtain ⟨v, ro, h2, rfl⟩ := pvR_spec hr
    exact does_pv (nextM_ok h h2 ho (hx x))
end Go.Vm

namespace Go.Vm
open Go.RowKit
variable {P : Program} {T : TT} {c : Ctx} {e eb : Env} {of : Nat → Option Ob}
set_option linter.unusedVariables false
set_option linter.constructorNameAsVariable false

/-! ### A store by numbers -/
inductive Tr where
  | e
  | n (v : Option Ob) (l r : Tr)
def Tr.get : Tr → Nat → Option Ob
  | .e, _ => none
  | .n v l r, k => match k with
    | 0 => v
    | k + 1 => match Nat.mod k 2 with
      | 0 => l.get (Nat.div k 2)
      | _ => r.get (Nat.div k 2)
def Tr.setF : Nat → Tr → Nat → Ob → Tr
  | 0, t, _, _ => t
  | f + 1, .e, k, o => match k with
    | 0 => .n (some o) .e .e
    | k + 1 => match Nat.mod k 2 with
      | 0 => .n none (setF f .e (Nat.div k 2) o) .e
      | _ => .n none .e (setF f .e (Nat.div k 2) o)
  | f + 1, .n v l r, k, o => match k with
    | 0 => .n (some o) l r
    | k + 1 => match Nat.mod k 2 with
      | 0 => .n v (setF f l (Nat.div k 2) o) r
      | _ => .n v l (setF f r (Nat.div k 2) o)
def Tr.set (t : Tr) (k : Nat) (o : Ob) : Tr := setF (k + 1) t k o
theorem Tr.get_e (k : Nat) : Tr.get .e k = none := by cases k <;> rfl
theorem Tr.get_s (v : Option Ob) (l r : Tr) (k : Nat) : Tr.get (.n v l r) (k + 1) = if k % 2 = 0 then l.get (k / 2) else r.get (k / 2) := by
  show (match Nat.mod k 2 with | 0 => l.get (Nat.div k 2) | _ => r.get (Nat.div k 2)) = _
  have e1 : Nat.mod k 2 = k % 2 := rfl
  have e2 : Nat.div k 2 = k / 2 := rfl
  rw [e1, e2]
  rcases Nat.mod_two_eq_zero_or_one k with h | h <;> rw [h] <;> rfl
theorem Tr.get_setF : ∀ (f : Nat) (t : Tr) (k : Nat) (o : Ob) (j : Nat), k < f → (setF f t k o).get j = if j = k then some o else t.get j := by
  intro f
  induction f with
  | zero => intro t k o j h; omega
  | succ f ih =>
    intro t k o j h
    have hdiv : ∀ m : Nat, m + 1 < f + 1 → m / 2 < f := fun m hm => by omega
    have key : ∀ (m : Nat) (hm : k = m + 1) (v : Option Ob) (l r : Tr), (match Nat.mod m 2 with | 0 => Tr.n v (setF f l (Nat.div m 2) o) r | _ => Tr.n v l (setF f r (Nat.div m 2) o)).get j = if j = k then some o else (Tr.n v l r).get j := by
      intro m hm v l r
      subst hm
      have e1 : Nat.mod m 2 = m % 2 := rfl
      have e2 : Nat.div m 2 = m / 2 := rfl
      rw [e1, e2]
      cases j with
      | zero =>
        rw [if_neg (by omega)]
        rcases Nat.mod_two_eq_zero_or_one m with h' | h' <;> rw [h'] <;> rfl
      | succ j =>
        rcases Nat.mod_two_eq_zero_or_one m with h' | h' <;> rw [h']
        · show Tr.get (.n v (setF f l (m / 2) o) r) (j + 1) = _
          rw [get_s, get_s, ih l (m / 2) o (j / 2) (hdiv m h)]
          by_cases hj : j % 2 = 0
          · rw [if_pos hj, if_pos hj]
            by_cases hjm : j = m
            · subst hjm; simp
            · rw [if_neg (by omega), if_neg (by omega)]
          · rw [if_neg hj, if_neg hj, if_neg (by omega)]
        · show Tr.get (.n v l (setF f r (m / 2) o)) (j + 1) = _
          rw [get_s, get_s, ih r (m / 2) o (j / 2) (hdiv m h)]
          by_cases hj : j % 2 = 0
          · rw [if_pos hj, if_pos hj, if_neg (by omega)]
          · rw [if_neg hj, if_neg hj]
            by_cases hjm : j = m
            · subst hjm; simp
            · rw [if_neg (by omega), if_neg (by omega)]
    cases t with
    | e =>
      cases k with
      | zero =>
        cases j with
        | zero => rfl
        | succ j => rw [if_neg (by omega)]; show Tr.get (.n (some o) .e .e) (j + 1) = _; rw [get_s]; simp [get_e]
      | succ m =>
        have := key m rfl none .e .e
        have e0 : (Tr.n none .e .e).get j = Tr.get .e j := by
          cases j with
          | zero => rfl
          | succ j => rw [get_s]; simp [get_e]
        rw [e0] at this
        exact this
    | n v l r =>
      cases k with
      | zero =>
        cases j with
        | zero => rfl
        | succ j => rw [if_neg (by omega)]; show Tr.get (.n (some o) l r) (j + 1) = _; rw [get_s, get_s]
      | succ m => exact key m rfl v l r
theorem Tr.get_set (t : Tr) (k : Nat) (o : Ob) (j : Nat) : (t.set k o).get j = if j = k then some o else t.get j := get_setF _ _ _ _ _ (Nat.lt_succ_self _)
def Tr.toL : Tr → (Nat → Nat) → List (Nat × Ob)
  | .e, _ => []
  | .n v l r, f => match v with
    | some o => (f 0, o) :: (l.toL (fun j => f (2 * j + 1)) ++ r.toL (fun j => f (2 * j + 2)))
    | none => l.toL (fun j => f (2 * j + 1)) ++ r.toL (fun j => f (2 * j + 2))
def over (t : Tr) (base : Nat → Option Ob) (id : Nat) : Option Ob :=
  match t.get id with
  | some o => some o
  | none => base id
theorem put_toL : ∀ (t : Tr) (f : Nat → Nat) (base : Nat → Option Ob), (∀ i j, f i = f j → i = j) →
    (∀ j, put base (t.toL f) (f j) = match t.get j with | some o => some o | none => base (f j)) ∧ ∀ id, (∀ j, f j ≠ id) → put base (t.toL f) id = base id := by
  intro t
  induction t with
  | e => intro f base _; exact ⟨fun j => by rw [Tr.get_e]; rfl, fun id _ => rfl⟩
  | n v l r ihl ihr =>
    intro f base hf
    have i1 : ∀ i j, f (2 * i + 1) = f (2 * j + 1) → i = j := fun i j h => by have := hf _ _ h; omega
    have i2 : ∀ i j, f (2 * i + 2) = f (2 * j + 2) → i = j := fun i j h => by have := hf _ _ h; omega
    -- the rest, onto whatever base
    have rest : ∀ b : Nat → Option Ob, put b (l.toL (fun j => f (2 * j + 1)) ++ r.toL (fun j => f (2 * j + 2))) (f 0) = b (f 0) ∧
        (∀ j, put b (l.toL (fun j => f (2 * j + 1)) ++ r.toL (fun j => f (2 * j + 2))) (f (j + 1)) = match (if j % 2 = 0 then l.get (j / 2) else r.get (j / 2)) with | some o => some o | none => b (f (j + 1))) ∧
        ∀ id, (∀ j, f j ≠ id) → put b (l.toL (fun j => f (2 * j + 1)) ++ r.toL (fun j => f (2 * j + 2))) id = b id := by
      intro b
      rw [put_append]
      obtain ⟨l1, l2⟩ := ihl (fun j => f (2 * j + 1)) b i1
      obtain ⟨r1, r2⟩ := ihr (fun j => f (2 * j + 2)) (put b (l.toL (fun j => f (2 * j + 1)))) i2
      refine ⟨?_, fun j => ?_, fun id hid => ?_⟩
      · rw [r2 (f 0) (fun j h => by have := hf _ _ h; omega), l2 (f 0) (fun j h => by have := hf _ _ h; omega)]
      · by_cases hj : j % 2 = 0
        · have e1 : j + 1 = 2 * (j / 2) + 1 := by omega
          rw [r2 (f (j + 1)) (fun k h => by have := hf _ _ h; omega), if_pos hj]
          have := l1 (j / 2)
          simp only [← e1] at this
          exact this
        · have e1 : j + 1 = 2 * (j / 2) + 2 := by omega
          rw [if_neg hj]
          have := r1 (j / 2)
          simp only [← e1] at this
          rw [this, l2 (f (j + 1)) (fun k h => by have := hf _ _ h; omega)]
      · rw [r2 id (fun j => hid _), l2 id (fun j => hid _)]
    cases v with
    | none =>
      obtain ⟨a1, a2, a3⟩ := rest base
      refine ⟨fun j => ?_, a3⟩
      cases j with
      | zero => exact a1
      | succ j => rw [Tr.get_s]; exact a2 j
    | some o =>
      obtain ⟨a1, a2, a3⟩ := rest (upd base (f 0) (some o))
      refine ⟨fun j => ?_, fun id hid => ?_⟩
      · cases j with
        | zero => exact a1.trans (upd_same _ _ _)
        | succ j =>
          rw [Tr.get_s]
          refine (a2 j).trans ?_
          rw [upd_ne _ _ (fun h => by have := hf _ _ h; omega)]
      · exact (a3 id hid).trans (upd_ne _ _ (fun h => hid 0 h.symm))
theorem put_toL_id (t : Tr) (base : Nat → Option Ob) : put base (t.toL fun j => j) = over t base := by
  funext id
  exact (put_toL t (fun j => j) base (fun _ _ h => h)).1 id
def setL (t : Tr) : List (Nat × Ob) → Tr
  | [] => t
  | (id, o) :: r => setL (t.set id o) r
theorem over_set (t : Tr) (base : Nat → Option Ob) (k : Nat) (o : Ob) : over (t.set k o) base = upd (over t base) k (some o) := by
  funext id
  simp only [over, upd, Tr.get_set]
  by_cases h : id = k
  · rw [if_pos h, if_pos h]
  · rw [if_neg h, if_neg h]
theorem over_setL : ∀ (l : List (Nat × Ob)) (t : Tr) (base : Nat → Option Ob), over (setL t l) base = put (over t base) l := by
  intro l
  induction l with
  | nil => intro t base; rfl
  | cons p r ih => intro t base; obtain ⟨k, o⟩ := p; simp only [setL, put]; rw [ih, over_set]
end Go.Vm

namespace Go.Vm
open Go.RowKit
variable {P : Program} {T : TT} {c : Ctx} {e eb : Env} {of of' : Nat → Option Ob}
set_option linter.unusedVariables false
set_option linter.constructorNameAsVariable false

/-! ### States -/
structure St where
  sl : List (Nat × A)
  ob : Tr
  rd : List Nat
  nx : Nat
  mks : Option (List Nat)
def getSc : List (Nat × A) → Nat → A
  | [], _ => .x
  | (k, v) :: r, t => bif Nat.beq k t then v else getSc r t
/-- (By recursors: quick for the kernel.) -/
noncomputable def getS (l : List (Nat × A)) (t : Nat) : A := List.rec (motive := fun _ => A) A.x (fun p _ ih => Bool.rec (motive := fun _ => A) ih p.2 (Nat.beq p.1 t)) l
theorem getS_eq_c : @getS = @getSc := by
  funext l t
  induction l with
  | nil => rfl
  | cons p r ih =>
    obtain ⟨k, v⟩ := p
    show Bool.rec (motive := fun _ => A) (getS r t) v (Nat.beq k t) = bif Nat.beq k t then v else getSc r t
    rw [ih]
    cases Nat.beq k t <;> rfl
theorem getS_cons (k : Nat) (v : A) (r : List (Nat × A)) : getS ((k, v) :: r) = upd (getS r) k v := by
  funext t
  show Bool.rec (motive := fun _ => A) (getS r t) v (Nat.beq k t) = upd (getS r) k v t
  simp only [upd]
  by_cases h : t = k
  · subst h; rw [if_pos rfl, show Nat.beq t t = true from Nat.beq_refl t]
  · rw [if_neg h]
    have : Nat.beq k t = false := by
      rw [← Bool.not_eq_true]; intro q; exact h (Nat.eq_of_beq_eq_true q).symm
    rw [this]
def mem (t : Nat) : List Nat → Bool
  | [] => false
  | k :: r => Nat.beq k t || mem t r
theorem mem_iff {t : Nat} {l : List Nat} : mem t l = true ↔ t ∈ l := by
  induction l with
  | nil => simp [mem]
  | cons k r ih =>
    simp only [mem, Bool.or_eq_true, ih, List.mem_cons]
    constructor
    · rintro (h | h)
      · exact .inl (Nat.eq_of_beq_eq_true h).symm
      · exact .inr h
    · rintro (h | h)
      · subst h; exact .inl (Nat.beq_refl t)
      · exact .inr h
/-- What of all that was there before was read. -/
def addR (ob : Tr) : List Nat → List Nat → List Nat
  | [], rd => rd
  | id :: r, rd => match ob.get id with
    | some _ => addR ob r rd
    | none => bif mem id rd then addR ob r rd else addR ob r (id :: rd)
theorem addR_mono (ob : Tr) : ∀ (l rd : List Nat), ∀ id ∈ rd, id ∈ addR ob l rd := by
  intro l
  induction l with
  | nil => intro rd id h; exact h
  | cons k r ih =>
    intro rd id h
    simp only [addR]
    cases ob.get k with
    | some o => exact ih _ _ h
    | none =>
      cases mem k rd with
      | true => exact ih _ _ h
      | false => exact ih _ _ (List.mem_cons_of_mem _ h)
theorem addR_mem (ob : Tr) : ∀ (l rd : List Nat), ∀ id ∈ l, (∃ o, ob.get id = some o) ∨ id ∈ addR ob l rd := by
  intro l
  induction l with
  | nil => intro rd id h; cases h
  | cons k r ih =>
    intro rd id h
    rcases List.mem_cons.1 h with rfl | h
    · cases hk : ob.get id with
      | some o => exact .inl ⟨o, rfl⟩
      | none =>
        right
        simp only [addR, hk]
        cases hm : mem id rd with
        | true => exact addR_mono _ _ _ _ (mem_iff.1 hm)
        | false => exact addR_mono _ _ _ _ (List.mem_cons_self ..)
    · simp only [addR]
      cases hk : ob.get k with
      | some o => exact ih _ _ h
      | none =>
        cases mem k rd with
        | true => exact ih _ _ h
        | false => exact ih _ _ h

/-- The marks that ranges over functions have left among an activation's deferred calls: in a round there are none. -/
inductive MarksL (e : Env) : List Nat → List Deferred → Prop
  | nil : MarksL e [] []
  | cons {id b l ds} : e.U id → e.bn id = 0 → e.ι id = some (b, 0) → MarksL e l ds → MarksL e (id :: l) ({ target := .collected b, args := #[] } :: ds)
def Marks (e : Env) (rd : Option Nat) : Option (List Nat) → List Deferred → Prop
  | none, ds => ds = []
  | some l, ds => rd = none ∧ MarksL e l ds
theorem MarksL.mono {e e' : Env} (he : e.le e') {l : List Nat} {ds : List Deferred} (h : MarksL e l ds) : MarksL e' l ds := by
  induction h with
  | nil => exact .nil
  | cons h1 h2 h3 _ ih =>
    have h0 := he.box _ h1 h2
    exact .cons (he.use _ h1) h0 (by rw [(he.obj _ h1 (by omega)).1]; exact h3) ih
theorem Marks.mono {e e' : Env} (he : e.le e') {rd : Option Nat} {l : Option (List Nat)} {ds : List Deferred} (h : Marks e rd l ds) : Marks e' rd l ds := by
  cases l with
  | none => exact h
  | some l => exact ⟨h.1, h.2.mono he⟩
/-- How the machine stands to a state. -/
structure Stands (T : TT) (c : Ctx) (eb : Env) (sl : Nat → A) (of : Nat → Option Ob) (U : Nat → Prop) (nt : Nat) (mk : Option (List Nat)) (a : Act) (e : Env) : Prop where
  os : OSim T c e of
  le : eb.le e
  U : ∀ id, e.U id → U id
  sl : ∀ t, Rep T e (sl t) (a.tmps.getD t undef)
  def_ : Marks e c.rd mk a.defers
  nt : a.tmps.size = nt
def Sim (T : TT) (c : Ctx) (eb : Env) (of : Nat → Option Ob) (n0 nt : Nat) (σ : St) (a : Act) (w : World) : Prop :=
  ∃ e, e.w = w ∧ Stands T c eb (getS σ.sl) (over σ.ob of) (fun id => eb.U id ∨ (n0 ≤ id ∧ id < σ.nx)) nt σ.mks a e

/-! ### Operations of a region -/
structure Ent where
  dst : Option Nat
  val : A
  wo : List (Nat × Ob)
  rs : List Nat
  ro : List Nat
  lo : Nat
  hi : Nat
def Ent.mk1 (o : Oper) (rs : List Nat) (nx : Nat) (out : Eff) : Ent := ⟨o.dst, out.val, out.wo, rs, out.ro, nx, out.nx⟩
def Ent.skip (o : Oper) (rs : List Nat) (nx : Nat) : Ent := ⟨o.dst, .t [], [], rs, [], nx, nx⟩
def entOp (T : TT) (K : KS) (ops : Array Oper) (sl : Nat → A) (of : Nat → Option Ob) (nx : Nat) (o : Oper) : Option Ent :=
  match o.guard with
  | none => match stepOp T K (evO sl) of nx o with
    | some out => if Nat.ble nx out.nx then some (.mk1 o (o.looksAt ops) nx out) else none
    | none => none
  | some (g, want) => match (ops[g]?).bind (·.dst) with
    | some d => match sl d with
      | .t _ => some (.skip o (o.looksAt ops) nx)
      | .b q => if q = want then (match stepOp T K (evO sl) of nx o with
          | some out => if Nat.ble nx out.nx then some (.mk1 o (o.looksAt ops) nx out) else none
          | none => none) else some (.skip o (o.looksAt ops) nx)
      | _ => none
    | none => none
theorem stepOp_congr {K : KS} {of : Nat → Option Ob} {nx : Nat} {o : Oper} {ev ev' : Operand → A} (h : ∀ x ∈ o.op.operands, ev x = ev' x) : stepOp T K ev of nx o = stepOp T K ev' of nx o := by
  obtain ⟨dst, op, ty, pos, after, guard⟩ := o
  have hp : ∀ (ps : Array (Nat × Operand)), (∀ x ∈ (ps.toList.map (·.2)).toArray, ev x = ev' x) → partsA ev ps.toList = partsA ev' ps.toList := fun ps hps => by
    unfold partsA
    apply List.map_congr_left
    intro p hpm
    rw [hps p.2 (by simpa using ⟨p.1, by simpa using hpm⟩)]
  cases op <;> simp only [stepOp] <;> simp only [Op.operands] at h
  case move x => rw [h x (by simp)]
  case assign x => rw [h x (by simp)]
  case pick q a b => rw [h q (by simp), h a (by simp), h b (by simp)]
  case box el x => rw [h x (by simp)]
  case build t parts => rw [hp parts h]
  case buildSlice t len parts => rw [hp parts h]
  case load t a => rw [h a (by simp)]
  case store t a x => rw [h a (by simp), h x (by simp)]
  case sliceToArrayPointer t x => rw [h x (by simp)]
  case nilCheck x => rw [h x (by simp)]
  case binOp op t x y t2 => rw [h x (by simp), h y (by simp)]
  case unOp op t x => rw [h x (by simp)]
  case convert s t x => rw [h x (by simp)]
  case makeFunc fn first captured =>
    have : captured.toList.map ev = captured.toList.map ev' := List.map_congr_left (fun x hx => h x (by simp; exact .inr (by simpa using hx)))
    rw [this]
  case makeSlice t l k => rw [h l (by simp), h k (by simp)]
  case makeMap t r =>
    have e1 : r.map ev = r.map ev' := by cases r with | none => rfl | some y => simp only [Option.map_some]; rw [h y (by simp)]
    rw [e1]
  case lookup t m k ok => rw [h m (by simp), h k (by simp)]
  case mapUpdate t m k v => rw [h m (by simp), h k (by simp), h v (by simp)]
  case insert t m k v => rw [h m (by simp), h k (by simp), h v (by simp)]
  case slice t x lo hi mx =>
    have e1 : lo.map ev = lo.map ev' := by cases lo with | none => rfl | some y => simp only [Option.map_some]; rw [h y (by simp)]
    have e2 : hi.map ev = hi.map ev' := by cases hi with | none => rfl | some y => simp only [Option.map_some]; rw [h y (by simp)]
    have e3 : mx.map ev = mx.map ev' := by cases mx with | none => rfl | some y => simp only [Option.map_some]; rw [h y (by simp)]
    rw [h x (by simp), e1, e2, e3]
  case fieldAddr s x f => rw [h x (by simp)]
  case field s x f => rw [h x (by simp)]
  case indexAddr t x ix => rw [h x (by simp), h ix (by simp)]
  case index t x ix => rw [h x (by simp), h ix (by simp)]
  case extract x i => rw [h x (by simp)]
  case range t x => rw [h x (by simp)]
  case next x str => rw [h x (by simp)]
  case call k =>
    have e1 : ∀ x ∈ k.args, ev x = ev' x := fun x hx => h x (by unfold Call.operands; simp [hx])
    have e2 : k.args.toList.map ev = k.args.toList.map ev' := List.map_congr_left (fun x hx => e1 x (by simpa using hx))
    unfold callA
    split
    · rename_i f hk
      rw [h f (by unfold Call.operands; simp [hk]), e2]
    · split
      · rename_i hx; rw [e1 _ (by have := arr1 hx; rw [this]; simp)]
      · rfl
    · split
      · rename_i hx; rw [e1 _ (by have := arr1 hx; rw [this]; simp)]
      · rfl
    · split
      · rename_i hx; rw [e1 _ (by have := arr2 hx; rw [this]; simp), e1 _ (by have := arr2 hx; rw [this]; simp)]
      · rfl
    · split
      · rename_i hx; rw [e1 _ (by have := arr2 hx; rw [this]; simp), e1 _ (by have := arr2 hx; rw [this]; simp)]
      · rfl
    · split
      · rename_i hx; rw [e1 _ (by have := arr2 hx; rw [this]; simp), e1 _ (by have := arr2 hx; rw [this]; simp)]
      · rfl
    · split
      · rename_i hx; rw [e1 _ (by have := arr2 hx; rw [this]; simp), e1 _ (by have := arr2 hx; rw [this]; simp)]
      · rfl
    · split
      · rename_i hx; rw [e1 _ (by have := arr2 hx; rw [this]; simp), e1 _ (by have := arr2 hx; rw [this]; simp)]
      · rfl
    · rfl
/-- The fence that asks nothing, in a round or out of rounds. -/
abbrev WF (rd : Option Nat) : Fence := { Fence.wide with round := rd }
theorem wpI_mono {rd : Option Nat} {m : Nat} {cd : Code} {Q Q' : Exit → Act → World → Prop} {a : Act} {w : World} (hq : ∀ e a w, Q e a w → Q' e a w) (h : cd.wpIn (WF rd) m P Q a w) : cd.wpIn (WF rd) m P Q' a w := wpIn_mono h hq
theorem callsIn_wf {rd : Option Nat} {m : Nat} {f : FuncId} {args : Array Value} {w : World} {R : Ending → World → Prop} (h : Calls P f args w R) : CallsIn (WF rd) m P f args w R := (callsIn_wide (n := m)).2 h
theorem roundIn_wf {rd : Option Nat} {m l : Nat} {f : FuncId} {tmps : Array Value} {asg body : Code} {w : World} {R : Ending → World → Prop} (h : RoundIn Fence.wide 0 P l f tmps asg body w R) : RoundIn (WF rd) m P l f tmps asg body w R := by
  refine ⟨trivial, fun c cs hr => ?_⟩
  exact h.2 c cs (by intro d hd; cases hd)
theorem wpIn_of_does {rd : Option Nat} {m : Nat} {o : Oper} {a : Act} {w : World} {next : Act → World → Prop} {Q : Exit → Act → World → Prop} {R : Value → World → Prop} (hd : ∀ c, o.op ≠ .defer c)
    (h : Does P (execOp a.eval o) w R) (hn : ∀ x w', R x w' → next (a.put o.dst x) w') : o.wpIn (WF rd) m P a w next Q := by
  refine ⟨fun _ _ => trivial, ?_⟩
  rw [Oper.semAt_eq _ _ _ hd]
  rcases h with ⟨x, w', h, hr⟩ | ⟨w', h, hr⟩ | ⟨f, args, w1, h, hc⟩ | ⟨l, f, tmps, asg, body, w1, h, hc⟩
  · rw [h]; exact hn _ _ hr
  · rw [h]; exact hn _ _ hr
  · rw [h]
    refine ⟨fun q => (by cases q), CallsIn.mono (callsIn_wf hc) fun en w' he => ?_⟩
    obtain ⟨x, rfl, hr⟩ := he
    exact hn _ _ hr
  · rw [h]
    refine ⟨fun q => (by cases q), (roundIn_wf hc).mono fun en w' he => ?_⟩
    obtain ⟨x, rfl, hr⟩ := he
    exact hn _ _ hr
theorem stepOp_defer {K : KS} {ev : Operand → A} {nx : Nat} {o : Oper} {E : Eff} (h : stepOp T K ev of nx o = some E) : ∀ c, o.op ≠ .defer c := by
  intro c hc
  unfold stepOp at h
  rw [hc] at h
  cases h
/-- An operation's part, from where all that it looks at is as it was. -/
theorem entOp_ok {rd : Option Nat} {m : Nat} (hT : TOK T P) {K : KS} (hK : KOK P T K) {ops : Array Oper} {Q : Exit → Act → World → Prop} {i : Nat} {o : Oper} (hi : ops[i]? = some o) {sl : Nat → A} {nx : Nat} {E : Ent} {a : Act} (h : OSim T c e of') (hr : entOp T K ops sl of nx o = some E)
    (ho : ∀ id ∈ E.ro, of' id = of id) (hu : ∀ id, E.lo ≤ id → id < E.hi → ¬ e.U id) (hs : ∀ t ∈ E.rs, Rep T e (sl t) (a.tmps.getD t undef)) {K' : Act → World → Prop}
    (hK' : ∀ x w', LeftN T c e of' E.lo ⟨E.val, E.wo, E.ro, E.hi⟩ x w' → K' (a.put E.dst x) w') : wpOpIn (WF rd) m P ops Q i K' a e.w := by
  have go : (match stepOp T K (evO sl) of nx o with
      | some out => if Nat.ble nx out.nx then some (Ent.mk1 o (o.looksAt ops) nx out) else none
      | none => none) = some E → Region.wanted o (yielded ops a.tmps) = true → wpOpIn (WF rd) m P ops Q i K' a e.w := by
    intro hg hw
    split at hg <;> try (cases hg; done)
    rename_i out hst
    split at hg <;> try (cases hg; done)
    injection hg with hg; subst hg
    unfold wpOpIn
    simp only [hi, hw, if_true]
    have hmem : ∀ t, .tmp t ∈ o.op.operands → t ∈ o.looksAt ops := fun t ht => by
      unfold Oper.looksAt
      refine List.mem_append_left _ (List.mem_filterMap.2 ⟨.tmp t, by simpa using ht, rfl⟩)
    rw [stepOp_congr (ev' := evO fun t => if t ∈ o.looksAt ops then sl t else .x) (fun x hx => by
      cases x with
      | tmp t => simp only [evO]; rw [if_pos (hmem t hx)]
      | _ => rfl)] at hst
    refine (wpIn_of_does (stepOp_defer hst) (stepOp_ok hT hK h hst ho hu (fun _ => rfl) (fun x => evO_ok (fun t ht => ?_))) (fun x w' hl => hK' x w' hl))
    subst ht
    split
    · rename_i hin; exact hs t hin
    · trivial
  have skip : E = Ent.skip o (o.looksAt ops) nx → Region.wanted o (yielded ops a.tmps) = false → wpOpIn (WF rd) m P ops Q i K' a e.w := by
    intro hE hw
    subst hE
    unfold wpOpIn
    simp only [hi, hw, Bool.false_eq_true, if_false]
    refine ⟨fun _ _ => trivial, ?_⟩
    exact hK' undef e.w ⟨e, rfl, h, Env.le.refl e, fun _ hu => .inl hu, ⟨#[], rfl, rfl, fun i v x hv => by simp at hv⟩⟩
  have hrs : E.rs = o.looksAt ops := by
    unfold entOp at hr
    repeat' split at hr
    all_goals first | (cases hr; done) | (injection hr with hr; subst hr; rfl)
  rw [hrs] at hs
  unfold entOp at hr
  split at hr
  · rename_i hg
    exact go hr (by simp [Region.wanted, hg])
  · rename_i g want hg
    split at hr <;> try (cases hr; done)
    rename_i d hd
    have hdm : d ∈ o.looksAt ops := by simp [Oper.looksAt, hg, hd]
    have hsd := hs d hdm
    split at hr <;> try (cases hr; done)
    · rename_i l hl
      injection hr with hr
      refine skip hr.symm ?_
      rw [hl] at hsd
      obtain ⟨xs, hxs, _⟩ := hsd
      have : yielded ops a.tmps g = none := by
        unfold yielded
        rw [hd]
        simp only [Option.bind_some]
        cases hx : a.tmps[d]? with
        | none => rfl
        | some v =>
          have : a.tmps.getD d undef = v := by simp [hx]
          rw [this] at hxs; subst hxs; rfl
      simp [Region.wanted, hg, this]
    · rename_i q hq
      rw [hq] at hsd
      have hv := rep_b_inv hsd
      have hy : yielded ops a.tmps g = some q := by
        unfold yielded
        rw [hd]
        simp only [Option.bind_some]
        cases hx : a.tmps[d]? with
        | none => simp [hx, undef] at hv
        | some v =>
          have : a.tmps.getD d undef = v := by simp [hx]
          rw [this] at hv; subst hv; rfl
      split at hr
      · rename_i hqw
        exact go hr (by simp [Region.wanted, hg, hy, hqw])
      · rename_i hqw
        injection hr with hr
        exact skip hr.symm (by simp [Region.wanted, hg, hy, hqw])
theorem entOp_lo {K : KS} {ops : Array Oper} {sl : Nat → A} {nx : Nat} {o : Oper} {E : Ent} (hr : entOp T K ops sl of nx o = some E) : E.lo = nx ∧ nx ≤ E.hi ∧ E.dst = o.dst ∧ E.rs = o.looksAt ops := by
  unfold entOp at hr
  repeat' split at hr
  all_goals first | (cases hr; done) | (injection hr with hr; subst hr; exact ⟨rfl, Nat.le_refl _, rfl, rfl⟩) | (rename_i hb; injection hr with hr; subst hr; exact ⟨rfl, Nat.le_of_ble_eq_true hb, rfl, rfl⟩)
end Go.Vm
end
