/- What the operations of a program do, shown once for all programs; and numbers. -/
import Derived.Test.YtoodhpoicinomaaGreatVm5
import Derived.Orders
import Derived.OrdersIn
import Derived.LoopNIn
import Derived.RangeFuncIn
set_option linter.constructorNameAsVariable false
set_option linter.unusedVariables false
set_option linter.unusedSimpArgs false
noncomputable section
namespace Go.Vm
open Go.RowKit
variable {P : Program} {T : TT} {c : Ctx} {e : Env} {of : Nat → Option Ob}
variable {a kt st el : Nat} {ho : Option V} {es : List (V × V × Bool)}
theorem modify_toList {ms : Array MapEntry} {i : Nat} {me : MapEntry} {f : MapEntry → MapEntry} (hm1 : ms.toList[i]? = some me) : (ms.modify i f).toList = ms.toList.set i (f me) := by
  have hj : ms[i]? = some me := by simpa using hm1
  apply List.ext_getElem?
  intro j
  rw [Array.getElem?_toList, Array.getElem?_modify, List.getElem?_set]
  by_cases hij : i = j
  · subst hij
    rw [if_pos rfl, if_pos rfl, hj]
    have : i < ms.toList.length := (List.getElem?_eq_some_iff.1 hm1).1
    rw [if_pos this]; rfl
  · rw [if_neg hij, if_neg hij, Array.getElem?_toList]
theorem erase_toList {ms : Array MapEntry} {i : Nat} {me : MapEntry} (hm1 : ms.toList[i]? = some me) : (ms.eraseIdxIfInBounds i).toList = ms.toList.eraseIdx i := by
  have : i < ms.size := by have := (List.getElem?_eq_some_iff.1 hm1).1; simpa using this
  simp [Array.eraseIdxIfInBounds, this]
theorem delS_nodup {kv : V} (h : (es.map (·.1)).Nodup) : ((delS kv es).map (·.1)).Nodup := by rw [delS_filter]; exact h.sublist (List.filter_sublist.map _)
theorem setS_nodup {kv x : V} {q : Bool} (h : (es.map (·.1)).Nodup) : ((setS kv x q es).map (·.1)).Nodup := by
  rw [setS, List.map_cons, List.nodup_cons]
  refine ⟨?_, delS_nodup h⟩
  rw [delS_filter]
  intro hm
  obtain ⟨p, hp, hpk⟩ := List.mem_map.1 hm
  have := (List.mem_filter.1 hp).2
  simp only at hpk
  rw [hpk, veq_refl] at this
  simp at this
theorem nodup_erase {kv : V} {x0 : V × Bool} : ∀ {es : List (V × V × Bool)} {i : Nat}, (es.map (·.1)).Nodup → es[i]? = some (kv, x0) → ∀ p ∈ es.eraseIdx i, p.1 ≠ kv := by
  intro es i hn hi p hp
  rw [← filterS_erase hn hi] at hp
  have := (List.mem_filter.1 hp).2
  intro q
  rw [q, veq_refl] at this
  simp at this
theorem sm_put (hT : TOK T P) {id t : Nat} {kv x : V} {q : Bool} {bs0 bs : List Nat} {y z : Value} {es' : List (V × V × Bool)} {ms : Array MapEntry} {clock b : Nat} (hu : P.underlying t = some (.map kt st)) (h : OSim T c e of) (hof : of id = some (.sm kt st el es ho)) (hf : eqT T EQD kt = true) (hkey : Rep T e (.v kt kv) y) (hho : ho = none ∨ ho = some kv)
    (v3 : e.ι id = some (b, 0)) (v4 : e.w.heap[b]? = some (.map ms clock)) (vb : StB ms clock) (v6 : es'.Perm es) (v5 : (es.map (·.1)).Nodup) (v8 : (es'.map (·.1)).Nodup) (v7 : SR T e b kt st el ho es' ms.toList bs)
    (g : ((Instr.findKey kt y ms.toList).run P e.w = .ok none e.w ∧ hasS kv es = false ∧ ∀ p ∈ es', p.1 ≠ kv) ∨
        ∃ i m x q, (Instr.findKey kt y ms.toList).run P e.w = .ok (some (i, m.val)) e.w ∧ ms.toList[i]? = some m ∧ es'[i]? = some (kv, x, q) ∧ hasS kv es = true ∧ valS kv es = x ∧ ownS kv es = q)
    (hd : ∀ b' ∈ bs0, b' ∉ bs)
    (hent : ∀ w' : World, e.le { e with w := w' } → (∀ k, k ≠ b → w'.heap[k]? = e.w.heap[k]?) → ∀ n, EntS T { e with w := w' } b kt st el none (kv, x, q) { key := y, val := z, born := n } bs0) :
    Does P (do Instr.mapUpdate t (.map (some b)) y z; pure .skip) e.w (fun _ w' => ∃ e' : Env, e'.w = w' ∧ OSim T c e' (upd of id (some (.sm kt st el (setS kv x q es) none))) ∧ e.le e' ∧ ∀ j, e'.U j → e.U j) := by
  obtain ⟨u1, u2, hks, hz, hz3, _⟩ := sm_ok h hof
  have hg : (getObj b).run P e.w = .ok (.map ms clock) e.w := MapKept.run_getObj_map v4
  have hck : ∀ em, (Instr.checkKey em 10000 kt y).run P e.w = .ok () e.w := fun em => run_checkKey_V hT em e.w EQD kt 9992 kv y hf hkey
  have hset : ∀ o, (setObj b o).run P e.w = .ok () { e.w with heap := e.w.heap.setIfInBounds b o } := fun o => MapKept.run_setObj_map o v4
  have hids : (of id).isSome := by rw [hof]; rfl
  have hnb : ∀ b', e.G b b' → b' ≠ b := fun b' hG q => h.g.sep _ _ hG _ _ _ hids v3 q.symm
  have oth : ∀ (o : Go.Obj) (k : Nat), k ≠ b → ({ e.w with heap := e.w.heap.setIfInBounds b o } : World).heap[k]? = e.w.heap[k]? := fun o k hk => by simp [Ne.symm hk]
  have hkp : ∀ {cs : List Nat} (o : Go.Obj), ∀ b' ∈ cs, e.G b b' → ({ e with w := { e.w with heap := e.w.heap.setIfInBounds b o } } : Env).G b b' ∧ ({ e.w with heap := e.w.heap.setIfInBounds b o } : World).heap[b']? = e.w.heap[b']? ∧ ∀ i, ({ e with w := { e.w with heap := e.w.heap.setIfInBounds b o } } : Env).S b' i → e.S b' i := fun o b' _ hG => ⟨hG, oth o b' (hnb b' hG), fun _ hs => hs⟩
  rcases g with ⟨g1, g2, g3⟩ | ⟨i, me, xv, q0, g1, hm1, hm2, g2, g3, g4⟩
  · obtain ⟨q1, q2⟩ := h.writeM hof v3 v4 (ms' := ms.push { key := y, val := z, born := clock }) (cl' := clock + 1) rfl (o' := .sm kt st el (setS kv x q es) none) (fun hle hh => by
      have hr : SR T e b kt st el none es' ms.toList bs := v7.rho (fun p hp hq => by
        rcases hho with rfl | rfl
        · cases hq
        · injection hq with hq; exact g3 p hp hq.symm)
      obtain ⟨bs', r1, _⟩ := (hr.keep' hle (hkp _)).snoc (hent _ hle (oth _) clock) hd
      refine ⟨u1, u2, hks, hz, hz3, b, _, _, v3, hh, ⟨setS_nodup v5, vb.push⟩, es' ++ [(kv, x, q)], bs', ?_, ?_⟩
      · have : delS kv es = es := by rw [delS_filter]; exact filterS_none (fun p hp => g3 p (v6.mem_iff.2 hp))
        rw [setS, this]
        exact (List.perm_append_singleton _ _).trans (v6.cons _)
      · rw [Array.toList_push]; exact r1)
    refine .inr (.inl ⟨_, ?_, ⟨_, rfl, q1, q2, fun j hj => hj⟩⟩)
    simp [Instr.mapUpdate, run_under hu, hg, hck, g1, hset]
  · obtain ⟨b1, cs, k1, k2, k3, k4⟩ := v7.pull hm2 hm1
    have hkeq : me.key = y := (rep_key hf hkey).2 _ k1.key
    have hj : ms[i]? = some me := by simpa using hm1
    obtain ⟨q1, q2⟩ := h.writeM hof v3 v4 (ms' := ms.modify i fun e => { e with key := y, val := z }) (cl' := clock) rfl (o' := .sm kt st el (setS kv x q es) none) (fun hle hh => by
      have hr : SR T e b kt st el none (es'.eraseIdx i) (ms.toList.eraseIdx i) cs := k2.rho (fun p hp hq => by
        rcases hho with rfl | rfl
        · cases hq
        · injection hq with hq; exact nodup_erase v8 hm2 p hp hq.symm)
      obtain ⟨bs', r1, _⟩ := SR.putAt hm2 hm1 (hr.keep' hle (hkp _)) (hent _ hle (oth _) me.born) (fun b' hb hc => hd b' hb (k4 b' (.inr hc)))
      refine ⟨u1, u2, hks, hz, hz3, b, _, _, v3, hh, ⟨setS_nodup v5, vb.mod (fun _ => rfl)⟩, es'.set i (kv, x, q), bs', ?_, ?_⟩
      · refine (setS_perm hm2).trans (List.Perm.cons _ ?_)
        rw [delS_filter, ← filterS_erase v8 hm2]
        exact v6.filter _
      · rw [modify_toList hm1]; exact r1)
    have hst : (Instr.keyThatStays y y).run P e.w = .ok y e.w := run_stays (rep_key hf hkey).1 e.w
    refine .inr (.inl ⟨_, ?_, ⟨_, rfl, q1, q2, fun j hj => hj⟩⟩)
    simp [Instr.mapUpdate, run_under hu, hg, hck, g1, hj, hkeq, hst, hset]
def hoOK : Option V → V → Bool
  | none, _ => true
  | some k, kv => veq k kv
theorem hoOK_spec {kv : V} (h : hoOK ho kv = true) : ho = none ∨ ho = some kv := by
  cases ho with
  | none => exact .inl rfl
  | some k => exact .inr (by rw [(veq_iff _ _).1 h])
def putS (T : TT) (of : Nat → Option Ob) (t : Nat) (k v : A) (q : Nat × Nat × Nat × Nat × List (V × V × Bool) × Option V) : Option (List (Nat × Ob) × List Nat) :=
  match kOf T t with
  | some (.map kt et) => match keyV T kt k with
    | some kv => if Nat.beq kt q.2.1 && Nat.beq et q.2.2.1 then (if hoOK q.2.2.2.2.2 kv then (match v with
        | .o rid ver => match of rid with
          | some (.row el v' xs false sh) => if Nat.beq el q.2.2.2.1 && Nat.beq v' ver then some ([(rid, .row el (ver + 1) [] true false), (q.1, .sm q.2.1 q.2.2.1 q.2.2.2.1 (setS kv (.l xs) true q.2.2.2.2.1) none)], [q.1, rid]) else none
          | _ => none
        | v => match toV T DEP of et v with
          | some (x, wo) => if !(ids wo).contains q.1 then some (wo ++ [(q.1, .sm q.2.1 q.2.2.1 q.2.2.2.1 (setS kv x false q.2.2.2.2.1) none)], q.1 :: ids wo) else none
          | none => none) else none) else none
    | none => none
  | _ => none
def Env.lose (e : Env) (id ver : Nat) : Env := { e with ι := upd e.ι id none, bn := upd e.bn id ver, ln := upd e.ln id 0 }
theorem OSim.lose (h : OSim T c e of) {id el ver : Nat} {xs : List V} {nl sh : Bool} (hof : of id = some (.row el ver xs nl sh)) : e.le (e.lose id (ver + 1)) ∧ OSim T c (e.lose id (ver + 1)) (upd of id (some (.row el (ver + 1) [] true false))) := by
  obtain ⟨r1, r2, r3, r4, r5, r6, _⟩ := row_ok h hof
  have hle : e.le (e.lose id (ver + 1)) := le_turned (w := e.w) (p := none) (ln := 0) (by omega) (by omega) (fun _ _ _ _ hx => hx) (fun _ _ => rfl) (fun j b o hj hb => h.lt _ _ _ hj hb) (Nat.le_refl _)
  refine ⟨hle, h.turn hof hle (fun _ hj => upd_ne _ _ hj) (fun _ hj => upd_ne _ _ hj) (fun _ hj => hj) (fun _ _ _ => rfl) (Nat.le_refl _) (fun _ _ hs => .inl hs) (fun b q hb => ?_) rfl rfl rfl ?_⟩
  · have : (none : Option (Nat × Nat)) = some (b, q) := by rw [← hb]; exact (upd_same _ _ _).symm
    cases this
  · exact ⟨r1, Nat.succ_pos _, upd_same _ _ _, r4, upd_same _ _ _, r6, .inl ⟨rfl, upd_same _ _ _, rfl⟩⟩
def Env.keepG (e : Env) (a b : Nat) : Env := { e with G := fun a' b' => e.G a' b' ∨ (a' = a ∧ b' = b) }
theorem le_keepG (e : Env) (a b : Nat) : e.le (e.keepG a b) := ⟨fun _ _ h => ⟨h, fun _ hx => hx⟩, fun _ h => h, fun _ _ _ => ⟨rfl, rfl, fun _ _ _ => rfl⟩, fun _ _ h => h, fun _ _ => Nat.le_refl _, fun _ _ => rfl, Nat.le_refl _, fun _ _ => rfl⟩
theorem OSim.keepG (h : OSim T c e of) {a b : Nat} (h1 : ∀ j b' o, (of j).isSome → e.ι j = some (b', o) → b' ≠ b) (h2 : ∀ a', ¬ e.G a' b) (h3 : c.w0.heap.size ≤ b ∨ c.M b) (h4 : b < e.w.heap.size) : OSim T c (e.keepG a b) of := by
  refine ⟨fun j o hj => (h.ok j o hj).keep (le_keepG e a b) rfl (fun _ _ _ => rfl) (fun _ _ _ _ hs => hs) (fun _ _ _ _ hG => ⟨.inl hG, rfl, fun _ hs => hs⟩), h.sep, h.own, h.lt, h.slt, h.s0, h.snew, h.os, h.tape, h.output, h.size, h.block, ⟨fun a' b' hg j b1 o hj hb => ?_, fun a1 a2 b' g1 g2 => ?_, fun a' b' hg => ?_, fun a' b' hg => ?_⟩⟩
  · rcases hg with hg | ⟨_, rfl⟩
    · exact h.g.sep _ _ hg _ _ _ hj hb
    · exact h1 _ _ _ hj hb
  · rcases g1 with g1 | ⟨rfl, rfl⟩
    · rcases g2 with g2 | ⟨rfl, rfl⟩
      · exact h.g.uniq _ _ _ g1 g2
      · exact absurd g1 (h2 _)
    · rcases g2 with g2 | ⟨rfl, _⟩
      · exact absurd g2 (h2 _)
      · rfl
  · rcases hg with hg | ⟨_, rfl⟩
    · exact h.g.own _ _ hg
    · exact h3
  · rcases hg with hg | ⟨_, rfl⟩
    · exact h.g.lt _ _ hg
    · exact h4
theorem putS_ok (hT : TOK T P) {of' : Nat → Option Ob} {id t : Nat} {k v : A} {x y z : Value} {wo : List (Nat × Ob)} {ro : List Nat} (h : OSim T c e of') (hr : putS T of t k v (id, kt, st, el, es, ho) = some (wo, ro)) (hof : of id = some (.sm kt st el es ho)) (hoo : ∀ id ∈ ro, of' id = of id) (hx : Rep T e (.m id) x) (hy : Rep T e k y) (hz : Rep T e v z) :
    Does P (do Instr.mapUpdate t x y z; pure .skip) e.w (Left T c e of' ⟨.x, wo, ro, []⟩) := by
  unfold putS at hr
  split at hr <;> try (cases hr; done)
  rename_i kt' et hk
  obtain ⟨tem, h1, h2⟩ := kOf_some hk
  have hu := under_map (hT _ _ h1) h2
  split at hr <;> try (cases hr; done)
  rename_i kv hkv
  obtain ⟨hf, hkey⟩ := keyV_ok hkv hy
  split at hr <;> try (cases hr; done)
  rename_i hc
  simp only [Bool.and_eq_true] at hc
  have := Nat.eq_of_beq_eq_true hc.1; subst this
  have := Nat.eq_of_beq_eq_true hc.2; subst this
  split at hr <;> try (cases hr; done)
  rename_i hho
  have hho := hoOK_spec hho
  split at hr
  · rename_i rid ver
    split at hr <;> try (cases hr; done)
    rename_i el' v' xs sh hrow
    split at hr <;> try (cases hr; done)
    rename_i hc2
    simp only [Bool.and_eq_true] at hc2
    have := Nat.eq_of_beq_eq_true hc2.1; subst this
    have := Nat.eq_of_beq_eq_true hc2.2; subst this
    injection hr with hr; injection hr with e1 e2; subst e1; subst e2
    have hrow' := (hoo rid (by simp)).trans hrow
    have hof' := (hoo id (by simp)).trans hof
    obtain ⟨r1, r2, r3, r4, r5, r6, r7⟩ := row_ok h hrow'
    rcases r7 with ⟨q, _⟩ | ⟨_, bb, o, cells, t', fz, pre, ys, post, j1, j2, j3, j4, j5, j6, j7, j8⟩
    · cases q
    · have hne : id ≠ rid := fun q => by subst q; rw [hof'] at hrow'; cases hrow'
      obtain ⟨hle1, s1⟩ := h.lose hrow'
      have hof1 : upd of' rid (some (.row el' (v' + 1) [] true false)) id = some (.sm kt' et el' es ho) := by rw [upd_ne _ _ hne]; exact hof'
      obtain ⟨b, ms, clock, es', bs, v3, v4, vb, v6, v5, v8, v7, g⟩ := sm_find hT s1 hof1 hf (hkey.mono hle1)
      have hrs : (of' rid).isSome := by rw [hrow']; rfl
      have hnoG : ∀ a', ¬ (e.lose rid (v' + 1)).G a' bb := fun a' hG => h.g.sep _ _ hG _ _ _ hrs j1 rfl
      have s2 := s1.keepG (a := b) (b := bb) (fun j b' o' hj hb => by
          have hjr : j ≠ rid := fun q => by
            subst q
            have : (none : Option (Nat × Nat)) = some (b', o') := by rw [← hb]; exact (upd_same _ _ _).symm
            cases this
          have hb' : e.ι j = some (b', o') := by rw [← hb]; exact (upd_ne _ _ hjr).symm
          have hj' : (of' j).isSome := by rw [upd_ne _ _ hjr] at hj; exact hj
          exact h.sep _ _ _ _ _ _ hj' hrs hb' j1 hjr) hnoG (h.own _ _ _ hrs j1) (h.lt _ _ _ r1 j1)
      have hle2 := hle1.trans (le_keepG (e.lose rid (v' + 1)) b bb)
      have v3' : e.ι id = some (b, 0) := by rw [← v3]; exact (upd_ne _ _ hne).symm
      have hbb : bb ≠ b := fun q => h.sep _ _ _ _ _ _ (by rw [hof']; rfl) hrs v3' j1 hne q.symm
      obtain ⟨b', _, _, u3, rfl⟩ := rep_m_inv hx
      rw [v3'] at u3; cases u3
      have v7' := v7.keep' (le_keepG (e.lose rid (v' + 1)) b bb) (fun b' _ hG => ⟨.inl hG, rfl, fun _ hs => hs⟩)
      have main := sm_put (x := .l xs) (q := true) (bs0 := [bb]) (y := y) (z := z) hT hu s2 hof1 hf (hkey.mono hle2) hho v3 v4 vb v6 v5 v8 v7' g (fun b' hb' hc => by
          simp only [List.mem_singleton] at hb'; subst hb'
          exact hnoG b (v7.inG _ hc)) (fun w' hle hw n => by
          rcases rep_o_inv hz r3 with ⟨q, _⟩ | ⟨b2, o2, cap, kk, k1, k2, k3, k4, k5⟩
          · rw [j1] at q; cases q
          · rw [j1] at k1; cases k1
            rw [r5] at k2 k5; rw [r4] at k3
            have hh : w'.heap[bb]? = some (.cells cells t' fz) := (hw bb hbb).trans j2
            refine .own ((hkey.mono hle2).mono hle) k5 k4 (.inr ⟨rfl, rfl⟩) hh (free_heap j3 (hw bb hbb)) j4 j5 ((j6.mono hle2).mono hle) k2 ?_ j7
            rw [k3]; simp [blen, j2])
      refine does_mono main ?_
      rintro u w' ⟨e', p1, p2, p3, p4⟩
      exact ⟨e', p1, p2, hle2.trans p3, fun j hj => .inl (p4 j hj), trivial⟩
  · split at hr <;> try (cases hr; done)
    rename_i xv w1 hxv
    split at hr <;> try (cases hr; done)
    rename_i hc4
    simp only [Bool.not_eq_true'] at hc4
    injection hr with hr; injection hr with hr1 hr2; subst hr1; subst hr2
    have hnin : id ∉ ids w1 := fun hin => by
      have : (ids w1).contains id = true := List.contains_iff_mem.2 hin
      rw [this] at hc4; cases hc4
    have hof' := (hoo id (by simp)).trans hof
    have hxv' := (toV_congr (T := T) DEP).1 of of' _ _ _ _ hxv (fun j hj => hoo j (by simp [hj]))
    obtain ⟨e1, a1, a2, a3, a4, a5⟩ := toV_spec h hxv' hz
    have hp1 : put of' w1 id = some (.sm kt' et el es ho) := by rw [put_notin hnin]; exact hof'
    obtain ⟨b, ms, clock, es', bs, v3, v4, vb, v6, v5, v8, v7, g⟩ := sm_find hT a2 hp1 hf (hkey.mono a3)
    obtain ⟨_, _, hks, hz1, _, _⟩ := sm_ok a2 hp1
    obtain ⟨b', _, _, u3, rfl⟩ := rep_m_inv (hx.mono a3)
    rw [v3] at u3; cases u3
    have hone : z.cells.toList = [z] := by
      have : RV T e1 [et] [xv] z.cells.toList := a5
      cases hzz : z with
      | agg cs => 
        exfalso
        have hag := (toV_agg hxv' hz).2 ⟨cs, hzz⟩
        obtain ⟨k', hk', ha'⟩ := hag
        rw [hks] at hk'; cases hk'; cases ha'
      | tuple cs =>
        have := a5.one (.tuple cs) (by rw [hzz]; exact List.mem_singleton_self _)
        cases this
      | _ => rfl
    have main := sm_put (x := xv) (q := false) (bs0 := []) (y := y) (z := z) hT hu a2 hp1 hf (hkey.mono a3) hho v3 v4 vb v6 v5 v8 v7 g (fun b' hb' => by cases hb') (fun w' hle hw n => .data ((hkey.mono a3).mono hle) (by
        have := a5.mono hle
        rw [hone] at this; exact this))
    rw [a1] at main
    refine does_mono main ?_
    rintro u w' ⟨e', p1, p2, p3, p4⟩
    refine ⟨e', p1, ?_, a3.trans p3, fun j hj => .inl (a4 j (p4 j hj)), trivial⟩
    show OSim T c e' (put of' (w1 ++ [(id, _)]))
    rw [put_append]
    exact p2
end Go.Vm

namespace Go.Vm
open Go.RowKit
variable {P : Program} {T : TT} {c : Ctx} {e : Env} {of : Nat → Option Ob}
variable {a kt st el : Nat} {ho : Option V} {es : List (V × V × Bool)}
def dropS (T : TT) (t : Nat) (k : A) (q : Nat × Nat × Nat × Nat × List (V × V × Bool) × Option V) : Option (List (Nat × Ob) × List Nat) :=
  match kOf T t with
  | some (.map kt et) => match keyV T kt k with
    | some kv => if Nat.beq kt q.2.1 && Nat.beq et q.2.2.1 then some ([(q.1, .sm q.2.1 q.2.2.1 q.2.2.2.1 (delS kv q.2.2.2.2.1) q.2.2.2.2.2)], [q.1]) else none
    | none => none
  | _ => none
theorem dropS_ok (hT : TOK T P) {of' : Nat → Option Ob} {id t kt0 ty : TypeId} {k : A} {x y : Value} {wo : List (Nat × Ob)} {ro : List Nat} (h : OSim T c e of') (hr : dropS T t k (id, kt, st, el, es, ho) = some (wo, ro)) (hof : of id = some (.sm kt st el es ho)) (hoo : ∀ id ∈ ro, of' id = of id) (hx : Rep T e (.m id) x) (hy : Rep T e k y) :
    Does P (do pure (.value (← Builtin.delete_ #[t, kt0] ty #[x, y]))) e.w (Left T c e of' ⟨.x, wo, ro, []⟩) := by
  unfold dropS at hr
  split at hr <;> try (cases hr; done)
  rename_i kt' et hk
  obtain ⟨tem, h1, h2⟩ := kOf_some hk
  have hu := under_map (hT _ _ h1) h2
  split at hr <;> try (cases hr; done)
  rename_i kv hkv
  obtain ⟨hf, hkey⟩ := keyV_ok hkv hy
  split at hr <;> try (cases hr; done)
  rename_i hc
  simp only [Bool.and_eq_true] at hc
  have := Nat.eq_of_beq_eq_true hc.1; subst this
  have := Nat.eq_of_beq_eq_true hc.2; subst this
  injection hr with hr; injection hr with e1 e2; subst e1; subst e2
  have hof' := (hoo id (by simp)).trans hof
  obtain ⟨u1, u2, hks, hz, hz3, _⟩ := sm_ok h hof'
  obtain ⟨b, ms, clock, es', bs, v3, v4, vb, v6, v5, v8, v7, g⟩ := sm_find hT h hof' hf hkey
  obtain ⟨b', _, _, u3, rfl⟩ := rep_m_inv hx
  rw [v3] at u3; cases u3
  have hg : (getObj b).run P e.w = .ok (.map ms clock) e.w := MapKept.run_getObj_map v4
  have hck : ∀ em, (Instr.checkKey em 10000 kt' y).run P e.w = .ok () e.w := fun em => run_checkKey_V hT em e.w EQD kt' 9992 kv y hf hkey
  have hset : ∀ o, (setObj b o).run P e.w = .ok () { e.w with heap := e.w.heap.setIfInBounds b o } := fun o => MapKept.run_setObj_map o v4
  have hids : (of' id).isSome := by rw [hof']; rfl
  have hnb : ∀ b', e.G b b' → b' ≠ b := fun b' hG q => h.g.sep _ _ hG _ _ _ hids v3 q.symm
  have oth : ∀ (o : Go.Obj) (k : Nat), k ≠ b → ({ e.w with heap := e.w.heap.setIfInBounds b o } : World).heap[k]? = e.w.heap[k]? := fun o k hk => by simp [Ne.symm hk]
  have hkp : ∀ {cs : List Nat} (o : Go.Obj), ∀ b' ∈ cs, e.G b b' → ({ e with w := { e.w with heap := e.w.heap.setIfInBounds b o } } : Env).G b b' ∧ ({ e.w with heap := e.w.heap.setIfInBounds b o } : World).heap[b']? = e.w.heap[b']? ∧ ∀ i, ({ e with w := { e.w with heap := e.w.heap.setIfInBounds b o } } : Env).S b' i → e.S b' i := fun o b' _ hG => ⟨hG, oth o b' (hnb b' hG), fun _ hs => hs⟩
  rcases g with ⟨g1, g2, g3⟩ | ⟨i, me, xv, q0, g1, hm1, hm2, g2, g3, g4⟩
  · obtain ⟨q1, q2⟩ := h.writeM hof' v3 v4 (ms' := ms) (cl' := clock) rfl (o' := .sm kt' et el (delS kv es) ho) (fun hle hh =>
      ⟨u1, u2, hks, hz, hz3, b, _, _, v3, hh, ⟨delS_nodup v5, vb⟩, es', bs, by rw [delS_filter, filterS_none (fun p hp => g3 p (v6.mem_iff.2 hp))]; exact v6, v7.keep' hle (hkp _)⟩)
    refine does_value (x := .tuple #[]) ?_ ⟨_, rfl, q1, q2, fun j hj => .inl hj, trivial⟩
    simp [Builtin.delete_, run_under hu, hg, hck, g1, hset]
  · obtain ⟨b1, cs, k1, k2, k3, k4⟩ := v7.pull hm2 hm1
    obtain ⟨q1, q2⟩ := h.writeM hof' v3 v4 (ms' := ms.eraseIdxIfInBounds i) (cl' := clock) rfl (o' := .sm kt' et el (delS kv es) ho) (fun hle hh =>
      ⟨u1, u2, hks, hz, hz3, b, _, _, v3, hh, ⟨delS_nodup v5, vb.erase i⟩, es'.eraseIdx i, cs, by rw [delS_filter, ← filterS_erase v8 hm2]; exact v6.filter _, by
        rw [erase_toList hm1]
        exact k2.keep' hle (hkp _)⟩)
    refine does_value (x := .tuple #[]) ?_ ⟨_, rfl, q1, q2, fun j hj => .inl hj, trivial⟩
    simp [Builtin.delete_, run_under hu, hg, hck, g1, hset]
theorem SR.length {bs : List Nat} {ms : List MapEntry} (h : SR T e a kt st el ho es ms bs) : es.length = ms.length := by
  induction h with
  | nil => rfl
  | cons _ _ _ ih => simp [ih]
def lenS (T : TT) (t : Nat) (q : Nat × Nat × Nat × Nat × List (V × V × Bool) × Option V) : Option (A × List Nat) :=
  match kOf T t with
  | some (.map _ _) => if Nat.ble q.2.2.2.2.1.length 9223372036854775807 then some (.i .i64 (q.2.2.2.2.1.length : Nat), [q.1]) else none
  | _ => none
theorem lenS_ok (hT : TOK T P) {of' : Nat → Option Ob} {id t ty : TypeId} {r : A} {x : Value} {ro : List Nat} (h : OSim T c e of') (hr : lenS T t (id, kt, st, el, es, ho) = some (r, ro)) (hof : of id = some (.sm kt st el es ho)) (hoo : ∀ id ∈ ro, of' id = of id) (hx : Rep T e (.m id) x) :
    Does P (do pure (.value (← Builtin.len_ #[t] ty #[x]))) e.w (Left T c e of' ⟨r, [], ro, []⟩) := by
  unfold lenS at hr
  split at hr <;> try (cases hr; done)
  rename_i kt' et hk
  obtain ⟨tem, h1, h2⟩ := kOf_some hk
  have hu := under_map (hT _ _ h1) h2
  split at hr <;> try (cases hr; done)
  rename_i hl
  injection hr with hr; injection hr with e1 e2; subst e1; subst e2
  have hof' := (hoo id (by simp)).trans hof
  obtain ⟨u1, u2, hks, hz, hz3, b, ms, clock, v3, v4, v5, es', bs, v6, v7⟩ := sm_ok h hof'
  obtain ⟨b', _, _, u3, rfl⟩ := rep_m_inv hx
  rw [v3] at u3; cases u3
  have hlen : ms.size = es.length := by rw [← v6.length_eq, v7.length, Array.length_toList]
  have hg : (getObj b).run P e.w = .ok (.map ms clock) e.w := MapKept.run_getObj_map v4
  refine does_value (x := .int .i64 ms.size) (w' := e.w) (by simp [Builtin.len_, run_under hu, goInt, hg]) ?_
  rw [hlen]
  exact left_same h (rep_i (len_rng hl))
def lendP (pos : String) : Bool := pos == "naming.go:22" || pos == "naming.go:190"
def lookG (T : TT) (lend : Bool) (nx : Nat) (of : Nat → Option Ob) (t : Nat) (m k : A) (ok : Bool) : Option Out :=
  match smOf of m with
  | some q => bif lend && !ok then lendS T nx t k q else (match seekS T t k ok q with
    | some (v, ro) => some ⟨v, [], ro, []⟩
    | none => none)
  | none => match lookB T of t m k ok with
    | some (v, ro) => some ⟨v, [], ro, []⟩
    | none => none
theorem lookG_ok (hT : TOK T P) {of' : Nat → Option Ob} {nx t : Nat} {m k : A} {x y : Value} {lend ok : Bool} {out : Out} (h : OSim T c e of') (hr : lookG T lend nx of t m k ok = some out) (ho : ∀ id ∈ out.ro, of' id = of id) (hu : ∀ id ∈ out.nw, ¬ e.U id) (hx : Rep T e m x) (hy : Rep T e k y) :
    Does P (do pure (.value (← Instr.lookup t x y ok))) e.w (Left T c e of' out) := by
  unfold lookG at hr
  split at hr
  · rename_i q hq
    obtain ⟨id, kt, st, el, es, ho'⟩ := q
    obtain ⟨rfl, hof⟩ := smOf_spec hq
    cases hl : lend && !ok with
    | true =>
      rw [hl] at hr
      simp only [cond_true] at hr
      simp only [Bool.and_eq_true, Bool.not_eq_true'] at hl
      obtain ⟨_, rfl⟩ := hl
      have hid : id ∈ out.ro := by
        unfold lendS at hr
        (repeat' split at hr) <;> first | (cases hr; done) | (injection hr with hr; subst hr; simp)
      exact lendS_ok hT h hr ((ho id hid).trans hof) hu hx hy
    | false =>
      rw [hl] at hr
      simp only [cond_false] at hr
      split at hr <;> try (cases hr; done)
      rename_i v ro hv
      injection hr with hr; subst hr
      have hid : id ∈ ro := by
        unfold seekS at hv
        (repeat' split at hv) <;> first | (cases hv; done) | (injection hv with hv; injection hv with _ hv; subst hv; simp)
      exact seekS_ok hT h hv ((ho id hid).trans hof) hx hy
  · split at hr <;> try (cases hr; done)
    rename_i v ro hv
    injection hr with hr; subst hr
    exact lookB_ok hT h hv ho hx hy
def updG (T : TT) (of : Nat → Option Ob) (t : Nat) (m k v : A) : Option (List (Nat × Ob) × List Nat) :=
  match smOf of m with
  | some q => putS T of t k v q
  | none => updB T of t m k v
theorem updG_ok (hT : TOK T P) {of' : Nat → Option Ob} {t : Nat} {m k v : A} {x y z : Value} {wo : List (Nat × Ob)} {ro : List Nat} (h : OSim T c e of') (hr : updG T of t m k v = some (wo, ro)) (ho : ∀ id ∈ ro, of' id = of id) (hx : Rep T e m x) (hy : Rep T e k y) (hz : Rep T e v z) :
    Does P (do Instr.mapUpdate t x y z; pure .skip) e.w (Left T c e of' ⟨.x, wo, ro, []⟩) := by
  unfold updG at hr
  split at hr
  · rename_i q hq
    obtain ⟨id, kt, st, el, es, ho'⟩ := q
    obtain ⟨rfl, hof⟩ := smOf_spec hq
    exact putS_ok hT h hr hof ho hx hy hz
  · exact updB_ok hT h hr ho hx hy hz
def dropG (T : TT) (of : Nat → Option Ob) (t : Nat) (m k : A) : Option (List (Nat × Ob) × List Nat) :=
  match smOf of m with
  | some q => dropS T t k q
  | none => dropB T of t m k
theorem dropG_ok (hT : TOK T P) {of' : Nat → Option Ob} {t kt0 ty : TypeId} {m k : A} {x y : Value} {wo : List (Nat × Ob)} {ro : List Nat} (h : OSim T c e of') (hr : dropG T of t m k = some (wo, ro)) (ho : ∀ id ∈ ro, of' id = of id) (hx : Rep T e m x) (hy : Rep T e k y) :
    Does P (do pure (.value (← Builtin.delete_ #[t, kt0] ty #[x, y]))) e.w (Left T c e of' ⟨.x, wo, ro, []⟩) := by
  unfold dropG at hr
  split at hr
  · rename_i q hq
    obtain ⟨id, kt, st, el, es, ho'⟩ := q
    obtain ⟨rfl, hof⟩ := smOf_spec hq
    exact dropS_ok hT h hr hof ho hx hy
  · exact dropB_ok hT h hr ho hx hy
def lenG (T : TT) (of : Nat → Option Ob) (t : Nat) (u : A) : Option (A × List Nat) :=
  match smOf of u with
  | some q => lenS T t q
  | none => lenB T of t u
theorem lenG_ok (hT : TOK T P) {of' : Nat → Option Ob} {t ty : TypeId} {u r : A} {x : Value} {ro : List Nat} (h : OSim T c e of') (hr : lenG T of t u = some (r, ro)) (ho : ∀ id ∈ ro, of' id = of id) (hx : Rep T e u x) :
    Does P (do pure (.value (← Builtin.len_ #[t] ty #[x]))) e.w (Left T c e of' ⟨r, [], ro, []⟩) := by
  unfold lenG at hr
  split at hr
  · rename_i q hq
    obtain ⟨id, kt, st, el, es, ho'⟩ := q
    obtain ⟨rfl, hof⟩ := smOf_spec hq
    exact lenS_ok hT h hr hof ho hx
  · exact lenB_ok hT h hr ho hx
def newMapG (T : TT) (kt et : Nat) : Ob :=
  match kOf T et with
  | some (.slice el) => bif dataT T 8 el && Nat.beq (szT T et) 1 && Nat.blt 0 (szT T el) then .sm kt et el [] none else newMap T kt et
  | _ => newMap T kt et
theorem law_newMapG {t kt et id : Nat} (h : OSim T c e of) (ht : P.underlying t = some (.map kt et)) (hu : ¬ e.U id) {r : Option Value} (hr : r = none ∨ ∃ k n, r = some (.int k n)) {ro : List Nat} :
    Does P (do pure (.value (← Instr.makeMap t r))) e.w (Left T c e of ⟨.m id, [(id, newMapG T kt et)], ro, [id]⟩) := by
  unfold newMapG
  split
  · rename_i el hk
    cases hc : dataT T 8 el && Nat.beq (szT T et) 1 && Nat.blt 0 (szT T el) with
    | false => exact law_newMap h ht hu hr
    | true =>
      simp only [Bool.and_eq_true] at hc
      have hrun : (Instr.makeMap t r).run P e.w = .ok (.map (some e.w.heap.size)) (e.w.alloc (.map #[] 0)) := by
        rcases hr with rfl | ⟨k, n, rfl⟩
        · simp [Instr.makeMap]
        · simp [Instr.makeMap, run_under ht, asInt, asIntOf]
      have hok : OK T (e.newM id (.map #[] 0)) id (.sm kt et el [] none) :=
        ⟨.inl rfl, upd_same _ _ _, hk, Nat.eq_of_beq_eq_true hc.1.2, by simpa [Nat.blt_eq] using hc.2, e.w.heap.size, #[], 0, upd_same _ _ _, alloc_new _ _, ⟨List.nodup_nil, stB_nil⟩, [], [], List.Perm.refl _, .nil⟩
      refine does_value hrun ⟨e.newM id (.map #[] 0), rfl, h.newM hu hok, h.le_newM hu _, fun j hj => hj.elim (fun q => .inr (by simp [q])) .inl, ?_⟩
      exact RA.r ⟨e.w.heap.size, .inl rfl, upd_same _ _ _, upd_same _ _ _, rfl⟩ rfl .nil
  · exact law_newMap h ht hu hr
end Go.Vm

namespace Go.Vm
open Go.RowKit
variable {P : Program} {T : TT} {c : Ctx} {e : Env} {of : Nat → Option Ob}
structure Eff where
  val : A
  wo : List (Nat × Ob)
  ro : List Nat
  nx : Nat
def LeftN (T : TT) (c : Ctx) (e : Env) (of : Nat → Option Ob) (nx : Nat) (f : Eff) (x : Value) (w' : World) : Prop :=
  ∃ e' : Env, e'.w = w' ∧ OSim T c e' (put of f.wo) ∧ e.le e' ∧ (∀ id, e'.U id → e.U id ∨ (nx ≤ id ∧ id < f.nx)) ∧ Rep T e' f.val x
inductive Reps (T : TT) (e : Env) : List A → List Value → Prop
  | nil : Reps T e [] []
  | cons {v x r s} : Rep T e v x → Reps T e r s → Reps T e (v :: r) (x :: s)
abbrev Sym := List A → (Nat → Option Ob) → Nat → Option Eff
def SymOK (P : Program) (T : TT) (f : FuncId) (s : Sym) : Prop :=
  ∀ (c : Ctx) (e : Env) (of of' : Nat → Option Ob) (args : List A) (vals : Array Value) (nx : Nat) (out : Eff), OSim T c e of' → s args of nx = some out → (∀ id ∈ out.ro, of' id = of id) → (∀ id, nx ≤ id → id < out.nx → ¬ e.U id) → Reps T e args vals.toList →
    Does P (callFunc f vals) e.w (LeftN T c e of' nx out)
def Eff.pv (nx : Nat) (v : A) (ro : List Nat) : Eff := ⟨v, [], ro, nx⟩
def lift (nx : Nat) (o : Option Out) : Option Eff :=
  match o with
  | some ⟨v, wo, ro, nw⟩ => match nw with
    | [] => some ⟨v, wo, ro, nx⟩
    | [k] => if Nat.beq k nx then some ⟨v, wo, ro, nx + 1⟩ else none
    | _ => none
  | none => none
theorem lift_spec {nx : Nat} {o : Option Out} {f : Eff} (h : lift nx o = some f) : ∃ out, o = some out ∧ f.ro = out.ro ∧ (∀ id ∈ out.nw, nx ≤ id ∧ id < f.nx) ∧ (∀ {c : Ctx} {e : Env} {of : Nat → Option Ob} {x w'}, Left T c e of out x w' → LeftN T c e of nx f x w') := by
  unfold lift at h
  split at h <;> try (cases h; done)
  rename_i v wo ro nw
  split at h
  · injection h with h; subst h
    refine ⟨_, rfl, rfl, ?_, ?_⟩
    · intro id hid; cases hid
    · rintro c e of x w' ⟨e', p1, p2, p3, p4, p5⟩
      exact ⟨e', p1, p2, p3, fun id hid => (p4 id hid).elim .inl (fun q => by cases q), p5⟩
  · rename_i k
    split at h <;> try (cases h; done)
    rename_i hk
    have := Nat.eq_of_beq_eq_true hk; subst this
    injection h with h; subst h
    refine ⟨_, rfl, rfl, ?_, ?_⟩
    · intro id hid
      simp only [List.mem_singleton] at hid; subst hid; exact ⟨Nat.le_refl _, Nat.lt_succ_self _⟩
    · rintro c e of x w' ⟨e', p1, p2, p3, p4, p5⟩
      refine ⟨e', p1, p2, p3, fun id hid => (p4 id hid).imp (fun q => q) (fun q => ?_), p5⟩
      simp only [List.mem_singleton] at q; subst q; exact ⟨Nat.le_refl _, Nat.lt_succ_self _⟩
  · cases h
theorem pv_left {nx : Nat} {v : A} {ro : List Nat} {x : Value} {w' : World} (h : Left T c e of ⟨v, [], ro, []⟩ x w') : LeftN T c e of nx (.pv nx v ro) x w' := by
  obtain ⟨e', p1, p2, p3, p4, p5⟩ := h
  exact ⟨e', p1, p2, p3, fun id hid => (p4 id hid).elim .inl (fun q => by cases q), p5⟩
theorem wo_left {nx : Nat} {v : A} {wo : List (Nat × Ob)} {ro : List Nat} {x : Value} {w' : World} (h : Left T c e of ⟨v, wo, ro, []⟩ x w') : LeftN T c e of nx ⟨v, wo, ro, nx⟩ x w' := by
  obtain ⟨e', p1, p2, p3, p4, p5⟩ := h
  exact ⟨e', p1, p2, p3, fun id hid => (p4 id hid).elim .inl (fun q => by cases q), p5⟩
theorem does_pv {s : Sem Next} {w : World} {nx : Nat} {v : A} {ro : List Nat} (h : Does P s w (Left T c e of ⟨v, [], ro, []⟩)) : Does P s w (LeftN T c e of nx (.pv nx v ro)) := does_mono h (fun _ _ => pv_left)
theorem does_wo {s : Sem Next} {w : World} {nx : Nat} {v : A} {wo : List (Nat × Ob)} {ro : List Nat} (h : Does P s w (Left T c e of ⟨v, wo, ro, []⟩)) : Does P s w (LeftN T c e of nx ⟨v, wo, ro, nx⟩) := does_mono h (fun _ _ => wo_left)
theorem OK.sh {id : Nat} {o : Ob} (h : OK T e id o) : OK T e id (shOb o) := by
  cases o with
  | box t a sh =>
    obtain ⟨h1, h2, h2', h2'', b, cs, ty, fz, h3, h4, h5, h5', h6, h7⟩ := h
    exact ⟨h1, h2, h2', h2'', b, cs, ty, fz, h3, h4, h5, h5', h6, fun hh => by cases hh⟩
  | row el ver xs nl sh =>
    obtain ⟨h1, h2, h3, h4, h4', h5, h6⟩ := h
    refine ⟨h1, h2, h3, h4, h4', h5, ?_⟩
    rcases h6 with h6 | ⟨nn, b, o, cs, t, fz, pre, ys, post, g1, g2, g3, g4, g5, g6, g7, g8⟩
    · exact .inl h6
    · exact .inr ⟨nn, b, o, cs, t, fz, pre, ys, post, g1, g2, g3, g4, g5, g6, g7, fun hh => by cases hh⟩
  | map kt et es => exact h
  | vm kt et es => exact h
  | sm _ _ _ _ _ => exact h
  | lp q => exact h
  | it q => exact h
theorem OSim.weak {wo : List (Nat × Ob)} (h : OSim T c e of) (hw : AllSh of wo) : OSim T c e (put of wo) := by
  have key : ∀ id, put of wo id = of id ∨ ∃ o0, of id = some o0 ∧ put of wo id = some (shOb o0) := fun id => (allSh_put wo of of hw id (.inl rfl)).1
  have some' : ∀ id, (put of wo id).isSome → (of id).isSome := fun id hs => by
    rcases key id with k | ⟨o0, k1, k2⟩
    · rw [← k]; exact hs
    · rw [k1]; rfl
  refine ⟨fun id o ho => ?_, fun i j b o b' o' hi hj => h.sep i j b o b' o' (some' _ hi) (some' _ hj), fun i b o hi => h.own i b o (some' _ hi), h.lt, h.slt, h.s0, h.snew, h.os, h.tape, h.output, h.size, h.block, h.g.mono (fun _ _ q => q) rfl (fun _ q => q) (Nat.le_refl _) (fun j b o hj hb => .inl ⟨j, o, some' j hj, hb⟩)⟩
  rcases key id with k | ⟨o0, k1, k2⟩
  · rw [k] at ho; exact h.ok _ _ ho
  · rw [k2] at ho; cases ho; exact (h.ok _ _ k1).sh
def shW (of : Nat → Option Ob) : List Nat → List (Nat × Ob)
  | [] => []
  | id :: r => match of id with
    | some o0 => bif isSh o0 then shW of r else (id, shOb o0) :: shW of r
    | none => shW of r
theorem shW_all {of : Nat → Option Ob} : ∀ l : List Nat, AllSh of (shW of l) ∧ ∀ id ∈ ids (shW of l), id ∈ l := by
  intro l
  induction l with
  | nil => exact ⟨fun p hp => (by cases hp), fun id h => (by cases h)⟩
  | cons k r ih =>
    simp only [shW]
    split
    · rename_i o0 ho0
      cases isSh o0 with
      | true => exact ⟨ih.1, fun id h => List.mem_cons_of_mem _ (ih.2 id h)⟩
      | false =>
        refine ⟨fun p hp => ?_, fun id h => ?_⟩
        · rcases List.mem_cons.1 hp with rfl | hp
          · exact ⟨o0, ho0, rfl⟩
          · exact ih.1 p hp
        · simp only [cond_false, ids, List.map_cons, List.mem_cons] at h
          rcases h with rfl | h
          · exact List.mem_cons_self ..
          · exact List.mem_cons_of_mem _ (ih.2 id h)
    · exact ⟨ih.1, fun id h => List.mem_cons_of_mem _ (ih.2 id h)⟩
def cellA (T : TT) : A → Bool
  | .v t _ => scal T t
  | .g _ _ | .t _ | .x => false
  | _ => true
theorem cell_RA {a : A} {x : Value} (h : Rep T e a x) (hc : cellA T a = true) : RA T e [a] [x] ∧ one x = true := by
  cases a with
  | v t y =>
    simp only [cellA, scal, Bool.and_eq_true] at hc
    have hk : ∃ k, kOf T t = some k ∧ k.agg = false := by
      cases hk : kOf T t with
      | none => rw [hk] at hc; simp at hc
      | some k => rw [hk] at hc; exact ⟨k, rfl, by simpa using hc.1⟩
    have := rv_single h hk
    exact ⟨RA.v1 this, this.one x (by simp)⟩
  | g _ _ => cases hc
  | t _ => cases hc
  | x => cases hc
  | _ => exact ⟨h, RA.one_ h x (by simp)⟩
theorem RA_cell {a : A} {x : Value} (h : RA T e [a] [x]) (hc : cellA T a = true) : Rep T e a x := by
  have ho := RA.one_ h x (by simp)
  cases a with
  | v t y =>
    simp only [cellA, scal, Bool.and_eq_true] at hc
    refine ⟨by rw [cells_one ho]; exact h.v_inv, ⟨fun ⟨k, h1, h2⟩ => ?_, fun ⟨cs, hx⟩ => by subst hx; cases ho⟩⟩
    rw [h1] at hc; simp [h2] at hc
  | g _ _ => cases hc
  | t _ => cases hc
  | x => cases hc
  | _ => exact h
theorem cell_len {a : A} {d : List Value} (h : RA T e [a] d) (hc : cellA T a = true) : ∃ x, d = [x] := by
  cases a with
  | v t y =>
    simp only [cellA] at hc
    have := h.v_inv.one_len
    rw [scal_size hc] at this
    exact List.length_eq_one_iff.1 this
  | g _ _ => cases hc
  | t _ => cases hc
  | x => cases hc
  | _ => exact h.single rfl
theorem reps_RA : ∀ {l : List A} {vs : List Value}, Reps T e l vs → l.all (cellA T) = true → RA T e l vs := by
  intro l vs h
  induction h with
  | nil => intro _; exact .nil
  | @cons v x r s h1 _ ih =>
    intro hc
    simp only [List.all_cons, Bool.and_eq_true] at hc
    exact RA.append (l := [v]) (xs := [x]) (cell_RA h1 hc.1).1 (ih hc.2)
theorem RA_reps : ∀ {l : List A} {vs : List Value}, RA T e l vs → l.all (cellA T) = true → Reps T e l vs := by
  intro l
  induction l with
  | nil => intro vs h _; cases h; exact .nil
  | cons a l ih =>
    intro vs h hc
    simp only [List.all_cons, Bool.and_eq_true] at hc
    obtain ⟨d, r, rfl, h1, h2⟩ := h.uncons
    obtain ⟨x, rfl⟩ := cell_len h1 hc.1
    exact .cons (RA_cell h1 hc.1) (ih h2 hc.2)
theorem Reps.append {a b : List A} {x y : List Value} (h : Reps T e a x) (k : Reps T e b y) : Reps T e (a ++ b) (x ++ y) := by
  induction h with
  | nil => exact k
  | cons h1 _ ih => exact .cons h1 ih
theorem Reps.get {l : List A} {xs : List Value} (h : Reps T e l xs) : xs.length = l.length ∧ ∀ (i : Nat) v x, l[i]? = some v → xs[i]? = some x → Rep T e v x := by
  induction h with
  | nil => exact ⟨rfl, fun i v x h => by simp at h⟩
  | cons h1 _ ih =>
    refine ⟨by simp [ih.1], fun i v x hv hx => ?_⟩
    cases i with
    | zero => simp at hv hx; subst hv; subst hx; exact h1
    | succ i => exact ih.2 i v x (by simpa using hv) (by simpa using hx)
theorem Reps.mono {e e' : Env} (he : e.le e') {l : List A} {xs : List Value} (h : Reps T e l xs) : Reps T e' l xs := by
  induction h with
  | nil => exact .nil
  | cons h1 _ ih => exact .cons (h1.mono he) ih
def constA : Value → A
  | .int k n => if inRb k n then .i k n else .x
  | .bool b => .b b
  | .string s => .s (txt s)
  | v => if nilV v then .z v else .x
theorem constA_ok (v : Value) : Rep T e (constA v) v := by
  unfold constA
  split
  · split
    · rename_i h; exact rep_i (inRb_iff h)
    · trivial
  · exact rep_b _
  · exact rep_s _
  · split
    · rename_i h; exact RA.z h .nil
    · trivial
def evO (sl : Nat → A) : Operand → A
  | .tmp t => sl t
  | .const v => constA v
  | .func f => .f f []
  | .global _ => .x
theorem evO_ok {sl : Nat → A} {a : Act} {x : Operand} (h : ∀ t, x = .tmp t → Rep T e (sl t) (a.tmps.getD t undef)) : Rep T e (evO sl x) (a.eval x) := by
  cases x with
  | tmp t => exact h t rfl
  | const v => exact constA_ok v
  | global g => trivial
  | func f => exact RA.f .nil .nil
end Go.Vm

namespace Go.Vm
open Go.RowKit
variable {P : Program} {T : TT} {c : Ctx} {e : Env} {of : Nat → Option Ob}
structure KS where
  f : Nat → Sym
  y : Nat → Sym
  ord : Nat → Bool
instance : CoeFun KS (fun _ => Nat → Sym) := ⟨KS.f⟩
def YOK (P : Program) (T : TT) (id : Nat) (s : Sym) : Prop :=
  ∀ (c : Ctx) (e : Env) (of of' : Nat → Option Ob) (args : List A) (vals : Array Value) (nx : Nat) (out : Eff) (b : Nat), OSim T c e of' → s args of nx = some out → (∀ id ∈ out.ro, of' id = of id) → (∀ id, nx ≤ id → id < out.nx → ¬ e.U id) → Reps T e args vals.toList →
    e.U id → e.bn id = 0 → e.ι id = some (b, 0) → Does P (Instr.yield b vals) e.w (LeftN T c e of' nx out)
structure KOK (P : Program) (T : TT) (K : KS) : Prop where
  f : ∀ f, SymOK P T f (K.f f)
  y : ∀ id, YOK P T id (K.y id)
  ord : ∀ f, K.ord f = true → ∀ (vals : Array Value) (w : World), (callFunc f vals).run P w = .ok (.enter f vals) w
def KS.no (f : Nat → Sym) : KS := ⟨f, fun _ _ _ _ => none, fun _ => false⟩
theorem KOK.no {f : Nat → Sym} (h : ∀ i, SymOK P T i (f i)) : KOK P T (.no f) := ⟨h, fun id c e of of' args vals nx out b _ hr => (by cases hr), fun f h => (by cases h)⟩
theorem rep_y_inv {id : Nat} {v : Value} (h : Rep T e (.y id) v) : ∃ b, e.U id ∧ e.bn id = 0 ∧ e.ι id = some (b, 0) ∧ v = .func (.yield b) #[] #[] := by
  have h : RA T e [.y id] [v] := h
  cases h with
  | r h1 _ _ => exact h1
def callA (T : TT) (K : KS) (ev : Operand → A) (of : Nat → Option Ob) (nx : Nat) (k : Call) : Option Eff :=
  match k.callee with
  | .value f => match ev f with
    | .f fn cap => if cap.all (cellA T) then K fn (k.args.toList.map ev ++ cap) of nx else none
    | .y id => K.y id (k.args.toList.map ev) of nx
    | _ => none
  | .builtin .len => match k.argTypes.toList, k.args.toList with
    | [t], [x] => match lenG T of t (ev x) with
      | some (v, ro) => some (.pv nx v ro)
      | none => none
    | _, _ => none
  | .builtin .cap => match k.argTypes.toList, k.args.toList with
    | [t], [x] => match capA T t (ev x) with
      | some v => some (.pv nx v [])
      | none => none
    | _, _ => none
  | .builtin .append => match k.argTypes.toList, k.args.toList with
    | [t, xt], [x, y] => if appOk T xt (ev y) then lift nx (appendA T of nx t (ev x) (ev y)) else if isQ T (ev x) then lift nx (zerosA T nx t xt (ev x) (ev y)) else none
    | _, _ => none
  | .builtin .min => match k.args.toList with
    | [x, y] => match minA false (ev x) (ev y) with
      | some v => some (.pv nx v [])
      | none => none
    | _ => none
  | .builtin .max => match k.args.toList with
    | [x, y] => match minA true (ev x) (ev y) with
      | some v => some (.pv nx v [])
      | none => none
    | _ => none
  | .builtin .delete => match k.argTypes.toList, k.args.toList with
    | [t, _], [x, y] => match dropG T of t (ev x) (ev y) with
      | some (wo, ro) => some ⟨.x, wo, ro, nx⟩
      | none => none
    | _, _ => none
  | .builtin .copy => match k.argTypes.toList, k.args.toList with
    | [t, xt], [x, y] => match copyA T of t xt (ev x) (ev y) with
      | some (v, wo, ro) => some ⟨v, wo, ro, nx⟩
      | none => none
    | _, _ => none
  | _ => none
theorem does_congr {s s' : Sem Next} {w : World} {R : Value → World → Prop} (h : ∀ w, s.run P w = s'.run P w) (hd : Does P s' w R) : Does P s w R := by
  unfold Does at hd ⊢
  rw [h]; exact hd
theorem arr1 {α : Type} {a : Array α} {x : α} (h : a.toList = [x]) : a = #[x] := by
  have := congrArg List.toArray h; simpa using this
theorem arr2 {α : Type} {a : Array α} {x y : α} (h : a.toList = [x, y]) : a = #[x, y] := by
  have := congrArg List.toArray h; simpa using this
theorem reps_map {ev : Operand → A} {ρ : Operand → Value} (hx : ∀ x, Rep T e (ev x) (ρ x)) : ∀ l : List Operand, Reps T e (l.map ev) (l.map ρ) := by
  intro l
  induction l with
  | nil => exact .nil
  | cons x r ih => exact .cons (hx x) ih
theorem callA_ok (hT : TOK T P) {K : KS} (hK : KOK P T K) {of' : Nat → Option Ob} {nx : Nat} {k : Call} {ev : Operand → A} {ρ : Operand → Value} {out : Eff} (h : OSim T c e of') (hr : callA T K ev of nx k = some out) (ho : ∀ id ∈ out.ro, of' id = of id)
    (hu : ∀ id, nx ≤ id → id < out.nx → ¬ e.U id) (hx : ∀ x, Rep T e (ev x) (ρ x)) (ty : TypeId) :
    Does P (do let d ← resolve ρ k ty; invoke d.target d.args) e.w (LeftN T c e of' nx out) := by
  unfold callA at hr
  split at hr
  · rename_i f hk
    split at hr <;> try (cases hr; done)
    case h_2 id hf =>
      have hf' := hx f
      rw [hf] at hf'
      obtain ⟨b, y1, y2, y3, hv⟩ := rep_y_inv hf'
      have q1 := hK.y id c e of of' _ (k.args.map ρ) nx out b h hr ho hu (by rw [Array.toList_map]; exact reps_map hx _) y1 y2 y3
      refine does_congr (s' := Instr.yield b (k.args.map ρ)) (fun w => ?_) q1
      simp [resolve, hk, hv, Deferred.ofValue, invoke]
    rename_i fn cap hf
    split at hr <;> try (cases hr; done)
    rename_i hcap
    have hf' := hx f
    rw [hf] at hf'
    obtain ⟨vs, hv, hvs⟩ := rep_f_inv hf'
    have hcaps := RA_reps hvs hcap
    have q1 := hK.f fn c e of of' _ (k.args.map ρ ++ vs.toArray) nx out h hr ho hu (by rw [Array.toList_append, Array.toList_map]; exact (reps_map hx _).append hcaps)
    refine does_congr (s' := callFunc fn (k.args.map ρ ++ vs.toArray)) (fun w => ?_) q1
    simp [resolve, hk, hv, Deferred.ofValue, invoke]
  · rename_i hk
    split at hr <;> try (cases hr; done)
    rename_i t x hty har
    split at hr <;> try (cases hr; done)
    rename_i v ro hl
    injection hr with hr; subst hr
    have hrun : ∀ w, (do let d ← resolve ρ k ty; invoke d.target d.args : Sem Next).run P w = (do pure (.value (← Builtin.len_ #[t] ty #[ρ x])) : Sem Next).run P w := fun w => by
      simp [resolve, hk, invoke, builtin, arr1 hty, arr1 har]
    exact does_congr hrun (does_pv (lenG_ok hT h hl ho (hx x)))
  · rename_i hk
    split at hr <;> try (cases hr; done)
    rename_i t x hty har
    split at hr <;> try (cases hr; done)
    rename_i v hl
    injection hr with hr; subst hr
    have hrun : ∀ w, (do let d ← resolve ρ k ty; invoke d.target d.args : Sem Next).run P w = (do pure (.value (← Builtin.cap_ #[t] ty #[ρ x])) : Sem Next).run P w := fun w => by
      simp [resolve, hk, invoke, builtin, arr1 hty, arr1 har]
    exact does_congr hrun (does_pv (capA_ok hT h hl (hx x)))
  · rename_i hk
    split at hr <;> try (cases hr; done)
    rename_i t xt x y hty har
    have hrun : ∀ w, (do let d ← resolve ρ k ty; invoke d.target d.args : Sem Next).run P w = (do pure (.value (← Builtin.append_ #[t, xt] ty #[ρ x, ρ y])) : Sem Next).run P w := fun w => by
      simp [resolve, hk, invoke, builtin, arr2 hty, arr2 har]
    split at hr
    · rename_i hap
      obtain ⟨o2, h2, h3, h4, h5⟩ := lift_spec hr
      exact does_congr hrun (does_mono (appendA_ok h hT hap h2 (by rw [← h3]; exact ho) (fun id hid => hu id (h4 id hid).1 (h4 id hid).2) (hx x) (hx y)) (fun _ _ => h5))
    · split at hr <;> try (cases hr; done)
      rename_i hq
      obtain ⟨o2, h2, h3, h4, h5⟩ := lift_spec hr
      exact does_congr hrun (does_mono (zerosA_ok hT h h2 hq (fun id hid => hu id (h4 id hid).1 (h4 id hid).2) (hx x) (hx y)) (fun _ _ => h5))
  · rename_i hk
    split at hr <;> try (cases hr; done)
    rename_i x y har
    split at hr <;> try (cases hr; done)
    rename_i v hl
    injection hr with hr; subst hr
    have hrun : ∀ w, (do let d ← resolve ρ k ty; invoke d.target d.args : Sem Next).run P w = (do pure (.value (← Builtin.min_ k.argTypes ty #[ρ x, ρ y])) : Sem Next).run P w := fun w => by
      simp [resolve, hk, invoke, builtin, arr2 har]
    exact does_congr hrun (does_pv (min_ok h hl (hx x) (hx y)))
  · rename_i hk
    split at hr <;> try (cases hr; done)
    rename_i x y har
    split at hr <;> try (cases hr; done)
    rename_i v hl
    injection hr with hr; subst hr
    have hrun : ∀ w, (do let d ← resolve ρ k ty; invoke d.target d.args : Sem Next).run P w = (do pure (.value (← Builtin.max_ k.argTypes ty #[ρ x, ρ y])) : Sem Next).run P w := fun w => by
      simp [resolve, hk, invoke, builtin, arr2 har]
    exact does_congr hrun (does_pv (max_ok h hl (hx x) (hx y)))
  · rename_i hk
    split at hr <;> try (cases hr; done)
    rename_i t t2 x y hty har
    split at hr <;> try (cases hr; done)
    rename_i wo ro hl
    injection hr with hr; subst hr
    have hrun : ∀ w, (do let d ← resolve ρ k ty; invoke d.target d.args : Sem Next).run P w = (do pure (.value (← Builtin.delete_ #[t, t2] ty #[ρ x, ρ y])) : Sem Next).run P w := fun w => by
      simp [resolve, hk, invoke, builtin, arr2 hty, arr2 har]
    exact does_congr hrun (does_wo (dropG_ok hT h hl ho (hx x) (hx y)))
  · rename_i hk
    split at hr <;> try (cases hr; done)
    rename_i t xt x y hty har
    split at hr <;> try (cases hr; done)
    rename_i v wo ro hl
    injection hr with hr; subst hr
    have hrun : ∀ w, (do let d ← resolve ρ k ty; invoke d.target d.args : Sem Next).run P w = (do pure (.value (← Builtin.copy_ #[t, xt] ty #[ρ x, ρ y])) : Sem Next).run P w := fun w => by
      simp [resolve, hk, invoke, builtin, arr2 hty, arr2 har]
    exact does_congr hrun (does_wo (copyA_ok hT h hl ho (hx x) (hx y)))
  · cases hr
def partsA (ev : Operand → A) (parts : List (Nat × Operand)) : List (Nat × A) := parts.map fun p => (p.1, ev p.2)
theorem parts_rep {ev : Operand → A} {ρ : Operand → Value} (hx : ∀ x, Rep T e (ev x) (ρ x)) : ∀ (l : List (Nat × Operand)), RepP T e (partsA ev l) (l.map fun p => (p.1, ρ p.2)) := by
  intro l
  induction l with
  | nil => exact .nil
  | cons p r ih => exact .cons (hx _) ih
theorem map_rep {ev : Operand → A} {ρ : Operand → Value} (hx : ∀ x, Rep T e (ev x) (ρ x)) (o : Option Operand) : RepO T e (o.map ev) (o.map ρ) := by
  cases o with
  | none => exact .none
  | some x => exact .some (hx x)
def assignA (T : TT) (ty nx : Nat) (u : A) : Eff :=
  match u with
  | .z v => match kOf T ty with
    | some (.slice el) => if nilS v && Nat.blt 0 (szT T el) then ⟨.o nx 1, [(nx, .row el 1 [] true false)], [], nx + 1⟩ else .pv nx u []
    | _ => .pv nx u []
  | _ => .pv nx u []
def makeSliceA (T : TT) (nx t : Nat) (u v : A) : Option Eff :=
  match kOf T t, u, v with
  | some (.slice el), .i _ a, .i _ b => match T el with
    | some te => if Nat.blt 0 te.size && TK.notOther te.k && Nat.ble te.bytes 131072 && ile 0 a && ile a b && ile b LIM then some ⟨.o nx 1, [(nx, .row el 1 (List.replicate a.toNat te.zero) false false)], [], nx + 1⟩ else none
    | none => none
  | _, _, _ => none
def makeMapA (T : TT) (nx t : Nat) (r : Option A) : Option Eff :=
  match kOf T t with
  | some (.map kt et) => match r with
    | none => some ⟨.m nx, [(nx, newMapG T kt et)], [], nx + 1⟩
    | some (.i _ _) => some ⟨.m nx, [(nx, newMapG T kt et)], [], nx + 1⟩
    | _ => none
  | _ => none
def putM (T : TT) (of : Nat → Option Ob) (nx t : Nat) (m k v : A) : Option Eff :=
  match updG T of t m k v with
  | some (wo, ro) => some ⟨.x, wo, ro, nx⟩
  | none => none
def pvO (nx : Nat) (o : Option A) : Option Eff :=
  match o with
  | some v => some (.pv nx v [])
  | none => none
def pvR (nx : Nat) (o : Option (A × List Nat)) : Option Eff :=
  match o with
  | some (v, ro) => some (.pv nx v ro)
  | none => none
def pvW (nx : Nat) (o : Option (A × List (Nat × Ob) × List Nat)) : Option Eff :=
  match o with
  | some (v, wo, ro) => some ⟨v, wo, ro, nx⟩
  | none => none
def stepOp (T : TT) (K : KS) (ev : Operand → A) (of : Nat → Option Ob) (nx : Nat) (o : Oper) : Option Eff :=
  match o.op with
  | .move x => some (.pv nx (ev x) [])
  | .assign x => some (assignA T o.type nx (ev x))
  | .pick q a b => match ev q with
    | .b t => some (.pv nx (bif t then ev a else ev b) [])
    | _ => none
  | .alloc el => match T el with
    | some te => if TK.notOther te.k then some ⟨.p nx el [], [(nx, .box el (.v el te.zero) false)], [], nx + 1⟩ else none
    | none => none
  | .box el x => match asT T el (ev x) with
    | some a => some ⟨.p nx el [], [(nx, .box el a false)], [], nx + 1⟩
    | none => none
  | .build t parts => match buildA T t (partsA ev parts.toList) with
    | some v => some (.pv nx v [])
    | none => none
  | .buildSlice t len parts => lift nx (buildSliceA T of nx t len (partsA ev parts.toList))
  | .load t a => pvR nx (loadA T of t (ev a))
  | .store t a x => match storeA T of t (ev a) (ev x) with
    | some (wo, ro) => some ⟨.x, wo, ro, nx⟩
    | none => none
  | .sliceToArrayPointer t x => pvW nx (arrA T of t (ev x))
  | .nilCheck x => match chkA of (ev x) with
    | some ro => some (.pv nx (ev x) ro)
    | none => none
  | .binOp op t x y _ => pvR nx (binA T of op t (ev x) (ev y))
  | .unOp op _ x => pvO nx (unA op (ev x))
  | .convert s t x => lift nx (convA T of nx s t (ev x))
  | .makeFunc fn first captured => match fn with
    | .func f => if Nat.beq first.toList.length 0 && (captured.toList.map ev).all (cellA T) then some (.pv nx (.f f (captured.toList.map ev)) []) else none
    | _ => none
  | .makeSlice t l k => makeSliceA T nx t (ev l) (ev k)
  | .makeMap t r => makeMapA T nx t (r.map ev)
  | .lookup t m k ok => lift nx (lookG T (lendP o.pos) nx of t (ev m) (ev k) ok)
  | .mapUpdate t m k v => putM T of nx t (ev m) (ev k) (ev v)
  | .insert t m k v => putM T of nx t (ev m) (ev k) (ev v)
  | .slice t x lo hi mx => pvW nx (sliceA T of t (ev x) (lo.map ev) (hi.map ev) (mx.map ev))
  | .fieldAddr s x f => pvR nx (fieldAddrA T of s f (ev x))
  | .field s x f => pvO nx (fieldA T s f (ev x))
  | .indexAddr t x ix => match ev ix with
    | .i _ i => pvR nx (indexAddrA T of t i (ev x))
    | _ => none
  | .index t x ix => match ev ix with
    | .i _ i => pvO nx (indexA T t i (ev x))
    | _ => none
  | .extract x i => pvO nx (tupA i (ev x))
  | .call k => callA T K ev of nx k
  | .range t x => lift nx (rangeB T of nx t (ev x))
  | .next x str => if str then none else pvR nx (nextB of (ev x))
  | _ => none
theorem pvO_spec {nx : Nat} {o : Option A} {f : Eff} (h : pvO nx o = some f) : ∃ v, o = some v ∧ f = .pv nx v [] := by
  unfold pvO at h
  split at h
  · injection h with h; exact ⟨_, rfl, h.symm⟩
  · cases h
theorem pvR_spec {nx : Nat} {o : Option (A × List Nat)} {f : Eff} (h : pvR nx o = some f) : ∃ v ro, o = some (v, ro) ∧ f = .pv nx v ro := by
  unfold pvR at h
  split at h
  · injection h with h; exact ⟨_, _, rfl, h.symm⟩
  · cases h
theorem pvW_spec {nx : Nat} {o : Option (A × List (Nat × Ob) × List Nat)} {f : Eff} (h : pvW nx o = some f) : ∃ v wo ro, o = some (v, wo, ro) ∧ f = ⟨v, wo, ro, nx⟩ := by
  unfold pvW at h
  split at h
  · injection h with h; exact ⟨_, _, _, rfl, h.symm⟩
  · cases h
theorem does_new {s : Sem Next} {w : World} {nx id : Nat} {v : A} {wo : List (Nat × Ob)} {ro : List Nat} (hd : Does P s w (Left T c e of ⟨v, wo, ro, [nx]⟩)) : Does P s w (LeftN T c e of nx ⟨v, wo, ro, nx + 1⟩) :=
  does_mono hd (fun _ _ ⟨e', p1, p2, p3, p4, p5⟩ => ⟨e', p1, p2, p3, fun id hid => (p4 id hid).imp (fun q => q) (fun q => by simp only [List.mem_singleton] at q; subst q; exact ⟨Nat.le_refl _, Nat.lt_succ_self _⟩), p5⟩)
theorem stepOp_ok (hT : TOK T P) {K : KS} (hK : KOK P T K) {of' : Nat → Option Ob} {nx : Nat} {o : Oper} {ev : Operand → A} {ρ : Operand → Value} {out : Eff} (h : OSim T c e of') (hr : stepOp T K ev of nx o = some out) (ho : ∀ id ∈ out.ro, of' id = of id) (hu : ∀ id, nx ≤ id → id < out.nx → ¬ e.U id)
    (hc : ∀ v, ρ (.const v) = v) (hx : ∀ x, Rep T e (ev x) (ρ x)) : Does P (execOp ρ o) e.w (LeftN T c e of' nx out) := by
  have pure' : ∀ {v : A} {x : Value} {s : Sem Next}, s = pure (.value x) → Rep T e v x → Does P s e.w (LeftN T c e of' nx (.pv nx v [])) := fun {v x s} hs hv => by
    subst hs
    exact does_pv (.inl ⟨x, e.w, by simp, left_same h hv⟩)
  obtain ⟨dst, op, ty, pos, after, guard⟩ := o
  cases op <;> simp only [stepOp] at hr <;> try (cases hr; done)
  case move x =>
    injection hr with hr; subst hr
    exact pure' rfl (hx x)
  case assign x =>
    injection hr with hr
    unfold assignA at hr
    split at hr
    · rename_i v hv
      split at hr
      · rename_i el hk
        split at hr
        · rename_i hcc
          simp only [Bool.and_eq_true] at hcc
          subst hr
          have hxx := hx x
          rw [hv] at hxx
          have hxv : ρ x = .slice none 0 0 := by
            have hxx : RA T e [.z v] [ρ x] := hxx
            generalize ρ x = r at hxx
            cases hxx with
            | z _ _ => exact nilS_eq hcc.1
            | r g1 _ _ => exact g1.elim
          refine does_new (id := nx) (.inl ⟨.slice none 0 0, e.w, by simp [execOp, hxv], left_nil (nl := true) h (hu nx (Nat.le_refl _) (Nat.lt_succ_self _)) rfl (by simpa [Nat.blt_eq] using hcc.2)⟩)
        · subst hr; exact pure' rfl (hv ▸ hx x)
      · subst hr; exact pure' rfl (hv ▸ hx x)
    · subst hr; exact pure' rfl (hx x)
  case pick q a b =>
    split at hr <;> try (cases hr; done)
    rename_i t hq
    injection hr with hr; subst hr
    have hq' := hx q
    rw [hq] at hq'
    have e1 := rep_b_inv hq'
    refine does_pv (.inl ⟨if t then ρ a else ρ b, e.w, by simp [execOp, e1, asBool], left_same h ?_⟩)
    cases t
    · exact hx b
    · exact hx a
  case alloc el =>
    split at hr <;> try (cases hr; done)
    rename_i te hte
    split at hr <;> try (cases hr; done)
    rename_i hne
    injection hr with hr; subst hr
    exact does_new (id := nx) (law_alloc h hT hte hne (hu nx (Nat.le_refl _) (Nat.lt_succ_self _)))
  case box el x =>
    split at hr <;> try (cases hr; done)
    rename_i a ha
    injection hr with hr; subst hr
    exact does_new (id := nx) (law_box h (hu nx (Nat.le_refl _) (Nat.lt_succ_self _)) (hx x) ha)
  case build t parts =>
    split at hr <;> try (cases hr; done)
    rename_i v h2
    injection hr with hr; subst hr
    have := law_build (ro := []) hT h (parts_rep hx parts.toList) h2
    rw [← Array.toList_map, Array.toArray_toList] at this
    exact does_pv this
  case buildSlice t len parts =>
    obtain ⟨o2, h2, h3, h4, h5⟩ := lift_spec hr
    have := law_buildSlice h hT h2 (by rw [← h3]; exact ho) (fun id hid => hu id (h4 id hid).1 (h4 id hid).2) (parts_rep hx parts.toList)
    rw [← Array.toList_map, Array.toArray_toList] at this
    exact does_mono this (fun _ _ => h5)
  case load t a =>
    obtain ⟨v, ro, h2, rfl⟩ := pvR_spec hr
    exact does_pv (loadA_ok hT h h2 ho (hx a))
  case store t a x =>
    split at hr <;> try (cases hr; done)
    rename_i wo ro h2
    injection hr with hr; subst hr
    exact does_wo (storeA_ok hT h h2 ho (hx a) (hx x))
  case sliceToArrayPointer t x =>
    obtain ⟨v, wo, ro, h2, rfl⟩ := pvW_spec hr
    exact does_wo (arrA_ok hT h h2 ho (hx x))
  case nilCheck x =>
    split at hr <;> try (cases hr; done)
    rename_i ro h2
    injection hr with hr; subst hr
    exact does_pv (chkA_ok rfl h h2 ho (hx x))
  case binOp op t x y t2 =>
    obtain ⟨v, ro, h2, rfl⟩ := pvR_spec hr
    exact does_pv (law_binOp hT h (hx x) (hx y) h2 ho)
  case unOp op t x =>
    obtain ⟨v, h2, rfl⟩ := pvO_spec hr
    exact does_pv (unA_ok h h2 (hx x))
  case convert s t x =>
    obtain ⟨o2, h2, h3, h4, h5⟩ := lift_spec hr
    exact does_mono (convA_ok hT h h2 (by rw [← h3]; exact ho) (fun id hid => hu id (h4 id hid).1 (h4 id hid).2) (hx x)) (fun _ _ => h5)
  case makeFunc fn first captured =>
    split at hr <;> try (cases hr; done)
    rename_i f
    split at hr <;> try (cases hr; done)
    rename_i hcc
    simp only [Bool.and_eq_true] at hcc
    injection hr with hr; subst hr
    have h0 : first = #[] := by
      have := Nat.eq_of_beq_eq_true hcc.1
      rw [Array.length_toList] at this
      exact Array.eq_empty_of_size_eq_zero this
    refine does_pv (.inl ⟨.func (.func f) #[] (captured.map ρ), e.w, by simp [execOp, Instr.makeFunc, h0], left_same h ?_⟩)
    have := RA.f (fn := f) (reps_RA (reps_map hx captured.toList) hcc.2) .nil
    have e1 : captured.map ρ = (captured.toList.map ρ).toArray := Array.ext' (by rw [Array.toList_map])
    rw [e1]
    exact this
  case makeSlice t l k =>
    unfold makeSliceA at hr
    split at hr <;> try (cases hr; done)
    rename_i el k1 a k2 b hk hl hkk
    split at hr <;> try (cases hr; done)
    rename_i te hte
    split at hr <;> try (cases hr; done)
    rename_i hcc
    simp only [Bool.and_eq_true, ile_iff] at hcc
    obtain ⟨⟨⟨⟨⟨c1, c2⟩, c3⟩, c4⟩, c5⟩, c6⟩ := hcc
    injection hr with hr; subst hr
    obtain ⟨te', h1, h2⟩ := kOf_some hk
    have hl' := hx l
    have hk' := hx k
    rw [hl] at hl'
    rw [hkk] at hk'
    have e1 := rep_i_inv hl'
    have e2 := rep_i_inv hk'
    refine ?_
    show Does P (do pure (.value (← Instr.makeSlice t (ρ l) (ρ k)))) _ _
    rw [e1, e2]
    have hb := Nat.le_of_ble_eq_true c3
    have hbb : b * te.bytes ≤ 140737488355328 := by
      have h1 : (b : Int) ≤ 1073741824 := c6
      have h2 : (te.bytes : Int) ≤ 131072 := by omega
      calc b * te.bytes ≤ 1073741824 * te.bytes := Int.mul_le_mul_of_nonneg_right h1 (by omega)
        _ ≤ 1073741824 * 131072 := Int.mul_le_mul_of_nonneg_left h2 (by omega)
        _ ≤ 140737488355328 := by omega
    have h63 : b ≤ 4611686018427387904 := by have h1 : (b : Int) ≤ 1073741824 := c6; omega
    exact does_new (id := nx) (law_make (ro := []) h hT (under_slice (hT _ _ h1) h2) hte (notOther_ne c2) (hu nx (Nat.le_refl _) (Nat.lt_succ_self _)) (by simpa [Nat.blt_eq] using c1) c4 c5 hbb h63)
  case makeMap t r =>
    unfold makeMapA at hr
    split at hr <;> try (cases hr; done)
    rename_i kt et hk
    obtain ⟨te', h1, h2⟩ := kOf_some hk
    split at hr <;> try (cases hr; done)
    · rename_i hrn
      have hr0 : r = none := by cases r <;> first | rfl | (simp at hrn; done)
      subst hr0
      injection hr with hr; subst hr
      exact does_new (id := nx) (law_newMapG h (under_map (hT _ _ h1) h2) (hu nx (Nat.le_refl _) (Nat.lt_succ_self _)) (.inl rfl))
    · rename_i k n hrn
      obtain ⟨x, rfl, hxn⟩ : ∃ x, r = some x ∧ ev x = .i k n := by cases r <;> simp at hrn; exact ⟨_, rfl, hrn⟩
      injection hr with hr; subst hr
      have hx' := hx x
      rw [hxn] at hx'
      exact does_new (id := nx) (law_newMapG h (under_map (hT _ _ h1) h2) (hu nx (Nat.le_refl _) (Nat.lt_succ_self _)) (.inr ⟨k, n, by rw [← rep_i_inv hx']; rfl⟩))
  case lookup t m k ok =>
    obtain ⟨o2, h2, h3, h4, h5⟩ := lift_spec hr
    exact does_mono (lookG_ok hT h h2 (by rw [← h3]; exact ho) (fun id hid => hu id (h4 id hid).1 (h4 id hid).2) (hx m) (hx k)) (fun _ _ => h5)
  case mapUpdate t m k v =>
    unfold putM at hr
    split at hr <;> try (cases hr; done)
    rename_i wo ro h2
    injection hr with hr; subst hr
    exact does_wo (updG_ok hT h h2 ho (hx m) (hx k) (hx v))
  case insert t m k v =>
    unfold putM at hr
    split at hr <;> try (cases hr; done)
    rename_i wo ro h2
    injection hr with hr; subst hr
    exact does_wo (updG_ok hT h h2 ho (hx m) (hx k) (hx v))
  case slice t x lo hi mx =>
    obtain ⟨v, wo, ro, h2, rfl⟩ := pvW_spec hr
    exact does_wo (sliceA_ok hT h h2 ho (hx x) (map_rep hx lo) (map_rep hx hi) (map_rep hx mx))
  case fieldAddr s x f =>
    obtain ⟨v, ro, h2, rfl⟩ := pvR_spec hr
    exact does_pv (fieldAddrA_ok hT h h2 ho (hx x))
  case field s x f =>
    obtain ⟨v, h2, rfl⟩ := pvO_spec hr
    exact does_pv (fieldA_ok hT h h2 (hx x))
  case indexAddr t x ix =>
    split at hr <;> try (cases hr; done)
    rename_i kk i hi
    obtain ⟨v, ro, h2, rfl⟩ := pvR_spec hr
    have hi' := hx ix
    rw [hi] at hi'
    have e1 := rep_i_inv hi'
    refine ?_
    show Does P (do pure (.value (← Instr.indexAt t (ρ x) (ρ ix)))) _ _
    rw [e1]
    exact does_pv (indexAddrA_ok hT h h2 ho (hx x))
  case index t x ix =>
    split at hr <;> try (cases hr; done)
    rename_i kk i hi
    obtain ⟨v, h2, rfl⟩ := pvO_spec hr
    have hi' := hx ix
    rw [hi] at hi'
    have e1 := rep_i_inv hi'
    refine ?_
    show Does P (do pure (.value (← Instr.index t (ρ x) (ρ ix)))) _ _
    rw [e1]
    exact does_pv (indexA_ok hT h h2 (hx x))
  case extract x i =>
    obtain ⟨v, h2, rfl⟩ := pvO_spec hr
    exact does_pv (tupA_ok h h2 (hx x))
  case call k => exact callA_ok hT hK h hr ho hu hx ty
  case range t x =>
    obtain ⟨o2, h2, h3, h4, h5⟩ := lift_spec hr
    exact does_mono (rangeB_ok hT h h2 (by rw [← h3]; exact ho) (fun id hid => hu id (h4 id hid).1 (h4 id hid).2) (hx x)) (fun _ _ => h5)
  case next x str =>
    split at hr <;> try (cases hr; done)
    rename_i hstr
    have hs : str = false := by simpa using hstr
    subst hs
    obtain ⟨v, ro, h2, rfl⟩ := pvR_spec hr
    exact does_pv (nextB_ok h h2 ho (hx x))
end Go.Vm

namespace Go.Vm
open Go.RowKit
variable {P : Program} {T : TT} {c : Ctx} {e eb : Env} {of : Nat → Option Ob}
inductive Tr where
  | e
  | n (v : Option Ob) (l r : Tr)
def Tr.get : Tr → Nat → Option Ob
  | .e, _ => none
  | .n v l r, k => match k with
    | 0 => v
    | k + 1 => match Nat.mod k 2 with
      | 0 => l.get (Nat.div k 2)
      | _ => r.get (Nat.div k 2)
def Tr.setF : Nat → Tr → Nat → Ob → Tr
  | 0, t, _, _ => t
  | f + 1, .e, k, o => match k with
    | 0 => .n (some o) .e .e
    | k + 1 => match Nat.mod k 2 with
      | 0 => .n none (setF f .e (Nat.div k 2) o) .e
      | _ => .n none .e (setF f .e (Nat.div k 2) o)
  | f + 1, .n v l r, k, o => match k with
    | 0 => .n (some o) l r
    | k + 1 => match Nat.mod k 2 with
      | 0 => .n v (setF f l (Nat.div k 2) o) r
      | _ => .n v l (setF f r (Nat.div k 2) o)
def Tr.set (t : Tr) (k : Nat) (o : Ob) : Tr := setF (k + 1) t k o
theorem Tr.get_e (k : Nat) : Tr.get .e k = none := by cases k <;> rfl
theorem Tr.get_s (v : Option Ob) (l r : Tr) (k : Nat) : Tr.get (.n v l r) (k + 1) = if k % 2 = 0 then l.get (k / 2) else r.get (k / 2) := by
  show (match Nat.mod k 2 with | 0 => l.get (Nat.div k 2) | _ => r.get (Nat.div k 2)) = _
  have e1 : Nat.mod k 2 = k % 2 := rfl
  have e2 : Nat.div k 2 = k / 2 := rfl
  rw [e1, e2]
  rcases Nat.mod_two_eq_zero_or_one k with h | h <;> rw [h] <;> rfl
theorem Tr.get_setF : ∀ (f : Nat) (t : Tr) (k : Nat) (o : Ob) (j : Nat), k < f → (setF f t k o).get j = if j = k then some o else t.get j := by
  intro f
  induction f with
  | zero => intro t k o j h; omega
  | succ f ih =>
    intro t k o j h
    have hdiv : ∀ m : Nat, m + 1 < f + 1 → m / 2 < f := fun m hm => by omega
    have key : ∀ (m : Nat) (hm : k = m + 1) (v : Option Ob) (l r : Tr), (match Nat.mod m 2 with | 0 => Tr.n v (setF f l (Nat.div m 2) o) r | _ => Tr.n v l (setF f r (Nat.div m 2) o)).get j = if j = k then some o else (Tr.n v l r).get j := by
      intro m hm v l r
      subst hm
      have e1 : Nat.mod m 2 = m % 2 := rfl
      have e2 : Nat.div m 2 = m / 2 := rfl
      rw [e1, e2]
      cases j with
      | zero =>
        rw [if_neg (by omega)]
        rcases Nat.mod_two_eq_zero_or_one m with h' | h' <;> rw [h'] <;> rfl
      | succ j =>
        rcases Nat.mod_two_eq_zero_or_one m with h' | h' <;> rw [h']
        · show Tr.get (.n v (setF f l (m / 2) o) r) (j + 1) = _
          rw [get_s, get_s, ih l (m / 2) o (j / 2) (hdiv m h)]
          by_cases hj : j % 2 = 0
          · rw [if_pos hj, if_pos hj]
            by_cases hjm : j = m
            · subst hjm; simp
            · rw [if_neg (by omega), if_neg (by omega)]
          · rw [if_neg hj, if_neg hj, if_neg (by omega)]
        · show Tr.get (.n v l (setF f r (m / 2) o)) (j + 1) = _
          rw [get_s, get_s, ih r (m / 2) o (j / 2) (hdiv m h)]
          by_cases hj : j % 2 = 0
          · rw [if_pos hj, if_pos hj, if_neg (by omega)]
          · rw [if_neg hj, if_neg hj]
            by_cases hjm : j = m
            · subst hjm; simp
            · rw [if_neg (by omega), if_neg (by omega)]
    cases t with
    | e =>
      cases k with
      | zero =>
        cases j with
        | zero => rfl
        | succ j => rw [if_neg (by omega)]; show Tr.get (.n (some o) .e .e) (j + 1) = _; rw [get_s]; simp [get_e]
      | succ m =>
        have := key m rfl none .e .e
        have e0 : (Tr.n none .e .e).get j = Tr.get .e j := by
          cases j with
          | zero => rfl
          | succ j => rw [get_s]; simp [get_e]
        rw [e0] at this
        exact this
    | n v l r =>
      cases k with
      | zero =>
        cases j with
        | zero => rfl
        | succ j => rw [if_neg (by omega)]; show Tr.get (.n (some o) l r) (j + 1) = _; rw [get_s, get_s]
      | succ m => exact key m rfl v l r
theorem Tr.get_set (t : Tr) (k : Nat) (o : Ob) (j : Nat) : (t.set k o).get j = if j = k then some o else t.get j := get_setF _ _ _ _ _ (Nat.lt_succ_self _)
def Tr.toL : Tr → (Nat → Nat) → List (Nat × Ob)
  | .e, _ => []
  | .n v l r, f => match v with
    | some o => (f 0, o) :: (l.toL (fun j => f (2 * j + 1)) ++ r.toL (fun j => f (2 * j + 2)))
    | none => l.toL (fun j => f (2 * j + 1)) ++ r.toL (fun j => f (2 * j + 2))
def over (t : Tr) (base : Nat → Option Ob) (id : Nat) : Option Ob :=
  match t.get id with
  | some o => some o
  | none => base id
theorem put_toL : ∀ (t : Tr) (f : Nat → Nat) (base : Nat → Option Ob), (∀ i j, f i = f j → i = j) →
    (∀ j, put base (t.toL f) (f j) = match t.get j with | some o => some o | none => base (f j)) ∧ ∀ id, (∀ j, f j ≠ id) → put base (t.toL f) id = base id := by
  intro t
  induction t with
  | e => intro f base _; exact ⟨fun j => by rw [Tr.get_e]; rfl, fun id _ => rfl⟩
  | n v l r ihl ihr =>
    intro f base hf
    have i1 : ∀ i j, f (2 * i + 1) = f (2 * j + 1) → i = j := fun i j h => by have := hf _ _ h; omega
    have i2 : ∀ i j, f (2 * i + 2) = f (2 * j + 2) → i = j := fun i j h => by have := hf _ _ h; omega
    have rest : ∀ b : Nat → Option Ob, put b (l.toL (fun j => f (2 * j + 1)) ++ r.toL (fun j => f (2 * j + 2))) (f 0) = b (f 0) ∧
        (∀ j, put b (l.toL (fun j => f (2 * j + 1)) ++ r.toL (fun j => f (2 * j + 2))) (f (j + 1)) = match (if j % 2 = 0 then l.get (j / 2) else r.get (j / 2)) with | some o => some o | none => b (f (j + 1))) ∧
        ∀ id, (∀ j, f j ≠ id) → put b (l.toL (fun j => f (2 * j + 1)) ++ r.toL (fun j => f (2 * j + 2))) id = b id := by
      intro b
      rw [put_append]
      obtain ⟨l1, l2⟩ := ihl (fun j => f (2 * j + 1)) b i1
      obtain ⟨r1, r2⟩ := ihr (fun j => f (2 * j + 2)) (put b (l.toL (fun j => f (2 * j + 1)))) i2
      refine ⟨?_, fun j => ?_, fun id hid => ?_⟩
      · rw [r2 (f 0) (fun j h => by have := hf _ _ h; omega), l2 (f 0) (fun j h => by have := hf _ _ h; omega)]
      · by_cases hj : j % 2 = 0
        · have e1 : j + 1 = 2 * (j / 2) + 1 := by omega
          rw [r2 (f (j + 1)) (fun k h => by have := hf _ _ h; omega), if_pos hj]
          have := l1 (j / 2)
          simp only [← e1] at this
          exact this
        · have e1 : j + 1 = 2 * (j / 2) + 2 := by omega
          rw [if_neg hj]
          have := r1 (j / 2)
          simp only [← e1] at this
          rw [this, l2 (f (j + 1)) (fun k h => by have := hf _ _ h; omega)]
      · rw [r2 id (fun j => hid _), l2 id (fun j => hid _)]
    cases v with
    | none =>
      obtain ⟨a1, a2, a3⟩ := rest base
      refine ⟨fun j => ?_, a3⟩
      cases j with
      | zero => exact a1
      | succ j => rw [Tr.get_s]; exact a2 j
    | some o =>
      obtain ⟨a1, a2, a3⟩ := rest (upd base (f 0) (some o))
      refine ⟨fun j => ?_, fun id hid => ?_⟩
      · cases j with
        | zero => exact a1.trans (upd_same _ _ _)
        | succ j =>
          rw [Tr.get_s]
          refine (a2 j).trans ?_
          rw [upd_ne _ _ (fun h => by have := hf _ _ h; omega)]
      · exact (a3 id hid).trans (upd_ne _ _ (fun h => hid 0 h.symm))
theorem put_toL_id (t : Tr) (base : Nat → Option Ob) : put base (t.toL fun j => j) = over t base := by
  funext id
  exact (put_toL t (fun j => j) base (fun _ _ h => h)).1 id
def setL (t : Tr) : List (Nat × Ob) → Tr
  | [] => t
  | (id, o) :: r => setL (t.set id o) r
theorem over_set (t : Tr) (base : Nat → Option Ob) (k : Nat) (o : Ob) : over (t.set k o) base = upd (over t base) k (some o) := by
  funext id
  simp only [over, upd, Tr.get_set]
  by_cases h : id = k
  · rw [if_pos h, if_pos h]
  · rw [if_neg h, if_neg h]
theorem over_setL : ∀ (l : List (Nat × Ob)) (t : Tr) (base : Nat → Option Ob), over (setL t l) base = put (over t base) l := by
  intro l
  induction l with
  | nil => intro t base; rfl
  | cons p r ih => intro t base; obtain ⟨k, o⟩ := p; simp only [setL, put]; rw [ih, over_set]
end Go.Vm

namespace Go.Vm
open Go.RowKit
variable {P : Program} {T : TT} {c : Ctx} {e eb : Env} {of of' : Nat → Option Ob}
structure St where
  sl : List (Nat × A)
  ob : Tr
  rd : List Nat
  nx : Nat
  mks : Option (List Nat)
def getSc : List (Nat × A) → Nat → A
  | [], _ => .x
  | (k, v) :: r, t => bif Nat.beq k t then v else getSc r t
noncomputable def getS (l : List (Nat × A)) (t : Nat) : A := List.rec (motive := fun _ => A) A.x (fun p _ ih => Bool.rec (motive := fun _ => A) ih p.2 (Nat.beq p.1 t)) l
theorem getS_eq_c : @getS = @getSc := by
  funext l t
  induction l with
  | nil => rfl
  | cons p r ih =>
    obtain ⟨k, v⟩ := p
    show Bool.rec (motive := fun _ => A) (getS r t) v (Nat.beq k t) = bif Nat.beq k t then v else getSc r t
    rw [ih]
    cases Nat.beq k t <;> rfl
theorem getS_cons (k : Nat) (v : A) (r : List (Nat × A)) : getS ((k, v) :: r) = upd (getS r) k v := by
  funext t
  show Bool.rec (motive := fun _ => A) (getS r t) v (Nat.beq k t) = upd (getS r) k v t
  simp only [upd]
  by_cases h : t = k
  · subst h; rw [if_pos rfl, show Nat.beq t t = true from Nat.beq_refl t]
  · rw [if_neg h]
    have : Nat.beq k t = false := by
      rw [← Bool.not_eq_true]; intro q; exact h (Nat.eq_of_beq_eq_true q).symm
    rw [this]
def mem (t : Nat) : List Nat → Bool
  | [] => false
  | k :: r => Nat.beq k t || mem t r
theorem mem_iff {t : Nat} {l : List Nat} : mem t l = true ↔ t ∈ l := by
  induction l with
  | nil => simp [mem]
  | cons k r ih =>
    simp only [mem, Bool.or_eq_true, ih, List.mem_cons]
    constructor
    · rintro (h | h)
      · exact .inl (Nat.eq_of_beq_eq_true h).symm
      · exact .inr h
    · rintro (h | h)
      · subst h; exact .inl (Nat.beq_refl t)
      · exact .inr h
def addR (ob : Tr) : List Nat → List Nat → List Nat
  | [], rd => rd
  | id :: r, rd => match ob.get id with
    | some _ => addR ob r rd
    | none => bif mem id rd then addR ob r rd else addR ob r (id :: rd)
theorem addR_mono (ob : Tr) : ∀ (l rd : List Nat), ∀ id ∈ rd, id ∈ addR ob l rd := by
  intro l
  induction l with
  | nil => intro rd id h; exact h
  | cons k r ih =>
    intro rd id h
    simp only [addR]
    cases ob.get k with
    | some o => exact ih _ _ h
    | none =>
      cases mem k rd with
      | true => exact ih _ _ h
      | false => exact ih _ _ (List.mem_cons_of_mem _ h)
theorem addR_mem (ob : Tr) : ∀ (l rd : List Nat), ∀ id ∈ l, (∃ o, ob.get id = some o) ∨ id ∈ addR ob l rd := by
  intro l
  induction l with
  | nil => intro rd id h; cases h
  | cons k r ih =>
    intro rd id h
    rcases List.mem_cons.1 h with rfl | h
    · cases hk : ob.get id with
      | some o => exact .inl ⟨o, rfl⟩
      | none =>
        right
        simp only [addR, hk]
        cases hm : mem id rd with
        | true => exact addR_mono _ _ _ _ (mem_iff.1 hm)
        | false => exact addR_mono _ _ _ _ (List.mem_cons_self ..)
    · simp only [addR]
      cases hk : ob.get k with
      | some o => exact ih _ _ h
      | none =>
        cases mem k rd with
        | true => exact ih _ _ h
        | false => exact ih _ _ h
inductive MarksL (e : Env) : List Nat → List Deferred → Prop
  | nil : MarksL e [] []
  | cons {id b l ds} : e.U id → e.bn id = 0 → e.ι id = some (b, 0) → MarksL e l ds → MarksL e (id :: l) ({ target := .collected b, args := #[] } :: ds)
def Marks (e : Env) (rd : Option Nat) : Option (List Nat) → List Deferred → Prop
  | none, ds => ds = []
  | some l, ds => rd = none ∧ MarksL e l ds
theorem MarksL.mono {e e' : Env} (he : e.le e') {l : List Nat} {ds : List Deferred} (h : MarksL e l ds) : MarksL e' l ds := by
  induction h with
  | nil => exact .nil
  | cons h1 h2 h3 _ ih =>
    have h0 := he.box _ h1 h2
    exact .cons (he.use _ h1) h0 (by rw [(he.obj _ h1 (by omega)).1]; exact h3) ih
theorem Marks.mono {e e' : Env} (he : e.le e') {rd : Option Nat} {l : Option (List Nat)} {ds : List Deferred} (h : Marks e rd l ds) : Marks e' rd l ds := by
  cases l with
  | none => exact h
  | some l => exact ⟨h.1, h.2.mono he⟩
structure Stands (T : TT) (c : Ctx) (eb : Env) (sl : Nat → A) (of : Nat → Option Ob) (U : Nat → Prop) (nt : Nat) (mk : Option (List Nat)) (a : Act) (e : Env) : Prop where
  os : OSim T c e of
  le : eb.le e
  U : ∀ id, e.U id → U id
  sl : ∀ t, Rep T e (sl t) (a.tmps.getD t undef)
  def_ : Marks e c.rd mk a.defers
  nt : a.tmps.size = nt
def Sim (T : TT) (c : Ctx) (eb : Env) (of : Nat → Option Ob) (n0 nt : Nat) (σ : St) (a : Act) (w : World) : Prop :=
  ∃ e, e.w = w ∧ Stands T c eb (getS σ.sl) (over σ.ob of) (fun id => eb.U id ∨ (n0 ≤ id ∧ id < σ.nx)) nt σ.mks a e
structure Ent where
  dst : Option Nat
  val : A
  wo : List (Nat × Ob)
  rs : List Nat
  ro : List Nat
  lo : Nat
  hi : Nat
def Ent.mk1 (o : Oper) (rs : List Nat) (nx : Nat) (out : Eff) : Ent := ⟨o.dst, out.val, out.wo, rs, out.ro, nx, out.nx⟩
def Ent.skip (o : Oper) (rs : List Nat) (nx : Nat) : Ent := ⟨o.dst, .t [], [], rs, [], nx, nx⟩
def entOp (T : TT) (K : KS) (ops : Array Oper) (sl : Nat → A) (of : Nat → Option Ob) (nx : Nat) (o : Oper) : Option Ent :=
  match o.guard with
  | none => match stepOp T K (evO sl) of nx o with
    | some out => if Nat.ble nx out.nx then some (.mk1 o (o.looksAt ops) nx out) else none
    | none => none
  | some (g, want) => match (ops[g]?).bind (·.dst) with
    | some d => match sl d with
      | .t _ => some (.skip o (o.looksAt ops) nx)
      | .b q => if q = want then (match stepOp T K (evO sl) of nx o with
          | some out => if Nat.ble nx out.nx then some (.mk1 o (o.looksAt ops) nx out) else none
          | none => none) else some (.skip o (o.looksAt ops) nx)
      | _ => none
    | none => none
theorem stepOp_congr {K : KS} {of : Nat → Option Ob} {nx : Nat} {o : Oper} {ev ev' : Operand → A} (h : ∀ x ∈ o.op.operands, ev x = ev' x) : stepOp T K ev of nx o = stepOp T K ev' of nx o := by
  obtain ⟨dst, op, ty, pos, after, guard⟩ := o
  have hp : ∀ (ps : Array (Nat × Operand)), (∀ x ∈ (ps.toList.map (·.2)).toArray, ev x = ev' x) → partsA ev ps.toList = partsA ev' ps.toList := fun ps hps => by
    unfold partsA
    apply List.map_congr_left
    intro p hpm
    rw [hps p.2 (by simpa using ⟨p.1, by simpa using hpm⟩)]
  cases op <;> simp only [stepOp] <;> simp only [Op.operands] at h
  case move x => rw [h x (by simp)]
  case assign x => rw [h x (by simp)]
  case pick q a b => rw [h q (by simp), h a (by simp), h b (by simp)]
  case box el x => rw [h x (by simp)]
  case build t parts => rw [hp parts h]
  case buildSlice t len parts => rw [hp parts h]
  case load t a => rw [h a (by simp)]
  case store t a x => rw [h a (by simp), h x (by simp)]
  case sliceToArrayPointer t x => rw [h x (by simp)]
  case nilCheck x => rw [h x (by simp)]
  case binOp op t x y t2 => rw [h x (by simp), h y (by simp)]
  case unOp op t x => rw [h x (by simp)]
  case convert s t x => rw [h x (by simp)]
  case makeFunc fn first captured =>
    have : captured.toList.map ev = captured.toList.map ev' := List.map_congr_left (fun x hx => h x (by simp; exact .inr (by simpa using hx)))
    rw [this]
  case makeSlice t l k => rw [h l (by simp), h k (by simp)]
  case makeMap t r =>
    have e1 : r.map ev = r.map ev' := by cases r with | none => rfl | some y => simp only [Option.map_some]; rw [h y (by simp)]
    rw [e1]
  case lookup t m k ok => rw [h m (by simp), h k (by simp)]
  case mapUpdate t m k v => rw [h m (by simp), h k (by simp), h v (by simp)]
  case insert t m k v => rw [h m (by simp), h k (by simp), h v (by simp)]
  case slice t x lo hi mx =>
    have e1 : lo.map ev = lo.map ev' := by cases lo with | none => rfl | some y => simp only [Option.map_some]; rw [h y (by simp)]
    have e2 : hi.map ev = hi.map ev' := by cases hi with | none => rfl | some y => simp only [Option.map_some]; rw [h y (by simp)]
    have e3 : mx.map ev = mx.map ev' := by cases mx with | none => rfl | some y => simp only [Option.map_some]; rw [h y (by simp)]
    rw [h x (by simp), e1, e2, e3]
  case fieldAddr s x f => rw [h x (by simp)]
  case field s x f => rw [h x (by simp)]
  case indexAddr t x ix => rw [h x (by simp), h ix (by simp)]
  case index t x ix => rw [h x (by simp), h ix (by simp)]
  case extract x i => rw [h x (by simp)]
  case range t x => rw [h x (by simp)]
  case next x str => rw [h x (by simp)]
  case call k =>
    have e1 : ∀ x ∈ k.args, ev x = ev' x := fun x hx => h x (by unfold Call.operands; simp [hx])
    have e2 : k.args.toList.map ev = k.args.toList.map ev' := List.map_congr_left (fun x hx => e1 x (by simpa using hx))
    unfold callA
    split
    · rename_i f hk
      rw [h f (by unfold Call.operands; simp [hk]), e2]
    · split
      · rename_i hx; rw [e1 _ (by have := arr1 hx; rw [this]; simp)]
      · rfl
    · split
      · rename_i hx; rw [e1 _ (by have := arr1 hx; rw [this]; simp)]
      · rfl
    · split
      · rename_i hx; rw [e1 _ (by have := arr2 hx; rw [this]; simp), e1 _ (by have := arr2 hx; rw [this]; simp)]
      · rfl
    · split
      · rename_i hx; rw [e1 _ (by have := arr2 hx; rw [this]; simp), e1 _ (by have := arr2 hx; rw [this]; simp)]
      · rfl
    · split
      · rename_i hx; rw [e1 _ (by have := arr2 hx; rw [this]; simp), e1 _ (by have := arr2 hx; rw [this]; simp)]
      · rfl
    · split
      · rename_i hx; rw [e1 _ (by have := arr2 hx; rw [this]; simp), e1 _ (by have := arr2 hx; rw [this]; simp)]
      · rfl
    · split
      · rename_i hx; rw [e1 _ (by have := arr2 hx; rw [this]; simp), e1 _ (by have := arr2 hx; rw [this]; simp)]
      · rfl
    · rfl
abbrev WF (rd : Option Nat) : Fence := { Fence.wide with round := rd }
theorem wpI_mono {rd : Option Nat} {m : Nat} {cd : Code} {Q Q' : Exit → Act → World → Prop} {a : Act} {w : World} (hq : ∀ e a w, Q e a w → Q' e a w) (h : cd.wpIn (WF rd) m P Q a w) : cd.wpIn (WF rd) m P Q' a w := wpIn_mono h hq
theorem callsIn_wf {rd : Option Nat} {m : Nat} {f : FuncId} {args : Array Value} {w : World} {R : Ending → World → Prop} (h : Calls P f args w R) : CallsIn (WF rd) m P f args w R := (callsIn_wide (n := m)).2 h
theorem roundIn_wf {rd : Option Nat} {m l : Nat} {f : FuncId} {tmps : Array Value} {asg body : Code} {w : World} {R : Ending → World → Prop} (h : RoundIn Fence.wide 0 P l f tmps asg body w R) : RoundIn (WF rd) m P l f tmps asg body w R := by
  refine ⟨trivial, fun c cs hr => ?_⟩
  exact h.2 c cs (by intro d hd; cases hd)
theorem wpIn_of_does {rd : Option Nat} {m : Nat} {o : Oper} {a : Act} {w : World} {next : Act → World → Prop} {Q : Exit → Act → World → Prop} {R : Value → World → Prop} (hd : ∀ c, o.op ≠ .defer c)
    (h : Does P (execOp a.eval o) w R) (hn : ∀ x w', R x w' → next (a.put o.dst x) w') : o.wpIn (WF rd) m P a w next Q := by
  refine ⟨fun _ _ => trivial, ?_⟩
  rw [Oper.semAt_eq _ _ _ hd]
  rcases h with ⟨x, w', h, hr⟩ | ⟨w', h, hr⟩ | ⟨f, args, w1, h, hc⟩ | ⟨l, f, tmps, asg, body, w1, h, hc⟩
  · rw [h]; exact hn _ _ hr
  · rw [h]; exact hn _ _ hr
  · rw [h]
    refine ⟨fun q => (by cases q), CallsIn.mono (callsIn_wf hc) fun en w' he => ?_⟩
    obtain ⟨x, rfl, hr⟩ := he
    exact hn _ _ hr
  · rw [h]
    refine ⟨fun q => (by cases q), (roundIn_wf hc).mono fun en w' he => ?_⟩
    obtain ⟨x, rfl, hr⟩ := he
    exact hn _ _ hr
theorem stepOp_defer {K : KS} {ev : Operand → A} {nx : Nat} {o : Oper} {E : Eff} (h : stepOp T K ev of nx o = some E) : ∀ c, o.op ≠ .defer c := by
  intro c hc
  unfold stepOp at h
  rw [hc] at h
  cases h
theorem entOp_ok {rd : Option Nat} {m : Nat} (hT : TOK T P) {K : KS} (hK : KOK P T K) {ops : Array Oper} {Q : Exit → Act → World → Prop} {i : Nat} {o : Oper} (hi : ops[i]? = some o) {sl : Nat → A} {nx : Nat} {E : Ent} {a : Act} (h : OSim T c e of') (hr : entOp T K ops sl of nx o = some E)
    (ho : ∀ id ∈ E.ro, of' id = of id) (hu : ∀ id, E.lo ≤ id → id < E.hi → ¬ e.U id) (hs : ∀ t ∈ E.rs, Rep T e (sl t) (a.tmps.getD t undef)) {K' : Act → World → Prop}
    (hK' : ∀ x w', LeftN T c e of' E.lo ⟨E.val, E.wo, E.ro, E.hi⟩ x w' → K' (a.put E.dst x) w') : wpOpIn (WF rd) m P ops Q i K' a e.w := by
  have go : (match stepOp T K (evO sl) of nx o with
      | some out => if Nat.ble nx out.nx then some (Ent.mk1 o (o.looksAt ops) nx out) else none
      | none => none) = some E → Region.wanted o (yielded ops a.tmps) = true → wpOpIn (WF rd) m P ops Q i K' a e.w := by
    intro hg hw
    split at hg <;> try (cases hg; done)
    rename_i out hst
    split at hg <;> try (cases hg; done)
    injection hg with hg; subst hg
    unfold wpOpIn
    simp only [hi, hw, if_true]
    have hmem : ∀ t, .tmp t ∈ o.op.operands → t ∈ o.looksAt ops := fun t ht => by
      unfold Oper.looksAt
      refine List.mem_append_left _ (List.mem_filterMap.2 ⟨.tmp t, by simpa using ht, rfl⟩)
    rw [stepOp_congr (ev' := evO fun t => if t ∈ o.looksAt ops then sl t else .x) (fun x hx => by
      cases x with
      | tmp t => simp only [evO]; rw [if_pos (hmem t hx)]
      | _ => rfl)] at hst
    refine (wpIn_of_does (stepOp_defer hst) (stepOp_ok hT hK h hst ho hu (fun _ => rfl) (fun x => evO_ok (fun t ht => ?_))) (fun x w' hl => hK' x w' hl))
    subst ht
    split
    · rename_i hin; exact hs t hin
    · trivial
  have skip : E = Ent.skip o (o.looksAt ops) nx → Region.wanted o (yielded ops a.tmps) = false → wpOpIn (WF rd) m P ops Q i K' a e.w := by
    intro hE hw
    subst hE
    unfold wpOpIn
    simp only [hi, hw, Bool.false_eq_true, if_false]
    refine ⟨fun _ _ => trivial, ?_⟩
    exact hK' undef e.w ⟨e, rfl, h, Env.le.refl e, fun _ hu => .inl hu, ⟨#[], rfl, rfl, fun i v x hv => by simp at hv⟩⟩
  have hrs : E.rs = o.looksAt ops := by
    unfold entOp at hr
    repeat' split at hr
    all_goals first | (cases hr; done) | (injection hr with hr; subst hr; rfl)
  rw [hrs] at hs
  unfold entOp at hr
  split at hr
  · rename_i hg
    exact go hr (by simp [Region.wanted, hg])
  · rename_i g want hg
    split at hr <;> try (cases hr; done)
    rename_i d hd
    have hdm : d ∈ o.looksAt ops := by simp [Oper.looksAt, hg, hd]
    have hsd := hs d hdm
    split at hr <;> try (cases hr; done)
    · rename_i l hl
      injection hr with hr
      refine skip hr.symm ?_
      rw [hl] at hsd
      obtain ⟨xs, hxs, _⟩ := hsd
      have : yielded ops a.tmps g = none := by
        unfold yielded
        rw [hd]
        simp only [Option.bind_some]
        cases hx : a.tmps[d]? with
        | none => rfl
        | some v =>
          have : a.tmps.getD d undef = v := by simp [hx]
          rw [this] at hxs; subst hxs; rfl
      simp [Region.wanted, hg, this]
    · rename_i q hq
      rw [hq] at hsd
      have hv := rep_b_inv hsd
      have hy : yielded ops a.tmps g = some q := by
        unfold yielded
        rw [hd]
        simp only [Option.bind_some]
        cases hx : a.tmps[d]? with
        | none => simp [hx, undef] at hv
        | some v =>
          have : a.tmps.getD d undef = v := by simp [hx]
          rw [this] at hv; subst hv; rfl
      split at hr
      · rename_i hqw
        exact go hr (by simp [Region.wanted, hg, hy, hqw])
      · rename_i hqw
        injection hr with hr
        exact skip hr.symm (by simp [Region.wanted, hg, hy, hqw])
theorem entOp_lo {K : KS} {ops : Array Oper} {sl : Nat → A} {nx : Nat} {o : Oper} {E : Ent} (hr : entOp T K ops sl of nx o = some E) : E.lo = nx ∧ nx ≤ E.hi ∧ E.dst = o.dst ∧ E.rs = o.looksAt ops := by
  unfold entOp at hr
  repeat' split at hr
  all_goals first | (cases hr; done) | (injection hr with hr; subst hr; exact ⟨rfl, Nat.le_refl _, rfl, rfl⟩) | (rename_i hb; injection hr with hr; subst hr; exact ⟨rfl, Nat.le_of_ble_eq_true hb, rfl, rfl⟩)
end Go.Vm

namespace Go.Vm
open Go.RowKit
variable {P : Program} {T : TT} {c : Ctx} {e eb : Env} {of of' : Nat → Option Ob}
section
variable {β : Type}
def wr (f : Nat → β) : List (Nat × β) → Nat → β
  | [] => f
  | (k, v) :: r => wr (upd f k v) r
def keys (l : List (Nat × β)) : List Nat := l.map (·.1)
theorem wr_other : ∀ (l : List (Nat × β)) (f : Nat → β) (t : Nat), t ∉ keys l → wr f l t = f t := by
  intro l
  induction l with
  | nil => intro f t _; rfl
  | cons p r ih =>
    intro f t h
    obtain ⟨k, v⟩ := p
    simp only [keys, List.map_cons, List.mem_cons, not_or] at h
    simp only [wr]
    rw [ih _ _ h.2, upd_ne _ _ h.1]
theorem wr_local : ∀ (l : List (Nat × β)) (f g : Nat → β) (t : Nat), (t ∉ keys l → f t = g t) → wr f l t = wr g l t := by
  intro l
  induction l with
  | nil => intro f g t h; exact h (by simp [keys])
  | cons p r ih =>
    intro f g t h
    obtain ⟨k, v⟩ := p
    simp only [wr]
    refine ih _ _ t (fun ht => ?_)
    by_cases hk : t = k
    · subst hk; simp
    · rw [upd_ne _ _ hk, upd_ne _ _ hk]
      exact h (by simp only [keys, List.map_cons, List.mem_cons, not_or]; exact ⟨hk, ht⟩)
theorem wr_comm (f : Nat → β) (l m : List (Nat × β)) (h : ∀ t, t ∈ keys l → t ∉ keys m) : wr (wr f l) m = wr (wr f m) l := by
  funext t
  by_cases ht : t ∈ keys l
  · rw [wr_other m _ _ (h t ht)]
    exact wr_local l _ _ t (fun h' => absurd ht h')
  · rw [wr_other l _ _ ht]
    exact wr_local m _ _ t (fun _ => wr_other l _ _ ht)
def foldW (D : Nat → Bool) : Nat → List (List (Nat × β)) → (Nat → β) → Nat → β
  | _, [], f => f
  | k, l :: r, f => foldW D (k + 1) r (if D k then wr f l else f)
theorem foldW_wr (D : Nat → Bool) (m : List (Nat × β)) : ∀ (Ls : List (List (Nat × β))) (k : Nat) (f : Nat → β), (∀ q l, Ls[q]? = some l → D (k + q) = true → ∀ t, t ∈ keys m → t ∉ keys l) →
    foldW D k Ls (wr f m) = wr (foldW D k Ls f) m := by
  intro Ls
  induction Ls with
  | nil => intro k f _; rfl
  | cons l r ih =>
    intro k f h
    simp only [foldW]
    have hr := fun f => ih (k + 1) f (fun q l' hq hD => h (q + 1) l' (by simpa using hq) (by rw [← hD]; congr 1; omega))
    by_cases hD : D k = true
    · rw [if_pos hD, if_pos hD, ← hr, wr_comm _ _ _ (h 0 l rfl hD)]
    · rw [if_neg hD, if_neg hD, hr]
theorem foldW_congr {D D' : Nat → Bool} : ∀ (Ls : List (List (Nat × β))) (k : Nat) (f : Nat → β), (∀ q, q < Ls.length → D (k + q) = D' (k + q)) → foldW D k Ls f = foldW D' k Ls f := by
  intro Ls
  induction Ls with
  | nil => intro k f _; rfl
  | cons l r ih =>
    intro k f h
    simp only [foldW]
    rw [show D k = D' k from h 0 (by simp), ih (k + 1) _ (fun q hq => by have := h (q + 1) (by simpa using hq); rwa [show k + (q + 1) = k + 1 + q by omega] at this)]
theorem foldW_insert {D : Nat → Bool} : ∀ (Ls : List (List (Nat × β))) (k p : Nat) (f : Nat → β) (l : List (Nat × β)), Ls[p]? = some l → D (k + p) = false → (∀ q l', p < q → Ls[q]? = some l' → D (k + q) = true → ∀ t, t ∈ keys l → t ∉ keys l') →
    foldW (fun j => j == k + p || D j) k Ls f = wr (foldW D k Ls f) l := by
  intro Ls
  induction Ls with
  | nil => intro k p f l h; simp at h
  | cons l0 r ih =>
    intro k p f l h hD hd
    cases p with
    | zero =>
      simp only [List.getElem?_cons_zero, Option.some.injEq] at h
      subst h
      simp only [Nat.add_zero] at hD
      simp only [foldW, Nat.add_zero, beq_self_eq_true, Bool.true_or, if_true, hD, Bool.false_eq_true, if_false]
      rw [foldW_congr (D' := D) r (k + 1) _ (fun q _ => by
        have : (k + 1 + q == k) = false := by simp; omega
        simp [this])]
      exact foldW_wr D l0 r (k + 1) f (fun q l' hq hD' => hd (q + 1) l' (by omega) (by simpa using hq) (by rw [← hD']; congr 1; omega))
    | succ p =>
      have hk : (k == k + (p + 1)) = false := by simp
      simp only [foldW, hk, Bool.false_or]
      have := ih (k + 1) p (if D k then wr f l0 else f) l (by simpa using h) (by rw [← hD]; congr 1; omega) (fun q l' hpq hq hD' => hd (q + 1) l' (by omega) (by simpa using hq) (by rw [← hD']; congr 1; omega))
      rw [← this]
      refine foldW_congr r (k + 1) _ (fun q _ => ?_)
      rw [show k + 1 + p = k + (p + 1) by omega]
theorem foldW_read {D D' : Nat → Bool} {t : Nat} : ∀ (Ls : List (List (Nat × β))) (k : Nat) (f g : Nat → β), f t = g t → (∀ q l, Ls[q]? = some l → t ∈ keys l → D (k + q) = D' (k + q)) → foldW D k Ls f t = foldW D' k Ls g t := by
  intro Ls
  induction Ls with
  | nil => intro k f g h _; exact h
  | cons l r ih =>
    intro k f g h hd
    simp only [foldW]
    refine ih (k + 1) _ _ ?_ (fun q l' hq ht => by have := hd (q + 1) l' (by simpa using hq) ht; rwa [show k + (q + 1) = k + 1 + q by omega] at this)
    by_cases ht : t ∈ keys l
    · have := hd 0 l rfl ht
      rw [Nat.add_zero] at this
      rw [this]
      by_cases hD : D' k = true
      · rw [if_pos hD, if_pos hD]; exact wr_local l _ _ t (fun h' => absurd ht h')
      · rw [if_neg hD, if_neg hD]; exact h
    · have h1 : (if D k = true then wr f l else f) t = f t := by split; exact wr_other l _ _ ht; rfl
      have h2 : (if D' k = true then wr g l else g) t = g t := by split; exact wr_other l _ _ ht; rfl
      rw [h1, h2, h]
theorem foldW_none {D : Nat → Bool} : ∀ (Ls : List (List (Nat × β))) (k : Nat) (f : Nat → β), (∀ j, k ≤ j → D j = false) → foldW D k Ls f = f := by
  intro Ls
  induction Ls with
  | nil => intro k f _; rfl
  | cons l r ih => intro k f h; simp only [foldW]; rw [h k (Nat.le_refl _)]; exact ih (k + 1) f (fun j hj => h j (by omega))
theorem foldW_prefix : ∀ (Ls : List (List (Nat × β))) (k p : Nat) (f : Nat → β), foldW (fun j => decide (j < k + p)) k Ls f = (Ls.take p).foldl wr f := by
  intro Ls
  induction Ls with
  | nil => intro k p f; simp [foldW]
  | cons l r ih =>
    intro k p f
    cases p with
    | zero => simp only [List.take_zero, List.foldl_nil, Nat.add_zero]; exact foldW_none _ _ _ (fun j hj => by simp; omega)
    | succ p =>
      simp only [foldW, List.take_succ_cons, List.foldl_cons]
      rw [if_pos (by simp), ← ih (k + 1) p]
      refine foldW_congr r (k + 1) _ (fun q _ => ?_)
      rw [show k + (p + 1) = k + 1 + p by omega]
end
end Go.Vm

namespace Go.Vm
open Go.RowKit
variable {P : Program} {T : TT} {c : Ctx} {e eb : Env} {of of' : Nat → Option Ob}
def wS (E : Ent) : List (Nat × A) :=
  match E.dst with
  | some d => [(d, E.val)]
  | none => []
def wO (E : Ent) : List (Nat × Option Ob) := E.wo.map fun p => (p.1, some p.2)
def seeN {α : Type} (n : Nat) (k : Nat → α) : α := Nat.rec (k 0) (fun m _ => k (Nat.succ m)) n
theorem seeN_eq {α : Type} (n : Nat) (k : Nat → α) : seeN n k = k n := by cases n <;> rfl
def seeI {α : Type} (i : Int) (k : Int → α) : α :=
  match i with
  | .ofNat n => seeN n fun n => k (.ofNat n)
  | .negSucc n => seeN n fun n => k (.negSucc n)
theorem seeI_eq {α : Type} (i : Int) (k : Int → α) : seeI i k = k i := by
  cases i with
  | ofNat n => exact seeN_eq n fun n => k (.ofNat n)
  | negSucc n => exact seeN_eq n fun n => k (.negSucc n)
def seeA {α : Type} (a : A) (k : A → α) : α :=
  match a with
  | .i kd n => seeI n fun n => k (.i kd n)
  | .b q => match q with
    | true => k (.b true)
    | false => k (.b false)
  | a => k a
theorem seeA_eq {α : Type} (a : A) (k : A → α) : seeA a k = k a := by
  cases a with
  | i kd n => exact seeI_eq n fun n => k (.i kd n)
  | b q => cases q <;> rfl
  | _ => rfl
def seeL {α β : Type} (l : List β) (k : List β → α) : α :=
  match l with
  | [] => k []
  | a :: r => k (a :: r)
theorem seeL_eq {α β : Type} (l : List β) (k : List β → α) : seeL l k = k l := by cases l <;> rfl
def St.app (σ : St) (E : Ent) : St :=
  { sl := match E.dst with
      | some d => (d, E.val) :: σ.sl
      | none => σ.sl
    ob := setL σ.ob E.wo, rd := addR σ.ob E.ro σ.rd, nx := E.hi, mks := σ.mks }
theorem put_wr : ∀ (l : List (Nat × Ob)) (f : Nat → Option Ob), put f l = wr f (l.map fun p => (p.1, some p.2)) := by
  intro l
  induction l with
  | nil => intro f; rfl
  | cons p r ih => intro f; exact ih _
theorem getS_app (σ : St) (E : Ent) : getS (σ.app E).sl = wr (getS σ.sl) (wS E) := by
  unfold St.app wS
  cases E.dst with
  | none => rfl
  | some d => exact getS_cons _ _ _
theorem over_app (σ : St) (E : Ent) (of : Nat → Option Ob) : over (σ.app E).ob of = wr (over σ.ob of) (wO E) := by
  show over (setL σ.ob E.wo) of = _
  rw [over_setL, put_wr]; rfl
theorem Stands.step {sl : Nat → A} {U : Nat → Prop} {nt : Nat} {mk : Option (List Nat)} {a : Act} (h : Stands T c eb sl of U nt mk a e) {E : Ent} {x : Value} {w' : World} (hl : LeftN T c e of E.lo ⟨E.val, E.wo, E.ro, E.hi⟩ x w') (hd : ∀ d, E.dst = some d → d < nt) :
    ∃ e', e'.w = w' ∧ Stands T c eb (wr sl (wS E)) (wr of (wO E)) (fun id => U id ∨ (E.lo ≤ id ∧ id < E.hi)) nt mk (a.put E.dst x) e' := by
  obtain ⟨e', q1, q2, q3, q4, q5⟩ := hl
  refine ⟨e', q1, ?_⟩
  have q2' : OSim T c e' (wr of (wO E)) := by
    have q2 : OSim T c e' (put of E.wo) := q2
    rw [put_wr] at q2; exact q2
  refine ⟨q2', h.le.trans q3, fun id hid => (q4 id hid).imp (h.U id) (fun q => q), fun t => ?_, ?_, ?_⟩
  · unfold wS
    cases hdst : E.dst with
    | none => exact (h.sl t).mono q3
    | some d =>
      have hdl : d < a.tmps.size := by rw [h.nt]; exact hd d hdst
      show Rep T e' (upd sl d E.val t) ((a.tmps.setIfInBounds d x).getD t undef)
      by_cases ht : t = d
      · subst ht
        rw [upd_same]
        have : (a.tmps.setIfInBounds t x).getD t undef = x := by simp [hdl]
        rw [this]; exact q5
      · rw [upd_ne _ _ ht]
        have : (a.tmps.setIfInBounds d x).getD t undef = a.tmps.getD t undef := by simp [Array.getElem?_setIfInBounds_ne (Ne.symm ht)]
        rw [this]; exact (h.sl t).mono q3
  · cases E.dst <;> exact h.def_.mono q3
  · cases E.dst with
    | none => exact h.nt
    | some d => show (a.tmps.setIfInBounds d x).size = nt; rw [Array.size_setIfInBounds]; exact h.nt
def okDst (nt : Nat) (o : Oper) : Bool :=
  match o.dst with
  | some d => Nat.blt d nt
  | none => true
def runOps (T : TT) (K : KS) (ops : Array Oper) (of : Nat → Option Ob) : List Oper → St → Option (List Ent × St)
  | [], σ => some ([], σ)
  | o :: r, σ =>
    match entOp T K ops (getS σ.sl) (over σ.ob of) σ.nx o with
    | some E => seeA E.val fun v => seeN E.hi fun h => seeL (addR σ.ob E.ro σ.rd) fun rd =>
      match runOps T K ops of r { sl := match E.dst with
                                    | some d => (d, v) :: σ.sl
                                    | none => σ.sl
                                  ob := setL σ.ob E.wo, rd := rd, nx := h, mks := σ.mks } with
      | some (Es, σ') => some ({ E with val := v, hi := h } :: Es, σ')
      | none => none
    | none => none
theorem runOps_cons {K : KS} {ops : Array Oper} {of : Nat → Option Ob} {o : Oper} {r : List Oper} {σ : St} : runOps T K ops of (o :: r) σ =
    match entOp T K ops (getS σ.sl) (over σ.ob of) σ.nx o with
    | some E => (match runOps T K ops of r (σ.app E) with
      | some (Es, σ') => some (E :: Es, σ')
      | none => none)
    | none => none := by
  simp only [runOps, seeA_eq, seeN_eq, seeL_eq]
  rfl
structure Fits (of of' : Nat → Option Ob) (eb : Env) (n0 : Nat) (σ : St) : Prop where
  rd : ∀ id ∈ σ.rd, of' id = of id
  fr : ∀ id, n0 ≤ id → id < σ.nx → ¬ eb.U id
def St.le (σ σ' : St) : Prop := (∀ id ∈ σ.rd, id ∈ σ'.rd) ∧ σ.nx ≤ σ'.nx
theorem St.le.refl (σ : St) : σ.le σ := ⟨fun _ h => h, Nat.le_refl _⟩
theorem St.le.trans {a b c : St} (h : a.le b) (k : b.le c) : a.le c := ⟨fun id hid => k.1 id (h.1 id hid), Nat.le_trans h.2 k.2⟩
theorem Fits.mono {eb : Env} {n0 : Nat} {σ σ' : St} (h : Fits of of' eb n0 σ') (hle : σ.le σ') : Fits of of' eb n0 σ := ⟨fun id hid => h.rd id (hle.1 id hid), fun id h1 h2 => h.fr id h1 (Nat.lt_of_lt_of_le h2 hle.2)⟩
theorem app_le {K : KS} {ops : Array Oper} {sl : Nat → A} {o : Oper} {E : Ent} {σ : St} (hr : entOp T K ops sl of σ.nx o = some E) : σ.le (σ.app E) := ⟨addR_mono _ _ _, (entOp_lo hr).2.1⟩
theorem runOps_le {K : KS} {ops : Array Oper} : ∀ (l : List Oper) (σ σ' : St) (Es : List Ent), runOps T K ops of l σ = some (Es, σ') → σ.le σ' := by
  intro l
  induction l with
  | nil => intro σ σ' Es h; simp only [runOps, Option.some.injEq, Prod.mk.injEq] at h; rw [h.2]; exact St.le.refl _
  | cons o r ih =>
    intro σ σ' Es h
    rw [runOps_cons] at h
    split at h <;> try (cases h; done)
    rename_i E hE
    split at h <;> try (cases h; done)
    rename_i Es' σ2 hrec
    simp only [Option.some.injEq, Prod.mk.injEq] at h
    obtain ⟨-, rfl⟩ := h
    exact (app_le hE).trans (ih _ _ _ hrec)
theorem over_agree {ob : Tr} {rd ro : List Nat} {l : List Nat} (h : ∀ id ∈ rd, of' id = of id) (hm : ∀ id ∈ addR ob ro l, id ∈ rd) : ∀ id ∈ ro, over ob of' id = over ob of id := by
  intro id hid
  unfold over
  rcases addR_mem ob ro l id hid with ⟨o, ho⟩ | h'
  · rw [ho]
  · cases ob.get id with
    | some o => rfl
    | none => exact h id (hm id h')
theorem plain_ok {rd : Option Nat} {m : Nat} (hT : TOK T P) {K : KS} (hK : KOK P T K) {ops : Array Oper} {Q : Exit → Act → World → Prop} {n0 nt : Nat} : ∀ (l : List Oper) (k : Nat) (σ σ' : St) (Es : List Ent) (a : Act) (w : World), (∀ j, l[j]? = ops[k + j]? ∨ l.length ≤ j) → (∀ o ∈ l, okDst nt o = true) →
    runOps T K ops of l σ = some (Es, σ') → n0 ≤ σ.nx → Fits of of' eb n0 σ' → Sim T c eb of' n0 nt σ a w → (∀ a' w', Sim T c eb of' n0 nt σ' a' w' → Q .normal a' w') → wpOpsIn (WF rd) m P ops Q (List.range' k l.length) a w := by
  intro l
  induction l with
  | nil =>
    intro k σ σ' Es a w _ _ hr _ _ hs hQ
    simp only [runOps, Option.some.injEq, Prod.mk.injEq] at hr
    obtain ⟨-, rfl⟩ := hr
    exact hQ a w hs
  | cons o r ih =>
    intro k σ σ' Es a w hl hd hr hn hfit hs hQ
    have h0 : ops[k]? = some o := by
      rcases hl 0 with h | h
      · simpa using h.symm
      · simp at h
    rw [runOps_cons] at hr
    split at hr <;> try (cases hr; done)
    rename_i E hE
    split at hr <;> try (cases hr; done)
    rename_i Es' σ2 hrec
    simp only [Option.some.injEq, Prod.mk.injEq] at hr
    obtain ⟨rfl, rfl⟩ := hr
    have hle := runOps_le _ _ _ _ hrec
    obtain ⟨k1, k2, k3, k4⟩ := entOp_lo hE
    obtain ⟨e, rfl, hst⟩ := hs
    rw [List.length_cons, List.range'_succ, wpOpsIn_cons]
    refine entOp_ok hT hK h0 hst.os hE (over_agree hfit.rd hle.1) (fun id h1 h2 hu => ?_) (fun t _ => hst.sl t) (fun x w' hl' => ?_)
    · rcases hst.U id hu with h3 | h3
      · exact hfit.fr id (by omega) (Nat.lt_of_lt_of_le h2 hle.2) h3
      · omega
    · obtain ⟨e', rfl, hst'⟩ := hst.step hl' (fun d hd' => by
        have := hd o (by simp)
        unfold okDst at this
        rw [← k3, hd'] at this
        simpa [Nat.blt_eq] using this)
      refine ih (k + 1) (σ.app E) _ _ _ _ (fun j => ?_) (fun o' ho' => hd o' (by simp [ho'])) hrec (Nat.le_trans hn k2) hfit ⟨e', rfl, ?_⟩ hQ
      · rcases hl (j + 1) with h | h
        · left; simpa [Nat.add_assoc, Nat.add_comm 1 j] using h
        · right; simp at h; omega
      · rw [getS_app, over_app]
        refine ⟨hst'.os, hst'.le, fun id hid => ?_, hst'.sl, hst'.def_, hst'.nt⟩
        rcases hst'.U id hid with (h1 | h1) | h1
        · exact .inl h1
        · exact .inr ⟨h1.1, Nat.lt_of_lt_of_le h1.2 k2⟩
        · exact .inr ⟨by omega, h1.2⟩
theorem wp_plain {rd : Option Nat} {m : Nat} (hT : TOK T P) {K : KS} (hK : KOK P T K) {id : Nat} {ops : Array Oper} {Q : Exit → Act → World → Prop} {n0 nt : Nat} {σ σ' : St} {Es : List Ent} {a : Act} {w : World} (hd : ops.toList.all (okDst nt) = true) (hr : runOps T K ops of ops.toList σ = some (Es, σ')) (hn : n0 ≤ σ.nx) (hfit : Fits of of' eb n0 σ')
    (hs : Sim T c eb of' n0 nt σ a w) (hQ : ∀ a' w', Sim T c eb of' n0 nt σ' a' w' → Q .normal a' w') : (Code.region id ops false).wpIn (WF rd) m P Q a w := by
  refine wpIn_region ?_
  have := plain_ok (rd := rd) (m := m) hT hK (Q := Q) ops.toList 0 σ σ' Es a w (fun j => .inl (by simp)) (List.all_eq_true.1 hd) hr hn hfit hs hQ
  rwa [Array.length_toList, ← List.range_eq_range'] at this
end Go.Vm
end
