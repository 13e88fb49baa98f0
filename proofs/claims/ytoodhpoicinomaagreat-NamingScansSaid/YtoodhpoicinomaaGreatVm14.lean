/- What the operations of a program do, shown once for all programs; and numbers. -/
import Derived.Test.YtoodhpoicinomaaGreatVm13
import Derived.Maps.RangeRun
set_option linter.constructorNameAsVariable false
set_option linter.unusedVariables false
set_option linter.unusedSimpArgs false
noncomputable section
namespace Go.Vm
open Go.RowKit
variable {P : Program} {T : TT} {c : Ctx} {e : Env} {of : Nat → Option Ob}
theorem arr32 {α : Type} {a : Array α} (h : a.size = 32) : ∃ u0 u1 u2 u3 u4 u5 u6 u7 u8 u9 u10 u11 u12 u13 u14 u15 u16 u17 u18 u19 u20 u21 u22 u23 u24 u25 u26 u27 u28 u29 u30 u31, a = #[u0, u1, u2, u3, u4, u5, u6, u7, u8, u9, u10, u11, u12, u13, u14, u15, u16, u17, u18, u19, u20, u21, u22, u23, u24, u25, u26, u27, u28, u29, u30, u31] := by
  obtain ⟨l⟩ := a
  simp only [List.size_toArray] at h
  rcases l with _ | ⟨x0, l⟩; · cases h
  rcases l with _ | ⟨x1, l⟩; · cases h
  rcases l with _ | ⟨x2, l⟩; · cases h
  rcases l with _ | ⟨x3, l⟩; · cases h
  rcases l with _ | ⟨x4, l⟩; · cases h
  rcases l with _ | ⟨x5, l⟩; · cases h
  rcases l with _ | ⟨x6, l⟩; · cases h
  rcases l with _ | ⟨x7, l⟩; · cases h
  rcases l with _ | ⟨x8, l⟩; · cases h
  rcases l with _ | ⟨x9, l⟩; · cases h
  rcases l with _ | ⟨x10, l⟩; · cases h
  rcases l with _ | ⟨x11, l⟩; · cases h
  rcases l with _ | ⟨x12, l⟩; · cases h
  rcases l with _ | ⟨x13, l⟩; · cases h
  rcases l with _ | ⟨x14, l⟩; · cases h
  rcases l with _ | ⟨x15, l⟩; · cases h
  rcases l with _ | ⟨x16, l⟩; · cases h
  rcases l with _ | ⟨x17, l⟩; · cases h
  rcases l with _ | ⟨x18, l⟩; · cases h
  rcases l with _ | ⟨x19, l⟩; · cases h
  rcases l with _ | ⟨x20, l⟩; · cases h
  rcases l with _ | ⟨x21, l⟩; · cases h
  rcases l with _ | ⟨x22, l⟩; · cases h
  rcases l with _ | ⟨x23, l⟩; · cases h
  rcases l with _ | ⟨x24, l⟩; · cases h
  rcases l with _ | ⟨x25, l⟩; · cases h
  rcases l with _ | ⟨x26, l⟩; · cases h
  rcases l with _ | ⟨x27, l⟩; · cases h
  rcases l with _ | ⟨x28, l⟩; · cases h
  rcases l with _ | ⟨x29, l⟩; · cases h
  rcases l with _ | ⟨x30, l⟩; · cases h
  rcases l with _ | ⟨x31, l⟩; · cases h
  cases l with
  | nil => exact ⟨_, _, _, _, _, _, _, _, _, _, _, _, _, _, _, _, _, _, _, _, _, _, _, _, _, _, _, _, _, _, _, _, rfl⟩
  | cons y l => simp at h
def Done (es : List (V × V × Bool)) (ms : List MapEntry) (seen : List Nat) (done : List (V × V × Bool)) : Prop :=
  done.Perm (((es.zip ms).filter fun p => seen.contains p.2.born).map fun p => (p.1.1, p.1.2.1, true))
end Go.Vm

namespace Go.Vm
open Go.RowKit
variable {P : Program} {T : TT} {c : Ctx} {e : Env} {of : Nat → Option Ob}
def Env.point (e : Env) (id b : Nat) : Env := { w := e.w, ι := upd e.ι id (some (b, 0)), S := e.S, bn := upd e.bn id 0, U := fun j => j = id ∨ e.U j, ty := upd e.ty id 0, ln := e.ln, G := e.G }
theorem OSim.point (h : OSim T c e of) {id b : Nat} (hu : ¬ e.U id) (hb : b < e.w.heap.size) : OSim T c (e.point id b) of := by
  have ne : ∀ j, e.U j → j ≠ id := fun j hj q => hu (q ▸ hj)
  have hle : e.le (e.point id b) := by
    refine ⟨fun b i hs => ⟨hs, fun x hx => hx⟩, fun _ hj => .inr hj, fun j hj _ => ⟨upd_ne _ _ (ne j hj), rfl, fun _ _ _ => rfl⟩, fun j hj h0 => ?_, fun j hj => ?_, fun j hj => upd_ne _ _ (ne j hj), Nat.le_refl _, fun _ _ => rfl⟩
    · show upd e.bn id 0 j = 0
      rw [upd_ne _ _ (ne j hj)]; exact h0
    · show _ ≤ upd e.bn id 0 j
      rw [upd_ne _ _ (ne j hj)]; exact Nat.le_refl _
  have ι' : ∀ j, (of j).isSome → (e.point id b).ι j = e.ι j := fun j hj => by
    obtain ⟨o, ho⟩ := Option.isSome_iff_exists.1 hj
    exact upd_ne _ _ (ne j (h.ok j o ho).use)
  refine ⟨fun j o ho => (h.ok j o ho).keep hle (upd_ne _ _ (ne j (h.ok j o ho).use)) (fun _ _ _ => rfl) (fun _ _ _ _ hs => hs) (fun _ _ _ _ hG => ⟨hG, rfl, fun _ hs => hs⟩), fun i j b1 o1 b2 o2 hi hj hb1 hb2 hij => ?_, fun j b1 o1 hj hb1 => ?_, fun j b1 o1 hj hb1 => ?_, h.slt, h.s0, h.snew, h.os, h.tape, h.output, h.size, h.block, ⟨fun a b1 hG j b2 o hj hb2 => ?_, h.g.uniq, h.g.own, h.g.lt⟩⟩
  · rw [ι' i hi] at hb1; rw [ι' j hj] at hb2
    exact h.sep _ _ _ _ _ _ hi hj hb1 hb2 hij
  · rw [ι' j hj] at hb1
    exact h.own _ _ _ hj hb1
  · have hb1 : upd e.ι id (some (b, 0)) j = some (b1, o1) := hb1
    by_cases hji : j = id
    · subst hji; rw [upd_same] at hb1; cases hb1; exact hb
    · rw [upd_ne _ _ hji] at hb1
      exact h.lt _ _ _ (hj.resolve_left hji) hb1
  · rw [ι' j hj] at hb2
    exact h.g.sep _ _ hG _ _ _ hj hb2
def Env.mbi (w : World) (S G : Nat → Nat → Prop) (bx bo it t : Nat) : Env := (Env.mbx w S G 0 1 bx bo t).point 2 it
theorem mbi_norm {a0 b0 t mt kt st el bx bo it : Nat} {done : List (V × V × Bool)} (hk : MapBox T t mt) (hab0 : a0 ≠ b0) (h : OSim T c e (mbx a0 b0 t kt st el done)) (h0 : e.ι a0 = some (bx, 0)) (h1 : e.ι b0 = some (bo, 0)) (hit : it < e.w.heap.size) :
    OSim T c (Env.mbi e.w e.S e.G bx bo it t) (mbx 0 1 t kt st el done) :=
  (mbx_norm hk hab0 (show (0 : Nat) ≠ 1 by decide) h h0 h1).point (by rintro (q | q) <;> cases q) hit
theorem mbi_U {w : World} {S G : Nat → Nat → Prop} {bx bo it t : Nat} (id : Nat) : (Env.mbi w S G bx bo it t).U id ↔ id = 0 ∨ id = 1 ∨ id = 2 := by
  show (id = 2 ∨ (id = 0 ∨ id = 1)) ↔ _
  omega
theorem mbi_le {w : World} {S : Nat → Nat → Prop} {e' : Env} (hle : (Env.bare w S).le e') {G : Nat → Nat → Prop} {bx bo it t : Nat} : (Env.bare w S).le (Env.mbi e'.w e'.S G bx bo it t) :=
  ⟨hle.S, fun _ q => q.elim, fun _ q => q.elim, fun _ q => q.elim, fun _ q => q.elim, fun _ q => q.elim, hle.grow, hle.keep⟩
theorem mbi_p0 {w : World} {S G : Nat → Nat → Prop} {bx bo it t : Nat} : Rep T (Env.mbi w S G bx bo it t) (.p 0 t []) (.pointer (some ⟨bx, 0, none⟩)) :=
  RA.r ⟨bx, 0, .inr (.inl rfl), rfl, rfl, (by show Pth T t [] t 0; exact .nil), rfl⟩ rfl .nil
theorem mbi_p2 {w : World} {S G : Nat → Nat → Prop} {bx bo it t : Nat} : Rep T (Env.mbi w S G bx bo it t) (.p 2 0 []) (.pointer (some ⟨it, 0, none⟩)) :=
  RA.r ⟨it, 0, .inl rfl, rfl, rfl, (by show Pth T 0 [] 0 0; exact .nil), rfl⟩ rfl .nil
end Go.Vm

namespace Go.Vm
open Go.RowKit
theorem filter_one {α β : Type} [DecidableEq β] (f : α → β) (p p' : α → Bool) : ∀ (L : List α) (a : α), (L.map f).Nodup → a ∈ L → p a = false → (∀ y ∈ L, p' y = (p y || decide (f y = f a))) → (L.filter p').Perm (a :: L.filter p) := by
  intro L
  induction L with
  | nil => intro a _ h; cases h
  | cons y r ih =>
    intro a hn ha hp hp'
    simp only [List.map_cons, List.nodup_cons] at hn
    rcases List.mem_cons.1 ha with rfl | ha
    · have h1 : p' a = true := by rw [hp' a (by simp)]; simp
      have h2 : r.filter p' = r.filter p := by
        refine List.filter_congr (fun z hz => ?_)
        rw [hp' z (by simp [hz])]
        have : ¬ f z = f a := fun q => hn.1 (by rw [← q]; exact List.mem_map_of_mem hz)
        simp [this]
      rw [List.filter_cons_of_pos h1, List.filter_cons_of_neg (by simp [hp]), h2]
    · have hne : ¬ f y = f a := fun q => hn.1 (by rw [q]; exact List.mem_map_of_mem ha)
      have h1 : p' y = p y := by rw [hp' y (by simp)]; simp [hne]
      have ih := ih a hn.2 ha hp (fun z hz => hp' z (by simp [hz]))
      cases hpy : p y with
      | true =>
        rw [List.filter_cons_of_pos (by rw [h1, hpy]), List.filter_cons_of_pos hpy]
        exact (ih.cons y).trans (List.Perm.swap _ _ _)
      | false =>
        rw [List.filter_cons_of_neg (by rw [h1, hpy]; simp), List.filter_cons_of_neg (by rw [hpy]; simp)]
        exact ih
theorem zip_snd {α β : Type} : ∀ {l : List α} {m : List β}, l.length = m.length → (l.zip m).map (·.2) = m ∧ (l.zip m).map (·.1) = l := by
  intro l
  induction l with
  | nil => intro m h; cases m with
    | nil => exact ⟨rfl, rfl⟩
    | cons _ _ => cases h
  | cons a r ih => intro m h; cases m with
    | nil => cases h
    | cons b s =>
      obtain ⟨h1, h2⟩ := ih (Nat.succ.inj h)
      exact ⟨by rw [List.zip_cons_cons, List.map_cons, h1], by rw [List.zip_cons_cons, List.map_cons, h2]⟩
theorem done_push {es : List (V × V × Bool)} {ms : List MapEntry} {seen : List Nat} {done : List (V × V × Bool)} (hd : Done es ms seen done) (hlen : es.length = ms.length) (hb : (ms.map (·.born)).Nodup) (hk : (es.map (·.1)).Nodup) {i : Nat} {k x : V} {q : Bool} {m : MapEntry} (h1 : es[i]? = some (k, x, q)) (h2 : ms[i]? = some m) (hn : m.born ∉ seen) :
    Done es ms (seen ++ [m.born]) (setS k x true done) := by
  have hz : (es.zip ms)[i]? = some ((k, x, q), m) := by rw [List.getElem?_zip_eq_some]; exact ⟨h1, h2⟩
  have hm := List.mem_of_getElem? hz
  obtain ⟨z1, z2⟩ := zip_snd hlen
  have hbz : ((es.zip ms).map fun p => p.2.born).Nodup := by
    have : ((es.zip ms).map fun p => p.2.born) = ms.map (·.born) := ((List.map_map (g := MapEntry.born) (f := Prod.snd) (l := es.zip ms)).symm.trans (congrArg (List.map MapEntry.born) z1) : _)
    rw [this]; exact hb
  have hkz : ((es.zip ms).map fun p => p.1.1).Nodup := by
    have : ((es.zip ms).map fun p => p.1.1) = es.map (·.1) := ((List.map_map (g := fun p : V × V × Bool => p.1) (f := Prod.fst) (l := es.zip ms)).symm.trans (congrArg (List.map fun p : V × V × Bool => p.1) z2) : _)
    rw [this]; exact hk
  have hf := filter_one (fun p : (V × V × Bool) × MapEntry => p.2.born) (fun p => seen.contains p.2.born) (fun p => (seen ++ [m.born]).contains p.2.born) (es.zip ms) ((k, x, q), m) hbz hm (by
      cases hc : seen.contains m.born with
      | false => rfl
      | true => exact absurd (List.contains_iff_mem.1 hc) hn) (fun y _ => by
      rw [Bool.eq_iff_iff]
      simp)
  have hno : ∀ p ∈ done, p.1 ≠ k := fun p hp q' => by
    have := hd.mem_iff.1 hp
    obtain ⟨y, hy, rfl⟩ := List.mem_map.1 this
    obtain ⟨hy1, hy2⟩ := List.mem_filter.1 hy
    simp only at q' hy2
    have : y = ((k, x, q), m) := by
      obtain ⟨j, hj⟩ := List.mem_iff_getElem?.1 hy1
      have e1 : ((es.zip ms).map fun p => p.1.1)[j]? = some k := by rw [List.getElem?_map, hj]; exact congrArg some q'
      have e2 : ((es.zip ms).map fun p => p.1.1)[i]? = some k := by rw [List.getElem?_map, hz]; rfl
      have hji : j = i := (List.getElem?_inj (List.getElem?_eq_some_iff.1 e1).1 hkz).1 (e1.trans e2.symm)
      subst hji
      rw [hz] at hj
      exact (Option.some.inj hj).symm
    subst this
    exact hn (List.contains_iff_mem.1 hy2)
  unfold Done setS
  rw [delS_filter, filterS_none hno]
  have := (hf.map fun p => (p.1.1, p.1.2.1, true)).symm
  rw [List.map_cons] at this
  exact (List.Perm.cons _ hd).trans this
theorem done_all {es : List (V × V × Bool)} {ms : List MapEntry} {seen : List Nat} {done : List (V × V × Bool)} (hd : Done es ms seen done) (hlen : es.length = ms.length) (ha : ∀ m ∈ ms, m.born ∈ seen) : done.Perm (es.map fun p => (p.1, p.2.1, true)) := by
  unfold Done at hd
  have h1 : (es.zip ms).filter (fun p => seen.contains p.2.born) = es.zip ms := by
    rw [List.filter_eq_self]
    intro p hp
    have : p.2 ∈ ms := by
      rw [← (zip_snd hlen).1]
      exact List.mem_map_of_mem hp
    exact List.contains_iff_mem.2 (ha _ this)
  rw [h1] at hd
  have h2 : (es.zip ms).map (fun p => (p.1.1, p.1.2.1, true)) = es.map fun p => (p.1, p.2.1, true) := by
    conv => rhs; rw [← (zip_snd hlen).2]
    rw [List.map_map]; rfl
  rw [h2] at hd
  exact hd
end Go.Vm

namespace Go.Vm
open Go.RowKit
variable {P : Program} {T : TT} {c : Ctx} {e eb : Env} {of of' : Nat → Option Ob}
def CopyM (P : Program) (T : TT) (f t kt st el : Nat) : Prop := ∀ (Bp bm clock : Nat) (ms : Array MapEntry) (w : World) (S : Nat → Nat → Prop) (es' : List (V × V × Bool)), Bp < w.heap.size → w.cell? ⟨Bp, 0, none⟩ = some (.map (some bm)) → w.heap[bm]? = some (.map ms clock) → StB ms clock →
    (∀ b i, S b i → b < w.heap.size) → Ents T (Env.bare w S) kt st es' ms.toList → (∀ q ∈ es', ∃ k xs, q.1 = .s k ∧ q.2.1 = .l xs ∧ xs.length ≤ 10000) → (es'.map (·.1)).Nodup →
    Calls P f #[.pointer (some ⟨Bp, 0, none⟩)] w (fun en w' => ∃ e2 done, e2.w = w' ∧ OSim T (Ctx.bare w S) e2 (mbx 0 1 t kt st el done) ∧ (Env.bare w S).le e2 ∧ done.Perm (es'.map fun p => (p.1, p.2.1, true)) ∧ e2.ι 0 = some (w.heap.size + 1, 0) ∧ e2.ι 1 = some (w.heap.size, 0) ∧ en = .returned (.pointer (some ⟨w.heap.size + 1, 0, none⟩)))
def copyOk : List (V × V × Bool) → Bool
  | [] => true
  | p :: r => (!(isN p.2.1) && Nat.ble p.2.1.els.length 10000) && copyOk r
def copyS (es : List (V × V × Bool)) : List (V × V × Bool) := es.map fun p => (p.1, p.2.1, true)
def copyKC (t kt st el : Nat) : SymC := fun R args of nx k =>
  match args with
  | [.p ib tb []] => match of ib with
    | some (.box tb' (.g tg [.m mid]) _) => match of mid with
      | some (.sm kt' st' el' es none) => bif Nat.beq kt' kt && (Nat.beq st' st && Nat.beq el' el) then (bif copyOk es then k ⟨.p nx t [], [(nx, .box t (.g t [.m (nx + 1)]) false), (nx + 1, .sm kt st el (copyS es) none)], [ib, mid], nx + 2⟩ else none) else none
      | _ => none
    | _ => none
  | _ => none
theorem copyKC_nat (t kt st el : Nat) : (copyKC t kt st el).nat := by
  intro R args of nx k
  unfold SymC.dir copyKC
  split
  · rename_i ib tb
    cases of ib with
    | none => rfl
    | some o => cases o with
      | box tb' a sh => cases a with
        | g tg l => cases l with
          | nil => rfl
          | cons x r => cases x with
            | m mid => cases r with
              | nil =>
                simp only
                cases of mid with
                | none => rfl
                | some o => cases o with
                  | sm kt' st' el' es ho => cases ho with
                    | none =>
                      simp only
                      cases (Nat.beq kt' kt && (Nat.beq st' st && Nat.beq el' el)) with
                      | false => rfl
                      | true => simp only [cond_true]; cases copyOk es <;> rfl
                    | some _ => rfl
                  | _ => rfl
              | cons _ _ => rfl
            | _ => rfl
        | _ => rfl
      | _ => rfl
  · rfl
theorem copyOk_spec : ∀ {es : List (V × V × Bool)}, copyOk es = true → ∀ p ∈ es, isN p.2.1 = false ∧ p.2.1.els.length ≤ 10000 := by
  intro es
  induction es with
  | nil => intro _ p hp; cases hp
  | cons q r ih =>
    intro h p hp
    simp only [copyOk, Bool.and_eq_true, Bool.not_eq_true'] at h
    rcases List.mem_cons.1 hp with rfl | hp
    · exact ⟨h.1.1, Nat.le_of_ble_eq_true h.1.2⟩
    · exact ih h.2 p hp
theorem OSim.permS (h : OSim T c e of) {id kt st el : Nat} {es es2 : List (V × V × Bool)} (hof : of id = some (.sm kt st el es none)) (hp : es.Perm es2) : OSim T c e (upd of id (some (.sm kt st el es2 none))) := by
  obtain ⟨u1, u2, hks, hz, hz3, b, ms, clock, v3, v4, v5, es', bs, v6, v7⟩ := sm_ok h hof
  exact h.turn hof (Env.le.refl e) (fun _ _ => rfl) (fun _ _ => rfl) (fun _ hu => hu) (fun _ _ _ => rfl) (Nat.le_refl _) (fun _ _ hs => .inl hs) (fun k q hk => .inl ⟨q, hk⟩) rfl rfl rfl
    ⟨u1, u2, hks, hz, hz3, b, ms, clock, v3, v4, ⟨(hp.map _).nodup_iff.1 v5.1, v5.2⟩, es', bs, v6.trans hp, v7⟩
theorem copyK_ok {f t mt kt st el : Nat} (hM : CopyM P T f t kt st el) (hk : MapBox T t mt) (hkt : kOf T kt = some .str) (hkst : kOf T st = some (.slice el)) (hen : ∀ args w, (callFunc f args).run P w = .ok (.enter f args) w) : SymOK P T f (copyKC t kt st el).dir := by
  intro c e of of' as vals nx out hos hs hro hu hvals
  unfold SymC.dir copyKC at hs
  split at hs <;> try (cases hs; done)
  rename_i ib tb
  split at hs <;> try (cases hs; done)
  rename_i tb' tg mid sh hob
  split at hs <;> try (cases hs; done)
  rename_i kt' st' el' es hom
  cases hc : Nat.beq kt' kt && (Nat.beq st' st && Nat.beq el' el) with
  | false => rw [hc] at hs; cases hs
  | true =>
  rw [hc, cond_true] at hs
  cases hcp : copyOk es with
  | false => rw [hcp] at hs; cases hs
  | true =>
  rw [hcp, cond_true] at hs
  injection hs with hs; subst hs
  simp only [Bool.and_eq_true] at hc
  obtain ⟨c1, c2, c3⟩ := hc
  have := Nat.eq_of_beq_eq_true c1; subst this
  have := Nat.eq_of_beq_eq_true c2; subst this
  have := Nat.eq_of_beq_eq_true c3; subst this
  have hob' : of' ib = some (.box tb' (.g tg [.m mid]) sh) := (hro ib (by simp)).trans hob
  have hom' : of' mid = some (.sm kt' st' el' es none) := (hro mid (by simp)).trans hom
  obtain ⟨x1, x2, x3, x4, Bm, cs, ty, fz, x5, x6, x7, x8, x9, x10⟩ := hos.ok _ _ hob'
  obtain ⟨u1, u2, hks, hz, hz3, b, ms, clock, v3, v4, v5, es', bs, v6, v7⟩ := sm_ok hos hom'
  obtain ⟨v, hvs⟩ : ∃ v, vals = #[v] := by
    obtain ⟨vals⟩ := vals
    cases hvals with | cons h1 h2 => cases h2; exact ⟨_, rfl⟩
  subst hvs
  have hv : Rep T e (.p ib tb []) v := by cases hvals with | cons h1 _ => exact h1
  obtain ⟨Bm', off, p1, p2, p3, p4, rfl⟩ := rep_p_inv hv
  rw [x5] at p3
  cases p3
  cases p4
  have hcs : cs.toList = [.map (some b)] := by
    generalize hl : cs.toList = l at x9
    cases x9 with
    | @g _ _ ts ds _ cs' k1 k2 k3 k4 k5 =>
      cases k5
      rw [List.append_nil]
      cases k4 with
      | r m1 m2 m3 =>
        cases m3
        obtain ⟨b', _, _, n3, rfl⟩ := m1
        rw [v3] at n3; cases n3
        rfl
    | r k1 _ _ => exact k1.elim
  have hcell : e.w.cell? ⟨Bm, 0, none⟩ = some (.map (some b)) := by
    have : cs[0]? = some (.map (some b)) := by rw [← Array.getElem?_toList, hcs]; rfl
    simp [World.cell?, x6, this]
  obtain ⟨S', s1, s2, s3⟩ := share_all hos hom' v3 v4 v5.2 v6 v5.1 v7
  have hfz : ∀ a ds, Fz { e with S := S' } a ds → Fz (Env.bare e.w S') a ds := fun a ds q => q
  have hE : Ents T (Env.bare e.w S') kt' st' es' ms.toList := ⟨s3.1, fun i k x q m h1 h2 => by
    obtain ⟨r1, r2⟩ := s3.2 i k x q m h1 h2
    exact ⟨⟨r1.1.change hfz, r1.2⟩, r2.change hfz⟩⟩
  have hL : ∀ q ∈ es', ∃ k xs, q.1 = .s k ∧ q.2.1 = .l xs ∧ xs.length ≤ 10000 := fun q hq => by
    obtain ⟨i, hi⟩ := List.mem_iff_getElem?.1 hq
    have hil : i < ms.toList.length := by rw [← s3.1]; exact (List.getElem?_eq_some_iff.1 hi).1
    obtain ⟨r1, r2⟩ := s3.2 i q.1 q.2.1 q.2.2 _ hi (List.getElem?_eq_getElem hil)
    obtain ⟨n1, n2⟩ := copyOk_spec hcp q (v6.mem_iff.1 hq)
    obtain ⟨s, hs', _⟩ := (rv_single (show Rep T _ (.v kt' q.1) _ from r1) ⟨_, hkt, rfl⟩).str_inv hkt
    rcases r2.slice_inv hkst with ⟨h1, _⟩ | ⟨xs, _, _, _, h1, _⟩
    · rw [h1] at n1; cases n1
    · rw [h1] at n2
      exact ⟨_, xs, hs', h1, n2⟩
  have hnd : (es'.map (·.1)).Nodup := (v6.map _).nodup_iff.2 v5.1
  have hcall := hM Bm b clock ms e.w S' es' (Array.getElem?_eq_some_iff.1 x6).1 hcell v4 v5.2 (fun b i hs => s1.slt b i hs) hE hL hnd
  have hn0 : ¬ e.U nx := hu nx (Nat.le_refl _) (by show nx < nx + 2; omega)
  have hn1 : ¬ e.U (nx + 1) := hu (nx + 1) (by omega) (by show nx + 1 < nx + 2; omega)
  refine .inr (.inr (.inl ⟨f, _, e.w, hen _ _, hcall.mono fun en w' ⟨e2, done, q1, q2, q3, q4, q5, q6, q7⟩ => ⟨_, q7, ?_⟩⟩))
  subst q1
  have h2 := mbx_norm hk (show (0 : Nat) ≠ 1 by decide) (show nx ≠ nx + 1 by omega) q2 q5 q6
  have hle : (Env.bare e.w S').le (Env.mbx e2.w e2.S e2.G nx (nx + 1) (e.w.heap.size + 1) e.w.heap.size t) := ⟨q3.S, fun _ q => q.elim, fun _ q => q.elim, fun _ q => q.elim, fun _ q => q.elim, fun _ q => q.elim, q3.grow, q3.keep⟩
  obtain ⟨j1, j2, j3⟩ := s1.join h2 hle (fun id hid => by
    rcases hid with rfl | rfl
    · exact hn0
    · exact hn1)
  have hb1 : both of' (mbx nx (nx + 1) t kt' st' el' done) (nx + 1) = some (.sm kt' st' el' done none) := by
    unfold both mbx; rw [if_neg (by omega), if_pos rfl]
  have j4 := j1.permS hb1 (q4.trans (v6.map _))
  have r0 : (Env.join { e with S := S' } (Env.mbx e2.w e2.S e2.G nx (nx + 1) (e.w.heap.size + 1) e.w.heap.size t)).ι nx = some (e.w.heap.size + 1, 0) := (if_neg hn0).trans (if_pos rfl)
  refine ⟨Env.join { e with S := S' } (Env.mbx e2.w e2.S e2.G nx (nx + 1) (e.w.heap.size + 1) e.w.heap.size t), rfl, j4.sub (fun id o ho => ?_), s2.trans j2, fun id hid => ?_, ?_⟩
  · have ho : upd (upd of' nx (some (.box t (.g t [.m (nx + 1)]) false))) (nx + 1) (some (.sm kt' st' el' (copyS es) none)) id = some o := ho
    by_cases h1 : id = nx + 1
    · subst h1; rw [upd_same] at ho; rw [upd_same]; exact ho
    · rw [upd_ne _ _ h1] at ho; rw [upd_ne _ _ h1]
      by_cases h0 : id = nx
      · subst h0; rw [upd_same] at ho; unfold both mbx; rw [if_pos rfl]; exact ho
      · rw [upd_ne _ _ h0] at ho; unfold both mbx; rw [if_neg h0, if_neg h1]; exact ho
  · rcases hid with hid | hid
    · exact .inl hid
    · refine .inr ?_
      show nx ≤ id ∧ id < nx + 2
      rcases hid with rfl | rfl <;> omega
  · exact RA.r ⟨e.w.heap.size + 1, 0, .inr (.inl rfl), (if_neg hn0), r0, (by
      rw [show (Env.join { e with S := S' } (Env.mbx e2.w e2.S e2.G nx (nx + 1) (e.w.heap.size + 1) e.w.heap.size t)).ty nx = t from (if_neg hn0).trans (if_pos rfl)]
      exact .nil), rfl⟩ rfl .nil
end Go.Vm

namespace Go.Vm
open Go.RowKit
inductive PLs where
  | m (l : V) (fr : List V) (v2 : V) (h : Int) (es : List (V × V × Bool)) (e2 : List (V × V × Bool)) (xs : List V) (al : List V) (na : Bool) (n : Int) (i : Int)
inductive QLs where
  | o (l : V) (fr : List V) (v2 : V) (h : Int) (es : List (V × V × Bool)) (e2 : List (V × V × Bool)) (xs : List V) (al : List V) (na : Bool) (n : Int) (i : Int)
def BLs (R : Type) (p : PLs) (K : PLs → Option R) (kx : QLs → Option R) : Option R :=
  match p with
  | .m l fr v2 h es e2 xs al na n i =>
    bif ilt i n then
      ck i al.length <|
      bif !(sLt (((V.nth (List.getD al i.toNat .n) 0)).els) fr) then
      lim (xs.length + ([(List.getD al i.toNat .n)]).length) <|
      K (.m l fr v2 h es e2 (xs ++ [(List.getD al i.toNat .n)]) al na n (W64 (i + 1)))
      else
      K (.m l fr v2 h es e2 xs al na n (W64 (i + 1)))
      else
      kx (.o l fr v2 h es e2 xs al na n i)
abbrev BLs_m := @BLs.eq_1
end Go.Vm

namespace Go.Vm
open Go.RowKit
variable {R : Type}
def dA : List V := [.i 100, .i 47, .i 97]
def eA (hv : V) : V := .l [.s dA, .s [], .i 3, .l [hv, .i 0]]
def applyC (hv : V) (es : List (V × V × Bool)) (k : List (V × V × Bool) → Option R) : Option R :=
  bif hasS (.s dA) es then
    (bif ownS (.s dA) es then lim ((valS (.s dA) es).els.length + [eA hv].length) <| k (setS (.s dA) (.l ((valS (.s dA) es).els ++ [eA hv])) true es) else none)
  else k (setS (.s dA) (.l [eA hv]) true es)
def minI (x : Int) (n : Nat) : Int := bif ilt (n : Int) x then (n : Int) else x
noncomputable def scansG (st : Nat) (hv l : V) (nm : List V) (a m : Int) : Option Unit :=
  bif rng [l] then bif rightN l.els 0 then
    ln nm.length <| bif ilt 100 (nm.length : Nat) then some () else
    bif ilt a 0 then some () else bif ilt 1000000000 a then some () else bif ilt m 0 then some () else
    ln l.els.length <| lpC (BNn Unit) (hid FU) (.m l [] (l.els.length : Nat) 0) fun q => match q with
    | .o l1 es1 n1 i1 => bif copyOk es1 then applyC hv (copyS es1) fun e2 =>
      srtC st es1 fun ks => lpC (BSw Unit) (hid FU) (.m es1 [] 1000 a [] true ks ks.isEmpty (ks.length : Nat) 0) fun q => match q with
      | .o es2 fr2 m2 h2 xs2 nl2 ks2 nk2 n2 i2 => ln xs2.length <| lpC (BLs Unit) (hid FU) (.m l nm (.l [.i a, .i m]) a es2 e2 [] xs2 nl2 (xs2.length : Nat) 0) fun q => match q with
        | .o l3 fr3 v3 h3 es3 e3 xs3 al3 na3 n3 i3 =>
          srtC st es3 fun ks => lpC (BSw Unit) (hid FU) (.m es3 fr3 (V.nth v3 1).int h3 [] true ks ks.isEmpty (ks.length : Nat) 0) fun q => match q with
          | .o es4 fr4 m4 h4 xs4 nl4 ks4 nk4 n4 i4 => ln xs3.length <|
            bif (ile 0 (0 : Nat) && ile (0 : Nat) (minI (V.nth v3 1).int xs3.length)) && ile (minI (V.nth v3 1).int xs3.length) (xs3.length : Nat) then
            bif Nat.ble (0 + 0 + (minI (V.nth v3 1).int xs3.length - (0 : Nat)).toNat) xs3.length then
            smC2 nl4 xs4 ((xs3.drop (0 + 0)).take (minI (V.nth v3 1).int xs3.length - (0 : Nat)).toNat) <|
            srtC st e3 fun ks => lpC (BAw Unit) (hid FU) (.m e3 [] true ks ks.isEmpty (ks.length : Nat) 0) fun q => match q with
            | .o es5 xs5 nl5 ks5 nk5 n5 i5 => ln xs5.length <| ln l3.els.length <| bif ieq (xs5.length : Nat) (W64 ((l3.els.length : Nat) + 1)) then
              srtC st es4 fun ks => lpC (BAw Unit) (hid FU) (.m es4 [] true ks ks.isEmpty (ks.length : Nat) 0) fun q => match q with
              | .o es6 xs6 nl6 ks6 nk6 n6 i6 => ln xs6.length <| ln l3.els.length <| bif ieq (xs6.length : Nat) (l3.els.length : Nat) then some () else none
              else none
            else none else none
      else none
    else some () else none
end Go.Vm

namespace Go.Vm
open Go.RowKit
variable {R : Type}
theorem ls_law {l v2 : V} {fr : List V} {h : Int} {es e2 : List (V × V × Bool)} {al : List V} {na : Bool} {kx : QLs → Option R} : ∀ (r a xs : List V) (fuel : Nat), al = a ++ r → al.length ≤ 100000 → xs.length ≤ a.length → r.length < fuel →
    lpC (BLs R) fuel (.m l fr v2 h es e2 xs al na (al.length : Nat) (a.length : Nat)) kx = kx (.o l fr v2 h es e2 (xs ++ r.filter fun e => !(sLt (nmE e) fr)) al na (al.length : Nat) (al.length : Nat)) := by
  intro r
  induction r with
  | nil =>
    intro a xs fuel he hz hx hf
    obtain ⟨f, rfl⟩ : ∃ f, fuel = f + 1 := ⟨fuel - 1, by omega⟩
    rw [List.append_nil] at he
    subst he
    rw [lpC, BLs_m, il_f, cond_false, List.filter_nil, List.append_nil]
  | cons k r ih =>
    intro a xs fuel he hz hx hf
    obtain ⟨f, rfl⟩ : ∃ f, fuel = f + 1 := ⟨fuel - 1, by omega⟩
    simp only [List.length_cons] at hf
    have hle : al.length = a.length + (r.length + 1) := by rw [he]; simp
    have ih := fun ys => ih (a ++ [k]) ys f (by rw [he]; simp) hz
    simp only [List.length_append, List.length_singleton] at ih
    rw [lpC, BLs_m, il_t he, cond_true, ck_in (by omega) (by omega), gd_at he, i_next (by omega)]
    show (bif !(sLt (nmE k) fr) then _ else _) = _
    cases hs : sLt (nmE k) fr with
    | true =>
      rw [Bool.not_true, cond_false, List.filter_cons_of_neg (by simp [hs])]
      exact ih xs (by omega) (by omega)
    | false =>
      rw [Bool.not_false, cond_true, List.filter_cons_of_pos (by simp [hs]), lim_in (by simp only [List.length_singleton]; omega)]
      have := ih (xs ++ [k]) (by simp; omega) (by omega)
      simp only [List.append_assoc, List.singleton_append] at this
      exact this
theorem copy_has (kv : V) : ∀ es : List (V × V × Bool), hasS kv (copyS es) = hasS kv es ∧ valS kv (copyS es) = valS kv es ∧ ownS kv (copyS es) = true := by
  intro es
  induction es with
  | nil => exact ⟨rfl, rfl, rfl⟩
  | cons p r ih =>
    obtain ⟨h1, h2, h3⟩ := ih
    have e1 : copyS (p :: r) = (p.1, p.2.1, true) :: copyS r := rfl
    rw [e1]
    refine ⟨?_, ?_, ?_⟩
    · simp only [hasS, h1]
    · simp only [valS, h2]
    · simp only [ownS, h3]; cases veq p.1 kv <;> rfl
theorem copy_keys (es : List (V × V × Bool)) : (copyS es).map (·.1) = es.map (·.1) := by
  unfold copyS; rw [List.map_map]; rfl
theorem NInv.copy {p : List V} {es : List (V × V × Bool)} (h : NInv p es) : NInv p (copyS es) :=
  ⟨by rw [copy_keys]; exact h.nd, by rw [copy_keys]; exact h.ks, fun q hq => by
    have : q.1 ∈ (copyS es).map (·.1) := List.mem_map_of_mem hq
    rw [copy_keys] at this
    obtain ⟨y, hy, hyq⟩ := List.mem_map.1 this
    rw [← hyq]; exact h.gd y hy, fun nm => by rw [(copy_has _ _).1]; exact h.has nm, fun nm hh => by rw [(copy_has _ _).1] at hh; rw [(copy_has _ _).2.1]; exact h.val nm hh, fun kv => (copy_has kv es).2.2⟩
theorem copyOk_inv {p : List V} {es : List (V × V × Bool)} (h : NInv p es) (hp : p.length ≤ 10000) : copyOk es = true := by
  have : ∀ q ∈ es, isN q.2.1 = false ∧ q.2.1.els.length ≤ 10000 := fun q hq => by
    obtain ⟨nm, h1, _⟩ := h.gd q hq
    obtain ⟨m1, m2, _⟩ := hasS_mem (kv := q.1) (x := q.2.1) (q := q.2.2) h.nd hq
    rw [h1] at m1 m2
    rw [h.val nm m1] at m2
    rw [← m2]
    have := hist_le nm p
    exact ⟨rfl, by show (histS nm p).length ≤ 10000; omega⟩
  clear h
  induction es with
  | nil => rfl
  | cons q r ih =>
    obtain ⟨h1, h2⟩ := this q (by simp)
    show ((!(isN q.2.1) && Nat.ble q.2.1.els.length 10000) && copyOk r) = true
    rw [h1, Nat.ble_eq_true_of_le h2, ih (fun z hz => this z (by simp [hz]))]; rfl
theorem dA_nm : isNm dA := ⟨[100, 47, 97], rfl⟩
theorem applyC_law {hv : V} {p : List V} {es : List (V × V × Bool)} (hi : NInv p es) (hp : ∀ e ∈ p, isNm (nmE e)) (hl : p.length ≤ 10000) : ∃ e2, NInv (p ++ [eA hv]) e2 ∧ ∀ k : List (V × V × Bool) → Option R, applyC hv es k = k e2 := by
  refine ⟨_, hi.snoc (x := eA hv) dA_nm hp, fun k => ?_⟩
  unfold applyC
  show _ = k (setS (.s dA) (.l (histS dA p ++ [eA hv])) true es)
  cases hh : hasS (.s dA) es with
  | true =>
    have := hist_le dA p
    rw [cond_true, hi.own, cond_true, hi.val _ hh, lim_in (by show (histS dA p).length + 1 ≤ _; omega)]
    rfl
  | false =>
    have : histS dA p = [] := by
      have := hi.has dA
      rw [hh] at this
      cases hq : histS dA p with
      | nil => rfl
      | cons y s => rw [hq] at this; cases this
    rw [cond_false, this]; rfl
def liveL (fr : List V) (l : V) (h : Int) (r : List V) : List V := (r.filter fun k => liveQ k.els l h && !(sLt k.els fr)).map fun k => liveE k.els l h
theorem scanR_take {fr : List V} {m h : Int} {l : V} (hm : 0 ≤ m) : ∀ r xs : List V, scanR fr m l h r xs = xs ++ (liveL fr l h r).take (m.toNat - xs.length) := by
  intro r
  induction r with
  | nil => intro xs; simp [scanR, liveL]
  | cons k r ih =>
    intro xs
    simp only [scanR]
    rw [ih]
    cases hq : liveQ k.els l h && !(sLt k.els fr) with
    | false =>
      have e1 : liveL fr l h (k :: r) = liveL fr l h r := by unfold liveL; rw [List.filter_cons_of_neg (by simp [hq])]
      have e2 : (liveQ k.els l h && (!(sLt k.els fr) && ilt (xs.length : Nat) m)) = false := by rw [← Bool.and_assoc, hq]; rfl
      rw [e1, e2, cond_false]
    | true =>
      have e1 : liveL fr l h (k :: r) = liveE k.els l h :: liveL fr l h r := by unfold liveL; rw [List.filter_cons_of_pos (p := fun k : V => liveQ k.els l h && !(sLt k.els fr)) (a := k) hq, List.map_cons]
      have e2 : (liveQ k.els l h && (!(sLt k.els fr) && ilt (xs.length : Nat) m)) = ilt (xs.length : Nat) m := by rw [← Bool.and_assoc, hq]; rfl
      rw [e1, e2]
      by_cases hx : (xs.length : Int) < m
      · rw [show ilt (xs.length : Nat) m = true by rw [ilt_d]; simp [hx], cond_true]
        have : m.toNat - xs.length = (m.toNat - (xs ++ [liveE k.els l h]).length) + 1 := by simp; omega
        rw [this, List.take_succ_cons, List.append_assoc]; rfl
      · rw [show ilt (xs.length : Nat) m = false by rw [ilt_d]; simp [hx], cond_false]
        have : m.toNat - xs.length = 0 := by omega
        rw [this, List.take_zero, List.take_zero]
end Go.Vm

namespace Go.Vm
open Go.RowKit
variable {R : Type}
def cntH (L : List V) : List V → Nat
  | [] => 0
  | k :: r => (histS k.els L).length + cntH L r
theorem flatR_cnt {L : List V} : ∀ (ks xs : List V), (flatR L ks xs).length = xs.length + cntH L ks := by
  intro ks
  induction ks with
  | nil => intro xs; rfl
  | cons k r ih =>
    intro xs
    simp only [flatR, cntH]
    rw [ih, List.length_append]; omega
def oneH (e : V) : List V → Nat
  | [] => 0
  | k :: r => (bif veqL (nmE e) k.els then 1 else 0) + oneH e r
theorem cnt_cons {e : V} {L : List V} : ∀ ks : List V, cntH (e :: L) ks = oneH e ks + cntH L ks := by
  intro ks
  induction ks with
  | nil => rfl
  | cons k r ih =>
    simp only [cntH, oneH]
    have e1 : histS k.els (e :: L) = bif veqL (nmE e) k.els then e :: histS k.els L else histS k.els L := by
      simp only [histS, List.filter_cons]; cases veqL (nmE e) k.els <;> rfl
    rw [ih, e1]
    cases veqL (nmE e) k.els <;> simp <;> omega
theorem one_none {e : V} : ∀ {ks : List V}, (∀ k ∈ ks, NmV k) → V.s (nmE e) ∉ ks → oneH e ks = 0 := by
  intro ks
  induction ks with
  | nil => intro _ _; rfl
  | cons k r ih =>
    intro hn h
    simp only [List.mem_cons, not_or] at h
    obtain ⟨nm, rfl, _⟩ := hn k (by simp)
    have : veqL (nmE e) (V.s nm).els = false := by
      rw [← Bool.not_eq_true, veqL_iff]
      intro q; exact h.1 (by rw [q]; rfl)
    simp only [oneH, this, cond_false, ih (fun z hz => hn z (by simp [hz])) h.2]
theorem one_some {e : V} : ∀ {ks : List V}, (∀ k ∈ ks, NmV k) → ks.Nodup → V.s (nmE e) ∈ ks → oneH e ks = 1 := by
  intro ks
  induction ks with
  | nil => intro _ _ h; cases h
  | cons k r ih =>
    intro hn hd h
    rw [List.nodup_cons] at hd
    rcases List.mem_cons.1 h with rfl | h'
    · have : veqL (nmE e) (V.s (nmE e)).els = true := (veqL_iff _ _).2 rfl
      simp only [oneH, this, cond_true, one_none (fun z hz => hn z (by simp [hz])) hd.1]
    · obtain ⟨nm, rfl, _⟩ := hn k (by simp)
      have : veqL (nmE e) (V.s nm).els = false := by
        rw [← Bool.not_eq_true, veqL_iff]
        intro q
        have : V.s (nmE e) = V.s nm := by rw [q]; rfl
        rw [this] at h'
        exact hd.1 h'
      simp only [oneH, this, cond_false, ih (fun z hz => hn z (by simp [hz])) hd.2 h', Nat.zero_add]
theorem cnt_all {ks : List V} (hn : ∀ k ∈ ks, NmV k) (hd : ks.Nodup) : ∀ L : List V, (∀ e ∈ L, V.s (nmE e) ∈ ks) → cntH L ks = L.length := by
  intro L
  induction L with
  | nil =>
    intro _
    have : ∀ ks : List V, cntH [] ks = 0 := by
      intro ks
      induction ks with
      | nil => rfl
      | cons k r ih => simp only [cntH, ih]; rfl
    exact this ks
  | cons e L ih =>
    intro h
    rw [cnt_cons, one_some hn hd (h e (by simp)), ih (fun z hz => h z (by simp [hz])), List.length_cons]; omega
theorem st_nodup {xs : List V} (h : StS xs) : xs.Nodup := by
  refine h.1.imp ?_
  intro a b hab q
  subst q
  rw [sLt_le, leVs_refl] at hab
  cases hab
theorem insN_self {nm : List V} : ∀ {xs : List V}, V.s nm ∈ insN nm xs ∨ ∃ x ∈ insN nm xs, x.els = nm := by
  intro xs
  induction xs with
  | nil => exact .inl (by simp [insN])
  | cons x r ih =>
    simp only [insN]
    cases sLt x.els nm with
    | true =>
      rw [cond_true]
      rcases ih with h | ⟨y, h1, h2⟩
      · exact .inl (by simp [h])
      · exact .inr ⟨y, by simp [h1], h2⟩
    | false =>
      rw [cond_false]
      cases hv : veqL x.els nm with
      | true => exact .inr ⟨x, by simp, (veqL_iff _ _).1 hv⟩
      | false => exact .inl (by simp)
theorem insN_keep {nm : List V} {y : V} : ∀ {xs : List V}, y ∈ xs → y ∈ insN nm xs := by
  intro xs
  induction xs with
  | nil => intro h; cases h
  | cons x r ih =>
    intro h
    simp only [insN]
    cases sLt x.els nm with
    | true =>
      rw [cond_true]
      rcases List.mem_cons.1 h with rfl | h
      · simp
      · exact List.mem_cons_of_mem _ (ih h)
    | false =>
      rw [cond_false]
      cases veqL x.els nm with
      | true => exact h
      | false => exact List.mem_cons_of_mem _ h
theorem names_keep {y : V} : ∀ {l xs : List V}, y ∈ xs → y ∈ namesN xs l := by
  intro l
  induction l with
  | nil => intro xs h; exact h
  | cons e r ih => intro xs h; exact ih (xs := insN (nmE e) xs) (insN_keep h)
theorem names_in : ∀ {l xs : List V}, StS xs → (∀ e ∈ l, isNm (nmE e)) → ∀ e ∈ l, V.s (nmE e) ∈ namesN xs l := by
  intro l
  induction l with
  | nil => intro xs _ _ e h; cases h
  | cons a r ih =>
    intro xs hs hn e he
    have hs2 := insN_st (hn a (by simp)) hs
    rcases List.mem_cons.1 he with rfl | he
    · refine names_keep (xs := insN (nmE e) xs) ?_
      rcases insN_self (nm := nmE e) (xs := xs) with h | ⟨y, h1, h2⟩
      · exact h
      · obtain ⟨ny, rfl, _⟩ := hs2.2 y h1
        rw [show ny = nmE e from h2] at h1
        exact h1
    · exact ih (xs := insN (nmE a) xs) hs2 (fun z hz => hn z (by simp [hz])) e he
theorem flat_all {L : List V} (hn : ∀ e ∈ L, isNm (nmE e)) : (flatR L (namesN [] L) []).length = L.length := by
  have hs : StS (namesN [] L) := names_st ⟨List.Pairwise.nil, fun _ h => by cases h⟩ hn
  rw [flatR_cnt, cnt_all hs.2 (st_nodup hs) L (names_in ⟨List.Pairwise.nil, fun _ h => by cases h⟩ hn)]
  simp
theorem sLt_nil (x : List V) : sLt x [] = false := by cases x <;> rfl
theorem live_nm {l : V} (hf : l.els.length ≤ 10000) {k : List V} {h : Int} (hq : liveQ k l h = true) : nmE (liveE k l h) = k := by
  unfold liveE
  rw [hq, cond_true]
  have hne : histS k l.els ≠ [] := fun q => by
    unfold liveQ at hq
    rw [q] at hq
    cases hq
  have hm := lsV_mem hne (by have := hist_le k l.els; omega)
  exact (veqL_iff _ _).1 (List.mem_filter.1 hm).2
theorem live_from {l : V} (hf : l.els.length ≤ 10000) {fr : List V} {h : Int} : ∀ r : List V, (liveL [] l h r).filter (fun e => !(sLt (nmE e) fr)) = liveL fr l h r := by
  intro r
  induction r with
  | nil => rfl
  | cons k r ih =>
    unfold liveL at ih ⊢
    cases hq : liveQ k.els l h with
    | false =>
      rw [List.filter_cons_of_neg (by simp [hq]), List.filter_cons_of_neg (by simp [hq])]
      exact ih
    | true =>
      rw [List.filter_cons_of_pos (p := fun k : V => liveQ k.els l h && !(sLt k.els [])) (a := k) (by simp [hq, sLt_nil]), List.map_cons]
      cases hs : sLt k.els fr with
      | true =>
        rw [List.filter_cons_of_neg (by simp [live_nm hf hq, hs]), List.filter_cons_of_neg (by simp [hq, hs])]
        exact ih
      | false =>
        rw [List.filter_cons_of_pos (by simp [live_nm hf hq, hs]), List.filter_cons_of_pos (p := fun k : V => liveQ k.els l h && !(sLt k.els fr)) (a := k) (by simp [hq, hs]), List.map_cons, ih]
end Go.Vm

namespace Go.Vm
open Go.RowKit
variable {R : Type}
theorem ls_na {l v2 : V} {fr : List V} {h n : Int} {es e2 : List (V × V × Bool)} {al : List V} {na na' : Bool} {kx : QLs → Option R} (hk : ∀ xs i, kx (.o l fr v2 h es e2 xs al na n i) = kx (.o l fr v2 h es e2 xs al na' n i)) : ∀ (fuel : Nat) (xs : List V) (i : Int),
    lpC (BLs R) fuel (.m l fr v2 h es e2 xs al na n i) kx = lpC (BLs R) fuel (.m l fr v2 h es e2 xs al na' n i) kx := by
  intro fuel
  induction fuel with
  | zero => intro xs i; rfl
  | succ f ih =>
    intro xs i
    rw [lpC, lpC, BLs_m, BLs_m, ih, ih, hk]
theorem sw_run2 {l : V} {es : List (V × V × Bool)} (hl : LOK l) (hi : NInv l.els es) {fr : List V} {m h : Int} (ha : 0 ≤ h) (ha2 : h ≤ 1000000000) {nk : Bool} {K : List V → Bool → Option R} {kx : QSw → Option R} (h41 : l.els.length ≤ 41)
    (hkx : ∀ xs nl i, kx (.o es fr m h xs nl (namesN [] l.els) nk ((namesN [] l.els).length : Nat) i) = K xs nl) (hK : ∀ xs, K xs true = K xs false) :
    lpC (BSw R) (hid FU) (.m es fr m h [] true (namesN [] l.els) nk ((namesN [] l.els).length : Nat) 0) kx = K (scanR fr m l h (namesN [] l.els) []) false := by
  have hq := fq_big
  have hnl := names_len l.els []
  simp only [List.length_nil, Nat.zero_add] at hnl
  exact sw_law (ko := fun xs => K xs false) hl hi ha ha2 (fun k hk => hk) (fun xs nl i hx => by
    rw [hkx]; cases nl
    · rfl
    · exact hK xs) (namesN [] l.els) [] [] true (hid FU) rfl (by omega) (by simp) (fun _ => rfl) (by omega)
theorem aw_run2 {l : V} {es : List (V × V × Bool)} (hl : LOK l) (hi : NInv l.els es) {nk : Bool} {K : List V → Option R} {kx : QAw → Option R} (h41 : l.els.length ≤ 42)
    (hkx : ∀ xs nl i, kx (.o es xs nl (namesN [] l.els) nk ((namesN [] l.els).length : Nat) i) = K xs) :
    lpC (BAw R) (hid FU) (.m es [] true (namesN [] l.els) nk ((namesN [] l.els).length : Nat) 0) kx = K (flatR l.els (namesN [] l.els) []) := by
  have hq := fq_big
  have hnl := names_len l.els []
  simp only [List.length_nil, Nat.zero_add] at hnl
  exact aw_law (ko := K) hl hi (fun k hk => hk) (fun xs nl i _ => hkx xs nl i) (namesN [] l.els) [] [] true (hid FU) rfl (by omega) (by simp) (fun _ => rfl) (by omega)
theorem sw_run3 {l : V} {es : List (V × V × Bool)} (hl : LOK l) (hi : NInv l.els es) {fr : List V} {m h : Int} (ha : 0 ≤ h) (ha2 : h ≤ 1000000000) {nk : Bool} {X : List V} {rest : Option R} {G : Option R → Option R} {kx : QSw → Option R} (h41 : l.els.length ≤ 41) (hX : scanR fr m l h (namesN [] l.els) [] = X)
    (hkx : ∀ xs nl i, kx (.o es fr m h xs nl (namesN [] l.els) nk ((namesN [] l.els).length : Nat) i) = G (smC2 nl xs X rest)) :
    lpC (BSw R) (hid FU) (.m es fr m h [] true (namesN [] l.els) nk ((namesN [] l.els).length : Nat) 0) kx = G rest := by
  have hq := fq_big
  have hnl := names_len l.els []
  have l1 := scanR_len (fr := fr) (m := m) (h := h) (l := l) (namesN [] l.els) []
  simp only [List.length_nil, Nat.zero_add] at hnl l1
  refine (sw_law (ko := fun xs => G (smX xs X rest)) hl hi ha ha2 (fun k hk => hk) (fun xs nl i hx => by rw [hkx, smC2_eq hx]) (namesN [] l.els) [] [] true (hid FU) rfl (by omega) (by simp) (fun _ => rfl) (by omega)).trans ?_
  rw [hX, smX_law (by rw [← hX]; omega)]
theorem scans_law {st : Nat} {hv l : V} {nm : List V} {a m : Int} (hd : (D.slice DEnt).has l) (hs : (D.slice DEnt).sm l) (hn : nm.length ≤ ML) : scansG st hv l nm a m = some () := by
  have hq := fq_big
  have hg : rng [l] = true := by
    show (Nat.ble l.els.length MX && l.els.all fun x => Nat.ble (nmE x).length MX && Nat.ble (x.nth 1).els.length MX) = true
    obtain ⟨h1, h2⟩ := hs
    simp only [Bool.and_eq_true, Nat.ble_eq, List.all_eq_true]
    refine ⟨by simp only [ML, MX] at *; omega, fun x hx => ?_⟩
    obtain ⟨n, v, k, r, rfl, _, _⟩ := ent_v (slice_els hd x hx)
    have h3 := h2 _ hx
    obtain ⟨h4, h5, _⟩ := h3
    exact ⟨Nat.le_trans h4 (by decide), Nat.le_trans h5 (by decide)⟩
  unfold scansG
  rw [hg, cond_true]
  cases hr : rightN l.els 0 with
  | false => rfl
  | true =>
  obtain ⟨r1, r2⟩ := right_all hr
  have hlen : l.els.length ≤ 41 := by
    rcases r2 with r2 | r2
    · rw [r2]; decide
    · omega
  have hl : LOK l := ⟨fun e he => by
      obtain ⟨ys, rfl, hy⟩ := slice_els hd e he
      obtain ⟨a, b, c, d, rfl, ⟨na, rfl, _⟩, _⟩ := hasL4 hy
      exact ⟨na, rfl⟩, fun e he => (r1 e he).1, fun e he => (r1 e he).2.2, by omega⟩
  rw [cond_true, ln_in (Nat.le_trans hn (by decide))]
  cases h1 : ilt 100 (nm.length : Nat) with
  | true => rfl
  | false =>
  rw [cond_false]
  cases h2 : ilt a 0 with
  | true => rfl
  | false =>
  rw [cond_false]
  cases h3 : ilt 1000000000 a with
  | true => rfl
  | false =>
  rw [cond_false]
  cases h4 : ilt m 0 with
  | true => rfl
  | false =>
  rw [ilt_d] at h2 h3 h4
  simp only [decide_eq_false_iff_not] at h2 h3 h4
  have ha : 0 ≤ a := by omega
  have ha2 : a ≤ 1000000000 := by omega
  have hm : 0 ≤ m := by omega
  rw [cond_false, ln_in (by omega)]
  obtain ⟨es, hi, hrun⟩ := nn_law (R := Unit) (l := l) hl.nm l.els [] [] (hid FU) rfl (by simp; omega) NInv.nil (by omega)
  refine (hrun _).trans ?_
  show (bif copyOk es then applyC hv (copyS es) fun e2 => _ else none) = _
  rw [copyOk_inv hi hl.few, cond_true]
  obtain ⟨e2, hi2, happ⟩ := applyC_law (R := Unit) (hv := hv) hi.copy hl.nm hl.few
  rw [happ, srtC_law hl hi]
  have hnl := names_len l.els []
  simp only [List.length_nil, Nat.zero_add] at hnl
  refine (sw_run2 hl hi ha ha2 hlen (fun xs nl i => rfl) (fun xs => congrArg (ln xs.length) (ls_na (na := true) (na' := false) (fun _ _ => rfl) _ _ _))).trans ?_
  have s1 := scanR_take (fr := []) (m := 1000) (h := a) (l := l) (by decide) (namesN [] l.els) []
  have s2 := scanR_take (fr := nm) (m := m) (h := a) (l := l) hm (namesN [] l.els) []
  have hll : (liveL [] l a (namesN [] l.els)).length ≤ 41 := by
    unfold liveL; rw [List.length_map]; exact Nat.le_trans (List.length_filter_le _ _) (by omega)
  rw [List.nil_append, List.length_nil, Nat.sub_zero, List.take_of_length_le (by show _ ≤ 1000; omega)] at s1
  rw [List.nil_append, List.length_nil, Nat.sub_zero] at s2
  rw [s1]
  generalize hL1 : liveL [] l a (namesN [] l.els) = L1 at hll
  refine (ln_in (n := L1.length) (by omega)).trans ?_
  refine (ls_law (al := L1) L1 [] [] (hid FU) rfl (by omega) (by simp) (by omega)).trans ?_
  rw [List.nil_append, ← hL1, live_from hl.few]
  generalize hF : liveL nm l a (namesN [] l.els) = F at s2
  have hFl : F.length ≤ 41 := by
    rw [← hF]; unfold liveL; rw [List.length_map]; exact Nat.le_trans (List.length_filter_le _ _) (by omega)
  refine (srtC_law (st := st) hl hi _).trans ?_
  have hmin : 0 ≤ minI m F.length ∧ minI m F.length ≤ (F.length : Nat) ∧ F.take (minI m F.length).toNat = F.take m.toNat := by
    unfold minI
    rw [ilt_d]
    by_cases h : (F.length : Int) < m
    · simp only [h, decide_true, cond_true]
      refine ⟨by omega, by omega, ?_⟩
      rw [List.take_of_length_le (by omega), List.take_of_length_le (by omega)]
    · simp only [h, decide_false, cond_false]
      exact ⟨hm, by omega, trivial⟩
  obtain ⟨m1, m2, m3⟩ := hmin
  refine (sw_run3 (X := (F.drop (0 + 0)).take (minI m F.length - (0 : Nat)).toNat) (G := fun z => ln F.length <| bif (ile 0 (0 : Nat) && ile (0 : Nat) (minI m F.length)) && ile (minI m F.length) (F.length : Nat) then bif Nat.ble (0 + 0 + (minI m F.length - (0 : Nat)).toNat) F.length then z else none else none) hl hi ha ha2 hlen ?_ (fun xs nl i => rfl)).trans ?_
  · show scanR nm m l a (namesN [] l.els) [] = _
    rw [s2]
    show F.take m.toNat = F.take (minI m F.length - (0 : Nat)).toNat
    rw [show minI m F.length - ((0 : Nat) : Int) = minI m F.length by omega, m3]
  show (ln F.length <| bif (ile 0 (0 : Nat) && ile (0 : Nat) (minI m F.length)) && ile (minI m F.length) (F.length : Nat) then bif Nat.ble (0 + 0 + (minI m F.length - (0 : Nat)).toNat) F.length then _ else none else none) = _
  rw [ln_in (by omega), show ((ile 0 (0 : Nat) && ile (0 : Nat) (minI m F.length)) && ile (minI m F.length) (F.length : Nat)) = true by simp only [ile_d, Bool.and_eq_true, decide_eq_true_eq]; omega, cond_true, Nat.ble_eq_true_of_le (by omega), cond_true]
  have hl2 : LOK (.l (l.els ++ [eA hv])) := ⟨fun e he => by
      rcases List.mem_append.1 he with he | he
      · exact hl.nm e he
      · simp only [List.mem_singleton] at he; subst he; exact dA_nm, fun e he => by
      rcases List.mem_append.1 he with he | he
      · exact hl.len e he
      · simp only [List.mem_singleton] at he; subst he; exact (show (3 : Nat) ≤ 100 by decide), fun e he => by
      rcases List.mem_append.1 he with he | he
      · exact hl.ht e he
      · simp only [List.mem_singleton] at he; subst he; exact ⟨(show (0 : Int) ≤ 3 by decide), (show (3 : Int) ≤ 1000000000 by decide)⟩, by show (l.els ++ [eA hv]).length ≤ 10000; simp; omega⟩
  have f1 := flat_all hl.nm
  have f2 := flat_all hl2.nm
  refine (srtC_law (l := .l (l.els ++ [eA hv])) (st := st) hl2 hi2 _).trans ?_
  refine (aw_run2 (l := .l (l.els ++ [eA hv])) hl2 hi2 (by show (l.els ++ [eA hv]).length ≤ 42; simp; omega) (fun xs nl i => rfl)).trans ?_
  have f3 : (flatR (V.l (l.els ++ [eA hv])).els (namesN [] (V.l (l.els ++ [eA hv])).els) []).length = l.els.length + 1 := by rw [f2]; show (l.els ++ [eA hv]).length = _; simp
  refine (ln_in (by omega)).trans ?_
  refine (ln_in (by omega)).trans ?_
  show (bif ieq ((flatR (V.l (l.els ++ [eA hv])).els (namesN [] (V.l (l.els ++ [eA hv])).els) []).length : Nat) (W64 ((l.els.length : Nat) + 1)) then _ else none) = _
  rw [f3, w64_in (by omega) (by omega), show ieq ((l.els.length + 1 : Nat) : Int) ((l.els.length : Nat) + 1) = true by rw [ieq_iff]; omega, cond_true]
  refine (srtC_law (st := st) hl hi _).trans ?_
  refine (aw_run2 hl hi (by omega) (fun xs nl i => rfl)).trans ?_
  refine (ln_in (by omega)).trans ?_
  refine (ln_in (by omega)).trans ?_
  show (bif ieq ((flatR l.els (namesN [] l.els) []).length : Nat) (l.els.length : Nat) then some () else none) = _
  rw [f1, show ieq (l.els.length : Nat) (l.els.length : Nat) = true by rw [ieq_iff]]; rfl
end Go.Vm
end
