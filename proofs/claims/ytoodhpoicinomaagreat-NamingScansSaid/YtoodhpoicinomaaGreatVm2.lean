/- What the operations of a program do, shown once for all programs; and numbers. -/
import Derived.Test.YtoodhpoicinomaaGreatVm1
import Derived.Laws.MakeOwn
import Derived.Laws.OwnMore
set_option linter.constructorNameAsVariable false
set_option linter.unusedVariables false
set_option linter.unusedSimpArgs false
noncomputable section
namespace Go.Vm
open Go.RowKit
variable {P : Program} {T : TT} {c : Ctx} {e : Env} {of : Nat → Option Ob}
theorem RV.split_at {el n : Nat} {xs : List V} {ys : List Value} (h : RV T e (List.replicate n el) xs ys) (k : Nat) (hk : k ≤ n) :
    ∃ as bs, ys = as ++ bs ∧ as.length = k * szT T el ∧ RV T e (List.replicate k el) (xs.take k) as ∧ RV T e (List.replicate (n - k) el) (xs.drop k) bs := by
  have e1 : List.replicate n el = List.replicate k el ++ List.replicate (n - k) el := by rw [List.replicate_append_replicate]; congr 1; omega
  rw [e1] at h
  obtain ⟨as, bs, c1, c2, rfl, rfl, p, q⟩ := h.split
  have hl : as.length = k := by rw [p.length.2]; simp
  subst hl
  refine ⟨c1, c2, rfl, by rw [p.length.1, szs_replicate], by simpa using p, by simpa using q⟩
theorem row_ok {id el ver : Nat} {xs : List V} {nl sh : Bool} (h : OSim T c e of) (ho : of id = some (.row el ver xs nl sh)) : e.U id ∧ 0 < ver ∧ e.bn id = ver ∧ e.ty id = el ∧ e.ln id = xs.length ∧ 0 < szT T el ∧
      ((nl = true ∧ e.ι id = none ∧ xs = []) ∨
       (nl = false ∧ ∃ b o cs t fz pre ys post, e.ι id = some (b, o) ∧ e.w.heap[b]? = some (.cells cs t fz) ∧ free e.w b cs ∧ cs.toList = pre ++ ys ++ post ∧ pre.length = o ∧ RV T e (List.replicate xs.length el) xs ys ∧
         (∀ i, o + ys.length ≤ i → ¬ e.S b i) ∧ (sh = false → ∀ i, o ≤ i → ¬ e.S b i))) := h.ok _ _ ho
theorem rep_e_inv {id ver i t : Nat} {path : List Nat} {x : Value} (h : Rep T e (.e id ver i t path) x) (hv : e.bn id = ver) : ∃ b o off, e.ι id = some (b, o) ∧ Pth T (e.ty id) path t off ∧ i < e.ln id ∧ x = .pointer (some ⟨b, o + i * szT T (e.ty id) + off, none⟩) := by
  have h : RA T e [.e id ver i t path] [x] := h
  cases h with
  | r h1 _ _ => exact h1.2.2.2.2 hv
def elA (T : TT) (el : Nat) (xs : List V) (i : Nat) (path : List Nat) : Option A := atA T (.v el (xs.getD i .n)) path
theorem law_load_e {t el t' : Nat} {te : TE} (h : OSim T c e of) (hT : TOK T P) (ht : T t = some te) {id ver i : Nat} {path : List Nat} {xs : List V} {nl sh : Bool} {a1 a2 : A} {x : Value} (ho : of id = some (.row el ver xs nl sh)) (h1 : elA T el xs i path = some a1) (h2 : asT T t a1 = some a2)
    (hx : Rep T e (.e id ver i t' path) x) : Does P (do pure (.value (← Instr.loadAt t x))) e.w (Left T c e of ⟨a2, [], [id], []⟩) := by
  obtain ⟨u1, u2, u3, u4, u5, u6, u7⟩ := row_ok h ho
  obtain ⟨b, o, off, k1, k2, k3, rfl⟩ := rep_e_inv hx u3
  rcases u7 with ⟨_, q, _⟩ | ⟨_, b', o', cs, ty, fz, pre, ys, post, g1, g2, g3, g4, g5, g6, g7, g8⟩
  · rw [q] at k1; cases k1
  rw [g1] at k1; cases k1
  rw [u5] at k3
  rw [u4] at k2 ⊢
  obtain ⟨y, pr, d, po, q1, rfl, q3, q4, q5⟩ := g6.at (i := i) (t := el) (by rw [List.getElem?_replicate, if_pos k3])
  rw [List.take_replicate, szs_replicate, Nat.min_eq_left (by omega)] at q3
  have hg : xs.getD i .n = y := by simp [List.getD, q1]
  rw [elA, hg] at h1
  obtain ⟨p2, d2, s2, rfl, r2, r3, r4, r5⟩ := atA_spec path (.v1 q5) (fitA_v _ _) k2 h1
  obtain ⟨r6, r7⟩ := asT_RA r4 h2
  refine law_load_cells h hT ht r6 r7 (fun j z hj => ?_)
  rw [add_none, cell_heap g2, g4]
  have e1 : pre ++ (pr ++ ((p2 ++ (d2 ++ s2)) ++ po)) ++ post = (pre ++ pr ++ p2) ++ (d2 ++ (s2 ++ po ++ post)) := by simp
  rw [e1, show o + i * szT T el + off + j = (pre ++ pr ++ p2).length + j by simp only [List.length_append]; omega]
  exact mid_get hj
theorem law_store_e {t el t' : Nat} {te : TE} (h : OSim T c e of) (hT : TOK T P) (ht : T t = some te) (hsame : same T t t' = true) {id ver i : Nat} {path : List Nat} {xs : List V} {nl : Bool} {v' : A} {y' : V} {x y : Value} (ho : of id = some (.row el ver xs nl false)) (r1 : RA T e [v'] y.cells.toList) (r2 : fitA T t' v' = true)
    (hput : putA T (.v el (xs.getD i .n)) path v' = some (.v el y')) (hx : Rep T e (.e id ver i t' path) x) : Does P (do Instr.storeAt t x y; pure .skip) e.w (Left T c e of ⟨.x, [(id, .row el ver (xs.set i y') nl false)], [id], []⟩) := by
  obtain ⟨u1, u2, u3, u4, u5, u6, u7⟩ := row_ok h ho
  obtain ⟨b, o, off, k1, k2, k3, rfl⟩ := rep_e_inv hx u3
  rcases u7 with ⟨_, q, _⟩ | ⟨hnl, b', o', cs, ty, fz, pre, ys, post, g1, g2, g3, g4, g5, g6, g7, g8⟩
  · rw [q] at k1; cases k1
  rw [g1] at k1; cases k1
  rw [u5] at k3
  rw [u4] at k2 ⊢
  obtain ⟨z, pr, d, po, q1, rfl, q3, q4, q5⟩ := g6.at (i := i) (t := el) (by rw [List.getElem?_replicate, if_pos k3])
  have q3' := q3
  rw [List.take_replicate, szs_replicate, Nat.min_eq_left (by omega)] at q3
  have hg : xs.getD i .n = z := by simp [List.getD, q1]
  rw [hg] at hput
  obtain ⟨p2, d2, s2, rfl, w2, w3, w4, w5⟩ := putA_spec path (.v1 q5) (fitA_v _ _) k2 r1 r2 hput
  have hw := r1.width r2
  have hte : te.size = szT T t' := by rw [← szT_of ht, (same_spec hsame).2]
  have e1 : pre ++ (pr ++ ((p2 ++ (d2 ++ s2)) ++ po)) ++ post = (pre ++ pr ++ p2) ++ (d2 ++ (s2 ++ po ++ post)) := by simp
  have hoff : (pre ++ pr ++ p2).length = o + i * szT T el + off := by simp only [List.length_append]; omega
  rw [e1] at g4
  have hcl : cs.size = (pre ++ pr ++ p2).length + (d2.length + (s2 ++ po ++ post).length) := by
    have := congrArg List.length g4; simpa only [Array.length_toList, List.length_append] using this
  obtain ⟨cs', f1, f2⟩ := setCells_heap_eq y.cells.toList g2 (i := o + i * szT T el + off) (by omega)
  rw [set_mid g4 hoff (by omega)] at f2
  have hsz : cs'.size = cs.size := by
    have := congrArg List.length f2
    simp only [Array.length_toList, List.length_append] at this hw hcl
    omega
  have hnew := g6.put (i := i) (t := el) (by rw [List.getElem?_replicate, if_pos k3]) w4.v_inv rfl q3' q4
  obtain ⟨hos, hll⟩ := h.write ho g1 g2 f1 hsz (fun k hk => setCells_heap_ne _ _ _ _ hk) (setCells_size _ _ _ _) (setCells_os _ _ _ _)
    (fun j hs => by
      have hj : j < o := Nat.lt_of_not_le (fun hoj => g8 rfl j hoj hs)
      have key : ∀ X : List Value, ((pre ++ pr ++ p2) ++ X)[j]? = (pre ++ pr ++ p2)[j]? := fun X => List.getElem?_append_left (by simp only [List.length_append]; omega)
      rw [← Array.getElem?_toList, ← Array.getElem?_toList, f2, g4, key, key])
    (o' := .row el ver (xs.set i y') nl false)
    (fun hle => ⟨u1, u2, u3, u4, by rw [List.length_set]; exact u5, u6, .inr ⟨hnl, b, o, cs', ty, fz, pre, pr ++ ((p2 ++ (y.cells.toList ++ s2)) ++ po), post, g1, f1, free_of g3 g2 f1 hsz, by rw [f2]; simp, g5, by rw [List.length_set]; exact hnew.mono hle,
      fun j hj => g7 j (by simp only [List.length_append] at hj hw w3 ⊢; omega), fun hh j hj => g8 hh j hj⟩⟩)
  refine .inr (.inl ⟨setCells e.w b (o + i * szT T el + off) y.cells.toList, ?_, _, rfl, hos, hll, fun _ hu => .inl hu, True.intro⟩)
  have hrun := run_storeVar (P := P) (hT _ _ ht) (o := o + i * szT T el + off) (v := y) g2 g3 r1.one_ (by rw [← Array.length_toList]; omega) (by omega)
  simp [Instr.storeAt, Instr.sureAddr, hrun]
def Env.share (e : Env) (b lo hi : Nat) : Env := { e with S := fun k i => e.S k i ∨ (k = b ∧ lo ≤ i ∧ i < hi) }
theorem le_share (e : Env) (b lo hi : Nat) : e.le (e.share b lo hi) :=
  ⟨fun _ _ h => ⟨.inl h, fun _ hx => hx⟩, fun _ h => h, fun _ _ _ => ⟨rfl, rfl, fun _ _ _ => rfl⟩, fun _ _ h => h, fun _ _ => Nat.le_refl _, fun _ _ => rfl, Nat.le_refl _, fun _ _ => rfl⟩
theorem share_turn (h : OSim T c e of) {id : Nat} {o o' : Ob} (ho : of id = some o) {b q lo hi : Nat} (hι : e.ι id = some (b, q)) (hok : OK T (e.share b lo hi) id o') :
    OSim T c (e.share b lo hi) (upd of id (some o')) :=
  h.turn ho (le_share _ _ _ _) (fun _ _ => rfl) (fun _ _ => rfl) (fun _ hu => hu) (fun _ _ _ => rfl) (Nat.le_refl _)
    (fun k i hs => hs.elim .inl (fun ⟨hk, _⟩ => .inr ⟨q, by rw [hk]; exact hι⟩)) (fun k q' hk => .inl ⟨q', hk⟩) rfl rfl rfl hok
theorem rep_o_inv {id ver : Nat} {x : Value} (h : Rep T e (.o id ver) x) (hv : e.bn id = ver) : (e.ι id = none ∧ e.ln id = 0 ∧ x = .slice none 0 0) ∨
      ∃ b o cap k, e.ι id = some (b, o) ∧ e.ln id ≤ cap ∧ o + cap * szT T (e.ty id) = blen e.w b ∧ (0 < cap → k = o) ∧ x = .slice (some ⟨b, k, none⟩) (e.ln id) cap := by
  have h : RA T e [.o id ver] [x] := h
  cases h with
  | r h1 _ _ => exact h1.2.2.2.2 hv
theorem rep_w_inv {id ver off n : Nat} {x : Value} (h : Rep T e (.w id ver off n) x) (hv : e.bn id = ver) : ∃ b o cap k, e.ι id = some (b, o) ∧ n ≤ cap ∧ off + n ≤ e.ln id ∧ o + (off + cap) * szT T (e.ty id) = blen e.w b ∧ (0 < cap → k = o + off * szT T (e.ty id)) ∧ x = .slice (some ⟨b, k, none⟩) n cap := by
  have h : RA T e [.w id ver off n] [x] := h
  cases h with
  | r h1 _ _ => exact h1.2.2.2.2 hv
theorem o_as_w {id ver : Nat} {x : Value} (h : Rep T e (.o id ver) x) (hv : e.bn id = ver) (h0 : 0 < ver) (hι : e.ι id ≠ none) (hu : e.U id) : Rep T e (.w id ver 0 (e.ln id)) x := by
  rcases rep_o_inv h hv with ⟨h1, _, _⟩ | ⟨b, o, cap, k, h1, h2, h3, h4, rfl⟩
  · exact absurd h1 hι
  · exact RA.r ⟨rfl, hu, by omega, h0, fun _ => ⟨b, o, cap, k, h1, h2, by omega, by rw [Nat.zero_add]; exact h3, fun hc => by rw [h4 hc]; omega, rfl⟩⟩ rfl .nil
theorem take_drop_cells {xs : List V} {el : Nat} {ys : List Value} (h : RV T e (List.replicate xs.length el) xs ys) {off n : Nat} (hn : off + n ≤ xs.length) :
    ∃ as bs zs, ys = as ++ (bs ++ zs) ∧ as.length = off * szT T el ∧ bs.length = n * szT T el ∧ RV T e (List.replicate n el) ((xs.drop off).take n) bs ∧ RV T e (List.replicate off el) (xs.take off) as := by
  obtain ⟨as, q, rfl, h1, h2, h3⟩ := h.split_at off (by omega)
  obtain ⟨bs, zs, rfl, g1, g2, g3⟩ := h3.split_at n (by omega)
  exact ⟨as, bs, zs, rfl, h1, g1, g2, h2⟩
theorem share_row (h : OSim T c e of) {id el ver : Nat} {xs : List V} {nl sh : Bool} (ho : of id = some (.row el ver xs nl sh)) :
    ∃ e' : Env, e'.w = e.w ∧ OSim T c e' (upd of id (some (.row el ver xs nl true))) ∧ e.le e' ∧ (∀ j, e'.U j → e.U j) ∧
      (∀ t x, kOf T t = some (.slice el) → szT T t = 1 → Rep T e (.o id ver) x → RV T e' [t] [bif nl then .n else .l xs] [x]) ∧
      ∀ t off n x, kOf T t = some (.slice el) → szT T t = 1 → off + n ≤ xs.length → Rep T e (.w id ver off n) x → RV T e' [t] [.l ((xs.drop off).take n)] [x] := by
  obtain ⟨v0, v1, v2, v3, v4, v5, h6⟩ := row_ok h ho
  rcases h6 with ⟨rfl, g1, rfl⟩ | ⟨rfl, b, o, cs, ty, fz, pre, ys, post, h1, h2, h3, h4, h5, h6, h7, h8⟩
  · refine ⟨e, rfl, ?_, Env.le.refl e, fun _ hu => hu, fun t x hk hz hx => ?_, fun t off n x hk hz hn hx => ?_⟩
    · exact h.turn ho (Env.le.refl e) (fun _ _ => rfl) (fun _ _ => rfl) (fun _ hu => hu) (fun _ _ _ => rfl) (Nat.le_refl _) (fun _ _ hs => .inl hs) (fun k q hk => .inl ⟨q, hk⟩) rfl rfl rfl
        ⟨v0, v1, v2, v3, v4, v5, .inl ⟨rfl, g1, rfl⟩⟩
    · rcases rep_o_inv hx v2 with ⟨_, _, rfl⟩ | ⟨b, o, cap, k, k1, _⟩
      · exact .nils hk hz .nil
      · rw [g1] at k1; cases k1
    · obtain ⟨b, o, cap, k, k1, _⟩ := rep_w_inv hx v2
      rw [g1] at k1; cases k1
  · have hok : OK T (e.share b o (o + ys.length)) id (.row el ver xs false true) :=
      ⟨v0, v1, v2, v3, v4, v5, .inr ⟨rfl, b, o, cs, ty, fz, pre, ys, post, h1, h2, h3, h4, h5, h6.mono (le_share _ _ _ _), fun i hi hs => hs.elim (h7 i hi) (fun ⟨_, _, hlt⟩ => by omega), fun hh => by cases hh⟩⟩
    have key : ∀ t off n x, kOf T t = some (.slice el) → szT T t = 1 → off + n ≤ xs.length → Rep T e (.w id ver off n) x → RV T (e.share b o (o + ys.length)) [t] [.l ((xs.drop off).take n)] [x] := by
      intro t off n x hk hz hn hx
      obtain ⟨b', o', cap, k, k1, k2, k3, k4, k5, rfl⟩ := rep_w_inv hx v2
      rw [h1] at k1; cases k1
      rw [v3] at k4 k5
      obtain ⟨as, bs, zs, rfl, q1, q2, q3, q4⟩ := take_drop_cells h6 hn
      have hlen : ((xs.drop off).take n).length = n := by rw [List.length_take, List.length_drop]; omega
      refine .slice hk hz hlen k2 ⟨fun _ => rfl, fun j y hj => ?_⟩ (q3.mono (le_share _ _ _ _)) .nil
      have hjl := (List.getElem?_eq_some_iff.1 hj).1
      have hn0 : 0 < n := by
        rcases Nat.eq_zero_or_pos n with h0 | h0
        · subst h0; simp at q2; rw [q2] at hjl; simp at hjl
        · exact h0
      have hkk := k5 (by omega)
      refine ⟨?_, .inr ⟨rfl, by show o ≤ k + j; omega, by show k + j < _; simp only [List.length_append]; omega⟩⟩
      show e.w.cell? _ = _
      rw [add_none, cell_heap h2, h4, hkk]
      have e1 : pre ++ (as ++ (bs ++ zs)) ++ post = (pre ++ as) ++ (bs ++ (zs ++ post)) := by simp
      rw [e1, show o + off * szT T el + j = (pre ++ as).length + j by simp only [List.length_append]; omega]
      exact mid_get hj
    refine ⟨e.share b o (o + ys.length), rfl, share_turn h ho h1 hok, le_share _ _ _ _, fun _ hu => hu, fun t x hk hz hx => ?_, key⟩
    have := key t 0 xs.length x hk hz (by omega) (by rw [← v4]; exact o_as_w hx v2 v1 (by rw [h1]; intro q; cases q) v0)
    simpa using this
end Go.Vm

namespace Go.Vm
open Go.RowKit
variable {P : Program} {T : TT} {c : Ctx} {e : Env} {of : Nat → Option Ob}
theorem rep_a_inv {id t : Nat} {path : List Nat} {lo m : Nat} {x : Value} (h : Rep T e (.a id t path lo m) x) : ∃ b off n el k cap, e.U id ∧ e.bn id = 0 ∧ e.ι id = some (b, 0) ∧ Pth T (e.ty id) path t off ∧ kOf T t = some (.arr n el) ∧ lo + m ≤ n ∧ m ≤ cap ∧ (0 < cap → k = off + lo * szT T el) ∧ x = .slice (some ⟨b, k, none⟩) m cap := by
  have h : RA T e [.a id t path lo m] [x] := h
  cases h with
  | r h1 _ _ => exact h1
theorem arr_cells {t n el lo m : Nat} {x : V} {d : List Value} (h : RV T e [t] [x] d) (hk : kOf T t = some (.arr n el)) (hm : lo + m ≤ n) :
    ∃ as bs zs, d = as ++ (bs ++ zs) ∧ as.length = lo * szT T el ∧ bs.length = m * szT T el ∧ RV T e (List.replicate m el) ((x.els.drop lo).take m) bs := by
  obtain ⟨ys, rfl, hl, hy⟩ := h.arr_inv hk
  subst hl
  obtain ⟨as, bs, zs, h1, h2, h3, h4, _⟩ := take_drop_cells hy hm
  exact ⟨as, bs, zs, h1, h2, h3, h4⟩
theorem share_box (h : OSim T c e of) {id t : Nat} {a : A} {sh : Bool} (ho : of id = some (.box t a sh)) :
    ∃ e' : Env, e'.w = e.w ∧ OSim T c e' (upd of id (some (.box t a true))) ∧ e.le e' ∧ (∀ j, e'.U j → e.U j) ∧
      (∀ t' t1 path n el lo m x y, atA T a path = some (.v t1 y) → kOf T t1 = some (.arr n el) → kOf T t' = some (.slice el) → szT T t' = 1 → Rep T e (.a id t1 path lo m) x → RV T e' [t'] [.l ((y.els.drop lo).take m)] [x]) ∧
      (∀ t1 path x y, atA T a path = some (.v t1 y) → Rep T e (.p id t1 path) x → Rep T e' (.c t1 y) x) := by
  obtain ⟨u1, u2, u3, u4, b, cs, ty, fz, g1, g2, g3, g4, g5, g6⟩ := box_cells h ho
  have hok : OK T (e.share b 0 cs.size) id (.box t a true) := ⟨u1, u2, u3, u4, b, cs, ty, fz, g1, g2, g3, g4, g5.mono (le_share _ _ _ _), fun hh => by cases hh⟩
  have hlen : cs.toList.length = cs.size := Array.length_toList ..
  refine ⟨e.share b 0 cs.size, rfl, share_turn h ho g1 hok, le_share _ _ _ _, fun _ hu => hu, fun t' t1 path n el lo m x y hat hk hk' hz hx => ?_, fun t1 path x y hat hx => ?_⟩
  · obtain ⟨b', off, n', el', k, cap, _, _, k1, k2, k3, k4, k5, k6, rfl⟩ := rep_a_inv hx
    rw [g1] at k1; cases k1
    rw [hk] at k3; cases k3
    rw [u3] at k2
    obtain ⟨pre, d, post, q1, q2, q3, q4, q5⟩ := atA_spec path g5 u4 k2 hat
    obtain ⟨as, bs, zs, rfl, r1, r2, r3⟩ := arr_cells q4.v_inv hk k4
    have hl : ((y.els.drop lo).take m).length = m := by rw [r3.length.2]; simp
    refine .slice hk' hz hl k5 ⟨fun _ => rfl, fun j z hj => ?_⟩ (r3.mono (le_share _ _ _ _)) .nil
    have hjl := (List.getElem?_eq_some_iff.1 hj).1
    have hn0 : 0 < m := by
      rcases Nat.eq_zero_or_pos m with h0 | h0
      · subst h0; simp at r2; rw [r2] at hjl; simp at hjl
      · exact h0
    have hkk := k6 (by omega)
    have hcell : cs.toList[k + j]? = some z := by
      rw [q1, hkk]
      have e1 : pre ++ ((as ++ (bs ++ zs)) ++ post) = (pre ++ as) ++ (bs ++ (zs ++ post)) := by simp
      rw [e1, show off + lo * szT T el + j = (pre ++ as).length + j by simp only [List.length_append]; omega]
      exact mid_get hj
    refine ⟨?_, .inr ⟨rfl, Nat.zero_le _, ?_⟩⟩
    · show e.w.cell? _ = _
      rw [add_none, cell_heap g2, hcell]
    · have := (List.getElem?_eq_some_iff.1 hcell).1
      rwa [Array.length_toList] at this
  · obtain ⟨b', off, _, _, k1, k2, rfl⟩ := rep_p_inv hx
    rw [g1] at k1; cases k1
    rw [u3] at k2
    obtain ⟨pre, d, post, q1, q2, q3, q4, q5⟩ := atA_spec path g5 u4 k2 hat
    refine RA.c (q4.v_inv.mono (le_share _ _ _ _)) ⟨fun _ => rfl, fun j z hj => ?_⟩ .nil
    have hcell : cs.toList[off + j]? = some z := by rw [q1, ← q2]; exact mid_get hj
    refine ⟨?_, .inr ⟨rfl, Nat.zero_le _, ?_⟩⟩
    · show e.w.cell? _ = _
      rw [add_none, cell_heap g2, hcell]
    · have := (List.getElem?_eq_some_iff.1 hcell).1
      rwa [Array.length_toList] at this
theorem put_append : ∀ (l m : List (Nat × Ob)) (f : Nat → Option Ob), put f (l ++ m) = put (put f l) m := by
  intro l
  induction l with
  | nil => intro m f; rfl
  | cons q r ih => intro m f; obtain ⟨k, o⟩ := q; exact ih _ _
def sliV (T : TT) (of : Nat → Option Ob) (t : Nat) : A → Option (V × Nat × Ob)
  | .o id ver => match kOf T t, of id with
    | some (.slice el), some (.row el' v xs nl _) => if Nat.beq el el' && Nat.beq v ver && Nat.beq (szT T t) 1 then some (bif nl then .n else .l xs, id, .row el' v xs nl true) else none
    | _, _ => none
  | .w id ver off n => match kOf T t, of id with
    | some (.slice el), some (.row el' v xs nl _) => if Nat.beq el el' && Nat.beq v ver && Nat.beq (szT T t) 1 && Nat.ble (off + n) xs.length then some (.l ((xs.drop off).take n), id, .row el' v xs nl true) else none
    | _, _ => none
  | .a id t1 path lo m => match kOf T t, kOf T t1, of id with
    | some (.slice el), some (.arr _ el'), some (.box t0 a _) => match atA T a path with
      | some (.v t2 y) => if Nat.beq el el' && Nat.beq t1 t2 && Nat.beq (szT T t) 1 then some (.l ((y.els.drop lo).take m), id, .box t0 a true) else none
      | _ => none
    | _, _, _ => none
  | _ => none
theorem sliV_spec {t : Nat} {a : A} {x : V} {id : Nat} {o : Ob} {v : Value} (h : OSim T c e of) (hs : sliV T of t a = some (x, id, o)) (hr : Rep T e a v) :
    ∃ e' : Env, e'.w = e.w ∧ OSim T c e' (upd of id (some o)) ∧ e.le e' ∧ (∀ j, e'.U j → e.U j) ∧ RV T e' [t] [x] [v] := by
  cases a with
  | o id' ver =>
    simp only [sliV] at hs
    split at hs <;> try (cases hs; done)
    rename_i el el' v' xs nl sh hk hof
    split at hs <;> try (cases hs; done)
    rename_i hc
    simp only [Bool.and_eq_true] at hc
    obtain ⟨⟨c1, c2⟩, c3⟩ := hc
    injection hs with hs; injection hs with hs1 hs2; injection hs2 with hs2 hs3
    subst hs1; subst hs2; subst hs3
    have := Nat.eq_of_beq_eq_true c1; subst this
    have := Nat.eq_of_beq_eq_true c2; subst this
    obtain ⟨e', p1, p2, p3, p4, p5, _⟩ := share_row h hof
    exact ⟨e', p1, p2, p3, p4, p5 t v hk (Nat.eq_of_beq_eq_true c3) hr⟩
  | w id' ver off n =>
    simp only [sliV] at hs
    split at hs <;> try (cases hs; done)
    rename_i el el' v' xs nl sh hk hof
    split at hs <;> try (cases hs; done)
    rename_i hc
    simp only [Bool.and_eq_true] at hc
    obtain ⟨⟨⟨c1, c2⟩, c3⟩, c4⟩ := hc
    injection hs with hs; injection hs with hs1 hs2; injection hs2 with hs2 hs3
    subst hs1; subst hs2; subst hs3
    have := Nat.eq_of_beq_eq_true c1; subst this
    have := Nat.eq_of_beq_eq_true c2; subst this
    obtain ⟨e', p1, p2, p3, p4, _, p5⟩ := share_row h hof
    exact ⟨e', p1, p2, p3, p4, p5 t off n v hk (Nat.eq_of_beq_eq_true c3) (Nat.le_of_ble_eq_true c4) hr⟩
  | a id' t1 path lo m =>
    simp only [sliV] at hs
    split at hs <;> try (cases hs; done)
    rename_i el n el' t0 a sh hk hk1 hof
    split at hs <;> try (cases hs; done)
    rename_i t2 y hat
    split at hs <;> try (cases hs; done)
    rename_i hc
    simp only [Bool.and_eq_true] at hc
    obtain ⟨⟨c1, c2⟩, c3⟩ := hc
    injection hs with hs; injection hs with hs1 hs2; injection hs2 with hs2 hs3
    subst hs1; subst hs2; subst hs3
    have := Nat.eq_of_beq_eq_true c1; subst this
    have := Nat.eq_of_beq_eq_true c2; subst this
    obtain ⟨e', p1, p2, p3, p4, p5, _⟩ := share_box h hof
    exact ⟨e', p1, p2, p3, p4, p5 t t1 path n el lo m v y hat hk1 hk (Nat.eq_of_beq_eq_true c3) hr⟩
  | _ => simp [sliV] at hs
mutual
def toV (T : TT) : Nat → (Nat → Option Ob) → Nat → A → Option (V × List (Nat × Ob))
  | 0, _, _, _ => none
  | d + 1, of, t, a => match a with
    | .o _ _ | .w _ _ _ _ | .a _ _ _ _ _ => match sliV T of t a with
      | some (x, id, o) => some (x, [(id, o)])
      | none => none
    | .q t' x => if same T t t' && scal T t then some (x, []) else none
    | .f fn [] => match kOf T t with
      | some .func => if Nat.beq (szT T t) 1 then some (.f fn, []) else none
      | _ => none
    | .g t' l => if same T t t' then match chT T t' with
        | some ts => match toVs T d of ts l with
          | some (xs, wo) => some (.l xs, wo)
          | none => none
        | none => none
      else none
    | a => match asT T t a with
      | some b => match purV b with
        | some x => some (x, [])
        | none => none
      | none => none
def toVs (T : TT) : Nat → (Nat → Option Ob) → List Nat → List A → Option (List V × List (Nat × Ob))
  | 0, _, _, _ => none
  | d + 1, of, ts, as => match ts, as with
    | [], [] => some ([], [])
    | t :: ts, a :: as => match toV T d of t a with
      | some (x, wo) => match toVs T d (put of wo) ts as with
        | some (xs, wo') => some (x :: xs, wo ++ wo')
        | none => none
      | none => none
    | _, _ => none
end
def Shd (T : TT) (c : Ctx) (e : Env) (of : Nat → Option Ob) (wo : List (Nat × Ob)) (Q : Env → Prop) : Prop :=
  ∃ e' : Env, e'.w = e.w ∧ OSim T c e' (put of wo) ∧ e.le e' ∧ (∀ j, e'.U j → e.U j) ∧ Q e'
def oneC : A → Bool
  | .v _ _ | .g _ _ | .t _ => false
  | _ => true
def isC : A → Bool
  | .t _ | .x => false
  | _ => true
theorem RA.single {a : A} {cs : List Value} (h : RA T e [a] cs) (ha : oneC a = true) : ∃ v, cs = [v] := by
  cases h with
  | i _ h => cases h; exact ⟨_, rfl⟩
  | b h => cases h; exact ⟨_, rfl⟩
  | s h => cases h; exact ⟨_, rfl⟩
  | z _ h => cases h; exact ⟨_, rfl⟩
  | v _ _ => simp [oneC] at ha
  | c _ _ h => cases h; exact ⟨_, rfl⟩
  | q _ h => cases h; exact ⟨_, rfl⟩
  | f _ h => cases h; exact ⟨_, rfl⟩
  | g _ _ _ _ _ => simp [oneC] at ha
  | r _ _ h => cases h; exact ⟨_, rfl⟩
theorem toV_both : ∀ (d : Nat), (∀ (e : Env) (of : Nat → Option Ob) (t : Nat) (a : A) (x : V) (wo : List (Nat × Ob)) (cs : List Value), OSim T c e of → toV T d of t a = some (x, wo) → RA T e [a] cs → Shd T c e of wo fun e' => RV T e' [t] [x] cs) ∧
    (∀ (e : Env) (of : Nat → Option Ob) (ts : List Nat) (as : List A) (xs : List V) (wo : List (Nat × Ob)) (cs : List Value), OSim T c e of → toVs T d of ts as = some (xs, wo) → RA T e as cs → Shd T c e of wo fun e' => RV T e' ts xs cs) := by
  intro d
  induction d with
  | zero => exact ⟨fun e of t a x wo cs _ h _ => by simp [toV] at h, fun e of ts as xs wo cs _ h _ => by simp [toVs] at h⟩
  | succ d ih =>
    obtain ⟨ih1, ih2⟩ := ih
    refine ⟨fun e of t a x wo cs h hv hr => ?_, fun e of ts as xs wo cs h hv hr => ?_⟩
    · have sl : ∀ (hrep : ∀ v, RA T e [a] [v] → Rep T e a v), oneC a = true → (match sliV T of t a with | some (x, id, o) => some (x, [(id, o)]) | none => none) = some (x, wo) → Shd T c e of wo fun e' => RV T e' [t] [x] cs := by
        intro hrep ha hv
        obtain ⟨v, rfl⟩ := hr.single ha
        split at hv
        · rename_i x' id o hs
          injection hv with hv; injection hv with h1 h2
          subst h1; subst h2
          obtain ⟨e', p1, p2, p3, p4, p5⟩ := sliV_spec h hs (hrep v hr)
          exact ⟨e', p1, p2, p3, p4, p5⟩
        · cases hv
      have pl : (match asT T t a with | some b => (match purV b with | some x => some (x, ([] : List (Nat × Ob))) | none => none) | none => none) = some (x, wo) → Shd T c e of wo fun e' => RV T e' [t] [x] cs := by
        intro hv
        split at hv
        · rename_i b hb
          split at hv
          · rename_i x' hx'
            injection hv with hv; injection hv with h1 h2
            subst h1; subst h2
            obtain ⟨r1, r2⟩ := asT_RA hr hb
            exact ⟨e, rfl, h, Env.le.refl e, fun _ hu => hu, purV_RV r1 r2 hx'⟩
          · cases hv
        · cases hv
      cases a with
      | o id ver => exact sl (fun v h => h) rfl (by simpa only [toV] using hv)
      | w id ver off n => exact sl (fun v h => h) rfl (by simpa only [toV] using hv)
      | a id t1 path lo m => exact sl (fun v h => h) rfl (by simpa only [toV] using hv)
      | f fn cap =>
        cases cap with
        | cons _ _ => exact pl (by simpa only [toV] using hv)
        | nil =>
          simp only [toV] at hv
          split at hv <;> try (cases hv; done)
          rename_i hk
          split at hv <;> try (cases hv; done)
          rename_i hz
          injection hv with hv; injection hv with h1 h2
          subst h1; subst h2
          refine ⟨e, rfl, h, Env.le.refl e, fun _ hu => hu, ?_⟩
          cases hr with
          | f g1 g2 => cases g1; cases g2; exact .fn hk (Nat.eq_of_beq_eq_true hz) .nil
          | r g1 _ _ => exact g1.elim
      | q t' y =>
        simp only [toV] at hv
        split at hv
        · rename_i hs
          injection hv with hv; injection hv with h1 h2
          subst h1; subst h2
          simp only [Bool.and_eq_true] at hs
          obtain ⟨p, q⟩ := same_spec hs.1
          refine ⟨e, rfl, h, Env.le.refl e, fun _ hu => hu, ?_⟩
          cases hr with
          | q g1 g2 => cases g2; exact g1.cast p q
          | r g1 _ _ => exact g1.elim
        · cases hv
      | g t' l =>
        simp only [toV] at hv
        split at hv
        · rename_i hs
          obtain ⟨p, q⟩ := same_spec hs
          split at hv
          · rename_i ts hts
            split at hv
            · rename_i xs wo' hxs
              injection hv with hv; injection hv with h1 h2
              subst h1; subst h2
              cases hr with
              | g g1 g2 g3 g4 g5 =>
                cases g5
                rw [hts] at g1; cases g1
                obtain ⟨e', p1, p2, p3, p4, p5⟩ := ih2 e of _ _ _ _ _ h hxs g4
                rw [List.append_nil]
                exact ⟨e', p1, p2, p3, p4, p5.whole ((chT_same p).trans hts) (q.trans g3)⟩
              | r g1 _ _ => exact g1.elim
            · cases hv
          · cases hv
        · cases hv
      | i k n => exact pl (by simpa only [toV] using hv)
      | b y => exact pl (by simpa only [toV] using hv)
      | s y => exact pl (by simpa only [toV] using hv)
      | z y => exact pl (by simpa only [toV] using hv)
      | v t' y => exact pl (by simpa only [toV] using hv)
      | p _ _ _ => exact pl (by simpa only [toV] using hv)
      | e _ _ _ _ _ => exact pl (by simpa only [toV] using hv)
      | c _ _ => exact pl (by simpa only [toV] using hv)
      | m _ => exact pl (by simpa only [toV] using hv)
      | y _ => exact pl (by simpa only [toV] using hv)
      | t _ => exact pl (by simpa only [toV] using hv)
      | x => exact pl (by simpa only [toV] using hv)
    · cases ts with
      | nil =>
        cases as with
        | nil =>
          simp only [toVs, Option.some.injEq, Prod.mk.injEq] at hv
          obtain ⟨rfl, rfl⟩ := hv
          cases hr
          exact ⟨e, rfl, h, Env.le.refl e, fun _ hu => hu, .nil⟩
        | cons a as => simp [toVs] at hv
      | cons t ts =>
        cases as with
        | nil => simp [toVs] at hv
        | cons a as =>
          simp only [toVs] at hv
          split at hv <;> try (cases hv; done)
          rename_i x1 w1 h1
          split at hv <;> try (cases hv; done)
          rename_i xs2 w2 h2
          injection hv with hv; injection hv with hv1 hv2
          subst hv1; subst hv2
          obtain ⟨d1, r, rfl, k1, k2⟩ := hr.uncons
          obtain ⟨e1, p1, p2, p3, p4, p5⟩ := ih1 e of _ _ _ _ _ h h1 k1
          obtain ⟨e2, q1, q2, q3, q4, q5⟩ := ih2 e1 _ _ _ _ _ _ p2 h2 (k2.mono p3)
          exact ⟨e2, q1.trans p1, by rw [put_append]; exact q2, p3.trans q3, fun j hj => p4 j (q4 j hj), (p5.mono q3).append q5⟩
theorem rep_cells {a : A} {x : Value} (h : Rep T e a x) (ha : isC a = true) : RA T e [a] x.cells.toList := by
  cases a <;> first | (simp [isC] at ha; done) | exact (RA.v1 h.1) | exact h.1 | (rw [cells_one (RA.one_ (T := T) (e := e) h x (by simp))]; exact h)
theorem toV_spec {d : Nat} {t : Nat} {a : A} {x : V} {wo : List (Nat × Ob)} {v : Value} (h : OSim T c e of) (hv : toV T d of t a = some (x, wo)) (hr : Rep T e a v) : Shd T c e of wo fun e' => RV T e' [t] [x] v.cells.toList := by
  refine (toV_both d).1 e of t a x wo _ h hv (rep_cells hr ?_)
  cases a <;> first | rfl | skip
  all_goals (cases d <;> simp [toV, asT] at hv)
end Go.Vm

namespace Go.Vm
open Go.RowKit
variable {P : Program} {T : TT} {c : Ctx} {e : Env} {of : Nat → Option Ob}
structure Src (P : Program) (w : World) (xt : TypeId) (y : Value) (z m : Nat) (us : List Value) : Prop where
  ty : (∃ e, P.underlying xt = some (.slice e)) ∨ P.underlying xt = some .string
  len : ∀ w', (Builtin.lenOf y).run P w' = .ok m w'
  first : ∀ w' : World, w'.heap = w.heap → (Builtin.firstCells z m y).run P w' = .ok us.toArray w'
  size : us.length = m * z
theorem run_append_in {t xt ty el : TypeId} {te : TE} {w : World} (ht : P.underlying t = some (.slice el)) (hel : TEok P T el te) {A : Option Addr} {n cap m : Nat} {y : Value} {us : List Value} (hs : Src P w xt y te.size m us)
    (hroom : n + m ≤ cap) {w' : World} (hst : ∀ a, A = some a → (storeCells (a.add (n * te.size)) us).run P w = .ok () w') (hno : A = none → w' = w) :
    (Builtin.append_ #[t, xt] ty #[.slice A n cap, y]).run P w = .ok (.slice A (n + m) cap) w' := by
  have hf := hs.first w rfl
  rcases hs.ty with ⟨e, hd⟩ | hd <;> cases A with
  | none =>
    rw [hno rfl]
    simp [Builtin.append_, run_under ht, run_under hd, run_size hel, hs.len, hf, hroom]
  | some a =>
    have := hst a rfl
    simp [Builtin.append_, run_under ht, run_under hd, run_size hel, hs.len, hf, hroom, this]
theorem zero_len {el : Nat} {te : TE} (hel : TEok P T el te) (ht : T el = some te) : ∃ i z, P.info? el = some i ∧ i.zero = some z ∧ i.size = te.size ∧ i.bytes = te.bytes ∧ ((∀ e, RV T e [el] [te.zero] z.cells.toList) ∨ te.k = .other) ∧ ((∀ e : Env, RV T e [el] [te.zero] z.cells.toList) → z.cells.size = te.size) := by
  obtain ⟨i, d, z, h1, h2, h3, h4, h5, h6, h7, h8⟩ := hel.fits
  refine ⟨i, z, h1, h6, h3, h4, h7, fun hz => ?_⟩
  have := (hz ⟨default, fun _ => none, fun _ _ => False, fun _ => 0, fun _ => False, fun _ => 0, fun _ => 0, fun _ _ => False⟩).one_len
  rw [szT_of ht, Array.length_toList] at this
  exact this
theorem run_append_up {t xt ty el : TypeId} {te : TE} {w : World} (ht : P.underlying t = some (.slice el)) (hel : TEok P T el te) {A : Option Addr} {n cap m : Nat} {y : Value} {us os : List Value} (hs : Src P w xt y te.size m us)
    (hold : ∀ w' : World, w'.heap = w.heap → (Builtin.firstCells te.size n (.slice A n cap)).run P w' = .ok os.toArray w')
    (hroom : cap < n + m) (hbytes : (n + m) * te.bytes ≤ 140737488355328) (h63 : n + m ≤ 4611686018427387904) :
    ∃ (z : Value) (cap2 : Nat), n + m ≤ cap2 ∧ ((∀ e, RV T e [el] [te.zero] z.cells.toList) ∨ te.k = .other) ∧ (Builtin.append_ #[t, xt] ty #[.slice A n cap, y]).run P w = .ok (.slice (some ⟨w.heap.size, 0, none⟩) (n + m) cap2)
      (w.drew.alloc (.cells ((os ++ us).toArray ++ Builtin.zeroCells z.cells (cap2 - (n + m))) el)) := by
  obtain ⟨i, d, z, h1, h2, h3, h4, h5, h6, h7, h8⟩ := hel.fits
  have hf := hs.first w.drew rfl
  have hfo := hold w.drew rfl
  have hn : ¬ (n + m ≤ cap) := by omega
  have h63' : ¬ (9223372036854775807 < ((n : Int) + (m : Int))) := by omega
  have hfit := growslice_fits (need := n + m) (old := cap) (bytes := te.bytes) (by omega) hbytes
  have h48' : ¬ (281474976710656 < Builtin.nextslicecap (n + m) cap * te.bytes) := by omega
  refine ⟨z, grownCap w (n + m) cap el, ?_, h7, ?_⟩
  · simp only [grownCap, Question.cut]; omega
  · rcases hs.ty with ⟨e, hd⟩ | hd
    · simp [Builtin.append_, run_under ht, run_under hd, sizeOf, typeInfo, zeroValue, h1, h3, h4, h6, hs.len, hn, h63', h48', Question.forced, hf, hfo, newRow, grownCap]
      congr 2; apply Array.ext'; simp
    · simp [Builtin.append_, run_under ht, run_under hd, sizeOf, typeInfo, zeroValue, h1, h3, h4, h6, hs.len, hn, h63', h48', Question.forced, hf, hfo, newRow, grownCap]
      congr 2; apply Array.ext'; simp
theorem OSim.same_heap (h : OSim T c e of) {w' : World} (hh : w'.heap = e.w.heap) (hos : w'.os = e.w.os) (ht : w'.tape = e.w.tape) (ho : w'.output = e.w.output) :
    OSim T c { e with w := w' } of ∧ e.le { e with w := w' } := by
  have hle : e.le { e with w := w' } :=
    ⟨fun b i hs => ⟨hs, fun x hx => by rw [← hx]; exact cell_of_heap (by show w'.heap[b]? = _; rw [hh])⟩, fun _ hu => hu, fun _ _ _ => ⟨rfl, rfl, fun b o _ => len_of_heap (by show w'.heap[b]? = _; rw [hh])⟩, fun _ _ h => h, fun _ _ => Nat.le_refl _, fun _ _ => rfl, by show _ ≤ w'.heap.size; rw [hh]; exact Nat.le_refl _, fun b _ => len_of_heap (by show w'.heap[b]? = _; rw [hh])⟩
  refine ⟨⟨fun id o ho => (h.ok id o ho).keep hle rfl (fun b _ _ => by show w'.heap[b]? = _; rw [hh]) (fun _ _ _ _ hs => hs) (fun a o' b _ hG => ⟨hG, by show w'.heap[b]? = _; rw [hh], fun i hs => hs⟩), h.sep, h.own, fun id b o hu hι => ?_, fun b i hs => ?_, h.s0, h.snew, hos.trans h.os, ht.trans h.tape, ho.trans h.output, ?_, fun k hk hm => ?_, h.g.mono (fun _ _ q => q) rfl (fun _ q => q) (by show _ ≤ w'.heap.size; rw [hh]; exact Nat.le_refl _) (fun j b o hj hb => .inl ⟨j, o, hj, hb⟩)⟩, hle⟩
  · show b < w'.heap.size; rw [hh]; exact h.lt _ _ _ hu hι
  · show b < w'.heap.size; rw [hh]; exact h.slt _ _ hs
  · show _ ≤ w'.heap.size; rw [hh]; exact h.size
  · show w'.heap[k]? = _; rw [hh]; exact h.block k hk hm
theorem rep_o_mk {id ver : Nat} {b o cap : Nat} (hu : e.U id) (hv : e.bn id = ver) (h0 : 0 < ver) (h1 : e.ι id = some (b, o)) (h2 : e.ln id ≤ cap) (h3 : o + cap * szT T (e.ty id) = blen e.w b) {k : Nat} (hk : 0 < cap → k = o) : Rep T e (.o id ver) (.slice (some ⟨b, k, none⟩) (e.ln id) cap) :=
  RA.r ⟨rfl, hu, by omega, h0, fun _ => .inr ⟨b, o, cap, k, h1, h2, h3, hk, rfl⟩⟩ rfl .nil
theorem rep_o_nil {id ver : Nat} (hu : e.U id) (hv : e.bn id = ver) (h0 : 0 < ver) (h1 : e.ι id = none) (h2 : e.ln id = 0) : Rep T e (.o id ver) (.slice none 0 0) :=
  RA.r ⟨rfl, hu, by omega, h0, fun _ => .inl ⟨h1, h2, rfl⟩⟩ rfl .nil
def Env.turned (e : Env) (w : World) (id ver ln : Nat) (p : Option (Nat × Nat)) : Env := { e with w := w, ι := upd e.ι id p, bn := upd e.bn id ver, ln := upd e.ln id ln }
theorem le_turned {id ver ln : Nat} {p : Option (Nat × Nat)} {w : World} (hv : e.bn id < ver) (h0 : 0 < e.bn id) (hS : ∀ b i, e.S b i → ∀ x, e.w.cell? ⟨b, i, none⟩ = some x → w.cell? ⟨b, i, none⟩ = some x) (hl : ∀ b, b < e.w.heap.size → blen w b = blen e.w b) (hlt : ∀ j b o, e.U j → e.ι j = some (b, o) → b < e.w.heap.size) (hs : e.w.heap.size ≤ w.heap.size) : e.le (e.turned w id ver ln p) := by
  have ne : ∀ j, e.U j → upd e.bn id ver j = e.bn j → j ≠ id := fun j _ hb he => by subst he; rw [upd_same] at hb; omega
  refine ⟨fun b i hs' => ⟨hs', hS b i hs'⟩, fun _ hj => hj, fun j hj hb => ?_, fun j hj h0' => ?_, fun j hj => ?_, fun _ _ => rfl, hs, hl⟩
  · have hne := ne j hj hb
    exact ⟨upd_ne _ _ hne, upd_ne _ _ hne, fun b o hb' => hl b (hlt _ _ _ hj hb')⟩
  · have hne : j ≠ id := fun he => by subst he; omega
    show upd e.bn id ver j = 0
    rw [upd_ne _ _ hne]; exact h0'
  · show _ ≤ upd e.bn id ver j
    by_cases hne : j = id
    · subst hne; rw [upd_same]; omega
    · rw [upd_ne _ _ hne]; exact Nat.le_refl _
theorem law_append_w {t xt ty el : TypeId} {te : TE} (h : OSim T c e of) (hT : TOK T P) (ht : P.underlying t = some (.slice el)) (hel : T el = some te) (hno : te.k ≠ .other) {id ver off n : Nat} {xs ns : List V} {sh : Bool} {x y : Value} {us : List Value}
    (ho : of id = some (.row el ver xs false sh)) (hn : off + n ≤ xs.length) (hsh : off + n = xs.length ∨ sh = false) (hx : Rep T e (.w id ver off n) x) (hs : Src P e.w xt y te.size ns.length us) (hus : RV T e (List.replicate ns.length el) ns us)
    (hbytes : (n + ns.length) * te.bytes ≤ 140737488355328) (h63 : n + ns.length ≤ 4611686018427387904) {ro : List Nat} :
    Does P (do pure (.value (← Builtin.append_ #[t, xt] ty #[x, y]))) e.w (Left T c e of ⟨.o id (ver + 1), [(id, .row el (ver + 1) ((xs.drop off).take n ++ ns) false sh)], ro, []⟩) := by
  obtain ⟨v0, v1, v2, v3, v4, v5, h6⟩ := row_ok h ho
  have hz : szT T el = te.size := szT_of hel
  rcases h6 with ⟨q, _⟩ | ⟨_, b, o, cs, ty', fz, pre, ys, post, h1, h2, h3, h4, h5, h6, h7, h8⟩
  · cases q
  obtain ⟨b', o', cap, k, k1, k2, k3, k4, k5, rfl⟩ := rep_w_inv hx v2
  rw [h1] at k1; cases k1
  rw [v3] at k4 k5
  obtain ⟨as, bs, zs, rfl, q1, q2, q3, q4⟩ := take_drop_cells h6 hn
  have hl : ((xs.drop off).take n).length = n := by rw [q3.length.2]; simp
  have hln : ((xs.drop off).take n ++ ns).length = n + ns.length := by rw [List.length_append, hl]
  have hcl : cs.size = o + (off * szT T el + (n * szT T el + zs.length)) + post.length := by
    have := congrArg List.length h4
    simp only [Array.length_toList, List.length_append] at this; omega
  rw [len_heap h2, Nat.add_mul] at k4
  have hsize := hs.size
  have hold : e.bn id < ver + 1 := by omega
  have rvnew : ∀ e' : Env, e.le e' → RV T e' (List.replicate ((xs.drop off).take n ++ ns).length el) ((xs.drop off).take n ++ ns) (bs ++ us) := fun e' hle => by
    rw [hln, ← List.replicate_append_replicate]; exact (q3.mono hle).append (hus.mono hle)
  by_cases hroom : n + ns.length ≤ cap
  · -- in place
    have hmul : (n + ns.length) * szT T el ≤ cap * szT T el := Nat.mul_le_mul_right _ hroom
    rw [Nat.add_mul] at hmul
    rw [← hz] at hsize
    have hfit : o + off * szT T el + n * szT T el + us.length ≤ cs.size := by omega
    obtain ⟨cs', f1, f2⟩ := setCells_heap_eq us h2 (i := o + off * szT T el + n * szT T el) hfit
    have hcs' : cs'.toList = (pre ++ as) ++ (bs ++ us) ++ (zs ++ post).drop us.length := by
      rw [f2, h4]
      have e0 : pre ++ (as ++ (bs ++ zs)) ++ post = (pre ++ (as ++ bs)) ++ (zs ++ post) := by simp
      have hpl : (pre ++ (as ++ bs)).length = o + off * szT T el + n * szT T el := by simp only [List.length_append]; omega
      rw [e0, ← hpl, List.take_left, List.drop_append, List.drop_of_length_le (by omega), Nat.add_sub_cancel_left]
      simp
    have hsz : cs'.size = cs.size := by
      have := congrArg List.length hcs'
      simp only [Array.length_toList, List.length_append, List.length_drop] at this
      omega
    have hblen : ∀ k, blen (setCells e.w b (o + off * szT T el + n * szT T el) us) k = blen e.w k := fun k => by
      by_cases hk : k = b
      · subst hk; rw [len_heap f1, len_heap h2, hsz]
      · exact len_of_heap (setCells_heap_ne _ _ _ _ hk)
    have hSi : ∀ i, e.S b i → i < o + off * szT T el + n * szT T el := fun i hi => by
      rcases hsh with hsh | hsh
      · have : i < o + (as ++ (bs ++ zs)).length := Nat.lt_of_not_le (fun hoi => h7 i hoi hi)
        have h9 := h6.length.1
        rw [szs_replicate] at h9
        rw [h9, ← hsh, Nat.add_mul] at this
        omega
      · have : i < o := Nat.lt_of_not_le (fun hoi => h8 hsh i hoi hi)
        omega
    have hle : e.le (e.turned (setCells e.w b (o + off * szT T el + n * szT T el) us) id (ver + 1) (n + ns.length) (some (b, o + off * szT T el))) := by
      refine le_turned hold (by omega) (fun k' i hs' u hxc => ?_) (fun k _ => hblen k) (fun j b o hj hb => h.lt _ _ _ hj hb) (by rw [setCells_size]; exact Nat.le_refl _)
      by_cases hk : k' = b
      · subst hk
        have hi := hSi i hs'
        rw [cell_heap h2] at hxc
        rw [cell_heap f1, hcs', ← hxc, h4]
        have key : ∀ X : List Value, ((pre ++ (as ++ bs)) ++ X)[i]? = (pre ++ (as ++ bs))[i]? := fun X => List.getElem?_append_left (by simp only [List.length_append]; omega)
        rw [show (pre ++ as) ++ (bs ++ us) ++ (zs ++ post).drop us.length = (pre ++ (as ++ bs)) ++ (us ++ (zs ++ post).drop us.length) by simp, show pre ++ (as ++ (bs ++ zs)) ++ post = (pre ++ (as ++ bs)) ++ (zs ++ post) by simp, key, key]
      · rw [← hxc]; exact cell_of_heap (setCells_heap_ne _ _ _ _ hk)
    have hok : OK T (e.turned (setCells e.w b (o + off * szT T el + n * szT T el) us) id (ver + 1) (n + ns.length) (some (b, o + off * szT T el))) id (.row el (ver + 1) ((xs.drop off).take n ++ ns) false sh) := by
      refine ⟨v0, by omega, upd_same _ _ _, v3, (upd_same _ _ _).trans hln.symm, v5, .inr ⟨rfl, b, o + off * szT T el, cs', ty', fz, pre ++ as, bs ++ us, (zs ++ post).drop us.length, upd_same _ _ _, f1, free_of h3 h2 f1 hsz, hcs', by simp only [List.length_append]; omega, rvnew _ hle, fun i hi hs' => ?_, fun hh i hi hs' => ?_⟩⟩
      · have := hSi i hs'; simp only [List.length_append] at hi; omega
      · exact h8 hh i (by omega) hs'
    have hos := h.turn ho hle (o' := .row el (ver + 1) ((xs.drop off).take n ++ ns) false sh) (fun j hj => upd_ne _ _ hj) (fun j hj => upd_ne _ _ hj) (fun _ hu => hu)
      (fun k' _ hk => setCells_heap_ne _ _ _ _ (fun hkb => hk o (by rw [hkb]; exact h1))) (by show _ ≤ (setCells _ _ _ _).heap.size; rw [setCells_size]; exact Nat.le_refl _) (fun _ _ hs' => .inl hs')
      (fun b' q hb => by
        have hb' : upd e.ι id (some (b, o + off * szT T el)) id = some (b', q) := hb
        rw [upd_same] at hb'; cases hb'; exact .inl ⟨o, h1⟩) (setCells_os _ _ _ _).1 (setCells_os _ _ _ _).2.1 (setCells_os _ _ _ _).2.2 hok
    have hst : ∀ a, some (⟨b, k, none⟩ : Addr) = some a → (storeCells (a.add (n * te.size)) us).run P e.w = .ok () (setCells e.w b (o + off * szT T el + n * szT T el) us) := by
      intro a ha
      cases ha
      by_cases hc0 : cap = 0
      · have : us = [] := List.eq_nil_of_length_eq_zero (by rw [hsize, show ns.length = 0 by omega]; simp)
        subst this
        simp [storeCells, setCells]
      · rw [add_none, k5 (by omega), ← hz]
        exact run_storeCells h2 h3 hus.one hfit
    have hrun := run_append_in (P := P) (ty := ty) (A := some ⟨b, k, none⟩) (n := n) (cap := cap) ht (hT _ _ hel) hs hroom hst (fun ha => by cases ha)
    refine does_value hrun ⟨_, rfl, hos, hle, fun _ hu => .inl hu, ?_⟩
    have hlne : (e.turned (setCells e.w b (o + off * szT T el + n * szT T el) us) id (ver + 1) (n + ns.length) (some (b, o + off * szT T el))).ln id = n + ns.length := upd_same _ _ _
    have := rep_o_mk (T := T) (e := e.turned (setCells e.w b (o + off * szT T el + n * szT T el) us) id (ver + 1) (n + ns.length) (some (b, o + off * szT T el))) (cap := cap) v0 (upd_same _ _ _) (by omega) (upd_same _ _ _) (by rw [hlne]; exact hroom)
      (by show _ + _ * szT T (e.ty id) = blen (setCells _ _ _ _) b; rw [hblen, len_heap h2, v3]; omega) k5
    rwa [hlne] at this
  · -- a new block
    obtain ⟨z, cap2, hc2, hzr, hrun⟩ := run_append_up (P := P) (ty := ty) (os := bs) ht (hT _ _ hel) hs (A := some ⟨b, k, none⟩) (n := n) (cap := cap) (fun w' hw' => by
      have hbl' : bs.length = n * te.size := by rw [q2, hz]
      simp only [Builtin.firstCells]
      rw [← hbl']
      refine run_loadCells w' _ bs (fun j y hj => ?_)
      have hjl := (List.getElem?_eq_some_iff.1 hj).1
      have hn0 : 0 < n := by
        rcases Nat.eq_zero_or_pos n with h0 | h0
        · rw [h0] at hbl'; simp at hbl'; rw [hbl'] at hjl; simp at hjl
        · exact h0
      rw [add_none, k5 (by omega), cell_of_heap (w := e.w) (by rw [hw']), cell_heap h2, h4]
      have e1 : pre ++ (as ++ (bs ++ zs)) ++ post = (pre ++ as) ++ (bs ++ (zs ++ post)) := by simp
      rw [e1, show o + off * szT T el + j = (pre ++ as).length + j by simp only [List.length_append]; omega]
      exact mid_get hj) (by omega) hbytes h63
    have hzz : ∀ e, RV T e [el] [te.zero] z.cells.toList := hzr.elim (fun q => q) (fun q => absurd q hno)
    have hzs : z.cells.size = te.size := by
      have := (hzz e).one_len
      rw [hz, Array.length_toList] at this; exact this
    have hcs : ((bs ++ us).toArray ++ Builtin.zeroCells z.cells (cap2 - (n + ns.length))).size = cap2 * szT T el := by
      rw [hz] at q2 ⊢
      simp only [Array.size_append, List.size_toArray, List.length_append, q2, hsize, size_zeroCells, hzs, ← Nat.add_mul]
      congr 1; omega
    have hheap : (e.w.drew.alloc (.cells ((bs ++ us).toArray ++ Builtin.zeroCells z.cells (cap2 - (n + ns.length))) el)).heap[e.w.heap.size]? = some (.cells ((bs ++ us).toArray ++ Builtin.zeroCells z.cells (cap2 - (n + ns.length))) el (0, 0)) := alloc_new e.w.drew _
    have hsz : (e.w.drew.alloc (.cells ((bs ++ us).toArray ++ Builtin.zeroCells z.cells (cap2 - (n + ns.length))) el)).heap.size = e.w.heap.size + 1 := size_alloc e.w.drew _
    have hle : e.le (e.turned (e.w.drew.alloc (.cells ((bs ++ us).toArray ++ Builtin.zeroCells z.cells (cap2 - (n + ns.length))) el)) id (ver + 1) (n + ns.length) (some (e.w.heap.size, 0))) :=
      le_turned hold (by omega) (fun k' i hs' x hx => by rw [← hx]; exact cell_of_heap (alloc_old e.w.drew _ (h.slt _ _ hs'))) (fun b hb => len_of_heap (alloc_old e.w.drew _ hb)) (fun j b o hj hb => h.lt _ _ _ hj hb) (by omega)
    have hok : OK T (e.turned (e.w.drew.alloc (.cells ((bs ++ us).toArray ++ Builtin.zeroCells z.cells (cap2 - (n + ns.length))) el)) id (ver + 1) (n + ns.length) (some (e.w.heap.size, 0))) id (.row el (ver + 1) ((xs.drop off).take n ++ ns) false sh) := by
      refine ⟨v0, by omega, upd_same _ _ _, v3, (upd_same _ _ _).trans hln.symm, v5, .inr ⟨rfl, e.w.heap.size, 0, _, el, (0, 0), [], bs ++ us, (Builtin.zeroCells z.cells (cap2 - (n + ns.length))).toList, upd_same _ _ _, hheap, free_zero hheap, by simp, rfl, rvnew _ hle, fun i _ hs' => ?_, fun _ i _ hs' => ?_⟩⟩
      · have := h.slt _ _ hs'; omega
      · have := h.slt _ _ hs'; omega
    have hos := h.turn ho hle (o' := .row el (ver + 1) ((xs.drop off).take n ++ ns) false sh) (fun j hj => upd_ne _ _ hj) (fun j hj => upd_ne _ _ hj) (fun _ hu => hu) (fun k hk _ => alloc_old e.w.drew _ hk) (by show _ ≤ (e.w.drew.alloc _).heap.size; omega) (fun _ _ hs' => .inl hs')
      (fun b q hb => by
        have hb' : upd e.ι id (some (e.w.heap.size, 0)) id = some (b, q) := hb
        rw [upd_same] at hb'; cases hb'; exact .inr ⟨Nat.le_refl _, by show _ < (e.w.drew.alloc _).heap.size; omega⟩) rfl rfl rfl hok
    refine does_value hrun ⟨_, rfl, hos, hle, fun _ hu => .inl hu, ?_⟩
    have hlne : (e.turned (e.w.drew.alloc (.cells ((bs ++ us).toArray ++ Builtin.zeroCells z.cells (cap2 - (n + ns.length))) el)) id (ver + 1) (n + ns.length) (some (e.w.heap.size, 0))).ln id = n + ns.length := upd_same _ _ _
    have := rep_o_mk (T := T) (e := e.turned (e.w.drew.alloc (.cells ((bs ++ us).toArray ++ Builtin.zeroCells z.cells (cap2 - (n + ns.length))) el)) id (ver + 1) (n + ns.length) (some (e.w.heap.size, 0))) (cap := cap2) v0 (upd_same _ _ _) (by omega) (upd_same _ _ _) (by rw [hlne]; exact hc2)
      (by show 0 + _ * szT T (e.ty id) = blen (e.w.drew.alloc _) _; rw [len_heap hheap, hcs, v3]; omega) (fun _ => rfl)
    rwa [hlne] at this
end Go.Vm

namespace Go.Vm
open Go.RowKit
variable {P : Program} {T : TT} {c : Ctx} {e : Env} {of : Nat → Option Ob}
theorem src_of_cells {w : World} {xt : TypeId} {z m cap : Nat} {us : List Value} {a : Addr} (ht : (∃ e, P.underlying xt = some (.slice e)) ∨ P.underlying xt = some .string) (hl : us.length = m * z)
    (hc : ∀ (j : Nat) y, us[j]? = some y → w.cell? (a.add j) = some y) : Src P w xt (.slice (some a) m cap) z m us := by
  refine ⟨ht, fun w' => rfl, fun w' hw => ?_, hl⟩
  simp only [Builtin.firstCells]
  rw [← hl]
  refine run_loadCells w' a us (fun j y hj => ?_)
  rw [← hc j y hj]
  simp only [World.cell?, hw]
theorem src_nil {w : World} {xt : TypeId} {z cap : Nat} {A : Option Addr} (ht : (∃ e, P.underlying xt = some (.slice e)) ∨ P.underlying xt = some .string) : Src P w xt (.slice A 0 cap) z 0 [] := by
  refine ⟨ht, fun w' => rfl, fun w' hw => ?_, by simp⟩
  cases A <;> simp [Builtin.firstCells, loadCells, loadCellsFrom]
theorem src_str {w : World} {xt : TypeId} {s : ByteArray} (ht : P.underlying xt = some .string) : Src P w xt (.string s) 1 s.data.toList.length (s.data.toList.map fun b => Value.int .u8 b.toNat) := by
  refine ⟨.inr ht, fun w' => by show (Pure.pure s.size : Sem Nat).run P w' = _; rw [Sem.run_pure, Array.length_toList]; rfl, fun w' _ => ?_, by simp⟩
  simp only [Builtin.firstCells, Sem.run_pure]
  congr 1
  apply Array.ext'
  simp only [Array.toList_map]
  congr 1
  have : s.extract 0 s.data.toList.length = s := by
    apply ByteArray.ext
    simp
  rw [this]
theorem rv_bytes {el : Nat} (hk : kOf T el = some (.int .u8)) (hz : szT T el = 1) : ∀ (l : List UInt8), RV T e (List.replicate l.length el) (l.map fun b => V.i (b.toNat : Int)) (l.map fun b => Value.int .u8 b.toNat) := by
  intro l
  induction l with
  | nil => exact .nil
  | cons b r ih => exact .int hk hz (by have := b.toNat_lt; constructor <;> simp only [lo, hi] <;> omega) ih
def nilS : Value → Bool
  | .slice none 0 0 => true
  | _ => false
theorem nilS_eq {v : Value} (h : nilS v = true) : v = .slice none 0 0 := by
  unfold nilS at h; split at h
  · rfl
  · cases h
def srcA (T : TT) (of : Nat → Option Ob) (el : Nat) : A → Option (List V × List Nat)
  | .v t x => match kOf T t with
    | some (.slice el') => if Nat.beq el el' then some (x.els, []) else none
    | _ => none
  | .q t x => match kOf T t with
    | some (.slice el') => if Nat.beq el el' then some (x.els, []) else none
    | _ => none
  | .s l => match kOf T el with
    | some (.int .u8) => if Nat.beq (szT T el) 1 then some (l, []) else none
    | _ => none
  | .z v => if nilS v then some ([], []) else none
  | .o id ver => match of id with
    | some (.row el' v xs _ _) => if Nat.beq el el' && Nat.beq v ver then some (xs, [id]) else none
    | _ => none
  | .w id ver off n => match of id with
    | some (.row el' v xs _ _) => if Nat.beq el el' && Nat.beq v ver && Nat.ble (off + n) xs.length then some ((xs.drop off).take n, [id]) else none
    | _ => none
  | .a id t1 path lo m => match kOf T t1, of id with
    | some (.arr _ el'), some (.box _ a _) => match atA T a path with
      | some (.v t2 y) => if Nat.beq el el' && Nat.beq t1 t2 then some ((y.els.drop lo).take m, [id]) else none
      | _ => none
    | _, _ => none
  | _ => none
theorem fz_src {xt el : Nat} {t : Nat} {x : V} {v : Value} (hty : (∃ e, P.underlying xt = some (.slice e)) ∨ P.underlying xt = some .string) (hr : RV T e [t] [x] [v]) (hk : kOf T t = some (.slice el)) :
    ∃ us, Src P e.w xt v (szT T el) x.els.length us ∧ RV T e (List.replicate x.els.length el) x.els us := by
  rcases hr.slice_inv hk with ⟨rfl, hv⟩ | ⟨ys, ds, a, cap, rfl, hv, h1, h2, h3⟩
  · injection hv with hv; subst hv; exact ⟨[], src_nil hty, .nil⟩
  · injection hv with hv; subst hv
    exact ⟨ds, src_of_cells hty (by rw [h3.length.1, szs_replicate]) (fun j y hj => (h2.2 j y hj).1), h3⟩
theorem srcA_ok {xt el : Nat} {of' : Nat → Option Ob} {a : A} {v : Value} {ns : List V} {ro : List Nat} (h : OSim T c e of') (hty : (∃ e, P.underlying xt = some (.slice e)) ∨ P.underlying xt = some .string) (hst : ∀ l, a = .s l → P.underlying xt = some .string)
    (hs : srcA T of el a = some (ns, ro)) (ho : ∀ id ∈ ro, of' id = of id) (hr : Rep T e a v) : ∃ us, Src P e.w xt v (szT T el) ns.length us ∧ RV T e (List.replicate ns.length el) ns us := by
  cases a with
  | v t x =>
    simp only [srcA] at hs
    split at hs <;> try (cases hs; done)
    rename_i el' hk
    split at hs <;> try (cases hs; done)
    rename_i hc
    have := Nat.eq_of_beq_eq_true hc; subst this
    injection hs with hs; injection hs with h1 h2; subst h1
    have hv := hr.1
    have hone : one v = true := by
      cases v <;> first | rfl | skip
      · obtain ⟨k, q1, q2⟩ := hr.2.2 ⟨_, rfl⟩; rw [hk] at q1; cases q1; cases q2
      · rename_i l
        have := hv.one (.tuple l) (by simp [Value.cells])
        simp [one] at this
    rw [cells_one hone] at hv
    exact fz_src hty hv hk
  | q t x =>
    simp only [srcA] at hs
    split at hs <;> try (cases hs; done)
    rename_i el' hk
    split at hs <;> try (cases hs; done)
    rename_i hc
    have := Nat.eq_of_beq_eq_true hc; subst this
    injection hs with hs; injection hs with h1 h2; subst h1
    have hr : RA T e [.q t x] [v] := hr
    cases hr with
    | q g1 g2 => exact fz_src hty g1 hk
    | r g1 _ _ => exact g1.elim
  | s l =>
    simp only [srcA] at hs
    split at hs <;> try (cases hs; done)
    rename_i hk
    split at hs <;> try (cases hs; done)
    rename_i hc
    have hz := Nat.eq_of_beq_eq_true hc
    injection hs with hs; injection hs with h1 h2; subst h1
    have hr : RA T e [.s l] [v] := hr
    cases hr with
    | s g =>
      rename_i s
      rw [hz]
      have := src_str (P := P) (w := e.w) (s := s) (hst _ rfl)
      refine ⟨_, by simpa [txt] using this, ?_⟩
      have := rv_bytes (e := e) hk hz s.data.toList
      simpa [txt] using this
    | r g1 _ _ => exact g1.elim
  | z x =>
    have hr : RA T e [.z x] [v] := hr
    have hvx : v = x := by
      cases hr with
      | z _ _ => rfl
      | r g1 _ _ => exact g1.elim
    subst hvx
    simp only [srcA] at hs
    split at hs
    · rename_i hz
      injection hs with hs; injection hs with h1 h2; subst h1
      rw [nilS_eq hz]
      exact ⟨[], src_nil hty, .nil⟩
    · cases hs
  | o id ver =>
    simp only [srcA] at hs
    split at hs <;> try (cases hs; done)
    rename_i el' v' xs nl sh hof
    split at hs <;> try (cases hs; done)
    rename_i hc
    simp only [Bool.and_eq_true] at hc
    have := Nat.eq_of_beq_eq_true hc.1; subst this
    have := Nat.eq_of_beq_eq_true hc.2; subst this
    injection hs with hs; injection hs with h1 h2; subst h1; subst h2
    obtain ⟨v0, v1, v2, v3, v4, v5, h6⟩ := row_ok h ((ho id (by simp)).trans hof)
    rcases h6 with ⟨rfl, g1, rfl⟩ | ⟨rfl, b, o, cs, ty, fz, pre, ys, post, h1, h2, h3, h4, h5, h6, h7, h8⟩
    · rcases rep_o_inv hr v2 with ⟨_, _, rfl⟩ | ⟨b, o, cap, k, k1, _⟩
      · exact ⟨[], src_nil hty, .nil⟩
      · rw [g1] at k1; cases k1
    · rcases rep_o_inv hr v2 with ⟨k1, _, _⟩ | ⟨b', o', cap, k, k1, k2, k3, k4, rfl⟩
      · rw [h1] at k1; cases k1
      rw [h1] at k1; cases k1
      rw [v4] at k2 ⊢
      have hl := h6.length.1
      rw [szs_replicate] at hl
      by_cases h0 : xs.length = 0
      · have : xs = [] := List.eq_nil_of_length_eq_zero h0
        subst this
        exact ⟨[], src_nil hty, .nil⟩
      · refine ⟨ys, src_of_cells hty hl (fun j y hj => ?_), h6⟩
        rw [add_none, k4 (by omega), cell_heap h2, h4, List.append_assoc, ← h5]
        exact mid_get hj
  | w id ver off n =>
    simp only [srcA] at hs
    split at hs <;> try (cases hs; done)
    rename_i el' v' xs nl sh hof
    split at hs <;> try (cases hs; done)
    rename_i hc
    simp only [Bool.and_eq_true] at hc
    have := Nat.eq_of_beq_eq_true hc.1.1; subst this
    have := Nat.eq_of_beq_eq_true hc.1.2; subst this
    have hn := Nat.le_of_ble_eq_true hc.2
    injection hs with hs; injection hs with h1 h2; subst h1; subst h2
    obtain ⟨v0, v1, v2, v3, v4, v5, h6⟩ := row_ok h ((ho id (by simp)).trans hof)
    obtain ⟨b', o', cap, k, k1, k2, k3, k4, k5, rfl⟩ := rep_w_inv hr v2
    rcases h6 with ⟨rfl, g1, rfl⟩ | ⟨rfl, b, o, cs, ty, fz, pre, ys, post, h1, h2, h3, h4, h5, h6, h7, h8⟩
    · rw [g1] at k1; cases k1
    rw [h1] at k1; cases k1
    rw [v3] at k5
    obtain ⟨as, bs, zs, rfl, q1, q2, q3, q4⟩ := take_drop_cells h6 hn
    have hl : ((xs.drop off).take n).length = n := by rw [q3.length.2]; simp
    rw [hl]
    by_cases h0 : n = 0
    · subst h0; exact ⟨[], src_nil hty, by simpa using RV.nil⟩
    · refine ⟨bs, src_of_cells hty q2 (fun j y hj => ?_), q3⟩
      rw [add_none, k5 (by omega), cell_heap h2, h4]
      have e1 : pre ++ (as ++ (bs ++ zs)) ++ post = (pre ++ as) ++ (bs ++ (zs ++ post)) := by simp
      rw [e1, ← h5, show pre.length + off * szT T el + j = (pre ++ as).length + j by simp only [List.length_append]; omega]
      exact mid_get hj
  | a id t1 path lo m =>
    simp only [srcA] at hs
    split at hs <;> try (cases hs; done)
    rename_i n el' t0 a sh hk1 hof
    split at hs <;> try (cases hs; done)
    rename_i t2 y hat
    split at hs <;> try (cases hs; done)
    rename_i hc
    simp only [Bool.and_eq_true] at hc
    have := Nat.eq_of_beq_eq_true hc.1; subst this
    have := Nat.eq_of_beq_eq_true hc.2; subst this
    injection hs with hs; injection hs with h1 h2; subst h1; subst h2
    obtain ⟨u1, u2, u3, u4, b, cs, ty, fz, g1, g2, g3, g4, g5, g6⟩ := box_cells h ((ho id (by simp)).trans hof)
    obtain ⟨b', off, n', el', k, cap, _, _, k1, k2, k3, k4, k5, k6, rfl⟩ := rep_a_inv hr
    rw [g1] at k1; cases k1
    rw [hk1] at k3; cases k3
    rw [u3] at k2
    obtain ⟨pre, d, post, q1, q2, q3, q4, q5⟩ := atA_spec path g5 u4 k2 hat
    obtain ⟨as, bs, zs, rfl, r1, r2, r3⟩ := arr_cells q4.v_inv hk1 k4
    have hl : ((y.els.drop lo).take m).length = m := by rw [r3.length.2]; simp
    rw [hl]
    by_cases h0 : m = 0
    · subst h0; exact ⟨[], src_nil hty, by simpa using RV.nil⟩
    · refine ⟨bs, src_of_cells hty r2 (fun j z hj => ?_), r3⟩
      rw [add_none, k6 (by omega), cell_heap g2, q1]
      have e1 : pre ++ ((as ++ (bs ++ zs)) ++ post) = (pre ++ as) ++ (bs ++ (zs ++ post)) := by simp
      rw [e1, show off + lo * szT T el + j = (pre ++ as).length + j by simp only [List.length_append]; omega]
      exact mid_get hj
  | _ => simp [srcA] at hs
theorem OK_row {id el : Nat} {xs : List V} {cs : Array Value} {ys post : List Value} (h : OSim T c e of) (hu : ¬ e.U id) (hd : 0 < szT T el) (hcs : cs.toList = ys ++ post) (hr : RV T e (List.replicate xs.length el) xs ys) :
    OK T (e.new id 1 el xs.length cs el (0, 0)) id (.row el 1 xs false false) :=
  ⟨.inl rfl, by omega, upd_same _ _ _, upd_same _ _ _, upd_same _ _ _, hd, .inr ⟨rfl, e.w.heap.size, 0, cs, el, (0, 0), [], ys, post, upd_same _ _ _, heap_new _ _ _ _ _ _ _ _, free_zero (heap_new _ _ _ _ _ _ _ _), by simpa using hcs, rfl, hr.mono (h.le_new hu 1 el xs.length cs el (0, 0)),
    fun i _ hs => absurd (h.slt _ _ hs) (by omega), fun _ i _ hs => absurd (h.slt _ _ hs) (by omega)⟩⟩
theorem OK_rowF {id el : Nat} {xs : List V} {cs : Array Value} {ys post : List Value} {fz : Nat × Nat} (h : OSim T c e of) (hu : ¬ e.U id) (hd : 0 < szT T el) (hcs : cs.toList = ys ++ post) (hr : RV T e (List.replicate xs.length el) xs ys) (hf : free (e.new id 1 el xs.length cs el fz).w e.w.heap.size cs) :
    OK T (e.new id 1 el xs.length cs el fz) id (.row el 1 xs false false) :=
  ⟨.inl rfl, by omega, upd_same _ _ _, upd_same _ _ _, upd_same _ _ _, hd, .inr ⟨rfl, e.w.heap.size, 0, cs, el, fz, [], ys, post, upd_same _ _ _, heap_new _ _ _ _ _ _ _ _, hf, by simpa using hcs, rfl, hr.mono (h.le_new hu 1 el xs.length cs el fz),
    fun i _ hs => absurd (h.slt _ _ hs) (by omega), fun _ i _ hs => absurd (h.slt _ _ hs) (by omega)⟩⟩
theorem rep_o_newF {id el n cap : Nat} {cs : Array Value} {fz : Nat × Nat} (hc : cs.size = cap * szT T el) (hn : n ≤ cap) : Rep T (e.new id 1 el n cs el fz) (.o id 1) (.slice (some ⟨e.w.heap.size, 0, none⟩) n cap) := by
  have h := rep_o_mk (T := T) (e := e.new id 1 el n cs el fz) (id := id) (ver := 1) (b := e.w.heap.size) (o := 0) (cap := cap) (k := 0) (.inl rfl) (upd_same _ _ _) (by omega) (upd_same _ _ _) (by rw [show (e.new id 1 el n cs el fz).ln id = n from upd_same _ _ _]; exact hn)
    (by rw [show (e.new id 1 el n cs el fz).ty id = el from upd_same _ _ _, len_heap (heap_new _ _ _ _ _ _ _ _), hc]; omega) (fun _ => rfl)
  rwa [show (e.new id 1 el n cs el fz).ln id = n from upd_same _ _ _] at h
theorem rep_o_new {id el n cap : Nat} {cs : Array Value} (hc : cs.size = cap * szT T el) (hn : n ≤ cap) : Rep T (e.new id 1 el n cs el (0, 0)) (.o id 1) (.slice (some ⟨e.w.heap.size, 0, none⟩) n cap) := by
  have h := rep_o_mk (T := T) (e := e.new id 1 el n cs el (0, 0)) (id := id) (ver := 1) (b := e.w.heap.size) (o := 0) (cap := cap) (k := 0) (.inl rfl) (upd_same _ _ _) (by omega) (upd_same _ _ _) (by rw [show (e.new id 1 el n cs el (0, 0)).ln id = n from upd_same _ _ _]; exact hn)
    (by rw [show (e.new id 1 el n cs el (0, 0)).ty id = el from upd_same _ _ _, len_heap (heap_new _ _ _ _ _ _ _ _), hc]; omega) (fun _ => rfl)
  rwa [show (e.new id 1 el n cs el (0, 0)).ln id = n from upd_same _ _ _] at h
theorem toList_madeCells (z : Array Value) : ∀ n, (madeCells z (n * z.size)).toList = (List.replicate n z.toList).flatten := by
  intro n
  apply List.ext_getElem?
  intro j
  have hfl : ∀ n, (List.replicate n z.toList).flatten.length = n * z.size := by
    intro n; rw [List.length_flatten, List.map_replicate, List.sum_replicate_nat]; simp
  by_cases hj : j < n * z.size
  · have h1 : (madeCells z (n * z.size)).toList[j]? = some z[j % z.size]! := by
      simp [madeCells, hj]
    rw [h1]
    have key : ∀ n j, j < n * z.size → (List.replicate n z.toList).flatten[j]? = some z[j % z.size]! := by
      intro n
      induction n with
      | zero => intro j hj; simp at hj
      | succ n ih =>
        intro j hj
        rw [List.replicate_succ, List.flatten_cons]
        by_cases hjz : j < z.size
        · rw [List.getElem?_append_left (by simpa using hjz), Nat.mod_eq_of_lt hjz]
          simp [hjz]
        · rw [List.getElem?_append_right (by simpa using hjz), Array.length_toList, ih (j - z.size) (by rw [Nat.add_mul] at hj; omega), ← Nat.mod_eq_sub_mod (by omega)]
    exact (key n j hj).symm
  · rw [List.getElem?_eq_none (by rw [Array.length_toList, size_madeCells]; omega), List.getElem?_eq_none (by rw [hfl]; omega)]
theorem rv_replicate {el : Nat} {z : V} {zs : List Value} (h : RV T e [el] [z] zs) : ∀ n, RV T e (List.replicate n el) (List.replicate n z) (List.replicate n zs).flatten := by
  intro n
  induction n with
  | zero => exact .nil
  | succ n ih => rw [List.replicate_succ, List.replicate_succ, List.replicate_succ, List.flatten_cons]; exact h.append ih
theorem law_make {t el : Nat} {te : TE} (h : OSim T c e of) (hT : TOK T P) (ht : P.underlying t = some (.slice el)) (hel : T el = some te) (hno : te.k ≠ .other) {id : Nat} (hu : ¬ e.U id) (hz : 0 < te.size) {kl kc : IntKind} {l cp : Int} (h0 : 0 ≤ l) (hlc : l ≤ cp)
    (hb : cp * te.bytes ≤ 140737488355328) (h63 : cp ≤ 4611686018427387904) {ro : List Nat} :
    Does P (do pure (.value (← Instr.makeSlice t (.int kl l) (.int kc cp)))) e.w (Left T c e of ⟨.o id 1, [(id, .row el 1 (List.replicate l.toNat te.zero) false false)], ro, [id]⟩) := by
  obtain ⟨i, z, h1, h2, h3, h4, h5, h6⟩ := zero_len (hT _ _ hel) hel
  have hzz := h5.elim (fun q => q) (fun q => absurd q hno)
  have h6 := h6 hzz
  have hsz : szT T el = te.size := szT_of hel
  have hcb : cp.toNat * te.bytes ≤ 140737488355328 := by
    obtain ⟨q, rfl⟩ := Int.eq_ofNat_of_zero_le (show 0 ≤ cp by omega)
    rw [Int.toNat_natCast]
    have : ((q * te.bytes : Nat) : Int) ≤ 140737488355328 := by rw [Int.natCast_mul]; exact hb
    omega
  have hrun := run_make (P := P) e.w t el i z ht h1 h2 kl kc l cp h0 hlc (by rw [h4, Int.mul_comm]; omega) (by omega)
  have hcells : (madeCells z.cells (cp.toNat * i.size)).size = cp.toNat * te.size := by rw [size_madeCells, h3]
  have hsp : (madeCells z.cells (cp.toNat * i.size)).toList = (List.replicate l.toNat z.cells.toList).flatten ++ (List.replicate (cp.toNat - l.toNat) z.cells.toList).flatten := by
    rw [h3, ← h6, toList_madeCells _, ← List.flatten_append, List.replicate_append_replicate]
    congr 2; omega
  have hok := OK_row (id := id) (el := el) (xs := List.replicate l.toNat te.zero) h hu (by rw [hsz]; exact hz) hsp (by rw [List.length_replicate]; exact rv_replicate (hzz e) _)
  rw [List.length_replicate] at hok
  exact does_value hrun (left_new h hu hok (rep_o_new (by rw [hcells, hsz]) (by omega)))
end Go.Vm

namespace Go.Vm
open Go.RowKit
variable {P : Program} {T : TT} {c : Ctx} {e : Env} {of : Nat → Option Ob}
def Env.nil (e : Env) (id el : Nat) : Env := { e with ι := upd e.ι id none, bn := upd e.bn id 1, U := fun j => j = id ∨ e.U j, ty := upd e.ty id el, ln := upd e.ln id 0 }
theorem OSim.le_nil (_h : OSim T c e of) {id el : Nat} (hu : ¬ e.U id) : e.le (e.nil id el) := by
  have hne : ∀ j, e.U j → j ≠ id := fun j hj he => hu (he ▸ hj)
  refine ⟨fun b i hs => ⟨hs, fun _ hx => hx⟩, fun _ hj => .inr hj, fun j hj _ => ⟨upd_ne _ _ (hne j hj), upd_ne _ _ (hne j hj), fun _ _ _ => rfl⟩, fun j hj h0 => ?_, fun j hj => ?_, fun j hj => upd_ne _ _ (hne j hj), Nat.le_refl _, fun _ _ => rfl⟩
  · show upd e.bn id 1 j = 0
    rw [upd_ne _ _ (hne j hj)]; exact h0
  · show _ ≤ upd e.bn id 1 j
    rw [upd_ne _ _ (hne j hj)]; exact Nat.le_refl _
theorem OSim.nil (h : OSim T c e of) {id el : Nat} (hu : ¬ e.U id) {nl : Bool} (hnl : nl = true) (hd : 0 < szT T el) : OSim T c (e.nil id el) (upd of id (some (.row el 1 [] nl false))) := by
  have hle := h.le_nil (el := el) hu
  have hιn : (e.nil id el).ι id = none := upd_same _ _ _
  have hι : ∀ j, j ≠ id → (e.nil id el).ι j = e.ι j := fun j hj => upd_ne _ _ hj
  refine ⟨fun j o hj => ?_, fun j k b q b' q' hj hk hb1 hb2 hne => ?_, fun j b q hj hb => ?_, fun j b q hj hb => ?_, h.slt, h.s0, h.snew, h.os, h.tape, h.output, h.size, h.block, ?_⟩
  · by_cases he : j = id
    · subst he
      rw [upd_same] at hj; cases hj
      exact ⟨.inl rfl, by omega, upd_same _ _ _, upd_same _ _ _, upd_same _ _ _, hd, .inl ⟨hnl, hιn, rfl⟩⟩
    · rw [upd_ne _ _ he] at hj
      exact (h.ok _ _ hj).keep hle (upd_ne _ _ he) (fun _ _ _ => rfl) (fun _ _ _ _ hs => hs) (fun a o' b _ hG => ⟨hG, rfl, fun i hs => hs⟩)
  · have h1 : j ≠ id := fun he => by subst he; rw [hιn] at hb1; cases hb1
    have h2 : k ≠ id := fun he => by subst he; rw [hιn] at hb2; cases hb2
    rw [hι _ h1] at hb1
    rw [hι _ h2] at hb2
    rw [upd_ne _ _ h1] at hj
    rw [upd_ne _ _ h2] at hk
    exact h.sep _ _ _ _ _ _ hj hk hb1 hb2 hne
  · have h1 : j ≠ id := fun he => by subst he; rw [hιn] at hb; cases hb
    rw [hι _ h1] at hb
    rw [upd_ne _ _ h1] at hj
    exact h.own _ _ _ hj hb
  · have h1 : j ≠ id := fun he => by subst he; rw [hιn] at hb; cases hb
    rw [hι _ h1] at hb
    exact h.lt _ _ _ (hj.resolve_left h1) hb
  · refine h.g.mono (fun _ _ q => q) rfl (fun _ q => q) (Nat.le_refl _) (fun j b o hj hb => ?_)
    have h1 : j ≠ id := fun he => by subst he; rw [hιn] at hb; cases hb
    rw [upd_ne _ _ h1] at hj
    rw [hι _ h1] at hb
    exact .inl ⟨j, o, hj, hb⟩
theorem left_nil {id el : Nat} (h : OSim T c e of) (hu : ¬ e.U id) {nl : Bool} (hnl : nl = true) (hd : 0 < szT T el) {ro : List Nat} :
    Left T c e of ⟨.o id 1, [(id, .row el 1 [] nl false)], ro, [id]⟩ (.slice none 0 0) e.w :=
  ⟨e.nil id el, rfl, h.nil hu hnl hd, h.le_nil hu, fun j hj => by rcases hj with rfl | hj; exact .inr (by simp); exact .inl hj, rep_o_nil (.inl rfl) (upd_same _ _ _) (by omega) (upd_same _ _ _) (upd_same _ _ _)⟩
theorem law_append_new {t xt ty el : TypeId} {te : TE} (h : OSim T c e of) (hT : TOK T P) (ht : P.underlying t = some (.slice el)) (hel : T el = some te) (hno : te.k ≠ .other) {id : Nat} (hu : ¬ e.U id) (hz0 : 0 < te.size) {xs ns : List V} {A : Option Addr} {y : Value} {us os : List Value}
    (hs : Src P e.w xt y te.size ns.length us) (hus : RV T e (List.replicate ns.length el) ns us) (hA : A = none ∧ xs = [] ∨ ns ≠ [])
    (hold : ∀ w' : World, w'.heap = e.w.heap → (Builtin.firstCells te.size xs.length (.slice A xs.length xs.length)).run P w' = .ok os.toArray w') (hos : RV T e (List.replicate xs.length el) xs os)
    (hbytes : (xs.length + ns.length) * te.bytes ≤ 140737488355328) (h63 : xs.length + ns.length ≤ 4611686018427387904) {ro : List Nat} :
    Does P (do pure (.value (← Builtin.append_ #[t, xt] ty #[.slice A xs.length xs.length, y]))) e.w (Left T c e of ⟨.o id 1, [(id, .row el 1 (xs ++ ns) ns.isEmpty false)], ro, [id]⟩) := by
  have hz : szT T el = te.size := szT_of hel
  by_cases hn : ns = []
  · subst hn
    rcases hA with ⟨rfl, rfl⟩ | hA
    · have hrun := run_append_in (P := P) (ty := ty) (A := none) (n := 0) (cap := 0) (w' := e.w) ht (hT _ _ hel) hs (by simp) (fun a ha => by cases ha) (fun _ => rfl)
      exact does_value hrun (left_nil h hu rfl (by omega))
    · exact absurd rfl hA
  · have hpos : 0 < ns.length := List.length_pos_iff.2 hn
    have he : ns.isEmpty = false := by cases ns <;> first | rfl | exact absurd rfl hn
    rw [he]
    obtain ⟨z, cap2, hc2, hzr, hrun⟩ := run_append_up (P := P) (ty := ty) (A := A) (n := xs.length) (cap := xs.length) (os := os) ht (hT _ _ hel) hs hold (by omega) hbytes h63
    have hzz : ∀ e, RV T e [el] [te.zero] z.cells.toList := hzr.elim (fun q => q) (fun q => absurd q hno)
    have hzs : z.cells.size = te.size := by
      have := (hzz e).one_len
      rw [hz, Array.length_toList] at this; exact this
    have hol := hos.length.1
    rw [szs_replicate, hz] at hol
    have hsize := hs.size
    have hcs : ((os ++ us).toArray ++ Builtin.zeroCells z.cells (cap2 - (xs.length + ns.length))).size = cap2 * szT T el := by
      rw [hz]
      simp only [Array.size_append, List.size_toArray, List.length_append, hol, hsize, size_zeroCells, hzs, ← Nat.add_mul]
      congr 1; omega
    obtain ⟨hd0, hle0⟩ := h.same_heap (w' := e.w.drew) rfl rfl rfl rfl
    have hok := OK_row (id := id) (el := el) (xs := xs ++ ns) (cs := (os ++ us).toArray ++ Builtin.zeroCells z.cells (cap2 - (xs.length + ns.length))) (ys := os ++ us) (post := (Builtin.zeroCells z.cells (cap2 - (xs.length + ns.length))).toList) hd0 hu (by omega) (by simp)
      (by rw [List.length_append, ← List.replicate_append_replicate]; exact (hos.mono hle0).append (hus.mono hle0))
    obtain ⟨e', p1, p2, p3, p4, p5⟩ := left_new (ro := ro) hd0 hu hok (rep_o_new (n := (xs ++ ns).length) (cap := cap2) hcs (by rw [List.length_append]; exact hc2))
    rw [List.length_append] at p5
    exact does_value hrun ⟨e', p1, p2, hle0.trans p3, p4, p5⟩
theorem law_append_o {t xt ty el : TypeId} {te : TE} (h : OSim T c e of) (hT : TOK T P) (ht : P.underlying t = some (.slice el)) (hel : T el = some te) (hno : te.k ≠ .other) {id ver : Nat} {xs ns : List V} {nl sh : Bool} {x y : Value} {us : List Value}
    (ho : of id = some (.row el ver xs nl sh)) (hx : Rep T e (.o id ver) x) (hs : Src P e.w xt y te.size ns.length us) (hus : RV T e (List.replicate ns.length el) ns us)
    (hbytes : (xs.length + ns.length) * te.bytes ≤ 140737488355328) (h63 : xs.length + ns.length ≤ 4611686018427387904) {ro : List Nat} :
    Does P (do pure (.value (← Builtin.append_ #[t, xt] ty #[x, y]))) e.w (Left T c e of ⟨.o id (ver + 1), [(id, .row el (ver + 1) (xs ++ ns) (nl && ns.isEmpty) sh)], ro, []⟩) := by
  obtain ⟨v0, v1, v2, v3, v4, v5, h6⟩ := row_ok h ho
  have hz : szT T el = te.size := szT_of hel
  cases nl with
  | false =>
    have hι : e.ι id ≠ none := by
      rcases h6 with ⟨q, _⟩ | ⟨_, b, o, cs, ty, fz, pre, ys, post, h1, _⟩
      · cases q
      · rw [h1]; intro q; cases q
    have hw := o_as_w hx v2 v1 hι v0
    rw [v4] at hw
    have := law_append_w (ro := ro) (ty := ty) h hT ht hel hno ho (off := 0) (n := xs.length) (by omega) (.inl (by omega)) hw hs hus hbytes h63
    simpa using this
  | true =>
    obtain ⟨g1, rfl⟩ : e.ι id = none ∧ xs = [] := by
      rcases h6 with ⟨_, g1, g2⟩ | ⟨q, _⟩
      · exact ⟨g1, g2⟩
      · cases q
    have hxv : x = .slice none 0 0 := by
      rcases rep_o_inv hx v2 with ⟨_, _, q⟩ | ⟨b, o, cap, k, k1, _⟩
      · exact q
      · rw [g1] at k1; cases k1
    subst hxv
    by_cases hn : ns = []
    · subst hn
      have hle : e.le (e.turned e.w id (ver + 1) 0 none) := le_turned (by omega) (by omega) (fun _ _ _ _ hx => hx) (fun _ _ => rfl) (fun j b o hj hb => h.lt _ _ _ hj hb) (Nat.le_refl _)
      have hok : OK T (e.turned e.w id (ver + 1) 0 none) id (.row el (ver + 1) [] true sh) := ⟨v0, by omega, upd_same _ _ _, v3, upd_same _ _ _, v5, .inl ⟨rfl, upd_same _ _ _, rfl⟩⟩
      have hos := h.turn ho hle (o' := .row el (ver + 1) [] true sh) (fun j hj => upd_ne _ _ hj) (fun j hj => upd_ne _ _ hj) (fun _ hu => hu) (fun _ _ _ => rfl) (Nat.le_refl _) (fun _ _ hs' => .inl hs') (fun b q hb => by
        have hb' : upd e.ι id none id = some (b, q) := hb
        rw [upd_same] at hb'; cases hb') rfl rfl rfl hok
      have hrun := run_append_in (P := P) (ty := ty) (A := none) (n := 0) (cap := 0) (w' := e.w) ht (hT _ _ hel) hs (by simp) (fun a ha => by cases ha) (fun _ => rfl)
      exact does_value hrun ⟨e.turned e.w id (ver + 1) 0 none, rfl, hos, hle, fun _ hu => .inl hu, rep_o_nil v0 (upd_same _ _ _) (by omega) (upd_same _ _ _) (upd_same _ _ _)⟩
    · have hpos : 0 < ns.length := List.length_pos_iff.2 hn
      have he : ns.isEmpty = false := by cases ns <;> first | rfl | exact absurd rfl hn
      rw [he]
      simp only [List.length_nil, Nat.zero_add] at hbytes h63
      obtain ⟨z, cap2, hc2, hzr, hrun⟩ := run_append_up (P := P) (ty := ty) (A := none) (n := 0) (cap := 0) (os := []) ht (hT _ _ hel) hs (fun w' _ => by simp [Builtin.firstCells]) (by omega) (by rw [Nat.zero_add]; exact hbytes) (by omega)
      have hzz : ∀ e, RV T e [el] [te.zero] z.cells.toList := hzr.elim (fun q => q) (fun q => absurd q hno)
      have hzs : z.cells.size = te.size := by
        have := (hzz e).one_len
        rw [hz, Array.length_toList] at this; exact this
      have hsize := hs.size
      have hcs : ((([] : List Value) ++ us).toArray ++ Builtin.zeroCells z.cells (cap2 - (0 + ns.length))).size = cap2 * szT T el := by
        rw [hz]
        simp only [Array.size_append, List.size_toArray, List.nil_append, hsize, size_zeroCells, hzs, ← Nat.add_mul]
        congr 1; omega
      have hheap : (e.w.drew.alloc (.cells ((([] : List Value) ++ us).toArray ++ Builtin.zeroCells z.cells (cap2 - (0 + ns.length))) el)).heap[e.w.heap.size]? = some (.cells ((([] : List Value) ++ us).toArray ++ Builtin.zeroCells z.cells (cap2 - (0 + ns.length))) el (0, 0)) := alloc_new e.w.drew _
      have hsz : (e.w.drew.alloc (.cells ((([] : List Value) ++ us).toArray ++ Builtin.zeroCells z.cells (cap2 - (0 + ns.length))) el)).heap.size = e.w.heap.size + 1 := size_alloc e.w.drew _
      have hle : e.le (e.turned (e.w.drew.alloc (.cells ((([] : List Value) ++ us).toArray ++ Builtin.zeroCells z.cells (cap2 - (0 + ns.length))) el)) id (ver + 1) ns.length (some (e.w.heap.size, 0))) :=
        le_turned (by omega) (by omega) (fun k' i hs' x hx => by rw [← hx]; exact cell_of_heap (alloc_old e.w.drew _ (h.slt _ _ hs'))) (fun b hb => len_of_heap (alloc_old e.w.drew _ hb)) (fun j b o hj hb => h.lt _ _ _ hj hb) (by omega)
      have hok : OK T (e.turned (e.w.drew.alloc (.cells ((([] : List Value) ++ us).toArray ++ Builtin.zeroCells z.cells (cap2 - (0 + ns.length))) el)) id (ver + 1) ns.length (some (e.w.heap.size, 0))) id (.row el (ver + 1) ns false sh) :=
        ⟨v0, by omega, upd_same _ _ _, v3, upd_same _ _ _, v5, .inr ⟨rfl, e.w.heap.size, 0, _, el, (0, 0), [], us, (Builtin.zeroCells z.cells (cap2 - (0 + ns.length))).toList, upd_same _ _ _, hheap, free_zero hheap, by simp, rfl, hus.mono hle,
          fun i _ hs' => by have := h.slt _ _ hs'; omega, fun _ i _ hs' => by have := h.slt _ _ hs'; omega⟩⟩
      have hos := h.turn ho hle (o' := .row el (ver + 1) ns false sh) (fun j hj => upd_ne _ _ hj) (fun j hj => upd_ne _ _ hj) (fun _ hu => hu) (fun k hk _ => alloc_old e.w.drew _ hk) (by show _ ≤ (e.w.drew.alloc _).heap.size; omega) (fun _ _ hs' => .inl hs')
        (fun b q hb => by
          have hb' : upd e.ι id (some (e.w.heap.size, 0)) id = some (b, q) := hb
          rw [upd_same] at hb'; cases hb'; exact .inr ⟨Nat.le_refl _, by show _ < (e.w.drew.alloc _).heap.size; omega⟩) rfl rfl rfl hok
      refine does_value hrun ⟨_, rfl, hos, hle, fun _ hu => .inl hu, ?_⟩
      have hlne : (e.turned (e.w.drew.alloc (.cells ((([] : List Value) ++ us).toArray ++ Builtin.zeroCells z.cells (cap2 - (0 + ns.length))) el)) id (ver + 1) ns.length (some (e.w.heap.size, 0))).ln id = ns.length := upd_same _ _ _
      have := rep_o_mk (T := T) (e := e.turned (e.w.drew.alloc (.cells ((([] : List Value) ++ us).toArray ++ Builtin.zeroCells z.cells (cap2 - (0 + ns.length))) el)) id (ver + 1) ns.length (some (e.w.heap.size, 0))) (cap := cap2) (k := 0) v0 (upd_same _ _ _) (by omega) (upd_same _ _ _) (by rw [hlne]; omega)
        (by show 0 + _ * szT T (e.ty id) = blen (e.w.drew.alloc _) _; rw [len_heap hheap, hcs, v3]; omega) (fun _ => rfl)
      rw [hlne] at this
      simpa using this
def LIM : Nat := 1073741824
def appendA (T : TT) (of : Nat → Option Ob) (nx t : Nat) (x y : A) : Option Out :=
  match kOf T t with
  | some (.slice el) => match T el, srcA T of el y with
    | some te, some (ns, ro) => if Nat.ble te.bytes 131072 && TK.notOther te.k && Nat.blt 0 te.size then
        match x with
        | .o id ver => match of id with
          | some (.row el' v xs nl sh) => if Nat.beq el el' && Nat.beq v ver && Nat.ble (xs.length + ns.length) LIM then
              some ⟨.o id (ver + 1), [(id, .row el (ver + 1) (xs ++ ns) (nl && ns.isEmpty) sh)], id :: ro, []⟩ else none
          | _ => none
        | .w id ver off n => match of id with
          | some (.row el' v xs false sh) => if Nat.beq el el' && Nat.beq v ver && Nat.ble (off + n) xs.length && (Nat.beq (off + n) xs.length || !sh) && Nat.ble (n + ns.length) LIM then
              some ⟨.o id (ver + 1), [(id, .row el (ver + 1) ((xs.drop off).take n ++ ns) false sh)], id :: ro, []⟩ else none
          | _ => none
        | .v t' .n => if same T t t' && Nat.ble ns.length LIM then some ⟨.o nx 1, [(nx, .row el 1 ns ns.isEmpty false)], ro, [nx]⟩ else none
        | .z v => if nilS v && Nat.ble ns.length LIM then some ⟨.o nx 1, [(nx, .row el 1 ns ns.isEmpty false)], ro, [nx]⟩ else none
        | .q t' x => if same T t t' && !ns.isEmpty && Nat.ble (x.els.length + ns.length) LIM then some ⟨.o nx 1, [(nx, .row el 1 (x.els ++ ns) ns.isEmpty false)], ro, [nx]⟩ else none
        | _ => none
      else none
    | _, _ => none
  | _ => none
end Go.Vm

namespace Go.Vm
open Go.RowKit
variable {P : Program} {T : TT} {c : Ctx} {e : Env} {of : Nat → Option Ob}
theorem notOther_ne {k : TK} (h : TK.notOther k = true) : k ≠ .other := by intro q; rw [q] at h; cases h
def appOk (T : TT) (xt : Nat) (y : A) : Bool :=
  match kOf T xt with
  | some .str => true
  | some (.slice _) => match y with
    | .s _ => false
    | _ => true
  | _ => false
theorem appOk_spec {xt : Nat} {y : A} (hT : TOK T P) (h : appOk T xt y = true) : ((∃ e, P.underlying xt = some (.slice e)) ∨ P.underlying xt = some .string) ∧ ∀ l, y = .s l → P.underlying xt = some .string := by
  unfold appOk at h
  split at h
  · rename_i hk
    obtain ⟨te, h1, h2⟩ := kOf_some hk
    have := under_str (hT _ _ h1) h2
    exact ⟨.inr this, fun _ _ => this⟩
  · rename_i el hk
    obtain ⟨te, h1, h2⟩ := kOf_some hk
    refine ⟨.inl ⟨el, under_slice (hT _ _ h1) h2⟩, fun l hl => ?_⟩
    subst hl; cases h
  · cases h
theorem lim_bytes {n b : Nat} (hn : Nat.ble n LIM = true) (hb : Nat.ble b 131072 = true) : n * b ≤ 140737488355328 ∧ n ≤ 4611686018427387904 := by
  have h1 := Nat.le_of_ble_eq_true hn
  have h2 := Nat.le_of_ble_eq_true hb
  have : n * b ≤ 1073741824 * 131072 := Nat.mul_le_mul h1 h2
  unfold LIM at h1
  omega
theorem rv_single {t : Nat} {x : V} {v : Value} (hr : Rep T e (.v t x) v) (hs : ∃ k, kOf T t = some k ∧ k.agg = false) : RV T e [t] [x] [v] := by
  have hone : one v = true := by
    cases v <;> first | rfl | skip
    · obtain ⟨k, q1, q2⟩ := hr.2.2 ⟨_, rfl⟩; obtain ⟨k', r1, r2⟩ := hs; rw [q1] at r1; cases r1; rw [q2] at r2; cases r2
    · rename_i l
      have := hr.1.one (.tuple l) (by simp [Value.cells])
      simp [one] at this
  have := hr.1
  rwa [cells_one hone] at this
theorem appendA_ok {t xt ty : TypeId} {of' : Nat → Option Ob} {nx : Nat} {u v : A} {x y : Value} {out : Out} (h : OSim T c e of') (hT : TOK T P) (hxt : appOk T xt v = true) (hr : appendA T of nx t u v = some out) (ho : ∀ id ∈ out.ro, of' id = of id) (hu : ∀ id ∈ out.nw, ¬ e.U id) (hx : Rep T e u x) (hy : Rep T e v y) :
    Does P (do pure (.value (← Builtin.append_ #[t, xt] ty #[x, y]))) e.w (Left T c e of' out) := by
  obtain ⟨hty, hst⟩ := appOk_spec hT hxt
  unfold appendA at hr
  split at hr <;> try (cases hr; done)
  rename_i el hk
  obtain ⟨tet, ht1, ht2⟩ := kOf_some hk
  have ht := under_slice (hT _ _ ht1) ht2
  split at hr <;> try (cases hr; done)
  rename_i te ns ro hel hsrc
  split at hr <;> try (cases hr; done)
  rename_i hc
  simp only [Bool.and_eq_true] at hc
  obtain ⟨⟨hby, hno⟩, hz0⟩ := hc
  have hno := notOther_ne hno
  have hz0 : 0 < te.size := by simpa using hz0
  have hz : szT T el = te.size := szT_of hel
  have src : (∀ id ∈ ro, of' id = of id) → ∃ us, Src P e.w xt y te.size ns.length us ∧ RV T e (List.replicate ns.length el) ns us := fun ho => by
    rw [← hz]; exact srcA_ok h hty hst hsrc ho hy
  split at hr
  · -- a whole slice
    rename_i id ver
    split at hr <;> try (cases hr; done)
    rename_i el' v' xs nl sh hof
    split at hr <;> try (cases hr; done)
    rename_i hc
    simp only [Bool.and_eq_true] at hc
    have := Nat.eq_of_beq_eq_true hc.1.1; subst this
    have := Nat.eq_of_beq_eq_true hc.1.2; subst this
    injection hr with hr; subst hr
    obtain ⟨b1, b2⟩ := lim_bytes hc.2 hby
    obtain ⟨us, s1, s2⟩ := src (fun id hid => ho id (by simp [hid]))
    exact law_append_o h hT ht hel hno ((ho _ (by simp)).trans hof) hx s1 s2 b1 b2
  · rename_i id ver off n
    split at hr <;> try (cases hr; done)
    rename_i el' v' xs sh hof
    split at hr <;> try (cases hr; done)
    rename_i hc
    simp only [Bool.and_eq_true, Bool.or_eq_true, Bool.not_eq_true'] at hc
    have := Nat.eq_of_beq_eq_true hc.1.1.1.1; subst this
    have := Nat.eq_of_beq_eq_true hc.1.1.1.2; subst this
    injection hr with hr; subst hr
    obtain ⟨b1, b2⟩ := lim_bytes hc.2 hby
    obtain ⟨us, s1, s2⟩ := src (fun id hid => ho id (by simp [hid]))
    exact law_append_w h hT ht hel hno ((ho _ (by simp)).trans hof) (Nat.le_of_ble_eq_true hc.1.1.2) (hc.1.2.imp Nat.eq_of_beq_eq_true (fun q => q)) hx s1 s2 b1 b2
  · rename_i t'
    split at hr <;> try (cases hr; done)
    rename_i hc
    simp only [Bool.and_eq_true] at hc
    injection hr with hr; subst hr
    obtain ⟨q1, q2⟩ := same_spec hc.1
    obtain ⟨b1, b2⟩ := lim_bytes hc.2 hby
    obtain ⟨us, s1, s2⟩ := src ho
    have hkt : kOf T t' = some (.slice el) := q1.symm.trans hk
    have hv := rv_single hx ⟨_, hkt, rfl⟩
    have hxv : x = .slice none 0 0 := by
      rcases hv.slice_inv hkt with ⟨_, hv⟩ | ⟨ys, ds, a, cap, hv, _⟩
      · injection hv
      · cases hv
    subst hxv
    have := law_append_new (ty := ty) (ro := ro) (xs := []) (os := []) h hT ht hel hno (hu nx (by simp)) hz0 s1 s2 (.inl ⟨rfl, rfl⟩) (fun w' _ => by simp [Builtin.firstCells]) .nil (by simpa using b1) (by simpa using b2)
    simpa using this
  · rename_i z
    split at hr <;> try (cases hr; done)
    rename_i hc
    simp only [Bool.and_eq_true] at hc
    injection hr with hr; subst hr
    obtain ⟨b1, b2⟩ := lim_bytes hc.2 hby
    obtain ⟨us, s1, s2⟩ := src ho
    have hxz : x = z := by
      have hx : RA T e [.z z] [x] := hx
      cases hx with
      | z _ _ => rfl
      | r g1 _ _ => exact g1.elim
    rw [hxz, nilS_eq hc.1]
    have := law_append_new (ty := ty) (ro := ro) (xs := []) (os := []) h hT ht hel hno (hu nx (by simp)) hz0 s1 s2 (.inl ⟨rfl, rfl⟩) (fun w' _ => by simp [Builtin.firstCells]) .nil (by simpa using b1) (by simpa using b2)
    simpa using this
  · rename_i t' xv
    split at hr <;> try (cases hr; done)
    rename_i hc
    simp only [Bool.and_eq_true] at hc
    injection hr with hr; subst hr
    obtain ⟨q1, q2⟩ := same_spec hc.1.1
    obtain ⟨b1, b2⟩ := lim_bytes hc.2 hby
    obtain ⟨us, s1, s2⟩ := src ho
    have hkt : kOf T t' = some (.slice el) := q1.symm.trans hk
    have hne : ns ≠ [] := by intro q; subst q; simp at hc
    have hx : RA T e [.q t' xv] [x] := hx
    cases hx with
    | r g1 _ _ => exact g1.elim
    | q g1 g2 =>
      rcases g1.slice_inv hkt with ⟨rfl, hv⟩ | ⟨ys, ds, a, cap, rfl, hv, r1, r2, r3⟩
      · injection hv with hv; injection hv with e1 e2 e3
        subst e1; subst e2
        exact law_append_new (xs := []) (os := []) h hT ht hel hno (hu nx (by simp)) hz0 s1 s2 (.inr hne) (fun w' _ => by simp [Builtin.firstCells]) .nil b1 b2
      · injection hv with hv; injection hv with e1 e2 e3
        subst e1; subst e2; subst e3
        have hl := r3.length.1
        rw [szs_replicate, hz] at hl
        refine law_append_new (xs := ys) (os := ds) h hT ht hel hno (hu nx (by simp)) hz0 s1 s2 (.inr hne) (fun w' hw => ?_) r3 b1 b2
        simp only [Builtin.firstCells]
        rw [← hl]
        refine run_loadCells w' a ds (fun j y hj => ?_)
        rw [← (r2.2 j y hj).1]
        simp only [World.cell?, hw]
  · cases hr
def bnd (d : Int) : Option A → Option Int
  | none => some d
  | some (.i _ k) => some k
  | _ => none
inductive RepO (T : TT) (e : Env) : Option A → Option Value → Prop
  | none : RepO T e none none
  | some {v x} : Rep T e v x → RepO T e (some v) (some x)
theorem RepO.mono {e e' : Env} (he : e.le e') {v : Option A} {x : Option Value} (h : RepO T e v x) : RepO T e' v x := by
  cases h with
  | none => exact .none
  | some h => exact .some (h.mono he)
theorem rep_i_rng {k : IntKind} {n : Int} {x : Value} (h : Rep T e (.i k n) x) : inR k n := by
  have h : RA T e [.i k n] [x] := h
  cases h with
  | i hr _ => exact hr
  | r g1 _ _ => exact g1.elim
theorem rep_i_inv {k : IntKind} {n : Int} {x : Value} (h : Rep T e (.i k n) x) : x = .int k n := by
  have h : RA T e [.i k n] [x] := h
  cases h with
  | i _ _ => rfl
  | r g1 _ _ => exact g1.elim
theorem rep_b_inv {q : Bool} {x : Value} (h : Rep T e (.b q) x) : x = .bool q := by
  have h : RA T e [.b q] [x] := h
  cases h with
  | b _ => rfl
  | r g1 _ _ => exact g1.elim
theorem rep_s_inv {l : List V} {x : Value} (h : Rep T e (.s l) x) : ∃ s, x = .string s ∧ l = txt s := by
  have h : RA T e [.s l] [x] := h
  cases h with
  | s _ => exact ⟨_, rfl, rfl⟩
  | r g1 _ _ => exact g1.elim
theorem rep_i {k : IntKind} {n : Int} (h : inR k n) : Rep T e (.i k n) (.int k n) := RA.i h .nil
theorem rep_b (q : Bool) : Rep T e (.b q) (.bool q) := RA.b .nil
theorem rep_s (s : ByteArray) : Rep T e (.s (txt s)) (.string s) := RA.s .nil
theorem run_bound {lo : Option A} {lo' : Option Value} {i : Int} {d y : Nat} {code : BoundsCode} {w : World} (h : RepO T e lo lo') (hb : bnd d lo = some i) (h0 : 0 ≤ i) (h1 : i ≤ y) :
    (match lo' with | some v => Instr.sliceBound v y code | none => (Pure.pure d : Sem Nat)).run P w = .ok i.toNat w := by
  cases h with
  | none => simp only [bnd, Option.some.injEq] at hb; subst hb; simp
  | some hv =>
    rename_i v x
    cases v <;> simp only [bnd, Option.some.injEq] at hb <;> try (cases hb; done)
    subst hb
    rw [rep_i_inv hv]
    simp [Instr.sliceBound, asIntOf, h0, h1]
theorem run_bounds {lo hi : Option A} {lo' hi' : Option Value} {l h : Int} {b : Bool} {n cap : Nat} {w : World} (hlo : RepO T e lo lo') (hhi : RepO T e hi hi') (hl : bnd (0 : Nat) lo = some l) (hh : bnd n hi = some h) (h0 : 0 ≤ l) (h1 : l ≤ h) (h2 : h ≤ n) (h3 : n ≤ cap) :
    (Instr.sliceBounds b n cap lo' hi' none).run P w = .ok (l.toNat, h.toNat, cap) w := by
  have k1 := run_bound (P := P) (w := w) (y := h.toNat) (code := .sliceB) hlo hl h0 (by omega)
  have k2 := run_bound (P := P) (w := w) (y := cap) (code := if b then .sliceAcap else .sliceAlen) hhi hh (by omega) (by omega)
  cases hlo <;> cases hhi <;> simp only at k1 k2
  · have e1 : l = 0 := by simpa [bnd] using hl.symm
    have e2 : h = n := by simpa [bnd] using hh.symm
    subst e1; subst e2
    simp [Instr.sliceBounds]
  · have e1 : l = 0 := by simpa [bnd] using hl.symm
    subst e1
    simp [Instr.sliceBounds, k2]
  · have e2 : h = n := by simpa [bnd] using hh.symm
    subst e2
    simp [Instr.sliceBounds] at k1 ⊢
    simp [k1]
  · simp [Instr.sliceBounds, k2, k1]
end Go.Vm

namespace Go.Vm
open Go.RowKit
variable {P : Program} {T : TT} {c : Ctx} {e : Env} {of : Nat → Option Ob}
theorem law_slice_w {t el : TypeId} {te : TE} (h : OSim T c e of) (hT : TOK T P) (ht : P.underlying t = some (.slice el)) (hel : T el = some te) {id ver off n : Nat} {x : Value} {lo hi : Option A} {lo' hi' : Option Value} {l hh : Int} {xs : List V} {nl sh : Bool} (ho : of id = some (.row el ver xs nl sh))
    (hx : Rep T e (.w id ver off n) x) (hlo : RepO T e lo lo') (hhi : RepO T e hi hi') (hl : bnd (0 : Nat) lo = some l) (hh' : bnd n hi = some hh) (h0 : 0 ≤ l) (h1 : l ≤ hh) (h2 : hh ≤ n) {ro : List Nat} :
    Does P (do pure (.value (← Instr.sliceAt t x lo' hi' none))) e.w (Left T c e of ⟨.w id ver (off + l.toNat) (hh - l).toNat, [], ro, []⟩) := by
  obtain ⟨v0, v1, v2, v3, v4, v5, h6⟩ := row_ok h ho
  have hz : szT T el = te.size := szT_of hel
  have hn' : hh.toNat - l.toNat = (hh - l).toNat := by omega
  obtain ⟨b, o, cap, k, k1, k2, k3, k4, k5, rfl⟩ := rep_w_inv hx v2
  have hb := run_bounds (P := P) (b := true) (cap := cap) (w := e.w) hlo hhi hl hh' h0 h1 h2 k2
  refine does_value (x := .slice (some (if cap = l.toNat then ⟨b, k, none⟩ else (⟨b, k, none⟩ : Addr).add (l.toNat * te.size))) (hh.toNat - l.toNat) (cap - l.toNat)) ?_ (left_same h (v := .w id ver (off + l.toNat) (hh - l).toNat) ?_)
  · simp [Instr.sliceAt, Instr.slice, run_under ht, hb, run_size (hT _ _ hel)]
    split <;> rfl
  · rw [hn']
    by_cases hc : cap = l.toNat
    · rw [if_pos hc]
      exact RA.r ⟨rfl, v0, by omega, v1, fun _ => ⟨b, o, cap - l.toNat, k, k1, by omega, by omega, by rw [← k4]; congr 2; omega, fun hp => by omega, rfl⟩⟩ rfl .nil
    · rw [if_neg hc, add_none]
      refine RA.r ⟨rfl, v0, by omega, v1, fun _ => ⟨b, o, cap - l.toNat, _, k1, by omega, by omega, by rw [← k4]; congr 2; omega, fun hp => ?_, rfl⟩⟩ rfl .nil
      rw [k5 (by omega), v3, hz, Nat.add_mul]; omega
def subV (y : V) (lo n : Nat) : V :=
  match y with
  | .n => .n
  | y => .l ((y.els.drop lo).take n)
theorem law_slice_v {t t' el : TypeId} {te : TE} (h : OSim T c e of) (hT : TOK T P) (ht : P.underlying t = some (.slice el)) (hel : T el = some te) (hk : kOf T t' = some (.slice el)) {y : V} {x : Value} {lo hi : Option A} {lo' hi' : Option Value} {l hh : Int}
    (hx : Rep T e (.v t' y) x) (hlo : RepO T e lo lo') (hhi : RepO T e hi hi') (hl : bnd (0 : Nat) lo = some l) (hh' : bnd y.els.length hi = some hh) (h0 : 0 ≤ l) (h1 : l ≤ hh) (h2 : hh ≤ y.els.length) {ro : List Nat} :
    Does P (do pure (.value (← Instr.sliceAt t x lo' hi' none))) e.w (Left T c e of ⟨.v t' (subV y l.toNat (hh - l).toNat), [], ro, []⟩) := by
  have hz : szT T el = te.size := szT_of hel
  have hn' : hh.toNat - l.toNat = (hh - l).toNat := by omega
  have hv := rv_single hx ⟨_, hk, rfl⟩
  have hz1 : szT T t' = 1 := by have := hv.one_len; simpa using this.symm
  have mk : ∀ (z : V) (v : Value), RV T e [t'] [z] [v] → Rep T e (.v t' z) v := fun z v hr => by
    have ho := hr.one v (by simp)
    refine ⟨by rw [cells_one ho]; exact hr, ?_⟩
    constructor
    · rintro ⟨k, q1, q2⟩; rw [hk] at q1; cases q1; cases q2
    · rintro ⟨cs, rfl⟩; simp [one] at ho
  rcases hv.slice_inv hk with ⟨rfl, hvv⟩ | ⟨ys, ds, a, cap, rfl, hvv, r1, r2, r3⟩
  · injection hvv with hvv; subst hvv
    have e1 : hh = 0 := by simp [V.els] at h2; omega
    have e2 : l = 0 := by omega
    subst e1; subst e2
    have hb := run_bounds (P := P) (b := true) (n := 0) (cap := 0) (w := e.w) hlo hhi hl hh' (by omega) (by omega) (by simp) (by simp)
    refine does_value (x := .slice none 0 0) ?_ (left_same h (v := .v t' .n) (mk _ _ (.nils hk hz1 .nil)))
    simp [Instr.sliceAt, Instr.slice, run_under ht, hb, run_size (hT _ _ hel)]
  · injection hvv with hvv; subst hvv
    simp only [V.els] at hh' h2 ⊢
    have hb := run_bounds (P := P) (b := true) (cap := cap) (w := e.w) hlo hhi hl hh' h0 h1 h2 r1
    refine does_value (x := .slice (some (if cap = l.toNat then a else a.add (l.toNat * te.size))) (hh.toNat - l.toNat) (cap - l.toNat)) ?_ (left_same h (v := .v t' (subV (.l ys) l.toNat (hh - l).toNat)) (mk _ _ ?_))
    · simp [Instr.sliceAt, Instr.slice, run_under ht, hb, run_size (hT _ _ hel)]
      split <;> rfl
    · rw [hn']
      obtain ⟨as, bs, zs, rfl, q1, q2, q3, q4⟩ := take_drop_cells r3 (off := l.toNat) (n := (hh - l).toNat) (by omega)
      have hlen : ((ys.drop l.toNat).take (hh - l).toNat).length = (hh - l).toNat := by rw [q3.length.2]; simp
      refine .slice hk hz1 hlen (by omega) ?_ q3 .nil
      by_cases hc : cap = l.toNat
      · rw [if_pos hc]
        have : bs = [] := List.eq_nil_of_length_eq_zero (by rw [q2, show (hh - l).toNat = 0 by omega]; simp)
        subst this
        exact ⟨fun q => absurd rfl q, fun j y hj => by simp at hj⟩
      · rw [if_neg hc]
        by_cases hbs : bs = []
        · subst hbs; exact ⟨fun q => absurd rfl q, fun j y hj => by simp at hj⟩
        obtain ⟨b, o, s⟩ := a
        have hs : s = none := r2.1 (by simp [hbs])
        subst hs
        rw [add_none]
        refine ⟨fun _ => rfl, fun j y hj => ?_⟩
        have := r2.2 (l.toNat * te.size + j) y (by
          have := mid_get (pre := as) (post := zs) hj
          rw [q1, hz] at this; exact this)
        rw [add_none] at this ⊢
        rw [show o + l.toNat * te.size + j = o + (l.toNat * te.size + j) by omega]
        exact this
theorem law_slice_a {t t1 el : TypeId} {te : TE} (h : OSim T c e of) (hT : TOK T P) (ht : P.underlying t = some (.slice el)) (hel : T el = some te) {na : Nat} (hk1 : kOf T t1 = some (.arr na el)) {id : Nat} {path : List Nat} {lo0 m : Nat} {x : Value} {lo hi : Option A} {lo' hi' : Option Value} {l hh : Int}
    (hx : Rep T e (.a id t1 path lo0 m) x) (hlo : RepO T e lo lo') (hhi : RepO T e hi hi') (hl : bnd (0 : Nat) lo = some l) (hh' : bnd m hi = some hh) (h0 : 0 ≤ l) (h1 : l ≤ hh) (h2 : hh ≤ m) {ro : List Nat} :
    Does P (do pure (.value (← Instr.sliceAt t x lo' hi' none))) e.w (Left T c e of ⟨.a id t1 path (lo0 + l.toNat) (hh - l).toNat, [], ro, []⟩) := by
  have hz : szT T el = te.size := szT_of hel
  have hn' : hh.toNat - l.toNat = (hh - l).toNat := by omega
  obtain ⟨b, off, n, el', k, cap, u0, u1, u2, u3, u4, u5, u6, u7, rfl⟩ := rep_a_inv hx
  rw [hk1] at u4; cases u4
  have hb := run_bounds (P := P) (b := true) (cap := cap) (w := e.w) hlo hhi hl hh' h0 h1 h2 u6
  refine does_value (x := .slice (some (if cap = l.toNat then ⟨b, k, none⟩ else (⟨b, k, none⟩ : Addr).add (l.toNat * te.size))) (hh.toNat - l.toNat) (cap - l.toNat)) ?_ (left_same h (v := .a id t1 path (lo0 + l.toNat) (hh - l).toNat) ?_)
  · simp [Instr.sliceAt, Instr.slice, run_under ht, hb, run_size (hT _ _ hel)]
    split <;> rfl
  · rw [hn']
    by_cases hc : cap = l.toNat
    · rw [if_pos hc]; exact RA.r ⟨b, off, _, _, k, cap - l.toNat, u0, u1, u2, u3, hk1, by omega, by omega, fun hp => by omega, rfl⟩ rfl .nil
    · rw [if_neg hc, add_none]
      refine RA.r ⟨b, off, _, _, _, cap - l.toNat, u0, u1, u2, u3, hk1, by omega, by omega, fun _ => ?_, rfl⟩ rfl .nil
      rw [u7 (by omega), ← hz, Nat.add_mul]; omega
theorem law_slice_p {t t1 el : TypeId} {n : Nat} {te : TE} (h : OSim T c e of) (hT : TOK T P) (ht : P.underlying t = some (.array n el)) (hel : T el = some te) (hk1 : kOf T t1 = some (.arr n el)) {id : Nat} {path : List Nat} {x : Value} {lo hi : Option A} {lo' hi' : Option Value} {l hh : Int}
    (hx : Rep T e (.p id t1 path) x) (hlo : RepO T e lo lo') (hhi : RepO T e hi hi') (hl : bnd (0 : Nat) lo = some l) (hh' : bnd n hi = some hh) (h0 : 0 ≤ l) (h1 : l ≤ hh) (h2 : hh ≤ n) {ro : List Nat} :
    Does P (do pure (.value (← Instr.sliceAt t x lo' hi' none))) e.w (Left T c e of ⟨.a id t1 path l.toNat (hh - l).toNat, [], ro, []⟩) := by
  have hz : szT T el = te.size := szT_of hel
  have hn' : hh.toNat - l.toNat = (hh - l).toNat := by omega
  obtain ⟨b, off, u0, u1, u2, u3, rfl⟩ := rep_p_inv hx
  have hb := run_bounds (P := P) (b := false) (cap := n) (w := e.w) hlo hhi hl hh' h0 h1 h2 (Nat.le_refl _)
  refine does_value (x := .slice (some (if n = l.toNat then ⟨b, off, none⟩ else (⟨b, off, none⟩ : Addr).add (l.toNat * te.size))) (hh.toNat - l.toNat) (n - l.toNat)) ?_ (left_same h (v := .a id t1 path l.toNat (hh - l).toNat) ?_)
  · simp [Instr.sliceAt, Instr.sureAddr, run_under ht, hb, run_size (hT _ _ hel)]
    try (split <;> rfl)
  · rw [hn']
    by_cases hc : n = l.toNat
    · rw [if_pos hc]; exact RA.r ⟨b, off, n, el, off, n - l.toNat, u0, u1, u2, u3, hk1, by omega, by omega, fun hp => by omega, rfl⟩ rfl .nil
    · rw [if_neg hc, add_none]; exact RA.r ⟨b, off, n, el, _, n - l.toNat, u0, u1, u2, u3, hk1, by omega, by omega, fun _ => by rw [hz], rfl⟩ rfl .nil
theorem law_slice_str {t : TypeId} {s : List V} {x : Value} {lo hi : Option A} {lo' hi' : Option Value} {l hh : Int} (h : OSim T c e of) (ht : P.underlying t = some .string) (hx : Rep T e (.s s) x) (hlo : RepO T e lo lo') (hhi : RepO T e hi hi') (hl : bnd (0 : Nat) lo = some l) (hh' : bnd s.length hi = some hh)
    (h0 : 0 ≤ l) (h1 : l ≤ hh) (h2 : hh ≤ s.length) {ro : List Nat} : Does P (do pure (.value (← Instr.sliceAt t x lo' hi' none))) e.w (Left T c e of ⟨.s ((s.drop l.toNat).take (hh - l).toNat), [], ro, []⟩) := by
  obtain ⟨bs, rfl, rfl⟩ := rep_s_inv hx
  have hsz : (txt bs).length = bs.size := by unfold txt; rw [List.length_map, Array.length_toList]; rfl
  rw [hsz] at hh' h2
  have hb := run_bounds (P := P) (b := false) (n := bs.size) (cap := bs.size) (w := e.w) hlo hhi hl hh' h0 h1 h2 (Nat.le_refl _)
  refine does_value (x := .string (bs.extract l.toNat hh.toNat)) ?_ (left_same h ?_)
  · simp [Instr.sliceAt, Instr.slice, run_under ht, hb]
  · have : ((txt bs).drop l.toNat).take (hh - l).toNat = txt (bs.extract l.toNat hh.toNat) := by
      unfold txt
      rw [← List.map_drop, ← List.map_take]
      congr 1
      rw [ByteArray.data_extract, Array.toList_extract]
      simp only [List.extract_eq_take_drop]
      congr 1
      omega
    rw [this]
    exact rep_s _
theorem run_bounds3 {lo : Option A} {lo' : Option Value} {l hh : Int} {k1 k2 : IntKind} {b : Bool} {n cap : Nat} {w : World} (hlo : RepO T e lo lo') (hl : bnd (0 : Nat) lo = some l) (h0 : 0 ≤ l) (h1 : l ≤ hh) (h3 : hh ≤ cap) :
    (Instr.sliceBounds b n cap lo' (some (.int k1 hh)) (some (.int k2 hh))).run P w = .ok (l.toNat, hh.toNat, hh.toNat) w := by
  have hmax : max hh 0 = hh := by omega
  have hh0 : 0 ≤ hh := by omega
  have q1 := run_bound (P := P) (w := w) (y := hh.toNat) (code := .slice3C) hlo hl h0 (by omega)
  cases hlo <;> simp only at q1
  · have e1 : l = 0 := by simpa [bnd] using hl.symm
    subst e1
    simp [Instr.sliceBounds, Instr.sliceBound, asIntOf, hh0, h3, hmax]
  · have b1 : (Instr.sliceBound (.int k2 hh) cap (if b then .slice3Acap else .slice3Alen)).run P w = .ok hh.toNat w := by
      simp [Instr.sliceBound, asIntOf, hh0, h3]
    have b2 : (Instr.sliceBound (.int k1 hh) hh.toNat .slice3B).run P w = .ok hh.toNat w := by
      simp [Instr.sliceBound, asIntOf, hh0, hmax]
    simp [Instr.sliceBounds, b1, b2, q1]
theorem law_slice3_v {t t' el : TypeId} {te : TE} (h : OSim T c e of) (hT : TOK T P) (ht : P.underlying t = some (.slice el)) (hel : T el = some te) (hk : kOf T t' = some (.slice el)) {y : V} {x : Value} {lo : Option A} {lo' : Option Value} {hi mx : A} {hi' mx' : Value} {l hh : Int} {k1 k2 : IntKind}
    (hx : Rep T e (.v t' y) x) (hlo : RepO T e lo lo') (hl : bnd (0 : Nat) lo = some l) (hhi : Rep T e hi hi') (hmx : Rep T e mx mx') (e1 : hi = .i k1 hh) (e2 : mx = .i k2 hh) (h0 : 0 ≤ l) (h1 : l ≤ hh) (h2 : hh ≤ y.els.length) {ro : List Nat} :
    Does P (do pure (.value (← Instr.sliceAt t x lo' (some hi') (some mx')))) e.w (Left T c e of ⟨.q t' (subV y l.toNat (hh - l).toNat), [], ro, []⟩) := by
  subst e1; subst e2
  rw [rep_i_inv hhi, rep_i_inv hmx]
  have hz : szT T el = te.size := szT_of hel
  have hn' : hh.toNat - l.toNat = (hh - l).toNat := by omega
  have hv := rv_single hx ⟨_, hk, rfl⟩
  have hz1 : szT T t' = 1 := by have := hv.one_len; simpa using this.symm
  rcases hv.slice_inv hk with ⟨rfl, hvv⟩ | ⟨ys, ds, a, cap, rfl, hvv, r1, r2, r3⟩
  · injection hvv with hvv; subst hvv
    have e1 : hh = 0 := by simp [V.els] at h2; omega
    have e2 : l = 0 := by omega
    subst e1; subst e2
    have hb := run_bounds3 (P := P) (b := true) (n := 0) (cap := 0) (k1 := k1) (k2 := k2) (hh := 0) (w := e.w) hlo hl (by omega) (by omega) (by simp)
    refine does_value (x := .slice none 0 0) ?_ (left_same h (v := .q t' .n) (RA.q (.nils hk hz1 .nil) .nil))
    simp [Instr.sliceAt, Instr.slice, run_under ht, run_size (hT _ _ hel), hb]
  · injection hvv with hvv; subst hvv
    simp only [V.els] at h2 ⊢
    have hb := run_bounds3 (P := P) (b := true) (n := ys.length) (cap := cap) (k1 := k1) (k2 := k2) (w := e.w) hlo hl h0 h1 (by omega)
    refine does_value (x := .slice (some (if hh.toNat = l.toNat then a else a.add (l.toNat * te.size))) (hh.toNat - l.toNat) (hh.toNat - l.toNat)) ?_ (left_same h (v := .q t' (subV (.l ys) l.toNat (hh - l).toNat)) (RA.q ?_ .nil))
    · simp [Instr.sliceAt, Instr.slice, run_under ht, run_size (hT _ _ hel), hb]
      split <;> rfl
    · rw [hn']
      obtain ⟨as, bs, zs, rfl, q1, q2, q3, q4⟩ := take_drop_cells r3 (off := l.toNat) (n := (hh - l).toNat) (by omega)
      have hlen : ((ys.drop l.toNat).take (hh - l).toNat).length = (hh - l).toNat := by rw [q3.length.2]; simp
      refine .slice hk hz1 hlen (Nat.le_refl _) ?_ q3 .nil
      by_cases hc : hh.toNat = l.toNat
      · rw [if_pos hc]
        have : bs = [] := List.eq_nil_of_length_eq_zero (by rw [q2, show (hh - l).toNat = 0 by omega]; simp)
        subst this
        exact ⟨fun q => absurd rfl q, fun j y hj => by simp at hj⟩
      · rw [if_neg hc]
        by_cases hbs : bs = []
        · subst hbs; exact ⟨fun q => absurd rfl q, fun j y hj => by simp at hj⟩
        obtain ⟨b, o, s⟩ := a
        have hs : s = none := r2.1 (by simp [hbs])
        subst hs
        rw [add_none]
        refine ⟨fun _ => rfl, fun j y hj => ?_⟩
        have := r2.2 (l.toNat * te.size + j) y (by
          have := mid_get (pre := as) (post := zs) hj
          rw [q1, hz] at this; exact this)
        rw [add_none] at this ⊢
        rw [show o + l.toNat * te.size + j = o + (l.toNat * te.size + j) by omega]
        exact this
end Go.Vm
end
