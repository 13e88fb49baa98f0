/- What the steps of a program do, shown once for all programs; and numbers. -/
import Derived.Test.YtbpjohmegacdhaaEng1
import Derived.Laws.MakeOwn
import Derived.Laws.OwnMore
import Derived.ChangeKeysEq
namespace Go.Eng
open Go.RowKit
variable {P : Program} {T : TT} {c : Ctx} {e : Env} {of : Nat → Option Obj}

/-! ### What can be appended -/
theorem src_of_cells {w : World} {xt : TypeId} {z m cap : Nat} {us : List Value} {a : Addr} (ht : (∃ e, P.underlying xt = some (.slice e)) ∨ P.underlying xt = some .string) (hl : us.length = m * z)
    (hc : ∀ j y, us[j]? = some y → w.cell? (a.add j) = some y) : Src P w xt (.slice (some a) m cap) z m us := by
  refine ⟨ht, fun w' => rfl, fun w' hw => ?_, hl⟩
  simp only [Builtin.firstCells]
  rw [← hl]
  refine run_loadCells w' a us (fun j y hj => ?_)
  rw [← hc j y hj]
  simp only [World.cell?, hw]
theorem src_nil {w : World} {xt : TypeId} {z cap : Nat} {A : Option Addr} (ht : (∃ e, P.underlying xt = some (.slice e)) ∨ P.underlying xt = some .string) : Src P w xt (.slice A 0 cap) z 0 [] := by
  refine ⟨ht, fun w' => rfl, fun w' hw => ?_, by simp⟩
  cases A <;> simp [Builtin.firstCells, loadCells, loadCellsFrom]
/-- A slice that nobody writes. -/
theorem src_sl {xt : TypeId} {d : List AV} {ns : List (List AV)} {y : Value} (ht : (∃ e, P.underlying xt = some (.slice e)) ∨ P.underlying xt = some .string) (hy : Rep e (.sl d ns) y) :
    ∃ us, Src P e.w xt y (wid d) ns.length us ∧ RepL e ns.flatten us ∧ ∀ r ∈ ns, wid r = wid d := by
  cases hy with
  | sl0 _ => exact ⟨[], src_nil ht, .nil, fun r hr => by cases hr⟩
  | sl h1 h2 h3 h4 h5 h6 _ => exact ⟨_, src_of_cells ht (by rw [h2.length, wid_flatten _ h3]) (fun j y hj => (h6 j y hj).1), h2, h3⟩
/-- A slice of a row of the call's own. -/
theorem src_ow {xt : TypeId} {id ver off n : Nat} {d : List AV} {rows : List (List AV)} {sh : Bool} {y : Value} (h : OSim c e of) (ho : of id = some (.row d ver rows sh)) (ht : (∃ e, P.underlying xt = some (.slice e)) ∨ P.underlying xt = some .string)
    (hn : off + n ≤ rows.length) (hy : Rep e (.ow id ver off n (wid d)) y) : ∃ us, Src P e.w xt y (wid d) ((rows.drop off).take n).length us ∧ RepL e ((rows.drop off).take n).flatten us ∧ ∀ r ∈ (rows.drop off).take n, wid r = wid d := by
  obtain ⟨v0, v1, v2, v3, v4, h6⟩ := h.ok _ _ ho
  have hlen : ((rows.drop off).take n).length = n := by rw [List.length_take, List.length_drop]; omega
  have hw : ∀ r ∈ (rows.drop off).take n, wid r = wid d := fun r hr => v4 r (List.mem_of_mem_drop (List.mem_of_mem_take hr))
  cases hy with
  | owStale _ _ _ u1 _ => omega
  | ow0 _ _ _ _ _ => exact ⟨[], by rw [List.take_zero]; exact src_nil ht, by rw [List.take_zero]; exact .nil, hw⟩
  | @ow _ _ _ _ _ _ _ cap b o k u0 u1 u2 u3 u4 u5 u6 u7 _ =>
    by_cases h0 : n = 0
    · subst h0; exact ⟨[], by rw [List.take_zero]; exact src_nil ht, by rw [List.take_zero]; exact .nil, hw⟩
    rcases h6 with ⟨g1, _⟩ | ⟨b', o', cs, ty', fz, pre, ys, post, h1, h2, h3, h4, h5, h6, h7, h8⟩
    · rw [g1] at u3; cases u3
    rw [h1] at u3; cases u3
    have hsplit : rows.flatten = (rows.take off).flatten ++ (((rows.drop off).take n).flatten ++ ((rows.drop off).drop n).flatten) := by
      rw [← List.flatten_append, List.take_append_drop, ← List.flatten_append, List.take_append_drop]
    rw [hsplit] at h6
    obtain ⟨as, q, rfl, g1, g2⟩ := h6.split
    obtain ⟨bs, zs, rfl, g3, g4⟩ := g2.split
    have hal : as.length = off * wid d := by
      rw [g1.length, wid_flatten _ (fun r hr => v4 r (List.mem_of_mem_take hr)), List.length_take]; congr 1; omega
    refine ⟨bs, ?_, g3, hw⟩
    rw [hlen]
    refine src_of_cells ht (by rw [g3.length, wid_flatten _ hw, hlen]) (fun j y hj => ?_)
    have hjl := (List.getElem?_eq_some_iff.1 hj).1
    rw [add_none, u7 (by omega), cell_heap h2, h4, ← hj, List.append_assoc, List.getElem?_append_right (by omega), List.append_assoc, List.getElem?_append_right (by omega), List.append_assoc, List.getElem?_append_left (by omega)]
    congr 1; omega
/-- A slice of an array in a box. -/
theorem src_bs {xt : TypeId} {id off n lo m : Nat} {l es r : List AV} {sh : Bool} {y : Value} (h : OSim c e of) (ho : of id = some (.box l sh)) (ht : (∃ e, P.underlying xt = some (.slice e)) ∨ P.underlying xt = some .string)
    (hd : dropW off l = some (.ar n es :: r)) (hm : lo + m ≤ n) (hy : Rep e (.bs id off n lo m) y) :
    ∃ us, Src P e.w xt y 1 (((es.drop lo).take m).map fun v => [v]).length us ∧ RepL e (((es.drop lo).take m).map fun v => [v]).flatten us ∧ ∀ r ∈ ((es.drop lo).take m).map fun v => [v], wid r = 1 := by
  obtain ⟨u0, u1, b, cs, ty, fz, h1, h2, h3, h4, h5⟩ := h.ok _ _ ho
  cases hy with | @bs _ _ _ _ _ _ _ cap b' o' k w0 w1 w2 w3 w4 w5 _ =>
  rw [h1] at w2; cases w2
  have hq := h4.drop hd
  obtain ⟨ys, zs, hyz, hes, hyl, _, hs⟩ := ar_head hq
  have hw : ∀ r ∈ ((es.drop lo).take m).map fun v => [v], wid r = 1 := fun r hr => by
    obtain ⟨v, hv, rfl⟩ := List.mem_map.1 hr
    exact wid_scalars [v] (fun u hu => by rw [List.mem_singleton.1 hu]; exact hs v (List.mem_of_mem_drop (List.mem_of_mem_take hv)))
  have hel : es.length = n := by rw [← wid_scalars es hs, ← hes.length]; exact hyl
  rw [flatten_single]
  have hlen : (((es.drop lo).take m).map fun v => [v]).length = m := by rw [List.length_map, List.length_take, List.length_drop]; omega
  by_cases h0 : m = 0
  · subst h0; exact ⟨[], by rw [List.take_zero]; exact src_nil ht, by rw [List.take_zero]; exact .nil, hw⟩
  have hsplit : es = es.take lo ++ ((es.drop lo).take m ++ (es.drop lo).drop m) := by rw [List.take_append_drop, List.take_append_drop]
  rw [hsplit] at hes
  obtain ⟨as, q, rfl, g1, g2⟩ := hes.split
  obtain ⟨bs, cs2, rfl, g3, g4⟩ := g2.split
  have hal : as.length = lo := by rw [g1.length, wid_scalars _ (fun v hv => hs v (List.mem_of_mem_take hv)), List.length_take]; omega
  refine ⟨bs, ?_, g3, hw⟩
  rw [hlen]
  refine src_of_cells ht (by rw [g3.length, wid_scalars _ (fun v hv => hs v (List.mem_of_mem_drop (List.mem_of_mem_take hv))), List.length_take, List.length_drop]; omega) (fun j y hj => ?_)
  have hjl := (List.getElem?_eq_some_iff.1 hj).1
  rw [add_none, w5 (by omega), cell_heap h2, ← hj, show 0 + off + lo + j = off + (lo + j) from by omega, ← List.getElem?_drop, hyz, List.append_assoc, List.getElem?_append_right (by omega), List.append_assoc, List.getElem?_append_left (by omega)]
  congr 1; omega
/-- A string's bytes. -/
def byteAV (b : UInt8) : AV := .pl (.int .u8 b.toNat)
theorem repL_bytes (e : Env) : ∀ (l : List UInt8), RepL e (l.map byteAV) (l.map fun b => Value.int .u8 b.toNat) := by
  intro l
  induction l with
  | nil => exact .nil
  | cons b r ih => exact .pl rfl ih
theorem src_str {w : World} {xt : TypeId} {s : ByteArray} (ht : P.underlying xt = some .string) : Src P w xt (.string s) 1 s.data.toList.length (s.data.toList.map fun b => Value.int .u8 b.toNat) := by
  refine ⟨.inr ht, fun w' => by show (Pure.pure s.size : Sem Nat).run P w' = _; rw [Sem.run_pure, Array.length_toList]; rfl, fun w' _ => ?_, by simp⟩
  simp only [Builtin.firstCells, Sem.run_pure]
  congr 1
  apply Array.ext'
  simp only [Array.toList_map]
  congr 1
  have : s.extract 0 s.data.toList.length = s := by
    apply ByteArray.ext
    simp
  rw [this]

/-! ### New rows -/
theorem OK_row {id : Nat} {d : List AV} {rows : List (List AV)} {cs : Array Value} {t : TypeId} {fz : Nat × Nat} {ys post : List Value} (h : OSim c e of) (hu : ¬ e.U id) (hd : 0 < wid d) (hw : ∀ r ∈ rows, wid r = wid d) (hcs : cs.toList = ys ++ post) (hr : RepL e rows.flatten ys)
    (hf : free (e.new id 1 cs t fz).w e.w.heap.size cs) : OK (e.new id 1 cs t fz) id (.row d 1 rows false) :=
  ⟨.inl rfl, by omega, upd_same _ _ _, hd, hw, .inr ⟨e.w.heap.size, 0, cs, t, fz, [], ys, post, upd_same _ _ _, heap_new _ _ _ _ _ _, hf, by simpa using hcs, rfl, hr.mono (h.le_new hu 1 cs t fz),
    fun i _ hs => absurd (h.slt _ _ hs) (by omega), fun _ i _ hs => absurd (h.slt _ _ hs) (by omega)⟩⟩
theorem rep_ow_new {id n cap : Nat} {z : Nat} {cs : Array Value} {t : TypeId} {fz : Nat × Nat} (hz : 0 < z) (hc : cs.size = cap * z) (hn : n ≤ cap) : Rep (e.new id 1 cs t fz) (.ow id 1 0 n z) (.slice (some ⟨e.w.heap.size, 0, none⟩) n cap) := by
  refine .ow (.inl rfl) (by omega) (upd_same _ _ _) (upd_same _ _ _) ?_ hn hz (fun _ => by omega) .nil
  rw [len_heap (heap_new _ _ _ _ _ _), hc]; simp
theorem rep_zero {el : TypeId} {te : TE} (hel : TEok P el te) : ∃ i z, P.info? el = some i ∧ i.zero = some z ∧ i.size = te.size ∧ i.bytes = te.bytes ∧ flat te.zero = some z.cells.toList ∧ z.cells.size = te.size := by
  obtain ⟨i, d, z, h1, h2, h3, h4, h5, h6, h7, h8⟩ := hel.fits
  refine ⟨i, z, h1, h6, h3, h4, h7, ?_⟩
  have := (flat_spec (⟨default, fun _ => none, fun _ _ => False, fun _ => 0, fun _ => False⟩ : Env) _ _ h7).length
  rw [hel.wide, Array.length_toList] at this; exact this
theorem toList_madeCells (z : Array Value) : ∀ n, (madeCells z (n * z.size)).toList = (List.replicate n z.toList).flatten := by
  intro n
  apply List.ext_getElem?
  intro j
  have hfl : ∀ n, (List.replicate n z.toList).flatten.length = n * z.size := by
    intro n; rw [List.length_flatten, List.map_replicate, List.sum_replicate_nat]; simp
  by_cases hj : j < n * z.size
  · have h1 : (madeCells z (n * z.size)).toList[j]? = some z[j % z.size]! := by
      simp [madeCells, hj]
    rw [h1]
    have key : ∀ n j, j < n * z.size → (List.replicate n z.toList).flatten[j]? = some z[j % z.size]! := by
      intro n
      induction n with
      | zero => intro j hj; simp at hj
      | succ n ih =>
        intro j hj
        rw [List.replicate_succ, List.flatten_cons]
        by_cases hjz : j < z.size
        · rw [List.getElem?_append_left (by simpa using hjz), Nat.mod_eq_of_lt hjz]
          simp [hjz]
        · rw [List.getElem?_append_right (by simpa using hjz), Array.length_toList, ih (j - z.size) (by rw [Nat.add_mul] at hj; omega), ← Nat.mod_eq_sub_mod (by omega)]
    exact (key n j hj).symm
  · rw [List.getElem?_eq_none (by rw [Array.length_toList, size_madeCells]; omega), List.getElem?_eq_none (by rw [hfl]; omega)]
theorem repL_replicate {d : List AV} {zs : List Value} (h : RepL e d zs) : ∀ n, RepL e (List.replicate n d).flatten (List.replicate n zs).flatten := by
  intro n
  induction n with
  | zero => exact .nil
  | succ n ih => rw [List.replicate_succ, List.replicate_succ, List.flatten_cons, List.flatten_cons]; exact h.append ih
theorem law_make {t el : TypeId} {te : TE} (h : OSim c e of) (ht : P.underlying t = some (.slice el)) (hel : TEok P el te) {id : Nat} (hu : ¬ e.U id) (hz : 0 < te.size) {kl kc : IntKind} {l cp : Int} (h0 : 0 ≤ l) (hlc : l ≤ cp)
    (hb : cp * te.bytes ≤ 140737488355328) (h63 : cp ≤ 4611686018427387904) {ro : List Nat} {p : Prop} :
    Does P (do pure (.value (← Instr.makeSlice t (.int kl l) (.int kc cp)))) e.w (Left c e of ⟨.ow id 1 0 l.toNat te.size, [(id, .row te.zero 1 (List.replicate l.toNat te.zero) false)], ro, [id], p⟩) := by
  obtain ⟨i, z, h1, h2, h3, h4, h5, h6⟩ := rep_zero hel
  have hcb : cp.toNat * te.bytes ≤ 140737488355328 := by
    obtain ⟨q, rfl⟩ := Int.eq_ofNat_of_zero_le (show 0 ≤ cp by omega)
    rw [Int.toNat_natCast]
    have : ((q * te.bytes : Nat) : Int) ≤ 140737488355328 := by rw [Int.natCast_mul]; exact hb
    omega
  have hrun := run_make (P := P) e.w t el i z ht h1 h2 kl kc l cp h0 hlc (by rw [h4, Int.mul_comm]; omega) (by omega)
  have hcells : (madeCells z.cells (cp.toNat * i.size)).size = cp.toNat * te.size := by rw [size_madeCells, h3]
  have hsp : (madeCells z.cells (cp.toNat * i.size)).toList = (List.replicate l.toNat z.cells.toList).flatten ++ (List.replicate (cp.toNat - l.toNat) z.cells.toList).flatten := by
    rw [h3, ← h6, toList_madeCells _, ← List.flatten_append, List.replicate_append_replicate]
    congr 2; omega
  refine does_value hrun (left_new h hu (OK_row h hu (by rw [hel.wide]; exact hz) (fun r hr => by rw [(List.mem_replicate.1 hr).2]) hsp (repL_replicate (flat_spec _ _ _ h5) _) (free_zero (heap_new _ _ _ _ _ _))) (rep_ow_new hz hcells (by omega)))
end Go.Eng

namespace Go.Eng
open Go.RowKit
variable {P : Program} {T : TT} {c : Ctx} {e : Env} {of : Nat → Option Obj}

/-! ### Values built of parts -/
theorem foldl_set (off : Nat) : ∀ (vs : List Value) (k : Nat) (cs : Array Value), off + k + vs.length ≤ cs.size →
    ((vs.zipIdx k).foldl (fun (cs : Array Value) (p : Value × Nat) => cs.setIfInBounds (off + p.2) p.1) cs).toList = cs.toList.take (off + k) ++ vs ++ cs.toList.drop (off + k + vs.length) := by
  intro vs
  induction vs with
  | nil => intro k cs _; simp
  | cons v vs ih =>
    intro k cs h
    simp only [List.length_cons] at h
    rw [List.zipIdx_cons, List.foldl_cons, ih (k + 1) _ (by simp; omega)]
    have hlt : off + k < cs.toList.length := by rw [Array.length_toList]; omega
    have hti : (cs.toList.take (off + k)).length = off + k := by rw [List.length_take]; omega
    have e1 : (cs.toList.take (off + k) ++ v :: cs.toList.drop (off + k + 1)).take (off + (k + 1)) = cs.toList.take (off + k) ++ [v] := by
      rw [List.take_append, hti, List.take_of_length_le (by omega), show off + (k + 1) - (off + k) = 1 from by omega]; rfl
    have e2 : (cs.toList.take (off + k) ++ v :: cs.toList.drop (off + k + 1)).drop (off + (k + 1) + vs.length) = cs.toList.drop (off + k + (vs.length + 1)) := by
      rw [List.drop_append, hti, List.drop_of_length_le (by omega), show off + (k + 1) + vs.length - (off + k) = vs.length + 1 from by omega, List.drop_succ_cons, List.drop_drop, List.nil_append]
      congr 1; omega
    rw [Array.toList_setIfInBounds, List.set_eq_take_append_cons_drop, if_pos hlt, e1, e2]
    simp
theorem fill_one {place : Nat → Option (Nat × Nat)} {cells : Array Value} {i off size : Nat} {v : Value} {rest : List (Nat × Value)} (hp : place i = some (off, size)) (hv : v.cells.size = size) (hl : off + size ≤ cells.size) :
    ∃ cells' : Array Value, Instr.fill place cells ((i, v) :: rest) = Instr.fill place cells' rest ∧ cells'.toList = cells.toList.take off ++ v.cells.toList ++ cells.toList.drop (off + size) := by
  refine ⟨v.cells.zipIdx.foldl (fun cs (p : Value × Nat) => cs.setIfInBounds (off + p.2) p.1) cells, ?_, ?_⟩
  · simp only [Instr.fill, hp]
    rw [if_neg (by simp [hv]; omega)]
  · have := foldl_set off v.cells.toList 0 cells (by rw [Array.length_toList]; omega)
    rw [Nat.add_zero, Array.length_toList, hv] at this
    rw [← this, ← Array.foldl_toList, Array.toList_zipIdx]

/-- The parts of a struct laid over its pieces. -/
def fillC (place : Nat → Option (Nat × Nat)) : List AV → List (Nat × AV) → Option (List AV)
  | l, [] => some l
  | l, (i, v) :: rest =>
    match place i, pieces v with
    | some (off, size), some q => if wid q = size then (setW off q l).bind fun l' => fillC place l' rest else none
    | _, _ => none
/-- The values of parts, one by one. -/
inductive RepP (e : Env) : List (Nat × AV) → List (Nat × Value) → Prop
  | nil : RepP e [] []
  | cons {i v x r s} : Rep e v x → RepP e r s → RepP e ((i, v) :: r) ((i, x) :: s)
theorem fillC_spec {place : Nat → Option (Nat × Nat)} : ∀ {parts : List (Nat × AV)} {vals : List (Nat × Value)} {l l' : List AV} {cells : Array Value}, RepP e parts vals → RepL e l cells.toList → fillC place l parts = some l' →
    ∃ cells' : Array Value, Instr.fill place cells vals = some cells' ∧ RepL e l' cells'.toList := by
  intro parts
  induction parts with
  | nil => intro vals l l' cells hp hr h; cases hp; simp only [fillC, Option.some.injEq] at h; subst h; exact ⟨cells, rfl, hr⟩
  | cons p rest ih =>
    intro vals l l' cells hp hr h
    cases hp with | @cons i v x r s hv hp =>
    simp only [fillC] at h
    split at h
    · rename_i off size q hpl hq
      split at h
      · rename_i hw
        rw [Option.bind_eq_some_iff] at h
        obtain ⟨l1, h1, h2⟩ := h
        have hrv := pieces_spec hv hq
        obtain ⟨hset, hle⟩ := hr.set hrv h1
        have hlen := hrv.length
        rw [Array.length_toList] at hlen hle
        have hl2 : cells.toList.length = cells.size := Array.length_toList ..
        obtain ⟨cells', g1, g2⟩ := fill_one (cells := cells) (v := x) (rest := s) hpl (by omega) (by omega)
        rw [Array.length_toList, hlen, hw] at hset
        rw [← g2] at hset
        obtain ⟨cells2, g3, g4⟩ := ih hp hset h2
        exact ⟨cells2, g1.trans g3, g4⟩
      · cases h
    · cases h
def sizesOf (T : TT) (fs : List (Nat × Nat)) : Option (List (Nat × Nat)) := fs.mapM fun f => (T f.2).map fun te => (f.1, te.size)
theorem run_places (hT : T.OK P) (w : World) : ∀ (fs : List Field) (ps : List (Nat × Nat)), sizesOf T (fs.map fun f => (f.offset, f.type)) = some ps →
    (fs.mapM (m := Sem) fun f => Prod.mk f.offset <$> sizeOf f.type).run P w = .ok ps w := by
  intro fs
  induction fs with
  | nil => intro ps h; simp [sizesOf] at h; subst h; simp
  | cons f r ih =>
    intro ps h
    simp only [sizesOf, List.map_cons, List.mapM_cons, Option.bind_eq_bind, Option.bind_eq_some_iff, Option.map_eq_some_iff] at h
    obtain ⟨a, ⟨te, h1, rfl⟩, b, h2, h3⟩ := h
    simp only [pure, Option.some.injEq] at h3
    subst h3
    have hr := run_size (hT _ _ h1) w
    rw [List.mapM_cons]
    simp only [Sem.run_bind, Sem.run_map, hr, Result.andThen_ok, Sem.run_pure]
    rw [ih b h2]
    rfl
theorem law_build_struct (hT : T.OK P) {t : Nat} {te : TE} (h : OSim c e of) (ht : T t = some te) {fs ps : List (Nat × Nat)} (hk : te.k = .struct fs) (hps : sizesOf T fs = some ps) {parts : List (Nat × AV)} {vals : List (Nat × Value)} (hp : RepP e parts vals)
    {l : List AV} (hl : fillC (ps[·]?) te.zero parts = some l) {ro : List Nat} {p : Prop} : Does P (do pure (.value (← Instr.build t vals.toArray))) e.w (Left c e of ⟨.ag l, [], ro, [], p⟩) := by
  obtain ⟨i, d, z, h1, h2, h3, h4, h5, h6, h7, h8⟩ := (hT _ _ ht).fits
  rw [hk] at h5
  cases d <;> simp only [TK.fits] at h5
  rename_i fields
  obtain ⟨cells, g1, g2⟩ := fillC_spec (place := (ps[·]?)) hp (flat_spec e _ _ h7) hl
  have hz : (zeroValue t).run P e.w = .ok z e.w := by simp [zeroValue, run_info h1, h6]
  have hpl : (fields.mapM (m := Sem) fun f => Prod.mk f.offset <$> sizeOf f.type).run P e.w = .ok ps.toArray e.w := by
    have := run_places hT e.w fields.toList ps (by rw [h5]; exact hps)
    rw [Array.mapM_eq_mapM_toList, Sem.run_map, this]
    rfl
  refine does_value (x := .agg cells) (w' := e.w) ?_ (left_same h (v := .ag l) (show Rep1 e (.ag l) (.agg cells) from ⟨cells, rfl, g2⟩))
  simp [Instr.build, hz, run_under h2, hpl, g1]

/-- The parts of an array of scalars. -/
def fillE (n : Nat) : List AV → List (Nat × AV) → Option (List AV)
  | es, [] => some es
  | es, (i, v) :: rest => if i < n ∧ scalar v = true ∧ (pieces v).isSome = true then fillE n (es.set i v) rest else none
/-- The parts of a row. -/
def fillR (z : Nat) : List (List AV) → List (Nat × AV) → Option (List (List AV))
  | rows, [] => some rows
  | rows, (i, v) :: rest =>
    match pieces v with
    | some q => if i < rows.length ∧ wid q = z then fillR z (rows.set i q) rest else none
    | none => none
theorem fillR_spec {z : Nat} : ∀ {parts : List (Nat × AV)} {vals : List (Nat × Value)} {rows rows' : List (List AV)} {cells : Array Value}, RepP e parts vals → (∀ r ∈ rows, wid r = z) → RepL e rows.flatten cells.toList → fillR z rows parts = some rows' →
    ∃ cells' : Array Value, Instr.fill (fun i => some (i * z, z)) cells vals = some cells' ∧ RepL e rows'.flatten cells'.toList ∧ (∀ r ∈ rows', wid r = z) ∧ rows'.length = rows.length := by
  intro parts
  induction parts with
  | nil => intro vals rows rows' cells hp hw hr h; cases hp; simp only [fillR, Option.some.injEq] at h; subst h; exact ⟨cells, rfl, hr, hw, rfl⟩
  | cons p rest ih =>
    intro vals rows rows' cells hp hw hr h
    cases hp with | @cons i v x r s hv hp =>
    simp only [fillR] at h
    split at h
    · rename_i q hq
      split at h
      · rename_i hc
        have hrv := pieces_spec hv hq
        have hlen := hrv.length
        rw [Array.length_toList] at hlen
        obtain ⟨as, bs, cs, g1, g2, g3, g4, g5, g6⟩ := row_at hr hw hc.1
        have hcl : cells.size = as.length + (bs.length + cs.length) := by
          have := congrArg List.length g1
          simpa using this
        obtain ⟨cells', f1, f2⟩ := fill_one (place := fun i => some (i * z, z)) (i := i) (off := i * z) (size := z) (cells := cells) (v := x) (rest := s) rfl (by omega) (by omega)
        have hnew : cells'.toList = as ++ (x.cells.toList ++ cs) := by
          rw [f2, g1, List.take_append, List.take_of_length_le (by omega), show i * z - as.length = 0 from by omega, List.drop_append, List.drop_of_length_le (by omega), show i * z + z - as.length = bs.length from by omega, List.drop_left]
          simp
        have hr' : RepL e (rows.set i q).flatten cells'.toList := by
          rw [hnew, flatten_set _ _ hc.1]
          exact g4.append (hrv.append g6)
        obtain ⟨c2, k1, k2, k3, k4⟩ := ih hp (fun r hr => by rcases List.mem_or_eq_of_mem_set hr with hr | rfl; exact hw _ hr; exact hc.2) hr' h
        exact ⟨c2, f1.trans k1, k2, k3, by rw [k4, List.length_set]⟩
      · cases h
    · cases h
theorem law_buildSlice {t el : TypeId} {te : TE} (h : OSim c e of) (ht : P.underlying t = some (.slice el)) (hel : TEok P el te) {id : Nat} (hu : ¬ e.U id) (hz : 0 < te.size) {len : Nat} (hlen : len * te.size ≤ 16777216) {parts : List (Nat × AV)} {vals : List (Nat × Value)} (hp : RepP e parts vals)
    {rows : List (List AV)} (hr : fillR te.size (List.replicate len te.zero) parts = some rows) {ro : List Nat} {p : Prop} :
    Does P (do pure (.value (← Instr.buildSlice t len vals.toArray))) e.w (Left c e of ⟨.ow id 1 0 len te.size, [(id, .row te.zero 1 rows false)], ro, [id], p⟩) := by
  obtain ⟨i, z, h1, h2, h3, h4, h5, h6⟩ := rep_zero hel
  have hbase : ((Array.range (len * te.size)).map (z.cells[· % z.cells.size]!)).toList = (List.replicate len z.cells.toList).flatten := by
    rw [← h6]; exact toList_madeCells _ len
  have hrep : RepL e (List.replicate len te.zero).flatten ((Array.range (len * te.size)).map (z.cells[· % z.cells.size]!)).toList := by
    rw [hbase]; exact repL_replicate (flat_spec _ _ _ h5) _
  obtain ⟨cells, g1, g2, g3, g4⟩ := fillR_spec hp (fun r hr => by rw [(List.mem_replicate.1 hr).2]; exact hel.wide) hrep hr
  rw [List.length_replicate] at g4
  have hcs : cells.size = len * te.size := by
    have := g2.length
    rw [wid_flatten _ g3, g4, Array.length_toList] at this; exact this
  have hrun : (Instr.buildSlice t len vals.toArray).run P e.w = .ok (.slice (some ⟨e.w.heap.size, 0, none⟩) len len) (e.w.alloc (.cells cells el)) := by
    have hzv : (zeroValue el).run P e.w = .ok z e.w := by simp [zeroValue, run_info h1, h2]
    have hsz := run_size hel e.w
    by_cases hl0 : len = 0
    · subst hl0
      have hem : (Array.map (fun _ => (default : Value)) (Array.range 0)) = (Array.map (z.cells[· % z.cells.size]!) (Array.range (0 * te.size))) := by simp
      rw [← hem] at g1
      simp [Instr.buildSlice, run_under ht, hsz, newRow, g1]
    · have hne : ¬ (len * te.size = 0) := Nat.mul_ne_zero hl0 (by omega)
      simp [Instr.buildSlice, run_under ht, hsz, newRow, g1, hzv, show ¬ (16777216 < len * te.size) by omega]
      exact fun h0 => absurd h0 hne
  refine does_value hrun (left_new h hu (OK_row (d := te.zero) h hu (by rw [hel.wide]; exact hz) (fun r hr => by rw [hel.wide]; exact g3 r hr) (show cells.toList = cells.toList ++ [] by simp) g2 (free_zero (heap_new _ _ _ _ _ _))) (rep_ow_new hz hcs (Nat.le_refl _)))
end Go.Eng

namespace Go.Eng
open Go.RowKit
variable {P : Program} {T : TT} {c : Ctx} {e : Env} {of : Nat → Option Obj}

/-! ### Slicing -/
/-- A bound: what stands there, or what it is without it. -/
def bnd (d : Int) : Option AV → Option Int
  | none => some d
  | some (.pl (.int _ i)) => some i
  | _ => none
inductive RepO (e : Env) : Option AV → Option Value → Prop
  | none : RepO e none none
  | some {v x} : Rep e v x → RepO e (some v) (some x)
theorem run_bound {lo : Option AV} {lo' : Option Value} {i : Int} {d y : Nat} {code : BoundsCode} {w : World} (h : RepO e lo lo') (hb : bnd d lo = some i) (h0 : 0 ≤ i) (h1 : i ≤ y) :
    (match lo' with | some v => Instr.sliceBound v y code | none => (Pure.pure d : Sem Nat)).run P w = .ok i.toNat w := by
  cases h with
  | none => simp only [bnd, Option.some.injEq] at hb; subst hb; simp
  | some hv =>
    rename_i v x
    cases v with
    | pl u =>
      cases u with
      | int k j =>
        simp only [bnd, Option.some.injEq] at hb
        subst hb
        cases hv
        simp [Instr.sliceBound, asIntOf, h0, h1]
      | _ => simp [bnd] at hb
    | _ => simp [bnd] at hb
theorem run_bounds {lo hi : Option AV} {lo' hi' : Option Value} {l h : Int} {b : Bool} {n cap : Nat} {w : World} (hlo : RepO e lo lo') (hhi : RepO e hi hi') (hl : bnd (0 : Nat) lo = some l) (hh : bnd n hi = some h) (h0 : 0 ≤ l) (h1 : l ≤ h) (h2 : h ≤ n) (h3 : n ≤ cap) :
    (Instr.sliceBounds b n cap lo' hi' none).run P w = .ok (l.toNat, h.toNat, cap) w := by
  have k1 := run_bound (P := P) (w := w) (y := h.toNat) (code := .sliceB) hlo hl h0 (by omega)
  have k2 := run_bound (P := P) (w := w) (y := cap) (code := if b then .sliceAcap else .sliceAlen) hhi hh (by omega) (by omega)
  cases hlo <;> cases hhi <;> simp only at k1 k2
  · have e1 : l = 0 := by simpa [bnd] using hl.symm
    have e2 : h = n := by simpa [bnd] using hh.symm
    subst e1; subst e2
    simp [Instr.sliceBounds]
  · have e1 : l = 0 := by simpa [bnd] using hl.symm
    subst e1
    simp [Instr.sliceBounds, k2]
  · have e2 : h = n := by simpa [bnd] using hh.symm
    subst e2
    simp [Instr.sliceBounds] at k1 ⊢
    simp [k1]
  · simp [Instr.sliceBounds, k2, k1]

theorem law_slice_ow {t el : TypeId} {te : TE} (h : OSim c e of) (ht : P.underlying t = some (.slice el)) (hel : TEok P el te) {id ver off n z : Nat} {x : Value} {lo hi : Option AV} {lo' hi' : Option Value} {l hh : Int} (hz : z = te.size) {d : List AV} {rows : List (List AV)} {sh : Bool} (ho : of id = some (.row d ver rows sh))
    (hx : Rep e (.ow id ver off n z) x) (hlo : RepO e lo lo') (hhi : RepO e hi hi') (hl : bnd (0 : Nat) lo = some l) (hh' : bnd n hi = some hh) (h0 : 0 ≤ l) (h1 : l ≤ hh) (h2 : hh ≤ n) {ro : List Nat} {p : Prop} :
    Does P (do pure (.value (← Instr.sliceAt t x lo' hi' none))) e.w (Left c e of ⟨.ow id ver (off + l.toNat) (hh - l).toNat z, [], ro, [], p⟩) := by
  obtain ⟨v0, v1, v2, v3, v4, h6⟩ := h.ok _ _ ho
  have hn' : hh.toNat - l.toNat = (hh - l).toNat := by omega
  cases hx with
  | owStale _ _ _ u1 _ => omega
  | ow0 u0 u1 u2 u3 _ =>
    have e1 : hh = 0 := by omega
    have e2 : l = 0 := by omega
    subst e1; subst e2
    have hb := run_bounds (P := P) (b := true) (cap := 0) (w := e.w) hlo hhi hl hh' (by omega) (by omega) (by omega) (Nat.le_refl _)
    refine does_value (x := .slice none 0 0) ?_ (left_same h (v := .ow id ver 0 0 z) (.ow0 u0 u1 u2 u3 .nil))
    simp [Instr.sliceAt, Instr.slice, run_under ht, hb, run_size hel]
  | @ow _ _ _ _ _ _ _ cap b o k u0 u1 u2 u3 u4 u5 u6 u7 _ =>
    have hb := run_bounds (P := P) (b := true) (cap := cap) (w := e.w) hlo hhi hl hh' h0 h1 h2 u5
    have hcap : l.toNat ≤ cap := by omega
    refine does_value (x := .slice (some (if cap = l.toNat then ⟨b, k, none⟩ else (⟨b, k, none⟩ : Addr).add (l.toNat * te.size))) (hh.toNat - l.toNat) (cap - l.toNat)) ?_ (left_same h (v := .ow id ver (off + l.toNat) (hh - l).toNat z) ?_)
    · simp [Instr.sliceAt, Instr.slice, run_under ht, hb, run_size hel]
      split <;> rfl
    · rw [hn']
      by_cases hc : cap = l.toNat
      · rw [if_pos hc]
        exact .ow u0 u1 u2 u3 (by rw [← u4]; congr 2; omega) (by omega) u6 (fun hp => by omega) .nil
      · rw [if_neg hc, add_none]
        refine .ow u0 u1 u2 u3 (by rw [← u4]; congr 2; omega) (by omega) u6 (fun _ => ?_) .nil
        rw [u7 (by omega), ← hz, Nat.add_mul]; omega
theorem flatten_take_drop (rows : List (List AV)) (i n : Nat) : rows.flatten = (rows.take i).flatten ++ (((rows.drop i).take n).flatten ++ ((rows.drop i).drop n).flatten) := by
  rw [← List.flatten_append, List.take_append_drop, ← List.flatten_append, List.take_append_drop]
theorem law_slice_sl {t el : TypeId} {te : TE} (h : OSim c e of) (ht : P.underlying t = some (.slice el)) (hel : TEok P el te) {d : List AV} {rows : List (List AV)} {x : Value} {lo hi : Option AV} {lo' hi' : Option Value} {l hh : Int} (hz : wid d = te.size)
    (hx : Rep e (.sl d rows) x) (hlo : RepO e lo lo') (hhi : RepO e hi hi') (hl : bnd (0 : Nat) lo = some l) (hh' : bnd rows.length hi = some hh) (h0 : 0 ≤ l) (h1 : l ≤ hh) (h2 : hh ≤ rows.length) {ro : List Nat} {p : Prop} :
    Does P (do pure (.value (← Instr.sliceAt t x lo' hi' none))) e.w (Left c e of ⟨.sl d ((rows.drop l.toNat).take (hh - l).toNat), [], ro, [], p⟩) := by
  have hn' : hh.toNat - l.toNat = (hh - l).toNat := by omega
  cases hx with
  | @sl0 _ _ _ A cap _ =>
    have e1 : hh = 0 := by simp at h2; omega
    have e2 : l = 0 := by omega
    subst e1; subst e2
    have hb := run_bounds (P := P) (b := true) (n := 0) (cap := cap) (w := e.w) hlo hhi hl hh' (by omega) (by omega) (by simp) (by simp)
    refine does_value (x := .slice (if cap = 0 then A else A.map (·.add (0 * te.size))) 0 cap) ?_ (left_same h (v := .sl d []) (.sl0 .nil))
    simp [Instr.sliceAt, Instr.slice, run_under ht, hb, run_size hel]
  | @sl _ _ _ _ ys a cap u1 u2 u3 u4 u5 u6 _ =>
    have hb := run_bounds (P := P) (b := true) (cap := cap) (w := e.w) hlo hhi hl hh' h0 h1 h2 u5
    refine does_value (x := .slice (some (if cap = l.toNat then a else a.add (l.toNat * te.size))) (hh.toNat - l.toNat) (cap - l.toNat)) ?_ (left_same h ?_)
    · simp [Instr.sliceAt, Instr.slice, run_under ht, hb, run_size hel]
      split <;> rfl
    · rw [hn']
      have hlen : ((rows.drop l.toNat).take (hh - l).toNat).length = (hh - l).toNat := by rw [List.length_take, List.length_drop]; omega
      by_cases hs0 : (hh - l).toNat = 0
      · rw [hs0]; simp only [List.take_zero]; exact .sl0 .nil
      · have hc : cap ≠ l.toNat := by omega
        rw [if_neg hc]
        rw [flatten_take_drop rows l.toNat (hh - l).toNat] at u2
        obtain ⟨as, q, rfl, g1, g2⟩ := u2.split
        obtain ⟨bs, zs, rfl, g3, g4⟩ := g2.split
        have hal : as.length = l.toNat * wid d := by
          rw [g1.length, wid_flatten _ (fun r hr => u3 r (List.mem_of_mem_take hr)), List.length_take]; congr 1; omega
        have key := RepL.sl (e := e) (r := []) (xs := []) (d := d) (rows := (rows.drop l.toNat).take (hh - l).toNat) (ys := bs) (a := a.add (l.toNat * te.size)) (cap := cap - l.toNat) u1 g3
          (fun r hr => u3 r (List.mem_of_mem_drop (List.mem_of_mem_take hr))) (by unfold Addr.add; split <;> first | exact u4 | simp) (by omega) (fun j y hj => by
            have hjl := (List.getElem?_eq_some_iff.1 hj).1
            have := u6 (l.toNat * te.size + j) y (by
              rw [← hj, List.getElem?_append_right (by rw [hal, hz]; omega), List.getElem?_append_left (by rw [hal, hz]; omega)]
              congr 1; rw [hal, hz]; omega)
            obtain ⟨b, o, s⟩ := a
            simp only at u4; subst u4
            rw [add_none] at this ⊢
            rw [add_none, show o + l.toNat * te.size + j = o + (l.toNat * te.size + j) from by omega]
            exact this) .nil
        rw [hlen] at key
        exact key
theorem law_slice_bs {t el : TypeId} {te : TE} (h : OSim c e of) (ht : P.underlying t = some (.slice el)) (hel : TEok P el te) {id off n lo0 m : Nat} {x : Value} {lo hi : Option AV} {lo' hi' : Option Value} {l hh : Int} (hz : te.size = 1)
    (hx : Rep e (.bs id off n lo0 m) x) (hlo : RepO e lo lo') (hhi : RepO e hi hi') (hl : bnd (0 : Nat) lo = some l) (hh' : bnd m hi = some hh) (h0 : 0 ≤ l) (h1 : l ≤ hh) (h2 : hh ≤ m) {ro : List Nat} {p : Prop} :
    Does P (do pure (.value (← Instr.sliceAt t x lo' hi' none))) e.w (Left c e of ⟨.bs id off n (lo0 + l.toNat) (hh - l).toNat, [], ro, [], p⟩) := by
  have hn' : hh.toNat - l.toNat = (hh - l).toNat := by omega
  cases hx with | @bs _ _ _ _ _ _ _ cap b o k u0 u1 u2 u3 u4 u5 _ =>
  have hb := run_bounds (P := P) (b := true) (cap := cap) (w := e.w) hlo hhi hl hh' h0 h1 h2 u4
  refine does_value (x := .slice (some (if cap = l.toNat then ⟨b, k, none⟩ else (⟨b, k, none⟩ : Addr).add (l.toNat * te.size))) (hh.toNat - l.toNat) (cap - l.toNat)) ?_ (left_same h (v := .bs id off n (lo0 + l.toNat) (hh - l).toNat) ?_)
  · simp [Instr.sliceAt, Instr.slice, run_under ht, hb, run_size hel]
    split <;> rfl
  · rw [hn']
    by_cases hc : cap = l.toNat
    · rw [if_pos hc]; exact .bs u0 u1 u2 (by omega) (by omega) (fun hp => by omega) .nil
    · rw [if_neg hc, add_none, hz]; exact .bs u0 u1 u2 (by omega) (by omega) (fun _ => by rw [u5 (by omega)]; omega) .nil
theorem law_slice_pt {t el : TypeId} {n : Nat} {te : TE} (h : OSim c e of) (ht : P.underlying t = some (.array n el)) (hel : TEok P el te) {id off : Nat} {x : Value} {lo hi : Option AV} {lo' hi' : Option Value} {l hh : Int} (hz : te.size = 1)
    (hx : Rep e (.pt id off) x) (hlo : RepO e lo lo') (hhi : RepO e hi hi') (hl : bnd (0 : Nat) lo = some l) (hh' : bnd n hi = some hh) (h0 : 0 ≤ l) (h1 : l ≤ hh) (h2 : hh ≤ n) {ro : List Nat} {p : Prop} :
    Does P (do pure (.value (← Instr.sliceAt t x lo' hi' none))) e.w (Left c e of ⟨.bs id off n l.toNat (hh - l).toNat, [], ro, [], p⟩) := by
  have hn' : hh.toNat - l.toNat = (hh - l).toNat := by omega
  cases hx with | @pt _ _ _ _ b o u0 u1 u2 _ =>
  have hb := run_bounds (P := P) (b := false) (cap := n) (w := e.w) hlo hhi hl hh' h0 h1 h2 (Nat.le_refl _)
  refine does_value (x := .slice (some (if n = l.toNat then ⟨b, o + off, none⟩ else (⟨b, o + off, none⟩ : Addr).add (l.toNat * te.size))) (hh.toNat - l.toNat) (n - l.toNat)) ?_ (left_same h (v := .bs id off n l.toNat (hh - l).toNat) ?_)
  · simp [Instr.sliceAt, Instr.sureAddr, run_under ht, hb, run_size hel]
    try (split <;> rfl)
  · rw [hn']
    by_cases hc : n = l.toNat
    · rw [if_pos hc]; exact .bs u0 u1 u2 (by omega) (by omega) (fun hp => by omega) .nil
    · rw [if_neg hc, add_none, hz]; refine .bs u0 u1 u2 (by omega) (by omega) (fun _ => ?_) .nil
      rw [Nat.mul_one]
end Go.Eng

namespace Go.Eng
open Go.RowKit
variable {P : Program} {T : TT} {c : Ctx} {e : Env} {of : Nat → Option Obj}

/-! ### One operation, reckoned -/
def bitsOf (op : BinOp) (k : IntKind) (x y : Int) : Int :=
  let a := BitVec.ofInt k.bits x
  let b := BitVec.ofInt k.bits y
  k.wrap (match op with
    | .and => (a &&& b).toNat
    | .or => (a ||| b).toNat
    | .xor => (a ^^^ b).toNat
    | _ => (a &&& ~~~b).toNat : Nat)
/-- Two integers of one kind. -/
def intAV (op : BinOp) (k : IntKind) (a b : Int) : AV × Prop :=
  match op with
  | .add => (.pl (.int k (k.wrap (a + b))), True)
  | .sub => (.pl (.int k (k.wrap (a - b))), True)
  | .mul => (.pl (.int k (k.wrap (a * b))), True)
  | .quo => (.pl (.int k (k.wrap (a.tdiv b))), b ≠ 0)
  | .rem => (.pl (.int k (a.tmod b)), b ≠ 0)
  | .and => (.pl (.int k (bitsOf .and k a b)), True)
  | .or => (.pl (.int k (bitsOf .or k a b)), True)
  | .xor => (.pl (.int k (bitsOf .xor k a b)), True)
  | .andNot => (.pl (.int k (bitsOf .andNot k a b)), True)
  | .shl => (.pl (.int k (k.wrap (a * 2 ^ min b.toNat k.bits))), 0 ≤ b)
  | .shr => (.pl (.int k (a.fdiv (2 ^ min b.toNat k.bits))), 0 ≤ b)
  | .eql => (.pl (.bool (a == b)), True)
  | .neq => (.pl (.bool (a != b)), True)
  | .lss => (.pl (.bool (decide (a < b))), True)
  | .leq => (.pl (.bool (decide (a ≤ b))), True)
  | .gtr => (.pl (.bool (decide (b < a))), True)
  | .geq => (.pl (.bool (decide (b ≤ a))), True)
def strAV (op : BinOp) (x y : ByteArray) : AV × Prop :=
  let eq := x.toList == y.toList
  let lt := Op.bytesLess x.toList y.toList
  match op with
  | .add => (.pl (.string (x ++ y)), x.size + y.size ≤ 9223372036854775807)
  | .eql => (.pl (.bool eq), True)
  | .neq => (.pl (.bool !eq), True)
  | .lss => (.pl (.bool lt), True)
  | .leq => (.pl (.bool (lt || eq)), True)
  | .gtr => (.pl (.bool !(lt || eq)), True)
  | .geq => (.pl (.bool !lt), True)
  | _ => (.junk, False)
def binAV (op : BinOp) : AV → AV → Option (AV × Prop)
  | .pl (.int k a), .pl (.int k' b) => some ((intAV op k a b).1, (intAV op k a b).2 ∧ (k = k' ∨ op = .shl ∨ op = .shr))
  | .pl (.string a), .pl (.string b) => some (strAV op a b)
  | _, _ => none
def unAV (op : UnOp) : AV → Option AV
  | .pl (.int k n) => match op with
    | .neg => some (.pl (.int k (k.wrap (0 - n))))
    | .xor => some (.pl (.int k (bitsOf .xor k (if k.signed then -1 else k.max) n)))
    | _ => none
  | .pl (.bool b) => match op with
    | .not => some (.pl (.bool !b))
    | _ => none
  | _ => none
theorem rep_pl {v : Value} (h : one v = true) : Rep e (.pl v) v := RepL.pl h .nil
theorem rep_pl_inv {v x : Value} (h : Rep e (.pl v) x) : x = v := by
  have h' : RepL e [.pl v] [x] := h
  cases h'; rfl
theorem run_intBits (op : BinOp) (k : IntKind) (a b : Int) (w : World) (h : op = .and ∨ op = .or ∨ op = .xor ∨ op = .andNot) : (Op.intBits op k a b).run P w = .ok (.int k (bitsOf op k a b)) w := by
  rcases h with rfl | rfl | rfl | rfl <;> rfl
theorem run_binOp_int {op : BinOp} {t : TypeId} {k k' : IntKind} {a b : Int} {w : World} (h : (intAV op k a b).2 ∧ (k = k' ∨ op = .shl ∨ op = .shr)) :
    ∃ v, (intAV op k a b).1 = .pl v ∧ one v = true ∧ (binOp op t (.int k a) (.int k' b)).run P w = .ok v w := by
  obtain ⟨h1, h2⟩ := h
  cases op
  case shl => exact ⟨_, rfl, rfl, by simp only [intAV] at h1; simp [binOp, Op.shift, show ¬ b < 0 by omega]⟩
  case shr => exact ⟨_, rfl, rfl, by simp only [intAV] at h1; simp [binOp, Op.shift, show ¬ b < 0 by omega]⟩
  all_goals
    have hk : k = k' := by rcases h2 with h2 | h2 | h2; exact h2; cases h2; cases h2
    subst hk
    refine ⟨_, rfl, rfl, ?_⟩
  case quo => simp only [intAV] at h1; simp [binOp, Op.intDiv, h1]
  case rem => simp only [intAV] at h1; simp [binOp, Op.intDiv, h1]
  case and => simp [binOp]; exact run_intBits _ _ _ _ _ (by simp)
  case or => simp [binOp]; exact run_intBits _ _ _ _ _ (by simp)
  case xor => simp [binOp]; exact run_intBits _ _ _ _ _ (by simp)
  case andNot => simp [binOp]; exact run_intBits _ _ _ _ _ (by simp)
  all_goals simp [binOp, Op.intArith, Op.intCmp]
theorem run_binOp_str {op : BinOp} {t : TypeId} {a b : ByteArray} {w : World} (h : (strAV op a b).2) :
    ∃ v, (strAV op a b).1 = .pl v ∧ one v = true ∧ (binOp op t (.string a) (.string b)).run P w = .ok v w := by
  cases op <;> simp only [strAV] at h <;> first | (exact h.elim) | skip
  case add =>
    refine ⟨_, rfl, rfl, ?_⟩
    have : ¬ (((a.size + b.size : Nat) : Int) > IntKind.i64.max) := by
      have e1 : IntKind.i64.max = 9223372036854775807 := rfl
      rw [e1]; omega
    simp only [binOp, Op.stringOp, if_neg this]
    rfl
  all_goals exact ⟨_, rfl, rfl, rfl⟩
theorem run_eqGuard {op : BinOp} {t : TypeId} {x y : Operand} {a b : Value} {w : World} (ha : one a = true) (hb : a ≠ .nilIface) : (eqGuard op t x y a b).run P w = .ok () w := by
  unfold eqGuard
  cases op <;> simp <;> (cases a <;> simp_all [one])
theorem law_binOp {op : BinOp} {xt : TypeId} {x y : Operand} {u v r : AV} {p q : Prop} {a b : Value} (h : OSim c e of) (hx : Rep e u a) (hy : Rep e v b) (hb : binAV op u v = some (r, p)) (hp : p) {ro : List Nat} :
    Does P (do pure (.value (← (do eqGuard op xt x y a b; binOp op xt a b)))) e.w (Left c e of ⟨r, [], ro, [], q⟩) := by
  unfold binAV at hb
  split at hb
  · rename_i k a' k' b'
    injection hb with hb
    injection hb with h1 h2
    subst h1; subst h2
    have e1 := rep_pl_inv hx
    have e2 := rep_pl_inv hy
    subst e1; subst e2
    obtain ⟨v, hv, ho, hr⟩ := run_binOp_int (P := P) (t := xt) (w := e.w) hp
    rw [hv]
    refine does_value ?_ (left_same h (rep_pl ho))
    have hg := run_eqGuard (P := P) (op := op) (t := xt) (x := x) (y := y) (a := .int k a') (b := .int k' b') (w := e.w) rfl (by simp)
    simp [hg, hr]
  · injection hb with hb
    have h1 := congrArg Prod.fst hb
    have h2 := congrArg Prod.snd hb
    have e1 := rep_pl_inv hx
    have e2 := rep_pl_inv hy
    subst e1; subst e2
    simp only at h1 h2
    rw [← h2] at hp
    obtain ⟨v, hv, ho, hr⟩ := run_binOp_str (P := P) (t := xt) (w := e.w) hp
    rw [← h1, hv]
    refine does_value ?_ (left_same h (rep_pl ho))
    rename_i a' b'
    have hg := run_eqGuard (P := P) (op := op) (t := xt) (x := x) (y := y) (a := .string a') (b := .string b') (w := e.w) rfl (by simp)
    simp [hg, hr]
  · cases hb
theorem law_unOp {op : UnOp} {u r : AV} {a : Value} (h : OSim c e of) (hx : Rep e u a) (hb : unAV op u = some r) {ro : List Nat} {q : Prop} :
    Does P (do pure (.value (← Op.unary op a))) e.w (Left c e of ⟨r, [], ro, [], q⟩) := by
  unfold unAV at hb
  split at hb
  · have e1 := rep_pl_inv hx
    subst e1
    split at hb <;> first | (cases hb; done) | skip
    · injection hb with hb; subst hb
      exact does_value (by simp [Op.unary, Op.intArith]) (left_same h (rep_pl rfl))
    · injection hb with hb; subst hb
      exact does_value (by simp [Op.unary]; exact run_intBits _ _ _ _ _ (by simp)) (left_same h (rep_pl rfl))
  · have e1 := rep_pl_inv hx
    subst e1
    split at hb <;> first | (cases hb; done) | skip
    injection hb with hb; subst hb
    exact does_value (by simp [Op.unary]) (left_same h (rep_pl rfl))
  · cases hb
end Go.Eng

namespace Go.Eng
open Go.RowKit
variable {P : Program} {T : TT} {c : Ctx} {e : Env} {of : Nat → Option Obj}

def zeroOf (te : TE) : AV := te.zero.headD .junk
/-- A load. -/
def loadAV (te : TE) (of : Nat → Option Obj) : AV → Option Out
  | .pt id off => match of id with
    | some (.box l _) => match dropW off l with
      | some m => match takeW te.size m with
        | some q => (value te.k.agg q).map fun v => ⟨v, [], [id], [], True⟩
        | none => none
      | none => none
    | _ => none
  | .pe id off n i => match of id with
    | some (.box l _) => match dropW off l with
      | some (.ar m es :: _) => if m = n ∧ te.k.agg = false then some ⟨es.getD i.toNat (zeroOf te), [], [id], [], True⟩ else if m = n ∧ te.k.agg = true then some ⟨.ag [.ar te.size ((es.drop i.toNat).take te.size)], [], [id], [], i.toNat + te.size ≤ n⟩ else none
      | _ => none
    | _ => none
  | .re id ver z i off => match of id with
    | some (.row d v rows _) => match dropW off (rows.getD i.toNat d) with
      | some m => match takeW te.size m with
        | some q => (value te.k.agg q).map fun x => ⟨x, [], [id], [], v = ver ∧ z = wid d ∧ 0 ≤ i ∧ i < rows.length⟩
        | none => none
      | none => none
    | _ => none
  | .rp l => match takeW te.size l with
    | some q => (value te.k.agg q).map .pure
    | none => none
  | _ => none
theorem law_load_rp {t : Nat} {te : TE} (h : OSim c e of) (ht : TEok P t te) {l q : List AV} {v : AV} {x : Value} (hk : takeW te.size l = some q) (hv : value te.k.agg q = some v) (hx : Rep e (.rp l) x) {ro : List Nat} {p : Prop} :
    Does P (do pure (.value (← Instr.loadAt t x))) e.w (Left c e of ⟨v, [], ro, [], p⟩) := by
  cases hx with | rp h1 h2 h3 _ =>
  obtain ⟨_, _, hwq⟩ := takeW_spec _ _ _ hk
  refine law_load_cells h ht (h1.take hk) hwq hv (fun j y hj => ?_)
  have hq := h1.take hk
  have hj' : j < te.size := by
    have h6 := (List.getElem?_eq_some_iff.1 hj).1
    rw [List.length_take] at h6; omega
  rw [List.getElem?_take_of_lt hj'] at hj
  exact (h3 j y hj).1
/-- A part of an array, loaded as an array. -/
theorem law_load_pes {t : Nat} {te : TE} (h : OSim c e of) (ht : TEok P t te) (hagg : te.k.agg = true) {id off n : Nat} {i : Int} {l m es r : List AV} {sh : Bool} {x : Value} (ho : of id = some (.box l sh)) (hd : dropW off l = some m)
    (hm : m = .ar n es :: r) (hx : Rep e (.pe id off n i) x) (hin : i.toNat + te.size ≤ n) {p : Prop} :
    Does P (do pure (.value (← Instr.loadAt t x))) e.w (Left c e of ⟨.ag [.ar te.size ((es.drop i.toNat).take te.size)], [], [id], [], p⟩) := by
  obtain ⟨b, cs, ty, fz, h1, h2, h3, h4, h5⟩ := box_cells h ho
  cases hx with | pe u0 u1 u2 u3 u4 _ =>
  rw [h1] at u2; cases u2
  have hq := h4.drop hd
  rw [hm] at hq
  obtain ⟨ys, zs, hyz, hes, hyl, _, hs⟩ := ar_head hq
  have hlen : es.length = n := by rw [← wid_scalars es hs, ← hes.length]; exact hyl
  have e1 : es = es.take i.toNat ++ ((es.drop i.toNat).take te.size ++ (es.drop i.toNat).drop te.size) := by rw [List.take_append_drop, List.take_append_drop]
  have hs1 : ∀ v ∈ es.take i.toNat, scalar v = true := fun v hv => hs v (List.mem_of_mem_take hv)
  have hs2 : ∀ v ∈ (es.drop i.toNat).take te.size, scalar v = true := fun v hv => hs v (List.mem_of_mem_drop (List.mem_of_mem_take hv))
  rw [e1] at hes
  obtain ⟨y1, y23, rfl, k1, k23⟩ := hes.split
  obtain ⟨y2, y3, rfl, k2, k3⟩ := k23.split
  have l1 : y1.length = i.toNat := by rw [k1.length, wid_scalars _ hs1, List.length_take]; omega
  have l2 : y2.length = te.size := by rw [k2.length, wid_scalars _ hs2, List.length_take, List.length_drop]; omega
  have hr := RepL.ar (r := []) (xs := []) k2 ⟨l2, hs2⟩ .nil
  rw [List.append_nil] at hr
  refine law_load_cells h ht hr (by simp [wid, wid1]) (by rw [hagg]; rfl) (fun j y hj => ?_)
  have hj2 : j < y2.length := (List.getElem?_eq_some_iff.1 hj).1
  rw [add_none, cell_heap h2, Nat.zero_add, Nat.add_assoc, ← List.getElem?_drop, hyz, List.getElem?_append_left (by simp only [List.length_append]; omega), List.getElem?_append_right (by omega), l1, Nat.add_sub_cancel_left, List.getElem?_append_left hj2]
  exact hj
theorem loadAV_ok {t : Nat} {te : TE} {out : Out} {v : AV} {x : Value} {of' : Nat → Option Obj} (h : OSim c e of') (ht : TEok P t te) (hs : loadAV te of v = some out) (hp : out.pre) (ho : ∀ id ∈ out.ro, of' id = of id) (hx : Rep e v x) :
    Does P (do pure (.value (← Instr.loadAt t x))) e.w (Left c e of' out) := by
  unfold loadAV at hs
  split at hs
  · rename_i id off
    split at hs <;> try (cases hs; done)
    rename_i l sh hof
    split at hs <;> try (cases hs; done)
    rename_i m hd
    split at hs <;> try (cases hs; done)
    rename_i q hk
    rw [Option.map_eq_some_iff] at hs
    obtain ⟨v, hv, rfl⟩ := hs
    exact law_load_pt h ht (by rw [ho id (by simp)]; exact hof) hd hk hv hx
  · rename_i id off n i
    split at hs <;> try (cases hs; done)
    rename_i l sh hof
    split at hs <;> try (cases hs; done)
    rename_i m es r hd
    split at hs
    · rename_i hc
      injection hs with hs
      subst hs
      obtain ⟨rfl, hagg⟩ := hc
      exact law_load_pe h ht hagg (by rw [ho id (by simp)]; exact hof) hd rfl hx _
    · split at hs <;> try (cases hs; done)
      rename_i hc
      injection hs with hs
      subst hs
      obtain ⟨rfl, hagg⟩ := hc
      exact law_load_pes h ht hagg (by rw [ho id (by simp)]; exact hof) hd rfl hx hp
  · rename_i id ver z i off
    split at hs <;> try (cases hs; done)
    rename_i d v' rows sh hof
    split at hs <;> try (cases hs; done)
    rename_i m hd
    split at hs <;> try (cases hs; done)
    rename_i q hk
    rw [Option.map_eq_some_iff] at hs
    obtain ⟨v, hv, rfl⟩ := hs
    obtain ⟨rfl, rfl, h0, h1⟩ := hp
    exact law_load_re h ht (by rw [ho id (by simp)]; exact hof) h0 h1 hd hk hv hx
  · rename_i l
    split at hs <;> try (cases hs; done)
    rename_i q hk
    rw [Option.map_eq_some_iff] at hs
    obtain ⟨v, hv, rfl⟩ := hs
    exact law_load_rp h ht hk hv hx
  · cases hs
/-- A store. -/
def storeAV (te : TE) (of : Nat → Option Obj) (v : AV) : AV → Option Out
  | .pt id off => match of id, pieces v with
    | some (.box l false), some q => (setW off q l).map fun l' => ⟨.junk, [(id, .box l' false)], [id], [], wid q = te.size⟩
    | _, _ => none
  | .pe id off n i => match of id with
    | some (.box l false) => match dropW off l with
      | some (.ar m es :: _) => if m = n ∧ te.size = 1 ∧ scalar v = true ∧ (pieces v).isSome = true then
          (setW off [.ar n (es.set i.toNat v)] l).map fun l' => ⟨.junk, [(id, .box l' false)], [id], [], True⟩ else none
      | _ => none
    | _ => none
  | .re id ver z i off => match of id, pieces v with
    | some (.row d v' rows false), some q => (setW off q (rows.getD i.toNat d)).map fun r' => ⟨.junk, [(id, .row d v' (rows.set i.toNat r') false)], [id], [], v' = ver ∧ z = wid d ∧ 0 ≤ i ∧ i < rows.length ∧ wid q = te.size⟩
    | _, _ => none
  | _ => none
theorem storeAV_ok {t : Nat} {te : TE} {out : Out} {v a : AV} {x y : Value} {of' : Nat → Option Obj} (h : OSim c e of') (ht : TEok P t te) (hs : storeAV te of v a = some out) (hp : out.pre) (ho : ∀ id ∈ out.ro, of' id = of id) (hx : Rep e a x) (hy : Rep e v y) :
    Does P (do Instr.storeAt t x y; pure .skip) e.w (Left c e of' out) := by
  unfold storeAV at hs
  split at hs
  · rename_i id off
    split at hs <;> try (cases hs; done)
    rename_i l q hof hq
    rw [Option.map_eq_some_iff] at hs
    obtain ⟨l', hl, rfl⟩ := hs
    exact law_store_pt h ht (by rw [ho id (by simp)]; exact hof) hq hp hl hx hy
  · rename_i id off n i
    split at hs <;> try (cases hs; done)
    rename_i l hof
    split at hs <;> try (cases hs; done)
    rename_i m es r hd
    split at hs <;> try (cases hs; done)
    rename_i hc
    obtain ⟨rfl, h1, h2, h3⟩ := hc
    rw [Option.map_eq_some_iff] at hs
    obtain ⟨l', hl, rfl⟩ := hs
    have hpv : pieces v = some [v] := by cases v <;> first | rfl | (simp [scalar] at h2; done) | (simp [pieces] at h3; done)
    exact law_store_pe h ht h1 (by rw [ho id (by simp)]; exact hof) hd rfl h2 hpv hl hx hy
  · rename_i id ver z i off
    split at hs <;> try (cases hs; done)
    rename_i d v' rows q hof hq
    rw [Option.map_eq_some_iff] at hs
    obtain ⟨r', hl, rfl⟩ := hs
    obtain ⟨rfl, rfl, h0, h1, h2⟩ := hp
    exact law_store_re h ht (by rw [ho id (by simp)]; exact hof) h0 h1 hq h2 hl hx hy
  · cases hs

/-! ### Addresses -/
theorem add_block {a : Addr} (h : a.spot = none) (k : Nat) : (a.add k).block = a.block ∧ (a.add k).off = a.off + k ∧ (a.add k).spot = none ∧ ∀ j, (a.add k).add j = a.add (k + j) := by
  obtain ⟨b, o, s⟩ := a
  simp only at h
  subst h
  simp [add_none, Nat.add_assoc]
def fieldAddrAV (off : Nat) (of : Nat → Option Obj) : AV → Option Out
  | .pt id o => some (.pure (.pt id (o + off)))
  | .re id ver z i o => match of id with
    | some (.row _ v _ _) => some ⟨.re id ver z i (o + off), [], [id], [], v = ver⟩
    | _ => none
  | .rp l => (dropW off l).map fun l => .pure (.rp l)
  | _ => none
theorem re_inv {id ver z off v : Nat} {i : Int} {d : List AV} {rows : List (List AV)} {sh : Bool} {x : Value} (h : OSim c e of) (ho : of id = some (.row d v rows sh)) (hv : v = ver) (hx : Rep e (.re id ver z i off) x) :
    ∃ b o, e.U id ∧ 0 < ver ∧ e.bn id = ver ∧ e.ι id = some (b, o) ∧ 0 ≤ i ∧ x = .pointer (some ⟨b, o + i.toNat * z + off, none⟩) := by
  subst hv
  cases hx with
  | re u0 u1 u2 u3 u4 _ => exact ⟨_, _, u0, u1, u2, u3, u4, rfl⟩
  | reStale y hy u0 u1 _ => have := (h.ok _ _ ho).2.2.1; omega
theorem ow_inv {id ver z off n v : Nat} {d : List AV} {rows : List (List AV)} {sh : Bool} {x : Value} (h : OSim c e of) (ho : of id = some (.row d v rows sh)) (hv : v = ver) (hn : n ≠ 0) (hx : Rep e (.ow id ver off n z) x) :
    ∃ b o cap, e.U id ∧ 0 < ver ∧ e.bn id = ver ∧ e.ι id = some (b, o) ∧ n ≤ cap ∧ 0 < z ∧ x = .slice (some ⟨b, o + off * z, none⟩) n cap := by
  subst hv
  cases hx with
  | ow u0 u1 u2 u3 u4 u5 u6 u7 _ => 
    have := u7 (by omega)
    subst this
    exact ⟨_, _, _, u0, u1, u2, u3, u5, u6, rfl⟩
  | ow0 u0 u1 u2 u3 _ => exact absurd rfl hn
  | owStale y hy u0 u1 _ => have := (h.ok _ _ ho).2.2.1; omega
theorem fieldAddrAV_ok {s : Nat} {fs : Array Field} {of' : Nat → Option Obj} {out : Out} (h : OSim c e of') (hs : P.underlying s = some (.struct fs)) {k : Nat} {f : Field} (hf : fs[k]? = some f) {te : TE} (ht : TEok P f.type te) (hz : te.size ≠ 0) {v : AV} {x : Value} (hr : fieldAddrAV f.offset of v = some out) (hp : out.pre) (ho : ∀ id ∈ out.ro, of' id = of id) (hx : Rep e v x) :
    Does P (do pure (.value (← Instr.fieldAt s x k))) e.w (Left c e of' out) := by
  have run : ∀ a : Addr, (Instr.fieldAt s (.pointer (some a)) k).run P e.w = .ok (.pointer (some (a.add f.offset))) e.w := fun a => by
    simp [Instr.fieldAt, run_under hs, hf, Instr.sureAddr, fieldPlace, run_size ht, hz]
  unfold fieldAddrAV at hr
  split at hr
  · injection hr with hr
    subst hr
    cases hx with | pt u0 u1 u2 _ =>
    refine does_value (run _) (left_same h ?_)
    rw [add_none, Nat.add_assoc]
    exact .pt u0 u1 u2 .nil
  · split at hr <;> try (cases hr; done)
    rename_i d v' rows sh hof
    injection hr with hr
    subst hr
    obtain ⟨b, o, u0, u1, u2, u3, u4, rfl⟩ := re_inv h (by rw [ho _ (by simp)]; exact hof) hp hx
    refine does_value (run _) (left_same h ?_)
    rw [add_none, Nat.add_assoc]
    exact .re u0 u1 u2 u3 u4 .nil
  · rw [Option.map_eq_some_iff] at hr
    obtain ⟨l', hl, rfl⟩ := hr
    cases hx with | rp h1 h2 h3 _ =>
    refine does_value (run _) (left_same h ?_)
    obtain ⟨b1, b2, b3, b4⟩ := add_block h2 f.offset
    refine .rp (h1.drop hl) b3 (fun j y hj => ?_) .nil
    rw [List.getElem?_drop] at hj
    rw [b4, b1, b2, Nat.add_assoc]
    exact h3 _ _ hj
  · cases hr
/-- A part of a struct. -/
def fieldAV (te : TE) (off : Nat) : AV → Option AV
  | .ag l => match dropW off l with
    | some m => match takeW te.size m with
      | some q => value te.k.agg q
      | none => none
    | none => none
  | _ => none
theorem run_part {t off : Nat} {te : TE} (ht : TEok P t te) {xs : Array Value} {l m q : List AV} {v : AV} (hr : RepL e l xs.toList) (hd : dropW off l = some m) (hk : takeW te.size m = some q) (hv : value te.k.agg q = some v) (w : World) :
    ∃ x, (part t xs off).run P w = .ok x w ∧ Rep e v x := by
  have hm := hr.drop hd
  have hq := hm.take hk
  obtain ⟨_, _, hwq⟩ := takeW_spec _ _ _ hk
  rcases value_spec hq hv with ⟨ha, hrep⟩ | ⟨ha, x, hx, hrep⟩
  · refine ⟨.agg (xs.extract off (off + te.size)), by simp [part, run_agg ht, ha, run_size ht], ?_⟩
    have : xs.extract off (off + te.size) = ((xs.toList.drop off).take te.size).toArray := by
      apply Array.ext'
      simp
    rw [this]; exact hrep
  · have hx' : xs[off]? = some x := by
      have h1 := congrArg (·[0]?) hx
      simp only [List.getElem?_cons_zero] at h1
      rw [← Array.getElem?_toList]
      have hne : 0 < te.size := by
        rcases Nat.eq_zero_or_pos te.size with h0 | h0
        · rw [h0] at hx; simp at hx
        · exact h0
      rw [List.getElem?_take_of_lt hne, List.getElem?_drop] at h1
      simpa using h1
    exact ⟨x, by simp [part, run_agg ht, ha, hx'], hrep⟩
theorem fieldAV_ok {s : Nat} {fs : Array Field} {of' : Nat → Option Obj} (h : OSim c e of') (hs : P.underlying s = some (.struct fs)) {k : Nat} {f : Field} (hf : fs[k]? = some f) {te : TE} (ht : TEok P f.type te) {v r : AV} {x : Value} (hr : fieldAV te f.offset v = some r) (hx : Rep e v x) {ro : List Nat} {p : Prop} :
    Does P (do pure (.value (← Instr.field s x k))) e.w (Left c e of' ⟨r, [], ro, [], p⟩) := by
  unfold fieldAV at hr
  split at hr
  · split at hr <;> try (cases hr; done)
    rename_i m hd
    split at hr <;> try (cases hr; done)
    rename_i q hk
    obtain ⟨xs, rfl, hl⟩ := hx
    obtain ⟨y, hy, hrep⟩ := run_part ht hl hd hk hr e.w
    refine does_value (x := y) (w' := e.w) ?_ (left_same h hrep)
    simp [Instr.field, run_under hs, hf, asAgg, hy]
  · cases hr
/-- An element's address. -/
def indexAddrAV (arr : Option Nat) (te : TE) (of : Nat → Option Obj) (i : Int) : AV → Option Out
  | .pt id off => match arr with
    | some n => if te.size = 1 then some (.when (.pe id off n i) (0 ≤ i ∧ i < n)) else none
    | none => none
  | .ow id ver off n z => match arr, of id with
    | none, some (.row _ v _ _) => some ⟨.re id ver z (off + i) 0, [], [id], [], v = ver ∧ z = te.size ∧ 0 ≤ i ∧ i < n⟩
    | _, _ => none
  | .bs id off n lo m => match arr with
    | none => if te.size = 1 then some (.when (.pe id off n (lo + i)) (0 ≤ i ∧ i < m)) else none
    | some _ => none
  | .sl d rows => match arr with
    | none => some (.when (.rp (rows.getD i.toNat d)) (wid d = te.size ∧ 0 ≤ i ∧ i < rows.length))
    | some _ => none
  | .rp l => match arr, takeW (arr.getD 0 * te.size) l with
    | some n, some [.ar m es] => if te.size = 1 then some (.when (.rp [es.getD i.toNat .junk]) (m = n ∧ 0 ≤ i ∧ i < n)) else none
    | _, _ => none
  | _ => none
/-- What an element's address asks of the type. -/
def IdxTy (P : Program) (t el : TypeId) : Option Nat → Prop
  | some n => P.underlying t = some (.array n el)
  | none => P.underlying t = some (.slice el)
theorem indexAddrAV_ok {t el : Nat} {arr : Option Nat} {te : TE} {of' : Nat → Option Obj} {out : Out} {k : IntKind} {i : Int} (h : OSim c e of') (hs : IdxTy P t el arr) (ht : TEok P el te) {v : AV} {x : Value} (hr : indexAddrAV arr te of i v = some out) (hp : out.pre) (ho : ∀ id ∈ out.ro, of' id = of id) (hx : Rep e v x) :
    Does P (do pure (.value (← Instr.indexAt t x (.int k i)))) e.w (Left c e of' out) := by
  have runS : P.underlying t = some (.slice el) → ∀ (a : Addr) (n cap : Nat), 0 ≤ i → i < n → (Instr.indexAt t (.slice (some a) n cap) (.int k i)).run P e.w = .ok (.pointer (some (a.add (i.toNat * te.size)))) e.w := fun hs a n cap h0 h1 => by
    simp [Instr.indexAt, asIntOf, run_under hs, run_size ht, h0, h1]
  have runA : ∀ n, P.underlying t = some (.array n el) → ∀ (a : Addr), 0 ≤ i → i < n → (Instr.indexAt t (.pointer (some a)) (.int k i)).run P e.w = .ok (.pointer (some (a.add (i.toNat * te.size)))) e.w := fun n hs a h0 h1 => by
    simp [Instr.indexAt, asIntOf, run_under hs, run_size ht, h0, h1, Instr.sureAddr]
  unfold indexAddrAV at hr
  split at hr
  · split at hr <;> try (cases hr; done)
    split at hr <;> try (cases hr; done)
    rename_i n hz
    injection hr with hr
    subst hr
    obtain ⟨h0, h1⟩ := hp
    cases hx with | pt u0 u1 u2 _ =>
    refine does_value (runA _ hs _ h0 h1) (left_same h ?_)
    rw [add_none, hz, Nat.mul_one]
    exact .pe u0 u1 u2 h0 h1 .nil
  · split at hr <;> try (cases hr; done)
    rename_i id ver off n z _ _ _ v' _ _ hof
    injection hr with hr
    subst hr
    obtain ⟨hv, rfl, h0, h1⟩ := hp
    obtain ⟨b, o, cap, u0, u1, u2, u3, u4, u5, rfl⟩ := ow_inv h (by rw [ho _ (by simp)]; exact hof) hv (by omega) hx
    refine does_value (runS hs _ _ _ h0 h1) (left_same h ?_)
    have e1 : o + off * te.size + i.toNat * te.size = o + ((off : Int) + i).toNat * te.size + 0 := by
      rw [show ((off : Int) + i).toNat = off + i.toNat by omega, Nat.add_mul]; omega
    rw [add_none, e1]
    exact .re u0 u1 u2 u3 (by omega) .nil
  · split at hr <;> try (cases hr; done)
    split at hr <;> try (cases hr; done)
    rename_i id off n lo m _ hz
    injection hr with hr
    subst hr
    obtain ⟨h0, h1⟩ := hp
    cases hx with | bs u0 u1 u2 u3 u4 u5 _ =>
    have := u5 (by omega)
    subst this
    refine does_value (runS hs _ _ _ h0 h1) (left_same h ?_)
    rw [add_none, hz, Nat.mul_one]
    have e1 : ∀ o : Nat, o + off + lo + i.toNat = o + off + ((lo : Int) + i).toNat := fun o => by omega
    rw [e1]
    exact .pe u0 u1 u2 (by omega) (by omega) .nil
  · rename_i d rows
    split at hr <;> try (cases hr; done)
    injection hr with hr
    subst hr
    obtain ⟨hz, h0, h1⟩ := hp
    cases hx with
    | sl0 _ => simp at h1; omega
    | sl h2 h3 h4 h5 h6 h7 _ =>
      refine does_value (runS hs _ _ _ h0 h1) (left_same h ?_)
      have hil : i.toNat < rows.length := by omega
      obtain ⟨as, bs, cs, rfl, q1, q2, q3, q4, q5⟩ := row_at h3 h4 hil
      refine .rp (ys := bs) ?_ (add_block h5 _).2.2.1 (fun j y hj => ?_) .nil
      · simpa [List.getD, List.getElem?_eq_getElem hil] using q4
      · have := h7 (i.toNat * te.size + j) y (by rw [← hz, ← q1, List.getElem?_append_right (by omega), Nat.add_sub_cancel_left, List.getElem?_append_left (List.getElem?_eq_some_iff.1 hj).1]; exact hj)
        rw [(add_block h5 _).2.2.2, (add_block h5 _).1, (add_block h5 _).2.1, Nat.add_assoc]
        exact this
  · split at hr <;> try (cases hr; done)
    split at hr <;> try (cases hr; done)
    rename_i _ _ n m es hk hz
    injection hr with hr
    subst hr
    obtain ⟨rfl, h0, h1⟩ := hp
    simp only [Option.getD_some] at hk
    cases hx with | rp h2 h3 h4 _ =>
    refine does_value (runA _ hs _ h0 h1) (left_same h ?_)
    obtain ⟨zs, zs', hzz, q1, q2, q3, q4⟩ := ar_head (h2.take hk)
    cases q3
    have hi : i.toNat < es.length := by
      have := q1.length
      rw [wid_scalars _ q4] at this
      omega
    obtain ⟨y, hy, hry⟩ := q1.nth q4 i.toNat _ (List.getElem?_eq_getElem hi)
    refine .rp (ys := [y]) ?_ (add_block h3 _).2.2.1 (fun j u hj => ?_) .nil
    · simpa [List.getD, List.getElem?_eq_getElem hi] using hry
    · have hj0 : j = 0 ∧ u = y := by
        cases j <;> simp at hj
        exact ⟨rfl, hj.symm⟩
      obtain ⟨rfl, rfl⟩ := hj0
      rw [List.append_nil] at hzz
      have := h4 i.toNat u (by
        have := congrArg (·[i.toNat]?) hzz
        simp only [hy] at this
        have hlt : i.toNat < m * te.size := by
          rw [hz]; omega
        rwa [List.getElem?_take_of_lt hlt] at this)
      rw [(add_block h3 _).2.2.2, (add_block h3 _).1, (add_block h3 _).2.1, hz, Nat.mul_one, Nat.add_assoc]
      exact this
  · cases hr
end Go.Eng

namespace Go.Eng
open Go.RowKit
variable {P : Program} {T : TT} {c : Ctx} {e : Env} {of : Nat → Option Obj}

/-! ### Operations on values alone -/
def extractAV (i : Nat) : AV → Option AV
  | .tu l => l[i]?
  | _ => none
theorem extractAV_ok {i : Nat} {v r : AV} {x : Value} (h : OSim c e of) (hr : extractAV i v = some r) (hx : Rep e v x) {ro : List Nat} {p : Prop} :
    Does P (do pure (.value (← Instr.extract x i))) e.w (Left c e of ⟨r, [], ro, [], p⟩) := by
  unfold extractAV at hr
  split at hr
  · obtain ⟨xs, rfl, hs, hall⟩ := hx
    obtain ⟨hi, -⟩ := List.getElem?_eq_some_iff.1 hr
    have hxi : xs[i]? = some xs[i] := Array.getElem?_eq_getElem (by omega)
    refine does_value (x := xs[i]) (w' := e.w) (by simp [Instr.extract, hxi]) (left_same h ?_)
    have := hall i r xs[i] hr hxi
    cases r with
    | tu l => exact this.elim
    | _ => exact this
  · cases hr

/-- How long. -/
def lenAV (of : Nat → Option Obj) : AV → Option Out
  | .pl (.string s) => some (.pure (.pl (.int .i64 s.size)))
  | .pl (.slice _ n _) => some (.pure (.pl (.int .i64 n)))
  | .sl _ rows => some (.pure (.pl (.int .i64 rows.length)))
  | .em => some (.pure (.pl (.int .i64 0)))
  | .bs _ _ _ _ m => some (.pure (.pl (.int .i64 m)))
  | .ow id ver _ n _ => match of id with
    | some (.row _ v _ _) => some ⟨.pl (.int .i64 n), [], [id], [], v = ver⟩
    | _ => none
  | _ => none
theorem ow_any {id ver z off n v : Nat} {d : List AV} {rows : List (List AV)} {sh : Bool} {x : Value} (h : OSim c e of) (ho : of id = some (.row d v rows sh)) (hv : v = ver) (hx : Rep e (.ow id ver off n z) x) :
    ∃ A cap, x = .slice A n cap := by
  subst hv
  cases hx with
  | ow => exact ⟨_, _, rfl⟩
  | ow0 => exact ⟨_, _, rfl⟩
  | owStale y hy u0 u1 _ => have := (h.ok _ _ ho).2.2.1; omega
theorem lenAV_ok {t ty : TypeId} {of' : Nat → Option Obj} {out : Out} {v : AV} {x : Value} (h : OSim c e of') (ht : (∃ el, P.underlying t = some (.slice el)) ∨ P.underlying t = some .string) (hty : (∃ s, v = .pl (.string s)) ↔ P.underlying t = some .string)
    (hr : lenAV of v = some out) (hp : out.pre) (ho : ∀ id ∈ out.ro, of' id = of id) (hx : Rep e v x) :
    Does P (do pure (.value (← Builtin.len_ #[t] ty #[x]))) e.w (Left c e of' out) := by
  have runS : ∀ A n cap el, P.underlying t = some (.slice el) → x = .slice A n cap → (Builtin.len_ #[t] ty #[x]).run P e.w = .ok (.int .i64 n) e.w := fun A n cap el hu hx => by
    subst hx; simp [Builtin.len_, run_under hu, goInt]
  have hsl : ∀ {A n cap}, (¬ ∃ s, v = .pl (.string s)) → x = .slice A n cap → (Builtin.len_ #[t] ty #[x]).run P e.w = .ok (.int .i64 n) e.w := fun {A n cap} hns hx => by
    rcases ht with ⟨el, hu⟩ | hu
    · exact runS _ _ _ _ hu hx
    · exact absurd (hty.2 hu) hns
  unfold lenAV at hr
  split at hr
  · rename_i s
    injection hr with hr; subst hr
    have e1 := rep_pl_inv hx
    subst e1
    have hu := hty.1 ⟨_, rfl⟩
    exact does_value (by simp [Builtin.len_, run_under hu, goInt]) (left_same h (rep_pl rfl))
  · injection hr with hr; subst hr
    have e1 := rep_pl_inv hx
    exact does_value (hsl (by rintro ⟨s, hs⟩; cases hs) e1) (left_same h (rep_pl rfl))
  · injection hr with hr; subst hr
    rename_i d rows
    have e1 : ∃ A cap, x = .slice A rows.length cap := by
      cases hx with
      | sl => exact ⟨_, _, rfl⟩
      | sl0 => exact ⟨_, _, rfl⟩
    obtain ⟨A, cap, e1⟩ := e1
    exact does_value (hsl (by rintro ⟨s, hs⟩; cases hs) e1) (left_same h (rep_pl rfl))
  · injection hr with hr; subst hr
    cases hx with | em _ =>
    exact does_value (hsl (by rintro ⟨s, hs⟩; cases hs) rfl) (left_same h (rep_pl rfl))
  · injection hr with hr; subst hr
    cases hx with | bs =>
    exact does_value (hsl (by rintro ⟨s, hs⟩; cases hs) rfl) (left_same h (rep_pl rfl))
  · split at hr <;> try (cases hr; done)
    rename_i hof
    injection hr with hr; subst hr
    obtain ⟨A, cap, e1⟩ := ow_any h (by rw [ho _ (by simp)]; exact hof) hp hx
    exact does_value (hsl (by rintro ⟨s, hs⟩; cases hs) e1) (left_same h (rep_pl rfl))
  · cases hr

/-- The smaller and the greater of integers. -/
def extAV (mx : Bool) : List AV → Option AV
  | [.pl (.int k a), .pl (.int _ b)] => some (.pl (.int k (if (if mx then a < b else b < a) then b else a)))
  | _ => none
theorem min_ok {t : Array TypeId} {ty : TypeId} {u v r : AV} {a b : Value} (h : OSim c e of) (hr : extAV false [u, v] = some r) (hu : Rep e u a) (hv : Rep e v b) {ro : List Nat} {p : Prop} :
    Does P (do pure (.value (← Builtin.min_ t ty #[a, b]))) e.w (Left c e of ⟨r, [], ro, [], p⟩) := by
  unfold extAV at hr
  split at hr
  · rename_i heq
    simp only [List.cons.injEq, and_true] at heq
    obtain ⟨rfl, rfl⟩ := heq
    injection hr with hr; subst hr
    have e1 := rep_pl_inv hu
    have e2 := rep_pl_inv hv
    subst e1; subst e2
    exact does_value (by simp [Builtin.min_, Builtin.min2]) (left_same h (rep_pl rfl))
  · cases hr
theorem max_ok {t : Array TypeId} {ty : TypeId} {u v r : AV} {a b : Value} (h : OSim c e of) (hr : extAV true [u, v] = some r) (hu : Rep e u a) (hv : Rep e v b) {ro : List Nat} {p : Prop} :
    Does P (do pure (.value (← Builtin.max_ t ty #[a, b]))) e.w (Left c e of ⟨r, [], ro, [], p⟩) := by
  unfold extAV at hr
  split at hr
  · rename_i heq
    simp only [List.cons.injEq, and_true] at heq
    obtain ⟨rfl, rfl⟩ := heq
    injection hr with hr; subst hr
    have e1 := rep_pl_inv hu
    have e2 := rep_pl_inv hv
    subst e1; subst e2
    exact does_value (by simp [Builtin.max_, Builtin.max2]) (left_same h (rep_pl rfl))
  · cases hr

/-- An element of an array, a byte of a string. -/
def indexAV (te : TE) (i : Int) : AV → Option (AV × Prop)
  | .ag [.ar n es] => if te.size = 1 ∧ te.k.agg = false then some (es.getD i.toNat .junk, 0 ≤ i ∧ i < n) else none
  | _ => none
theorem indexAV_ok {t el n0 : Nat} {te : TE} {k : IntKind} {i : Int} {v r : AV} {p : Prop} {x : Value} (h : OSim c e of) (hs : P.underlying t = some (.array n0 el)) (ht : TEok P el te) (hr : indexAV te i v = some (r, p)) (hp : p) (hn : ∀ n es, v = .ag [.ar n es] → n = n0)
    (hx : Rep e v x) {ro : List Nat} {q : Prop} : Does P (do pure (.value (← Instr.index t x (.int k i)))) e.w (Left c e of ⟨r, [], ro, [], q⟩) := by
  unfold indexAV at hr
  split at hr
  · rename_i n es
    split at hr <;> try (cases hr; done)
    rename_i hc
    injection hr with hr
    have h1 := congrArg Prod.fst hr
    have h2 := congrArg Prod.snd hr
    simp only at h1 h2
    subst h1; subst h2
    obtain ⟨h0, h1⟩ := hp
    have := hn n es rfl
    subst this
    obtain ⟨xs, rfl, hl⟩ := hx
    obtain ⟨ys, zs, hz, q1, q2, q3, q4⟩ := ar_head hl
    cases q3
    rw [List.append_nil] at hz
    have hi : i.toNat < es.length := by
      have := q1.length
      rw [wid_scalars _ q4] at this
      omega
    obtain ⟨y, hy, hry⟩ := q1.nth q4 i.toNat _ (List.getElem?_eq_getElem hi)
    have hyx : xs[i.toNat]? = some y := by rw [← Array.getElem?_toList, hz]; exact hy
    refine does_value (x := y) (w' := e.w) ?_ (left_same h ?_)
    · simp [Instr.index, asIntOf, run_under hs, h0, h1, run_size ht, hc.1, part, run_agg ht, hc.2, hyx]
    · have := rep_scalar (q4 _ (List.getElem_mem hi)) hry
      simpa [List.getD, List.getElem?_eq_getElem hi] using this
  · cases hr
def indexStr (i : Int) : AV → Option (AV × Prop)
  | .pl (.string s) => some (.pl (.int .u8 (s.data.getD i.toNat 0).toNat), 0 ≤ i ∧ i < s.size)
  | _ => none
theorem indexStr_ok {t : Nat} {k : IntKind} {i : Int} {v r : AV} {p : Prop} {x : Value} (h : OSim c e of) (hs : P.underlying t = some .string) (hr : indexStr i v = some (r, p)) (hp : p)
    (hx : Rep e v x) {ro : List Nat} {q : Prop} : Does P (do pure (.value (← Instr.index t x (.int k i)))) e.w (Left c e of ⟨r, [], ro, [], q⟩) := by
  unfold indexStr at hr
  split at hr
  · rename_i s
    injection hr with hr
    have h1 := congrArg Prod.fst hr
    have h2 := congrArg Prod.snd hr
    simp only at h1 h2
    subst h1; subst h2
    obtain ⟨h0, h1⟩ := hp
    have e1 := rep_pl_inv hx
    subst e1
    have hi : i.toNat < s.data.size := by have : s.size = s.data.size := rfl; omega
    refine does_value (x := .int .u8 (s.data.getD i.toNat 0).toNat) (w' := e.w) ?_ (left_same h (rep_pl rfl))
    have hb : s[i.toNat]? = some s.data[i.toNat] := by
      have hi' : i.toNat < s.size := hi
      rw [getElem?_pos s i.toNat hi']; rfl
    have hd : s.data.getD i.toNat 0 = s.data[i.toNat] := by unfold Array.getD; exact dif_pos hi
    rw [hd]
    simp [Instr.index, asIntOf, run_under hs, h0, hb]
  · cases hr

/-- A part of a string. -/
theorem law_slice_str {t : TypeId} {s : ByteArray} {x : Value} {lo hi : Option AV} {lo' hi' : Option Value} {l hh : Int} (h : OSim c e of) (ht : P.underlying t = some .string) (hx : Rep e (.pl (.string s)) x) (hlo : RepO e lo lo') (hhi : RepO e hi hi') (hl : bnd (0 : Nat) lo = some l)
    (hh' : bnd s.size hi = some hh) (h0 : 0 ≤ l) (h1 : l ≤ hh) (h2 : hh ≤ s.size) {ro : List Nat} {p : Prop} :
    Does P (do pure (.value (← Instr.sliceAt t x lo' hi' none))) e.w (Left c e of ⟨.pl (.string (s.extract l.toNat hh.toNat)), [], ro, [], p⟩) := by
  have e1 := rep_pl_inv hx
  subst e1
  have hb := run_bounds (P := P) (b := false) (n := s.size) (cap := s.size) (w := e.w) hlo hhi hl hh' h0 h1 h2 (Nat.le_refl _)
  refine does_value (x := .string (s.extract l.toNat hh.toNat)) (w' := e.w) ?_ (left_same h (rep_pl rfl))
  simp [Instr.sliceAt, run_under ht, Instr.slice, hb]

/-- Conversions. -/
theorem law_conv_int {s t : TypeId} {sd : TypeDesc} {k k' : IntKind} {n : Int} {x : Value} (h : OSim c e of) (hs : P.underlying s = some sd) (ht : P.underlying t = some (.int k)) (hx : Rep e (.pl (.int k' n)) x) {ro : List Nat} {p : Prop} :
    Does P (do pure (.value (← convert s t x))) e.w (Left c e of ⟨.pl (.int k (k.wrap n)), [], ro, [], p⟩) := by
  have e1 := rep_pl_inv hx
  subst e1
  refine does_value (x := .int k (k.wrap n)) (w' := e.w) ?_ (left_same h (rep_pl rfl))
  simp [convert, run_under hs, run_under ht, Conv.intToInt]
end Go.Eng

namespace Go.Eng
open Go.RowKit
variable {P : Program} {T : TT} {c : Ctx} {e : Env} {of : Nat → Option Obj}

/-! ### Slices that are nil, and append -/
def Env.nil (e : Env) (id : Nat) : Env := { e with ι := upd e.ι id none, bn := upd e.bn id 1, U := fun j => j = id ∨ e.U j }
theorem OSim.le_nil (_h : OSim c e of) {id : Nat} (hu : ¬ e.U id) : e.le (e.nil id) := by
  have hne : ∀ j, e.U j → j ≠ id := fun j hj he => hu (he ▸ hj)
  refine ⟨fun b i hs => ⟨hs, fun _ hx => hx⟩, fun _ hj => .inr hj, fun j hj _ => ⟨upd_ne _ _ (hne j hj), fun _ _ _ => rfl⟩, fun j hj h0 => ?_, fun j hj => ?_, Nat.le_refl _, fun _ _ => rfl⟩
  · show upd e.bn id 1 j = 0
    rw [upd_ne _ _ (hne j hj)]; exact h0
  · show _ ≤ upd e.bn id 1 j
    rw [upd_ne _ _ (hne j hj)]; exact Nat.le_refl _
theorem OSim.nil (h : OSim c e of) {id : Nat} (hu : ¬ e.U id) {d : List AV} (hd : 0 < wid d) : OSim c (e.nil id) (upd of id (some (.row d 1 [] false))) := by
  have hle := h.le_nil hu
  have hιn : (e.nil id).ι id = none := upd_same _ _ _
  have hι : ∀ j, j ≠ id → (e.nil id).ι j = e.ι j := fun j hj => upd_ne _ _ hj
  refine ⟨fun j o hj => ?_, fun j k b q b' q' hj hk hb1 hb2 hne => ?_, fun j b q hj hb => ?_, fun j b q hj hb => ?_, h.slt, h.s0, h.snew, h.os, h.tape, h.output, h.size, h.block⟩
  · by_cases he : j = id
    · subst he
      rw [upd_same] at hj; cases hj
      exact ⟨.inl rfl, by omega, upd_same _ _ _, hd, (fun r hr => by cases hr), .inl ⟨hιn, rfl⟩⟩
    · rw [upd_ne _ _ he] at hj
      exact (h.ok _ _ hj).keep hle (upd_ne _ _ he) (fun _ _ _ => rfl) (fun _ _ _ _ hs => hs)
  · have h1 : j ≠ id := fun he => by subst he; rw [hιn] at hb1; cases hb1
    have h2 : k ≠ id := fun he => by subst he; rw [hιn] at hb2; cases hb2
    rw [hι _ h1] at hb1
    rw [hι _ h2] at hb2
    rw [upd_ne _ _ h1] at hj
    rw [upd_ne _ _ h2] at hk
    exact h.sep _ _ _ _ _ _ hj hk hb1 hb2 hne
  · have h1 : j ≠ id := fun he => by subst he; rw [hιn] at hb; cases hb
    rw [hι _ h1] at hb
    rw [upd_ne _ _ h1] at hj
    exact h.own _ _ _ hj hb
  · have h1 : j ≠ id := fun he => by subst he; rw [hιn] at hb; cases hb
    rw [hι _ h1] at hb
    exact h.lt _ _ _ (hj.resolve_left h1) hb
theorem left_nil {id : Nat} (h : OSim c e of) (hu : ¬ e.U id) {d : List AV} (hd : 0 < wid d) {ro : List Nat} {p : Prop} :
    Left c e of ⟨.ow id 1 0 0 (wid d), [(id, .row d 1 [] false)], ro, [id], p⟩ (.slice none 0 0) e.w :=
  ⟨e.nil id, rfl, h.nil hu hd, h.le_nil hu, fun j hj => by rcases hj with rfl | hj; exact .inr (by simp); exact .inl hj, .ow0 (.inl rfl) (by omega) (upd_same _ _ _) (upd_same _ _ _) .nil⟩

/-- append onto a slice with no room. -/
theorem law_append_nil {t xt ty el : TypeId} {te : TE} (h : OSim c e of) (ht : P.underlying t = some (.slice el)) (hel : TEok P el te) {id : Nat} (hu : ¬ e.U id) (hz : 0 < te.size) {ns : List (List AV)} {A : Option Addr} {y : Value} {us : List Value}
    (hs : Src P e.w xt y te.size ns.length us) (hus : RepL e ns.flatten us) (hw : ∀ r ∈ ns, wid r = te.size) (hA : A = none ∨ ns ≠ [])
    (hbytes : ns.length * te.bytes ≤ 140737488355328) (h63 : ns.length ≤ 4611686018427387904) {ro : List Nat} {p : Prop} :
    Does P (do pure (.value (← Builtin.append_ #[t, xt] ty #[.slice A 0 0, y]))) e.w (Left c e of ⟨.ow id 1 0 ns.length te.size, [(id, .row te.zero 1 ns false)], ro, [id], p⟩) := by
  by_cases hn : ns = []
  · subst hn
    rcases hA with rfl | hA
    · have hrun := run_append_in (P := P) (ty := ty) (A := none) (n := 0) (cap := 0) (w' := e.w) ht hel hs (by simp) (fun a ha => by cases ha) (fun _ => rfl)
      refine does_value hrun ?_
      have := left_nil (p := p) (ro := ro) h hu (d := te.zero) (by rw [hel.wide]; exact hz)
      rw [hel.wide] at this
      exact this
    · exact absurd rfl hA
  · have hpos : 0 < ns.length := List.length_pos_iff.2 hn
    obtain ⟨z, cap2, hc2, hzf, hrun⟩ := run_append_up (P := P) (ty := ty) (A := A) (n := 0) (cap := 0) (os := []) ht hel hs (fun w' _ => by
      cases A with
      | none => simp [Builtin.firstCells]
      | some a =>
        have := run_loadCells (P := P) w' a [] (fun j y hj => by simp at hj)
        simpa [Builtin.firstCells] using this) (by omega) (by simpa using hbytes) (by simpa using h63)
    have hzs : z.cells.size = te.size := by
      have := (flat_spec e _ _ hzf).length
      rw [hel.wide, Array.length_toList] at this; exact this
    obtain ⟨hd0, hle0⟩ := h.same_heap (w' := e.w.drew) rfl rfl rfl rfl
    let e0 : Env := { e with w := e.w.drew }
    have hu0 : ¬ e0.U id := hu
    rw [List.nil_append] at hrun
    refine does_value hrun ?_
    have hcs : (us.toArray ++ Builtin.zeroCells z.cells (cap2 - (0 + ns.length))).size = cap2 * te.size := by
      simp only [Array.size_append, List.size_toArray, hs.size, size_zeroCells, hzs, ← Nat.add_mul]
      congr 1; omega
    have hus0 : RepL e0 ns.flatten us := hus.mono hle0
    have hok := OK_row (e := e0) (t := el) (fz := (0, 0)) (rows := ns) (d := te.zero) hd0 hu0 (by rw [hel.wide]; exact hz) (fun r hr => by rw [hel.wide]; exact hw r hr) (cs := us.toArray ++ Builtin.zeroCells z.cells (cap2 - (0 + ns.length))) (ys := us) (post := (Builtin.zeroCells z.cells (cap2 - (0 + ns.length))).toList) (by simp) hus0 (free_zero (heap_new _ _ _ _ _ _))
    have hrep := rep_ow_new (e := e0) (id := id) (t := el) (fz := (0, 0)) hz hcs (show ns.length ≤ cap2 by omega)
    obtain ⟨e', h1, h2, h3, h4, h5⟩ := left_new (ro := ro) (p := p) hd0 hu0 hok hrep
    refine ⟨e', h1, h2, hle0.trans h3, h4, ?_⟩
    rw [Nat.zero_add]
    exact h5
/-- What is appended. -/
def srcAV (te : TE) (of : Nat → Option Obj) : AV → Option (List (List AV) × List Nat × Prop)
  | .sl d ns => some (ns, [], wid d = te.size)
  | .ow id ver off n z => match of id with
    | some (.row d v rows _) => some ((rows.drop off).take n, [id], v = ver ∧ z = wid d ∧ wid d = te.size ∧ off + n ≤ rows.length)
    | _ => none
  | .bs id off n lo m => match of id with
    | some (.box l _) => match dropW off l with
      | some (.ar k es :: _) => some (((es.drop lo).take m).map fun v => [v], [id], k = n ∧ te.size = 1 ∧ lo + m ≤ n)
      | _ => none
    | _ => none
  | .em => some ([], [], True)
  | .pl (.slice _ n _) => some ([], [], n = 0)
  | .pl (.string s) => some (s.data.toList.map fun b => [byteAV b], [], te.size = 1)
  | _ => none
theorem bytes_flatten (l : List UInt8) : (l.map fun b => [byteAV b]).flatten = l.map byteAV := by
  induction l with
  | nil => rfl
  | cons b r ih => simp [ih]
theorem srcAV_ok {xt : TypeId} {te : TE} {of' : Nat → Option Obj} {v : AV} {y : Value} {ns : List (List AV)} {ro : List Nat} {p : Prop} (h : OSim c e of') (hty : (∃ el, P.underlying xt = some (.slice el)) ∨ P.underlying xt = some .string) (hst : ∀ s, v = .pl (.string s) → P.underlying xt = some .string)
    (hr : srcAV te of v = some (ns, ro, p)) (hp : p) (ho : ∀ id ∈ ro, of' id = of id) (hy : Rep e v y) : ∃ us, Src P e.w xt y te.size ns.length us ∧ RepL e ns.flatten us ∧ ∀ r ∈ ns, wid r = te.size := by
  unfold srcAV at hr
  split at hr
  · injection hr with hr
    simp only [Prod.mk.injEq] at hr
    obtain ⟨rfl, rfl, rfl⟩ := hr
    rw [← hp]
    exact src_sl hty hy
  · split at hr <;> try (cases hr; done)
    rename_i d v' rows sh hof
    injection hr with hr
    simp only [Prod.mk.injEq] at hr
    obtain ⟨rfl, rfl, rfl⟩ := hr
    obtain ⟨rfl, rfl, hw, hn⟩ := hp
    rw [← hw]
    exact src_ow h (by rw [ho _ (by simp)]; exact hof) hty hn hy
  · split at hr <;> try (cases hr; done)
    rename_i l sh hof
    split at hr <;> try (cases hr; done)
    rename_i k es r hd
    injection hr with hr
    simp only [Prod.mk.injEq] at hr
    obtain ⟨rfl, rfl, rfl⟩ := hr
    obtain ⟨rfl, hw, hn⟩ := hp
    rw [hw]
    exact src_bs h (by rw [ho _ (by simp)]; exact hof) hty hd hn hy
  · injection hr with hr
    simp only [Prod.mk.injEq] at hr
    obtain ⟨rfl, rfl, rfl⟩ := hr
    cases hy with | em _ =>
    exact ⟨[], src_nil hty, .nil, fun r hr => by cases hr⟩
  · injection hr with hr
    simp only [Prod.mk.injEq] at hr
    obtain ⟨rfl, rfl, rfl⟩ := hr
    have e1 := rep_pl_inv hy
    subst e1
    subst hp
    exact ⟨[], src_nil hty, .nil, fun r hr => by cases hr⟩
  · rename_i s
    injection hr with hr
    simp only [Prod.mk.injEq] at hr
    obtain ⟨rfl, rfl, rfl⟩ := hr
    have e1 := rep_pl_inv hy
    subst e1
    rw [hp]
    refine ⟨_, by simpa using src_str (P := P) (w := e.w) (s := s) (hst s rfl), ?_, fun r hr => ?_⟩
    · rw [bytes_flatten]; exact repL_bytes e _
    · obtain ⟨b, -, rfl⟩ := List.mem_map.1 hr
      rfl
  · cases hr
/-- append. -/
def dropR (off : Nat) (rows : List (List AV)) : List (List AV) :=
  match off with
  | 0 => rows
  | k + 1 => rows.drop (k + 1)
theorem dropR_eq (off : Nat) (rows : List (List AV)) : dropR off rows = rows.drop off := by cases off <;> simp [dropR]
def appendAV (te : TE) (of : Nat → Option Obj) (nx : Nat) (x y : AV) : Option Out :=
  match srcAV te of y with
  | some (ns, ro, p) =>
    match x with
    | .ow id ver off n z => match of id with
      | some (.row d v rows sh) => some ⟨.ow id (v + 1) 0 (n + ns.length) z, [(id, .row d (v + 1) (dropR off rows ++ ns) sh)], id :: ro, [],
          p ∧ v = ver ∧ z = wid d ∧ wid d = te.size ∧ off + n = rows.length ∧ (n + ns.length) * te.bytes ≤ 140737488355328 ∧ n + ns.length ≤ 4611686018427387904⟩
      | _ => none
    | .em => some ⟨.ow nx 1 0 ns.length te.size, [(nx, .row te.zero 1 ns false)], ro, [nx], p ∧ 0 < te.size ∧ ns ≠ [] ∧ ns.length * te.bytes ≤ 140737488355328 ∧ ns.length ≤ 4611686018427387904⟩
    | .pl (.slice none n k) => some ⟨.ow nx 1 0 ns.length te.size, [(nx, .row te.zero 1 ns false)], ro, [nx], p ∧ 0 < te.size ∧ n = 0 ∧ k = 0 ∧ ns.length * te.bytes ≤ 140737488355328 ∧ ns.length ≤ 4611686018427387904⟩
    | _ => none
  | none => none
theorem appendAV_ok {t xt ty el : TypeId} {te : TE} {of' : Nat → Option Obj} {nx : Nat} {u v : AV} {x y : Value} {out : Out} (h : OSim c e of') (ht : P.underlying t = some (.slice el)) (hel : TEok P el te)
    (hty : (∃ el, P.underlying xt = some (.slice el)) ∨ P.underlying xt = some .string) (hst : ∀ s, v = .pl (.string s) → P.underlying xt = some .string)
    (hr : appendAV te of nx u v = some out) (hp : out.pre) (ho : ∀ id ∈ out.ro, of' id = of id) (hnw : ∀ id ∈ out.nw, ¬ e.U id) (hx : Rep e u x) (hy : Rep e v y) :
    Does P (do pure (.value (← Builtin.append_ #[t, xt] ty #[x, y]))) e.w (Left c e of' out) := by
  unfold appendAV at hr
  split at hr <;> try (cases hr; done)
  rename_i ns ro p hsrc
  split at hr
  · split at hr <;> try (cases hr; done)
    rename_i id ver off n z _ d v' rows sh hof
    injection hr with hr; subst hr
    obtain ⟨hp, rfl, rfl, hw, hn, hb, h63⟩ := hp
    obtain ⟨us, h1, h2, h3⟩ := srcAV_ok h hty hst hsrc hp (fun id hid => ho id (by simp [hid])) hy
    rw [dropR_eq]
    exact law_append h ht hel (by rw [ho _ (by simp)]; exact hof) hw hn hx h1 h2 (fun r hr => by rw [hw]; exact h3 r hr) hb h63
  · injection hr with hr; subst hr
    obtain ⟨hp, hz, hne, hb, h63⟩ := hp
    obtain ⟨us, h1, h2, h3⟩ := srcAV_ok h hty hst hsrc hp ho hy
    cases hx with | em _ =>
    exact law_append_nil h ht hel (hnw nx (by simp)) hz h1 h2 h3 (.inr hne) hb h63
  · injection hr with hr; subst hr
    obtain ⟨hp, hz, rfl, rfl, hb, h63⟩ := hp
    obtain ⟨us, h1, h2, h3⟩ := srcAV_ok h hty hst hsrc hp ho hy
    have e1 := rep_pl_inv hx
    subst e1
    exact law_append_nil h ht hel (hnw nx (by simp)) hz h1 h2 h3 (.inl rfl) hb h63
  · cases hr
end Go.Eng

namespace Go.Eng
open Go.RowKit
variable {P : Program} {T : TT} {c : Ctx} {e : Env} {of : Nat → Option Obj}

/-! ### Arrays and structs that are alike -/
def intOf : AV → Int
  | .pl (.int _ i) => i
  | _ => 0
def ints (l : List AV) : List Int := l.map intOf
def isInts (k : IntKind) (l : List AV) : Prop := ∀ v ∈ l, v = .pl (.int k (intOf v))
theorem repL_ints {k : IntKind} : ∀ {l : List AV} {xs : List Value}, RepL e l xs → isInts k l → xs = (ints l).map (Value.int k) := by
  intro l
  induction l with
  | nil => intro xs h _; cases h; rfl
  | cons v r ih =>
    intro xs h hi
    have hv := hi v (by simp)
    rw [hv] at h
    cases h with
    | pl _ h2 =>
      have := ih h2 (fun u hu => hi u (by simp [hu]))
      subst this
      simp [ints]
theorem run_equal_int {t : TypeId} {k : IntKind} (hu : P.underlying t = some (.int k)) (d : Nat) (a b : Int) (w : World) : (Op.equalIn (d + 1) t (.int k a) (.int k b)).run P w = .ok (a == b) w := by
  simp [Op.equalIn, run_under hu]
theorem run_equal_bool {t : TypeId} (hu : P.underlying t = some .bool) (d : Nat) (a b : Bool) (w : World) : (Op.equalIn (d + 1) t (.bool a) (.bool b)).run P w = .ok (a == b) w := by
  simp [Op.equalIn, run_under hu]
theorem run_part_cell {t : TypeId} {te : TE} (ht : TEok P t te) (hagg : te.k.agg = false) {xs : Array Value} {off : Nat} {v : Value} (hx : xs[off]? = some v) (w : World) : (part t xs off).run P w = .ok v w := by
  simp [part, run_agg ht, hagg, hx]
theorem run_items {el : TypeId} {te : TE} {k : IntKind} (ht : TEok P el te) (hagg : te.k.agg = false) (hu : P.underlying el = some (.int k)) {xs ys : Array Value} {as bs : List Int} (hx : xs.toList = as.map (Value.int k)) (hy : ys.toList = bs.map (Value.int k)) (d : Nat) (w : World) :
    ∀ (is : List Nat), (∀ i ∈ is, i < as.length ∧ i < bs.length) → (Op.eqItems (d + 1) el 1 xs ys is).run P w = .ok (is.all fun i => as.getD i 0 == bs.getD i 0) w := by
  intro is
  induction is with
  | nil => intro _; simp [Op.eqItems]
  | cons i r ih =>
    intro hall
    obtain ⟨h1, h2⟩ := hall i (by simp)
    have e1 : xs[i * 1]? = some (.int k (as.getD i 0)) := by
      rw [Nat.mul_one, ← Array.getElem?_toList, hx, List.getElem?_map, List.getElem?_eq_getElem h1]
      simp [List.getD, List.getElem?_eq_getElem h1]
    have e2 : ys[i * 1]? = some (.int k (bs.getD i 0)) := by
      rw [Nat.mul_one, ← Array.getElem?_toList, hy, List.getElem?_map, List.getElem?_eq_getElem h2]
      simp [List.getD, List.getElem?_eq_getElem h2]
    have ih' := ih (fun j hj => hall j (by simp [hj]))
    simp only [Op.eqItems, Sem.run_bind, run_part_cell ht hagg e1, run_part_cell ht hagg e2, run_equal_int hu, Result.andThen_ok, List.all_cons]
    cases hb : as.getD i 0 == bs.getD i 0
    · simp
    · simpa using ih'
theorem all_range_getD {as bs : List Int} {n : Nat} (ha : as.length = n) (hb : bs.length = n) : (List.range n).all (fun i => as.getD i 0 == bs.getD i 0) = (as == bs) := by
  rw [Bool.eq_iff_iff, List.all_eq_true, beq_iff_eq]
  constructor
  · intro h
    apply List.ext_getElem (by omega)
    intro i h1 h2
    have := h i (by simp; omega)
    simpa [List.getD, List.getElem?_eq_getElem h1, List.getElem?_eq_getElem h2] using this
  · rintro rfl i -
    simp
/-- Two arrays of integers. -/
theorem run_equal_arr {t el : TypeId} {te : TE} {k : IntKind} {n : Nat} (hu : P.underlying t = some (.array n el)) (ht : TEok P el te) (hsz : te.size = 1) (hagg : te.k.agg = false) (hk : P.underlying el = some (.int k)) {xs ys : Array Value} {as bs : List Int}
    (hx : xs.toList = as.map (Value.int k)) (hy : ys.toList = bs.map (Value.int k)) (ha : as.length = n) (hb : bs.length = n) (d : Nat) (w : World) : (Op.equalIn (d + 2) t (.agg xs) (.agg ys)).run P w = .ok (as == bs) w := by
  obtain ⟨i, dd, z, h1, h2, h3, _⟩ := ht.fits
  have hc : P.cellsOf el = 1 := by
    have := run_size ht w
    rw [run_sizeOf w h1] at this
    injection this with this _
    omega
  rw [run_equalIn_array w (d + 1) xs ys hu h1, hc, run_items ht hagg hk hx hy d w _ (fun i hi => by rw [List.mem_range] at hi; omega), all_range_getD ha hb]
def eqFs (T : TT) : List (Nat × Nat) → Nat → List AV → List AV → Option (Bool × Prop)
  | [], _, _, _ => some (true, True)
  | (off, t) :: r, o, u :: l, v :: m =>
    match T t with
    | some te => match te.k, u, v with
      | .int k, .pl (.int k1 a), .pl (.int k2 b) => match eqFs T r (o + 1) l m with
        | some (x, p) => if off = o then some (a == b && x, k1 = k ∧ k2 = k ∧ p) else none
        | none => none
      | .arr n el, .ar n1 es, .ar n2 fs => match T el with
        | some tel => match tel.k with
          | .int k => match eqFs T r (o + n) l m with
            | some (x, p) => if off = o ∧ tel.size = 1 ∧ te.size = n then some (ints es == ints fs && x, n1 = n ∧ n2 = n ∧ isInts k es ∧ isInts k fs ∧ p) else none
            | none => none
          | _ => none
        | none => none
      | _, _, _ => none
    | none => none
  | _, _, _, _ => none
theorem fits_int {t : Nat} {te : TE} {k : IntKind} (h : TEok P t te) (hk : te.k = .int k) : P.underlying t = some (.int k) ∧ te.k.agg = false := by
  obtain ⟨i, d, z, h1, h2, h3, h4, h5, _⟩ := h.fits
  rw [hk] at h5
  cases d <;> simp only [TK.fits] at h5
  subst h5
  exact ⟨h2, by rw [hk]; rfl⟩
theorem fits_arr {t n el : Nat} {te : TE} (h : TEok P t te) (hk : te.k = .arr n el) : P.underlying t = some (.array n el) ∧ te.k.agg = true := by
  obtain ⟨i, d, z, h1, h2, h3, h4, h5, _⟩ := h.fits
  rw [hk] at h5
  cases d <;> simp only [TK.fits] at h5
  obtain ⟨rfl, rfl⟩ := h5
  exact ⟨h2, by rw [hk]; rfl⟩
theorem fits_struct {t : Nat} {fs : List (Nat × Nat)} {te : TE} (h : TEok P t te) (hk : te.k = .struct fs) : ∃ gs : Array Field, P.underlying t = some (.struct gs) ∧ gs.toList.map (fun f => (f.offset, f.type)) = fs := by
  obtain ⟨i, d, z, h1, h2, h3, h4, h5, _⟩ := h.fits
  rw [hk] at h5
  cases d <;> simp only [TK.fits] at h5
  exact ⟨_, h2, h5⟩
theorem extract_mid {xs : Array Value} {pre ys zs : List Value} (h : xs.toList = pre ++ ys ++ zs) : (xs.extract pre.length (pre.length + ys.length)).toList = ys := by
  rw [Array.toList_extract, h, List.extract_eq_take_drop, List.append_assoc, List.drop_left]
  simp
theorem eqFs_ok (hT : T.OK P) {xs ys : Array Value} (w : World) (d : Nat) : ∀ (gs : List Field) (o : Nat) (l m : List AV) (x : Bool) (p : Prop) (p1 p2 us vs : List Value), (∀ f ∈ gs, f.name ≠ "_") →
    eqFs T (gs.map fun f => (f.offset, f.type)) o l m = some (x, p) → p → xs.toList = p1 ++ us → ys.toList = p2 ++ vs → p1.length = o → p2.length = o → RepL e l us → RepL e m vs →
    (Op.eqFields (d + 2) xs ys gs).run P w = .ok x w := by
  intro gs
  induction gs with
  | nil =>
    intro o l m x p p1 p2 us vs _ h _ _ _ _ _ _ _
    simp only [List.map_nil, eqFs, Option.some.injEq, Prod.mk.injEq] at h
    rw [← h.1]
    simp [Op.eqFields]
  | cons f r ih =>
    intro o l m x p p1 p2 us vs hnm h hp hxs hys ho1 ho2 hl hm
    have hf := hnm f (by simp)
    simp only [List.map_cons] at h
    cases l with
    | nil => simp [eqFs] at h
    | cons u l =>
    cases m with
    | nil => simp [eqFs] at h
    | cons v m =>
    simp only [eqFs] at h
    split at h <;> try (cases h; done)
    rename_i te hte
    have hok := hT _ _ hte
    split at h <;> try (cases h; done)
    · rename_i k k1 a k2 b hk
      split at h <;> try (cases h; done)
      rename_i x' p' hrec
      split at h <;> try (cases h; done)
      rename_i hoff
      simp only [Option.some.injEq, Prod.mk.injEq] at h
      obtain ⟨rfl, rfl⟩ := h
      obtain ⟨rfl, rfl, hp'⟩ := hp
      obtain ⟨hu, hagg⟩ := fits_int hok hk
      cases hl with | pl _ hl =>
      cases hm with | pl _ hm =>
      have e1 : xs[f.offset]? = some (.int k2 a) := by rw [← Array.getElem?_toList, hxs, hoff, ← ho1]; simp
      have e2 : ys[f.offset]? = some (.int k2 b) := by rw [← Array.getElem?_toList, hys, hoff, ← ho2]; simp
      have := ih (o + 1) l m x' p' (p1 ++ [.int k2 a]) (p2 ++ [.int k2 b]) _ _ (fun g hg => hnm g (by simp [hg])) hrec hp' (by rw [hxs]; simp) (by rw [hys]; simp) (by simp [ho1]) (by simp [ho2]) hl hm
      simp only [Op.eqFields, hf, ne_eq, not_false_eq_true, if_true, Sem.run_bind, run_part_cell hok hagg e1, run_part_cell hok hagg e2, run_equal_int hu, Result.andThen_ok]
      cases a == b
      · simp
      · simpa using this
    · rename_i n el n1 es n2 fs hk
      split at h <;> try (cases h; done)
      rename_i tel htel
      have hoke := hT _ _ htel
      split at h <;> try (cases h; done)
      rename_i k hke
      split at h <;> try (cases h; done)
      rename_i x' p' hrec
      split at h <;> try (cases h; done)
      rename_i hc
      obtain ⟨hoff, hsz1, hszn⟩ := hc
      simp only [Option.some.injEq, Prod.mk.injEq] at h
      obtain ⟨rfl, rfl⟩ := h
      obtain ⟨rfl, rfl, hi1, hi2, hp'⟩ := hp
      obtain ⟨hu, hagg⟩ := fits_arr hok hk
      obtain ⟨hue, hagge⟩ := fits_int hoke hke
      obtain ⟨as, us', rfl, q1, q2, q3, q4⟩ := ar_head hl
      obtain ⟨bs, vs', rfl, r1, r2, r3, r4⟩ := ar_head hm
      have ea := repL_ints q1 hi1
      have eb := repL_ints r1 hi2
      have e1 : (part f.type xs f.offset).run P w = .ok (.agg (xs.extract f.offset (f.offset + te.size))) w := by simp [part, run_agg hok, hagg, run_size hok]
      have e2 : (part f.type ys f.offset).run P w = .ok (.agg (ys.extract f.offset (f.offset + te.size))) w := by simp [part, run_agg hok, hagg, run_size hok]
      have ex : (xs.extract f.offset (f.offset + te.size)).toList = (ints es).map (Value.int k) := by
        rw [hoff, hszn, ← ea]
        have := extract_mid (xs := xs) (pre := p1) (ys := as) (zs := us') (by rw [hxs, List.append_assoc])
        rw [ho1, q2] at this
        exact this
      have ey : (ys.extract f.offset (f.offset + te.size)).toList = (ints fs).map (Value.int k) := by
        rw [hoff, hszn, ← eb]
        have := extract_mid (xs := ys) (pre := p2) (ys := bs) (zs := vs') (by rw [hys, List.append_assoc])
        rw [ho2, r2] at this
        exact this
      have la : (ints es).length = n2 := by rw [ea, List.length_map] at q2; exact q2
      have lb : (ints fs).length = n2 := by rw [eb, List.length_map] at r2; exact r2
      have e3 := run_equal_arr hu hoke hsz1 hagge hue ex ey la lb d w
      have := ih (o + n2) l m x' p' (p1 ++ as) (p2 ++ bs) _ _ (fun g hg => hnm g (by simp [hg])) hrec hp' (by rw [hxs]; simp) (by rw [hys]; simp) (by simp [ho1, q2]) (by simp [ho2, r2]) q3 r3
      simp only [Op.eqFields, hf, ne_eq, not_false_eq_true, if_true, Sem.run_bind, e1, e2, e3, Result.andThen_ok]
      cases ints es == ints fs
      · simp
      · simpa using this
/-- Whether two values are alike. -/
def eqAV (T : TT) (te : TE) : AV → AV → Option (Bool × Prop)
  | .pl (.bool a), .pl (.bool b) => some (a == b, te.k = .bool)
  | .ag l, .ag m => match te.k, l, m with
    | .arr n el, [.ar n1 es], [.ar n2 fs] => match T el with
      | some tel => match tel.k with
        | .int k => if tel.size = 1 ∧ te.eq = true then some (ints es == ints fs, n1 = n ∧ n2 = n ∧ isInts k es ∧ isInts k fs) else none
        | _ => none
      | none => none
    | .struct fs, l, m => if te.eq = true then eqFs T fs 0 l m else none
    | _, _, _ => none
  | _, _ => none
theorem run_guard_agg {op : BinOp} {t : TypeId} {x y : Operand} {a b : Array Value} {w : World} (h : P.eqGuardType P.depth t = false) : (eqGuard op t x y (.agg a) (.agg b)).run P w = .ok () w := by
  unfold eqGuard
  cases op <;> simp [h]
theorem run_equalAV (hT : T.OK P) {t : Nat} {te : TE} (ht : T t = some te) {u v : AV} {a b : Value} {r : Bool} {p : Prop} (hr : eqAV T te u v = some (r, p)) (hp : p) (hx : Rep e u a) (hy : Rep e v b) (w : World) :
    (Op.equal t a b).run P w = .ok r w ∧ (∀ op x y, (eqGuard op t x y a b).run P w = .ok () w) ∧ ((∃ p q, a = .bool p ∧ b = .bool q) ∨ ∃ p q, a = .agg p ∧ b = .agg q) := by
  have hok := hT _ _ ht
  unfold eqAV at hr
  split at hr
  · injection hr with hr
    simp only [Prod.mk.injEq] at hr
    obtain ⟨rfl, rfl⟩ := hr
    have e1 := rep_pl_inv hx
    have e2 := rep_pl_inv hy
    subst e1; subst e2
    obtain ⟨i, d, z, h1, h2, h3, h4, h5, _⟩ := hok.fits
    rw [hp] at h5
    cases d <;> simp only [TK.fits] at h5
    exact ⟨run_equal_bool h2 9999 _ _ w, fun op x y => run_eqGuard rfl (by simp), .inl ⟨_, _, rfl, rfl⟩⟩
  · rename_i l m
    obtain ⟨xs, rfl, hl⟩ := hx
    obtain ⟨ys, rfl, hm⟩ := hy
    split at hr
    · rename_i n el n1 es n2 fs hk
      split at hr <;> try (cases hr; done)
      rename_i tel htel
      split at hr <;> try (cases hr; done)
      rename_i k hke
      split at hr <;> try (cases hr; done)
      rename_i hc
      injection hr with hr
      simp only [Prod.mk.injEq] at hr
      obtain ⟨rfl, rfl⟩ := hr
      obtain ⟨rfl, rfl, hi1, hi2⟩ := hp
      have hoke := hT _ _ htel
      obtain ⟨hu, hagg⟩ := fits_arr hok hk
      obtain ⟨hue, hagge⟩ := fits_int hoke hke
      obtain ⟨as, us', e1, q1, q2, q3, q4⟩ := ar_head hl
      obtain ⟨bs, vs', e2, r1, r2, r3, r4⟩ := ar_head hm
      cases q3; cases r3
      rw [List.append_nil] at e1 e2
      have ea := repL_ints q1 hi1
      have eb := repL_ints r1 hi2
      have la : (ints es).length = n2 := by rw [ea, List.length_map] at q2; exact q2
      have lb : (ints fs).length = n2 := by rw [eb, List.length_map] at r2; exact r2
      exact ⟨run_equal_arr hu hoke hc.1 hagge hue (by rw [e1, ea]) (by rw [e2, eb]) la lb 9998 w, fun op x y => run_guard_agg (hok.eqok hc.2).1, .inr ⟨_, _, rfl, rfl⟩⟩
    · rename_i fs _ _ hk
      split at hr <;> try (cases hr; done)
      rename_i hc
      obtain ⟨gs, hu, hgs⟩ := fits_struct hok hk
      obtain ⟨g1, g2, g3⟩ := hok.eqok hc
      have hfs : P.fieldsOf t = gs := by simp [Program.fieldsOf, hu]
      have := eqFs_ok hT w 9997 gs.toList 0 _ _ r p [] [] _ _ (g3 _ hu) (by rw [hgs]; exact hr) hp rfl rfl rfl rfl hl hm
      refine ⟨?_, fun op x y => run_guard_agg g1, .inr ⟨_, _, rfl, rfl⟩⟩
      show (Op.equalIn (9999 + 1) t _ _).run P w = _
      rw [run_equalIn_struct w 9999 t xs ys (by rw [hfs]; exact hu) g2, hfs]
      exact this
    · cases hr
  · cases hr
theorem eqAV_ok (hT : T.OK P) {t : Nat} {te : TE} (ht : T t = some te) {x y : Operand} {u v : AV} {a b : Value} {r : Bool} {p q : Prop} (h : OSim c e of) (hr : eqAV T te u v = some (r, p)) (hp : p) (hx : Rep e u a) (hy : Rep e v b) {ro : List Nat} (op : BinOp) (hop : op = .eql ∨ op = .neq) :
    Does P (do pure (.value (← (do eqGuard op t x y a b; binOp op t a b)))) e.w (Left c e of ⟨.pl (.bool (if op matches .eql then r else !r)), [], ro, [], q⟩) := by
  obtain ⟨h1, h2, h3⟩ := run_equalAV hT ht hr hp hx hy e.w
  refine does_value (x := .bool (if op matches .eql then r else !r)) (w' := e.w) ?_ (left_same h (rep_pl rfl))
  rcases h3 with ⟨a, b, rfl, rfl⟩ | ⟨a, b, rfl, rfl⟩ <;> rcases hop with rfl | rfl <;> simp [h2, binOp, h1]
theorem repL_set {k : Nat} {v : AV} {y : Value} : ∀ {es : List AV} {ys : List Value}, RepL e es ys → (∀ v ∈ es, scalar v = true) → k < es.length → RepL e [v] [y] → scalar v = true → RepL e (es.set k v) (ys.set k y) := by
  induction k with
  | zero =>
    intro es ys h hs hk hv hsv
    cases es with
    | nil => simp at hk
    | cons u r =>
      obtain ⟨as, bs, rfl, q1, q2⟩ := RepL.split [u] h
      have h1 := q1.length
      rw [wid_scalars [u] (by simpa using hs u (by simp))] at h1
      obtain ⟨a, rfl⟩ := List.length_eq_one_iff.1 h1
      exact hv.append q2
  | succ k ih =>
    intro es ys h hs hk hv hsv
    cases es with
    | nil => simp at hk
    | cons u r =>
      obtain ⟨as, bs, rfl, q1, q2⟩ := RepL.split [u] h
      have h1 := q1.length
      rw [wid_scalars [u] (by simpa using hs u (by simp))] at h1
      obtain ⟨a, rfl⟩ := List.length_eq_one_iff.1 h1
      exact q1.append (ih q2 (fun w hw => hs w (by simp [hw])) (by simpa using hk) hv hsv)
/-- An array of scalars, built. -/
theorem fillE_spec {n : Nat} : ∀ {parts : List (Nat × AV)} {vals : List (Nat × Value)} {es es' : List AV} {cells : Array Value}, RepP e parts vals → (∀ v ∈ es, scalar v = true) → RepL e es cells.toList → cells.size = n → fillE n es parts = some es' →
    ∃ cells' : Array Value, Instr.fill (fun i => some (i * 1, 1)) cells vals = some cells' ∧ RepL e es' cells'.toList ∧ (∀ v ∈ es', scalar v = true) ∧ cells'.size = n := by
  intro parts
  induction parts with
  | nil =>
    intro vals es es' cells hp hsc hr hn h
    cases hp
    simp only [fillE, Option.some.injEq] at h
    subst h
    exact ⟨cells, rfl, hr, hsc, hn⟩
  | cons p rest ih =>
    intro vals es es' cells hp hsc hr hn h
    cases hp with
    | @cons i v x r s hv hrest =>
    simp only [fillE] at h
    split at h <;> try (cases h; done)
    rename_i hc
    obtain ⟨hi, hs, hpc⟩ := hc
    have hcl : es.length = n := by rw [← wid_scalars es hsc, ← hr.length, Array.length_toList]; exact hn
    have hpv : pieces v = some [v] := by cases v <;> first | rfl | (simp [scalar] at hs; done) | (simp [pieces] at hpc; done)
    have hrv := pieces_spec hv hpv
    have hlen := hrv.length
    have hw1 : wid [v] = 1 := wid_scalars [v] (by simpa using hs)
    rw [hw1] at hlen
    rw [Array.length_toList] at hlen
    obtain ⟨y, hy⟩ := List.length_eq_one_iff.1 (by rw [Array.length_toList]; exact hlen : x.cells.toList.length = 1)
    rw [hy] at hrv
    obtain ⟨cells', f1, f2⟩ := fill_one (place := fun i => some (i * 1, 1)) (cells := cells) (i := i) (off := i) (size := 1) (rest := s) (v := x) (by simp) hlen (by omega)
    have hset : RepL e (es.set i v) (cells.toList.set i y) := repL_set hr hsc (by omega) hrv hs
    have hc' : cells'.toList = cells.toList.set i y := by
      rw [f2, hy, List.set_eq_take_append_cons_drop, if_pos (by rw [Array.length_toList]; omega), List.append_assoc]; rfl
    have hsz' : cells'.size = n := by rw [← Array.length_toList, hc', List.length_set, Array.length_toList]; exact hn
    obtain ⟨c2, g1, g2, g3, g4⟩ := ih hrest (fun u hu => by rcases List.mem_or_eq_of_mem_set hu with hu | rfl; exact hsc u hu; exact hs) (by rw [hc']; exact hset) hsz' h
    exact ⟨c2, by rw [f1]; exact g1, g2, g3, g4⟩
theorem law_build_arr {t el n : Nat} {te tel : TE} (h : OSim c e of) (ht : TEok P t te) (hk : te.k = .arr n el) (hel : TEok P el tel) (hsz : tel.size = 1) {z0 : List AV} (hz : te.zero = [.ar n z0]) {parts : List (Nat × AV)} {vals : List (Nat × Value)} (hp : RepP e parts vals)
    {es : List AV} (hes : fillE n z0 parts = some es) {ro : List Nat} {p : Prop} : Does P (do pure (.value (← Instr.build t vals.toArray))) e.w (Left c e of ⟨.ag [.ar n es], [], ro, [], p⟩) := by
  obtain ⟨i, d, z, h1, h2, h3, h4, h5, h6, h7, h8⟩ := ht.fits
  rw [hk] at h5
  cases d <;> simp only [TK.fits] at h5
  obtain ⟨rfl, rfl⟩ := h5
  have hzr := flat_spec e _ _ h7
  rw [hz] at hzr
  obtain ⟨ys, zs, e1, q1, q2, q3, q4⟩ := ar_head hzr
  cases q3
  rw [List.append_nil] at e1
  rw [← e1] at q1 q2
  obtain ⟨cells, g1, g2, g3, g4⟩ := fillE_spec (n := n) hp q4 q1 (by rw [← Array.length_toList]; exact q2) hes
  have hzv : (zeroValue t).run P e.w = .ok z e.w := by simp [zeroValue, run_info h1, h6]
  have hrep : RepL e [.ar n es] cells.toList := by
    have := RepL.ar (r := []) (xs := []) (n := n) g2 ⟨by rw [Array.length_toList]; exact g4, g3⟩ .nil
    rwa [List.append_nil] at this
  refine does_value (x := .agg cells) (w' := e.w) ?_ (left_same h (v := .ag [.ar n es]) (show Rep1 e (.ag [.ar n es]) (.agg cells) from ⟨cells, rfl, hrep⟩))
  simp only [Nat.mul_one] at g1
  simp [Instr.build, hzv, run_under h2, run_size hel, hsz, g1]
end Go.Eng
