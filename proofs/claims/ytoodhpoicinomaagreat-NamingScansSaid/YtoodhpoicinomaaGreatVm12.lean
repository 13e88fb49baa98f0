/- What the operations of a program do, shown once for all programs; and numbers. -/
import Derived.Test.YtoodhpoicinomaaGreatVm11
import Derived.Test.YtoodhpoicinomaaGreatVm8
import Derived.Maps.RangeRun
import Derived.WalkKit
set_option linter.constructorNameAsVariable false
set_option linter.unusedVariables false
set_option linter.unusedSimpArgs false
noncomputable section
namespace Go.Vm
open Go.RowKit
variable {P : Program} {T : TT} {R : Type}
inductive D where
  | int (k : IntKind) | bool | str | slice (d : D) | arr (n : Nat) (d : D) | struct (ds : List D)
mutual
def D.has : D → V → Prop
  | .int k, x => ∃ n, x = .i n ∧ inR k n
  | .bool, x => ∃ b, x = .b b
  | .str, x => ∃ ns : List Nat, x = .s (ns.map nv) ∧ ∀ a ∈ ns, a < 256
  | .slice d, x => x = .n ∨ ∃ ys, x = .l ys ∧ ∀ y ∈ ys, D.has d y
  | .arr n d, x => ∃ ys, x = .l ys ∧ ys.length = n ∧ ∀ y ∈ ys, D.has d y
  | .struct ds, x => ∃ ys, x = .l ys ∧ D.hasL ds ys
def D.hasL : List D → List V → Prop
  | [], [] => True
  | d :: ds, x :: xs => D.has d x ∧ D.hasL ds xs
  | _, _ => False
end
mutual
def descT (T : TT) : Nat → Nat → Option D
  | 0, _ => none
  | n + 1, t => match kOf T t with
    | some (.int k) => some (.int k)
    | some .bool => some .bool
    | some .str => some .str
    | some (.slice el) => match descT T n el with
      | some d => some (.slice d)
      | none => none
    | some (.arr m el) => match descT T n el with
      | some d => some (.arr m d)
      | none => none
    | some (.struct fs) => match descL T n fs with
      | some ds => some (.struct ds)
      | none => none
    | _ => none
def descL (T : TT) : Nat → List Nat → Option (List D)
  | _, [] => some []
  | 0, _ :: _ => none
  | n + 1, t :: ts => match descT T n t with
    | some d => match descL T n ts with
      | some ds => some (d :: ds)
      | none => none
    | none => none
end
theorem rv_cons {e : Env} {t : Nat} {ts : List Nat} {xs : List V} {cs : List Value} (h : RV T e (t :: ts) xs cs) : ∃ x r c1 c2, xs = x :: r ∧ RV T e [t] [x] c1 ∧ RV T e ts r c2 := by
  obtain ⟨as, bs, c1, c2, rfl, rfl, h1, h2⟩ := RV.split [t] (ts' := ts) h
  obtain ⟨a, rfl⟩ := List.length_eq_one_iff.1 h1.length.2
  exact ⟨a, bs, c1, c2, rfl, h1, h2⟩
theorem rv_rep {e : Env} {el : Nat} {p : V → Prop} (hp : ∀ x cs, RV T e [el] [x] cs → p x) : ∀ {n : Nat} {xs : List V} {cs : List Value}, RV T e (List.replicate n el) xs cs → ∀ x ∈ xs, p x := by
  intro n
  induction n with
  | zero => intro xs cs h x hx; cases h; cases hx
  | succ n ih =>
    intro xs cs h x hx
    rw [List.replicate_succ] at h
    obtain ⟨y, r, c1, c2, rfl, h1, h2⟩ := rv_cons h
    rcases List.mem_cons.1 hx with rfl | hx
    · exact hp _ _ h1
    · exact ih h2 x hx
theorem desc_has : ∀ (n : Nat) {e : Env}, (∀ (t : Nat) (d : D), descT T n t = some d → ∀ x cs, RV T e [t] [x] cs → d.has x) ∧ (∀ (ts : List Nat) (ds : List D), descL T n ts = some ds → ∀ xs cs, RV T e ts xs cs → D.hasL ds xs) := by
  intro n
  induction n with
  | zero =>
    intro e
    refine ⟨fun t d h => (by rw [descT] at h; cases h), fun ts ds h xs cs hx => ?_⟩
    cases ts with
    | nil => rw [descL] at h; cases h; cases hx; trivial
    | cons t ts => rw [descL] at h; cases h
  | succ n ih =>
    intro e
    refine ⟨fun t d h x cs hx => ?_, fun ts ds h xs cs hx => ?_⟩
    · rw [descT] at h
      split at h
      · rename_i k hk; cases h; obtain ⟨m, rfl, _, hr⟩ := hx.int_inv hk; exact ⟨m, rfl, hr⟩
      · rename_i hk; cases h
        cases hx with
        | bool _ _ _ => exact ⟨_, rfl⟩
        | int g1 => rw [hk] at g1; cases g1
        | str g1 => rw [hk] at g1; cases g1
        | ptr g1 => rw [hk] at g1; cases g1
        | nils g1 => rw [hk] at g1; cases g1
        | map g1 => rw [hk] at g1; cases g1
        | func g1 => rw [hk] at g1; cases g1
        | fn g1 => rw [hk] at g1; cases g1
        | slice g1 => rw [hk] at g1; cases g1
        | arr g1 => rw [hk] at g1; cases g1
        | struct g1 => rw [hk] at g1; cases g1
      · rename_i hk; cases h
        cases hx with
        | @str _ s _ _ _ _ _ _ =>
          refine ⟨s.data.toList.map fun b => b.toNat, ?_, fun a ha => ?_⟩
          · unfold txt; rw [List.map_map]; rfl
          · obtain ⟨b, _, rfl⟩ := List.mem_map.1 ha; exact b.toNat_lt
        | int g1 => rw [hk] at g1; cases g1
        | bool g1 => rw [hk] at g1; cases g1
        | ptr g1 => rw [hk] at g1; cases g1
        | nils g1 => rw [hk] at g1; cases g1
        | map g1 => rw [hk] at g1; cases g1
        | func g1 => rw [hk] at g1; cases g1
        | fn g1 => rw [hk] at g1; cases g1
        | slice g1 => rw [hk] at g1; cases g1
        | arr g1 => rw [hk] at g1; cases g1
        | struct g1 => rw [hk] at g1; cases g1
      · rename_i el hk
        split at h <;> cases h
        rename_i d hd
        rcases hx.slice_inv hk with ⟨rfl, _⟩ | ⟨ys, ds, a, cap, rfl, _, _, _, g⟩
        · exact .inl rfl
        · exact .inr ⟨ys, rfl, rv_rep (fun x cs hx => (ih (e := e)).1 el d hd x cs hx) g⟩
      · rename_i m el hk
        split at h <;> cases h
        rename_i d hd
        obtain ⟨ys, rfl, hl, g⟩ := hx.arr_inv hk
        exact ⟨ys, rfl, hl, rv_rep (fun x cs hx => (ih (e := e)).1 el d hd x cs hx) g⟩
      · rename_i fs hk
        split at h <;> cases h
        rename_i ds hd
        obtain ⟨ys, rfl, g⟩ := hx.struct_inv hk
        exact ⟨ys, rfl, (ih (e := e)).2 fs ds hd _ _ g⟩
      · cases h
    · cases ts with
      | nil => rw [descL] at h; cases h; cases hx; trivial
      | cons t ts =>
        rw [descL] at h
        split at h <;> try (cases h; done)
        rename_i d hd
        split at h <;> cases h
        rename_i ds hds
        obtain ⟨x, r, c1, c2, rfl, h1, h2⟩ := rv_cons hx
        exact ⟨(ih (e := e)).1 t d hd _ _ h1, (ih (e := e)).2 ts ds hds _ _ h2⟩
theorem TV.has : ∀ {ts : List Nat} {xs : List V} (n : Nat) {ds : List D}, TV T ts xs → descL T n ts = some ds → D.hasL ds xs := by
  intro ts
  induction ts with
  | nil =>
    intro xs n ds h hd
    have := h.len
    cases xs with
    | nil => cases n <;> (rw [descL] at hd; cases hd; trivial)
    | cons _ _ => cases this
  | cons t ts ih =>
    intro xs n ds h hd
    cases n with
    | zero => rw [descL] at hd; cases hd
    | succ n =>
      rw [descL] at hd
      split at hd <;> try (cases hd; done)
      rename_i d hd1
      split at hd <;> cases hd
      rename_i ds hd2
      cases xs with
      | nil => have := h.len; cases this
      | cons x xs =>
        obtain ⟨e, cs, hx⟩ := h.head
        exact ⟨(desc_has n).1 t d hd1 x cs hx, ih n h.tail hd2⟩
theorem hasL1 {d0 : D} {xs : List V} (h : D.hasL [d0] xs) : ∃ a, xs = [a] ∧ d0.has a := by
  cases xs with
  | nil => exact (h).elim
  | cons x0 r0 =>
  cases r0 with
  | cons _ _ => exact (h.2).elim
  | nil => exact ⟨x0, rfl, h.1⟩
theorem hasL2 {d0 d1 : D} {xs : List V} (h : D.hasL [d0, d1] xs) : ∃ a b, xs = [a, b] ∧ d0.has a ∧ d1.has b := by
  cases xs with
  | nil => exact (h).elim
  | cons x0 r0 =>
  cases r0 with
  | nil => exact (h.2).elim
  | cons x1 r1 =>
  cases r1 with
  | cons _ _ => exact (h.2.2).elim
  | nil => exact ⟨x0, x1, rfl, h.1, h.2.1⟩
theorem hasL3 {d0 d1 d2 : D} {xs : List V} (h : D.hasL [d0, d1, d2] xs) : ∃ a b c, xs = [a, b, c] ∧ d0.has a ∧ d1.has b ∧ d2.has c := by
  cases xs with
  | nil => exact (h).elim
  | cons x0 r0 =>
  cases r0 with
  | nil => exact (h.2).elim
  | cons x1 r1 =>
  cases r1 with
  | nil => exact (h.2.2).elim
  | cons x2 r2 =>
  cases r2 with
  | cons _ _ => exact (h.2.2.2).elim
  | nil => exact ⟨x0, x1, x2, rfl, h.1, h.2.1, h.2.2.1⟩
theorem hasL4 {d0 d1 d2 d3 : D} {xs : List V} (h : D.hasL [d0, d1, d2, d3] xs) : ∃ a b c d, xs = [a, b, c, d] ∧ d0.has a ∧ d1.has b ∧ d2.has c ∧ d3.has d := by
  cases xs with
  | nil => exact (h).elim
  | cons x0 r0 =>
  cases r0 with
  | nil => exact (h.2).elim
  | cons x1 r1 =>
  cases r1 with
  | nil => exact (h.2.2).elim
  | cons x2 r2 =>
  cases r2 with
  | nil => exact (h.2.2.2).elim
  | cons x3 r3 =>
  cases r3 with
  | cons _ _ => exact (h.2.2.2.2).elim
  | nil => exact ⟨x0, x1, x2, x3, rfl, h.1, h.2.1, h.2.2.1, h.2.2.2.1⟩
def gF (g : List V → Bool) (r : List V → List Rs) : FC := fun R xs k => bif g xs then k (r xs) else none
theorem gF_nat (g : List V → Bool) (r : List V → List Rs) : FC.nat (gF g r) := by
  intro R xs k
  unfold gF
  cases g xs <;> rfl
theorem gF_at {g : List V → Bool} {r : List V → List Rs} {xs : List V} {rs : List Rs} (h : gF g r (List Rs) xs some = some rs) : g xs = true ∧ rs = r xs := by
  unfold gF at h
  cases hg : g xs with
  | false => rw [hg] at h; cases h
  | true => rw [hg] at h; simp only [cond_true, Option.some.injEq] at h; exact ⟨rfl, h.symm⟩
theorem pure_conG (hm : P.follows .mixedOrders = true) (hT : TOK T P) {tab : List (Nat × SymC)} (h : TabOK P T tab) {f d fu : Nat} {Lo : Nat → LC} {sh : Bool} {ts : List Nat} {rk : List RK} {g : List V → Bool} {r : List V → List Rs} (hts : ts.all (fun t => (T t).isSome) = true)
    (hL : LoopsC P T f Lo) (n : Nat) {ds : List D} (hd : descL T n ts = some ds)
    (hF : ∀ xs, D.hasL ds xs → g xs = true → runFC P T (runAC P T tab false fu d) Lo false fu f (List Rs) (mkAs T ts xs) (fun _ => none) 0 (fun out => resC T sh rk out) = some (r xs)) :
    TabOK P T ((f, pureS T sh ts (gF g r)) :: tab) :=
  pure_con hm hT h (gF_nat g r) hts hL fun xs rs htv hrs => by
    obtain ⟨h1, rfl⟩ := gF_at hrs
    exact hF xs (htv.has n hd) h1
end Go.Vm

namespace Go.Vm
open Go.RowKit
variable {P : Program} {T : TT} {R : Type}
def txtL (xs : List V) : List V := cntL (xs.length : Nat) ++ xs
theorem wrap_u8 (n : Int) : IntKind.wrap .u8 n = n % 256 := by
  unfold IntKind.wrap
  simp [IntKind.bits, IntKind.signed]
def refB (x : V) : List V := (x.nth 0).els ++ leV 4 (x.nth 1).int
end Go.Vm

namespace Go.Vm
open Go.RowKit
variable {P : Program} {T : TT} {R : Type}
def entB (e : V) : List V := txtL (e.nth 1).els ++ (leV 8 (WU (e.nth 2).int) ++ refB (e.nth 3))
theorem i_next {n : Nat} (h : n < 1000000000) : W64 ((n : Int) + 1) = ((n + 1 : Nat) : Int) := by rw [w64_in (by omega) (by omega)]; omega
abbrev DRef : D := .struct [.arr 32 (.int .u8), .int .u32]
abbrev DEnt : D := .struct [.str, .str, .int .i64, DRef]
theorem ent_v {x : V} (h : DEnt.has x) : ∃ nm v n r, x = .l [.s nm, .s v, .i n, r] ∧ inR .i64 n ∧ DRef.has r := by
  obtain ⟨ys, rfl, hy⟩ := h
  obtain ⟨a, b, c, d, rfl, ⟨na, rfl, _⟩, ⟨nb, rfl, _⟩, ⟨n, rfl, hn⟩, hd⟩ := hasL4 hy
  exact ⟨_, _, n, d, rfl, hn, hd⟩
theorem fq_big : 200000 ≤ hid FU := by rw [hid_eq]; decide
end Go.Vm

namespace Go.Vm
open Go.RowKit
variable {P : Program} {T : TT}
abbrev ML : Nat := 9223372036854775807
mutual
def D.sm : D → V → Prop
  | .str, x => x.els.length ≤ ML
  | .slice d, x => x.els.length ≤ ML ∧ ∀ y ∈ x.els, D.sm d y
  | .arr _ d, x => ∀ y ∈ x.els, D.sm d y
  | .struct ds, x => D.smL ds x.els
  | _, _ => True
def D.smL : List D → List V → Prop
  | d :: ds, x :: xs => D.sm d x ∧ D.smL ds xs
  | _, _ => True
end
theorem TOK.zero (hT : TOK T P) {t : Nat} {k : TK} (hk : kOf T t = some k) (ho : k ≠ .other) : ∃ x cs, ∀ e, RV T e [t] [x] cs := by
  obtain ⟨te, h1, rfl⟩ := kOf_some hk
  obtain ⟨i, d, z, _, _, _, _, _, _, h7, _⟩ := (hT _ _ h1).fits
  rcases h7 with h7 | h7
  · exact ⟨_, _, h7⟩
  · exact absurd h7 ho
theorem RV.sz1 {e : Env} {t : Nat} {x : V} {cs : List Value} {k : TK} (hk : kOf T t = some k) (ha : k.agg = false) (h : RV T e [t] [x] cs) : szT T t = 1 := by
  cases h with
  | int _ h2 => exact h2
  | bool _ h2 => exact h2
  | str _ h2 => exact h2
  | ptr _ h2 => exact h2
  | nils _ h2 => exact h2
  | map _ h2 => exact h2
  | func _ h2 => exact h2
  | fn _ h2 => exact h2
  | slice _ h2 => exact h2
  | arr h1 => rw [hk] at h1; cases h1; cases ha
  | struct h1 => rw [hk] at h1; cases h1; cases ha
def e0 : Env := { w := default, ι := fun _ => none, S := fun _ _ => False, bn := fun _ => 0, U := fun _ => False, ty := fun _ => 0, ln := fun _ => 0, G := fun _ _ => False }
theorem TOK.sz1 (hT : TOK T P) {t : Nat} {k : TK} (hk : kOf T t = some k) (ha : k.agg = false) (ho : k ≠ .other) : szT T t = 1 := by
  obtain ⟨x, cs, h⟩ := hT.zero hk ho
  exact (h e0).sz1 hk ha
theorem TOK.szS (hT : TOK T P) {t : Nat} {fs : List Nat} (hk : kOf T t = some (.struct fs)) : szT T t = szs T fs := by
  obtain ⟨x, cs, h⟩ := hT.zero hk (by intro h; cases h)
  obtain ⟨ys, rfl, g⟩ := (h e0).struct_inv hk
  have h1 := (h e0).length.1
  have h2 := g.length.1
  simp only [szs] at h1; omega
theorem TOK.szA (hT : TOK T P) {t n el : Nat} (hk : kOf T t = some (.arr n el)) : szT T t = n * szT T el := by
  obtain ⟨x, cs, h⟩ := hT.zero hk (by intro h; cases h)
  obtain ⟨ys, rfl, _, g⟩ := (h e0).arr_inv hk
  have h1 := (h e0).length.1
  have h2 := g.length.1
  rw [szs_replicate] at h2
  simp only [szs] at h1; omega
theorem TOK.cells (hT : TOK T P) {t : Nat} {k : TK} (hk : kOf T t = some k) : P.cellsOf t = szT T t := by
  obtain ⟨te, h1, rfl⟩ := kOf_some hk
  obtain ⟨i, d, z, g1, _, g3, _⟩ := (hT _ _ h1).fits
  unfold Program.cellsOf
  rw [g1, szT_of h1, ← g3]; rfl
theorem inR_wf {k : IntKind} {n : Int} (h : (Lit.int k n).wf = true) : inR k n := by
  have : k.min ≤ n ∧ n ≤ k.max := by simpa [Lit.wf, Bool.and_eq_true, decide_eq_true_eq] using h
  cases k <;> simpa [inR, lo, hi, IntKind.min, IntKind.max, IntKind.signed, IntKind.bits] using this
theorem add_add (a : Addr) (p q : Nat) : (a.add p).add q = a.add (p + q) := by
  unfold Addr.add
  by_cases h1 : p = 0
  · subst h1; simp
  · by_cases h2 : q = 0
    · subst h2; simp [h1]
    · simp [h1, h2, show p + q ≠ 0 by omega, Nat.add_assoc]
theorem cells_get {w : World} {b0 : Nat} {a : Addr} {n : Nat} {l : List Value} (h : w.cells? b0 a n = some l) : l.length = n ∧ ∀ k, k < n → w.cell? (a.add k) = l[k]? := by
  unfold World.cells? at h
  split at h <;> try (cases h; done)
  have h1 := mapM_some_length h
  refine ⟨by simpa using h1, fun k hk => ?_⟩
  exact mapM_some_get h k k (by simp [hk])
section
variable {w : World} {H : Type} {enc : TypeId × Value → H}
theorem rv_parts {el : Nat} {e : Env} {q : V → Prop} : ∀ (n : Nat) (cs : List Value), cs.length = n * szT T el → (∀ i, i < n → ∃ y, RV T e [el] [y] ((cs.drop (i * szT T el)).take (szT T el)) ∧ q y) → ∃ ys, ys.length = n ∧ RV T e (List.replicate n el) ys cs ∧ ∀ y ∈ ys, q y := by
  intro n
  induction n with
  | zero =>
    intro cs hl _
    have : cs = [] := List.eq_nil_of_length_eq_zero (by simpa using hl)
    subst this
    exact ⟨[], rfl, .nil, fun y hy => by cases hy⟩
  | succ n ih =>
    intro cs hl hp
    rw [Nat.succ_mul] at hl
    obtain ⟨y, hy, hq⟩ := hp 0 (by omega)
    rw [Nat.zero_mul, List.drop_zero] at hy
    obtain ⟨ys, h1, h2, h3⟩ := ih (cs.drop (szT T el)) (by rw [List.length_drop]; omega) (fun i hi => by
      obtain ⟨z, hz, hqz⟩ := hp (i + 1) (by omega)
      refine ⟨z, ?_, hqz⟩
      rw [List.drop_drop, show szT T el + i * szT T el = (i + 1) * szT T el by rw [Nat.succ_mul]; omega]
      exact hz)
    refine ⟨y :: ys, by simp [h1], ?_, fun z hz => ?_⟩
    · have := RV.append hy h2
      rw [List.take_append_drop] at this
      exact this
    · rcases List.mem_cons.1 hz with rfl | hz
      · exact hq
      · exact h3 z hz
theorem rv_fields {e : Env} : ∀ (fs : List Nat) (n : Nat) (ds : List D) (cs : List Value), descL T n fs = some ds → cs.length = szs T fs → (∀ (j f m : Nat) (d : D), m ≤ n → fs[j]? = some f → descT T m f = some d → ∃ y, RV T e [f] [y] ((cs.drop (szs T (fs.take j))).take (szT T f)) ∧ d.sm y) → ∃ ys, RV T e fs ys cs ∧ D.smL ds ys := by
  intro fs
  induction fs with
  | nil =>
    intro n ds cs hd hl _
    have : cs = [] := List.eq_nil_of_length_eq_zero hl
    subst this
    rw [descL] at hd; cases hd
    exact ⟨[], .nil, trivial⟩
  | cons f r ih =>
    intro n ds cs hd hl hp
    cases n with
    | zero => rw [descL] at hd; cases hd
    | succ n =>
    rw [descL] at hd
    split at hd <;> try (cases hd; done)
    rename_i d hd1
    split at hd <;> cases hd
    rename_i ds' hds
    simp only [szs] at hl
    obtain ⟨y, hy, hq⟩ := hp 0 f n d (by omega) rfl hd1
    simp only [List.take_zero, szs, List.drop_zero] at hy
    obtain ⟨ys, h2, h3⟩ := ih n ds' (cs.drop (szT T f)) hds (by rw [List.length_drop]; omega) (fun j g m d' hm hj hd' => by
      obtain ⟨z, hz, hqz⟩ := hp (j + 1) g m d' (by omega) (by simpa using hj) hd'
      refine ⟨z, ?_, hqz⟩
      rw [List.drop_drop]
      simpa only [List.take_succ_cons, szs] using hz)
    refine ⟨y :: ys, ?_, hq, h3⟩
    have := RV.append hy h2
    rw [List.take_append_drop] at this
    exact this
theorem trod_rv (hT : TOK T P) : ∀ (n m : Nat), m ≤ n → ∀ (t : Nat) (d : D), descT T m t = some d → ∀ (fuel : Nat) (cs : List Value) (x : DataW H × List MemPlace), DataW.trod enc P w 0 (fun _ => true) true fuel t cs = some x → ∃ y, RV T (base w) [t] [y] cs ∧ d.sm y := by
  intro n
  induction n with
  | zero => intro m hm t d h; obtain rfl : m = 0 := by omega
            rw [descT] at h; cases h
  | succ n ih =>
    intro m hm t d h fuel cs x hx
    cases m with
    | zero => rw [descT] at h; cases h
    | succ m =>
    have hm : m ≤ n := by omega
    rw [descT] at h
    split at h
    · rename_i k hk
      obtain ⟨te, h1, h2⟩ := kOf_some hk
      obtain ⟨v, rfl, _, hw⟩ := DataW.trod_int (under_int (hT _ _ h1) h2) hx
      cases h; exact ⟨.i v, .int hk (hT.sz1 hk rfl (by intro h; cases h)) (inR_wf hw) .nil, trivial⟩
    · rename_i hk
      obtain ⟨te, h1, h2⟩ := kOf_some hk
      obtain ⟨b, rfl, _⟩ := DataW.trod_bool (under_bool (hT _ _ h1) h2) hx
      cases h; exact ⟨.b b, .bool hk (hT.sz1 hk rfl (by intro h; cases h)) .nil, trivial⟩
    · rename_i hk
      obtain ⟨te, h1, h2⟩ := kOf_some hk
      obtain ⟨s, rfl, _, hsz⟩ := DataW.trod_string (under_str (hT _ _ h1) h2) hx
      cases h
      refine ⟨.s (txt s), .str hk (hT.sz1 hk rfl (by intro h; cases h)) .nil, ?_⟩
      show (txt s).length ≤ ML
      unfold txt
      rw [List.length_map, Array.length_toList]
      exact Nat.le_trans hsz (by decide)
    · rename_i el hk
      split at h <;> cases h
      rename_i d hd
      obtain ⟨te, h1, h2⟩ := kOf_some hk
      have hz1 := hT.sz1 hk rfl (by intro h; cases h)
      rcases DataW.trod_slice (under_slice (hT _ _ h1) h2) hx with ⟨rfl, _⟩ | ⟨a, len, cap, elems, rest, k, _, rfl, _, _, hcap, hmx, hel, he, _, _⟩
      · exact ⟨.n, .nils hk hz1 .nil, Nat.zero_le _, fun y hy => by cases hy⟩
      · have hsz : P.cellsOf el = szT T el := by
          cases hke : kOf T el with
          | none => cases m with
            | zero => rw [descT] at hd; cases hd
            | succ m => rw [descT, hke] at hd; cases hd
          | some ke => exact hT.cells hke
        rw [hsz] at he
        have key : ∀ i, i < len → ∃ l y, l.length = szT T el ∧ (∀ k, k < szT T el → w.cell? (a.add (i * szT T el + k)) = l[k]?) ∧ RV T (base w) [el] [y] l ∧ d.sm y := fun i hi => by
          have h3 := he i hi
          rw [List.getElem?_eq_getElem (by omega)] at h3
          obtain ⟨l, g1, g2⟩ := Option.bind_eq_some_iff.1 h3
          obtain ⟨g3, g4⟩ := cells_get g1
          obtain ⟨y, hy, hq⟩ := ih m hm el d hd _ _ _ g2
          exact ⟨l, y, g3, fun k hk => by rw [← g4 k hk, add_add], hy, hq⟩
        have hcell : ∀ j, j < len * szT T el → ∃ v, w.cell? (a.add j) = some v := fun j hj => by
          have hpos : 0 < szT T el := by
            rcases Nat.eq_zero_or_pos (szT T el) with h0 | h0
            · rw [h0] at hj; omega
            · exact h0
          have hi : j / szT T el < len := Nat.div_lt_of_lt_mul (by rw [Nat.mul_comm]; exact hj)
          obtain ⟨l, y, g1, g2, _⟩ := key _ hi
          have hk := Nat.mod_lt j hpos
          have := g2 _ hk
          rw [show j / szT T el * szT T el + j % szT T el = j by rw [Nat.mul_comm]; exact Nat.div_add_mod j _, List.getElem?_eq_getElem (by omega)] at this
          exact ⟨_, this⟩
        let ds : List Value := (List.range (len * szT T el)).map fun j => (w.cell? (a.add j)).getD undef
        have hds : ds.length = len * szT T el := by simp [ds]
        have hget : ∀ j, j < len * szT T el → ds[j]? = w.cell? (a.add j) := fun j hj => by
          obtain ⟨v, hv⟩ := hcell j hj
          simp only [ds, List.getElem?_map, List.getElem?_range hj, Option.map_some, hv, Option.getD_some]
        have hparts : ∀ i, i < len → ∃ y, RV T (base w) [el] [y] ((ds.drop (i * szT T el)).take (szT T el)) ∧ d.sm y := fun i hi => by
          obtain ⟨l, y, g1, g2, g3, g4⟩ := key i hi
          refine ⟨y, ?_, g4⟩
          have : (ds.drop (i * szT T el)).take (szT T el) = l := by
            apply List.ext_getElem?
            intro k
            rcases Nat.lt_or_ge k (szT T el) with hk | hk
            · have : (i + 1) * szT T el ≤ len * szT T el := Nat.mul_le_mul_right _ (by omega)
              rw [Nat.succ_mul] at this
              rw [List.getElem?_take_of_lt hk, List.getElem?_drop, hget _ (by omega), g2 k hk]
            · rw [List.getElem?_eq_none (by simp; omega), List.getElem?_eq_none (by omega)]
          rw [this]; exact g3
        obtain ⟨ys, h4, h5, h6⟩ := rv_parts len ds hds hparts
        refine ⟨.l ys, .slice hk hz1 h4 hcap ⟨fun hne => ?_, fun j y hj => ?_⟩ h5 .nil, ?_, h6⟩
        · have hpos : 0 < len * szT T el := by
            rcases Nat.eq_zero_or_pos (len * szT T el) with h0 | h0
            · exact absurd (List.eq_nil_of_length_eq_zero (hds.trans h0)) hne
            · exact h0
          obtain ⟨v, hv⟩ := hcell 0 hpos
          simpa [Addr.add] using World.cell?_spot hv
        · have hjl : j < len * szT T el := by rw [← hds]; exact (List.getElem?_eq_some_iff.1 hj).1
          rw [hget j hjl] at hj
          refine ⟨hj, ?_⟩
          have := cell_block hj
          rw [add_block'] at this
          exact this
        · show ys.length ≤ ML
          rw [h4]; exact Nat.le_trans hcap (Nat.le_trans hmx (by decide))
    · rename_i k el hk
      split at h <;> cases h
      rename_i d hd
      obtain ⟨te, h1, h2⟩ := kOf_some hk
      obtain ⟨xs, m', _, _, hl, hn, hi⟩ := DataW.trod_array (under_arr (hT _ _ h1) h2) hx
      have hsz : P.cellsOf el = szT T el := by
        cases hke : kOf T el with
        | none => cases m with
          | zero => rw [descT] at hd; cases hd
          | succ m => rw [descT, hke] at hd; cases hd
        | some ke => exact hT.cells hke
      rw [hT.cells hk, hT.szA hk] at hl
      obtain ⟨ys, h4, h5, h6⟩ := rv_parts (q := d.sm) k cs hl (fun i h => by
        have h3 := hi i h
        rw [hsz, List.getElem?_eq_getElem (by omega)] at h3
        exact ih m hm el d hd _ _ _ h3)
      refine ⟨.l ys, ?_, h6⟩
      have := RV.arr hk (by rw [hT.szA hk, hl]) h5 (RV.nil (T := T) (e := base w))
      rwa [List.append_nil] at this
    · rename_i fs hk
      split at h <;> cases h
      rename_i ds hd
      obtain ⟨te, h1, h2⟩ := kOf_some hk
      obtain ⟨gs, g1, g2, g3⟩ := under_struct (hT _ _ h1) h2
      obtain ⟨xs, m', _, _, hl, hn, hi⟩ := DataW.trod_struct g1 hx
      rw [hT.cells hk, hT.szS hk] at hl
      obtain ⟨ys, h5, h6⟩ := rv_fields fs m ds cs hd hl (fun j f m1 d1 hm1 hj hd1 => by
        obtain ⟨g, q1, rfl⟩ := struct_field g2 hj
        have h3 := hi j g q1
        have hlt : j < xs.length := by rw [hn]; exact (Array.getElem?_eq_some_iff.1 q1).1
        have hsz : P.cellsOf g.type = szT T g.type := by
          cases hke : kOf T g.type with
          | none => cases m1 with
            | zero => rw [descT] at hd1; cases hd1
            | succ m1 => rw [descT, hke] at hd1; cases hd1
          | some ke => exact hT.cells hke
        rw [hsz, g3 j g q1, List.getElem?_eq_getElem hlt] at h3
        exact ih m1 (by omega) _ d1 hd1 _ _ _ h3)
      refine ⟨.l ys, ?_, h6⟩
      have := RV.struct hk (by rw [hT.szS hk, hl]) h5 (RV.nil (T := T) (e := base w))
      rwa [List.append_nil] at this
    · cases h
theorem agg_wide (hT : TOK T P) {t m b : Nat} {v : Value} {d : D} (hd : descT T m t = some d) {r : Reach} (h : Value.okWide P w r b t v) : AggIff T t v := by
  cases m with
  | zero => rw [descT] at hd; cases hd
  | succ m =>
  have no : ∀ {k : TK} {u : TypeDesc}, kOf T t = some k → k.agg = false → P.underlying t = some u → (u = .bool ∨ u = .string ∨ (∃ k, u = .int k) ∨ ∃ e, u = .slice e) → AggIff T t v := fun {k u} hk ha hu hc => by
    refine ⟨fun ⟨k', hk', ha'⟩ => (by rw [hk] at hk'; cases hk'; rw [ha] at ha'; cases ha'), fun ⟨cs, hv⟩ => ?_⟩
    subst hv
    rcases hc with rfl | rfl | ⟨k', rfl⟩ | ⟨e', rfl⟩ <;> simp [Value.okWide, Cell.okWide, Cell.ok, hu] at h
  rw [descT] at hd
  split at hd
  · rename_i k hk; obtain ⟨te, h1, h2⟩ := kOf_some hk
    exact no hk rfl (under_int (hT _ _ h1) h2) (.inr (.inr (.inl ⟨_, rfl⟩)))
  · rename_i hk; obtain ⟨te, h1, h2⟩ := kOf_some hk
    exact no hk rfl (under_bool (hT _ _ h1) h2) (.inl rfl)
  · rename_i hk; obtain ⟨te, h1, h2⟩ := kOf_some hk
    exact no hk rfl (under_str (hT _ _ h1) h2) (.inr (.inl rfl))
  · rename_i el hk; obtain ⟨te, h1, h2⟩ := kOf_some hk
    exact no hk rfl (under_slice (hT _ _ h1) h2) (.inr (.inr (.inr ⟨_, rfl⟩)))
  · rename_i k el hk; obtain ⟨te, h1, h2⟩ := kOf_some hk
    have hu := under_arr (hT _ _ h1) h2
    unfold Value.okWide at h
    rw [hu] at h
    obtain ⟨cs, rfl, _⟩ := h
    exact ⟨fun _ => ⟨cs, rfl⟩, fun _ => ⟨_, hk, rfl⟩⟩
  · rename_i fs hk; obtain ⟨te, h1, h2⟩ := kOf_some hk
    obtain ⟨gs, hu, _⟩ := under_struct (hT _ _ h1) h2
    unfold Value.okWide at h
    rw [hu] at h
    obtain ⟨cs, rfl, _⟩ := h
    exact ⟨fun _ => ⟨cs, rfl⟩, fun _ => ⟨_, hk, rfl⟩⟩
  · cases hd
theorem open_args (hT : TOK T P) {r : Reach} {b : Nat} : ∀ (ts : List Nat) {n : Nat} {Ds : List D} (vs : List Value) {ds : List (DataW H)} {ps : List MemPlace}, descL T n ts = some Ds → DataW.TrodAll enc P w 0 (fun _ => true) true ts vs ds ps →
    (∀ (j : Nat) t v, ts[j]? = some t → vs[j]? = some v → Value.okWide P w r b t v) → ∃ xs, RP T (base w) ts xs vs ∧ D.smL Ds xs := by
  intro ts
  induction ts with
  | nil =>
    intro n Ds vs ds ps _ h _
    cases vs with
    | nil => exact ⟨[], .nil, by cases Ds <;> exact trivial⟩
    | cons v vs => cases ds <;> exact h.elim
  | cons t ts ih =>
    intro n Ds vs ds ps hd h hv
    cases vs with
    | nil => cases ds <;> exact h.elim
    | cons v vs =>
      cases ds with
      | nil => exact h.elim
      | cons d ds =>
        obtain ⟨p, q, ⟨fuel, h1⟩, h2, _⟩ := h
        cases n with
        | zero => rw [descL] at hd; cases hd
        | succ n =>
          rw [descL] at hd
          split at hd <;> try (cases hd; done)
          rename_i D hD
          split at hd <;> cases hd
          rename_i Ds' hDs
          obtain ⟨y, hy, hq⟩ := trod_rv hT n n (Nat.le_refl _) t D hD fuel _ _ h1
          obtain ⟨xs, hxs, hqs⟩ := ih vs hDs h2 (fun j t v h1 h2 => hv (j + 1) t v (by simpa using h1) (by simpa using h2))
          exact ⟨y :: xs, .cons hy (agg_wide hT hD (hv 0 t v rfl rfl)) hxs, hq, hqs⟩
end
def tellT : Eff → Option Unit := fun out => bif ansB true (some out) then some () else none
theorem ans_of {s : SymC} (hn : s.nat) {args : List A} (h : s Unit args (fun _ => none) 0 tellT = some ()) : ansB true (s.dir args (fun _ => none) 0) = true := by
  rw [hn] at h
  obtain ⟨out, h1, h2⟩ := ob_some h
  rw [h1]
  unfold tellT at h2
  cases hq : ansB true (some out) with
  | true => rfl
  | false => rw [hq] at h2; cases h2
theorem calls_law (hT : TOK T P) {f : FuncId} {fn : Func} {code : Code} {s : SymC} (hf : P.funcs[f]? = some fn) (hb : fn.body = some code) (hn : (fn.name == "runtime.NumGoroutine") = false) (hs : SymOK P T f s.dir) (hnat : s.nat) {ts : List Nat} (hts : ts.all (fun t => (T t).isSome) = true) (n : Nat) {Ds : List D} (hd : descL T n ts = some Ds)
    (hrun : ∀ xs, D.hasL Ds xs → D.smL Ds xs → s Unit (mkAs T ts xs) (fun _ => none) 0 tellT = some ()) {w : World} {vals : Array Value} (ha : ∃ xs, RP T (base w) ts xs vals.toList ∧ D.smL Ds xs) : Calls P f vals w fun en w' => en = .returned (.bool true) ∧ Still w w' := by
  obtain ⟨xs, hx, hq⟩ := ha
  exact calls_of_sym hf hb hn hs (ans_of hnat (hrun xs (TV.has n ⟨_, _, hx⟩ hd) hq)) (hx.reps hts)
end Go.Vm

namespace Go.Vm
open Go.RowKit
def Byt (l : List Nat) : Prop := ∀ a ∈ l, a < 256
theorem Byt.cons {a : Nat} {l : List Nat} (h : Byt (a :: l)) : a < 256 ∧ Byt l := ⟨h a (by simp), fun b hb => h b (by simp [hb])⟩
theorem Byt.app {a b : List Nat} : Byt (a ++ b) ↔ Byt a ∧ Byt b := by
  constructor
  · exact fun h => ⟨fun x hx => h x (by simp [hx]), fun x hx => h x (by simp [hx])⟩
  · rintro ⟨h, g⟩ x hx
    rcases List.mem_append.1 hx with hx | hx
    · exact h x hx
    · exact g x hx
theorem Byt.take {a : List Nat} (h : Byt a) (n : Nat) : Byt (a.take n) := fun x hx => h x (List.mem_of_mem_take hx)
theorem Byt.drop {a : List Nat} (h : Byt a) (n : Nat) : Byt (a.drop n) := fun x hx => h x (List.mem_of_mem_drop hx)
def leB : Nat → Nat → List Nat
  | 0, _ => []
  | m + 1, n => n % 256 :: leB m (n / 256)
theorem leB_len : ∀ (m n : Nat), (leB m n).length = m := by
  intro m
  induction m with
  | zero => intro n; rfl
  | succ m ih => intro n; simp [leB, ih]
theorem leB_byt : ∀ (m n : Nat), Byt (leB m n) := by
  intro m
  induction m with
  | zero => intro n a ha; cases ha
  | succ m ih =>
    intro n a ha
    rcases List.mem_cons.1 ha with rfl | ha
    · exact Nat.mod_lt _ (by decide)
    · exact ih _ a ha
theorem leV_leB : ∀ (m n : Nat), leV m (n : Int) = (leB m n).map nv := by
  intro m
  induction m with
  | zero => intro n; rfl
  | succ m ih =>
    intro n
    show V.i (IntKind.wrap .u8 (n : Int)) :: leV m ((n : Int).fdiv (2 ^ 8)) = nv (n % 256) :: (leB m (n / 256)).map nv
    rw [wrap_u8, Int.fdiv_eq_ediv_of_nonneg _ (by decide), show ((n : Int) / 2 ^ 8) = ((n / 256 : Nat) : Int) by omega, ih, show ((n : Int) % 256) = ((n % 256 : Nat) : Int) by omega]
    rfl
def cntB (n : Nat) : List Nat := if n < 253 then [n] else if n < 65536 then 253 :: leB 2 n else if n < 4294967296 then 254 :: leB 4 n else 255 :: leB 8 n
theorem ilt_nat (a b : Nat) : ilt (a : Int) (b : Int) = decide (a < b) := by
  simp only [ilt, iltN_dec]
  rw [Bool.eq_iff_iff, decide_eq_true_eq, decide_eq_true_eq]; omega
theorem cntL_cntB (n : Nat) : cntL (n : Int) = (cntB n).map nv := by
  unfold cntL cntB
  rw [show ilt (n : Int) 253 = decide (n < 253) from ilt_nat n 253, show ilt (n : Int) 65536 = decide (n < 65536) from ilt_nat n 65536, show ilt (n : Int) 4294967296 = decide (n < 4294967296) from ilt_nat n 4294967296, leV_leB, leV_leB, leV_leB, leV_leB]
  by_cases h1 : n < 253
  · simp [h1, leB, nv]; omega
  · by_cases h2 : n < 65536
    · simp [h1, h2, nv]
    · by_cases h3 : n < 4294967296
      · simp [h1, h2, h3, nv]
      · simp [h1, h2, h3, nv]
theorem cntB_byt {n : Nat} : Byt (cntB n) := by
  unfold cntB
  intro a ha
  split at ha
  · simp at ha; omega
  · split at ha
    · rcases List.mem_cons.1 ha with rfl | ha
      · decide
      · exact leB_byt _ _ a ha
    · split at ha
      · rcases List.mem_cons.1 ha with rfl | ha
        · decide
        · exact leB_byt _ _ a ha
      · rcases List.mem_cons.1 ha with rfl | ha
        · decide
        · exact leB_byt _ _ a ha
theorem cntB_len (n : Nat) : (cntB n).length = if n < 253 then 1 else if n < 65536 then 3 else if n < 4294967296 then 5 else 9 := by
  unfold cntB
  by_cases h1 : n < 253
  · simp [h1]
  · by_cases h2 : n < 65536
    · simp [h1, h2, leB_len]
    · by_cases h3 : n < 4294967296
      · simp [h1, h2, h3, leB_len]
      · simp [h1, h2, h3, leB_len]
def rd (r : List Nat) : V := .l [.l (r.map nv), .i 0]
end Go.Vm

namespace Go.Vm
open Go.RowKit
def entN (v : List Nat) (h : Nat) (hs : List Nat) (a : Nat) : List Nat := cntB v.length ++ v ++ (leB 8 h ++ (hs ++ leB 4 a))
def entV (nm : List V) (v : List Nat) (h : Nat) (hs : List Nat) (a : Nat) : V := .l [.s nm, .s (v.map nv), .i (W64 (h : Int)), .l [.l (hs.map nv), .i (a : Int)]]
end Go.Vm

namespace Go.Vm
open Go.RowKit
theorem txtL_map (v : List Nat) : txtL (v.map nv) = (cntB v.length ++ v).map nv := by
  unfold txtL
  rw [List.length_map, cntL_cntB, List.map_append]
theorem entB_entV {nm : List V} {v hs : List Nat} {h a : Nat} (h8 : h < 9223372036854775808) : entB (entV nm v h hs a) = (entN v h hs a).map nv := by
  have e1 : WU (W64 (h : Int)) = (h : Int) := by rw [w64_in (by omega) (by omega), wu64_lt (by omega)]
  show txtL (v.map nv) ++ (leV 8 (WU (W64 (h : Int))) ++ ((hs.map nv) ++ leV 4 (a : Int))) = _
  rw [e1, txtL_map, leV_leB, leV_leB]
  simp [entN]
theorem entN_len (v : List Nat) (h : Nat) (hs : List Nat) (a : Nat) : v.length < (entN v h hs a).length ∧ (entN v h hs a).length ≤ v.length + hs.length + 21 := by
  have := cntB_len v.length
  have : 1 ≤ (cntB v.length).length ∧ (cntB v.length).length ≤ 9 := by
    rw [this]; split
    · omega
    · split
      · omega
      · split <;> omega
  simp only [entN, List.length_append, leB_len]; omega
def GoodW (nm : List V) (e : V) : Prop := ∃ v h hs a, e = entV nm v h hs a ∧ Byt v ∧ Byt hs ∧ v.length ≤ 200 ∧ hs.length = 32 ∧ h ≤ 1000000000 ∧ a < 4294967296
theorem GoodW.len {nm : List V} {e : V} (h : GoodW nm e) : ∃ ns, entB e = ns.map nv ∧ Byt ns ∧ ns.length ≤ 260 := by
  obtain ⟨v, h, hs, a, rfl, h1, h2, h3, h4, h5, h6⟩ := h
  have := entN_len v h hs a
  refine ⟨entN v h hs a, entB_entV (by omega), ?_, by omega⟩
  unfold entN
  exact Byt.app.2 ⟨Byt.app.2 ⟨cntB_byt, h1⟩, Byt.app.2 ⟨leB_byt _ _, Byt.app.2 ⟨h2, leB_byt _ _⟩⟩⟩
def two (f : V → V → Bool) : List V → Bool
  | [a, b] => f a b
  | _ => false
end Go.Vm

namespace Go.Vm
open Go.RowKit
def c0 : V := .l [.l [.i 0, .n], .i 0, .b false]
end Go.Vm

namespace Go.Vm
open Go.RowKit
variable {R : Type}
end Go.Vm

namespace Go.Vm
open Go.RowKit
variable {R : Type}
theorem nth_at {l : V} {a r : List V} {x : V} (h : l.els = a ++ x :: r) : l.nth ((a.length : Nat) : Int).toNat = x := by
  unfold V.nth
  rw [h]; simp
end Go.Vm

namespace Go.Vm
open Go.RowKit
variable {P : Program} {T : TT} {R : Type} {c : Ctx} {e e' : Env} {of : Nat → Option Ob}
section
variable (ρ : Nat → Nat) (τ : Nat → Nat → Option Nat)
def rnV (id ver : Nat) (k : Nat → A) : A :=
  match τ id ver with
  | some v => k v
  | none => .x
mutual
def rnA : A → A
  | .p id t path => .p (ρ id) t path
  | .e id ver i t path => rnV τ id ver fun v => .e (ρ id) v i t path
  | .o id ver => rnV τ id ver fun v => .o (ρ id) v
  | .w id ver off n => rnV τ id ver fun v => .w (ρ id) v off n
  | .a id t path lo m => .a (ρ id) t path lo m
  | .m id => .m (ρ id)
  | .y id => .y (ρ id)
  | .f fn l => .f fn (rnL l)
  | .g t l => .g t (rnL l)
  | .t l => .t (rnL l)
  | a => a
def rnL : List A → List A
  | [] => []
  | a :: r => rnA a :: rnL r
end
def rnE : List (V × A) → List (V × A)
  | [] => []
  | p :: r => (p.1, rnA ρ τ p.2) :: rnE r
def rnO (id : Nat) : Ob → Ob
  | .box t a sh => .box t (rnA ρ τ a) sh
  | .row el ver xs nl sh => .row el (match τ id ver with | some v => v | none => 0) xs nl sh
  | .map kt et es => .map kt et (rnE ρ τ es)
  | .vm kt et es => .vm kt et es
  | .sm kt st el es ho => .sm kt st el es ho
  | .it (some m) => .it (some (ρ m))
  | .it none => .it none
  | .lp q => .lp none
end
def okT : Ob → Bool
  | .lp (some _) => false
  | _ => true
structure REN (e e' : Env) (ρ : Nat → Nat) (τ : Nat → Nat → Option Nat) (D : Nat → Prop) : Prop where
  w : e'.w = e.w
  S : ∀ b i, e'.S b i ↔ e.S b i
  use : ∀ id, D id → e.U id → e'.U (ρ id)
  ι : ∀ id, D id → e.U id → e'.ι (ρ id) = e.ι id
  ty : ∀ id, D id → e.U id → e'.ty (ρ id) = e.ty id
  ln : ∀ id, D id → e.U id → e'.ln (ρ id) = e.ln id
  bn0 : ∀ id, D id → e.U id → e.bn id = 0 → e'.bn (ρ id) = 0
  ver : ∀ id ver v, D id → e.U id → τ id ver = some v → 0 < ver → ver ≤ e.bn id → 0 < v ∧ v ≤ e'.bn (ρ id) ∧ (e'.bn (ρ id) = v → e.bn id = ver)
  G : ∀ id a o b, D id → e.U id → e.ι id = some (a, o) → e.G a b → e'.G a b
variable {ρ : Nat → Nat} {τ : Nat → Nat → Option Nat} {D : Nat → Prop}
theorem REN.fz (h : REN e e' ρ τ D) {a : Addr} {ds : List Value} (q : Fz e a ds) : Fz e' a ds := ⟨q.1, fun j y hj => by
  obtain ⟨p1, p2⟩ := q.2 j y hj
  rw [h.w]; exact ⟨p1, (h.S _ _).2 p2⟩⟩
theorem REN.rv (h : REN e e' ρ τ D) {ts : List Nat} {xs : List V} {cs : List Value} (q : RV T e ts xs cs) : RV T e' ts xs cs := q.change fun _ _ => h.fz
theorem R1.ren (h : REN e e' ρ τ D) {a : A} {v : Value} (q : R1 T e a v) (ho : one v = true) (hd : ∀ id ∈ refA a, D id) : R1 T e' (rnA ρ τ a) v := by
  cases a with
  | x => exact q
  | p id t path =>
    obtain ⟨b, off, h1, h2, h3, h4, h5⟩ := q
    have d := hd id (by simp [refA])
    exact ⟨b, off, h.use _ d h1, h.bn0 _ d h1 h2, (h.ι _ d h1).trans h3, by rw [h.ty _ d h1]; exact h4, h5⟩
  | a id t path lo m =>
    obtain ⟨b, off, n, el, k, cap, h1, h2, h3, h4, h5⟩ := q
    have d := hd id (by simp [refA])
    exact ⟨b, off, n, el, k, cap, h.use _ d h1, h.bn0 _ d h1 h2, (h.ι _ d h1).trans h3, by rw [h.ty _ d h1]; exact h4, h5⟩
  | m id =>
    obtain ⟨b, h1, h2, h3, h4⟩ := q
    have d := hd id (by simp [refA])
    exact ⟨b, h.use _ d h1, h.bn0 _ d h1 h2, (h.ι _ d h1).trans h3, h4⟩
  | y id =>
    obtain ⟨b, h1, h2, h3, h4⟩ := q
    have d := hd id (by simp [refA])
    exact ⟨b, h.use _ d h1, h.bn0 _ d h1 h2, (h.ι _ d h1).trans h3, h4⟩
  | e id ver i t path =>
    obtain ⟨h0, h1, h2, h3, h4⟩ := q
    have d := hd id (by simp [refA])
    simp only [rnA, rnV]
    cases hv : τ id ver with
    | none => exact ho
    | some v' =>
      obtain ⟨v1, v2, v3⟩ := h.ver _ _ _ d h1 hv h3 h2
      refine ⟨h0, h.use _ d h1, v2, v1, fun hb => ?_⟩
      obtain ⟨b, o, off, g1, g2, g3, g4⟩ := h4 (v3 hb)
      exact ⟨b, o, off, (h.ι _ d h1).trans g1, by rw [h.ty _ d h1]; exact g2, by rw [h.ln _ d h1]; exact g3, by rw [h.ty _ d h1]; exact g4⟩
  | o id ver =>
    obtain ⟨h0, h1, h2, h3, h4⟩ := q
    have d := hd id (by simp [refA])
    simp only [rnA, rnV]
    cases hv : τ id ver with
    | none => exact ho
    | some v' =>
      obtain ⟨v1, v2, v3⟩ := h.ver _ _ _ d h1 hv h3 h2
      refine ⟨h0, h.use _ d h1, v2, v1, fun hb => ?_⟩
      rcases h4 (v3 hb) with ⟨g1, g2, g3⟩ | ⟨b, o, cap, k, g1, g2, g3, g5, g4⟩
      · exact .inl ⟨(h.ι _ d h1).trans g1, by rw [h.ln _ d h1]; exact g2, g3⟩
      · exact .inr ⟨b, o, cap, k, (h.ι _ d h1).trans g1, by rw [h.ln _ d h1]; exact g2, by rw [h.ty _ d h1, h.w]; exact g3, g5, by rw [h.ln _ d h1]; exact g4⟩
  | w id ver off n =>
    obtain ⟨h0, h1, h2, h3, h4⟩ := q
    have d := hd id (by simp [refA])
    simp only [rnA, rnV]
    cases hv : τ id ver with
    | none => exact ho
    | some v' =>
      obtain ⟨v1, v2, v3⟩ := h.ver _ _ _ d h1 hv h3 h2
      refine ⟨h0, h.use _ d h1, v2, v1, fun hb => ?_⟩
      obtain ⟨b, o, cap, k, g1, g2, g3, g4, g5, g6⟩ := h4 (v3 hb)
      exact ⟨b, o, cap, k, (h.ι _ d h1).trans g1, g2, by rw [h.ln _ d h1]; exact g3, by rw [h.ty _ d h1, h.w]; exact g4, by rw [h.ty _ d h1]; exact g5, g6⟩
  | _ => exact q.elim
theorem fitA_rn {t : Nat} {a : A} : fitA T t a = true → fitA T t (rnA ρ τ a) = true := by
  cases a with
  | e id ver i t' path => intro h; simp only [rnA, rnV]; cases τ id ver <;> exact h
  | o id ver => intro h; simp only [rnA, rnV]; cases τ id ver <;> exact h
  | w id ver off n => intro h; simp only [rnA, rnV]; cases τ id ver <;> exact h
  | _ => exact fun h => h
theorem fitL_rn : ∀ {ts : List Nat} {l : List A}, fitL T ts l = true → fitL T ts (rnL ρ τ l) = true := by
  intro ts
  induction ts with
  | nil => intro l h; cases l with
    | nil => rfl
    | cons _ _ => cases h
  | cons t ts ih => intro l h; cases l with
    | nil => cases h
    | cons a l =>
      simp only [rnL, fitL, Bool.and_eq_true] at h ⊢
      exact ⟨fitA_rn h.1, ih h.2⟩
theorem RA.ren (h : REN e e' ρ τ D) {l : List A} {cs : List Value} (q : RA T e l cs) : (∀ id ∈ refL l, D id) → RA T e' (rnL ρ τ l) cs := by
  induction q with
  | nil => intro _; exact .nil
  | i hr _ ih => intro hd; exact .i hr (ih fun id hid => hd id (by simpa [refL, refA] using hid))
  | b _ ih => intro hd; exact .b (ih fun id hid => hd id (by simpa [refL, refA] using hid))
  | s _ ih => intro hd; exact .s (ih fun id hid => hd id (by simpa [refL, refA] using hid))
  | z h1 _ ih => intro hd; exact .z h1 (ih fun id hid => hd id (by simpa [refL, refA] using hid))
  | v h1 _ ih => intro hd; exact .v (h.rv h1) (ih fun id hid => hd id (by simpa [refL, refA] using hid))
  | c h1 h2 _ ih => intro hd; exact .c (h.rv h1) (h.fz h2) (ih fun id hid => hd id (by simpa [refL, refA] using hid))
  | q h1 _ ih => intro hd; exact .q (h.rv h1) (ih fun id hid => hd id (by simpa [refL, refA] using hid))
  | f _ _ ih1 ih => intro hd; exact .f (ih1 fun id hid => hd id (by simp [refL, refA, hid])) (ih fun id hid => hd id (by simp [refL, hid]))
  | g h1 h2 h3 _ _ ih1 ih => intro hd; exact .g h1 (fitL_rn h2) h3 (ih1 fun id hid => hd id (by simp [refL, refA, hid])) (ih fun id hid => hd id (by simp [refL, hid]))
  | r h1 h2 _ ih => intro hd; exact .r (h1.ren h h2 fun id hid => hd id (by simp [refL, hid])) h2 (ih fun id hid => hd id (by simp [refL, hid]))
theorem Rep1.ren (h : REN e e' ρ τ D) {a : A} {v : Value} (q : Rep1 T e a v) (hd : ∀ id ∈ refA a, D id) : Rep1 T e' (rnA ρ τ a) v := by
  have one : ∀ {b : A}, RA T e [b] [v] → (∀ id ∈ refA b, D id) → RA T e' [rnA ρ τ b] [v] := fun g hb => RA.ren h g fun id hid => hb id (by simpa [refL] using hid)
  cases a with
  | x => trivial
  | t l => exact q.elim
  | v t y => exact ⟨h.rv q.1, q.2⟩
  | g t l => exact ⟨RA.ren h q.1 fun id hid => hd id (by simpa [refL] using hid), q.2⟩
  | e id ver i t path =>
    have := one (b := .e id ver i t path) q hd
    simp only [rnA, rnV] at this ⊢
    cases hv : τ id ver with
    | none => trivial
    | some v' => rw [hv] at this; exact this
  | o id ver =>
    have := one (b := .o id ver) q hd
    simp only [rnA, rnV] at this ⊢
    cases hv : τ id ver with
    | none => trivial
    | some v' => rw [hv] at this; exact this
  | w id ver off n =>
    have := one (b := .w id ver off n) q hd
    simp only [rnA, rnV] at this ⊢
    cases hv : τ id ver with
    | none => trivial
    | some v' => rw [hv] at this; exact this
  | i k n => exact one (b := .i k n) q hd
  | b y => exact one (b := .b y) q hd
  | s l => exact one (b := .s l) q hd
  | z y => exact one (b := .z y) q hd
  | p id t path => exact one (b := .p id t path) q hd
  | c t y => exact one (b := .c t y) q hd
  | q t y => exact one (b := .q t y) q hd
  | a id t path lo m => exact one (b := .a id t path lo m) q hd
  | m id => exact one (b := .m id) q hd
  | y id => exact one (b := .y id) q hd
  | f fn l => exact one (b := .f fn l) q hd
theorem rnL_get : ∀ {l : List A} {k : Nat} {v : A}, (rnL ρ τ l)[k]? = some v → ∃ a, l[k]? = some a ∧ v = rnA ρ τ a := by
  intro l
  induction l with
  | nil => intro k v h; simp [rnL] at h
  | cons a l ih =>
    intro k v h
    cases k with
    | zero => simp [rnL] at h; exact ⟨a, rfl, h.symm⟩
    | succ k => exact ih (by simpa [rnL] using h)
theorem rnL_len : ∀ {l : List A}, (rnL ρ τ l).length = l.length := by
  intro l
  induction l with
  | nil => rfl
  | cons a l ih => simp [rnL, ih]
theorem refL_get : ∀ {l : List A} {k : Nat} {a : A}, l[k]? = some a → ∀ id ∈ refA a, id ∈ refL l := by
  intro l
  induction l with
  | nil => intro k a h; simp at h
  | cons b l ih =>
    intro k a h id hid
    cases k with
    | zero => simp at h; subst h; simp [refL, hid]
    | succ k => simp [refL, ih (by simpa using h) id hid]
theorem rep_of_1 {e : Env} {a : A} {v : Value} (h : Rep1 T e a v) : Rep T e a v := by
  cases a with
  | t l => exact h.elim
  | _ => exact h
theorem Rep.ren (h : REN e e' ρ τ D) {a : A} {v : Value} (q : Rep T e a v) (hd : ∀ id ∈ refA a, D id) : Rep T e' (rnA ρ τ a) v := by
  by_cases ht : ∃ l, a = .t l
  · obtain ⟨l, rfl⟩ := ht
    obtain ⟨xs, rfl, h2, h3⟩ := q
    refine ⟨xs, rfl, by rw [rnL_len]; exact h2, fun k v x hv hx => ?_⟩
    obtain ⟨b, hb, rfl⟩ := rnL_get hv
    exact (h3 k b x hb hx).ren h fun id hid => hd id (by simp only [refA]; exact refL_get hb id hid)
  · exact rep_of_1 ((rep1_of q fun l hl => ht ⟨l, hl⟩).ren h hd)
theorem Reps.ren (h : REN e e' ρ τ D) {l : List A} {vs : List Value} (q : Reps T e l vs) : (∀ id ∈ refL l, D id) → Reps T e' (rnL ρ τ l) vs := by
  induction q with
  | nil => intro _; exact .nil
  | cons h1 _ ih => intro hd; exact .cons (h1.ren h fun id hid => hd id (by simp [refL, hid])) (ih fun id hid => hd id (by simp [refL, hid]))
theorem MR.ren (h : REN e e' ρ τ D) {kt et : Nat} {es : List (V × A)} {ms : List MapEntry} (q : MR T e kt et es ms) : (∀ id ∈ refE es, D id) → MR T e' kt et (rnE ρ τ es) ms := by
  induction q with
  | nil => intro _; exact .nil
  | cons h1 h2 h3 _ ih =>
    intro hd
    exact .cons (show Rep1 T e' (.v _ _) _ from ⟨h.rv h1.1, h1.2⟩) (h2.ren h fun id hid => hd id (by simp [refE, hid])) (fitA_rn h3) (ih fun id hid => hd id (by simp [refE, hid]))
theorem rnE_map : ∀ l : List (V × A), rnE ρ τ l = l.map fun p => (p.1, rnA ρ τ p.2) := by
  intro l
  induction l with
  | nil => rfl
  | cons p r ih => simp [rnE, ih]
theorem refE_vms {et : Nat} : ∀ es : List (V × V), refE (vms et es) = [] := by
  intro es
  induction es with
  | nil => rfl
  | cons p r ih => simp only [vms, refE, refA, ih, List.nil_append]
theorem rnE_vms {et : Nat} : ∀ es : List (V × V), rnE ρ τ (vms et es) = vms et es := by
  intro es
  induction es with
  | nil => rfl
  | cons p r ih => simp only [vms, rnE, ih]; rfl
theorem OK.ren (h : REN e e' ρ τ D) {id : Nat} {o : Ob} (q : OK T e id o) (di : D id) (hd : ∀ k ∈ refO o, D k) (ho : okT o = true)
    (hv : ∀ el ver xs nl sh, o = .row el ver xs nl sh → ∃ v, τ id ver = some v ∧ e'.bn (ρ id) = v) : OK T e' (ρ id) (rnO ρ τ id o) := by
  cases o with
  | box t a sh =>
    obtain ⟨h1, h2, h2', h2'', b, cs, ty, fz, h3, h4, h5, h5', h6, h7⟩ := q
    refine ⟨h.use _ di h1, h.bn0 _ di h1 h2, (h.ty _ di h1).trans h2', fitA_rn h2'', b, cs, ty, fz, (h.ι _ di h1).trans h3, by rw [h.w]; exact h4, ?_, h5', RA.ren h h6 (fun k hk => hd k (by simpa [refL, refO] using hk)), fun hh i hc => h7 hh i ((h.S _ _).1 hc)⟩
    unfold free at h5 ⊢; rw [h.w]; exact h5
  | row el ver xs nl sh =>
    obtain ⟨h1, h2, h3, h4, h4', h5, h6⟩ := q
    obtain ⟨v, hτ, hbv⟩ := hv _ _ _ _ _ rfl
    obtain ⟨v1, v2, v3⟩ := h.ver _ _ _ di h1 hτ h2 (by omega)
    simp only [rnO, hτ]
    refine ⟨h.use _ di h1, v1, hbv, (h.ty _ di h1).trans h4, (h.ln _ di h1).trans h4', h5, ?_⟩
    rcases h6 with ⟨g1, g2, g3⟩ | ⟨nn', b, o, cs, t, fz, pre, ys, post, g1, g2, g3, g4, g5, g6, g7, g8⟩
    · exact .inl ⟨g1, (h.ι _ di h1).trans g2, g3⟩
    · refine .inr ⟨nn', b, o, cs, t, fz, pre, ys, post, (h.ι _ di h1).trans g1, by rw [h.w]; exact g2, ?_, g4, g5, h.rv g6, fun i hi hc => g7 i hi ((h.S _ _).1 hc), fun hh i hi hc => g8 hh i hi ((h.S _ _).1 hc)⟩
      unfold free at g3 ⊢; rw [h.w]; exact g3
  | map kt et es =>
    obtain ⟨h1, h2, b, ms, clock, h3, h4, ⟨h5, h5'⟩, es', h6, h7⟩ := q
    refine ⟨h.use _ di h1, h.bn0 _ di h1 h2, b, ms, clock, (h.ι _ di h1).trans h3, by rw [h.w]; exact h4, ⟨by rw [rnE_map, List.map_map]; exact h5, h5'⟩, rnE ρ τ es', by rw [rnE_map, rnE_map]; exact h6.map _, h7.ren h fun k hk => hd k (refE_perm h6.symm k hk)⟩
  | vm kt et es =>
    obtain ⟨h1, h2, b, ms, clock, h3, h4, ⟨h5, h5'⟩, es', h6, h7⟩ := q
    refine ⟨h.use _ di h1, h.bn0 _ di h1 h2, b, ms, clock, (h.ι _ di h1).trans h3, by rw [h.w]; exact h4, ⟨h5, h5'⟩, rnE ρ τ es', by rw [← rnE_vms (ρ := ρ) (τ := τ) es, rnE_map, rnE_map]; exact h6.map _, h7.ren h fun k hk => by
      have := refE_perm h6.symm k hk
      rw [refE_vms] at this; cases this⟩
  | sm kt st el es ho' =>
    obtain ⟨h1, h2, ha, hb', hc, b, ms, clock, h3, h4, h5, es', bs, h6, h7⟩ := q
    refine ⟨h.use _ di h1, h.bn0 _ di h1 h2, ha, hb', hc, b, ms, clock, (h.ι _ di h1).trans h3, by rw [h.w]; exact h4, h5, es', bs, h6, SR.move (e := e) (e' := e') (fun a ds => h.fz) h.w (fun b i => (h.S b i).1) (fun b' hG => h.G id b 0 b' di h1 h3 hG) h7⟩
  | lp q' =>
    cases q' with
    | none =>
      obtain ⟨h1, h2, b, h3, h4⟩ := q
      exact ⟨h.use _ di h1, h.bn0 _ di h1 h2, b, (h.ι _ di h1).trans h3, by rw [h.w]; exact h4⟩
    | some r => cases ho
  | it q' =>
    cases q' with
    | none =>
      obtain ⟨h1, h2, b, x, y, z, h3, h4⟩ := q
      exact ⟨h.use _ di h1, h.bn0 _ di h1 h2, b, x, y, z, (h.ι _ di h1).trans h3, by rw [h.w]; exact h4⟩
    | some m =>
      obtain ⟨h1, h2, b, bm, x, z, h3, h4, h5, h6, h7⟩ := q
      have dm := hd m (by simp [refO])
      exact ⟨h.use _ di h1, h.bn0 _ di h1 h2, b, bm, x, z, (h.ι _ di h1).trans h3, by rw [h.w]; exact h4, h.use _ dm h5, h.bn0 _ dm h5 h6, (h.ι _ dm h5).trans h7⟩
end Go.Vm

namespace Go.Vm
open Go.RowKit
variable {P : Program} {T : TT} {R : Type} {c : Ctx} {e : Env} {of : Nat → Option Ob}
def reachO (of : Nat → Option Ob) : Nat → List Nat → List Nat → List Nat
  | 0, _, acc => acc
  | _ + 1, [], acc => acc
  | f + 1, id :: r, acc => bif mem id acc then reachO of f r acc else
    match of id with
    | some o => reachO of f (refO o ++ r) (acc ++ [id])
    | none => acc
def idxL : List Nat → Nat → Nat
  | [], _ => 0
  | k :: r, id => bif Nat.beq k id then 0 else idxL r id + 1
def verOf (of : Nat → Option Ob) (id : Nat) : Nat :=
  match of id with
  | some (.row _ v _ _ _) => v
  | _ => 0
def nodupB : List Nat → Bool
  | [] => true
  | k :: r => !mem k r && nodupB r
def subB (L : List Nat) : List Nat → Bool
  | [] => true
  | k :: r => mem k L && subB L r
def chkR (of : Nat → Option Ob) (L : List Nat) : List Nat → Bool
  | [] => true
  | id :: r => (match of id with
    | some o => okT o && subB L (refO o)
    | none => false) && chkR of L r
def tau0 (of : Nat → Option Ob) (id ver : Nat) : Option Nat := bif Nat.beq (verOf of id) ver then some 1 else none
def canL (of : Nat → Option Ob) (L : List Nat) : List Nat → List Ob
  | [] => []
  | id :: r => (match of id with
    | some o => rnO (idxL L) (tau0 of) id o
    | none => .lp none) :: canL of L r
def ofL : List Ob → Nat → Option Ob
  | [], _ => none
  | o :: _, 0 => some o
  | _ :: r, n + 1 => ofL r n
def getN : List Nat → Nat → Option Nat
  | [], _ => none
  | k :: _, 0 => some k
  | _ :: r, n + 1 => getN r n
def rho1 (L : List Nat) (nx : Nat) (j : Nat) : Nat :=
  match getN L j with
  | some id => id
  | none => nx + (j - L.length)
def tau1 (of : Nat → Option Ob) (L : List Nat) (j ver : Nat) : Option Nat :=
  match getN L j with
  | some id => some (ver + (verOf of id - 1))
  | none => some ver
def backL (of : Nat → Option Ob) (L : List Nat) (nx : Nat) : List (Nat × Ob) → List (Nat × Ob)
  | [] => []
  | p :: r => (rho1 L nx p.1, rnO (rho1 L nx) (tau1 of L) p.1 p.2) :: backL of L nx r
def allT : List (Nat × Ob) → Bool
  | [] => true
  | p :: r => okT p.2 && allT r
def numL : Nat → List Ob → List (Nat × Ob)
  | _, [] => []
  | j, o :: r => (j, o) :: numL (j + 1) r
def trS (s : SymC) : SymC := fun R args of nx k =>
  (fun L : List Nat => bif nodupB L && (chkR of L L && subB L (refL args)) then
    s R (rnL (idxL L) (tau0 of) args) (ofL (canL of L L)) L.length fun out => bif Nat.ble L.length out.nx && allT out.wo then
      k ⟨rnA (rho1 L nx) (tau1 of L) out.val, backL of L nx (numL 0 (canL of L L) ++ out.wo), L, nx + (out.nx - L.length)⟩ else none
    else none) (reachO of 64 (refL args) [])
theorem trS_nat {s : SymC} (hs : s.nat) : (trS s).nat := by
  intro R args of nx k
  unfold SymC.dir trS
  simp only
  cases (nodupB (reachO of 64 (refL args) []) && (chkR of (reachO of 64 (refL args) []) (reachO of 64 (refL args) []) && subB (reachO of 64 (refL args) []) (refL args)))
  · rfl
  · simp only [cond_true]
    rw [hs R, hs Eff]
    cases s.dir (rnL (idxL (reachO of 64 (refL args) [])) (tau0 of) args) (ofL (canL of (reachO of 64 (refL args) []) (reachO of 64 (refL args) []))) (reachO of 64 (refL args) []).length with
    | none => rfl
    | some out =>
      simp only [ob]
      cases (Nat.ble (reachO of 64 (refL args) []).length out.nx && allT out.wo) <;> rfl
theorem subB_spec {L : List Nat} : ∀ {l : List Nat}, subB L l = true → ∀ id ∈ l, id ∈ L := by
  intro l
  induction l with
  | nil => intro _ id h; cases h
  | cons k r ih =>
    intro h id hid
    simp only [subB, Bool.and_eq_true, mem_iff] at h
    rcases List.mem_cons.1 hid with rfl | hid
    · exact h.1
    · exact ih h.2 id hid
theorem nodupB_spec : ∀ {l : List Nat}, nodupB l = true → l.Nodup := by
  intro l
  induction l with
  | nil => intro _; exact .nil
  | cons k r ih =>
    intro h
    simp only [nodupB, Bool.and_eq_true, Bool.not_eq_true'] at h
    refine List.nodup_cons.2 ⟨fun hk => ?_, ih h.2⟩
    rw [mem_iff.2 hk] at h; cases h.1
theorem chkR_spec {L : List Nat} : ∀ {l : List Nat}, chkR of L l = true → ∀ id ∈ l, ∃ o, of id = some o ∧ okT o = true ∧ ∀ k ∈ refO o, k ∈ L := by
  intro l
  induction l with
  | nil => intro _ id h; cases h
  | cons k r ih =>
    intro h id hid
    simp only [chkR, Bool.and_eq_true] at h
    rcases List.mem_cons.1 hid with rfl | hid
    · obtain ⟨h1, _⟩ := h
      split at h1
      · rename_i o ho
        simp only [Bool.and_eq_true] at h1
        exact ⟨o, ho, h1.1, subB_spec h1.2⟩
      · cases h1
    · exact ih h.2 id hid
theorem getN_some {l : List Nat} : ∀ {j : Nat}, j < l.length → ∃ id, getN l j = some id ∧ id ∈ l := by
  induction l with
  | nil => intro j h; cases h
  | cons k r ih =>
    intro j h
    cases j with
    | zero => exact ⟨k, rfl, by simp⟩
    | succ j => obtain ⟨id, h1, h2⟩ := ih (j := j) (by simpa using h); exact ⟨id, h1, by simp [h2]⟩
theorem getN_none {l : List Nat} : ∀ {j : Nat}, l.length ≤ j → getN l j = none := by
  induction l with
  | nil => intro j _; rfl
  | cons k r ih => intro j h; cases j with
    | zero => cases h
    | succ j => exact ih (by simpa using h)
theorem getN_lt {l : List Nat} : ∀ {j id : Nat}, getN l j = some id → j < l.length := by
  intro j id h
  by_cases hj : j < l.length
  · exact hj
  · rw [getN_none (by omega)] at h; cases h
theorem idx_get {l : List Nat} (hn : l.Nodup) : ∀ {j id : Nat}, getN l j = some id → idxL l id = j := by
  induction l with
  | nil => intro j id h; cases h
  | cons k r ih =>
    intro j id h
    obtain ⟨n1, n2⟩ := List.nodup_cons.1 hn
    cases j with
    | zero => cases h; unfold idxL; rw [Nat.beq_refl]; rfl
    | succ j =>
      have h' : getN r j = some id := h
      have hid : id ∈ r := by
        obtain ⟨id', h1, h2⟩ := getN_some (getN_lt h')
        rw [h'] at h1; cases h1; exact h2
      have : k ≠ id := fun q => n1 (q ▸ hid)
      unfold idxL; rw [beq_ne this]
      show idxL r id + 1 = j + 1
      rw [ih n2 h']
theorem get_idx {l : List Nat} : ∀ {id : Nat}, id ∈ l → getN l (idxL l id) = some id ∧ idxL l id < l.length := by
  induction l with
  | nil => intro id h; cases h
  | cons k r ih =>
    intro id h
    unfold idxL
    by_cases hk : k = id
    · subst hk; rw [Nat.beq_refl]; exact ⟨rfl, by simp⟩
    · rw [beq_ne hk]
      obtain ⟨h1, h2⟩ := ih ((List.mem_cons.1 h).resolve_left (fun q => hk q.symm))
      exact ⟨h1, by show idxL r id + 1 < _; simp; omega⟩
theorem ofL_can {L : List Nat} : ∀ {l : List Nat} {j : Nat}, ofL (canL of L l) j = (getN l j).map fun id => match of id with
    | some o => rnO (idxL L) (tau0 of) id o
    | none => .lp none := by
  intro l
  induction l with
  | nil => intro j; rfl
  | cons k r ih => intro j; cases j with
    | zero => rfl
    | succ j => exact ih
theorem put_num : ∀ (l : List Ob) (n : Nat) (f : Nat → Option Ob) (j : Nat), put f (numL n l) j = if n ≤ j then (match ofL l (j - n) with | some o => some o | none => f j) else f j := by
  intro l
  induction l with
  | nil => intro n f j; simp [numL, put, ofL]
  | cons o r ih =>
    intro n f j
    simp only [numL, put]
    rw [ih]
    by_cases h1 : n + 1 ≤ j
    · rw [if_pos h1, if_pos (by omega), show j - n = (j - (n + 1)) + 1 by omega]
      simp only [ofL]
      cases ofL r (j - (n + 1)) with
      | some _ => rfl
      | none => simp only; rw [upd_ne _ _ (by omega)]
    · rw [if_neg h1]
      by_cases h2 : n ≤ j
      · have : j = n := by omega
        subst this
        rw [if_pos (Nat.le_refl _), Nat.sub_self, upd_same]; rfl
      · rw [if_neg h2, upd_ne _ _ (by omega)]
theorem put_back {L : List Nat} {nx : Nat} : ∀ (l : List (Nat × Ob)) (f g : Nat → Option Ob) (j : Nat), (∀ i ∈ ids l, rho1 L nx i = rho1 L nx j → i = j) →
    g (rho1 L nx j) = (f j).map (rnO (rho1 L nx) (tau1 of L) j) → put g (backL of L nx l) (rho1 L nx j) = (put f l j).map (rnO (rho1 L nx) (tau1 of L) j) := by
  intro l
  induction l with
  | nil => intro f g j _ h; exact h
  | cons p r ih =>
    intro f g j hi h
    obtain ⟨k, o⟩ := p
    simp only [backL, put]
    refine ih _ _ j (fun i hid => hi i (by simp only [ids, List.map_cons, List.mem_cons]; exact .inr hid)) ?_
    by_cases hk : j = k
    · subst hk; rw [upd_same, upd_same]; rfl
    · have hne : rho1 L nx j ≠ rho1 L nx k := fun q => hk (hi k (by simp [ids]) q.symm).symm
      rw [upd_ne _ _ hne, upd_ne _ _ hk]; exact h
theorem put_not {L : List Nat} {nx : Nat} : ∀ (l : List (Nat × Ob)) (g : Nat → Option Ob) (id : Nat), (∀ i ∈ ids l, rho1 L nx i ≠ id) → put g (backL of L nx l) id = g id := by
  intro l
  induction l with
  | nil => intro g id _; rfl
  | cons p r ih =>
    intro g id hi
    simp only [backL, put]
    rw [ih _ id (fun i hid => hi i (by simp only [ids, List.map_cons, List.mem_cons]; exact .inr hid))]
    exact upd_ne _ _ fun q => hi p.1 (by simp [ids]) q.symm
theorem put_isSome : ∀ (l : List (Nat × Ob)) (f : Nat → Option Ob) (j : Nat), (j ∈ ids l ∨ (f j).isSome) → (put f l j).isSome := by
  intro l
  induction l with
  | nil => intro f j h; exact h.resolve_left (fun q => by cases q)
  | cons p r ih =>
    intro f j h
    refine ih _ j ?_
    by_cases hj : j = p.1
    · right; subst hj; rw [upd_same]; rfl
    · rcases h with h | h
      · left; simp only [ids, List.map_cons, List.mem_cons] at h; exact h.resolve_left hj
      · right; rw [upd_ne _ _ hj]; exact h
theorem allT_put : ∀ (l : List (Nat × Ob)) (f : Nat → Option Ob), allT l = true → (∀ j o, f j = some o → okT o = true) → ∀ j o, put f l j = some o → okT o = true := by
  intro l
  induction l with
  | nil => intro f _ h j o; exact h j o
  | cons p r ih =>
    intro f ha h j o hj
    simp only [allT, Bool.and_eq_true] at ha
    refine ih _ ha.2 (fun j o hj => ?_) j o hj
    by_cases hk : j = p.1
    · subst hk; rw [upd_same] at hj; cases hj; exact ha.1
    · rw [upd_ne _ _ hk] at hj; exact h j o hj
theorem okT_rn {ρ : Nat → Nat} {τ : Nat → Nat → Option Nat} {id : Nat} {o : Ob} : okT (rnO ρ τ id o) = true := by
  cases o with
  | lp q => rfl
  | it q => cases q <;> rfl
  | _ => rfl
theorem Rep.usedR {a : A} {v : Value} (h : Rep T e a v) : ∀ id ∈ refA a, e.U id := by
  by_cases ht : ∃ l, a = .t l
  · obtain ⟨l, rfl⟩ := ht
    obtain ⟨xs, rfl, h2, h3⟩ := h
    have key : ∀ (l : List A) (k0 : Nat), (∀ (i : Nat) v, l[i]? = some v → ∃ x, Rep1 T e v x) → ∀ id ∈ refL l, e.U id := by
      intro l
      induction l with
      | nil => intro _ _ id hid; cases hid
      | cons a r ih =>
        intro k0 h id hid
        simp only [refL, List.mem_append] at hid
        rcases hid with hid | hid
        · obtain ⟨x, hx⟩ := h 0 a rfl; exact hx.used id hid
        · exact ih 0 (fun i v hv => h (i + 1) v (by simpa using hv)) id hid
    intro id hid
    refine key l 0 (fun i v hv => ?_) id (by simpa [refA] using hid)
    have hi : i < xs.size := by
      have := (List.getElem?_eq_some_iff.1 hv).1; omega
    exact ⟨xs[i], h3 i v _ hv (by simp [hi])⟩
  · exact (rep1_of h fun l hl => ht ⟨l, hl⟩).used
def SymAt (P : Program) (T : TT) (f : FuncId) (s : Sym) : Prop :=
  ∀ (c : Ctx) (e : Env) (of : Nat → Option Ob) (args : List A) (vals : Array Value) (nx : Nat) (out : Eff), OSim T c e of → s args of nx = some out → (∀ id, nx ≤ id → id < out.nx → ¬ e.U id) → Reps T e args vals.toList → Does P (callFunc f vals) e.w (LeftN T c e of nx out)
theorem SymOK.at_ {f : FuncId} {s : Sym} (h : SymOK P T f s) : SymAt P T f s := fun c e of args vals nx out hos hr hu hv => h c e of of args vals nx out hos hr (fun _ _ => rfl) hu hv
theorem SymAt.same {f : FuncId} {s s' : Sym} (hs : SymAt P T f s) (h : ∀ (c : Ctx) (e : Env) (of : Nat → Option Ob) (args : List A) (vals : List Value) (nx : Nat) (out : Eff), OSim T c e of → Reps T e args vals → s' args of nx = some out → s args of nx = some out) : SymAt P T f s' :=
  fun c e of args vals nx out hos hr hu hv => hs c e of args vals nx out hos (h c e of args _ nx out hos hv hr) hu hv
theorem trS_ok {f : FuncId} {s : SymC} (hn : s.nat) (hs : SymAt P T f s.dir) : SymOK P T f (trS s).dir := by
  intro c e of of' args vals nx out hos hrun hro hu hvals
  unfold SymC.dir trS at hrun
  simp only at hrun
  generalize reachO of 64 (refL args) [] = L at hrun
  cases hc : (nodupB L && (chkR of L L && subB L (refL args))) with
  | false => rw [hc] at hrun; cases hrun
  | true =>
  rw [hc] at hrun
  simp only [cond_true] at hrun
  rw [hn Eff] at hrun
  obtain ⟨out0, hout0, hk⟩ := ob_some hrun
  cases hc2 : (Nat.ble L.length out0.nx && allT out0.wo) with
  | false => rw [hc2] at hk; cases hk
  | true =>
  rw [hc2] at hk
  simp only [cond_true, Option.some.injEq] at hk
  subst hk
  simp only [Bool.and_eq_true] at hc hc2
  obtain ⟨hnd, hck, hsa⟩ := hc
  obtain ⟨hm, hat⟩ := hc2
  have hm := Nat.le_of_ble_eq_true hm
  have hnd := nodupB_spec hnd
  have hck := chkR_spec hck
  have hsa := subB_spec hsa
  have hobj : ∀ id ∈ L, ∃ o, of id = some o ∧ of' id = some o ∧ okT o = true ∧ (∀ k ∈ refO o, k ∈ L) ∧ OK T e id o := fun id hid => by
    obtain ⟨o, h1, h2, h3⟩ := hck id hid
    have h4 : of' id = some o := (hro id hid).trans h1
    exact ⟨o, h1, h4, h2, h3, hos.ok id o h4⟩
  have hbn : ∀ id ∈ L, e.bn id = verOf of id := fun id hid => by
    obtain ⟨o, h1, h2, h3, h4, h5⟩ := hobj id hid
    unfold verOf
    rw [h1]
    cases o with
    | row el ver xs nl sh => exact h5.2.2.1
    | box t a sh => exact h5.2.1
    | map kt et es => exact h5.2.1
    | vm kt et es => exact h5.2.1
    | sm kt st el es ho => exact h5.2.1
    | lp q => cases q <;> exact h5.2.1
    | it q => cases q <;> exact h5.2.1
  have hU : ∀ id ∈ L, e.U id := fun id hid => by
    obtain ⟨o, _, _, _, _, h5⟩ := hobj id hid; exact h5.use
  have hpos : ∀ id ∈ L, ∀ el ver xs nl sh, of id = some (.row el ver xs nl sh) → 0 < ver := fun id hid el ver xs nl sh h => by
    obtain ⟨o, h1, _, _, _, h5⟩ := hobj id hid
    rw [h1] at h; cases h; exact h5.2.1
  let g : Nat → Nat := fun j => (getN L j).getD 0
  have hg : ∀ j, j < L.length → getN L j = some (g j) ∧ g j ∈ L := fun j hj => by
    obtain ⟨id, h1, h2⟩ := getN_some hj
    simp only [g, h1]; exact ⟨rfl, h2⟩
  let e0 : Env := { w := e.w, ι := fun j => if j < L.length then e.ι (g j) else none, S := e.S, bn := fun j => if verOf of (g j) = 0 then 0 else 1, U := fun j => j < L.length, ty := fun j => e.ty (g j), ln := fun j => e.ln (g j), G := fun a b => e.G a b ∧ ∃ id ∈ L, ∃ o, e.ι id = some (a, o) }
  let c0 : Ctx := { w0 := e.w, M := fun b => (∃ id ∈ L, ∃ o, e.ι id = some (b, o)) ∨ ∃ a, e.G a b ∧ ∃ id ∈ L, ∃ o, e.ι id = some (a, o), S0 := e.S }
  have hgi : ∀ id ∈ L, g (idxL L id) = id ∧ idxL L id < L.length := fun id hid => by
    obtain ⟨h1, h2⟩ := get_idx hid
    simp only [g, h1]; exact ⟨rfl, h2⟩
  have hig : ∀ j, j < L.length → idxL L (g j) = j := fun j hj => idx_get hnd (hg j hj).1
  have ren0 : REN e e0 (idxL L) (tau0 of) (fun id => id ∈ L) := by
    refine ⟨rfl, fun _ _ => Iff.rfl, fun id hid _ => (hgi id hid).2, fun id hid _ => ?_, fun id hid _ => ?_, fun id hid _ => ?_, fun id hid _ hb => ?_, fun id ver v hid _ hτ h0 hle => ?_, fun id a o b hid _ hι hG => ⟨hG, id, hid, o, hι⟩⟩
    · show (if idxL L id < L.length then e.ι (g (idxL L id)) else none) = _
      rw [if_pos (hgi id hid).2, (hgi id hid).1]
    · show e.ty (g (idxL L id)) = _; rw [(hgi id hid).1]
    · show e.ln (g (idxL L id)) = _; rw [(hgi id hid).1]
    · show (if verOf of (g (idxL L id)) = 0 then 0 else 1) = 0
      rw [(hgi id hid).1, ← hbn id hid, if_pos hb]
    · unfold tau0 at hτ
      cases hq : Nat.beq (verOf of id) ver with
      | false => rw [hq] at hτ; cases hτ
      | true =>
        rw [hq] at hτ; cases hτ
        have hq := Nat.eq_of_beq_eq_true hq
        refine ⟨by omega, ?_, fun _ => by rw [hbn id hid, hq]⟩
        show 1 ≤ (if verOf of (g (idxL L id)) = 0 then 0 else 1)
        rw [(hgi id hid).1, hq, if_neg (by omega)]; exact Nat.le_refl 1
  have hcan : ∀ j o, ofL (canL of L L) j = some o → j < L.length ∧ ∃ o1, of (g j) = some o1 ∧ o = rnO (idxL L) (tau0 of) (g j) o1 := fun j o hj => by
    rw [ofL_can] at hj
    cases hgj : getN L j with
    | none => rw [hgj] at hj; cases hj
    | some id =>
      have hlt := getN_lt hgj
      obtain ⟨h1, h2⟩ := hg j hlt
      rw [h1] at hj
      obtain ⟨o1, p1, _⟩ := hobj _ h2
      simp only [Option.map_some, Option.some.injEq, p1] at hj
      exact ⟨hlt, o1, p1, hj.symm⟩
  have hcan1 : ∀ j, j < L.length → (ofL (canL of L L) j).isSome := fun j hj => by
    rw [ofL_can, (hg j hj).1]; rfl
  have hsome' : ∀ id ∈ L, (of' id).isSome := fun id hid => by
    obtain ⟨o, _, h2, _⟩ := hobj id hid; rw [h2]; rfl
  have hos0 : OSim T c0 e0 (ofL (canL of L L)) := by
    refine ⟨fun j o hj => ?_, fun i j b o b' o' hi hj hbi hbj hne => ?_, fun j b o hj hb => ?_, fun j b o hj hb => ?_, fun b i h => hos.slt b i h, fun _ _ h => h, fun _ _ h => .inl h, rfl, rfl, rfl, Nat.le_refl _, fun _ _ _ => rfl, ⟨fun a b hG j b' o hj hb => ?_, fun a a' b h1 h2 => hos.g.uniq a a' b h1.1 h2.1, fun a b hG => .inr (.inr ⟨a, hG.1, hG.2⟩), fun a b hG => hos.g.lt a b hG.1⟩⟩
    · obtain ⟨hlt, o1, h1, rfl⟩ := hcan j o hj
      obtain ⟨o2, p1, p2, p3, p4, p5⟩ := hobj _ (hg j hlt).2
      rw [h1] at p1; cases p1
      have := p5.ren ren0 (hg j hlt).2 p4 p3 (fun el ver xs nl sh he => by
        subst he
        have hv : verOf of (g j) = ver := by unfold verOf; rw [h1]
        have hp := hpos _ (hg j hlt).2 _ _ _ _ _ h1
        refine ⟨1, by unfold tau0; rw [hv, Nat.beq_refl]; rfl, ?_⟩
        show (if verOf of (g (idxL L (g j))) = 0 then 0 else 1) = 1
        rw [hig j hlt, hv, if_neg (by omega)])
      rw [hig j hlt] at this
      exact this
    · obtain ⟨oi, hi⟩ := Option.isSome_iff_exists.1 hi
      obtain ⟨oj, hj⟩ := Option.isSome_iff_exists.1 hj
      obtain ⟨li, _⟩ := hcan i oi hi
      obtain ⟨lj, _⟩ := hcan j oj hj
      have hbi : (if i < L.length then e.ι (g i) else none) = some (b, o) := hbi
      have hbj : (if j < L.length then e.ι (g j) else none) = some (b', o') := hbj
      rw [if_pos li] at hbi; rw [if_pos lj] at hbj
      exact hos.sep _ _ _ _ _ _ (hsome' _ (hg i li).2) (hsome' _ (hg j lj).2) hbi hbj (fun q => hne (by rw [← hig i li, q, hig j lj]))
    · obtain ⟨oj, hj⟩ := Option.isSome_iff_exists.1 hj
      obtain ⟨lj, _⟩ := hcan j oj hj
      have hb : (if j < L.length then e.ι (g j) else none) = some (b, o) := hb
      rw [if_pos lj] at hb
      exact .inr (.inl ⟨g j, (hg j lj).2, o, hb⟩)
    · have lj : j < L.length := hj
      have hb : (if j < L.length then e.ι (g j) else none) = some (b, o) := hb
      rw [if_pos lj] at hb
      exact hos.lt _ _ _ (hU _ (hg j lj).2) hb
    · obtain ⟨oj, hj⟩ := Option.isSome_iff_exists.1 hj
      obtain ⟨lj, _⟩ := hcan j oj hj
      have hb : (if j < L.length then e.ι (g j) else none) = some (b', o) := hb
      rw [if_pos lj] at hb
      exact hos.g.sep a b hG.1 (g j) b' o (hsome' _ (hg j lj).2) hb
  have hreps0 : Reps T e0 (rnL (idxL L) (tau0 of) args) vals.toList := hvals.ren ren0 hsa
  refine does_mono (hs c0 e0 (ofL (canL of L L)) _ vals L.length out0 hos0 hout0 (fun j h1 _ (h : j < L.length) => by omega) hreps0) ?_
  rintro x w' ⟨e1, rfl, k1, k2, k3, k4⟩
  have k3 : ∀ j, e1.U j → j < out0.nx := fun j hj => by
    rcases k3 j hj with h | h
    · have h : j < L.length := h; omega
    · exact h.2
  have k3' : ∀ j, j < L.length → e1.U j := fun j hj => k2.use j hj
  let img : Nat → Prop := fun id => id ∈ L ∨ (nx ≤ id ∧ id < nx + (out0.nx - L.length))
  let inv : Nat → Nat := fun id => if id ∈ L then idxL L id else L.length + (id - nx)
  let dl : Nat → Nat := fun j => if j < L.length then verOf of (g j) - 1 else 0
  haveI : ∀ id, Decidable (img id) := fun id => inferInstanceAs (Decidable (id ∈ L ∨ (nx ≤ id ∧ id < nx + (out0.nx - L.length))))
  let e2 : Env := { w := e1.w, S := e1.S, ι := fun id => if img id then e1.ι (inv id) else e.ι id, bn := fun id => if img id then e1.bn (inv id) + dl (inv id) else e.bn id, U := fun id => if img id then e1.U (inv id) else e.U id, ty := fun id => if img id then e1.ty (inv id) else e.ty id, ln := fun id => if img id then e1.ln (inv id) else e.ln id, G := fun a b => e1.G a b ∨ (e.G a b ∧ ¬ ∃ id ∈ L, ∃ o, e.ι id = some (a, o)) }
  have hnew : ∀ id, nx ≤ id → id < nx + (out0.nx - L.length) → id ∉ L := fun id h1 h2 hid => hu id h1 h2 (hU id hid)
  have hrho : ∀ j, j < out0.nx → img (rho1 L nx j) ∧ inv (rho1 L nx j) = j := fun j hj => by
    by_cases hl : j < L.length
    · obtain ⟨h1, h2⟩ := hg j hl
      have : rho1 L nx j = g j := by unfold rho1; rw [h1]
      rw [this]
      refine ⟨.inl h2, ?_⟩
      simp only [inv]; rw [if_pos h2, hig j hl]
    · have : rho1 L nx j = nx + (j - L.length) := by unfold rho1; rw [getN_none (by omega)]
      rw [this]
      have hlt : nx + (j - L.length) < nx + (out0.nx - L.length) := by omega
      refine ⟨.inr ⟨by omega, hlt⟩, ?_⟩
      simp only [inv]; rw [if_neg (hnew _ (by omega) hlt)]; omega
  have hinv : ∀ id, img id → inv id < out0.nx ∧ rho1 L nx (inv id) = id := fun id hid => by
    by_cases hl : id ∈ L
    · obtain ⟨h1, h2⟩ := get_idx hl
      simp only [inv]; rw [if_pos hl]
      refine ⟨by omega, ?_⟩
      unfold rho1; rw [h1]
    · have hid := hid.resolve_left hl
      simp only [inv]; rw [if_neg hl]
      refine ⟨by omega, ?_⟩
      unfold rho1; rw [getN_none (by omega)]; simp only; omega
  have hrinj : ∀ i j, i < out0.nx → j < out0.nx → rho1 L nx i = rho1 L nx j → i = j := fun i j hi hj h => by
    rw [← (hrho i hi).2, ← (hrho j hj).2, h]
  have ren1 : REN e1 e2 (rho1 L nx) (tau1 of L) (fun j => e1.U j) := by
    refine ⟨rfl, fun _ _ => Iff.rfl, fun j _ hj => ?_, fun j _ hj => ?_, fun j _ hj => ?_, fun j _ hj => ?_, fun j _ hj hb => ?_, fun j ver v _ hj hτ h0 hle => ?_, fun _ _ _ _ _ _ _ hG => .inl hG⟩
    · show if img (rho1 L nx j) then e1.U (inv (rho1 L nx j)) else e.U (rho1 L nx j)
      obtain ⟨h1, h2⟩ := hrho j (k3 j hj)
      rw [if_pos h1, h2]; exact hj
    · show (if img (rho1 L nx j) then e1.ι (inv (rho1 L nx j)) else e.ι (rho1 L nx j)) = _
      obtain ⟨h1, h2⟩ := hrho j (k3 j hj)
      rw [if_pos h1, h2]
    · show (if img (rho1 L nx j) then e1.ty (inv (rho1 L nx j)) else e.ty (rho1 L nx j)) = _
      obtain ⟨h1, h2⟩ := hrho j (k3 j hj)
      rw [if_pos h1, h2]
    · show (if img (rho1 L nx j) then e1.ln (inv (rho1 L nx j)) else e.ln (rho1 L nx j)) = _
      obtain ⟨h1, h2⟩ := hrho j (k3 j hj)
      rw [if_pos h1, h2]
    · show (if img (rho1 L nx j) then e1.bn (inv (rho1 L nx j)) + dl (inv (rho1 L nx j)) else e.bn (rho1 L nx j)) = 0
      obtain ⟨h1, h2⟩ := hrho j (k3 j hj)
      rw [if_pos h1, h2, hb]
      simp only [dl]
      by_cases hl : j < L.length
      · rw [if_pos hl]
        have := k2.up j hl
        have hq : (if verOf of (g j) = 0 then 0 else 1) ≤ e1.bn j := this
        by_cases hv : verOf of (g j) = 0
        · omega
        · rw [if_neg hv] at hq; omega
      · rw [if_neg hl]
    · have e2bn : e2.bn (rho1 L nx j) = e1.bn j + dl j := by
        show (if img (rho1 L nx j) then e1.bn (inv (rho1 L nx j)) + dl (inv (rho1 L nx j)) else e.bn (rho1 L nx j)) = _
        obtain ⟨h1, h2⟩ := hrho j (k3 j hj)
        rw [if_pos h1, h2]
      have hv : v = ver + dl j := by
        unfold tau1 at hτ
        simp only [dl]
        by_cases hl : j < L.length
        · rw [(hg j hl).1] at hτ; rw [if_pos hl]; simpa using hτ.symm
        · rw [getN_none (by omega)] at hτ; rw [if_neg hl]; simpa using hτ.symm
      rw [e2bn, hv]
      exact ⟨by omega, by omega, fun h => by omega⟩
  have imgU : ∀ id, img id → e.U id → id ∈ L := fun id hid hU' => by
    rcases hid with h | h
    · exact h
    · exact absurd hU' (hu id h.1 h.2)
  have le2 : e.le e2 := by
    refine ⟨fun b i h => ⟨(k2.S b i h).1, fun y hy => (k2.S b i h).2 y hy⟩, fun id hid => ?_, fun id hid hbe => ?_, fun id hid hb => ?_, fun id hid => ?_, fun id hid => ?_, k2.grow, k2.keep⟩
    · show if img id then e1.U (inv id) else e.U id
      by_cases hi : img id
      · have hl := imgU id hi hid
        rw [if_pos hi]
        refine k3' _ ?_
        simp only [inv]; rw [if_pos hl]; exact (hgi id hl).2
      · rw [if_neg hi]; exact hid
    · by_cases hi : img id
      · have hl := imgU id hi hid
        have hiv : inv id = idxL L id := by simp only [inv]; rw [if_pos hl]
        have hbe : (if img id then e1.bn (inv id) + dl (inv id) else e.bn id) = e.bn id := hbe
        rw [if_pos hi, hiv] at hbe
        have hlt := (hgi id hl).2
        have hdl : dl (idxL L id) = verOf of id - 1 := by simp only [dl]; rw [if_pos hlt, (hgi id hl).1]
        have hb0 : e0.bn (idxL L id) = if verOf of id = 0 then 0 else 1 := by
          show (if verOf of (g (idxL L id)) = 0 then 0 else 1) = _
          rw [(hgi id hl).1]
        have hup := k2.up _ hlt
        rw [hbn id hl, hdl] at hbe
        have heq : e1.bn (idxL L id) = e0.bn (idxL L id) := by
          rw [hb0] at hup ⊢
          by_cases hv : verOf of id = 0
          · rw [if_pos hv] at hup ⊢; omega
          · rw [if_neg hv] at hup ⊢; omega
        obtain ⟨q1, q2, q3⟩ := k2.obj _ hlt heq
        have i0 : e0.ι (idxL L id) = e.ι id := by
          show (if idxL L id < L.length then e.ι (g (idxL L id)) else none) = _
          rw [if_pos hlt, (hgi id hl).1]
        refine ⟨?_, ?_, fun b o hb => ?_⟩
        · show (if img id then e1.ι (inv id) else e.ι id) = _
          rw [if_pos hi, hiv, q1, i0]
        · show (if img id then e1.ln (inv id) else e.ln id) = _
          rw [if_pos hi, hiv, q2]
          show e.ln (g (idxL L id)) = _
          rw [(hgi id hl).1]
        · exact q3 b o (by rw [i0]; exact hb)
      · refine ⟨?_, ?_, fun b o hb => k2.keep b (hos.lt _ _ _ hid hb)⟩
        · show (if img id then e1.ι (inv id) else e.ι id) = _; rw [if_neg hi]
        · show (if img id then e1.ln (inv id) else e.ln id) = _; rw [if_neg hi]
    · show (if img id then e1.bn (inv id) + dl (inv id) else e.bn id) = 0
      by_cases hi : img id
      · have hl := imgU id hi hid
        have hiv : inv id = idxL L id := by simp only [inv]; rw [if_pos hl]
        have hlt := (hgi id hl).2
        have hv : verOf of id = 0 := by rw [← hbn id hl]; exact hb
        rw [if_pos hi, hiv]
        have hb0 : e0.bn (idxL L id) = 0 := by
          show (if verOf of (g (idxL L id)) = 0 then 0 else 1) = 0
          rw [(hgi id hl).1, if_pos hv]
        have := k2.box _ hlt hb0
        have hdl : dl (idxL L id) = 0 := by simp only [dl]; rw [if_pos hlt, (hgi id hl).1]; omega
        omega
      · rw [if_neg hi]; exact hb
    · show e.bn id ≤ (if img id then e1.bn (inv id) + dl (inv id) else e.bn id)
      by_cases hi : img id
      · have hl := imgU id hi hid
        have hiv : inv id = idxL L id := by simp only [inv]; rw [if_pos hl]
        have hlt := (hgi id hl).2
        rw [if_pos hi, hiv, hbn id hl]
        have hup := k2.up _ hlt
        have hb0 : e0.bn (idxL L id) = if verOf of id = 0 then 0 else 1 := by
          show (if verOf of (g (idxL L id)) = 0 then 0 else 1) = _
          rw [(hgi id hl).1]
        have hdl : dl (idxL L id) = verOf of id - 1 := by simp only [dl]; rw [if_pos hlt, (hgi id hl).1]
        rw [hb0] at hup
        by_cases hv : verOf of id = 0
        · omega
        · rw [if_neg hv] at hup; omega
      · rw [if_neg hi]; exact Nat.le_refl _
    · show (if img id then e1.ty (inv id) else e.ty id) = _
      by_cases hi : img id
      · have hl := imgU id hi hid
        have hiv : inv id = idxL L id := by simp only [inv]; rw [if_pos hl]
        have hlt := (hgi id hl).2
        rw [if_pos hi, hiv, k2.ty _ hlt]
        show e.ty (g (idxL L id)) = _
        rw [(hgi id hl).1]
      · rw [if_neg hi]
  have hfin : ∀ j, put (ofL (canL of L L)) out0.wo j = put (put (fun _ => none) (numL 0 (canL of L L))) out0.wo j := fun j => by
    refine put_agree _ ?_
    rw [put_num, if_pos (Nat.zero_le _), Nat.sub_zero]
    cases ofL (canL of L L) j <;> rfl
  have hids : ∀ i ∈ ids (numL 0 (canL of L L) ++ out0.wo), i < out0.nx := fun i hi => by
    have hs1 : (put (ofL (canL of L L)) out0.wo i).isSome := by
      rw [hfin, ← put_append]
      exact put_isSome _ _ _ (.inl hi)
    obtain ⟨o, ho⟩ := Option.isSome_iff_exists.1 hs1
    exact k3 _ (k1.ok _ _ ho).use
  have hput1 : ∀ j, j < out0.nx → put of' (backL of L nx (numL 0 (canL of L L) ++ out0.wo)) (rho1 L nx j) = (put (ofL (canL of L L)) out0.wo j).map (rnO (rho1 L nx) (tau1 of L) j) := fun j hj => by
    rw [hfin, ← put_append]
    by_cases hl : j < L.length
    · -- overwritten by its own
      have : put of' (backL of L nx (numL 0 (canL of L L) ++ out0.wo)) (rho1 L nx j) = put (fun _ => none) (backL of L nx (numL 0 (canL of L L) ++ out0.wo)) (rho1 L nx j) := by
        have happ : backL of L nx (numL 0 (canL of L L) ++ out0.wo) = backL of L nx (numL 0 (canL of L L)) ++ backL of L nx out0.wo := by
          generalize numL 0 (canL of L L) = l1
          induction l1 with
          | nil => rfl
          | cons p r ih => simp only [List.cons_append, backL, ih]
        rw [happ, put_append, put_append]
        refine put_agree _ ?_
        have hsomeN : (put (fun _ => none) (numL 0 (canL of L L)) j).isSome := by
          rw [put_num, if_pos (Nat.zero_le _), Nat.sub_zero]
          obtain ⟨o, ho⟩ := Option.isSome_iff_exists.1 (hcan1 j hl)
          rw [ho]; rfl
        have hin : ∀ i ∈ ids (numL 0 (canL of L L)), rho1 L nx i = rho1 L nx j → i = j := fun i hi h => hrinj i j (hids i (by simp only [ids, List.map_append, List.mem_append]; exact .inl hi)) hj h
        have key : ∀ (l : List (Nat × Ob)) (f g : Nat → Option Ob) (id : Nat), (put (fun _ => none) l id).isSome ∨ f id = g id → put f l id = put g l id := by
          intro l
          induction l with
          | nil => intro f g id h; rcases h with h | h
                   · cases h
                   · exact h
          | cons p r ih =>
            intro f g id h
            refine ih _ _ id ?_
            by_cases hid : id = p.1
            · right; subst hid; rw [upd_same, upd_same]
            · rw [upd_ne _ _ hid, upd_ne _ _ hid]
              rcases h with h | h
              · left
                have : put (upd (fun _ => none) p.1 (some p.2)) r id = put (fun _ => none) r id := put_agree r (upd_ne _ _ hid)
                rw [← this]; exact h
              · exact .inr h
        refine key _ _ _ _ (.inl ?_)
        rw [put_back (of := of) (numL 0 (canL of L L)) (fun _ => none) (fun _ => none) j hin rfl]
        obtain ⟨o, ho⟩ := Option.isSome_iff_exists.1 hsomeN
        rw [ho]; rfl
      rw [this]
      exact put_back (of := of) _ _ _ j (fun i hi h => hrinj i j (hids i hi) hj h) rfl
    · refine put_back (of := of) _ _ _ j (fun i hi h => hrinj i j (hids i hi) hj h) ?_
      have hr : rho1 L nx j = nx + (j - L.length) := by unfold rho1; rw [getN_none (by omega)]
      cases hq : of' (rho1 L nx j) with
      | none => rfl
      | some o =>
        have := (hos.ok _ _ hq).use
        rw [hr] at this
        exact absurd this (hu _ (by omega) (by show nx + (j - L.length) < nx + (out0.nx - L.length); omega))
  have hput2 : ∀ id, ¬ img id → put of' (backL of L nx (numL 0 (canL of L L) ++ out0.wo)) id = of' id := fun id hid => put_not _ _ _ (fun i hi h => hid (h ▸ (hrho i (hids i hi)).1))
  have hall : ∀ j o, put (ofL (canL of L L)) out0.wo j = some o → okT o = true := allT_put _ _ hat (fun j o hj => by
    obtain ⟨_, o1, _, rfl⟩ := hcan j o hj; exact okT_rn)
  have himgO : ∀ id o, img id → put of' (backL of L nx (numL 0 (canL of L L) ++ out0.wo)) id = some o → ∃ o1, put (ofL (canL of L L)) out0.wo (inv id) = some o1 ∧ o = rnO (rho1 L nx) (tau1 of L) (inv id) o1 := fun id o hid ho => by
    obtain ⟨h1, h2⟩ := hinv id hid
    rw [← h2, hput1 _ h1] at ho
    cases hq : put (ofL (canL of L L)) out0.wo (inv id) with
    | none => rw [hq] at ho; cases ho
    | some o1 => rw [hq] at ho; exact ⟨o1, rfl, by simpa using ho.symm⟩
  have hι2 : ∀ id, img id → e2.ι id = e1.ι (inv id) := fun id hid => by
    show (if img id then e1.ι (inv id) else e.ι id) = _; rw [if_pos hid]
  have hι2' : ∀ id, ¬ img id → e2.ι id = e.ι id := fun id hid => by
    show (if img id then e1.ι (inv id) else e.ι id) = _; rw [if_neg hid]
  have hM : ∀ b, c0.M b → c.w0.heap.size ≤ b ∨ c.M b := fun b hb => by
    rcases hb with ⟨id, hid, o, hb⟩ | ⟨a, hG, _⟩
    · exact hos.own id b o (hsome' id hid) hb
    · exact hos.g.own a b hG
  have hGM : ∀ a b, e.G a b → (¬ ∃ id ∈ L, ∃ o, e.ι id = some (a, o)) → ¬ c0.M b := fun a b hG hn hb => by
    rcases hb with ⟨id, hid, o, hb⟩ | ⟨a', hG', hL⟩
    · exact hos.g.sep a b hG id b o (hsome' id hid) hb rfl
    · exact hn (hos.g.uniq _ _ _ hG hG' ▸ hL)
  have hnM : ∀ id b o, ¬ img id → (of' id).isSome → e.ι id = some (b, o) → ¬ c0.M b ∧ b < e.w.heap.size := fun id b o hid hs1 hb => by
    obtain ⟨o1, ho1⟩ := Option.isSome_iff_exists.1 hs1
    refine ⟨fun hMb => ?_, hos.lt _ _ _ (hos.ok _ _ ho1).use hb⟩
    rcases hMb with ⟨id', hid', o', hb'⟩ | ⟨a, hG, _⟩
    · exact absurd rfl (hos.sep id id' b o b o' hs1 (hsome' id' hid') hb hb' (fun q => hid (.inl (q ▸ hid'))))
    · exact hos.g.sep a b hG id b o hs1 hb rfl
  refine ⟨e2, rfl, ?_, le2, fun id hid => ?_, ?_⟩
  · show OSim T c e2 (put of' (backL of L nx (numL 0 (canL of L L) ++ out0.wo)))
    refine ⟨fun id o ho => ?_, fun i j b o b' o' hi hj hbi hbj hne => ?_, fun id b o hid hb => ?_, fun id b o hid hb => ?_, fun b i h => k1.slt b i h, fun b i h => (k2.S b i (hos.s0 b i h)).1, fun b i h => ?_, k1.os.trans hos.os, k1.tape.trans hos.tape, k1.output.trans hos.output, Nat.le_trans hos.size k1.size, fun k hk hm' => ?_, ⟨fun a b hG j b' o hj hb => ?_, fun a a' b h1 h2 => ?_, fun a b hG => ?_, fun a b hG => ?_⟩⟩
    · by_cases hi : img id
      · obtain ⟨o1, h1, rfl⟩ := himgO id o hi ho
        have hok1 := k1.ok _ _ h1
        have := hok1.ren ren1 hok1.use (fun k hk => hok1.used k hk) (hall _ _ h1) (fun el ver xs nl sh he => by
          subst he
          have hj := k3 _ hok1.use
          have hτ : tau1 of L (inv id) ver = some (ver + dl (inv id)) := by
            unfold tau1
            simp only [dl]
            by_cases hl : inv id < L.length
            · rw [(hg _ hl).1, if_pos hl]
            · rw [getN_none (by omega), if_neg hl]; rfl
          refine ⟨_, hτ, ?_⟩
          show (if img (rho1 L nx (inv id)) then e1.bn (inv (rho1 L nx (inv id))) + dl (inv (rho1 L nx (inv id))) else e.bn (rho1 L nx (inv id))) = _
          obtain ⟨q1, q2⟩ := hrho _ hj
          rw [if_pos q1, q2, hok1.2.2.1])
        rw [(hinv id hi).2] at this
        exact this
      · rw [hput2 id hi] at ho
        refine (hos.ok id o ho).keep le2 (by show (if img id then e1.bn (inv id) + dl (inv id) else e.bn id) = _; rw [if_neg hi]) (fun b o' hb => ?_) (fun b o' i hb hs' => ?_) (fun a o' b hb hG => ?_)
        · obtain ⟨h1, h2⟩ := hnM id b o' hi (by rw [ho]; rfl) hb
          exact k1.block b h2 h1
        · obtain ⟨h1, h2⟩ := hnM id b o' hi (by rw [ho]; rfl) hb
          rcases k1.snew b i hs' with h | h | h
          · exact h
          · have h : e.w.heap.size ≤ b := h; omega
          · exact absurd h h1
        · obtain ⟨h1, h2⟩ := hnM id a o' hi (by rw [ho]; rfl) hb
          have hn : ¬ ∃ id ∈ L, ∃ o, e.ι id = some (a, o) := fun q => h1 (.inl q)
          have hb1 := hGM a b hG hn
          have hlt := hos.g.lt a b hG
          refine ⟨.inr ⟨hG, hn⟩, k1.block b hlt hb1, fun i hs' => ?_⟩
          rcases k1.snew b i hs' with h | h | h
          · exact h
          · have h : e.w.heap.size ≤ b := h; omega
          · exact absurd h hb1
    · by_cases h1 : img i <;> by_cases h2 : img j
      · rw [hι2 i h1] at hbi; rw [hι2 j h2] at hbj
        obtain ⟨oi, hi⟩ := Option.isSome_iff_exists.1 hi
        obtain ⟨oj, hj⟩ := Option.isSome_iff_exists.1 hj
        obtain ⟨o1, p1, _⟩ := himgO i oi h1 hi
        obtain ⟨o2, p2, _⟩ := himgO j oj h2 hj
        exact k1.sep _ _ _ _ _ _ (by rw [p1]; rfl) (by rw [p2]; rfl) hbi hbj (fun q => hne (by rw [← (hinv i h1).2, q, (hinv j h2).2]))
      · rw [hι2 i h1] at hbi; rw [hι2' j h2] at hbj
        obtain ⟨oi, hi⟩ := Option.isSome_iff_exists.1 hi
        obtain ⟨o1, p1, _⟩ := himgO i oi h1 hi
        rw [hput2 j h2] at hj
        obtain ⟨q1, q2⟩ := hnM j b' o' h2 hj hbj
        rcases k1.own _ b o (by rw [p1]; rfl) hbi with h | h
        · have h : e.w.heap.size ≤ b := h; intro q; omega
        · intro q; exact q1 (q ▸ h)
      · rw [hι2' i h1] at hbi; rw [hι2 j h2] at hbj
        obtain ⟨oj, hj⟩ := Option.isSome_iff_exists.1 hj
        obtain ⟨o2, p2, _⟩ := himgO j oj h2 hj
        rw [hput2 i h1] at hi
        obtain ⟨q1, q2⟩ := hnM i b o h1 hi hbi
        rcases k1.own _ b' o' (by rw [p2]; rfl) hbj with h | h
        · have h : e.w.heap.size ≤ b' := h; intro q; omega
        · intro q; exact q1 (q ▸ h)
      · rw [hι2' i h1] at hbi; rw [hι2' j h2] at hbj
        rw [hput2 i h1] at hi; rw [hput2 j h2] at hj
        exact hos.sep _ _ _ _ _ _ hi hj hbi hbj hne
    · by_cases h1 : img id
      · rw [hι2 id h1] at hb
        obtain ⟨o1, hid⟩ := Option.isSome_iff_exists.1 hid
        obtain ⟨o2, p1, _⟩ := himgO id o1 h1 hid
        rcases k1.own _ b o (by rw [p1]; rfl) hb with h | h
        · have h : e.w.heap.size ≤ b := h
          have := hos.size; exact .inl (by omega)
        · exact hM b h
      · rw [hι2' id h1] at hb; rw [hput2 id h1] at hid
        exact hos.own id b o hid hb
    · by_cases h1 : img id
      · rw [hι2 id h1] at hb
        have hid : if img id then e1.U (inv id) else e.U id := hid
        rw [if_pos h1] at hid
        exact k1.lt _ _ _ hid hb
      · rw [hι2' id h1] at hb
        have hid : if img id then e1.U (inv id) else e.U id := hid
        rw [if_neg h1] at hid
        have := hos.lt _ _ _ hid hb
        have := k2.grow
        have : e.w.heap.size ≤ e1.w.heap.size := this
        show b < e1.w.heap.size; omega
    · rcases k1.snew b i h with h | h | h
      · exact hos.snew b i h
      · have h : e.w.heap.size ≤ b := h
        have := hos.size; exact .inr (.inl (by omega))
      · exact .inr (hM b h)
    · have hnm : ¬ c0.M k := fun h => by
        rcases hM k h with h | h
        · omega
        · exact hm' h
      exact (k1.block k (Nat.lt_of_lt_of_le hk hos.size) hnm).trans (hos.block k hk hm')
    · have hG : e1.G a b ∨ (e.G a b ∧ ¬ ∃ id ∈ L, ∃ o, e.ι id = some (a, o)) := hG
      by_cases h1 : img j
      · rw [hι2 j h1] at hb
        obtain ⟨o1, hj⟩ := Option.isSome_iff_exists.1 hj
        obtain ⟨o2, p1, _⟩ := himgO j o1 h1 hj
        rcases hG with hG | ⟨hG, hn⟩
        · exact k1.g.sep a b hG (inv j) b' o (by rw [p1]; rfl) hb
        · have hlt := hos.g.lt a b hG
          rcases k1.own _ b' o (by rw [p1]; rfl) hb with h | h
          · have h : e.w.heap.size ≤ b' := h; intro q; omega
          · intro q; exact hGM a b hG hn (q ▸ h)
      · rw [hι2' j h1] at hb
        rw [hput2 j h1] at hj
        obtain ⟨q1, q2⟩ := hnM j b' o h1 hj hb
        rcases hG with hG | ⟨hG, hn⟩
        · rcases k1.g.own a b hG with h | h
          · have h : e.w.heap.size ≤ b := h; intro q; omega
          · intro q; exact q1 (q ▸ h)
        · exact hos.g.sep a b hG j b' o hj hb
    · have h1 : e1.G a b ∨ (e.G a b ∧ ¬ ∃ id ∈ L, ∃ o, e.ι id = some (a, o)) := h1
      have h2 : e1.G a' b ∨ (e.G a' b ∧ ¬ ∃ id ∈ L, ∃ o, e.ι id = some (a', o)) := h2
      have cross : ∀ a a', e1.G a b → e.G a' b → (¬ ∃ id ∈ L, ∃ o, e.ι id = some (a', o)) → False := fun a a' g1 g2 hn => by
        have hlt := hos.g.lt a' b g2
        rcases k1.g.own a b g1 with h | h
        · have h : e.w.heap.size ≤ b := h; omega
        · exact hGM a' b g2 hn h
      rcases h1 with h1 | ⟨h1, n1⟩ <;> rcases h2 with h2 | ⟨h2, n2⟩
      · exact k1.g.uniq _ _ _ h1 h2
      · exact (cross a a' h1 h2 n2).elim
      · exact (cross a' a h2 h1 n1).elim
      · exact hos.g.uniq _ _ _ h1 h2
    · have hG : e1.G a b ∨ (e.G a b ∧ ¬ ∃ id ∈ L, ∃ o, e.ι id = some (a, o)) := hG
      rcases hG with hG | ⟨hG, _⟩
      · rcases k1.g.own a b hG with h | h
        · have h : e.w.heap.size ≤ b := h
          have := hos.size; exact .inl (by omega)
        · exact hM b h
      · exact hos.g.own a b hG
    · have hG : e1.G a b ∨ (e.G a b ∧ ¬ ∃ id ∈ L, ∃ o, e.ι id = some (a, o)) := hG
      rcases hG with hG | ⟨hG, _⟩
      · exact k1.g.lt a b hG
      · have := hos.g.lt a b hG
        have := k2.grow
        have : e.w.heap.size ≤ e1.w.heap.size := this
        show b < e1.w.heap.size; omega
  · have hid : if img id then e1.U (inv id) else e.U id := hid
    by_cases h1 : img id
    · rcases h1 with h | h
      · exact .inl (hU id h)
      · exact .inr h
    · rw [if_neg h1] at hid; exact .inl hid
  · exact k4.ren ren1 (fun id hid => k4.usedR id hid)
end Go.Vm

namespace Go.Vm
open Go.RowKit
variable {P : Program} {T : TT} {c : Ctx} {e eb : Env} {of of' : Nat → Option Ob}
def preW (of : Nat → Option Ob) : Nat → List (Nat × Ob)
  | 0 => []
  | n + 1 => match of n with
    | some o => (n, o) :: preW of n
    | none => preW of n
def dnL : Nat → List Nat
  | 0 => []
  | n + 1 => n :: dnL n
def preT (of : Nat → Option Ob) (n : Nat) : Tr := setL .e (preW of n)
theorem dnL_mem {n id : Nat} (h : id < n) : id ∈ dnL n := by
  induction n with
  | zero => cases h
  | succ n ih =>
    simp only [dnL, List.mem_cons]
    by_cases hid : id = n
    · exact .inl hid
    · exact .inr (ih (by omega))
theorem preW_put {n : Nat} : (∀ id, id < n → of' id = of id) → put of' (preW of n) = of' := by
  induction n with
  | zero => intro _; rfl
  | succ n ih =>
    intro h
    have e := ih (fun id hid => h id (by omega))
    simp only [preW]
    cases ho : of n with
    | none => exact e
    | some o =>
      simp only [put]
      have : upd of' n (some o) = of' := by
        funext k
        by_cases hk : k = n
        · subst hk; rw [upd_same, h k (by omega), ho]
        · rw [upd_ne _ _ hk]
      rw [this]; exact e
theorem preT_over {n : Nat} (h : ∀ id, id < n → of' id = of id) : over (preT of n) of' = of' := by
  unfold preT
  rw [over_setL]
  have : over Tr.e of' = of' := by funext id; unfold over; rw [Tr.get_e]
  rw [this]; exact preW_put h
def runP (P : Program) (T : TT) (K : KS) (Lo : Nat → LTab) (fu f : Nat) : Sym := fun args of nx =>
  match P.funcs[f]? with
  | some fn => match fn.body with
    | some code => if !(fn.name == "runtime.NumGoroutine") && Nat.ble args.length fn.ntmps then
        (match exec T K (Lo nx) fu fn.ntmps of code ⟨argS 0 args, preT of nx, dnL nx, nx, some []⟩ with
        | some (ex, σ) => if endB ex then
            (match σ.mks with
            | some ms => if mksB nx σ.nx σ.ob.get ms then
              (match resA T (getS σ.sl) (over σ.ob of) fn.results.toList with
              | some (v, ro) => some (lessW ms (pack nx v σ ro))
              | none => none) else none
            | none => none) else none
        | none => none) else none
    | none => none
  | none => none
theorem runP_ok (hm : P.follows .mixedOrders = true) (hT : TOK T P) {K : KS} (hK : KOK P T K) {Lo : Nat → LTab} {fu f : Nat} (hL : ∀ n0 fn code, P.funcs[f]? = some fn → fn.body = some code → LoopsOK P T fn.ntmps n0 (Lo n0) code) : SymOK P T f (runP P T K Lo fu f) := by
  intro c e of of' args vals nx out hos hr hro hu hvals
  unfold runP at hr
  split at hr <;> try (cases hr; done)
  rename_i fn hf
  split at hr <;> try (cases hr; done)
  rename_i code hb
  split at hr <;> try (cases hr; done)
  rename_i hcc
  simp only [Bool.and_eq_true, Bool.not_eq_true'] at hcc
  obtain ⟨hn, hargs⟩ := hcc
  have hargs := Nat.le_of_ble_eq_true hargs
  split at hr <;> try (cases hr; done)
  rename_i ex σ hx
  split at hr <;> try (cases hr; done)
  rename_i hend
  split at hr <;> try (cases hr; done)
  rename_i ms hmk
  split at hr <;> try (cases hr; done)
  rename_i hmb
  obtain ⟨hms, hnd⟩ := mksB_spec _ hmb
  split at hr <;> try (cases hr; done)
  rename_i v ro hres
  injection hr with hr
  obtain ⟨q1, q2, q3, q4⟩ := lessW_spec ms (pack nx v σ ro)
  obtain ⟨o1, o2, o3, o4⟩ := pack_spec nx v σ ro
  rw [hr] at q1 q2 q3 q4
  have o1 := q1.trans o1
  have o2 := q2.trans o2
  have o3 := q3.trans o3
  have hcall : (callFunc f vals).run P e.w = .ok (.enter f vals) e.w := by
    have hn' : ¬ fn.name = "runtime.NumGoroutine" := by simpa using hn
    simp [callFunc, hf, hn', hb]
  refine .inr (.inr (.inl ⟨f, vals, e.w, hcall, ?_⟩))
  refine (callsIn_wide (n := 0)).1 (callsIn_of_wp_marks (F := WF none) hf hb trivial ?_ rfl)
  have hlen := hvals.get.1
  rw [Array.length_toList] at hlen
  obtain ⟨l1, k1⟩ := exec_ok (of := of) (n0 := nx) hm hT hK code (hL nx fn code hf hb) _ _ _ hx
  have hsim : Sim T { c with rd := none } e of' nx fn.ntmps ⟨argS 0 args, preT of nx, dnL nx, nx, some []⟩ { tmps := vals ++ Array.replicate (fn.ntmps - vals.size) undef, defers := [] } e.w := by
    refine ⟨e, rfl, ?_, Env.le.refl e, fun id hid => .inl hid, fun t => ?_, ⟨rfl, .nil⟩, by simp; omega⟩
    · have : over (preT of nx) of' = of' := preT_over fun id hid => hro id (by rw [o2]; exact addR_mono _ _ _ _ (l1.1 _ (dnL_mem hid)))
      rw [this]; exact hos.ctx none
    · show Rep T e (getS (argS 0 args) t) _
      rw [getS_argS, if_neg (by omega), Nat.sub_zero]
      by_cases ht : t < args.length
      · have h1 : args[t]? = some args[t] := List.getElem?_eq_getElem ht
        have h2 : vals.toList[t]? = some vals[t] := by rw [Array.getElem?_toList]; exact Array.getElem?_eq_getElem (by omega)
        have := hvals.get.2 t _ _ h1 h2
        have e1 : args.getD t .x = args[t] := by simp [List.getD, h1]
        have e2 : (vals ++ Array.replicate (fn.ntmps - vals.size) undef).getD t undef = vals[t] := by
          have : t < vals.size := by omega
          simp [Array.getD, Array.getElem_append_left this]
          omega
        rw [e1]
        show Rep T e _ ((vals ++ Array.replicate (fn.ntmps - vals.size) undef).getD t undef)
        rw [e2]; exact this
      · rw [show args.getD t .x = .x by simp [List.getD, List.getElem?_eq_none (by omega : args.length ≤ t)]]
        trivial
  have hfit : Fits of of' e nx σ := ⟨fun id hid => hro id (by rw [o2]; exact addR_mono _ _ _ _ hid), fun id h1 h2 => hu id h1 (by rw [o3]; exact h2)⟩
  refine wpI_mono ?_ (k1 0 of' { c with rd := none } e _ _ (Nat.le_refl _) hfit hos.ok hsim)
  rintro ex' a w ⟨rfl, e', rfl, hst⟩
  have hmarks := hst.def_
  rw [hmk] at hmarks
  have hms' : ∀ id ∈ ms, over σ.ob of' id = some (.lp none) := fun id hid => over_ge (hms id hid).1
  have fin : LeavesInM (WF none) 0 P fn a.tmps (fun en w' => ∃ x, en = .returned x ∧ LeftN T c e of' nx out x w') a.defers .returning e'.w := by
    refine leaves_marks ms a.defers e' (over σ.ob of') hmarks.2 hms' hnd hst.os (fun e2 hle hu2 hos2 => ?_)
    have hst2 : Stands T { c with rd := none } e (getS σ.sl) (dropO ms (over σ.ob of')) (fun id => e.U id ∨ (nx ≤ id ∧ id < σ.nx)) fn.ntmps σ.mks a e2 :=
      ⟨hos2, hst.le.trans hle, fun id hid => hst.U id (hu2 id hid), fun t => (hst.sl t).mono hle, hst.def_.mono hle, hst.nt⟩
    have hres2 : resA T (getS σ.sl) (dropO ms (over σ.ob of)) fn.results.toList = some (v, ro) := by
      refine resA_congr (fun id t b sh hid => ?_) hres
      unfold dropO
      have : mem id ms = false := by
        rw [← Bool.not_eq_true]; intro q
        rw [over_ge (of := of) (hms id (mem_iff.1 q)).1] at hid; cases hid
      rw [this]; exact hid
    have hagree := over_agree (ob := σ.ob) (rd := out.ro) (ro := ro) (l := σ.rd) (of := of) (of' := of') (fun id hid => hro id hid) (by rw [o2]; exact fun _ h => h)
    obtain ⟨x, g1, g2⟩ := resA_ok hT fn hst2 hres2 (fun id hid => by
      unfold dropO
      rw [hagree id hid])
    refine ⟨x, g1, x, rfl, e2, rfl, ?_, hst2.le, fun id hid => by rw [o3]; exact hst2.U id hid, by rw [o1]; exact g2⟩
    refine (hos2.unctx).sub (fun id o ho => ?_)
    rcases q4 of' id o ho with ⟨h1, h2⟩ | ⟨h1, h2⟩
    · obtain ⟨_, h3, h4⟩ := hms id h1
      exact absurd (hos.ok _ _ h2).use (hfit.fr id h3 h4)
    · have := pack_sub (of' := of') hos.ok hfit.fr id o h2
      unfold dropO
      have hm' : mem id ms = false := by
        rw [← Bool.not_eq_true]; intro q; exact h1 (mem_iff.1 q)
      rw [hm']; exact this
  cases ex' with
  | ret => exact fin
  | normal => exact fin
  | _ => cases hend
variable {R : Type}
def runPC (P : Program) (T : TT) (K : KC) (Lo : Nat → LC) (fl : Bool) (fu f : Nat) : SymC := fun R args of nx k =>
  match P.funcs[f]? with
  | some fn => match fn.body with
    | some code => bif !(fn.name == "runtime.NumGoroutine") && Nat.ble args.length fn.ntmps then
        execC T K (Lo nx) fl fu fn.ntmps of R code ⟨argS 0 args, preT of nx, dnL nx, nx, some []⟩ fun ex σ => bif endB ex then
          (match σ.mks with
          | some ms => bif mksB nx σ.nx σ.ob.get ms then
            (match resA T (getS σ.sl) (over σ.ob of) fn.results.toList with
            | some p => k (lessW ms (pack nx p.1 σ p.2))
            | none => none) else none
          | none => none) else none
        else none
    | none => none
  | none => none
theorem runPC_eq {P : Program} {K : KC} (hK : K.nat) {Lo : Nat → LC} (hL : ∀ n0, LoNat (Lo n0)) {fl : Bool} {fu f : Nat} (R : Type) (args : List A) (of : Nat → Option Ob) (nx : Nat) (k : Eff → Option R) :
    runPC P T K Lo fl fu f R args of nx k = ob (runP P T K.dir (fun n0 => dirL (Lo n0)) fu f args of nx) k := by
  unfold runPC runP
  cases hf : P.funcs[f]? with
  | none => rfl
  | some fn =>
    simp only
    cases hb : fn.body with
    | none => rfl
    | some code =>
      simp only [ob_if]
      cases (!(fn.name == "runtime.NumGoroutine") && Nat.ble args.length fn.ntmps)
      · rfl
      · simp only [cond_true]
        rw [execC_eq hK (hL nx) of R code]
        cases exec T K.dir (dirL (Lo nx)) fu fn.ntmps of code ⟨argS 0 args, preT of nx, dnL nx, nx, some []⟩ with
        | none => rfl
        | some p =>
          obtain ⟨ex, σ⟩ := p
          simp only [ob2, ob_if]
          cases endB ex
          · rfl
          · simp only [cond_true]
            cases σ.mks with
            | none => rfl
            | some ms =>
              simp only [ob_if]
              cases mksB nx σ.nx σ.ob.get ms
              · rfl
              · simp only [cond_true]
                cases resA T (getS σ.sl) (over σ.ob of) fn.results.toList <;> rfl
theorem runPC_nat {P : Program} {K : KC} (hK : K.nat) {Lo : Nat → LC} (hL : ∀ n0, LoNat (Lo n0)) {fl : Bool} {fu f : Nat} : (runPC P T K Lo fl fu f).nat := by
  intro R args of nx k
  rw [runPC_eq hK hL]
  have : (runPC P T K Lo fl fu f).dir args of nx = runP P T K.dir (fun n0 => dirL (Lo n0)) fu f args of nx := by
    show runPC P T K Lo fl fu f Eff args of nx some = _
    rw [runPC_eq hK hL]
    cases runP P T K.dir (fun n0 => dirL (Lo n0)) fu f args of nx <;> rfl
  rw [this]
theorem runPC_ok {P : Program} (hm : P.follows .mixedOrders = true) (hT : TOK T P) {K : KC} (hK : K.nat) (hS : KOK P T K.dir) {Lo : Nat → LC} (hL : ∀ n0, LoNat (Lo n0)) {fl : Bool} {fu f : Nat} (hO : ∀ n0 fn code, P.funcs[f]? = some fn → fn.body = some code → LoopsOK P T fn.ntmps n0 (dirL (Lo n0)) code) : SymOK P T f (runPC P T K Lo fl fu f).dir := by
  have : (runPC P T K Lo fl fu f).dir = runP P T K.dir (fun n0 => dirL (Lo n0)) fu f := by
    funext args of nx
    show runPC P T K Lo fl fu f Eff args of nx some = _
    rw [runPC_eq hK hL]
    cases runP P T K.dir (fun n0 => dirL (Lo n0)) fu f args of nx <;> rfl
  rw [this]
  exact runP_ok hm hT hS hO
theorem TabOK.runP (hm : P.follows .mixedOrders = true) (hT : TOK T P) {tab : List (Nat × SymC)} (h : TabOK P T tab) {f d fu : Nat} {Lo : Nat → LC} (hL : LoopsC P T f Lo) : TabOK P T ((f, trS (runPC P T (runAC P T tab false fu d) Lo false fu f)) :: tab) :=
  h.cons (trS_nat (runPC_nat (runAC_nat h d) hL.nat)) (trS_ok (runPC_nat (runAC_nat h d) hL.nat) (runPC_ok hm hT (runAC_nat h d) (runAC_ok hm hT h d) hL.nat hL.ok).at_)
end Go.Vm

namespace Go.Vm
open Go.RowKit
variable {R : Type}
def bd3 (lo hi : Int) (n : Nat) (k : Option R) : Option R := bif ile 0 lo && ile lo hi && ile hi n then k else none
def mxO (s : V) (xs : List V) (K : V → Nat → Nat → Option R) : Option R :=
  bd3 (0 : Nat) 64 xs.length <| bif Nat.ble (0 + 0 + 64) xs.length then (bif Nat.ble 64 ((xs.drop (0 + 0)).take 64).length then bd3 64 (xs.length : Nat) xs.length <| K (mixV s (.l ((xs.drop (0 + 0)).take 64))) (0 + 64) (((xs.length : Nat) : Int) - 64).toNat else none) else none
def mxW (s : V) (xs : List V) (off q : Nat) (K : V → Nat → Nat → Option R) : Option R :=
  bd3 (0 : Nat) 64 q <| bif Nat.ble (off + 0 + 64) xs.length then (bif Nat.ble 64 ((xs.drop (off + 0)).take 64).length then bd3 64 (q : Nat) q <| K (mixV s (.l ((xs.drop (off + 0)).take 64))) (off + 64) (((q : Nat) : Int) - 64).toNat else none) else none
def hm0 (st : V) (xs : List V) (K : V → Nat → Nat → Option R) (kx : Option R) : Option R := ln xs.length <| bif ilt 0 (xs.length : Nat) then mxO st xs K else kx
def hm1 (st : V) (xs : List V) (o2 q2 : Nat) (K : V → Nat → Nat → Option R) (kx : Option R) : Option R :=
  bif Nat.ble (o2 + q2) xs.length then (ln ((xs.drop o2).take q2).length <| bif ilt 0 (((xs.drop o2).take q2).length : Nat) then mxW st xs o2 q2 K else kx) else none
def hbV (n : Int) (j : Nat) : V := .i (IntKind.wrap .u8 (n.fdiv (2 ^ (8 * j))))
def hs4 (j : Nat) (n : Int) (h : V) : V := (((h.put (4 * j) (hbV n 3)).put (4 * j + 1) (hbV n 2)).put (4 * j + 2) (hbV n 1)).put (4 * j + 3) (.i (IntKind.wrap .u8 n))
def hs8 (v : V) : Nat → Nat → V → V
  | 0, _, h => h
  | m + 1, j, h => hs8 v m (j + 1) (hs4 j (elV v j) h)
end Go.Vm

namespace Go.Vm
open Go.RowKit
variable {R : Type}
theorem mixes_succ {d : Nat} {S : S8} {L : List Nat} (h : L ≠ []) : mixesN (d + 1) S L = mixesN d (mixN S (L.take 64)) (L.drop 64) := by
  cases L with
  | nil => exact absurd rfl h
  | cons a r => rfl
theorem mixes_app : ∀ (a b : Nat) (S : S8) (X Y : List Nat), X.length = 64 * a → mixesN (a + b) S (X ++ Y) = mixesN b (mixesN a S X) Y := by
  intro a
  induction a with
  | zero =>
    intro b S X Y h
    have : X = [] := List.length_eq_zero_iff.1 (by omega)
    subst this
    rw [Nat.zero_add]; rfl
  | succ a ih =>
    intro b S X Y h
    have hne : X ≠ [] := by intro q; subst q; simp at h
    have hne2 : X ++ Y ≠ [] := by intro q; exact hne (List.append_eq_nil_iff.1 q).1
    rw [show a + 1 + b = (a + b) + 1 by omega, mixes_succ hne2, mixes_succ hne, List.take_append_of_le_length (by omega), List.drop_append_of_le_length (by omega)]
    exact ih b _ _ _ (by rw [List.length_drop]; omega)
theorem mixes_take : ∀ (a : Nat) (S : S8) (X Y : List Nat), X.length = 64 * a → mixesN a S (X ++ Y) = mixesN a S X := by
  intro a S X Y h
  have := mixes_app a 0 S X Y h
  rw [Nat.add_zero] at this
  rw [this]; rfl
theorem drop_app {X Y : List Nat} {a : Nat} (b : Nat) (h : X.length = a) : (X ++ Y).drop (a + b) = Y.drop b := by
  subst h
  rw [List.drop_append, List.drop_eq_nil_of_le (by omega)]; simp
theorem take_app {X Y : List Nat} {a : Nat} (b : Nat) (h : X.length = a) : (X ++ Y).take (a + b) = X ++ Y.take b := by
  subst h
  rw [List.take_append, List.take_of_length_le (by omega)]; simp
structure Took (C : List Nat) (S : S8) (B : List Nat) : Prop where
  s : S = mixesN (C.length / 64) s0N (C.take (64 * (C.length / 64)))
  r : B = C.drop (64 * (C.length / 64))
theorem Took.len {C B : List Nat} {S : S8} (h : Took C S B) : B.length = C.length % 64 := by
  rw [h.r, List.length_drop]; omega
theorem Took.add {C B D : List Nat} {S : S8} (h : Took C S B) : Took (C ++ D) (mixesN ((B ++ D).length / 64) S (B ++ D)) ((B ++ D).drop (64 * ((B ++ D).length / 64))) := by
  have hl := h.len
  have hC : C.take (64 * (C.length / 64)) ++ B = C := by rw [h.r, List.take_append_drop]
  have hX : (C.take (64 * (C.length / 64))).length = 64 * (C.length / 64) := by rw [List.length_take]; omega
  have hn : (C ++ D).length / 64 = C.length / 64 + (B ++ D).length / 64 := by
    rw [List.length_append, List.length_append, hl]; omega
  have hCD : C ++ D = C.take (64 * (C.length / 64)) ++ (B ++ D) := by rw [← List.append_assoc, hC]
  have hq : (B ++ D).take (64 * ((B ++ D).length / 64)) ++ (B ++ D).drop (64 * ((B ++ D).length / 64)) = B ++ D := List.take_append_drop _ _
  have hql : ((B ++ D).take (64 * ((B ++ D).length / 64))).length = 64 * ((B ++ D).length / 64) := by rw [List.length_take]; omega
  refine ⟨?_, ?_⟩
  · have e1 : (C ++ D).take (64 * ((C ++ D).length / 64)) = C.take (64 * (C.length / 64)) ++ (B ++ D).take (64 * ((B ++ D).length / 64)) := by
      rw [hn, Nat.mul_add]
      conv => lhs; rw [hCD]
      exact take_app _ hX
    rw [e1, hn, mixes_app _ _ _ _ _ hX, ← h.s]
    have := mixes_take _ S _ ((B ++ D).drop (64 * ((B ++ D).length / 64))) hql
    rw [hq] at this
    exact this
  · rw [hn, Nat.mul_add]
    conv => rhs; rw [hCD]
    exact (drop_app _ hX).symm
end Go.Vm

namespace Go.Vm
open Go.RowKit
variable {R : Type}
end Go.Vm

namespace Go.Vm
open Go.RowKit
variable {R : Type}
end Go.Vm

namespace Go.Vm
open Go.RowKit
variable {R : Type}
end Go.Vm

namespace Go.Vm
open Go.RowKit
variable {R : Type}
end Go.Vm

namespace Go.Vm
open Go.RowKit
variable {T : TT} {P : Program} {c : Ctx} {e eb : Env} {of of' : Nat → Option Ob}
end Go.Vm

namespace Go.Vm
open Go.RowKit
variable {R : Type}
theorem slice_els {d : D} {x : V} (h : (D.slice d).has x) : ∀ y ∈ x.els, d.has y := by
  rcases h with rfl | ⟨ys, rfl, hy⟩
  · intro y hy; cases hy
  · exact hy
end Go.Vm

namespace Go.Vm
open Go.RowKit
variable {R : Type}
end Go.Vm

namespace Go.Vm
open Go.RowKit
variable {R : Type}
theorem ile_d (a b : Int) : ile a b = decide (a ≤ b) := by simp [ile]
theorem ilt_d (a b : Int) : ilt a b = decide (a < b) := by simp [ilt]
theorem ix_t {a r : List V} {x : V} {l : V} (he : l.els = a ++ x :: r) : ilt (a.length : Nat) (l.els.length : Nat) = true := by rw [he]; simp [ilt]; omega
theorem ix_f {a : List V} {l : V} (he : l.els = a) : ilt (a.length : Nat) (l.els.length : Nat) = false := by rw [he]; simp [ilt]
def longB (x : V) : Bool := decide (300 < (x.nth 1).els.length)
def greatS (t : V) : Bool := decide (12 < (t.nth 1).els.length) || decide (12 < (t.nth 2).els.length) || (t.nth 1).els.any longB || (t.nth 2).els.any longB
abbrev MX : Nat := 9223372036854775807
def gtr (b : Nat) : List V → List Rs
  | [t] => [.d b (.b (greatS t))]
  | _ => []
end Go.Vm

namespace Go.Vm
open Go.RowKit
variable {T : TT} {P : Program} {c : Ctx} {e : Env} {of of' : Nat → Option Ob}
end Go.Vm

namespace Go.Vm
open Go.RowKit
variable {R : Type}
end Go.Vm

namespace Go.Vm
open Go.RowKit
variable {R : Type}
end Go.Vm

namespace Go.Vm
open Go.RowKit
variable {R : Type}
end Go.Vm
end
