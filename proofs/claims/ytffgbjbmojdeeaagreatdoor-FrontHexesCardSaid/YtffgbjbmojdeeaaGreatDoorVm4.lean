/- What the operations of a program do, shown once for all programs; and numbers. -/
import Derived.Test.YtffgbjbmojdeeaaGreatDoorVm3
import Derived.DeepKeys3
import Derived.MapKept
set_option linter.constructorNameAsVariable false
set_option linter.unusedVariables false
set_option linter.unusedSimpArgs false
set_option linter.unnecessarySimpa false
noncomputable section
namespace Go.Vm
open Go.RowKit
variable {P:Program} {T:TT} {c:F1} {e:A8} {of:Nat→Option Ob}
def M6 (n:Nat) (lo hi:Option A):Option (Nat×Nat) :=
 match F3 (0:Nat) lo,F3 n hi with
 | some l,some h=>if J1 0 l&&J1 l h&&J1 h n then some (l.toNat,(h - l).toNat) else none
 | _,_=>none
theorem P9 {n a m:Nat} {lo hi:Option A} (h:M6 n lo hi=some (a,m)):∃ l hh:Int,F3 (0:Nat) lo=some l∧F3 n hi=some hh∧0≤l∧l≤hh∧hh≤n∧a=l.toNat∧m=(hh - l).toNat:=by
 unfold M6 at h
 split at h<;>try (cases h;done)
 rename_i l hh h1 h2
 split at h<;>try (cases h;done)
 rename_i hc
 simp only [C3o,K9] at hc
 injection h with h;injection h with e1 e2
 exact ⟨l,hh,h1,h2,hc.1.1,hc.1.2,hc.2,e1.symm,e2.symm⟩
def zV (T:TT) (t:Nat) (u:A):A :=
 match u with
 | .z v=>if A3Q v&&Q7 T t then .v t .n else .z v
 | .q t' y=>.v t' y
 | u=>u
theorem B0c {t el:Nat} (hk:B2 T t=some (.slice el)) (hz:B1 T t=1):B3 T e (.v t .n) (.slice none 0 0):=by
 refine ⟨.nils hk hz .nil,⟨fun ⟨k,h1,h2⟩=>?_,fun ⟨cs,h⟩=>by cases h⟩⟩
 rw [hk] at h1;cases h1;cases h2
theorem B25 {t el:Nat} {y:V} {v:Value} (hk:B2 T t=some (.slice el)) (h:RV T e [t] [y] [v]) (ho:one v=true):B3 T e (.v t y) v:=by
 refine ⟨by rw [E6 ho];exact h,⟨fun ⟨k,h1,h2⟩=>?_,fun ⟨cs,h⟩=>by subst h;cases ho⟩⟩
 rw [hk] at h1;cases h1;cases h2
theorem B7O {t el:Nat} {u:A} {x:Value} (hk:B2 T t=some (.slice el)) (hx:B3 T e u x) (hq:∀ t' y,u=.q t' y→∃ el',B2 T t'=some (.slice el')):B3 T e (zV T t u) x:=by
 unfold zV
 split
 ·rename_i v
  split
  ·rename_i hc
   simp only [C3o] at hc
   have hx:RA T e [.z v] [x]:=hx
   cases hx with
   | z _ _=>rw [A0K hc.1];exact B0c hk (E1 hc.2)
   | r g1 _ _=>exact g1.elim
  ·exact hx
 ·rename_i t' y
  obtain ⟨el',hk'⟩:=hq _ _ rfl
  have hx:RA T e [.q t' y] [x]:=hx
  cases hx with
  | q g1 _=>exact B25 hk' g1 rfl
  | r g1 _ _=>exact g1.elim
 ·exact hx
def isQ (T:TT) (u:A):Bool :=
 match u with
 | .q t _=>match B2 T t with
  | some (.slice _)=>true
  | _=>false
 | _=>true
theorem A7y {u:A} (h:isQ T u=true):∀ t' y,u=.q t' y→∃ el',B2 T t'=some (.slice el'):=by
 rintro t' y rfl
 simp only [isQ] at h
 split at h
 ·exact ⟨_,by assumption⟩
 ·cases h
def A0N (T:TT) (of:Nat→Option Ob) (t:Nat) (u:A) (lo hi mx:Option A):Option (A×List (Nat×Ob)×List Nat) :=
 match B2 T t with
 | some .str=>match u,mx with
  | .s l,none=>match M6 l.length lo hi with
   | some (a,m)=>some (.s ((l.drop a).take m),[],[])
   | none=>none
  | _,_=>none
 | some (.slice el)=>if (T el).isSome&&isQ T u then
   match mx with
   | none=>match zV T t u with
    | .v t' y=>if same T t t' then (match M6 y.els.length lo hi with
     | some (a,m)=>some (.v t' (A3T y a m),[],[])
     | none=>none) else none
    | .w id ver off n=>match of id with
     | some (.row el' v xs _ _)=>if Nat.beq el el'&&Nat.beq v ver then (match M6 n lo hi with
      | some (a,m)=>some (.w id ver (off+a) m,[],[id])
      | none=>none) else none
     | _=>none
    | .o id ver=>match of id with
     | some (.row el' v xs false _)=>if Nat.beq el el'&&Nat.beq v ver then (match M6 xs.length lo hi with
      | some (a,m)=>some (.w id ver (0+a) m,[],[id])
      | none=>none) else none
     | some (.row el' v xs true _)=>if Nat.beq el el'&&Nat.beq v ver&&Q7 T t then (match M6 0 lo hi with
      | some (a,m)=>some (.v t (A3T .n a m),[],[id])
      | none=>none) else none
     | _=>none
    | .a id t1 path lo0 m=>match B2 T t1 with
     | some (.arr _ el')=>if Nat.beq el el' then (match M6 m lo hi with
      | some (a,k)=>some (.a id t1 path (lo0+a) k,[],[])
      | none=>none) else none
     | _=>none
    | _=>none
   | some mx=>match F3 (0:Nat) lo,hi,mx with
    | some l,some (.i _ h),.i _ h'=>if ieq h h' then (match J0 T DEP of t u with
     | some (x,wo)=>if J1 0 l&&J1 l h&&J1 h x.els.length then some (.q t (A3T x l.toNat (h - l).toNat),wo,U1 wo) else none
     | none=>none) else none
    | _,_,_=>none
  else none
 | some (.arr n el)=>match u,mx with
  | .p id t1 path,none=>if same T t t1&&(T el).isSome then (match M6 n lo hi with
   | some (a,m)=>some (.a id t1 path a m,[],[])
   | none=>none) else none
  | _,_=>none
 | _=>none
theorem B0d {t el:Nat} {u:A} {x:Value} (hk:B2 T t=some (.slice el)) {y:V} {wo:List (Nat×Ob)} {d:Nat} (ht:J0 T d of t u=some (y,wo)) (h:A5 T c e of) (hx:B3 T e u x):one x=true:=by
 cases d with
 | zero=>simp [J0] at ht
 | succ d =>
 have hone:RA T e [u] [x]→one x=true:=fun h=>RA.one_ h x (by simp)
 cases u with
 | v t' y' =>
  simp only [J0,H7] at ht
  split at ht<;>try (cases ht;done)
  rename_i b hb
  split at hb<;>try (cases hb;done)
  rename_i hs
  have hv:=C5 hx ⟨_,(A9 hs).1.symm.trans hk,rfl⟩
  exact hv.one x (by simp)
 | g t' l =>
  simp only [J0] at ht
  split at ht<;>try (cases ht;done)
  rename_i hs
  have:chT T t'=none:=by rw [← Z6 (A9 hs).1];simp [chT,hk]
  simp [this] at ht
 | t l=>simp [J0,H7] at ht
 | x=>simp [J0,H7] at ht
 | _=>exact hone hx
theorem B1h (hT:F4 T P) {of':Nat→Option Ob} {t:Nat} {u r:A} {x:Value} {lo hi mx:Option A} {lo' hi' mx':Option Value} {wo:List (Nat×Ob)} {ro:List Nat} (h:A5 T c e of') (hr:A0N T of t u lo hi mx=some (r,wo,ro)) (ho:∀ id∈ro,of' id=of id) (hx:B3 T e u x) (hlo:X4 T e lo lo') (hhi:X4 T e hi hi') (hmx:X4 T e mx mx') :
  B9 P (do pure (.value (← Instr.sliceAt t x lo' hi' mx'))) e.w (C4 T c e of' ⟨r,wo,ro,[]⟩):=by
 unfold A0N at hr
 split at hr
 ·rename_i hk
  obtain ⟨te,h1,h2⟩:=A6 hk
  split at hr<;>try (cases hr;done)
  rename_i l
  split at hr<;>try (cases hr;done)
  rename_i a m hb
  injection hr with hr;injection hr with e1 e2;injection e2 with e2 e3;subst e1;subst e2;subst e3
  obtain ⟨l1,h1',b1,b2,b3,b4,b5,rfl,rfl⟩:=P9 hb
  cases hmx
  exact A4Y h (L8 (hT _ _ h1) h2) hx hlo hhi b1 b2 b3 b4 b5
 ·rename_i el hk
  obtain ⟨te,h1,h2⟩:=A6 hk
  have hu:=D4 (hT _ _ h1) h2
  split at hr<;>try (cases hr;done)
  rename_i hel
  simp only [C3o] at hel
  obtain ⟨tel,hel'⟩:=C3s.1 hel.1
  split at hr
  ·cases hmx
   have hz:=B7O hk hx (A7y hel.2)
   generalize zV T t u=u' at hz hr
   split at hr<;>try (cases hr;done)
   ·rename_i t' y
    split at hr<;>try (cases hr;done)
    rename_i hs
    split at hr<;>try (cases hr;done)
    rename_i a m hb
    injection hr with hr;injection hr with e1 e2;injection e2 with e2 e3;subst e1;subst e2;subst e3
    obtain ⟨l1,h1',b1,b2,b3,b4,b5,rfl,rfl⟩:=P9 hb
    exact A3a h hT hu hel' ((A9 hs).1.symm.trans hk) hz hlo hhi b1 b2 b3 b4 b5
   ·rename_i id ver off n
    split at hr<;>try (cases hr;done)
    rename_i el' v xs nl sh hof
    split at hr<;>try (cases hr;done)
    rename_i hc
    simp only [C3o] at hc
    have:=C3n hc.1;subst this
    have:=C3n hc.2;subst this
    split at hr<;>try (cases hr;done)
    rename_i a m hb
    injection hr with hr;injection hr with e1 e2;injection e2 with e2 e3;subst e1;subst e2;subst e3
    obtain ⟨l1,h1',b1,b2,b3,b4,b5,rfl,rfl⟩:=P9 hb
    exact A29 h hT hu hel' ((ho id (by simp)).trans hof) hz hlo hhi b1 b2 b3 b4 b5
   ·rename_i id ver
    split at hr<;>try (cases hr;done)
    ·rename_i el' v xs sh hof
     split at hr<;>try (cases hr;done)
     rename_i hc
     simp only [C3o] at hc
     have:=C3n hc.1;subst this
     have:=C3n hc.2;subst this
     split at hr<;>try (cases hr;done)
     rename_i a m hb
     injection hr with hr;injection hr with e1 e2;injection e2 with e2 e3;subst e1;subst e2;subst e3
     obtain ⟨l1,h1',b1,b2,b3,b4,b5,rfl,rfl⟩:=P9 hb
     have hof':=(ho id (by simp)).trans hof
     obtain ⟨v0,v1,v2,v3,v4,v5,h6⟩:=G3 h hof'
     have hι:e.ι id≠none:=by
      rcases h6 with ⟨hf,_⟩ | ⟨_,b,o,_,_,_,_,_,_,g,_⟩
      ·cases hf
      ·rw [g];intro q;cases q
     have hw:=A4w hz v2 v1 hι v0
     rw [v4] at hw
     exact A29 h hT hu hel' hof' hw hlo hhi b1 b2 b3 b4 b5
    ·rename_i el' v xs sh hof
     split at hr<;>try (cases hr;done)
     rename_i hc
     simp only [C3o] at hc
     have:=C3n hc.1.1;subst this
     have:=C3n hc.1.2;subst this
     split at hr<;>try (cases hr;done)
     rename_i a m hb
     injection hr with hr;injection hr with e1 e2;injection e2 with e2 e3;subst e1;subst e2;subst e3
     obtain ⟨l1,h1',b1,b2,b3,b4,b5,rfl,rfl⟩:=P9 hb
     have hof':=(ho id (by simp)).trans hof
     obtain ⟨v0,v1,v2,v3,v4,v5,h6⟩:=G3 h hof'
     have hxn:x=.slice none 0 0:=by
      rcases h6 with ⟨_,g1,rfl⟩ | ⟨hf,_⟩
      ·rcases F7 hz v2 with ⟨_,_,hv⟩ | ⟨b,o,cap,k,k1,_⟩
       ·exact hv
       ·rw [g1] at k1;cases k1
      ·cases hf
     rw [hxn]
     exact A3a h hT hu hel' hk (B0c hk (E1 hc.2)) hlo hhi b1 b2 b3 b4 b5
   ·rename_i id t1 path lo0 m
    split at hr<;>try (cases hr;done)
    rename_i n1 el' hk1
    split at hr<;>try (cases hr;done)
    rename_i hc
    have:=C3n hc;subst this
    split at hr<;>try (cases hr;done)
    rename_i a k hb
    injection hr with hr;injection hr with e1 e2;injection e2 with e2 e3;subst e1;subst e2;subst e3
    obtain ⟨l1,h1',b1,b2,b3,b4,b5,rfl,rfl⟩:=P9 hb
    exact A7f h hT hu hel' hk1 hz hlo hhi b1 b2 b3 b4 b5
  ·split at hr<;>try (cases hr;done)
   rename_i l0 k1 hh k2 hh' hl0
   split at hr<;>try (cases hr;done)
   rename_i he
   have:=Q9.1 he;subst this
   split at hr<;>try (cases hr;done)
   rename_i y wo' htv
   split at hr<;>try (cases hr;done)
   rename_i hc
   simp only [C3o,K9] at hc
   injection hr with hr;injection hr with e1 e2;injection e2 with e2 e3;subst e1;subst e2;subst e3
   cases hhi with | some hhi =>
   cases hmx with | some hmx =>
   have htv':=(Y5 (T:=T) DEP).1 of of' _ _ _ _ htv ho
   have:=A1R (out:=⟨.q t (A3T y l0.toNat (hh - l0).toNat),[],[],[]⟩) (ro:=U1 wo') (Y8 h htv' hx) (fun e1 hw h1 hle hU hq=>A6e h1 hT hu hel' hk (B25 hk (by rwa [E6 (B0d hk htv' h hx)] at hq) (B0d hk htv' h hx)) (hlo.mono hle) hl0 (hhi.mono hle) (hmx.mono hle) rfl rfl hc.1.1 hc.1.2 hc.2)
   simpa using this
 ·rename_i n el hk
  obtain ⟨te,h1,h2⟩:=A6 hk
  have hu:=L9 (hT _ _ h1) h2
  split at hr<;>try (cases hr;done)
  rename_i id t1 path
  split at hr<;>try (cases hr;done)
  rename_i hc
  simp only [C3o] at hc
  obtain ⟨tel,hel'⟩:=C3s.1 hc.2
  split at hr<;>try (cases hr;done)
  rename_i a m hb
  injection hr with hr;injection hr with e1 e2;injection e2 with e2 e3;subst e1;subst e2;subst e3
  obtain ⟨l1,h1',b1,b2,b3,b4,b5,rfl,rfl⟩:=P9 hb
  cases hmx
  exact A7g h hT hu hel' ((A9 hc.1).1.symm.trans hk) hx hlo hhi b1 b2 b3 b4 b5
 ·cases hr
variable {P:Program} {T:TT} {c:F1} {e:A8} {of:Nat→Option Ob}
def A2I:Value→Bool
 | .int _ _ | .bool _ | .string _=>true
 | _=>false
theorem A06 {f t:Nat} (h:eqT T f t=true):∃ te,T t=some te∧((∃ k,te.k=.int k)∨te.k=.bool∨te.k=.str∨(∃ n el f',te.k=.arr n el∧eqT T f' el=true)∨∃ fs f',te.k=.struct fs∧∀ t∈fs,eqT T f' t=true):=by
 cases f with
 | zero=>simp [eqT] at h
 | succ f =>
  simp only [eqT] at h
  split at h<;>try (cases h;done)
  rename_i te hte
  refine ⟨te,hte,?_⟩
  split at h
  ·exact .inl ⟨_,by assumption⟩
  ·exact .inr (.inl (by assumption))
  ·exact .inr (.inr (.inl (by assumption)))
  ·exact .inr (.inr (.inr (.inl ⟨_,_,f,by assumption,h⟩)))
  ·simp only [C3o,List.all_eq_true] at h
   exact .inr (.inr (.inr (.inr ⟨_,f,by assumption,h.2⟩)))
  ·cases h
theorem RV.key {ts:List Nat} {xs:List V} {cs:List Value} (h:RV T e ts xs cs):(∀ t∈ts,∃ f,eqT T f t=true)→(∀ c∈cs,A2I c=true)∧∀ cs',RV T e ts xs cs'→cs'=cs:=by
 have no:∀ {t:Nat} {k:TK} {ts:List Nat},B2 T t=some k→(∀ u∈t::ts,∃ f,eqT T f u=true)→(∃ kd,k=.int kd)∨k=.bool∨k=.str∨(∃ n el,k=.arr n el∧∃ f,eqT T f el=true)∨∃ fs,k=.struct fs∧∀ t∈fs,∃ f,eqT T f t=true:=by
  intro t k ts hk hall
  obtain ⟨f,hf⟩:=hall t (by simp)
  obtain ⟨te,hte,hh⟩:=A06 hf
  rw [G2 hte] at hk
  injection hk with hk
  subst hk
  rcases hh with h | h | h | ⟨n,el,f',h1,h2⟩ | ⟨fs,f',h1,h2⟩
  ·exact .inl h
  ·exact .inr (.inl h)
  ·exact .inr (.inr (.inl h))
  ·exact .inr (.inr (.inr (.inl ⟨n,el,h1,f',h2⟩)))
  ·exact .inr (.inr (.inr (.inr ⟨fs,h1,fun t ht=>⟨f',h2 t ht⟩⟩)))
 induction h with
 | nil=>intro _;exact ⟨fun c hc=>(by cases hc),fun cs' h=>(by cases h;rfl)⟩
 | int h1 h2 hr _ ih =>
  intro hall
  obtain ⟨i1,i2⟩:=ih (fun t ht=>hall t (by simp [ht]))
  refine ⟨fun c hc=>?_,fun cs' h'=>?_⟩
  ·rcases List.mem_cons.1 hc with rfl | hc
   ·rfl
   ·exact i1 c hc
  ·obtain ⟨d,r,rfl,q1,q2⟩:=h'.cons_inv
   obtain ⟨n,hn,rfl,_⟩:=q1.int_inv h1
   cases hn
   rw [i2 _ q2];rfl
 | bool h1 h2 _ ih =>
  intro hall
  obtain ⟨i1,i2⟩:=ih (fun t ht=>hall t (by simp [ht]))
  refine ⟨fun c hc=>?_,fun cs' h'=>?_⟩
  ·rcases List.mem_cons.1 hc with rfl | hc
   ·rfl
   ·exact i1 c hc
  ·obtain ⟨d,r,rfl,q1,q2⟩:=h'.cons_inv
   obtain ⟨n,hn,rfl⟩:=q1.bool_inv h1
   cases hn
   rw [i2 _ q2];rfl
 | str h1 h2 _ ih =>
  intro hall
  obtain ⟨i1,i2⟩:=ih (fun t ht=>hall t (by simp [ht]))
  refine ⟨fun c hc=>?_,fun cs' h'=>?_⟩
  ·rcases List.mem_cons.1 hc with rfl | hc
   ·rfl
   ·exact i1 c hc
  ·obtain ⟨d,r,rfl,q1,q2⟩:=h'.cons_inv
   obtain ⟨n,hn,rfl⟩:=q1.str_inv h1
   injection hn with hn
   rw [i2 _ q2,A3J hn];rfl
 | arr h1 h2 _ _ ih1 ih2 =>
  intro hall
  rcases no h1 hall with ⟨_,h⟩ | h | h | ⟨n,el,h,hf⟩ | ⟨fs,h,_⟩<;>cases h
  obtain ⟨a1,a2⟩:=ih1 (fun t ht=>by rw [(List.mem_replicate.1 ht).2];exact hf)
  obtain ⟨i1,i2⟩:=ih2 (fun t ht=>hall t (by simp [ht]))
  refine ⟨fun c hc=>(C3y.1 hc).elim (a1 c) (i1 c),fun cs' h'=>?_⟩
  obtain ⟨d,r,rfl,q1,q2⟩:=h'.cons_inv
  obtain ⟨ys,hy,_,q3⟩:=q1.arr_inv h1
  cases hy
  rw [i2 _ q2,a2 _ q3]
 | struct h1 h2 _ _ ih1 ih2 =>
  intro hall
  rcases no h1 hall with ⟨_,h⟩ | h | h | ⟨n,el,h,hf⟩ | ⟨fs,h,hf⟩<;>cases h
  obtain ⟨a1,a2⟩:=ih1 hf
  obtain ⟨i1,i2⟩:=ih2 (fun t ht=>hall t (by simp [ht]))
  refine ⟨fun c hc=>(C3y.1 hc).elim (a1 c) (i1 c),fun cs' h'=>?_⟩
  obtain ⟨d,r,rfl,q1,q2⟩:=h'.cons_inv
  obtain ⟨ys,hy,q3⟩:=q1.struct_inv h1
  cases hy
  rw [i2 _ q2,a2 _ q3]
 | ptr h1=>intro hall;rcases no h1 hall with ⟨_,h⟩ | h | h | ⟨_,_,h,_⟩ | ⟨_,h,_⟩<;>cases h
 | nils h1=>intro hall;rcases no h1 hall with ⟨_,h⟩ | h | h | ⟨_,_,h,_⟩ | ⟨_,h,_⟩<;>cases h
 | map h1=>intro hall;rcases no h1 hall with ⟨_,h⟩ | h | h | ⟨_,_,h,_⟩ | ⟨_,h,_⟩<;>cases h
 | func h1=>intro hall;rcases no h1 hall with ⟨_,h⟩ | h | h | ⟨_,_,h,_⟩ | ⟨_,h,_⟩<;>cases h
 | fn h1=>intro hall;rcases no h1 hall with ⟨_,h⟩ | h | h | ⟨_,_,h,_⟩ | ⟨_,h,_⟩<;>cases h
 | slice h1=>intro hall;rcases no h1 hall with ⟨_,h⟩ | h | h | ⟨_,_,h,_⟩ | ⟨_,h,_⟩<;>cases h
theorem A3y {f t:Nat} {x:V} {a:Value} (hf:eqT T f t=true) (h:B3 T e (.v t x) a):(∀ c∈a.cells.toList,A2I c=true)∧∀ b,B3 T e (.v t x) b→b=a:=by
 have hall:∀ u∈[t],∃ f,eqT T f u=true:=fun u hu=>by simp only [List.mem_singleton] at hu;subst hu;exact ⟨f,hf⟩
 obtain ⟨h1,h2⟩:=h
 obtain ⟨k1,k2⟩:=h1.key hall
 refine ⟨k1,fun b hb=>?_⟩
 obtain ⟨g1,g2⟩:=hb
 have hc:=k2 _ g1
 by_cases hk:∃ k,B2 T t=some k∧k.agg=true
 ·obtain ⟨cs,rfl⟩:=h2.1 hk
  obtain ⟨ds,rfl⟩:=g2.1 hk
  have:ds.toList=cs.toList:=hc
  rw [Array.ext' this]
 ·have ha:one a=true:=by
   cases a<;>first | rfl | skip
   ·exact absurd (h2.2 ⟨_,rfl⟩) hk
   ·have:=h1.one (.tuple _) (by show _∈[_];exact List.mem_singleton_self _);cases this
  have hb:one b=true:=by
   cases b<;>first | rfl | skip
   ·exact absurd (g2.2 ⟨_,rfl⟩) hk
   ·have:=g1.one (.tuple _) (by show _∈[_];exact List.mem_singleton_self _);cases this
  rw [E6 ha,E6 hb] at hc
  injection hc
theorem A6p {a:Value} (h:∀ c∈a.cells.toList,A2I c=true) (n:Nat):Instr.sameBits (n+1) a a=true:=by
 have one':∀ (m:Nat) (c:Value),A2I c=true→Instr.sameBits m c c=true:=fun m c hc=>by
  cases c<;>simp [A2I] at hc<;>cases m<;>simp [Instr.sameBits]<;>exact (A9K _ _).2 rfl
 cases a with
 | agg cs =>
  simp only [Instr.sameBits,beq_self_eq_true,Bool.true_and,List.all_eq_true]
  rintro ⟨x,y⟩ hxy
  have:x=y∧x∈cs.toList:=by
   have h1:=List.of_mem_zip hxy
   refine ⟨?_,h1.1⟩
   obtain ⟨i,hi,hget⟩:=List.mem_iff_getElem.1 hxy
   simp only [List.getElem_zip,Prod.mk.injEq] at hget
   rw [← hget.1,← hget.2]
  obtain ⟨rfl,hm⟩:=this
  exact one' _ _ (h _ hm)
 | _=>exact one' _ _ (h _ (by simp [Value.cells]))
theorem A5q {a:Value} (h:∀ c∈a.cells.toList,A2I c=true) (w:World):(Instr.keyThatStays a a).run P w=.ok a w:=by
 simp [Instr.keyThatStays,A6p h 9999]
theorem H5 (hT:F4 T P) (em:Bool) (w:World):∀ (f:Nat) (t d:Nat) (x:V) (a:Value),eqT T f t=true→B3 T e (.v t x) a→(Instr.checkKey em (d+f) t a).run P w=.ok () w:=by
 intro f
 induction f with
 | zero=>intro t d x a h;simp [eqT] at h
 | succ f ih =>
  intro t d x a h ha
  have h0:=h
  simp only [eqT] at h
  split at h<;>try (cases h;done)
  rename_i te hte
  have hok:=hT _ _ hte
  have hkk:=G2 hte
  rw [show d+(f+1)=(d+f)+1 by omega,Instr.checkKey]
  split at h
  ·rename_i k hk
   simp only [Sem.run_bind,A2 (N7 hok hk),Result.andThen_ok]
   simp
  ·rename_i hk
   simp only [Sem.run_bind,A2 (Z5 hok hk),Result.andThen_ok]
   simp
  ·rename_i hk
   simp only [Sem.run_bind,A2 (L8 hok hk),Result.andThen_ok]
   simp
  ·rename_i n el hk
   rw [hk] at hkk
   obtain ⟨as0,rfl,hra⟩:=M2 ha ⟨_,hkk,rfl⟩
   obtain ⟨xs,rfl,hxl,hxs⟩:=hra.arr_inv hkk
   obtain ⟨tel,hel,_⟩:=A06 h
   obtain ⟨i,dd,z,h1,h2,h3,_⟩:=(hT _ _ hel).fits
   simp only [Sem.run_bind,A2 (L9 hok hk),Result.andThen_ok]
   simp only [Std.Legacy.Range.forIn_eq_forIn_range',Std.Legacy.Range.size,Nat.sub_zero,Nat.add_one_sub_one,Nat.div_one]
   have key:∀ (m k:Nat),k+m=n→(forIn (m:=Sem) (List.range' k m) PUnit.unit (fun i r=>do
     Instr.checkKey em (d+f) el (← part el as0 (i * (← sizeOf el)))
     pure (ForInStep.yield PUnit.unit))).run P w=.ok PUnit.unit w:=by
    intro m
    induction m with
    | zero=>intro k _;simp
    | succ m ihm =>
     intro k hkm
     have hg:(List.replicate n el)[k]? = some el:=by rw [List.getElem?_replicate,if_pos (by omega)]
     obtain ⟨x',p1,d1,s1,e1,e2,e3,e4,e5⟩:=hxs.at hg
     rw [List.take_replicate,B4,Nat.min_eq_left (by omega),E4 hel] at e3
     obtain ⟨u,r1,r2⟩:=A0E hT hel e2 e3 e5 w
     rw [List.range'_succ,List.forIn_cons]
     simp only [Sem.run_bind,C7 (hT _ _ hel),Result.andThen_ok,r1,ih el d x' u h r2,Sem.run_pure]
     exact ihm (k+1) (by omega)
   have h5:=key n 0 (by omega)
   simp at h5 ⊢
   rw [h5];rfl
  ·rename_i fs hk
   simp only [C3o,List.all_eq_true] at h
   rw [hk] at hkk
   obtain ⟨as0,rfl,hra⟩:=M2 ha ⟨_,hkk,rfl⟩
   obtain ⟨xs,rfl,hxs⟩:=hra.struct_inv hkk
   obtain ⟨gs,g1,g2,g3⟩:=J6 hok hk
   simp only [Sem.run_bind,A2 g1,Result.andThen_ok]
   rw [← Array.forIn_toList]
   have key:∀ (L:List Field),(∀ g∈L,∃ j:Nat,gs[j]? = some g)→(forIn (m:=Sem) L PUnit.unit (fun f_1 r=>do
     if f_1.name≠"_" then Instr.checkKey em (d+f) f_1.type (← part f_1.type as0 f_1.offset)
     pure (ForInStep.yield PUnit.unit))).run P w=.ok PUnit.unit w:=by
    intro L
    induction L with
    | nil=>intro _;simp
    | cons g L ihL =>
     intro hL
     obtain ⟨j,hj⟩:=hL g (by simp)
     have hft:fs[j]? = some g.type:=by
      rw [← g2,List.getElem?_map,Array.getElem?_toList,hj];rfl
     obtain ⟨x',p1,d1,s1,e1,e2,e3,e4,e5⟩:=hxs.at hft
     rw [← g3 _ _ hj] at e3
     obtain ⟨tg,htg,_⟩:=A06 (h.2 _ (List.mem_of_getElem? hft))
     obtain ⟨u,r1,r2⟩:=A0E hT htg e2 e3 e5 w
     have hrest:=ihL (fun g' hg'=>hL g' (by simp [hg']))
     rw [List.forIn_cons]
     by_cases hnm:g.name≠"_"
     ·simp only [hnm,ne_eq,not_false_eq_true,if_true,Sem.run_bind,Result.andThen_ok,r1,ih g.type d x' u (h.2 _ (List.mem_of_getElem? hft)) r2,Sem.run_pure]
      exact hrest
     ·simp only [hnm,if_false,Sem.run_bind,Result.andThen_ok,Sem.run_pure]
      exact hrest
   have h5:=key gs.toList (fun g hg=>by
    obtain ⟨j,hj⟩:=List.mem_iff_getElem?.1 hg
    exact ⟨j,by simpa using hj⟩)
   simp at h5 ⊢
   rw [h5];rfl
  ·cases h
variable {P:Program} {T:TT} {c:F1} {e:A8} {of:Nat→Option Ob}
def FR (kv:V) (es:List (V×A)) (ms:List MapEntry) (i:Nat):Option (Nat×Value)→Prop
 | none=>∀ p∈es,p.1≠kv
 | some (k,v)=>∃ (j:Nat) (m:MapEntry) (a:A),k=i+j∧ms[j]? = some m∧es[j]? = some (kv,a)∧v=m.val
theorem FR.next {kv k':V} {a:A} {m:MapEntry} {es:List (V×A)} {ms:List MapEntry} {i:Nat} {r:Option (Nat×Value)} (hne:k'≠kv) (h:FR kv es ms (i+1) r):FR kv ((k',a)::es) (m::ms) i r:=by
 cases r with
 | none =>
  intro p hp
  rcases List.mem_cons.1 hp with rfl | hp
  ·exact hne
  ·exact h p hp
 | some q =>
  obtain ⟨k,v⟩:=q
  obtain ⟨j,m',a',h1,h2,h3,h4⟩:=h
  exact ⟨j+1,m',a',by omega,by simpa using h2,by simpa using h3,h4⟩
theorem B1i {d:TypeDesc} {kt et:Nat} {kv:V} {key:Value} (hs:∀ k' b,B3 T e (.v kt k') b→Instr.sameNow d key b=some (P7 kv k')):∀ {es:List (V×A)} {ms:List MapEntry},MR T e kt et es ms→∀ i,∃ r,Instr.findNow d key ms i=some r∧FR kv es ms i r:=by
 intro es ms h
 induction h with
 | nil=>intro i;exact ⟨none,rfl,fun p hp=>by cases hp⟩
 | @cons k' a r m ms h1 h2 h3 _ ih =>
  intro i
  have hsn:=hs k' m.key h1
  cases hb:P7 kv k' with
  | true =>
   have:=(F0 _ _).1 hb
   subst this
   exact ⟨some (i,m.val),by simp [Instr.findNow,hsn,hb],0,m,a,rfl,rfl,rfl,rfl⟩
  | false =>
   have hne:k'≠kv:=fun q=>by rw [(F0 _ _).2 q.symm] at hb;cases hb
   obtain ⟨r',g1,g2⟩:=ih (i+1)
   exact ⟨r',by simp [Instr.findNow,hsn,hb,g1],g2.next hne⟩
theorem B1j (hT:F4 T P) {kt et:Nat} {kv:V} {key:Value} (hf:eqT T EQD kt=true) (hk:B3 T e (.v kt kv) key) (w:World):∀ {es:List (V×A)} {ms:List MapEntry},MR T e kt et es ms→∀ i,∃ r,(Instr.findAsking kt key ms i).run P w=.ok r w∧FR kv es ms i r:=by
 intro es ms h
 induction h with
 | nil=>intro i;exact ⟨none,by simp [Instr.findAsking],fun p hp=>by cases hp⟩
 | @cons k' a r m ms h1 h2 h3 _ ih =>
  intro i
  have hsn:(Op.equal kt key m.key).run P w=.ok (P7 kv k') w:=A3h hT w EQD kt 9992 kv k' key m.key hf hk h1
  cases hb:P7 kv k' with
  | true =>
   have:=(F0 _ _).1 hb
   subst this
   rw [hb] at hsn
   refine ⟨some (i,m.val),?_,0,m,a,rfl,rfl,rfl,rfl⟩
   simp only [Instr.findAsking,Sem.run_bind,hsn,Result.andThen_ok,if_true,Sem.run_pure]
  | false =>
   have hne:k'≠kv:=fun q=>by rw [(F0 _ _).2 q.symm] at hb;cases hb
   rw [hb] at hsn
   obtain ⟨r',g1,g2⟩:=ih (i+1)
   refine ⟨r',?_,g2.next hne⟩
   simp only [Instr.findAsking,Sem.run_bind,hsn,Result.andThen_ok,Bool.false_eq_true,if_false]
   exact g1
theorem A33 (hT:F4 T P) {kt et:Nat} {kv:V} {key:Value} (hf:eqT T EQD kt=true) (hk:B3 T e (.v kt kv) key) (w:World) {es:List (V×A)} {ms:List MapEntry} (h:MR T e kt et es ms):∃ r,(Instr.findKey kt key ms).run P w=.ok r w∧FR kv es ms 0 r:=by
 obtain ⟨te,hte,hh⟩:=A06 hf
 have hok:=hT _ _ hte
 have hkk:=G2 hte
 have now:∀ d,P.underlying kt=some d→(∀ k' b,B3 T e (.v kt k') b→Instr.sameNow d key b=some (P7 kv k'))→∃ r,(Instr.findKey kt key ms).run P w=.ok r w∧FR kv es ms 0 r:=by
  intro d hd hs
  obtain ⟨r,g1,g2⟩:=B1i hs h 0
  exact ⟨r,by simp [Instr.findKey,A2 hd,g1],g2⟩
 have ask:∀ d,P.underlying kt=some d→(∀ b,Instr.sameNow d key b=none)→∃ r,(Instr.findKey kt key ms).run P w=.ok r w∧FR kv es ms 0 r:=by
  intro d hd hs
  cases h with
  | nil=>exact ⟨none,by simp [Instr.findKey,A2 hd,Instr.findNow],fun p hp=>by cases hp⟩
  | cons h1 h2 h3 h4 =>
   obtain ⟨r,g1,g2⟩:=B1j hT hf hk w (.cons h1 h2 h3 h4) 0
   refine ⟨r,?_,g2⟩
   simp only [Instr.findKey,Sem.run_bind,A2 hd,Result.andThen_ok,Instr.findNow,hs]
   exact g1
 rcases hh with ⟨k,hk'⟩ | hk' | hk' | ⟨n,el,f',hk',_⟩ | ⟨fs,f',hk',_⟩
 ·rw [hk'] at hkk
  refine now _ (N7 hok hk') (fun k' b hb=>?_)
  obtain ⟨m,rfl,hm,_⟩:=(C5 hk ⟨_,hkk,rfl⟩).int_inv hkk
  obtain ⟨n,rfl,hn,_⟩:=(C5 hb ⟨_,hkk,rfl⟩).int_inv hkk
  injection hm with hm;injection hn with hn
  subst hm;subst hn
  simp [Instr.sameNow,P7,A19]
 ·rw [hk'] at hkk
  refine now _ (Z5 hok hk') (fun k' b hb=>?_)
  obtain ⟨m,rfl,hm⟩:=(C5 hk ⟨_,hkk,rfl⟩).bool_inv hkk
  obtain ⟨n,rfl,hn⟩:=(C5 hb ⟨_,hkk,rfl⟩).bool_inv hkk
  injection hm with hm;injection hn with hn
  subst hm;subst hn
  simp [Instr.sameNow,P7]
 ·rw [hk'] at hkk
  refine now _ (L8 hok hk') (fun k' b hb=>?_)
  obtain ⟨m,rfl,hm⟩:=(C5 hk ⟨_,hkk,rfl⟩).str_inv hkk
  obtain ⟨n,rfl,hn⟩:=(C5 hb ⟨_,hkk,rfl⟩).str_inv hkk
  injection hm with hm;injection hn with hn
  subst hm;subst hn
  simp only [Instr.sameNow,C3q]
  rw [Bool.eq_iff_iff]
  simp only [P7,N4,A9K]
  exact ⟨fun h=>by rw [h],A3J⟩
 ·refine ask _ (L9 hok hk') (fun b=>?_)
  rw [hk'] at hkk
  obtain ⟨as0,rfl,_⟩:=M2 hk ⟨_,hkk,rfl⟩
  rfl
 ·obtain ⟨gs,g1,g2,g3⟩:=J6 hok hk'
  refine ask _ g1 (fun b=>?_)
  rfl
def A2e (kv:V):List (V×A)→Option A
 | []=>none
 | (k,a)::r=>bif P7 k kv then some a else A2e kv r
def A0w (kv:V):List (V×A)→List (V×A)
 | []=>[]
 | (k,a)::r=>bif P7 k kv then A0w kv r else (k,a)::A0w kv r
theorem Q0 (kv:V):∀ es:List (V×A),A0w kv es=es.filter fun p=>!P7 p.1 kv:=by
 intro es
 induction es with
 | nil=>rfl
 | cons p r ih =>
  obtain ⟨k,a⟩:=p
  simp only [A0w,List.filter_cons]
  cases P7 k kv
  ·simp [ih]
  ·simp [ih]
theorem B1k {kv:V} {a:A}:∀ {es:List (V×A)},(es.map (·.1)).Nodup→(A2e kv es=some a↔(kv,a)∈es):=by
 intro es
 induction es with
 | nil=>intro _;simp [A2e]
 | cons p r ih =>
  intro hn
  obtain ⟨k,b⟩:=p
  simp only [List.map_cons,List.nodup_cons] at hn
  simp only [A2e,List.mem_cons,Prod.mk.injEq]
  cases hb:P7 k kv with
  | true =>
   have:=(F0 _ _).1 hb
   subst this
   simp only [cond_true,C3q]
   constructor
   ·intro h;exact .inl ⟨trivial,h.symm⟩
   ·rintro (⟨_,h⟩ | h)
    ·exact h.symm
    ·exact absurd (List.mem_map.2 ⟨_,h,rfl⟩) hn.1
  | false =>
   have hne:k≠kv:=fun q=>by rw [(F0 _ _).2 q] at hb;cases hb
   simp only [cond_false]
   rw [ih hn.2]
   constructor
   ·exact .inr
   ·rintro (⟨h,_⟩ | h)
    ·exact absurd h.symm hne
    ·exact h
theorem A2J {kv:V}:∀ {es:List (V×A)},(A2e kv es=none↔∀ p∈es,p.1≠kv):=by
 intro es
 induction es with
 | nil=>simp [A2e]
 | cons p r ih =>
  obtain ⟨k,b⟩:=p
  simp only [A2e,List.mem_cons,forall_eq_or_imp]
  cases hb:P7 k kv with
  | true=>have:=(F0 _ _).1 hb;simp [this]
  | false =>
   have hne:k≠kv:=fun q=>by rw [(F0 _ _).2 q] at hb;cases hb
   simp only [cond_false,ih]
   exact ⟨fun h=>⟨hne,h⟩,fun h=>h.2⟩
theorem FR.fnd {kv:V} {es es':List (V×A)} {ms:List MapEntry} {r:Option (Nat×Value)} (hn:(es.map (·.1)).Nodup) (hp:es'.Perm es) (h:FR kv es' ms 0 r) :
  (r=none∧A2e kv es=none)∨∃ i m a,r=some (i,m.val)∧ms[i]? = some m∧es'[i]? = some (kv,a)∧A2e kv es=some a:=by
 cases r with
 | none=>exact .inl ⟨rfl,A2J.2 (fun p hpm=>h p (hp.mem_iff.2 hpm))⟩
 | some q =>
  obtain ⟨k,v⟩:=q
  obtain ⟨j,m,a,h1,h2,h3,h4⟩:=h
  rw [Nat.zero_add] at h1
  subst h1;subst h4
  exact .inr ⟨_,m,a,rfl,h2,h3,(B1k hn).2 (hp.mem_iff.1 (List.mem_of_getElem? h3))⟩
theorem MR.at {kt et:Nat} {es:List (V×A)} {ms:List MapEntry} (h:MR T e kt et es ms):∀ {i:Nat} {k:V} {a:A} {m:MapEntry},es[i]? = some (k,a)→ms[i]? = some m→E2 T e (.v kt k) m.key∧E2 T e a m.val∧B6 T et a=true:=by
 induction h with
 | nil=>intro i k a m h;simp at h
 | cons h1 h2 h3 _ ih =>
  intro i k a m he hm
  cases i with
  | zero=>simp at he hm;obtain ⟨rfl,rfl⟩:=he;subst hm;exact ⟨h1,h2,h3⟩
  | succ i=>exact ih (by simpa using he) (by simpa using hm)
theorem MR.set {kt et:Nat} {es:List (V×A)} {ms:List MapEntry} (h:MR T e kt et es ms):∀ {i:Nat} {k:V} {a0 a:A} {m m':MapEntry},es[i]? = some (k,a0)→ms[i]? = some m→E2 T e (.v kt k) m'.key→E2 T e a m'.val→B6 T et a=true→MR T e kt et (es.set i (k,a)) (ms.set i m'):=by
 induction h with
 | nil=>intro i k a0 a m m' h;simp at h
 | cons h1 h2 h3 h4 ih =>
  intro i k a0 a m m' he hm g1 g2 g3
  cases i with
  | zero=>simp at he hm;obtain ⟨rfl,rfl⟩:=he;subst hm;exact .cons g1 g2 g3 h4
  | succ i=>exact .cons h1 h2 h3 (ih (by simpa using he) (by simpa using hm) g1 g2 g3)
theorem MR.push {kt et:Nat} {es:List (V×A)} {ms:List MapEntry} (h:MR T e kt et es ms) {k:V} {a:A} {m:MapEntry} (g1:E2 T e (.v kt k) m.key) (g2:E2 T e a m.val) (g3:B6 T et a=true):MR T e kt et (es++[(k,a)]) (ms++[m]):=by
 induction h with
 | nil=>exact .cons g1 g2 g3 .nil
 | cons h1 h2 h3 _ ih=>exact .cons h1 h2 h3 ih
theorem MR.erase {kt et:Nat} {es:List (V×A)} {ms:List MapEntry} (h:MR T e kt et es ms):∀ i,MR T e kt et (es.eraseIdx i) (ms.eraseIdx i):=by
 induction h with
 | nil=>intro i;exact .nil
 | cons h1 h2 h3 h4 ih =>
  intro i
  cases i with
  | zero=>exact h4
  | succ i=>exact .cons h1 h2 h3 (ih i)
theorem A07 {kv:V} {es:List (V×A)} (h:∀ p∈es,p.1≠kv):(es.filter fun p=>!P7 p.1 kv)=es:=by
 rw [List.filter_eq_self]
 intro p hp
 have:P7 p.1 kv=false:=by rw [← Bool.not_eq_true,F0];exact h p hp
 rw [this];rfl
theorem A2f {kv:V} {a:A}:∀ {es:List (V×A)} {i:Nat},(es.map (·.1)).Nodup→es[i]? = some (kv,a)→(es.filter fun p=>!P7 p.1 kv)=es.eraseIdx i:=by
 intro es
 induction es with
 | nil=>intro i _ h;simp at h
 | cons p r ih =>
  intro i hn hi
  obtain ⟨k,b⟩:=p
  simp only [List.map_cons,List.nodup_cons] at hn
  cases i with
  | zero =>
   simp only [List.getElem?_cons_zero,C3q,Prod.mk.injEq] at hi
   obtain ⟨rfl,rfl⟩:=hi
   rw [List.filter_cons_of_neg (by simp [A0D]),List.eraseIdx_cons_zero]
   exact A07 (fun p hp q=>hn.1 (by rw [← q];exact List.mem_map.2 ⟨p,hp,rfl⟩))
  | succ i =>
   have hi':r[i]? = some (kv,a):=by simpa using hi
   have hne:k≠kv:=fun q=>hn.1 (by rw [q];exact List.mem_map.2 ⟨_,List.mem_of_getElem? hi',rfl⟩)
   have:P7 k kv=false:=by rw [← Bool.not_eq_true,F0];exact hne
   rw [List.filter_cons_of_pos (by simp [this]),List.eraseIdx_cons_succ,ih hn.2 hi']
theorem B26 {kv:V} {a0 a:A}:∀ {es:List (V×A)} {i:Nat},es[i]? = some (kv,a0)→(es.set i (kv,a)).Perm ((kv,a)::es.eraseIdx i):=by
 intro es
 induction es with
 | nil=>intro i h;simp at h
 | cons p r ih =>
  intro i hi
  cases i with
  | zero=>simp
  | succ i =>
   rw [List.set_cons_succ,List.eraseIdx_cons_succ]
   exact ((ih (by simpa using hi)).cons p).trans (List.Perm.swap _ _ _)
variable {P:Program} {T:TT} {c:F1} {e:A8} {of:Nat→Option Ob}
theorem B5G {t:Nat} {ts:List Nat} (h:chT T t=some ts):∃ k,B2 T t=some k∧k.agg=true:=by
 unfold chT at h
 split at h
 ·exact ⟨_,by assumption,rfl⟩
 ·exact ⟨_,by assumption,rfl⟩
 ·cases h
theorem B5H {t:Nat} {te:TE} {u a:A} {x:Value} (hte:T t=some te) (hu:B3 T e u x) (ha:H7 T t u=some a):B3 T e a x:=by
 obtain ⟨r1,r2⟩:=A1e hu ha
 have hkk:=G2 hte
 have single:∀ {y:Value},RA T e [u] [x]→x.cells.toList=[y]→x=y:=fun h hy=>by
  rw [E6 (RA.one_ h x (by simp))] at hy;injection hy
 have notagg:B6 T t u=true→(∀ t' y,u≠.v t' y)→(∀ t' l,u≠.g t' l)→te.k.agg=false:=fun h h1 h2=>by
  have:Q7 T t=true→te.k.agg=false:=fun hs=>by
   simp only [Q7,C3o,hkk] at hs;simpa using hs.1
  cases u<;>simp only [B6] at h<;>first | exact this h | (cases h;done) | exact absurd rfl (h1 _ _) | exact absurd rfl (h2 _ _) | skip
  all_goals
   cases hkt:te.k<;>rw [hkk,hkt] at h<;>first | rfl | (simp at h;done)
 rcases Z7 hte r1 r2 with ⟨hg,hr⟩ | ⟨hg,y,hy,hr⟩
 ·cases u with
  | v t' y =>
   simp only [H7] at ha
   split at ha<;>try (cases ha;done)
   rename_i hs
   obtain ⟨cs,rfl⟩:=hu.2.1 ⟨te.k,by rw [← (A9 hs).1,hkk],hg⟩
   simpa [Value.cells] using hr
  | g t' l =>
   obtain ⟨_,cs,rfl⟩:=hu
   simpa [Value.cells] using hr
  | z v =>
   exfalso
   simp only [H7] at ha
   split at ha<;>try (cases ha;done)
   all_goals (split at ha<;>try (cases ha;done))
   all_goals
    rename_i hs
    simp only [Q7,C3o,hkk] at hs
    rw [hg] at hs;simp at hs
  | t l=>simp [H7] at ha
  | x=>simp [H7] at ha
  | _ =>
   simp only [H7] at ha
   split at ha<;>try (cases ha;done)
   rename_i hs
   have:=notagg hs (fun _ _ q=>by cases q) (fun _ _ q=>by cases q)
   rw [hg] at this;cases this
 ·have hxy:x=y:=by
   cases u with
   | v t' z =>
    simp only [H7] at ha
    split at ha<;>try (cases ha;done)
    rename_i hs
    have h1:=C5 hu ⟨te.k,by rw [← (A9 hs).1,hkk],hg⟩
    have:=h1.one x (by simp)
    rw [E6 this] at hy;injection hy
   | g t' l =>
    exfalso
    simp only [H7] at ha
    split at ha<;>try (cases ha;done)
    rename_i hs
    obtain ⟨h3,cs,rfl⟩:=hu
    have h3:RA T e [.g t' l] (Value.agg cs).cells.toList:=h3
    generalize (Value.agg cs).cells.toList=dd at h3
    cases h3 with
    | g g1 _ _ _ _ =>
     obtain ⟨k,h4,h5⟩:=B5G g1
     rw [← (A9 hs).1,hkk] at h4
     injection h4 with h4;subst h4
     rw [hg] at h5;cases h5
    | r g1 _ _=>exact g1.elim
   | t l=>simp [H7] at ha
   | x=>simp [H7] at ha
   | _=>exact single hu hy
  rw [hxy];exact hr
theorem A7z {t:Nat} {a:A} {x:Value} (h:B3 T e a x) (hf:B6 T t a=true):E2 T e a x:=by
 cases a with
 | t l=>simp [B6] at hf
 | _=>exact h
theorem B5I {t:Nat} {a:A} {x:Value} (h:E2 T e a x) (hf:B6 T t a=true):B3 T e a x:=by
 cases a with
 | t l=>simp [B6] at hf
 | _=>exact h
theorem A34 (hT:F4 T P) {t:Nat} {te:TE} (hte:T t=some te) (hne:TK.notOther te.k=true) (w:World):∃ z,(zeroValue t).run P w=.ok z w∧∀ e:A8,B3 T e (mkA T t te.zero) z:=by
 obtain ⟨z,h1,h2,h3⟩:=A4v (hT _ _ hte) w
 refine ⟨z,h1,fun e=>?_⟩
 have hv:=(h2.resolve_right (S4 hne)) e
 have:B3 T e (.v t te.zero) z:=⟨hv,⟨fun ⟨k,hk,ha⟩=>h3.1 (by rw [G2 hte] at hk;injection hk with hk;rw [hk];exact ha),fun hz=>⟨te.k,G2 hte,h3.2 hz⟩⟩⟩
 exact W5 hte this (G9 _ _)
def A0q (T:TT) (kt:Nat) (k:A):Option V :=
 if eqT T EQD kt then (match H7 T kt k with
  | some a=>A2q a
  | none=>none) else none
theorem A0O {kt:Nat} {k:A} {kv:V} {x:Value} (h:A0q T kt k=some kv) (hx:B3 T e k x):eqT T EQD kt=true∧B3 T e (.v kt kv) x:=by
 unfold A0q at h
 split at h<;>try (cases h;done)
 rename_i hf
 split at h<;>try (cases h;done)
 rename_i a ha
 obtain ⟨te,hte,_⟩:=A06 hf
 exact ⟨hf,A6V hte hx ha h⟩
def A0P (T:TT) (t:Nat):A→Bool
 | .v t' .n=>same T t t'
 | .z (.map none)=>true
 | _=>false
theorem A5r {t kt et:Nat} {m:A} {x:Value} (hk:B2 T t=some (.map kt et)) (h:A0P T t m=true) (hx:B3 T e m x):x=.map none:=by
 unfold A0P at h
 split at h
 ·rename_i t'
  have hk':=(A9 h).1.symm.trans hk
  have:=(C5 hx ⟨_,hk',rfl⟩).map_inv hk'
  injection this.2
 ·have hx:RA T e [.z (.map none)] [x]:=hx
  cases hx with
  | z _ _=>rfl
  | r g1 _ _=>exact g1.elim
 ·cases h
def okA (ok:Bool) (v:A) (b:Bool):A:=bif ok then .t [v,.b b] else v
def A5s (T:TT) (of:Nat→Option Ob) (t:Nat) (m k:A) (ok:Bool):Option (A×List Nat) :=
 match B2 T t with
 | some (.map kt et)=>match T et,A0q T kt k with
  | some te,some kv=>if TK.notOther te.k then
    bif A0P T t m then some (okA ok (mkA T et te.zero) false,[]) else
    match m with
    | .m id=>match of id with
     | some (.map kt' et' es)=>if Nat.beq kt kt'&&Nat.beq et et' then (match A2e kv es with
      | some a=>some (okA ok (norm T a) true,[id])
      | none=>some (okA ok (mkA T et te.zero) false,[id])) else none
     | _=>none
    | _=>none
   else none
  | _,_=>none
 | _=>none
theorem A2g {ok b:Bool} {v:A} {x:Value} (h:B3 T e v x) (hv:∀ l,v≠.t l):B3 T e (okA ok v b) (if ok then .tuple #[x,.bool b] else x):=by
 cases ok with
 | false=>exact h
 | true =>
  refine ⟨#[x,.bool b],rfl,rfl,fun i u z hu hz=>?_⟩
  match i,hu,hz with
  | 0,hu,hz =>
   simp at hu hz;subst hu;subst hz
   cases v with
   | t l=>exact absurd rfl (hv l)
   | _=>exact h
  | 1,hu,hz=>simp at hu hz;subst hu;subst hz;exact A17 b
  | i+2,hu,hz=>simp at hu
theorem A1t (t:Nat) (x:V):∀ l,mkA T t x≠.t l:=by
 intro l h;unfold mkA at h;repeat' split at h
 all_goals cases h
theorem B1l {t:Nat} {a:A} (h:B6 T t a=true):∀ l,norm T a≠.t l:=by
 intro l hl
 cases a with
 | v t' y=>exact A1t _ _ _ hl
 | t l'=>simp [B6] at h
 | _=>cases hl
theorem A7A (hT:F4 T P) {of':Nat→Option Ob} {t:Nat} {m k r:A} {x y:Value} {ok:Bool} {ro:List Nat} (h:A5 T c e of') (hr:A5s T of t m k ok=some (r,ro)) (ho:∀ id∈ro,of' id=of id) (hx:B3 T e m x) (hy:B3 T e k y) :
  B9 P (do pure (.value (← Instr.lookup t x y ok))) e.w (C4 T c e of' ⟨r,[],ro,[]⟩):=by
 unfold A5s at hr
 split at hr<;>try (cases hr;done)
 rename_i kt et hk
 obtain ⟨tem,h1,h2⟩:=A6 hk
 have hu:=H2 (hT _ _ h1) h2
 split at hr<;>try (cases hr;done)
 rename_i te kv hte hkv
 obtain ⟨hf,hkey⟩:=A0O hkv hy
 split at hr<;>try (cases hr;done)
 rename_i hne
 obtain ⟨z,hz1,hz2⟩:=A34 hT hte hne e.w
 have hck:∀ em,(Instr.checkKey em 10000 kt y).run P e.w=.ok () e.w:=fun em=>H5 hT em e.w EQD kt 9992 kv y hf hkey
 cases hmn:A0P T t m with
 | true =>
  rw [hmn] at hr
  simp only [cond_true,C3q,Prod.mk.injEq] at hr
  obtain ⟨rfl,rfl⟩:=hr
  have:=A5r hk hmn hx
  subst this
  refine A1 (x:=if ok then .tuple #[z,.bool false] else z) (w':=e.w) ?_ (A4 h (A2g (hz2 e) (A1t _ _)))
  have hfk:(Instr.findKey kt y []).run P e.w=.ok none e.w:=by
   obtain ⟨r,g1,g2⟩:=A33 (et:=et) hT hf hkey e.w .nil
   cases r with
   | none=>exact g1
   | some q=>obtain ⟨j,m,a,_,h3,_⟩:=g2;simp at h3
  simp [Instr.lookup,A2 hu,hck,hfk,hz1]
 | false =>
  rw [hmn] at hr
  simp only [cond_false] at hr
  split at hr<;>try (cases hr;done)
  rename_i id
  split at hr<;>try (cases hr;done)
  rename_i kt' et' es hof
  split at hr<;>try (cases hr;done)
  rename_i hc
  simp only [C3o] at hc
  have:=C3n hc.1;subst this
  have:=C3n hc.2;subst this
  have A7:id∈ro:=by
   split at hr<;>(injection hr with hr;injection hr with _ hr;rw [← hr];simp)
  obtain ⟨v1,v2,b,ms,clock,v3,v4,v5,es',v6,v7⟩:=A6Y h ((ho id A7).trans hof)
  obtain ⟨b',u1,u2,u3,rfl⟩:=P1 hx
  rw [v3] at u3;cases u3
  obtain ⟨rr,g1,g2⟩:=A33 hT hf hkey e.w v7
  have hg:(getObj b).run P e.w=.ok (.map ms clock) e.w:=MapKept.run_getObj_map v4
  rcases g2.fnd v5.1 v6 with ⟨rfl,hfn⟩ | ⟨i,me,a,rfl,hm1,hm2,hfn⟩
  ·rw [hfn] at hr
   simp only [C3q,Prod.mk.injEq] at hr
   obtain ⟨rfl,rfl⟩:=hr
   refine A1 (x:=if ok then .tuple #[z,.bool false] else z) (w':=e.w) ?_ (A4 h (A2g (hz2 e) (A1t _ _)))
   simp [Instr.lookup,A2 hu,hg,hck,g1,hz1]
  ·rw [hfn] at hr
   simp only [C3q,Prod.mk.injEq] at hr
   obtain ⟨rfl,rfl⟩:=hr
   obtain ⟨q1,q2,q3⟩:=v7.at hm2 hm1
   refine A1 (x:=if ok then .tuple #[me.val,.bool true] else me.val) (w':=e.w) ?_ (A4 h (A2g (W5 hte (B5I q2 q3) q3) (B1l q3)))
   simp [Instr.lookup,A2 hu,hg,hck,g1]
variable {P:Program} {T:TT} {c:F1} {e:A8} {of:Nat→Option Ob}
def A8.newM (e:A8) (id:Nat) (o:Go.Obj):A8 :=
 {w:=e.w.alloc o,ι:=D3 e.ι id (some (e.w.heap.size,0)),S:=e.S,bn:=D3 e.bn id 0,U:=fun j=>j=id∨e.U j,ty:=e.ty,ln:=e.ln,G:=e.G }
theorem A5.le_newM (h:A5 T c e of) {id:Nat} (hu:¬ e.U id) (o:Go.Obj):e.le (e.newM id o):=by
 refine ⟨fun b i hs=>⟨hs,fun x hx=>?_⟩,fun _ hj=>.inr hj,fun j hj _=>?_,fun j hj h0=>?_,fun j hj=>?_,fun j hj=>rfl,by show _≤(e.w.alloc _).heap.size;rw [C6];omega,fun b hb=>C3 (B5 _ _ hb)⟩
 ·rw [← hx];exact C9 (B5 _ _ (h.slt _ _ hs))
 ·have hne:j≠id:=fun e=>hu (e ▸ hj)
  exact ⟨A3 _ _ hne,rfl,fun b o hb=>C3 (B5 _ _ (h.lt _ _ _ hj hb))⟩
 ·have hne:j≠id:=fun e=>hu (e ▸ hj)
  show D3 e.bn id 0 j=0
  rw [A3 _ _ hne];exact h0
 ·have hne:j≠id:=fun e=>hu (e ▸ hj)
  show _≤D3 e.bn id 0 j
  rw [A3 _ _ hne];exact Nat.le_refl _
theorem A5.newM (h:A5 T c e of) {id:Nat} (hu:¬ e.U id) {g:Go.Obj} {o:Ob} (ho:OK T (e.newM id g) id o):A5 T c (e.newM id g) (D3 of id (some o)):=by
 have hle:=h.le_newM hu g
 have ιne:∀ j,j≠id→(e.newM id g).ι j=e.ι j:=fun j hj=>A3 _ _ hj
 have obne:∀ j,j≠id→D3 of id (some o) j=of j:=fun j hj=>A3 _ _ hj
 have old:∀ j b q,(of j).isSome→e.ι j=some (b,q)→b < e.w.heap.size:=fun j b q hj hb=>by
  obtain ⟨x,hx⟩:=C3s.1 hj
  exact h.lt _ _ _ (h.ok _ _ hx).use hb
 refine ⟨fun j x hj=>?_,fun j k b q b' q' hj hk hb hb' hne=>?_,fun j b q hj hb=>?_,fun j b q hj hb=>?_,fun b i hs=>?_,h.s0,h.snew,h.os,h.tape,h.output,?_,fun k hk hm=>?_,?_⟩
 ·by_cases he:j=id
  ·subst he;rw [upd_same] at hj;cases hj;exact ho
  ·rw [obne _ he] at hj
   exact (h.ok _ _ hj).keep hle (A3 _ _ he) (fun b q hb=>B5 _ _ (old _ _ _ (by rw [hj];rfl) hb)) (fun _ _ _ _ hs=>hs) (fun a o' b _ hG=>⟨hG,B5 _ _ (h.g.lt _ _ hG),fun i hs=>hs⟩)
 ·by_cases h1:j=id
  ·subst h1
   have hk':k≠j:=Ne.symm hne
   rw [obne _ hk'] at hk;rw [ιne _ hk'] at hb'
   have:=old _ _ _ hk hb'
   have hb1:(e.w.heap.size,0)=(b,q):=by simpa [A8.newM] using hb
   cases hb1;omega
  ·by_cases h2:k=id
   ·subst h2
    rw [obne _ h1] at hj;rw [ιne _ h1] at hb
    have:=old _ _ _ hj hb
    have hb1:(e.w.heap.size,0)=(b',q'):=by simpa [A8.newM] using hb'
    cases hb1;omega
   ·rw [obne _ h1] at hj;rw [obne _ h2] at hk;rw [ιne _ h1] at hb;rw [ιne _ h2] at hb'
    exact h.sep _ _ _ _ _ _ hj hk hb hb' hne
 ·by_cases h1:j=id
  ·subst h1
   have hb1:(e.w.heap.size,0)=(b,q):=by simpa [A8.newM] using hb
   cases hb1;exact .inl h.size
  ·rw [obne _ h1] at hj;rw [ιne _ h1] at hb
   exact h.own _ _ _ hj hb
 ·have hsz:(e.newM id g).w.heap.size=e.w.heap.size+1:=C6 _ _
  rw [hsz]
  by_cases h1:j=id
  ·subst h1
   have hb1:(e.w.heap.size,0)=(b,q):=by simpa [A8.newM] using hb
   cases hb1;omega
  ·rw [ιne _ h1] at hb
   rcases hj with hj | hj
   ·exact absurd hj h1
   ·have:=h.lt _ _ _ hj hb;omega
 ·have:=h.slt _ _ hs
  show b < (e.w.alloc _).heap.size
  rw [C6];omega
 ·show _≤(e.w.alloc _).heap.size
  rw [C6];have:=h.size;omega
 ·exact (B5 _ _ (by have:=h.size;omega)).trans (h.block k hk hm)
 ·refine h.g.mono (fun _ _ q=>q) rfl (fun _ q=>q) (by show _≤(e.w.alloc _).heap.size;rw [C6];omega) (fun j b o hj hb=>?_)
  by_cases h1:j=id
  ·subst h1
   have hb1:(e.w.heap.size,0)=(b,o):=by simpa [A8.newM] using hb
   cases hb1;exact .inr (Nat.le_refl _)
  ·rw [obne _ h1] at hj;rw [ιne _ h1] at hb
   exact .inl ⟨j,o,hj,hb⟩
theorem A7B {t kt et id:Nat} (h:A5 T c e of) (ht:P.underlying t=some (.map kt et)) (hu:¬ e.U id) {r:Option Value} (hr:r=none∨∃ k n,r=some (.int k n)) {ro:List Nat} :
  B9 P (do pure (.value (← Instr.makeMap t r))) e.w (C4 T c e of ⟨.m id,[(id,.map kt et [])],ro,[id]⟩):=by
 have hrun:(Instr.makeMap t r).run P e.w=.ok (.map (some e.w.heap.size)) (e.w.alloc (.map #[] 0)):=by
  rcases hr with rfl | ⟨k,n,rfl⟩
  ·simp [Instr.makeMap]
  ·simp [Instr.makeMap,A2 ht,asInt,asIntOf]
 have hok:OK T (e.newM id (.map #[] 0)) id (.map kt et []) :=
  ⟨.inl rfl,upd_same _ _ _,e.w.heap.size,#[],0,upd_same _ _ _,J2 _ _,⟨List.nodup_nil,B0G⟩,[],List.Perm.refl _,.nil⟩
 refine A1 hrun ⟨e.newM id (.map #[] 0),rfl,h.newM hu hok,h.le_newM hu _,fun j hj=>hj.elim (fun q=>.inr (by simp [q])) .inl,?_⟩
 exact RA.r ⟨e.w.heap.size,.inl rfl,upd_same _ _ _,upd_same _ _ _,rfl⟩ rfl .nil
theorem A5.writeM (h:A5 T c e of) {id:Nat} {o o':Ob} (ho:of id=some o) {b q:Nat} (hι:e.ι id=some (b,q)) {ms ms':Array MapEntry} {cl cl':Nat} (h0:e.w.heap[b]? = some (.map ms cl)) {w':World} (hw:w'={ e.w with heap:=e.w.heap.setIfInBounds b (.map ms' cl') })
  (hok:e.le { e with w:=w' }→w'.heap[b]? = some (.map ms' cl')→OK T { e with w:=w' } id o'):A5 T c { e with w:=w' } (D3 of id (some o'))∧e.le { e with w:=w' }:=by
 have hlt:b < e.w.heap.size:=(Array.getElem?_eq_some_iff.1 h0).1
 have h1:w'.heap[b]? = some (.map ms' cl'):=by rw [hw];simp [hlt]
 have hne:∀ k,k≠b→w'.heap[k]? = e.w.heap[k]? := fun k hk=>by rw [hw];simp [Ne.symm hk]
 have hsz:w'.heap.size=e.w.heap.size:=by rw [hw];simp
 have hln:∀ k,L3 w' k=L3 e.w k:=fun k=>by
  by_cases hk':k=b
  ·subst hk';simp [L3,h0,h1]
  ·exact C3 (hne _ hk')
 have hle:e.le { e with w:=w' }:=by
  refine ⟨fun k i hs=>⟨hs,fun x hx=>?_⟩,fun _ hu=>hu,fun j hu _=>⟨rfl,rfl,fun k q' hk=>hln k⟩,fun _ _ h=>h,fun _ _=>Nat.le_refl _,fun _ _=>rfl,by show _≤w'.heap.size;omega,fun k _=>hln k⟩
  by_cases hk:k=b
  ·subst hk
   simp [World.cell?,h0] at hx
  ·rw [← hx];exact C9 (hne _ hk)
 exact ⟨h.turn ho hle (fun _ _=>rfl) (fun _ _=>rfl) (fun _ hu=>hu) (fun k _ hk=>hne k (fun hkb=>hk q (by rw [hkb];exact hι))) (by show _≤w'.heap.size;omega) (fun _ _ hs=>.inl hs) (fun k q' hk=>.inl ⟨q',hk⟩) (by rw [hw]) (by rw [hw]) (by rw [hw]) (hok hle h1),hle⟩
theorem StB.push {ms:Array MapEntry} {clock:Nat} (h:StB ms clock) {k v:Value}:StB (ms.push { key:=k,val:=v,born:=clock }) (clock+1):=by
 refine ⟨fun x hx=>?_,?_⟩
 ·rw [Array.toList_push,C3y,List.mem_singleton] at hx
  rcases hx with hx | rfl
  ·have:=h.1 x hx;omega
  ·exact Nat.lt_succ_self _
 ·rw [Array.toList_push,List.map_append,List.nodup_append]
  refine ⟨h.2,by simp,fun a ha b hb=>?_⟩
  simp at hb;subst hb
  obtain ⟨x,hx,rfl⟩:=List.mem_map.1 ha
  exact Nat.ne_of_lt (h.1 x hx)
theorem StB.mod {ms:Array MapEntry} {clock:Nat} (h:StB ms clock) {i:Nat} {f:MapEntry→MapEntry} (hf:∀ x,(f x).born=x.born):StB (ms.modify i f) clock:=by
 have e:(ms.modify i f).toList.map (·.born)=ms.toList.map (·.born):=by
  apply List.ext_getElem?
  intro j
  rw [List.getElem?_map,List.getElem?_map,Array.getElem?_toList,Array.getElem?_toList,Array.getElem?_modify]
  by_cases hij:i=j
  ·subst hij;rw [if_pos rfl];cases ms[i]? with
   | none=>rfl
   | some x=>simp [hf]
  ·rw [if_neg hij]
 refine ⟨fun x hx=>?_,by rw [e];exact h.2⟩
 have:x.born∈(ms.modify i f).toList.map (·.born):=List.mem_map_of_mem hx
 rw [e] at this
 obtain ⟨y,hy,hyx⟩:=List.mem_map.1 this
 rw [← hyx];exact h.1 y hy
theorem StB.erase {ms:Array MapEntry} {clock:Nat} (h:StB ms clock) (i:Nat):StB (ms.eraseIdxIfInBounds i) clock:=by
 by_cases hi:i < ms.size
 ·have e:(ms.eraseIdxIfInBounds i).toList=ms.toList.eraseIdx i:=by simp [Array.eraseIdxIfInBounds,hi]
  exact ⟨fun x hx=>by rw [e] at hx;exact h.1 x (List.mem_of_mem_eraseIdx hx),by rw [e];exact h.2.sublist ((List.eraseIdx_sublist _ _).map _)⟩
 ·have e:ms.eraseIdxIfInBounds i=ms:=by simp [Array.eraseIdxIfInBounds,hi]
  rw [e];exact h
def B27 (T:TT) (of:Nat→Option Ob) (t:Nat) (m k v:A):Option (List (Nat×Ob)×List Nat) :=
 match B2 T t with
 | some (.map kt et)=>match A0q T kt k,H7 T et v,m with
  | some kv,some a,.m id=>match of id with
   | some (.map kt' et' es)=>if (T et).isSome&&Nat.beq kt kt'&&Nat.beq et et' then some ([(id,.map kt et ((kv,a)::A0w kv es))],[id]) else none
   | _=>none
  | _,_,_=>none
 | _=>none
theorem B0e (hT:F4 T P) {of':Nat→Option Ob} {t:Nat} {m k v:A} {x y z:Value} {wo:List (Nat×Ob)} {ro:List Nat} (h:A5 T c e of') (hr:B27 T of t m k v=some (wo,ro)) (ho:∀ id∈ro,of' id=of id) (hx:B3 T e m x) (hy:B3 T e k y) (hz:B3 T e v z) :
  B9 P (do Instr.mapUpdate t x y z;pure .skip) e.w (C4 T c e of' ⟨.x,wo,ro,[]⟩):=by
 unfold B27 at hr
 split at hr<;>try (cases hr;done)
 rename_i kt et hk
 obtain ⟨tem,h1,h2⟩:=A6 hk
 have hu:=H2 (hT _ _ h1) h2
 split at hr<;>try (cases hr;done)
 rename_i kv a id hkv hva
 obtain ⟨hf,hkey⟩:=A0O hkv hy
 split at hr<;>try (cases hr;done)
 rename_i kt' et' es hof
 split at hr<;>try (cases hr;done)
 rename_i hc
 simp only [C3o] at hc
 obtain ⟨⟨c1,c2⟩,c3⟩:=hc
 have:=C3n c2;subst this
 have:=C3n c3;subst this
 obtain ⟨te,hte⟩:=C3s.1 c1
 injection hr with hr;injection hr with e1 e2;subst e1;subst e2
 have hof':=(ho id (by simp)).trans hof
 obtain ⟨v1,v2,b,ms,clock,v3,v4,v5,es',v6,v7⟩:=A6Y h hof'
 obtain ⟨b',u1,u2,u3,rfl⟩:=P1 hx
 rw [v3] at u3;cases u3
 obtain ⟨rr,g1,g2⟩:=A33 hT hf hkey e.w v7
 have hg:(getObj b).run P e.w=.ok (.map ms clock) e.w:=MapKept.run_getObj_map v4
 have hck:∀ em,(Instr.checkKey em 10000 kt y).run P e.w=.ok () e.w:=fun em=>H5 hT em e.w EQD kt 9992 kv y hf hkey
 have hset:∀ o,(setObj b o).run P e.w=.ok () { e.w with heap:=e.w.heap.setIfInBounds b o }:=fun o=>MapKept.run_setObj_map o v4
 have hrepv:=B5H hte hz hva
 have hfit:=A3K hva
 have k1:E2 T e (.v kt kv) y:=hkey
 have hnd:((A0w kv es).map (·.1)).Nodup:=by rw [Q0];exact v5.1.sublist (List.filter_sublist.map _)
 have hnin:kv ∉ (A0w kv es).map (·.1):=by
  rw [Q0]
  intro hm
  obtain ⟨p,hp,hpk⟩:=List.mem_map.1 hm
  have:=(List.mem_filter.1 hp).2
  rw [hpk,A0D] at this
  simp at this
 have hnd2:(((kv,a)::A0w kv es).map (·.1)).Nodup:=by
  rw [List.map_cons,List.nodup_cons];exact ⟨hnin,hnd⟩
 have v6':(es'.map (·.1)).Nodup:=(v6.map _).nodup_iff.2 v5.1
 rcases g2.fnd v5.1 v6 with ⟨rfl,hfn⟩ | ⟨i,me,a0,rfl,hm1,hm2,hfn⟩
 ·obtain ⟨q1,q2⟩:=h.writeM hof' v3 v4 (ms':=ms.push { key:=y,val:=z,born:=clock }) (cl':=clock+1) rfl (o':=.map kt et ((kv,a)::A0w kv es)) (fun hle hh =>
   ⟨v1,v2,b,_,_,v3,hh,⟨hnd2,v5.2.push⟩,es'++[(kv,a)],by
    rw [Q0,A07 (A2J.1 hfn)]
    exact (List.perm_append_singleton _ _).trans (v6.cons _),by
    rw [Array.toList_push]
    exact (v7.mono hle).push (m:={ key:=y,val:=z,born:=clock }) (k1.mono hle) ((A7z hrepv hfit).mono hle) hfit⟩)
  refine .inr (.inl ⟨_,?_,⟨_,rfl,q1,q2,fun j hj=>.inl hj,trivial⟩⟩)
  simp [Instr.mapUpdate,A2 hu,hg,hck,g1,hset]
 ·obtain ⟨r1,r2,r3⟩:=v7.at hm2 hm1
  have hkeq:me.key=y:=(A3y hf k1).2 _ r1
  have hj:ms[i]? = some me:=by simpa using hm1
  obtain ⟨q1,q2⟩:=h.writeM hof' v3 v4 (ms':=ms.modify i fun e=>{ e with key:=y,val:=z }) (cl':=clock) rfl (o':=.map kt et ((kv,a)::A0w kv es)) (fun hle hh =>
   ⟨v1,v2,b,_,_,v3,hh,⟨hnd2,v5.2.mod (fun _=>rfl)⟩,es'.set i (kv,a),by
    refine (B26 hm2).trans (List.Perm.cons _ ?_)
    rw [Q0,← A2f v6' hm2]
    exact v6.filter _,by
    have e1:(ms.modify i fun e=>{ e with key:=y,val:=z }).toList=ms.toList.set i { me with key:=y,val:=z }:=by
     apply List.ext_getElem?
     intro j
     rw [Array.getElem?_toList,Array.getElem?_modify,List.getElem?_set]
     by_cases hij:i=j
     ·subst hij
      rw [if_pos rfl,if_pos rfl,hj]
      have:i < ms.toList.length:=(List.getElem?_eq_some_iff.1 hm1).1
      rw [if_pos this];rfl
     ·rw [if_neg hij,if_neg hij,Array.getElem?_toList]
    rw [e1]
    exact (v7.mono hle).set hm2 hm1 (m':={ me with key:=y,val:=z }) (k1.mono hle) ((A7z hrepv hfit).mono hle) hfit⟩)
  have hst:(Instr.keyThatStays y y).run P e.w=.ok y e.w:=A5q (A3y hf k1).1 e.w
  refine .inr (.inl ⟨_,?_,⟨_,rfl,q1,q2,fun j hj=>.inl hj,trivial⟩⟩)
  simp [Instr.mapUpdate,A2 hu,hg,hck,g1,hj,hkeq,hst,hset]
def A7C (T:TT) (of:Nat→Option Ob) (t:Nat) (m k:A):Option (List (Nat×Ob)×List Nat) :=
 match B2 T t with
 | some (.map kt et)=>match A0q T kt k,m with
  | some kv,.m id=>match of id with
   | some (.map kt' et' es)=>if Nat.beq kt kt'&&Nat.beq et et' then some ([(id,.map kt et (A0w kv es))],[id]) else none
   | _=>none
  | _,_=>none
 | _=>none
theorem A7D (hT:F4 T P) {of':Nat→Option Ob} {t kt0 ty:TypeId} {m k:A} {x y:Value} {wo:List (Nat×Ob)} {ro:List Nat} (h:A5 T c e of') (hr:A7C T of t m k=some (wo,ro)) (ho:∀ id∈ro,of' id=of id) (hx:B3 T e m x) (hy:B3 T e k y) :
  B9 P (do pure (.value (← Builtin.delete_ #[t,kt0] ty #[x,y]))) e.w (C4 T c e of' ⟨.x,wo,ro,[]⟩):=by
 unfold A7C at hr
 split at hr<;>try (cases hr;done)
 rename_i kt et hk
 obtain ⟨tem,h1,h2⟩:=A6 hk
 have hu:=H2 (hT _ _ h1) h2
 split at hr<;>try (cases hr;done)
 rename_i kv id hkv
 obtain ⟨hf,hkey⟩:=A0O hkv hy
 split at hr<;>try (cases hr;done)
 rename_i kt' et' es hof
 split at hr<;>try (cases hr;done)
 rename_i hc
 simp only [C3o] at hc
 have:=C3n hc.1;subst this
 have:=C3n hc.2;subst this
 injection hr with hr;injection hr with e1 e2;subst e1;subst e2
 have hof':=(ho id (by simp)).trans hof
 obtain ⟨v1,v2,b,ms,clock,v3,v4,v5,es',v6,v7⟩:=A6Y h hof'
 obtain ⟨b',u1,u2,u3,rfl⟩:=P1 hx
 rw [v3] at u3;cases u3
 obtain ⟨rr,g1,g2⟩:=A33 hT hf hkey e.w v7
 have hg:(getObj b).run P e.w=.ok (.map ms clock) e.w:=MapKept.run_getObj_map v4
 have hck:∀ em,(Instr.checkKey em 10000 kt y).run P e.w=.ok () e.w:=fun em=>H5 hT em e.w EQD kt 9992 kv y hf hkey
 have hset:∀ o,(setObj b o).run P e.w=.ok () { e.w with heap:=e.w.heap.setIfInBounds b o }:=fun o=>MapKept.run_setObj_map o v4
 have hnd:((A0w kv es).map (·.1)).Nodup:=by rw [Q0];exact v5.1.sublist (List.filter_sublist.map _)
 have v6':(es'.map (·.1)).Nodup:=(v6.map _).nodup_iff.2 v5.1
 rcases g2.fnd v5.1 v6 with ⟨rfl,hfn⟩ | ⟨i,me,a0,rfl,hm1,hm2,hfn⟩
 ·obtain ⟨q1,q2⟩:=h.writeM hof' v3 v4 (ms':=ms) (cl':=clock) rfl (o':=.map kt et (A0w kv es)) (fun hle hh =>
   ⟨v1,v2,b,_,_,v3,hh,⟨hnd,v5.2⟩,es',by rw [Q0,A07 (A2J.1 hfn)];exact v6,v7.mono hle⟩)
  refine A1 (x:=.tuple #[]) ?_ ⟨_,rfl,q1,q2,fun j hj=>.inl hj,trivial⟩
  simp [Builtin.delete_,A2 hu,hg,hck,g1,hset]
 ·obtain ⟨q1,q2⟩:=h.writeM hof' v3 v4 (ms':=ms.eraseIdxIfInBounds i) (cl':=clock) rfl (o':=.map kt et (A0w kv es)) (fun hle hh =>
   ⟨v1,v2,b,_,_,v3,hh,⟨hnd,v5.2.erase i⟩,es'.eraseIdx i,by rw [Q0,← A2f v6' hm2];exact v6.filter _,by
    have e1:(ms.eraseIdxIfInBounds i).toList=ms.toList.eraseIdx i:=by
     have:i < ms.size:=by have:=(List.getElem?_eq_some_iff.1 hm1).1;simpa using this
     simp [Array.eraseIdxIfInBounds,this]
    rw [e1]
    exact (v7.mono hle).erase i⟩)
  refine A1 (x:=.tuple #[]) ?_ ⟨_,rfl,q1,q2,fun j hj=>.inl hj,trivial⟩
  simp [Builtin.delete_,A2 hu,hg,hck,g1,hset]
variable {P:Program} {T:TT} {c:F1} {e:A8} {of:Nat→Option Ob}
def U6 (xs:List V) (k:Nat) (ns:List V):List V:=xs.take k++(ns++xs.drop (k+ns.length))
theorem A43 {xs:List V} {k:Nat} {ns:List V} (h:k+ns.length≤xs.length):(U6 xs k ns).length=xs.length:=by
 unfold U6;simp only [C3p,List.length_take,List.length_drop];omega
theorem A2h {xs:List V} {el:Nat} {ys:List Value} (h:RV T e (List.replicate xs.length el) xs ys) {k:Nat} {ns:List V} {us:List Value} (hk:k+ns.length≤xs.length) (hn:RV T e (List.replicate ns.length el) ns us) :
  ∃ as0 bs zs,ys=as0++(bs++zs)∧as0.length=k * B1 T el∧bs.length=us.length∧RV T e (List.replicate xs.length el) (U6 xs k ns) (as0++(us++zs)):=by
 obtain ⟨as0,q,rfl,h1,h2,h3⟩:=h.split_at k (by omega)
 obtain ⟨bs,zs,rfl,g1,g2,g3⟩:=h3.split_at ns.length (by omega)
 have hul:us.length=ns.length * B1 T el:=by rw [hn.length.1,B4]
 refine ⟨as0,bs,zs,rfl,h1,by rw [g1,hul],?_⟩
 have:=h2.append (hn.append g3)
 rw [List.drop_drop] at this
 have e1:List.replicate xs.length el=List.replicate k el++(List.replicate ns.length el++List.replicate (xs.length - k - ns.length) el):=by
  rw [List.replicate_append_replicate,List.replicate_append_replicate];congr 1;omega
 rw [e1]
 exact this
theorem A35 {dt el xt ty:TypeId} {te:TE} {w w':World} (hd:P.underlying dt=some (.slice el)) (hel:A0A P T el te) {A:Option Addr} {n cap m:Nat} {y:Value} {us:List Value} (hs:Src P w xt y te.size m us) (hm:m≤n)
  (hst:∀ a,A=some a→(storeCells a us).run P w=.ok () w') (hno:A=none→w'=w) :
  (Builtin.copy_ #[dt,xt] ty #[.slice A n cap,y]).run P w=.ok (goInt m) w':=by
 have hmin:Nat.min m n=m:=Nat.min_eq_left hm
 have h1:=hs.len w
 have h2:=hs.first w rfl
 cases A with
 | none =>
  have:=hno rfl
  subst this
  simp [Builtin.copy_,A2 hd,h1,hmin,C7 hel,h2]
 | some a=>simp [Builtin.copy_,A2 hd,h1,hmin,C7 hel,h2,hst a rfl]
def W8 (T:TT) (of:Nat→Option Ob) (t xt:Nat) (u v:A):Option (A×List (Nat×Ob)×List Nat) :=
 match B2 T t with
 | some (.slice el)=>if A0v T xt v&&(T el).isSome then
   match F9 T of el v with
   | some (ns,ro)=>if Nat.ble ns.length LIM then
     (match ns with
     | []=>(match u with
      | .s _=>none
      | u=>match F9 T of el u with
       | some (_,ro2)=>some (.i .i64 0,[],ro++ro2)
       | none=>none)
     | _::_=>match u with
      | .a id t1 path lo m=>match B2 T t1,of id with
       | some (.arr N el'),some (.box t0 a false)=>match atA T a path with
        | some (.v t2 y)=>if Nat.beq el el'&&Nat.beq t1 t2&&Nat.ble ns.length m&&Nat.ble (lo+m) N then (match A0S T a path (.v t1 (.l (U6 y.els lo ns))) with
         | some a'=>some (.i .i64 (ns.length:Nat),[(id,.box t0 a' false)],id::ro)
         | none=>none) else none
        | _=>none
       | _,_=>none
      | .w id ver off m=>match of id with
       | some (.row el' v' xs false false)=>if Nat.beq el el'&&Nat.beq v' ver&&Nat.ble ns.length m&&Nat.ble (off+m) xs.length then some (.i .i64 (ns.length:Nat),[(id,.row el ver (U6 xs off ns) false false)],id::ro) else none
       | _=>none
      | .o id ver=>match of id with
       | some (.row el' v' xs false false)=>if Nat.beq el el'&&Nat.beq v' ver&&Nat.ble ns.length xs.length then some (.i .i64 (ns.length:Nat),[(id,.row el ver (U6 xs 0 ns) false false)],id::ro) else none
       | _=>none
      | _=>none)
    else none
   | none=>none
  else none
 | _=>none
theorem A36 {dt el xt ty:TypeId} {te:TE} (h:A5 T c e of) (hT:F4 T P) (hd:P.underlying dt=some (.slice el)) (hel:T el=some te) {id ver off m:Nat} {xs ns:List V} {x y:Value} {us:List Value} (ho:of id=some (.row el ver xs false false)) (hx:B3 T e (.w id ver off m) x) (hm:off+m≤xs.length) (hn:ns.length≤m) (h0:0 < ns.length)
  (hs:Src P e.w xt y te.size ns.length us) (hus:RV T e (List.replicate ns.length el) ns us) (hl:ns.length≤9223372036854775807) {ro:List Nat} :
  B9 P (do pure (.value (← Builtin.copy_ #[dt,xt] ty #[x,y]))) e.w (C4 T c e of ⟨.i .i64 (ns.length:Nat),[(id,.row el ver (U6 xs off ns) false false)],ro,[]⟩):=by
 obtain ⟨u1,u2,u3,u4,u5,u6,u7⟩:=G3 h ho
 obtain ⟨b,o,cap,k,k1,k2,k3,k4,k5,rfl⟩:=N8 hx u3
 rcases u7 with ⟨hq,_,_⟩ | ⟨_,b',o',cs,ty',fz,pre,ys,post,g1,g2,g3,g4,g5,g6,g7,g8⟩
 ·cases hq
 rw [g1] at k1;cases k1
 rw [u4] at k4 k5
 have hkk:=k5 (by omega)
 obtain ⟨as0,bs,zs,rfl,s1,s2,s3⟩:=A2h g6 (k:=off) (ns:=ns) (by omega) hus
 have e1:pre++(as0++(bs++zs))++post=(pre++as0)++(bs++(zs++post)):=by simp
 rw [e1] at g4
 have hoff:(pre++as0).length=k:=by simp only [C3p];omega
 have hcl:cs.size=(pre++as0).length+(bs.length+(zs++post).length):=by
  have:=congrArg List.length g4;simpa only [C3u,C3p] using this
 obtain ⟨cs',f1,f2⟩:=L7 us g2 (i:=k) (by omega)
 rw [A1z g4 hoff (by omega)] at f2
 have hsz:cs'.size=cs.size:=by
  have:=congrArg List.length f2
  simp only [C3u,C3p] at this hcl
  omega
 have hspl:(U6 xs off ns).length=xs.length:=A43 (by omega)
 obtain ⟨hos,hll⟩:=h.write ho g1 g2 f1 hsz (fun k hk=>F2 _ _ _ _ hk) (N6 _ _ _ _) (Q1 _ _ _ _)
  (fun j hs=>by
   have hj:j < o:=Nat.lt_of_not_le (fun hoj=>g8.1 rfl j hoj hs)
   have key:∀ X:List Value,((pre++as0)++X)[j]? = (pre++as0)[j]? := fun X=>List.getElem?_append_left (by simp only [C3p];omega)
   rw [← Array.getElem?_toList,← Array.getElem?_toList,f2,g4,key,key])
  (o':=.row el ver (U6 xs off ns) false false)
  (fun hle=>⟨u1,u2,u3,u4,by rw [hspl];exact u5,u6,.inr ⟨rfl,b,o,cs',ty',fz,pre,as0++(us++zs),post,g1,f1,A2s g3 g2 f1 hsz,by rw [f2];simp,g5,by rw [hspl];exact s3.mono hle,
   fun j hj=>g7 j (by simp only [C3p] at hj ⊢;omega),fun hh j hj=>g8.1 hh j hj,g8.2⟩⟩)
 refine A1 (x:=goInt ns.length) (w':=D0 e.w b k us) (A35 hd (hT _ _ hel) hs hn (fun a ha=>?_) (fun ha=>by cases ha)) ⟨_,rfl,hos,hll,fun _ hu=>.inl hu,G6 (by constructor<;>simp only [lo,hi]<;>omega)⟩
 cases ha
 exact T7 g2 g3 hus.one (by omega)
theorem A8T {dt el xt ty:TypeId} {te:TE} (h:A5 T c e of) (hT:F4 T P) (hd:P.underlying dt=some (.slice el)) (hel:T el=some te) {id t0 t1 N lo0 m:Nat} {path:List Nat} {a a':A} {v:V} {ns:List V} {x y:Value} {us:List Value} (ho:of id=some (.box t0 a false)) (hk1:B2 T t1=some (.arr N el)) (hat:atA T a path=some (.v t1 v))
  (hput:A0S T a path (.v t1 (.l (U6 v.els lo0 ns)))=some a') (hx:B3 T e (.a id t1 path lo0 m) x) (hn:ns.length≤m) (h0:0 < ns.length)
  (hs:Src P e.w xt y te.size ns.length us) (hus:RV T e (List.replicate ns.length el) ns us) (hl:ns.length≤9223372036854775807) {ro:List Nat} :
  B9 P (do pure (.value (← Builtin.copy_ #[dt,xt] ty #[x,y]))) e.w (C4 T c e of ⟨.i .i64 (ns.length:Nat),[(id,.box t0 a' false)],ro,[]⟩):=by
 obtain ⟨u1,u2,u3,u4,b,cs,ty',fz,g1,g2,g3,g4,g5,g6⟩:=Q8 h ho
 obtain ⟨b',off,n',el',k,cap,_,_,k1,k2,k3,k4,k5,k6,rfl⟩:=S3 hx
 rw [g1] at k1;cases k1
 rw [hk1] at k3;cases k3
 rw [u3] at k2
 obtain ⟨pre0,d0,post0,q1,q2,q3,q4,q5⟩:=R6 path g5 u4 k2 hat
 obtain ⟨ys,rfl,hyl,hy⟩:=q4.v_inv.arr_inv hk1
 subst hyl
 obtain ⟨as0,bs,zs,rfl,s1,s2,s3⟩:=A2h hy (k:=lo0) (ns:=ns) (by omega) hus
 have hsz1:B1 T t1=(as0++(us++zs)).length:=by rw [← q3];simp only [C3p];omega
 have hnew:RV T e [t1] [.l (U6 ys lo0 ns)] (as0++(us++zs)):=by
  have:=RV.arr hk1 hsz1 s3 .nil
  rwa [List.append_nil] at this
 obtain ⟨pre,d,post,p1,p2,p3,p4,p5⟩:=A1x path g5 u4 k2 (RA.v1 hnew) (G9 _ _) hput
 have hkk:=k6 (by omega)
 have hpp:pre=pre0∧d=as0++(bs++zs)∧post=post0:=by
  rw [q1] at p1
  obtain ⟨e1,e2⟩:=List.append_inj p1 (by omega)
  obtain ⟨e3,e4⟩:=List.append_inj e2 (by omega)
  exact ⟨e1.symm,e3.symm,e4.symm⟩
 obtain ⟨rfl,rfl,rfl⟩:=hpp
 have e1:pre++((as0++(bs++zs))++post)=(pre++as0)++(bs++(zs++post)):=by simp
 rw [e1] at p1
 have hoff:(pre++as0).length=k:=by simp only [C3p];omega
 have hcl:cs.size=(pre++as0).length+(bs.length+(zs++post).length):=by
  have:=congrArg List.length p1;simpa only [C3u,C3p] using this
 obtain ⟨cs',f1,f2⟩:=L7 us g2 (i:=k) (by omega)
 rw [A1z p1 hoff (by omega)] at f2
 have hsz:cs'.size=cs.size:=by
  have:=congrArg List.length f2
  simp only [C3u,C3p] at this hcl
  omega
 obtain ⟨hos,hll⟩:=h.write ho g1 g2 f1 hsz (fun k hk=>F2 _ _ _ _ hk) (N6 _ _ _ _) (Q1 _ _ _ _) (fun i hs=>absurd hs (g6.1 rfl i))
  (o':=.box t0 a' false) (fun hle=>⟨u1,u2,u3,p5,b,cs',ty',fz,g1,f1,A2s g3 g2 f1 hsz,by omega,by
   rw [f2,show pre++as0++(us++(zs++post))=pre++((as0++(us++zs))++post) by simp];exact p4.mono hle,fun _ i=>g6.1 rfl i,g6.2⟩)
 refine A1 (x:=goInt ns.length) (w':=D0 e.w b k us) (A35 hd (hT _ _ hel) hs hn (fun a ha=>?_) (fun ha=>by cases ha)) ⟨_,rfl,hos,hll,fun _ hu=>.inl hu,G6 (by constructor<;>simp only [lo,hi]<;>omega)⟩
 cases ha
 exact T7 g2 g3 hus.one (by omega)
theorem B28 (hT:F4 T P) {of':Nat→Option Ob} {t xt ty:TypeId} {u v r:A} {x y:Value} {wo:List (Nat×Ob)} {ro:List Nat} (h:A5 T c e of') (hr:W8 T of t xt u v=some (r,wo,ro)) (ho:∀ id∈ro,of' id=of id) (hx:B3 T e u x) (hy:B3 T e v y) :
  B9 P (do pure (.value (← Builtin.copy_ #[t,xt] ty #[x,y]))) e.w (C4 T c e of' ⟨r,wo,ro,[]⟩):=by
 unfold W8 at hr
 split at hr<;>try (cases hr;done)
 rename_i el hk
 obtain ⟨tem,h1,h2⟩:=A6 hk
 have hu:=D4 (hT _ _ h1) h2
 split at hr<;>try (cases hr;done)
 rename_i hc
 simp only [C3o] at hc
 obtain ⟨hty,hst⟩:=A3R hT hc.1
 obtain ⟨te,hte⟩:=C3s.1 hc.2
 split at hr<;>try (cases hr;done)
 rename_i ns ro1 hsrc
 split at hr<;>try (cases hr;done)
 rename_i hlim
 have hlim:ns.length≤9223372036854775807:=Nat.le_trans (C3t hlim) (by decide)
 have src:(∀ id∈ro1,of' id=of id)→∃ us,Src P e.w xt y te.size ns.length us∧RV T e (List.replicate ns.length el) ns us:=fun ho=>by
  obtain ⟨us,s1,s2⟩:=A3v (xt:=xt) h hty hst hsrc ho hy
  rw [E4 hte] at s1
  exact ⟨us,s1,s2⟩
 split at hr
 ·split at hr<;>try (cases hr;done)
  rename_i hns
  split at hr<;>try (cases hr;done)
  rename_i ro2 hs2
  injection hr with hr;injection hr with e1 e2;injection e2 with e2 e3;subst e1;subst e2;subst e3
  obtain ⟨us,s1,s2⟩:=src (fun id A7=>ho id (by simp [A7]))
  obtain ⟨p,n,k,rfl⟩:=A14 h hs2 (fun id A7=>ho id (by simp [A7])) hx hns
  have hus:us=[]:=by have:=s1.size;simpa using this
  subst hus
  refine A1 (A35 hu (hT _ _ hte) s1 (Nat.zero_le _) (fun a ha=>?_) (fun _=>rfl)) (A4 h (G6 (by constructor<;>simp [lo,hi])))
  simp [storeCells]
 ·rename_i q qs hq0
  have h0:0 < (q::qs).length:=by simp
  split at hr<;>try (cases hr;done)
  ·rename_i id t1 path lo0 m
   split at hr<;>try (cases hr;done)
   rename_i N el' t0 a hk1 hof
   split at hr<;>try (cases hr;done)
   rename_i t2 v2 hat
   split at hr<;>try (cases hr;done)
   rename_i hc2
   simp only [C3o] at hc2
   obtain ⟨⟨⟨c1,c2⟩,c3⟩,c4⟩:=hc2
   have:=C3n c1;subst this
   have:=C3n c2;subst this
   split at hr<;>try (cases hr;done)
   rename_i a' hput
   injection hr with hr;injection hr with e1 e2;injection e2 with e2 e3;subst e1;subst e2;subst e3
   obtain ⟨us,s1,s2⟩:=src (fun id A7=>ho id (by simp [A7]))
   exact A8T h hT hu hte ((ho id (by simp)).trans hof) hk1 hat hput hx (C3t c3) h0 s1 s2 hlim
  ·rename_i id ver off m
   split at hr<;>try (cases hr;done)
   rename_i el' v' xs hof
   split at hr<;>try (cases hr;done)
   rename_i hc2
   simp only [C3o] at hc2
   obtain ⟨⟨⟨c1,c2⟩,c3⟩,c4⟩:=hc2
   have:=C3n c1;subst this
   have:=C3n c2;subst this
   injection hr with hr;injection hr with e1 e2;injection e2 with e2 e3;subst e1;subst e2;subst e3
   obtain ⟨us,s1,s2⟩:=src (fun id A7=>ho id (by simp [A7]))
   exact A36 h hT hu hte ((ho id (by simp)).trans hof) hx (C3t c4) (C3t c3) h0 s1 s2 hlim
  ·rename_i id ver
   split at hr<;>try (cases hr;done)
   rename_i el' v' xs hof
   split at hr<;>try (cases hr;done)
   rename_i hc2
   simp only [C3o] at hc2
   obtain ⟨⟨c1,c2⟩,c3⟩:=hc2
   have:=C3n c1;subst this
   have:=C3n c2;subst this
   injection hr with hr;injection hr with e1 e2;injection e2 with e2 e3;subst e1;subst e2;subst e3
   obtain ⟨us,s1,s2⟩:=src (fun id A7=>ho id (by simp [A7]))
   have hof':=(ho id (by simp)).trans hof
   obtain ⟨v0,v1,v2,v3,v4,v5,h6⟩:=G3 h hof'
   have hι:e.ι id≠none:=by
    rcases h6 with ⟨hf,_⟩ | ⟨_,b,o,_,_,_,_,_,_,g,_⟩
    ·cases hf
    ·rw [g];intro q;cases q
   have hw:=A4w hx v2 v1 hι v0
   rw [v4] at hw
   exact A36 h hT hu hte hof' hw (by omega) (C3t c3) h0 s1 s2 hlim
variable {P:Program} {T:TT} {c:F1} {e:A8} {of:Nat→Option Ob}
theorem A2K {t xt ty el:TypeId} {te:TE} {w:World} {k:IntKind} (ht:P.underlying t=some (.slice el)) (hel:A0A P T el te) (hxt:P.underlying xt=some (.int k)) {m:Nat} (h0:0 < m) (hz0:0 < te.size)
  (hbytes:m * te.bytes≤140737488355328) (h63:m≤4611686018427387904) :
  ∃ (z:Value) (cap2:Nat),m≤cap2∧((∀ e,RV T e [el] [te.zero] z.cells.toList)∨te.k=.other)∧(Builtin.append_ #[t,xt] ty #[.slice none 0 0,.int k m]).run P w=.ok (.slice (some ⟨w.heap.size,0,none⟩) m cap2)
   (w.drew.alloc (.cells (Builtin.zeroCells z.cells m++Builtin.zeroCells z.cells (cap2 - m)) el)):=by
 obtain ⟨i,d,z,h1,h2,h3,h4,h5,h6,h7,h8⟩:=hel.fits
 have hn:¬ (m≤0):=by omega
 have hw:IntKind.i64.wrap (m:Int)=m:=by
  have h1:(0:Int)≤m:=by omega
  have h2:(m:Int)≤4611686018427387904:=by omega
  generalize (m:Int)=q at h1 h2
  simp only [IntKind.wrap,IntKind.bits,IntKind.signed];simp;omega
 have h63':¬ (9223372036854775807 < (m:Int)):=by omega
 have hlt:¬ ((m:Int) < 0):=by omega
 have h48:¬ ((281474976710656:Int) < (m:Int) * (te.bytes:Int)):=by
  have h5:((m * te.bytes:Nat):Int)≤((140737488355328:Nat):Int):=Int.ofNat_le.2 hbytes
  rw [Int.natCast_mul] at h5
  have e3:((140737488355328:Nat):Int)=140737488355328:=rfl
  rw [e3] at h5
  generalize (m:Int) * (te.bytes:Int)=q at h5
  omega
 have hfit:=growslice_fits (need:=m) (old:=0) (bytes:=te.bytes) (by omega) hbytes
 have h48':¬ (281474976710656 < Builtin.nextslicecap m 0 * te.bytes):=by omega
 have hms:¬ (m * te.size=0):=Nat.mul_ne_zero (by omega) (by omega)
 refine ⟨z,grownCap w m 0 el,?_,h7,?_⟩
 ·simp only [grownCap,Question.cut];omega
 ·have hm0:¬ m=0:=by omega
  simp [Builtin.append_,A2 ht,A2 hxt,sizeOf,typeInfo,zeroValue,h1,h3,h4,h6,asInt,asIntOf,hw,hlt,h48,hn,h63',h48',hms,hm0,Question.forced,newRow,grownCap,Builtin.firstCells,show ¬ te.size=0 by omega]
def A2L (T:TT) (nx t xt:Nat) (u v:A):Option Out :=
 match B2 T t,B2 T xt,v with
 | some (.slice el),some (.int k),.i k' m=>match T el with
  | some te=>if A2W k k'&&Nat.blt 0 te.size&&TK.notOther te.k&&Nat.ble te.bytes 131072&&E8 0 m&&J1 m LIM then
    (match zV T t u with
    | .v t' .n=>if same T t t' then some ⟨.o nx 1,[(nx,.row el 1 (List.replicate m.toNat te.zero) false false)],[],[nx]⟩ else none
    | _=>none) else none
  | none=>none
 | _,_,_=>none
theorem B1m (hT:F4 T P) {t xt ty:TypeId} {nx:Nat} {u v:A} {x y:Value} {out:Out} (h:A5 T c e of) (hr:A2L T nx t xt u v=some out) (hq:isQ T u=true) (hu:∀ id∈out.nw,¬ e.U id) (hx:B3 T e u x) (hy:B3 T e v y) :
  B9 P (do pure (.value (← Builtin.append_ #[t,xt] ty #[x,y]))) e.w (C4 T c e of out):=by
 unfold A2L at hr
 split at hr<;>try (cases hr;done)
 rename_i el k k' m hk hkx
 obtain ⟨te1,h1,h2⟩:=A6 hk
 obtain ⟨te2,h3,h4⟩:=A6 hkx
 have ht:=D4 (hT _ _ h1) h2
 have hxt:=N7 (hT _ _ h3) h4
 split at hr<;>try (cases hr;done)
 rename_i te hte
 split at hr<;>try (cases hr;done)
 rename_i hc
 simp only [C3o,H0,K9] at hc
 obtain ⟨⟨⟨⟨⟨c1,c2⟩,c3⟩,c4⟩,c5⟩,c6⟩:=hc
 have:=A0T c1;subst this
 have hz0:0 < te.size:=by simpa [Nat.blt_eq] using c2
 have hzx:=B7O hk hx (A7y hq)
 generalize zV T t u=u' at hzx hr
 split at hr<;>try (cases hr;done)
 rename_i t'
 split at hr<;>try (cases hr;done)
 rename_i hs
 injection hr with hr;subst hr
 have hk':=(A9 hs).1.symm.trans hk
 rcases (C5 hzx ⟨_,hk',rfl⟩).slice_inv hk' with ⟨_,hv⟩ | ⟨_,_,_,_,h0,_⟩
 ·injection hv with hv
  rw [hv,B8 hy]
  obtain ⟨n,rfl⟩:=Int.eq_ofNat_of_zero_le (Int.le_of_lt c5)
  have hn:n≤1073741824:=by have h1:(n:Int)≤1073741824:=c6;omega
  have hb:=C3t c4
  obtain ⟨l1,l2⟩:=Y3 (n:=n) (b:=te.bytes) (by rw [Nat.ble_eq];exact hn) c4
  have hz:B1 T el=te.size:=E4 hte
  obtain ⟨z,cap2,hc2,hzr,hrun⟩:=A2K (P:=P) (ty:=ty) (w:=e.w) ht (hT _ _ hte) hxt (m:=n) (by omega) hz0 l1 l2
  have hzz:=hzr.elim (fun q=>q) (fun q=>absurd q (S4 c3))
  have hzs:z.cells.size=te.size:=by
   have:=(hzz e).one_len
   rw [hz,C3u] at this;exact this
  have hrow:(Builtin.zeroCells z.cells n).toList=(List.replicate n z.cells.toList).flatten:=U4 z.cells n
  have hcs:(Builtin.zeroCells z.cells n++Builtin.zeroCells z.cells (cap2 - n)).size=cap2 * B1 T el:=by
   rw [hz]
   simp only [Array.size_append,size_zeroCells,hzs,← Nat.add_mul]
   congr 1;omega
  obtain ⟨hd0,hle0⟩:=h.same_heap (w':=e.w.drew) rfl rfl rfl rfl
  have hok:=A6c (id:=nx) (el:=el) (xs:=List.replicate n te.zero) (cs:=Builtin.zeroCells z.cells n++Builtin.zeroCells z.cells (cap2 - n)) (ys:=(List.replicate n z.cells.toList).flatten) (post:=(Builtin.zeroCells z.cells (cap2 - n)).toList) hd0 (hu nx (by simp)) (by omega) (by rw [Array.toList_append,hrow])
   (by rw [List.length_replicate];exact A0L (hzz _) n)
  obtain ⟨e',p1,p2,p3,p4,p5⟩:=Z8 (ro:=[]) hd0 (hu nx (by simp)) hok (A1p (n:=(List.replicate n te.zero).length) (cap:=cap2) hcs (by rw [List.length_replicate];exact hc2))
  rw [List.length_replicate] at p5
  exact A1 hrun ⟨e',p1,p2,hle0.trans p3,p4,p5⟩
 ·cases h0
variable {P:Program} {T:TT} {c:F1} {e:A8} {of:Nat→Option Ob}
def A8.newT (e:A8) (id t:Nat) (o:Go.Obj):A8 :=
 {w:=e.w.alloc o,ι:=D3 e.ι id (some (e.w.heap.size,0)),S:=e.S,bn:=D3 e.bn id 0,U:=fun j=>j=id∨e.U j,ty:=D3 e.ty id t,ln:=e.ln,G:=e.G }
theorem A5.le_newT (h:A5 T c e of) {id t:Nat} (hu:¬ e.U id) (o:Go.Obj):e.le (e.newT id t o):=by
 refine ⟨fun b i hs=>⟨hs,fun x hx=>?_⟩,fun _ hj=>.inr hj,fun j hj _=>?_,fun j hj h0=>?_,fun j hj=>?_,fun j hj=>A3 _ _ (fun e=>hu (e ▸ hj)),by show _≤(e.w.alloc _).heap.size;rw [C6];omega,fun b hb=>C3 (B5 _ _ hb)⟩
 ·rw [← hx];exact C9 (B5 _ _ (h.slt _ _ hs))
 ·have hne:j≠id:=fun e=>hu (e ▸ hj)
  exact ⟨A3 _ _ hne,rfl,fun b o hb=>C3 (B5 _ _ (h.lt _ _ _ hj hb))⟩
 ·have hne:j≠id:=fun e=>hu (e ▸ hj)
  show D3 e.bn id 0 j=0
  rw [A3 _ _ hne];exact h0
 ·have hne:j≠id:=fun e=>hu (e ▸ hj)
  show _≤D3 e.bn id 0 j
  rw [A3 _ _ hne];exact Nat.le_refl _
theorem A5.newT (h:A5 T c e of) {id t:Nat} (hu:¬ e.U id) {g:Go.Obj} {o:Ob} (ho:OK T (e.newT id t g) id o):A5 T c (e.newT id t g) (D3 of id (some o)):=by
 have hle:=h.le_newT (t:=t) hu g
 have ιne:∀ j,j≠id→(e.newT id t g).ι j=e.ι j:=fun j hj=>A3 _ _ hj
 have obne:∀ j,j≠id→D3 of id (some o) j=of j:=fun j hj=>A3 _ _ hj
 have old:∀ j b q,(of j).isSome→e.ι j=some (b,q)→b < e.w.heap.size:=fun j b q hj hb=>by
  obtain ⟨x,hx⟩:=C3s.1 hj
  exact h.lt _ _ _ (h.ok _ _ hx).use hb
 refine ⟨fun j x hj=>?_,fun j k b q b' q' hj hk hb hb' hne=>?_,fun j b q hj hb=>?_,fun j b q hj hb=>?_,fun b i hs=>?_,h.s0,h.snew,h.os,h.tape,h.output,?_,fun k hk hm=>?_,?_⟩
 ·by_cases he:j=id
  ·subst he;rw [upd_same] at hj;cases hj;exact ho
  ·rw [obne _ he] at hj
   exact (h.ok _ _ hj).keep hle (A3 _ _ he) (fun b q hb=>B5 _ _ (old _ _ _ (by rw [hj];rfl) hb)) (fun _ _ _ _ hs=>hs) (fun a o' b _ hG=>⟨hG,B5 _ _ (h.g.lt _ _ hG),fun i hs=>hs⟩)
 ·by_cases h1:j=id
  ·subst h1
   have hk':k≠j:=Ne.symm hne
   rw [obne _ hk'] at hk;rw [ιne _ hk'] at hb'
   have:=old _ _ _ hk hb'
   have hb1:(e.w.heap.size,0)=(b,q):=by simpa [A8.newT] using hb
   cases hb1;omega
  ·by_cases h2:k=id
   ·subst h2
    rw [obne _ h1] at hj;rw [ιne _ h1] at hb
    have:=old _ _ _ hj hb
    have hb1:(e.w.heap.size,0)=(b',q'):=by simpa [A8.newT] using hb'
    cases hb1;omega
   ·rw [obne _ h1] at hj;rw [obne _ h2] at hk;rw [ιne _ h1] at hb;rw [ιne _ h2] at hb'
    exact h.sep _ _ _ _ _ _ hj hk hb hb' hne
 ·by_cases h1:j=id
  ·subst h1
   have hb1:(e.w.heap.size,0)=(b,q):=by simpa [A8.newT] using hb
   cases hb1;exact .inl h.size
  ·rw [obne _ h1] at hj;rw [ιne _ h1] at hb
   exact h.own _ _ _ hj hb
 ·have hsz:(e.newT id t g).w.heap.size=e.w.heap.size+1:=C6 _ _
  rw [hsz]
  by_cases h1:j=id
  ·subst h1
   have hb1:(e.w.heap.size,0)=(b,q):=by simpa [A8.newT] using hb
   cases hb1;omega
  ·rw [ιne _ h1] at hb
   rcases hj with hj | hj
   ·exact absurd hj h1
   ·have:=h.lt _ _ _ hj hb;omega
 ·have:=h.slt _ _ hs
  show b < (e.w.alloc _).heap.size
  rw [C6];omega
 ·show _≤(e.w.alloc _).heap.size
  rw [C6];have:=h.size;omega
 ·exact (B5 _ _ (by have:=h.size;omega)).trans (h.block k hk hm)
 ·refine h.g.mono (fun _ _ q=>q) rfl (fun _ q=>q) (by show _≤(e.w.alloc _).heap.size;rw [C6];omega) (fun j b o hj hb=>?_)
  by_cases h1:j=id
  ·subst h1
   have hb1:(e.w.heap.size,0)=(b,o):=by simpa [A8.newT] using hb
   cases hb1;exact .inr (Nat.le_refl _)
  ·rw [obne _ h1] at hj;rw [ιne _ h1] at hb
   exact .inl ⟨j,o,hj,hb⟩
def A37 (T:TT) (of:Nat→Option Ob) (nx t:Nat) (u:A):Option Out :=
 match B2 T t with
 | some (.map _ _)=>match u with
  | .m m=>match of m with
   | some (.map _ _ _)=>some ⟨.p nx 0 [],[(nx,.it (some m))],[m],[nx]⟩
   | some (.sm _ _ _ _ _)=>some ⟨.p nx 0 [],[(nx,.it (some m))],[m],[nx]⟩
   | _=>none
  | u=>if A0P T t u then some ⟨.p nx 0 [],[(nx,.it none)],[],[nx]⟩ else none
 | _=>none
theorem A5t (hT:F4 T P) {of':Nat→Option Ob} {nx t:Nat} {u:A} {x:Value} {out:Out} (h:A5 T c e of') (hr:A37 T of nx t u=some out) (ho:∀ id∈out.ro,of' id=of id) (hu:∀ id∈out.nw,¬ e.U id) (hx:B3 T e u x) :
  B9 P (do pure (.value (← Instr.range t x))) e.w (C4 T c e of' out):=by
 unfold A37 at hr
 split at hr<;>try (cases hr;done)
 rename_i kt et hk
 obtain ⟨te,h1,h2⟩:=A6 hk
 have hun:=H2 (hT _ _ h1) h2
 split at hr
 ·rename_i m
  split at hr<;>try (cases hr;done)
  ·rename_i kt' et' es hof
   injection hr with hr;subst hr
   have hum:¬ e.U nx:=hu nx (by simp)
   have hof':of' m=some (.map kt' et' es):=(ho m (by simp)).trans hof
   obtain ⟨k1,k2,b,ms,clock,k3,k4,k5⟩:=h.ok _ _ hof'
   have hx':RA T e [.m m] [x]:=hx
   have hxv:x=.map (some b):=by
    generalize x=y at hx'
    cases hx' with
    | r g1 _ _ =>
     obtain ⟨b',u1,u2,u3,u4⟩:=g1
     rw [k3] at u3;cases u3;exact u4
   have hne:m≠nx:=fun q=>hum (q ▸ k1)
   have hrun:(Instr.range t x).run P e.w=.ok (.pointer (some ⟨e.w.heap.size,0,none⟩)) (e.w.alloc (.mapIter (some b) clock #[] clock)):=by
    rw [hxv]
    simp [Instr.range,A2 hun,getObj,Sem.run,k4,newObj]
   refine A1 hrun ⟨e.newT nx 0 (.mapIter (some b) clock #[] clock),rfl,h.newT hum ?_,h.le_newT hum _,fun j hj=>hj.elim (fun q=>.inr (by simp [q])) .inl,?_⟩
   ·exact ⟨.inl rfl,upd_same _ _ _,e.w.heap.size,b,clock,clock,upd_same _ _ _,J2 _ _,.inr k1,by show D3 e.bn nx 0 m=0;rw [A3 _ _ hne];exact k2,by show D3 e.ι nx _ m=_;rw [A3 _ _ hne];exact k3⟩
   ·exact RA.r ⟨e.w.heap.size,0,.inl rfl,upd_same _ _ _,upd_same _ _ _,(by show Pth T (D3 e.ty nx 0 nx) [] 0 0;rw [upd_same];exact .nil),rfl⟩ rfl .nil
  ·rename_i kt' st' el' es ho' hof
   injection hr with hr;subst hr
   have hum:¬ e.U nx:=hu nx (by simp)
   have hof':of' m=some (.sm kt' st' el' es ho'):=(ho m (by simp)).trans hof
   obtain ⟨k1,k2,_,_,_,b,ms,clock,k3,k4,k5⟩:=h.ok _ _ hof'
   have hx':RA T e [.m m] [x]:=hx
   have hxv:x=.map (some b):=by
    generalize x=y at hx'
    cases hx' with
    | r g1 _ _ =>
     obtain ⟨b',u1,u2,u3,u4⟩:=g1
     rw [k3] at u3;cases u3;exact u4
   have hne:m≠nx:=fun q=>hum (q ▸ k1)
   have hrun:(Instr.range t x).run P e.w=.ok (.pointer (some ⟨e.w.heap.size,0,none⟩)) (e.w.alloc (.mapIter (some b) clock #[] clock)):=by
    rw [hxv]
    simp [Instr.range,A2 hun,getObj,Sem.run,k4,newObj]
   refine A1 hrun ⟨e.newT nx 0 (.mapIter (some b) clock #[] clock),rfl,h.newT hum ?_,h.le_newT hum _,fun j hj=>hj.elim (fun q=>.inr (by simp [q])) .inl,?_⟩
   ·exact ⟨.inl rfl,upd_same _ _ _,e.w.heap.size,b,clock,clock,upd_same _ _ _,J2 _ _,.inr k1,by show D3 e.bn nx 0 m=0;rw [A3 _ _ hne];exact k2,by show D3 e.ι nx _ m=_;rw [A3 _ _ hne];exact k3⟩
   ·exact RA.r ⟨e.w.heap.size,0,.inl rfl,upd_same _ _ _,upd_same _ _ _,(by show Pth T (D3 e.ty nx 0 nx) [] 0 0;rw [upd_same];exact .nil),rfl⟩ rfl .nil
 ·split at hr<;>try (cases hr;done)
  rename_i hn
  injection hr with hr;subst hr
  have hum:¬ e.U nx:=hu nx (by simp)
  have hxv:=A5r hk hn hx
  have hrun:(Instr.range t x).run P e.w=.ok (.pointer (some ⟨e.w.heap.size,0,none⟩)) (e.w.alloc (.mapIter none 0 #[] 0)):=by
   rw [hxv]
   simp [Instr.range,A2 hun,Sem.run,newObj]
  refine A1 hrun ⟨e.newT nx 0 (.mapIter none 0 #[] 0),rfl,h.newT hum ?_,h.le_newT hum _,fun j hj=>hj.elim (fun q=>.inr (by simp [q])) .inl,?_⟩
  ·exact ⟨.inl rfl,upd_same _ _ _,e.w.heap.size,0,#[],0,upd_same _ _ _,J2 _ _⟩
  ·exact RA.r ⟨e.w.heap.size,0,.inl rfl,upd_same _ _ _,upd_same _ _ _,(by show Pth T (D3 e.ty nx 0 nx) [] 0 0;rw [upd_same];exact .nil),rfl⟩ rfl .nil
def A5u (of:Nat→Option Ob) (u:A):Option (A×List Nat) :=
 match u with
 | .p id _ []=>match of id with
  | some (.it none)=>some (.t [.b false],[id])
  | some (.it (some m))=>match of m with
   | some (.map _ _ [])=>some (.t [.b false],[id,m])
   | some (.sm _ _ _ [] _)=>some (.t [.b false],[id,m])
   | _=>none
  | _=>none
 | _=>none
theorem A38 {of':Nat→Option Ob} {u v:A} {x:Value} {ty:Nat} {ro:List Nat} (h:A5 T c e of') (hr:A5u of u=some (v,ro)) (ho:∀ id∈ro,of' id=of id) (hx:B3 T e u x) :
  B9 P (do pure (.value (← Instr.next x false ty))) e.w (C4 T c e of' ⟨v,[],ro,[]⟩):=by
 unfold A5u at hr
 split at hr<;>try (cases hr;done)
 rename_i id t
 have hx':=F6 hx
 obtain ⟨b0,off,u1,u2,u3,u4,hxv⟩:=hx'
 cases u4
 have hrep:B3 T e (.t [.b false]) (.tuple #[.bool false]):=by
  refine ⟨#[.bool false],rfl,rfl,fun i v z hv hz=>?_⟩
  match i,hv,hz with
  | 0,hv,hz=>simp at hv hz;subst hv;subst hz;exact RA.b .nil
  | i+1,hv,hz=>simp at hv
 split at hr<;>try (cases hr;done)
 ·rename_i hof
  simp only [C3q,Prod.mk.injEq] at hr
  obtain ⟨rfl,rfl⟩:=hr
  obtain ⟨k1,k2,b,y1,y2,y3,k3,k4⟩:=h.ok _ _ ((ho id (by simp)).trans hof)
  rw [u3] at k3;cases k3
  have hrun:(Instr.next x false ty).run P e.w=.ok (.tuple #[.bool false]) e.w:=by
   rw [hxv]
   simp [Instr.next,getObj,Sem.run,k4]
  exact A1 hrun (A4 h hrep)
 ·rename_i m hof
  split at hr<;>try (cases hr;done)
  ·rename_i kt et hm
   simp only [C3q,Prod.mk.injEq] at hr
   obtain ⟨rfl,rfl⟩:=hr
   obtain ⟨k1,k2,b,bm,y1,y2,k3,k4,k5,k6,k7⟩:=h.ok _ _ ((ho id (by simp)).trans hof)
   rw [u3] at k3;cases k3
   obtain ⟨m1,m2,b',ms,clock,m3,m4,m5,es',m6,m7⟩:=h.ok _ _ ((ho m (by simp)).trans hm)
   rw [k7] at m3;cases m3
   have hes:es'=[]:=List.Perm.eq_nil m6
   subst hes
   have hms:ms=#[]:=by
    generalize hl:ms.toList=l at m7
    cases m7
    exact Array.toList_eq_nil_iff.1 hl
   subst hms
   have hrun:(Instr.next x false ty).run P e.w=.ok (.tuple #[.bool false]) e.w:=by
    rw [hxv]
    simp [Instr.next,getObj,Sem.run,k4,m4,choose,Question.forced]
   exact A1 hrun (A4 h hrep)
  ·rename_i kt st el ho' hm
   simp only [C3q,Prod.mk.injEq] at hr
   obtain ⟨rfl,rfl⟩:=hr
   obtain ⟨k1,k2,b,bm,y1,y2,k3,k4,k5,k6,k7⟩:=h.ok _ _ ((ho id (by simp)).trans hof)
   rw [u3] at k3;cases k3
   obtain ⟨m1,m2,_,_,_,b',ms,clock,m3,m4,m5,es',bs',m6,m7⟩:=h.ok _ _ ((ho m (by simp)).trans hm)
   rw [k7] at m3;cases m3
   have hes:es'=[]:=List.Perm.eq_nil m6
   subst hes
   have hms:ms=#[]:=by
    generalize hl:ms.toList=l at m7
    cases m7
    exact Array.toList_eq_nil_iff.1 hl
   subst hms
   have hrun:(Instr.next x false ty).run P e.w=.ok (.tuple #[.bool false]) e.w:=by
    rw [hxv]
    simp [Instr.next,getObj,Sem.run,k4,m4,choose,Question.forced]
   exact A1 hrun (A4 h hrep)
variable {P:Program} {T:TT} {c:F1} {e:A8} {of:Nat→Option Ob}
def T3 (T:TT) (t:Nat) (v:Value):Prop:=(∃ k,B2 T t=some k∧k.agg=true)↔∃ cs,v=.agg cs
theorem A7E {v:Value} (h:one v=true):¬ ∃ cs,v=.agg cs:=fun ⟨cs,hc⟩=>by subst hc;cases h
theorem J3 {t:Nat} {v:Value} {k:TK} (hk:B2 T t=some k) (ha:k.agg=false) (h:one v=true):T3 T t v :=
 ⟨fun ⟨k',h1,h2⟩=>(by rw [hk] at h1;cases h1;rw [ha] at h2;cases h2),fun h'=>absurd h' (A7E h)⟩
theorem B29 {t t':Nat} (h:same T t t'=true) {v:Value} (ha:T3 T t' v):T3 T t v:=by
 have:=(A9 h).1
 unfold T3
 rw [this];exact ha
theorem A3z {d t:Nat} {of:Nat→Option Ob} {a:A} {x:V} {wo:List (Nat×Ob)} {v:Value} (hv:J0 T d of t a=some (x,wo)) (hr:B3 T e a v):T3 T t v:=by
 cases d with
 | zero=>simp [J0] at hv
 | succ d =>
 have single:∀ a:A,RA T e [a] [v]→one v=true:=fun a h=>h.one_ v (by simp)
 have sl:∀ {a:A},(∃ y,X2 T of t a=some y)→one v=true→T3 T t v:=fun {a} ⟨y,hy⟩ ho=>by
  cases a<;>simp only [X2] at hy<;>try (cases hy;done)
  all_goals
   (repeat' split at hy)<;>first | (cases hy;done) | skip
   exact J3 (by assumption) rfl ho
 have fit:∀ {a a':A},H7 T t a=some a'→B6 T t a'=true→(∀ t' y,a'≠.v t' y)→(∀ t' l,a'≠.g t' l)→one v=true→T3 T t v:=by
  intro a a' _ hf h1 h2 ho
  have sc:Q7 T t=true→T3 T t v:=fun hs=>by
   simp only [Q7,C3o] at hs
   cases hk:B2 T t with
   | none=>rw [hk] at hs;simp at hs
   | some k=>rw [hk] at hs;exact J3 hk (by simpa using hs.1) ho
  cases a' with
  | v t' y=>exact absurd rfl (h1 _ _)
  | g t' l=>exact absurd rfl (h2 _ _)
  | i k n=>simp only [B6,C3o] at hf;split at hf<;>first | exact J3 (by assumption) rfl ho | (simp at hf;done)
  | b q=>simp only [B6,C3o] at hf;split at hf<;>first | exact J3 (by assumption) rfl ho | (simp at hf;done)
  | s l=>simp only [B6,C3o] at hf;split at hf<;>first | exact J3 (by assumption) rfl ho | (simp at hf;done)
  | t l=>simp [B6] at hf
  | _=>exact sc hf
 cases a with
 | o id ver=>exact sl (a:=.o id ver) (by simp only [J0] at hv;split at hv<;>first | (cases hv;done) | exact ⟨_,by assumption⟩) (single _ hr)
 | w id ver off n=>exact sl (a:=.w id ver off n) (by simp only [J0] at hv;split at hv<;>first | (cases hv;done) | exact ⟨_,by assumption⟩) (single _ hr)
 | a id t1 path lo m=>exact sl (a:=.a id t1 path lo m) (by simp only [J0] at hv;split at hv<;>first | (cases hv;done) | exact ⟨_,by assumption⟩) (single _ hr)
 | q t' y =>
  simp only [J0] at hv
  split at hv<;>try (cases hv;done)
  rename_i hs
  simp only [C3o,Q7] at hs
  cases hk:B2 T t with
  | none=>rw [hk] at hs;simp at hs
  | some k=>rw [hk] at hs;exact J3 hk (by simpa using hs.2.1) (single _ hr)
 | g t' l =>
  simp only [J0] at hv
  split at hv<;>try (cases hv;done)
  rename_i hs
  split at hv<;>try (cases hv;done)
  rename_i ts hts
  refine ⟨fun _=>hr.2,fun _=>?_⟩
  have e1:chT T t=some ts:=by rw [Z6 (A9 hs).1];exact hts
  unfold chT at e1
  split at e1
  ·exact ⟨_,by assumption,rfl⟩
  ·exact ⟨_,by assumption,rfl⟩
  ·cases e1
 | v t' y =>
  simp only [J0,H7] at hv
  split at hv<;>try (cases hv;done)
  rename_i b hb
  split at hb<;>try (cases hb;done)
  rename_i hs
  exact B29 hs hr.2
 | f fn cap =>
  cases cap with
  | nil =>
   simp only [J0] at hv
   split at hv<;>try (cases hv;done)
   exact J3 (by assumption) rfl (single _ hr)
  | cons a r =>
   simp only [J0] at hv
   split at hv<;>try (cases hv;done)
   rename_i b hb
   simp only [H7] at hb
   split at hb<;>try (cases hb;done)
   rename_i hf
   injection hb with hb;subst hb
   exact fit (a:=.f fn (a::r)) (a':=.f fn (a::r)) (by simp only [H7];rw [if_pos hf]) hf (by intros;simp) (by intros;simp) (single _ hr)
 | z y =>
  simp only [J0,H7] at hv
  split at hv<;>try (cases hv;done)
  rename_i b hb
  have ho:=single _ hr
  (repeat' split at hb)<;>first | (cases hb;done) | exact J3 (by assumption) rfl ho
 | t l=>simp only [J0,H7] at hv;cases hv
 | x=>simp only [J0,H7] at hv;cases hv
 | _ =>
  simp only [J0] at hv
  split at hv<;>try (cases hv;done)
  rename_i b hb
  have hb':=hb
  simp only [H7] at hb
  split at hb<;>try (cases hb;done)
  rename_i hf
  injection hb with hb;subst hb
  exact fit hb' hf (by intros;simp) (by intros;simp) (single _ hr)
def A5v (T:TT):Nat→Nat→Bool
 | 0,_=>false
 | d+1,t=>match B2 T t with
  | some (.int _) | some .bool | some .str=>true
  | some (.arr _ el)=>A5v T d el
  | some (.slice el)=>A5v T d el
  | some (.struct fs)=>fs.all (A5v T d)
  | _=>false
def B7P (T:TT) (et:Nat):Bool :=
 (match B2 T et with
 | some (.slice _)=>false
 | _=>true)&&A5v T 8 et
def A8U (kv:V):List (V×V)→Bool
 | []=>false
 | p::r=>P7 p.1 kv||A8U kv r
def B3a (kv:V):List (V×V)→V
 | []=>.n
 | p::r=>bif P7 p.1 kv then p.2 else B3a kv r
def A8V (kv:V):List (V×V)→List (V×V)
 | []=>[]
 | p::r=>bif P7 p.1 kv then A8V kv r else p::A8V kv r
def B8N (kv x:V) (es:List (V×V)):List (V×V):=(kv,x)::A8V kv es
theorem B3b {et:Nat} {kv:V}:∀ es:List (V×V),A2e kv (vms et es)=bif A8U kv es then some (.v et (B3a kv es)) else none:=by
 intro es
 induction es with
 | nil=>rfl
 | cons p r ih =>
  simp only [vms,A2e,A8U,B3a,ih]
  cases P7 p.1 kv<;>rfl
theorem A7F {et:Nat} {kv:V}:∀ es:List (V×V),A0w kv (vms et es)=vms et (A8V kv es):=by
 intro es
 induction es with
 | nil=>rfl
 | cons p r ih =>
  simp only [vms,A0w,A8V,ih]
  cases P7 p.1 kv<;>rfl
theorem B5J {et:Nat}:∀ es:List (V×V),(vms et es).length=es.length:=by
 intro es
 induction es with
 | nil=>rfl
 | cons p r ih=>simp [vms,ih]
def flat:Ob→Ob
 | .vm kt et es=>.map kt et (vms et es)
 | o=>o
theorem OK.flat {id:Nat} {o:Ob}:OK T e id (flat o)↔OK T e id o:=by cases o<;>exact Iff.rfl
theorem A5.flat_eq {f g:Nat→Option Ob} (h:A5 T c e f) (hfg:∀ id,(f id).map flat=(g id).map flat):A5 T c e g:=by
 have hs:∀ id,(g id).isSome→(f id).isSome:=fun id hi=>by
  have:=hfg id
  cases hf:f id with
  | some _=>rfl
  | none=>rw [hf] at this;cases hg:g id with
   | none=>rw [hg] at hi;cases hi
   | some o=>rw [hg] at this;cases this
 refine ⟨fun id o ho=>?_,fun i j b o b' o' hi hj=>h.sep i j b o b' o' (hs i hi) (hs j hj),fun id b o hi=>h.own id b o (hs id hi),h.lt,h.slt,h.s0,h.snew,h.os,h.tape,h.output,h.size,h.block,h.g.mono (fun _ _ q=>q) rfl (fun _ q=>q) (Nat.le_refl _) (fun j b o hj hb=>.inl ⟨j,o,hs j hj,hb⟩)⟩
 have:=hfg id
 rw [ho] at this
 cases hf:f id with
 | none=>rw [hf] at this;cases this
 | some o1 =>
  rw [hf] at this
  simp only [Option.map_some,C3q] at this
  exact OK.flat.1 (this ▸ OK.flat.2 (h.ok id o1 hf))
theorem R3 {f:Nat→Option Ob} {id kt et:Nat} {es:List (V×V)} (h:f id=some (.vm kt et es)):∀ j,(f j).map flat=(D3 f id (some (.map kt et (vms et es))) j).map flat:=by
 intro j
 by_cases hj:j=id
 ·subst hj;rw [upd_same,h];rfl
 ·rw [A3 _ _ hj]
def A3l (of:Nat→Option Ob) (m:A):Option (Nat×Nat×Nat×List (V×V)) :=
 match m with
 | .m id=>match of id with
  | some (.vm kt et es)=>some (id,kt,et,es)
  | _=>none
 | _=>none
theorem U7 {m:A} {id kt et:Nat} {es:List (V×V)} (h:A3l of m=some (id,kt,et,es)):m=.m id∧of id=some (.vm kt et es):=by
 unfold A3l at h
 split at h<;>try (cases h;done)
 split at h<;>try (cases h;done)
 cases h
 exact ⟨rfl,by assumption⟩
def B3c (T:TT) (t:Nat) (k:A) (ok:Bool) (q:Nat×Nat×Nat×List (V×V)):Option (A×List Nat) :=
 match B2 T t with
 | some (.map kt et)=>match T et,A0q T kt k with
  | some te,some kv=>if TK.notOther te.k then (if Nat.beq kt q.2.1&&Nat.beq et q.2.2.1 then
    (match A8U kv q.2.2.2 with
    | true=>some (okA ok (mkA T et (B3a kv q.2.2.2)) true,[q.1])
    | false=>some (okA ok (mkA T et te.zero) false,[q.1])) else none) else none
  | _,_=>none
 | _=>none
def A5w (T:TT) (of:Nat→Option Ob) (t:Nat) (m k:A) (ok:Bool):Option (A×List Nat) :=
 match A3l of m with
 | some q=>B3c T t k ok q
 | none=>A5s T of t m k ok
theorem B3d (hT:F4 T P) {of':Nat→Option Ob} {t:Nat} {m k r:A} {x y:Value} {ok:Bool} {ro:List Nat} (h:A5 T c e of') (hr:A5w T of t m k ok=some (r,ro)) (ho:∀ id∈ro,of' id=of id) (hx:B3 T e m x) (hy:B3 T e k y) :
  B9 P (do pure (.value (← Instr.lookup t x y ok))) e.w (C4 T c e of' ⟨r,[],ro,[]⟩):=by
 unfold A5w at hr
 split at hr
 ·rename_i q hq
  obtain ⟨id,kt',et',es⟩:=q
  obtain ⟨rfl,hof⟩:=U7 hq
  unfold B3c at hr
  split at hr<;>try (cases hr;done)
  rename_i kt et hk
  split at hr<;>try (cases hr;done)
  rename_i te kv hte hkv
  split at hr<;>try (cases hr;done)
  rename_i hne
  split at hr<;>try (cases hr;done)
  rename_i hc
  simp only at hr hc
  have hro:id∈ro:=by
   split at hr<;>(injection hr with hr;injection hr with _ hr;rw [← hr];simp)
  have hof':=(ho id hro).trans hof
  have h2:=h.flat_eq (R3 hof')
  have hla:A5s T (D3 of id (some (.map kt' et' (vms et' es)))) t (.m id) k ok=some (r,ro):=by
   unfold A5s
   simp only [hk,hte,hkv]
   rw [if_pos hne,show A0P T t (.m id)=false from rfl,cond_false,upd_same]
   simp only
   rw [if_pos hc]
   have hc2:=hc
   simp only [C3o] at hc2
   have e1:=C3n hc2.2
   rw [B3b]
   cases hv:A8U kv es with
   | true=>rw [hv] at hr;simp only at hr;rw [← e1];exact hr
   | false=>rw [hv] at hr;exact hr
  have:=A7A hT h2 hla (fun j hj=>by
   by_cases hji:j=id
   ·subst hji;rw [upd_same,upd_same]
   ·rw [A3 _ _ hji,A3 _ _ hji];exact ho j hj) hx hy
  refine C8 this ?_
  rintro z w' ⟨e',p1,p2,p3,p4,p5⟩
  exact ⟨e',p1,A5.flat_eq (f:=D3 of' id (some (.map kt' et' (vms et' es)))) p2 (fun j=>(R3 hof' j).symm),p3,p4,p5⟩
 ·exact A7A hT h hr ho hx hy
def C0B (T:TT) (of:Nat→Option Ob) (t:Nat) (k v:A) (q:Nat×Nat×Nat×List (V×V)):Option (List (Nat×Ob)×List Nat) :=
 match B2 T t with
 | some (.map kt et)=>match A0q T kt k,J0 T DEP of et v with
  | some kv,some (x,wo)=>if (T et).isSome&&Nat.beq kt q.2.1&&Nat.beq et q.2.2.1&&!(U1 wo).contains q.1 then
    some (wo++[(q.1,.vm kt et (B8N kv x q.2.2.2))],q.1::U1 wo) else none
  | _,_=>none
 | _=>none
def B3e (T:TT) (of:Nat→Option Ob) (t:Nat) (m k v:A):Option (List (Nat×Ob)×List Nat) :=
 match A3l of m with
 | some q=>C0B T of t k v q
 | none=>B27 T of t m k v
theorem A5x:∀ {wo:List (Nat×Ob)} {f:Nat→Option Ob} {id:Nat},id ∉ U1 wo→put f wo id=f id:=by
 intro wo
 induction wo with
 | nil=>intro f id _;rfl
 | cons p r ih =>
  intro f id h
  simp only [U1,List.map_cons,List.mem_cons,not_or] at h
  show put (D3 f p.1 (some p.2)) r id=_
  rw [ih h.2,A3 _ _ h.1]
theorem B5K (hT:F4 T P) {of':Nat→Option Ob} {t:Nat} {m k v:A} {x y z:Value} {wo:List (Nat×Ob)} {ro:List Nat} (h:A5 T c e of') (hr:B3e T of t m k v=some (wo,ro)) (ho:∀ id∈ro,of' id=of id) (hx:B3 T e m x) (hy:B3 T e k y) (hz:B3 T e v z) :
  B9 P (do Instr.mapUpdate t x y z;pure .skip) e.w (C4 T c e of' ⟨.x,wo,ro,[]⟩):=by
 unfold B3e at hr
 split at hr
 ·rename_i q hq
  obtain ⟨id,kt',et',es⟩:=q
  obtain ⟨rfl,hof⟩:=U7 hq
  unfold C0B at hr
  split at hr<;>try (cases hr;done)
  rename_i kt et hk
  split at hr<;>try (cases hr;done)
  rename_i kv xv w1 hkv hxv
  split at hr<;>try (cases hr;done)
  rename_i hc
  simp only [C3o,Bool.not_eq_true'] at hc
  obtain ⟨⟨⟨hTe,c1⟩,c2⟩,c4⟩:=hc
  have:=C3n c1;subst this
  have:=C3n c2;subst this
  injection hr with hr;injection hr with hr1 hr2;subst hr1;subst hr2
  have hnin:id ∉ U1 w1:=fun hin=>by
   have:(U1 w1).contains id=true:=List.contains_iff_mem.2 hin
   rw [this] at c4;cases c4
  have hof':=(ho id (by simp)).trans hof
  have hxv':=(Y5 (T:=T) DEP).1 of of' _ _ _ _ hxv (fun j hj=>ho j (by simp [hj]))
  obtain ⟨e1,a1,a2,a3,a4,a5⟩:=Y8 h hxv' hz
  have ag:=A3z hxv' hz
  have hp1:put of' w1 id=some (.vm kt et es):=by rw [A5x hnin];exact hof'
  have h2:=a2.flat_eq (R3 hp1)
  have hz2:B3 T e1 (.v et xv) z:=⟨a5,ag⟩
  have hum:B27 T (D3 (put of' w1) id (some (.map kt et (vms et es)))) t (.m id) k (.v et xv)=some ([(id,.map kt et ((kv,.v et xv)::A0w kv (vms et es)))],[id]):=by
   unfold B27
   simp only [hk,hkv,H7,B13,if_true,upd_same,hTe,Nat.beq_refl,Bool.and_self]
  have:=B0e hT h2 hum (fun _ _=>rfl) (hx.mono a3) (hy.mono a3) hz2
  rw [a1] at this
  refine C8 this ?_
  rintro u w' ⟨e',p1,p2,p3,p4,p5⟩
  refine ⟨e',p1,?_,a3.trans p3,fun j hj=>(p4 j hj).imp (a4 j) (fun q=>by cases q),p5⟩
  have p2:A5 T c e' (D3 (D3 (put of' w1) id (some (.map kt et (vms et es)))) id (some (.map kt et ((kv,.v et xv)::A0w kv (vms et es))))):=p2
  refine p2.flat_eq (fun j=>?_)
  show _=(put of' (w1++[(id,Ob.vm kt et (B8N kv xv es))]) j).map flat
  rw [F8]
  show _=(D3 (put of' w1) id (some (Ob.vm kt et (B8N kv xv es))) j).map flat
  by_cases hj:j=id
  ·subst hj;rw [upd_same,upd_same,A7F];rfl
  ·rw [A3 _ _ hj,A3 _ _ hj,A3 _ _ hj]
 ·exact B0e hT h hr ho hx hy hz
def B7Q (T:TT) (t:Nat) (k:A) (q:Nat×Nat×Nat×List (V×V)):Option (List (Nat×Ob)×List Nat) :=
 match B2 T t with
 | some (.map kt et)=>match A0q T kt k with
  | some kv=>if Nat.beq kt q.2.1&&Nat.beq et q.2.2.1 then some ([(q.1,.vm kt et (A8V kv q.2.2.2))],[q.1]) else none
  | none=>none
 | _=>none
def B3f (T:TT) (of:Nat→Option Ob) (t:Nat) (m k:A):Option (List (Nat×Ob)×List Nat) :=
 match A3l of m with
 | some q=>B7Q T t k q
 | none=>A7C T of t m k
theorem B3g (hT:F4 T P) {of':Nat→Option Ob} {t kt0 ty:TypeId} {m k:A} {x y:Value} {wo:List (Nat×Ob)} {ro:List Nat} (h:A5 T c e of') (hr:B3f T of t m k=some (wo,ro)) (ho:∀ id∈ro,of' id=of id) (hx:B3 T e m x) (hy:B3 T e k y) :
  B9 P (do pure (.value (← Builtin.delete_ #[t,kt0] ty #[x,y]))) e.w (C4 T c e of' ⟨.x,wo,ro,[]⟩):=by
 unfold B3f at hr
 split at hr
 ·rename_i q hq
  obtain ⟨id,kt',et',es⟩:=q
  obtain ⟨rfl,hof⟩:=U7 hq
  unfold B7Q at hr
  split at hr<;>try (cases hr;done)
  rename_i kt et hk
  split at hr<;>try (cases hr;done)
  rename_i kv hkv
  split at hr<;>try (cases hr;done)
  rename_i hc
  simp only [C3o] at hc
  have:=C3n hc.1;subst this
  have:=C3n hc.2;subst this
  injection hr with hr;injection hr with hr1 hr2;subst hr1;subst hr2
  have hof':=(ho id (by simp)).trans hof
  have h2:=h.flat_eq (R3 hof')
  have hdm:A7C T (D3 of' id (some (.map kt et (vms et es)))) t (.m id) k=some ([(id,.map kt et (A0w kv (vms et es)))],[id]):=by
   unfold A7C
   simp only [hk,hkv,upd_same,Nat.beq_refl,Bool.and_self,if_true]
  refine C8 (A7D hT h2 hdm (fun _ _=>rfl) hx hy) ?_
  rintro u w' ⟨e',p1,p2,p3,p4,p5⟩
  refine ⟨e',p1,?_,p3,p4,p5⟩
  have p2:A5 T c e' (D3 (D3 of' id (some (.map kt et (vms et es)))) id (some (.map kt et (A0w kv (vms et es))))):=p2
  refine p2.flat_eq (fun j=>?_)
  show _=(D3 of' id (some (Ob.vm kt et (A8V kv es))) j).map flat
  by_cases hj:j=id
  ·subst hj;rw [upd_same,upd_same,A7F];rfl
  ·rw [A3 _ _ hj,A3 _ _ hj,A3 _ _ hj]
 ·exact A7D hT h hr ho hx hy
def B1n (T:TT) (of:Nat→Option Ob) (t:Nat) (u:A):Option (A×List Nat) :=
 match A3l of u with
 | some q=>match B2 T t with
  | some (.map _ _)=>if Nat.ble q.2.2.2.length 9223372036854775807 then some (.i .i64 (q.2.2.2.length:Nat),[q.1]) else none
  | _=>none
 | none=>A9O T of t u
theorem B5L (hT:F4 T P) {of':Nat→Option Ob} {t ty:TypeId} {u r:A} {x:Value} {ro:List Nat} (h:A5 T c e of') (hr:B1n T of t u=some (r,ro)) (ho:∀ id∈ro,of' id=of id) (hx:B3 T e u x) :
  B9 P (do pure (.value (← Builtin.len_ #[t] ty #[x]))) e.w (C4 T c e of' ⟨r,[],ro,[]⟩):=by
 unfold B1n at hr
 split at hr
 ·rename_i q hq
  obtain ⟨id,kt',et',es⟩:=q
  obtain ⟨rfl,hof⟩:=U7 hq
  split at hr<;>try (cases hr;done)
  rename_i kt et hk
  split at hr<;>try (cases hr;done)
  rename_i hc
  injection hr with hr;injection hr with hr1 hr2;subst hr1;subst hr2
  have hof':=(ho id (by simp)).trans hof
  have h2:=h.flat_eq (R3 hof')
  have hl:A9O T (D3 of' id (some (.map kt' et' (vms et' es)))) t (.m id)=some (.i .i64 (es.length:Nat),[id]):=by
   unfold A9O
   simp only at hc
   simp only [hk,upd_same,B5J]
   rw [if_pos hc]
  refine C8 (B0M hT h2 hl (fun _ _=>rfl) hx) ?_
  rintro u w' ⟨e',p1,p2,p3,p4,p5⟩
  exact ⟨e',p1,A5.flat_eq (f:=D3 of' id (some (.map kt' et' (vms et' es)))) p2 (fun j=>(R3 hof' j).symm),p3,p4,p5⟩
 ·exact B0M hT h hr ho hx
def A6q (T:TT) (of:Nat→Option Ob) (nx t:Nat) (u:A):Option Out :=
 match A3l of u with
 | some q=>match B2 T t with
  | some (.map _ _)=>some ⟨.p nx 0 [],[(nx,.it (some q.1))],[q.1],[nx]⟩
  | _=>none
 | none=>A37 T of nx t u
theorem B1o (hT:F4 T P) {of':Nat→Option Ob} {nx t:Nat} {u:A} {x:Value} {out:Out} (h:A5 T c e of') (hr:A6q T of nx t u=some out) (ho:∀ id∈out.ro,of' id=of id) (hu:∀ id∈out.nw,¬ e.U id) (hx:B3 T e u x) :
  B9 P (do pure (.value (← Instr.range t x))) e.w (C4 T c e of' out):=by
 unfold A6q at hr
 split at hr
 ·rename_i q hq
  obtain ⟨id,kt',et',es⟩:=q
  obtain ⟨rfl,hof⟩:=U7 hq
  split at hr<;>try (cases hr;done)
  rename_i kt et hk
  injection hr with hr;subst hr
  have hof':=(ho id (by simp)).trans hof
  have h2:=h.flat_eq (R3 hof')
  have hl:A37 T (D3 of' id (some (.map kt' et' (vms et' es)))) nx t (.m id)=some ⟨.p nx 0 [],[(nx,.it (some id))],[id],[nx]⟩:=by
   unfold A37
   simp only [hk,upd_same]
  refine C8 (A5t hT h2 hl (fun _ _=>rfl) hu hx) ?_
  rintro u w' ⟨e',p1,p2,p3,p4,p5⟩
  refine ⟨e',p1,?_,p3,p4,p5⟩
  have hne:id≠nx:=fun q=>hu nx (by simp) (q ▸ (h.ok id _ hof').use)
  refine p2.flat_eq (fun j=>?_)
  show (D3 (D3 of' id (some (.map kt' et' (vms et' es)))) nx (some (.it (some id))) j).map flat=(D3 of' nx (some (.it (some id))) j).map flat
  by_cases hj:j=nx
  ·subst hj;rw [upd_same,upd_same]
  ·rw [A3 _ _ hj,A3 _ _ hj];exact (R3 hof' j).symm
 ·exact A5t hT h hr ho hu hx
def B0f (of:Nat→Option Ob) (u:A):Option (A×List Nat) :=
 match u with
 | .p id _ []=>match of id with
  | some (.it (some m))=>match of m with
   | some (.vm _ _ [])=>some (.t [.b false],[id,m])
   | _=>A5u of u
  | _=>A5u of u
 | _=>none
theorem B3h {of':Nat→Option Ob} {u v:A} {x:Value} {ty:Nat} {ro:List Nat} (h:A5 T c e of') (hr:B0f of u=some (v,ro)) (ho:∀ id∈ro,of' id=of id) (hx:B3 T e u x) :
  B9 P (do pure (.value (← Instr.next x false ty))) e.w (C4 T c e of' ⟨v,[],ro,[]⟩):=by
 unfold B0f at hr
 split at hr<;>try (cases hr;done)
 rename_i id t
 split at hr
 ·rename_i m hof
  split at hr
  ·rename_i kt et hm
   injection hr with hr;injection hr with hr1 hr2;subst hr1;subst hr2
   have hof':=(ho id (by simp)).trans hof
   have hm':=(ho m (by simp)).trans hm
   have h2:=h.flat_eq (R3 hm')
   have hne:id≠m:=fun q=>by subst q;rw [hof] at hm;cases hm
   have hn:A5u (D3 of' m (some (.map kt et (vms et [])))) (.p id t [])=some (.t [.b false],[id,m]):=by
    unfold A5u
    simp only [A3 _ _ hne,hof',upd_same,vms]
   refine C8 (A38 h2 hn (fun _ _=>rfl) hx) ?_
   rintro u w' ⟨e',p1,p2,p3,p4,p5⟩
   exact ⟨e',p1,A5.flat_eq (f:=D3 of' m (some (.map kt et (vms et [])))) p2 (fun j=>(R3 hm' j).symm),p3,p4,p5⟩
  ·exact A38 h hr ho hx
 ·exact A38 h hr ho hx
def A2M (T:TT) (kt et:Nat):Ob:=bif B7P T et then .vm kt et [] else .map kt et []
theorem A7G (kt et:Nat):flat (A2M T kt et)=.map kt et []:=by
 unfold A2M
 cases B7P T et<;>rfl
theorem A39 {t kt et id:Nat} (h:A5 T c e of) (ht:P.underlying t=some (.map kt et)) (hu:¬ e.U id) {r:Option Value} (hr:r=none∨∃ k n,r=some (.int k n)) {ro:List Nat} :
  B9 P (do pure (.value (← Instr.makeMap t r))) e.w (C4 T c e of ⟨.m id,[(id,A2M T kt et)],ro,[id]⟩):=by
 refine C8 (A7B (ro:=ro) h ht hu hr) ?_
 rintro u w' ⟨e',p1,p2,p3,p4,p5⟩
 refine ⟨e',p1,p2.flat_eq (fun j=>?_),p3,p4,p5⟩
 show (D3 of id (some (.map kt et [])) j).map flat=(D3 of id (some (A2M T kt et)) j).map flat
 by_cases hj:j=id
 ·subst hj;rw [upd_same,upd_same,Option.map_some,Option.map_some,A7G];rfl
 ·rw [A3 _ _ hj,A3 _ _ hj]
end Go.Vm
end