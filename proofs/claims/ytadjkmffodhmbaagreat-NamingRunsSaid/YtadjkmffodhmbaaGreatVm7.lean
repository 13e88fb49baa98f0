/- What the operations of a program do, shown once for all programs; and numbers. -/
import Derived.Test.YtadjkmffodhmbaaGreatVm6
set_option linter.constructorNameAsVariable false
set_option linter.unusedVariables false
set_option linter.unusedSimpArgs false
noncomputable section
namespace Go.Vm
open Go.RowKit
variable {P:Program} {T:TT} {c:L0} {e eb:A9} {of of':Nat→Option Ob}
theorem RV.change {e e':A9} (hf:∀ a ds,Fz e a ds→Fz e' a ds) {ts:List Nat} {xs:List V} {cs:List Value} (h:RV T e ts xs cs):RV T e' ts xs cs:=by
 induction h with
 | nil=>exact .nil
 | int h1 h2 hr _ ih=>exact .int h1 h2 hr ih
 | bool h1 h2 _ ih=>exact .bool h1 h2 ih
 | str h1 h2 _ ih=>exact .str h1 h2 ih
 | ptr h1 h2 _ ih=>exact .ptr h1 h2 ih
 | nils h1 h2 _ ih=>exact .nils h1 h2 ih
 | map h1 h2 _ ih=>exact .map h1 h2 ih
 | func h1 h2 _ ih=>exact .func h1 h2 ih
 | fn h1 h2 _ ih=>exact .fn h1 h2 ih
 | slice h1 h2 h3 h4 h5 _ _ ih1 ih=>exact .slice h1 h2 h3 h4 (hf _ _ h5) ih1 ih
 | arr h1 h2 _ _ ih1 ih=>exact .arr h1 h2 ih1 ih
 | struct h1 h2 _ _ ih1 ih=>exact .struct h1 h2 ih1 ih
theorem SR.move {e e':A9} (hf:∀ a ds,Fz e a ds→Fz e' a ds) (hw:e'.w=e.w) (hS:∀ b i,e'.S b i→e.S b i) {a kt st el:Nat} (hG:∀ b,e.G a b→e'.G a b) {ho:Option V} {es:List (V×V×Bool)} {ms:List MapEntry} {bs:List Nat} (h:SR T e a kt st el ho es ms bs):SR T e' a kt st el ho es ms bs:=by
 induction h with
 | nil=>exact .nil
 | cons h0 hd _ ih =>
  refine .cons ?_ hd ih
  cases h0 with
  | lent h1 h2 h3=>exact .lent ⟨h1.1.change hf,h1.2⟩ h2 h3
  | data h1 h2=>exact .data ⟨h1.1.change hf,h1.2⟩ (h2.change hf)
  | own h1 h2 h0 h3 h5 h6 h7 h8 h9 h10 h11 h12=>exact .own ⟨h1.1.change hf,h1.2⟩ h2 h0 (hG _ h3) (by rw [hw];exact h5) (by rw [hw];exact h6) h7 h8 (h9.change hf) h10 h11 (fun i hi hs=>h12 i hi (hS _ _ hs))
theorem SR.change {e e':A9} (hf:∀ a ds,Fz e a ds→Fz e' a ds) (hw:e'.w=e.w) (hS:∀ b i,e'.S b i→e.S b i) (hG:∀ a b,e.G a b→e'.G a b) {a kt st el:Nat} {ho:Option V} {es:List (V×V×Bool)} {ms:List MapEntry} {bs:List Nat} (h:SR T e a kt st el ho es ms bs):SR T e' a kt st el ho es ms bs:=h.move hf hw hS (hG a)
mutual
def E4:A→List Nat
 | .p id _ _=>[id]
 | .e id _ _ _ _=>[id]
 | .o id _=>[id]
 | .w id _ _ _=>[id]
 | .a id _ _ _ _=>[id]
 | .m id=>[id]
 | .y id=>[id]
 | .f _ l=>F3 l
 | .g _ l=>F3 l
 | .t l=>F3 l
 | _=>[]
def F3:List A→List Nat
 | []=>[]
 | a::r=>E4 a++F3 r
end
def A2w:List (V×A)→List Nat
 | []=>[]
 | p::r=>E4 p.2++A2w r
def A22:List (Nat×A)→List Nat
 | []=>[]
 | p::r=>E4 p.2++A22 r
theorem B9N:∀ (l:List (Nat×A)) p,p∈l→∀ id∈E4 p.2,id∈A22 l:=by
 intro l
 induction l with
 | nil=>intro p hp;cases hp
 | cons q r ih =>
  intro p hp id A2
  simp only [A22,D2S]
  rcases List.mem_cons.1 hp with rfl | hp
  ·exact .inl A2
  ·exact .inr (ih p hp id A2)
def A12:Ob→List Nat
 | .box _ a _=>E4 a
 | .row _ _ _ _ _=>[]
 | .map _ _ es=>A2w es
 | .vm _ _ _=>[]
 | .sm _ _ _ _ _=>[]
 | .lp (some r)=>A22 r.sl
 | .lp none=>[]
 | .it (some m)=>[m]
 | .it none=>[]
theorem B0F {et:Nat}:∀ {es:List (V×V)},∀ p∈vms et es,E4 p.2=[]:=by
 intro es
 induction es with
 | nil=>intro p hp;cases hp
 | cons q r ih =>
  intro p hp
  rcases List.mem_cons.1 hp with rfl | hp
  ·rfl
  ·exact ih p hp
theorem R1.use {a:A} {v:Value} (h:R1 T e a v):∀ id∈E4 a,e.U id:=by
 cases a<;>simp only [E4,List.mem_singleton]<;>intro id A2
 case p=>subst A2;obtain ⟨b,off,h1,_⟩:=h;exact h1
 case e=>subst A2;exact h.2.1
 case o=>subst A2;exact h.2.1
 case w=>subst A2;exact h.2.1
 case a=>subst A2;obtain ⟨b,off,n,el,k,cap,h1,_⟩:=h;exact h1
 case m=>subst A2;obtain ⟨b,h1,_⟩:=h;exact h1
 case y=>subst A2;obtain ⟨b,h1,_⟩:=h;exact h1
 case f=>exact h.elim
 case g=>exact h.elim
 case t=>exact h.elim
 all_goals cases A2
theorem RA.use {l:List A} {cs:List Value} (h:RA T e l cs):∀ id∈F3 l,e.U id:=by
 induction h with
 | nil=>intro id h;cases h
 | f _ _ ih1 ih=>intro id h;simp only [F3,E4,D2S] at h;exact h.elim (ih1 id) (ih id)
 | g _ _ _ _ _ ih1 ih=>intro id h;simp only [F3,E4,D2S] at h;exact h.elim (ih1 id) (ih id)
 | r h1 _ _ ih=>intro id h;simp only [F3,D2S] at h;exact h.elim (h1.use id) (ih id)
 | _=>rename_i ih;intro id h;simp only [F3,E4,List.nil_append] at h;exact ih id h
def G7 (n0 nx id:Nat):Bool:=Nat.ble n0 id&&Nat.blt id nx
def A2x (ob:Tr) (n0 nx id:Nat):Option Nat :=
 bif G7 n0 nx id then (match ob.get id with
  | some (.row _ v _ _ _)=>some v
  | _=>none) else none
def A4z (ob:Tr) (n0 nx id ver:Nat) (k:Nat→A):A :=
 match A2x ob n0 nx id with
 | some v=>bif Nat.beq v ver then k 1 else .x
 | none=>k ver
mutual
def V4 (ob:Tr) (n0 nx:Nat):A→A
 | .e id ver i t path=>A4z ob n0 nx id ver fun v=>.e id v i t path
 | .o id ver=>A4z ob n0 nx id ver fun v=>.o id v
 | .w id ver off n=>A4z ob n0 nx id ver fun v=>.w id v off n
 | .f fn l=>.f fn (W9 ob n0 nx l)
 | .g t l=>.g t (W9 ob n0 nx l)
 | .t l=>.t (W9 ob n0 nx l)
 | a=>a
def W9 (ob:Tr) (n0 nx:Nat):List A→List A
 | []=>[]
 | a::r=>V4 ob n0 nx a::W9 ob n0 nx r
end
def A6V (ob:Tr) (n0 nx:Nat):List (Nat×A)→List (Nat×A)
 | []=>[]
 | p::r=>(p.1,V4 ob n0 nx p.2)::A6V ob n0 nx r
def A3W (ob:Tr) (n0 nx id:Nat):Ob→Ob
 | .box t a sh=>.box t (V4 ob n0 nx a) sh
 | .row el ver xs nl sh=>.row el (bif G7 n0 nx id then 1 else ver) xs nl sh
 | .map kt et es=>.map kt et es
 | .vm kt et es=>.vm kt et es
 | .sm kt st el es ho=>.sm kt st el es ho
 | .lp (some r)=>.lp (some { r with sl:=A6V ob n0 nx r.sl })
 | .lp none=>.lp none
 | .it q=>.it q
theorem B9O (ob:Tr) (n0 nx:Nat):∀ (l:List (Nat×A)),∀ p∈A6V ob n0 nx l,∃ q∈l,p=(q.1,V4 ob n0 nx q.2):=by
 intro l
 induction l with
 | nil=>intro p hp;cases hp
 | cons q r ih =>
  intro p hp
  rcases List.mem_cons.1 hp with rfl | hp
  ·exact ⟨q,by simp,rfl⟩
  ·obtain ⟨q',h1,h2⟩:=ih p hp
   exact ⟨q',by simp [h1],h2⟩
def A9.anew (e:A9) (ob:Tr) (n0 nx:Nat) (keep:List Nat):A9 :=
 {e with U:=fun j=>e.U j∧(G7 n0 nx j=true→j∈keep),bn:=fun j=>match A2x ob n0 nx j with
  | some _=>1
  | none=>e.bn j }
structure A2y (T:TT) (c:L0) (e eb:A9) (of':Nat→Option Ob) (ob:Tr) (n0 nx:Nat):Prop where
 os:A5 T c e (D1 ob of')
 new:∀ id,G7 n0 nx id=true→¬ eb.U id
theorem B9P {ob:Tr} {n0 nx id v:Nat} (h:A2x ob n0 nx id=some v):G7 n0 nx id=true∧∃ el xs nl sh,ob.get id=some (.row el v xs nl sh):=by
 unfold A2x at h
 cases hn:G7 n0 nx id with
 | false=>rw [hn] at h;cases h
 | true =>
  rw [hn] at h
  simp only [cond_true] at h
  split at h
  ·rename_i el v' xs nl sh hg
   injection h with h;subst h
   exact ⟨rfl,el,xs,nl,sh,hg⟩
  ·cases h
theorem A2y.ver {ob:Tr} {n0 nx:Nat} (h:A2y T c e eb of' ob n0 nx) {id v:Nat} (hv:A2x ob n0 nx id=some v):e.bn id=v∧0 < v:=by
 obtain ⟨_,el,xs,nl,sh,hg⟩:=B9P hv
 have:=h.os.ok id (.row el v xs nl sh) (by unfold D1;rw [hg])
 exact ⟨this.2.2.1,this.2.1⟩
theorem A9c {ob:Tr} {n0 nx:Nat} {keep:List Nat} {a:Addr} {ds:List Value} (h:Fz e a ds):Fz (e.anew ob n0 nx keep) a ds:=h
theorem R5 {ob:Tr} {n0 nx j:Nat} {keep:List Nat} (h:A2x ob n0 nx j=none):(e.anew ob n0 nx keep).bn j=e.bn j:=by
 show (match A2x ob n0 nx j with | some _=>1 | none=>e.bn j)=e.bn j
 rw [h]
theorem A5i {ob:Tr} {n0 nx j v:Nat} {keep:List Nat} (h:A2x ob n0 nx j=some v):(e.anew ob n0 nx keep).bn j=1:=by
 show (match A2x ob n0 nx j with | some _=>1 | none=>e.bn j)=1
 rw [h]
theorem A2y.box0 {ob:Tr} {n0 nx j:Nat} {keep:List Nat} (h:A2y T c e eb of' ob n0 nx) (h0:e.bn j=0):(e.anew ob n0 nx keep).bn j=0:=by
 cases hv:A2x ob n0 nx j with
 | none=>rw [R5 hv];exact h0
 | some v=>have:=h.ver hv;omega
theorem R1.fix {ob:Tr} {n0 nx:Nat} {keep:List Nat} (hA:A2y T c e eb of' ob n0 nx) {a:A} {v:Value} (h:R1 T e a v) (ho:one v=true) (hk:∀ id∈E4 (V4 ob n0 nx a),G7 n0 nx id=true→id∈keep):R1 T (e.anew ob n0 nx keep) (V4 ob n0 nx a) v:=by
 cases a with
 | x=>exact h
 | p id t path =>
  obtain ⟨b,off,h1,h2,h3,h4,h5⟩:=h
  exact ⟨b,off,⟨h1,hk id (by simp [V4,E4])⟩,hA.box0 h2,h3,h4,h5⟩
 | a id t path lo m =>
  obtain ⟨b,off,n,el,k,cap,h1,h2,h3⟩:=h
  exact ⟨b,off,n,el,k,cap,⟨h1,hk id (by simp [V4,E4])⟩,hA.box0 h2,h3⟩
 | m id =>
  obtain ⟨b,h1,h2,h3⟩:=h
  exact ⟨b,⟨h1,hk id (by simp [V4,E4])⟩,hA.box0 h2,h3⟩
 | y id =>
  obtain ⟨b,h1,h2,h3⟩:=h
  exact ⟨b,⟨h1,hk id (by simp [V4,E4])⟩,hA.box0 h2,h3⟩
 | e id ver i t path =>
  obtain ⟨h0,h1,h2,h3,h4⟩:=h
  simp only [V4] at hk ⊢
  unfold A4z at hk ⊢
  cases hv:A2x ob n0 nx id with
  | none =>
   rw [hv] at hk
   exact ⟨h0,⟨h1,hk id (by simp [E4])⟩,by rw [R5 hv];exact h2,h3,fun hb=>h4 (by rw [R5 hv] at hb;exact hb)⟩
  | some v' =>
   rw [hv] at hk
   simp only at hk ⊢
   cases hq:Nat.beq v' ver with
   | false=>exact ho
   | true =>
    rw [hq] at hk
    have:=D2H hq;subst this
    exact ⟨h0,⟨h1,hk id (by simp [E4])⟩,by rw [A5i hv];exact Nat.le_refl _,by omega,fun _=>h4 (hA.ver hv).1⟩
 | o id ver =>
  obtain ⟨h0,h1,h2,h3,h4⟩:=h
  simp only [V4] at hk ⊢
  unfold A4z at hk ⊢
  cases hv:A2x ob n0 nx id with
  | none =>
   rw [hv] at hk
   exact ⟨h0,⟨h1,hk id (by simp [E4])⟩,by rw [R5 hv];exact h2,h3,fun hb=>h4 (by rw [R5 hv] at hb;exact hb)⟩
  | some v' =>
   rw [hv] at hk
   simp only at hk ⊢
   cases hq:Nat.beq v' ver with
   | false=>exact ho
   | true =>
    rw [hq] at hk
    have:=D2H hq;subst this
    exact ⟨h0,⟨h1,hk id (by simp [E4])⟩,by rw [A5i hv];exact Nat.le_refl _,by omega,fun _=>h4 (hA.ver hv).1⟩
 | w id ver off n =>
  obtain ⟨h0,h1,h2,h3,h4⟩:=h
  simp only [V4] at hk ⊢
  unfold A4z at hk ⊢
  cases hv:A2x ob n0 nx id with
  | none =>
   rw [hv] at hk
   exact ⟨h0,⟨h1,hk id (by simp [E4])⟩,by rw [R5 hv];exact h2,h3,fun hb=>h4 (by rw [R5 hv] at hb;exact hb)⟩
  | some v' =>
   rw [hv] at hk
   simp only at hk ⊢
   cases hq:Nat.beq v' ver with
   | false=>exact ho
   | true =>
    rw [hq] at hk
    have:=D2H hq;subst this
    exact ⟨h0,⟨h1,hk id (by simp [E4])⟩,by rw [A5i hv];exact Nat.le_refl _,by omega,fun _=>h4 (hA.ver hv).1⟩
 | _=>exact h.elim
theorem B9Q {ob:Tr} {n0 nx t:Nat}:∀ {a:A},D3 T t a=true→D3 T t (V4 ob n0 nx a)=true:=by
 have r:∀ {id ver:Nat} {k:Nat→A},(∀ v,D3 T t (k v)=V9 T t)→D3 T t (k ver)=true→D3 T t (A4z ob n0 nx id ver k)=true:=by
  intro id ver k hk h
  rw [hk] at h
  unfold A4z
  split
  ·rename_i v _;cases Nat.beq v ver
   ·exact h
   ·exact (hk _).trans h
  ·exact (hk _).trans h
 intro a h
 cases a with
 | e id ver i t path=>exact r (k:=fun v=>.e id v i t path) (fun _=>rfl) h
 | o id ver=>exact r (k:=fun v=>.o id v) (fun _=>rfl) h
 | w id ver off n=>exact r (k:=fun v=>.w id v off n) (fun _=>rfl) h
 | f fn l=>exact h
 | g t' l=>exact h
 | t l=>cases h
 | _=>exact h
theorem C8I {ob:Tr} {n0 nx:Nat}:∀ {ts:List Nat} {l:List A},Y6 T ts l=true→Y6 T ts (W9 ob n0 nx l)=true:=by
 intro ts
 induction ts with
 | nil=>intro l h;cases l with
  | nil=>rfl
  | cons a l=>cases h
 | cons t ts ih=>intro l h;cases l with
  | nil=>cases h
  | cons a l =>
   simp only [Y6,D2I] at h
   simp only [W9,Y6,D2I]
   exact ⟨B9Q h.1,ih h.2⟩
theorem RV.anew {ob:Tr} {n0 nx:Nat} {keep:List Nat} {ts:List Nat} {xs:List V} {cs:List Value} (h:RV T e ts xs cs):RV T (e.anew ob n0 nx keep) ts xs cs:=RV.change (e:=e) (e':=e.anew ob n0 nx keep) (fun a ds q=>A9c q) h
theorem RA.fix {ob:Tr} {n0 nx:Nat} {keep:List Nat} (hA:A2y T c e eb of' ob n0 nx) {l:List A} {cs:List Value} (h:RA T e l cs):(∀ id∈F3 (W9 ob n0 nx l),G7 n0 nx id=true→id∈keep)→RA T (e.anew ob n0 nx keep) (W9 ob n0 nx l) cs:=by
 induction h with
 | nil=>intro _;exact .nil
 | i hr _ ih=>intro hk;exact .i hr (ih (fun id A2=>hk id (by simp only [W9,F3,D2S];exact .inr A2)))
 | b _ ih=>intro hk;exact .b (ih (fun id A2=>hk id (by simp only [W9,F3,D2S];exact .inr A2)))
 | s _ ih=>intro hk;exact .s (ih (fun id A2=>hk id (by simp only [W9,F3,D2S];exact .inr A2)))
 | z h1 _ ih=>intro hk;exact .z h1 (ih (fun id A2=>hk id (by simp only [W9,F3,D2S];exact .inr A2)))
 | v h1 _ ih=>intro hk;exact .v h1.anew (ih (fun id A2=>hk id (by simp only [W9,F3,D2S];exact .inr A2)))
 | c h1 h2 _ ih=>intro hk;exact .c h1.anew h2 (ih (fun id A2=>hk id (by simp only [W9,F3,D2S];exact .inr A2)))
 | q h1 _ ih=>intro hk;exact .q h1.anew (ih (fun id A2=>hk id (by simp only [W9,F3,D2S];exact .inr A2)))
 | f _ _ ih1 ih =>
  intro hk
  exact .f (ih1 (fun id A2=>hk id (by simp only [W9,V4,F3,E4,D2S];exact .inl A2))) (ih (fun id A2=>hk id (by simp only [W9,F3,D2S];exact .inr A2)))
 | g h1 h2 h3 _ _ ih1 ih =>
  intro hk
  exact .g h1 (C8I h2) h3 (ih1 (fun id A2=>hk id (by simp only [W9,V4,F3,E4,D2S];exact .inl A2))) (ih (fun id A2=>hk id (by simp only [W9,F3,D2S];exact .inr A2)))
 | r h1 h2 _ ih =>
  intro hk
  exact .r (h1.fix hA h2 (fun id A2=>hk id (by simp only [W9,F3,D2S];exact .inl A2))) h2 (ih (fun id A2=>hk id (by simp only [W9,F3,D2S];exact .inr A2)))
theorem A1F {ob:Tr} {n0 nx id:Nat} (h:G7 n0 nx id=false):A2x ob n0 nx id=none:=by unfold A2x;rw [h];rfl
theorem R1.old {ob:Tr} {n0 nx:Nat} {keep:List Nat} (hA:A2y T c e eb of' ob n0 nx) {a:A} {v:Value} (h:R1 T e a v) (hn:∀ id∈E4 a,G7 n0 nx id=false):R1 T (e.anew ob n0 nx keep) a v:=by
 have nk:∀ {id:Nat},G7 n0 nx id=false→(G7 n0 nx id=true→id∈keep):=fun hf ht=>by rw [hf] at ht;cases ht
 cases a with
 | x=>exact h
 | p id t path =>
  obtain ⟨b,off,h1,h2,h3,h4,h5⟩:=h
  exact ⟨b,off,⟨h1,nk (hn id (by simp [E4]))⟩,hA.box0 h2,h3,h4,h5⟩
 | a id t path lo m =>
  obtain ⟨b,off,n,el,k,cap,h1,h2,h3⟩:=h
  exact ⟨b,off,n,el,k,cap,⟨h1,nk (hn id (by simp [E4]))⟩,hA.box0 h2,h3⟩
 | m id =>
  obtain ⟨b,h1,h2,h3⟩:=h
  exact ⟨b,⟨h1,nk (hn id (by simp [E4]))⟩,hA.box0 h2,h3⟩
 | y id =>
  obtain ⟨b,h1,h2,h3⟩:=h
  exact ⟨b,⟨h1,nk (hn id (by simp [E4]))⟩,hA.box0 h2,h3⟩
 | e id ver i t path =>
  obtain ⟨h0,h1,h2,h3,h4⟩:=h
  have hv:=A1F (ob:=ob) (hn id (by simp [E4]))
  exact ⟨h0,⟨h1,nk (hn id (by simp [E4]))⟩,by rw [R5 hv];exact h2,h3,fun hb=>h4 (by rw [R5 hv] at hb;exact hb)⟩
 | o id ver =>
  obtain ⟨h0,h1,h2,h3,h4⟩:=h
  have hv:=A1F (ob:=ob) (hn id (by simp [E4]))
  exact ⟨h0,⟨h1,nk (hn id (by simp [E4]))⟩,by rw [R5 hv];exact h2,h3,fun hb=>h4 (by rw [R5 hv] at hb;exact hb)⟩
 | w id ver off n =>
  obtain ⟨h0,h1,h2,h3,h4⟩:=h
  have hv:=A1F (ob:=ob) (hn id (by simp [E4]))
  exact ⟨h0,⟨h1,nk (hn id (by simp [E4]))⟩,by rw [R5 hv];exact h2,h3,fun hb=>h4 (by rw [R5 hv] at hb;exact hb)⟩
 | _=>exact h.elim
theorem RA.old {ob:Tr} {n0 nx:Nat} {keep:List Nat} (hA:A2y T c e eb of' ob n0 nx) {l:List A} {cs:List Value} (h:RA T e l cs):(∀ id∈F3 l,G7 n0 nx id=false)→RA T (e.anew ob n0 nx keep) l cs:=by
 induction h with
 | nil=>intro _;exact .nil
 | i hr _ ih=>intro hk;exact .i hr (ih (fun id A2=>hk id (by simp only [F3,D2S];exact .inr A2)))
 | b _ ih=>intro hk;exact .b (ih (fun id A2=>hk id (by simp only [F3,D2S];exact .inr A2)))
 | s _ ih=>intro hk;exact .s (ih (fun id A2=>hk id (by simp only [F3,D2S];exact .inr A2)))
 | z h1 _ ih=>intro hk;exact .z h1 (ih (fun id A2=>hk id (by simp only [F3,D2S];exact .inr A2)))
 | v h1 _ ih=>intro hk;exact .v h1.anew (ih (fun id A2=>hk id (by simp only [F3,D2S];exact .inr A2)))
 | c h1 h2 _ ih=>intro hk;exact .c h1.anew h2 (ih (fun id A2=>hk id (by simp only [F3,D2S];exact .inr A2)))
 | q h1 _ ih=>intro hk;exact .q h1.anew (ih (fun id A2=>hk id (by simp only [F3,D2S];exact .inr A2)))
 | f _ _ ih1 ih =>
  intro hk
  exact .f (ih1 (fun id A2=>hk id (by simp only [F3,E4,D2S];exact .inl A2))) (ih (fun id A2=>hk id (by simp only [F3,D2S];exact .inr A2)))
 | g h1 h2 h3 _ _ ih1 ih =>
  intro hk
  exact .g h1 h2 h3 (ih1 (fun id A2=>hk id (by simp only [F3,E4,D2S];exact .inl A2))) (ih (fun id A2=>hk id (by simp only [F3,D2S];exact .inr A2)))
 | r h1 h2 _ ih =>
  intro hk
  exact .r (h1.old hA (fun id A2=>hk id (by simp only [F3,D2S];exact .inl A2))) h2 (ih (fun id A2=>hk id (by simp only [F3,D2S];exact .inr A2)))
theorem H6.use {a:A} {v:Value} (h:H6 T e a v):∀ id∈E4 a,e.U id:=by
 have one:∀ {a:A} {cs:List Value},RA T e [a] cs→∀ id∈E4 a,e.U id:=fun g id A2=>g.use id (by simp only [F3,List.append_nil];exact A2)
 cases a with
 | x=>intro id h;cases h
 | t l=>exact h.elim
 | v t y=>intro id h;cases h
 | g t l=>exact one h.1
 | _=>exact one h
theorem H6.old {ob:Tr} {n0 nx:Nat} {keep:List Nat} (hA:A2y T c e eb of' ob n0 nx) {a:A} {v:Value} (h:H6 T e a v) (hn:∀ id∈E4 a,G7 n0 nx id=false):H6 T (e.anew ob n0 nx keep) a v:=by
 have one:∀ {a:A} {cs:List Value},RA T e [a] cs→(∀ id∈E4 a,G7 n0 nx id=false)→RA T (e.anew ob n0 nx keep) [a] cs:=fun g hk=>g.old hA (fun id A2=>hk id (by simpa [F3] using A2))
 cases a with
 | x=>trivial
 | t l=>exact h.elim
 | v t y=>exact ⟨h.1.anew,h.2⟩
 | g t l=>exact ⟨one h.1 hn,h.2⟩
 | _=>exact one h hn
theorem MR.use {kt et:Nat} {es:List (V×A)} {ms:List MapEntry} (h:MR T e kt et es ms):∀ p∈es,∀ id∈E4 p.2,e.U id:=by
 induction h with
 | nil=>intro p hp;cases hp
 | cons _ h2 _ _ ih =>
  intro p hp
  rcases List.mem_cons.1 hp with rfl | hp
  ·exact h2.use
  ·exact ih p hp
theorem MR.old {ob:Tr} {n0 nx:Nat} {keep:List Nat} (hA:A2y T c e eb of' ob n0 nx) {kt et:Nat} {es:List (V×A)} {ms:List MapEntry} (h:MR T e kt et es ms):(∀ p∈es,∀ id∈E4 p.2,G7 n0 nx id=false)→MR T (e.anew ob n0 nx keep) kt et es ms:=by
 induction h with
 | nil=>intro _;exact .nil
 | cons h1 h2 h3 _ ih=>intro hk;exact .cons (h1.old hA (fun id A2=>by cases A2)) (h2.old hA (hk _ (List.mem_cons_self ..))) h3 (ih (fun p hp=>hk p (List.mem_cons_of_mem _ hp)))
theorem OK.old {ob:Tr} {n0 nx id:Nat} {keep:List Nat} {o:Ob} (hA:A2y T c e eb of' ob n0 nx) (h:OK T e id o) (hb:OK T eb id o):OK T (e.anew ob n0 nx keep) id o:=by
 have nn:∀ {j:Nat},eb.U j→G7 n0 nx j=false:=fun {j} hj=>by
  cases hq:G7 n0 nx j with
  | false=>rfl
  | true=>exact absurd hj (hA.new j hq)
 have A2:=nn hb.use
 have hU:(e.anew ob n0 nx keep).U id:=⟨h.use,fun ht=>by rw [A2] at ht;cases ht⟩
 cases o with
 | box t a sh =>
  obtain ⟨h1,h2,h2',h2'',b,cs,ty,fz,h3,h4,h5,h5',h6,h7⟩:=h
  obtain ⟨_,_,_,_,_,cs0,_,_,_,_,_,_,g6,_⟩:=hb
  exact ⟨hU,hA.box0 h2,h2',h2'',b,cs,ty,fz,h3,h4,h5,h5',h6.old hA (fun j hj=>nn (g6.use j hj)),h7⟩
 | row el ver xs nl sh =>
  obtain ⟨h1,h2,h3,h4,h4',h5,h6⟩:=h
  refine ⟨hU,h2,by rw [R5 (A1F A2)];exact h3,h4,h4',h5,?_⟩
  rcases h6 with h6 | ⟨nn',b,o,cs,t,fz,pre,ys,post,g1,g2,g3,g4,g5,g6,g7,g8⟩
  ·exact .inl h6
  ·exact .inr ⟨nn',b,o,cs,t,fz,pre,ys,post,g1,g2,g3,g4,g5,g6.anew,g7,g8⟩
 | map kt et es =>
  obtain ⟨h1,h2,b,ms,clock,h3,h4,h5,es',h6,h7⟩:=h
  obtain ⟨_,_,_,ms0,_,_,_,_,es0,k6,k7⟩:=hb
  have hes:∀ p∈es,∀ j∈E4 p.2,G7 n0 nx j=false:=fun p hp j hj=>nn (k7.use p (k6.mem_iff.2 hp) j hj)
  exact ⟨hU,hA.box0 h2,b,ms,clock,h3,h4,h5,es',h6,h7.old hA (fun p hp=>hes p (h6.mem_iff.1 hp))⟩
 | vm kt et es =>
  obtain ⟨h1,h2,b,ms,clock,h3,h4,h5,es',h6,h7⟩:=h
  exact ⟨hU,hA.box0 h2,b,ms,clock,h3,h4,h5,es',h6,h7.old hA (fun p hp j hj=>by rw [B0F p (h6.mem_iff.1 hp)] at hj;cases hj)⟩
 | sm kt st el es ho =>
  obtain ⟨h1,h2,ha,hb',hc,b,ms,clock,h3,h4,h5,es',bs,h6,h7⟩:=h
  exact ⟨hU,hA.box0 h2,ha,hb',hc,b,ms,clock,h3,h4,h5,es',bs,h6,h7.change (e':=e.anew ob n0 nx keep) (fun a ds q=>A9c q) rfl (fun _ _ q=>q) (fun _ _ q=>q)⟩
 | lp q =>
  cases q with
  | none =>
   obtain ⟨h1,h2,b,h3,h4⟩:=h
   exact ⟨hU,hA.box0 h2,b,h3,h4⟩
  | some r =>
   obtain ⟨h1,h2,b,tm,df,fn,h3,h4,h5,h6⟩:=h
   obtain ⟨_,_,_,tm0,_,_,_,_,_,k6⟩:=hb
   exact ⟨hU,hA.box0 h2,b,tm,df,fn,h3,h4,h5,fun p hp=>(h6 p hp).old hA (fun j hj=>nn ((k6 p hp).use j hj))⟩
 | it q =>
  cases q with
  | none =>
   obtain ⟨h1,h2,b,x,y,z,h3,h4⟩:=h
   exact ⟨hU,hA.box0 h2,b,x,y,z,h3,h4⟩
  | some m =>
   obtain ⟨h1,h2,b,bm,x,z,h3,h4,h5,h6,h7⟩:=h
   obtain ⟨_,_,_,_,_,_,_,_,k5,_⟩:=hb
   have hm:=nn k5
   exact ⟨hU,hA.box0 h2,b,bm,x,z,h3,h4,⟨h5,fun ht=>by rw [hm] at ht;cases ht⟩,hA.box0 h6,h7⟩
theorem H6.fix {ob:Tr} {n0 nx:Nat} {keep:List Nat} (hA:A2y T c e eb of' ob n0 nx) {a:A} {v:Value} (h:H6 T e a v) (hk:∀ id∈E4 (V4 ob n0 nx a),G7 n0 nx id=true→id∈keep):H6 T (e.anew ob n0 nx keep) (V4 ob n0 nx a) v:=by
 have one:∀ {a:A} {cs:List Value},RA T e [a] cs→(∀ id∈E4 (V4 ob n0 nx a),G7 n0 nx id=true→id∈keep)→RA T (e.anew ob n0 nx keep) [V4 ob n0 nx a] cs:=fun {a cs} g hk=>by
  have:=g.fix (keep:=keep) hA (fun id A2=>hk id (by simpa [W9,F3] using A2))
  simpa [W9] using this
 have sc:∀ {a:A},RA T e [a] [v]→(∀ id∈E4 (V4 ob n0 nx a),G7 n0 nx id=true→id∈keep)→(V4 ob n0 nx a=.x∨((∀ t y,V4 ob n0 nx a≠.v t y)∧(∀ t l,V4 ob n0 nx a≠.g t l)∧(∀ l,V4 ob n0 nx a≠.t l)))→H6 T (e.anew ob n0 nx keep) (V4 ob n0 nx a) v:=fun {a} g hk hs=>by
  have r:=one g hk
  rcases hs with hs | ⟨s1,s2,s3⟩
  ·rw [hs];trivial
  ·cases hf:V4 ob n0 nx a with
   | v t y=>exact absurd hf (s1 _ _)
   | g t l=>exact absurd hf (s2 _ _)
   | t l=>exact absurd hf (s3 _)
   | x=>trivial
   | _=>rw [hf] at r;exact r
 have fr:∀ {id ver:Nat} {k:Nat→A},(∀ v,(∀ t y,k v≠.v t y)∧(∀ t l,k v≠.g t l)∧(∀ l,k v≠.t l))→(A4z ob n0 nx id ver k=.x∨((∀ t y,A4z ob n0 nx id ver k≠.v t y)∧(∀ t l,A4z ob n0 nx id ver k≠.g t l)∧(∀ l,A4z ob n0 nx id ver k≠.t l))):=by
  intro id ver k hk
  unfold A4z
  split
  ·rename_i v _;cases Nat.beq v ver
   ·exact .inl rfl
   ·exact .inr (hk _)
  ·exact .inr (hk _)
 cases a with
 | x=>trivial
 | t l=>exact h.elim
 | v t y=>exact ⟨h.1.anew,h.2⟩
 | g t l=>exact ⟨one h.1 hk,h.2⟩
 | e id ver i t path=>exact sc h hk (fr (k:=fun v=>.e id v i t path) (fun v=>⟨by simp,by simp,by simp⟩))
 | o id ver=>exact sc h hk (fr (k:=fun v=>.o id v) (fun v=>⟨by simp,by simp,by simp⟩))
 | w id ver off n=>exact sc h hk (fr (k:=fun v=>.w id v off n) (fun v=>⟨by simp,by simp,by simp⟩))
 | _=>exact one h hk
theorem OK.fix {ob:Tr} {n0 nx id:Nat} {keep:List Nat} {o:Ob} (hA:A2y T c e eb of' ob n0 nx) (hg:ob.get id=some o) (h:OK T e id o) (hkeep:G7 n0 nx id=true→id∈keep) (hk:∀ j∈A12 (A3W ob n0 nx id o),G7 n0 nx j=true→j∈keep) (hmap:∀ kt et es,o=.map kt et es→∀ p∈es,E4 p.2=[]):OK T (e.anew ob n0 nx keep) id (A3W ob n0 nx id o):=by
 have hU:(e.anew ob n0 nx keep).U id:=⟨h.use,hkeep⟩
 cases o with
 | box t a sh =>
  obtain ⟨h1,h2,h2',h2'',b,cs,ty,fz,h3,h4,h5,h5',h6,h7⟩:=h
  refine ⟨hU,hA.box0 h2,h2',B9Q h2'',b,cs,ty,fz,h3,h4,h5,h5',?_,h7⟩
  have:=h6.fix (keep:=keep) hA (fun j hj=>hk j (by simpa [W9,F3,A3W,A12] using hj))
  simpa [W9] using this
 | row el ver xs nl sh =>
  obtain ⟨h1,h2,h3,h4,h4',h5,h6⟩:=h
  have rest:0 < B9 T el∧((nl=true∧(e.anew ob n0 nx keep).ι id=none∧xs=[])∨(nl=false∧∃ b o cs t fz pre ys post,(e.anew ob n0 nx keep).ι id=some (b,o)∧(e.anew ob n0 nx keep).w.heap[b]? = some (.cells cs t fz)∧A1h (e.anew ob n0 nx keep).w b cs∧cs.toList=pre++ys++post∧pre.length=o∧RV T (e.anew ob n0 nx keep) (List.replicate xs.length el) xs ys ∧
     (∀ i,o+ys.length≤i→¬ (e.anew ob n0 nx keep).S b i)∧(sh=false→∀ i,o≤i→¬ (e.anew ob n0 nx keep).S b i))):=by
   refine ⟨h5,?_⟩
   rcases h6 with h6 | ⟨nn',b,o,cs,t,fz,pre,ys,post,g1,g2,g3,g4,g5,g6,g7,g8⟩
   ·exact .inl h6
   ·exact .inr ⟨nn',b,o,cs,t,fz,pre,ys,post,g1,g2,g3,g4,g5,g6.anew,g7,g8⟩
  cases hn:G7 n0 nx id with
  | false =>
   have hf:A3W ob n0 nx id (.row el ver xs nl sh)=.row el ver xs nl sh:=by simp [A3W,hn]
   rw [hf]
   exact ⟨hU,h2,by rw [R5 (A1F hn)];exact h3,h4,h4',rest⟩
  | true =>
   have hf:A3W ob n0 nx id (.row el ver xs nl sh)=.row el 1 xs nl sh:=by simp [A3W,hn]
   rw [hf]
   have hv:A2x ob n0 nx id=some ver:=by unfold A2x;rw [hn,hg];rfl
   exact ⟨hU,by omega,A5i hv,h4,h4',rest⟩
 | map kt et es =>
  obtain ⟨h1,h2,b,ms,clock,h3,h4,h5,es',h6,h7⟩:=h
  exact ⟨hU,hA.box0 h2,b,ms,clock,h3,h4,h5,es',h6,h7.old hA (fun p hp j hj=>by rw [hmap kt et es rfl p (h6.mem_iff.1 hp)] at hj;cases hj)⟩
 | vm kt et es =>
  obtain ⟨h1,h2,b,ms,clock,h3,h4,h5,es',h6,h7⟩:=h
  exact ⟨hU,hA.box0 h2,b,ms,clock,h3,h4,h5,es',h6,h7.old hA (fun p hp j hj=>by rw [B0F p (h6.mem_iff.1 hp)] at hj;cases hj)⟩
 | sm kt st el es ho =>
  obtain ⟨h1,h2,ha,hb',hc,b,ms,clock,h3,h4,h5,es',bs,h6,h7⟩:=h
  exact ⟨hU,hA.box0 h2,ha,hb',hc,b,ms,clock,h3,h4,h5,es',bs,h6,h7.change (e':=e.anew ob n0 nx keep) (fun a ds q=>A9c q) rfl (fun _ _ q=>q) (fun _ _ q=>q)⟩
 | lp q =>
  cases q with
  | none =>
   obtain ⟨h1,h2,b,h3,h4⟩:=h
   exact ⟨hU,hA.box0 h2,b,h3,h4⟩
  | some r =>
   obtain ⟨h1,h2,b,tm,df,fn,h3,h4,h5,h6⟩:=h
   refine ⟨hU,hA.box0 h2,b,tm,df,fn,h3,h4,h5,fun p hp=>?_⟩
   obtain ⟨q,hq,rfl⟩:=B9O _ _ _ _ p hp
   exact (h6 q hq).fix hA (fun j hj=>hk j (B9N _ _ hp j hj))
 | it q =>
  cases q with
  | none =>
   obtain ⟨h1,h2,b,x,y,z,h3,h4⟩:=h
   exact ⟨hU,hA.box0 h2,b,x,y,z,h3,h4⟩
  | some m =>
   obtain ⟨h1,h2,b,bm,x,z,h3,h4,h5,h6,h7⟩:=h
   exact ⟨hU,hA.box0 h2,b,bm,x,z,h3,h4,⟨h5,hk m (by simp [A3W,A12])⟩,hA.box0 h6,h7⟩
theorem B9R {ob:Tr} {n0 nx:Nat}:∀ {l:List A} {i:Nat} {v:A},(W9 ob n0 nx l)[i]? = some v→∃ a,l[i]? = some a∧v=V4 ob n0 nx a:=by
 intro l
 induction l with
 | nil=>intro i v h;simp [W9] at h
 | cons a l ih =>
  intro i v h
  cases i with
  | zero=>simp [W9] at h;exact ⟨a,rfl,h.symm⟩
  | succ i=>exact ih (by simpa [W9] using h)
theorem B9S {ob:Tr} {n0 nx:Nat}:∀ {l:List A},(W9 ob n0 nx l).length=l.length:=by
 intro l
 induction l with
 | nil=>rfl
 | cons a l ih=>simp [W9,ih]
theorem B9T:∀ {l:List A} {i:Nat} {a:A},l[i]? = some a→∀ id∈E4 a,id∈F3 l:=by
 intro l
 induction l with
 | nil=>intro i a h;simp at h
 | cons b l ih =>
  intro i a h id A2
  simp only [F3,D2S]
  cases i with
  | zero=>simp at h;subst h;exact .inl A2
  | succ i=>exact .inr (ih (by simpa using h) id A2)
theorem C3.fix {ob:Tr} {n0 nx:Nat} {keep:List Nat} (hA:A2y T c e eb of' ob n0 nx) {a:A} {v:Value} (h:C3 T e a v) (hk:∀ id∈E4 (V4 ob n0 nx a),G7 n0 nx id=true→id∈keep):C3 T (e.anew ob n0 nx keep) (V4 ob n0 nx a) v:=by
 have A4i:∀ {a:A},(∀ l,a≠.t l)→H6 T e a v→(∀ id∈E4 (V4 ob n0 nx a),G7 n0 nx id=true→id∈keep)→C3 T (e.anew ob n0 nx keep) (V4 ob n0 nx a) v:=fun {a} ht g hk=>by
  have r:=g.fix (keep:=keep) hA hk
  cases hf:V4 ob n0 nx a with
  | t l =>
   rw [hf] at r;exact r.elim
  | _=>rw [hf] at r;exact r
 cases a with
 | t l =>
  obtain ⟨xs,rfl,h2,h3⟩:=h
  refine ⟨xs,rfl,by rw [B9S];exact h2,fun i v x hv hx=>?_⟩
  obtain ⟨a,ha,rfl⟩:=B9R hv
  exact (h3 i a x ha hx).fix hA (fun id A2=>hk id (B9T hv id A2))
 | _=>exact A4i (by intro l hl;cases hl) h hk
variable {P:Program} {T:TT} {c:L0} {e eb:A9} {of of':Nat→Option Ob}
def sw (i j n:Nat):Nat:=bif Nat.beq n i then j else bif Nat.beq n j then i else n
theorem A6W {a b:Nat} (h:a≠b):Nat.beq a b=false:=by
 cases hq:Nat.beq a b with
 | false=>rfl
 | true=>exact absurd (D2H hq) h
theorem D09 (i j:Nat):sw i j i=j:=by unfold sw;rw [Nat.beq_refl];rfl
theorem D1a (i j:Nat):sw i j j=i:=by
 unfold sw
 by_cases h:j=i
 ·subst h;rw [Nat.beq_refl];rfl
 ·rw [A6W h,Nat.beq_refl];rfl
theorem A4Z {i j n:Nat} (h1:n≠i) (h2:n≠j):sw i j n=n:=by unfold sw;rw [A6W h1,A6W h2];rfl
@[simp] theorem sw_sw (i j n:Nat):sw i j (sw i j n)=n:=by
 by_cases h1:n=i
 ·subst h1;rw [D09,D1a]
 ·by_cases h2:n=j
  ·subst h2;rw [D1a,D09]
  ·rw [A4Z h1 h2,A4Z h1 h2]
theorem C8J {i j a b:Nat} (h:sw i j a=sw i j b):a=b:=by rw [← sw_sw i j a,h,sw_sw]
mutual
def swA (i j:Nat):A→A
 | .p id t path=>.p (sw i j id) t path
 | .e id ver k t path=>.e (sw i j id) ver k t path
 | .o id ver=>.o (sw i j id) ver
 | .w id ver off n=>.w (sw i j id) ver off n
 | .a id t path lo m=>.a (sw i j id) t path lo m
 | .m id=>.m (sw i j id)
 | .y id=>.y (sw i j id)
 | .f fn l=>.f fn (swL i j l)
 | .g t l=>.g t (swL i j l)
 | .t l=>.t (swL i j l)
 | a=>a
def swL (i j:Nat):List A→List A
 | []=>[]
 | a::r=>swA i j a::swL i j r
end
def swE (i j:Nat):List (V×A)→List (V×A)
 | []=>[]
 | p::r=>(p.1,swA i j p.2)::swE i j r
def swS (i j:Nat):List (Nat×A)→List (Nat×A)
 | []=>[]
 | p::r=>(p.1,swA i j p.2)::swS i j r
def swO (i j:Nat):Ob→Ob
 | .box t a sh=>.box t (swA i j a) sh
 | .row el ver xs nl sh=>.row el ver xs nl sh
 | .map kt et es=>.map kt et (swE i j es)
 | .vm kt et es=>.vm kt et es
 | .sm kt st el es ho=>.sm kt st el es ho
 | .lp (some r)=>.lp (some { r with sl:=swS i j r.sl })
 | .lp none=>.lp none
 | .it (some m)=>.it (some (sw i j m))
 | .it none=>.it none
def A9.sw (e:A9) (i j:Nat):A9:={ e with ι:=fun n=>e.ι (Vm.sw i j n),bn:=fun n=>e.bn (Vm.sw i j n),U:=fun n=>e.U (Vm.sw i j n),ty:=fun n=>e.ty (Vm.sw i j n),ln:=fun n=>e.ln (Vm.sw i j n) }
variable {i j:Nat}
theorem R1.sw {a:A} {v:Value} (h:R1 T e a v):R1 T (e.sw i j) (swA i j a) v:=by
 cases a<;>simp only [R1,swA,A9.sw,sw_sw] at h ⊢<;>exact h
theorem A9d {t:Nat} {a:A}:D3 T t (swA i j a)=D3 T t a:=by cases a<;>rfl
theorem C4h:∀ {ts:List Nat} {l:List A},Y6 T ts (swL i j l)=Y6 T ts l:=by
 intro ts
 induction ts with
 | nil=>intro l;cases l<;>rfl
 | cons t ts ih=>intro l;cases l with
  | nil=>rfl
  | cons a l=>simp only [swL,Y6,A9d,ih]
theorem RV.sw {ts:List Nat} {xs:List V} {cs:List Value} (h:RV T e ts xs cs):RV T (e.sw i j) ts xs cs:=RV.change (e:=e) (e':=e.sw i j) (fun a ds q=>q) h
theorem RA.sw {l:List A} {cs:List Value} (h:RA T e l cs):RA T (e.sw i j) (swL i j l) cs:=by
 induction h with
 | nil=>exact .nil
 | i hr _ ih=>exact .i hr ih
 | b _ ih=>exact .b ih
 | s _ ih=>exact .s ih
 | z h1 _ ih=>exact .z h1 ih
 | v h1 _ ih=>exact .v h1.sw ih
 | c h1 h2 _ ih=>exact .c h1.sw h2 ih
 | q h1 _ ih=>exact .q h1.sw ih
 | f _ _ ih1 ih=>exact .f ih1 ih
 | g h1 h2 h3 _ _ ih1 ih=>exact .g h1 (by rw [C4h];exact h2) h3 ih1 ih
 | r h1 h2 _ ih=>exact .r h1.sw h2 ih
theorem H6.sw {a:A} {v:Value} (h:H6 T e a v):H6 T (e.sw i j) (swA i j a) v:=by
 cases a<;>simp only [H6] at h<;>first | trivial | exact h.elim | exact ⟨h.1.sw,h.2⟩ | exact RA.sw h
theorem C4i:∀ {l:List A} {k:Nat} {v:A},(swL i j l)[k]? = some v→∃ a,l[k]? = some a∧v=swA i j a:=by
 intro l
 induction l with
 | nil=>intro k v h;simp [swL] at h
 | cons a l ih =>
  intro k v h
  cases k with
  | zero=>simp [swL] at h;exact ⟨a,rfl,h.symm⟩
  | succ k=>exact ih (by simpa [swL] using h)
theorem C4j:∀ {l:List A},(swL i j l).length=l.length:=by
 intro l
 induction l with
 | nil=>rfl
 | cons a l ih=>simp [swL,ih]
theorem C3.sw {a:A} {v:Value} (h:C3 T e a v):C3 T (e.sw i j) (swA i j a) v:=by
 cases a with
 | t l =>
  obtain ⟨xs,rfl,h2,h3⟩:=h
  refine ⟨xs,rfl,by rw [C4j];exact h2,fun k v x hv hx=>?_⟩
  obtain ⟨a,ha,rfl⟩:=C4i hv
  exact (h3 k a x ha hx).sw
 | _=>exact (by first | exact H6.sw (a:=.i _ _) h | exact H6.sw (a:=.b _) h | exact H6.sw (a:=.s _) h | exact H6.sw (a:=.z _) h | exact H6.sw (a:=.v _ _) h | exact H6.sw (a:=.p _ _ _) h | exact H6.sw (a:=.e _ _ _ _ _) h | exact H6.sw (a:=.c _ _) h | exact H6.sw (a:=.q _ _) h | exact H6.sw (a:=.o _ _) h | exact H6.sw (a:=.w _ _ _ _) h | exact H6.sw (a:=.a _ _ _ _ _) h | exact H6.sw (a:=.m _) h | exact H6.sw (a:=.y _) h | exact H6.sw (a:=.f _ _) h | exact H6.sw (a:=.g _ _) h | trivial)
theorem MR.sw {kt et:Nat} {es:List (V×A)} {ms:List MapEntry} (h:MR T e kt et es ms):MR T (e.sw i j) kt et (swE i j es) ms:=by
 induction h with
 | nil=>exact .nil
 | cons h1 h2 h3 _ ih=>exact .cons h1.sw h2.sw (by rw [A9d];exact h3) ih
theorem A3X:∀ l:List (V×A),swE i j l=l.map fun p=>(p.1,swA i j p.2):=by
 intro l
 induction l with
 | nil=>rfl
 | cons p r ih=>simp [swE,ih]
theorem C4k {et:Nat}:∀ es:List (V×V),swE i j (vms et es)=vms et es:=by
 intro es
 induction es with
 | nil=>rfl
 | cons p r ih=>simp only [vms,swE,ih];rfl
theorem C4l:∀ {l:List (Nat×A)} {p:Nat×A},p∈swS i j l→∃ q∈l,p=(q.1,swA i j q.2):=by
 intro l
 induction l with
 | nil=>intro p hp;cases hp
 | cons q r ih =>
  intro p hp
  rcases List.mem_cons.1 hp with rfl | hp
  ·exact ⟨q,by simp,rfl⟩
  ·obtain ⟨q',h1,h2⟩:=ih hp
   exact ⟨q',by simp [h1],h2⟩
theorem OK.sw {id:Nat} {o:Ob} (h:OK T e id o):OK T (e.sw i j) (Vm.sw i j id) (swO i j o):=by
 cases o with
 | box t a sh =>
  obtain ⟨h1,h2,h2',h2'',b,cs,ty,fz,h3,h4,h5,h5',h6,h7⟩:=h
  simp only [OK,swO,A9.sw,sw_sw,A9d]
  exact ⟨h1,h2,h2',h2'',b,cs,ty,fz,h3,h4,h5,h5',RA.sw h6,h7⟩
 | row el ver xs nl sh =>
  obtain ⟨h1,h2,h3,h4,h4',h5,h6⟩:=h
  simp only [OK,swO,A9.sw,sw_sw]
  refine ⟨h1,h2,h3,h4,h4',h5,?_⟩
  rcases h6 with h6 | ⟨nn',b,o,cs,t,fz,pre,ys,post,g1,g2,g3,g4,g5,g6,g7,g8⟩
  ·exact .inl h6
  ·exact .inr ⟨nn',b,o,cs,t,fz,pre,ys,post,g1,g2,g3,g4,g5,g6.sw,g7,g8⟩
 | map kt et es =>
  obtain ⟨h1,h2,b,ms,clock,h3,h4,⟨h5,h5'⟩,es',h6,h7⟩:=h
  simp only [OK,swO,A9.sw,sw_sw]
  refine ⟨h1,h2,b,ms,clock,h3,h4,⟨by rw [A3X,List.map_map];exact h5,h5'⟩,swE i j es',by rw [A3X,A3X];exact h6.map _,h7.sw⟩
 | vm kt et es =>
  obtain ⟨h1,h2,b,ms,clock,h3,h4,⟨h5,h5'⟩,es',h6,h7⟩:=h
  simp only [OK,swO,A9.sw,sw_sw]
  refine ⟨h1,h2,b,ms,clock,h3,h4,⟨h5,h5'⟩,swE i j es',by rw [← C4k (i:=i) (j:=j) es,A3X,A3X];exact h6.map _,h7.sw⟩
 | sm kt st el es ho =>
  obtain ⟨h1,h2,ha,hb',hc,b,ms,clock,h3,h4,h5,es',bs,h6,h7⟩:=h
  simp only [OK,swO,A9.sw,sw_sw]
  exact ⟨h1,h2,ha,hb',hc,b,ms,clock,h3,h4,h5,es',bs,h6,SR.change (e:=e) (e':=e.sw i j) (fun a ds q=>q) rfl (fun _ _ q=>q) (fun _ _ q=>q) h7⟩
 | lp q =>
  cases q with
  | none =>
   obtain ⟨h1,h2,b,h3,h4⟩:=h
   simp only [OK,swO,A9.sw,sw_sw]
   exact ⟨h1,h2,b,h3,h4⟩
  | some r =>
   obtain ⟨h1,h2,b,tm,df,fn,h3,h4,h5,h6⟩:=h
   simp only [OK,swO,A9.sw,sw_sw]
   refine ⟨h1,h2,b,tm,df,fn,h3,h4,h5,fun p hp=>?_⟩
   obtain ⟨q,hq,rfl⟩:=C4l hp
   exact (h6 q hq).sw
 | it q =>
  cases q with
  | none =>
   obtain ⟨h1,h2,b,x,y,z,h3,h4⟩:=h
   simp only [OK,swO,A9.sw,sw_sw]
   exact ⟨h1,h2,b,x,y,z,h3,h4⟩
  | some m =>
   obtain ⟨h1,h2,b,bm,x,z,h3,h4,h5,h6,h7⟩:=h
   simp only [OK,swO,A9.sw,sw_sw]
   exact ⟨h1,h2,b,bm,x,z,h3,h4,h5,h6,h7⟩
mutual
theorem A9e:∀ (a:A),(∀ k∈E4 a,k≠i∧k≠j)→swA i j a=a:=by
 intro a h
 cases a with
 | p id t path=>have:=h id (by simp [E4]);simp only [swA,A4Z this.1 this.2]
 | e id ver k t path=>have:=h id (by simp [E4]);simp only [swA,A4Z this.1 this.2]
 | o id ver=>have:=h id (by simp [E4]);simp only [swA,A4Z this.1 this.2]
 | w id ver off n=>have:=h id (by simp [E4]);simp only [swA,A4Z this.1 this.2]
 | a id t path lo m=>have:=h id (by simp [E4]);simp only [swA,A4Z this.1 this.2]
 | m id=>have:=h id (by simp [E4]);simp only [swA,A4Z this.1 this.2]
 | y id=>have:=h id (by simp [E4]);simp only [swA,A4Z this.1 this.2]
 | f fn l=>simp only [swA,A9f l (fun k hk=>h k (by simpa [E4] using hk))]
 | g t l=>simp only [swA,A9f l (fun k hk=>h k (by simpa [E4] using hk))]
 | t l=>simp only [swA,A9f l (fun k hk=>h k (by simpa [E4] using hk))]
 | _=>rfl
theorem A9f:∀ (l:List A),(∀ k∈F3 l,k≠i∧k≠j)→swL i j l=l:=by
 intro l h
 cases l with
 | nil=>rfl
 | cons a r=>simp only [swL,A9e a (fun k hk=>h k (by simp [F3,hk])),A9f r (fun k hk=>h k (by simp [F3,hk]))]
end
theorem C8K:∀ (l:List (V×A)),(∀ k∈A2w l,k≠i∧k≠j)→swE i j l=l:=by
 intro l
 induction l with
 | nil=>intro _;rfl
 | cons p r ih=>intro h;simp only [swE,A9e p.2 (fun k hk=>h k (by simp [A2w,hk])),ih (fun k hk=>h k (by simp [A2w,hk]))]
theorem C8L:∀ (l:List (Nat×A)),(∀ k∈A22 l,k≠i∧k≠j)→swS i j l=l:=by
 intro l
 induction l with
 | nil=>intro _;rfl
 | cons p r ih=>intro h;simp only [swS,A9e p.2 (fun k hk=>h k (by simp [A22,hk])),ih (fun k hk=>h k (by simp [A22,hk]))]
theorem C8M:∀ (o:Ob),(∀ k∈A12 o,k≠i∧k≠j)→swO i j o=o:=by
 intro o h
 cases o with
 | box t a sh=>simp only [swO,A9e a h]
 | row el ver xs nl sh=>rfl
 | map kt et es=>simp only [swO,C8K es h]
 | vm kt et es=>rfl
 | sm _ _ _ _ _=>rfl
 | lp q=>cases q with
  | none=>rfl
  | some r=>simp only [swO,C8L r.sl h]
 | it q=>cases q with
  | none=>rfl
  | some m=>have:=h m (by simp [A12]);simp only [swO,A4Z this.1 this.2]
theorem H6.used {a:A} {v:Value} (h:H6 T e a v):∀ id∈E4 a,e.U id:=by
 have one:∀ {a:A} {cs:List Value},RA T e [a] cs→∀ id∈E4 a,e.U id:=fun g id A2=>g.use id (by simp [F3,A2])
 cases a<;>simp only [H6] at h
 case x=>intro id A2;cases A2
 case v=>intro id A2;cases A2
 case g=>exact one h.1
 all_goals exact one h
theorem MR.used {kt et:Nat} {es:List (V×A)} {ms:List MapEntry} (h:MR T e kt et es ms):∀ id∈A2w es,e.U id:=by
 induction h with
 | nil=>intro id A2;cases A2
 | cons h1 h2 _ _ ih =>
  intro id A2
  simp only [A2w,D2S] at A2
  exact A2.elim (h2.used id) (ih id)
theorem A4A {a b:List (V×A)} (h:a.Perm b):∀ id,id∈A2w b→id∈A2w a:=by
 have mem:∀ (l:List (V×A)) id,id∈A2w l↔∃ p∈l,id∈E4 p.2:=by
  intro l id
  induction l with
  | nil=>simp [A2w]
  | cons p r ih=>simp [A2w,ih]
 intro id A2
 rw [mem] at A2 ⊢
 obtain ⟨p,hp,hq⟩:=A2
 exact ⟨p,h.mem_iff.2 hp,hq⟩
theorem OK.used {id:Nat} {o:Ob} (h:OK T e id o):∀ k∈A12 o,e.U k:=by
 cases o with
 | box t a sh =>
  obtain ⟨h1,h2,h2',h2'',b,cs,ty,fz,h3,h4,h5,h5',h6,h7⟩:=h
  exact fun k hk=>h6.use k (by simpa [F3,A12] using hk)
 | row el ver xs nl sh=>intro k hk;cases hk
 | map kt et es =>
  obtain ⟨h1,h2,b,ms,clock,h3,h4,h5,es',h6,h7⟩:=h
  exact fun k hk=>h7.used k (A4A h6 k hk)
 | vm kt et es=>intro k hk;cases hk
 | sm _ _ _ _ _=>intro k hk;cases hk
 | lp q =>
  cases q with
  | none=>intro k hk;cases hk
  | some r =>
   obtain ⟨h1,h2,b,tm,df,fn,h3,h4,h5,h6⟩:=h
   have mem:∀ (l:List (Nat×A)) id,id∈A22 l→∃ p∈l,id∈E4 p.2:=by
    intro l id
    induction l with
    | nil=>intro h;cases h
    | cons p r ih =>
     intro h
     simp only [A22,D2S] at h
     rcases h with h | h
     ·exact ⟨p,by simp,h⟩
     ·obtain ⟨q,q1,q2⟩:=ih h;exact ⟨q,by simp [q1],q2⟩
   intro k hk
   obtain ⟨p,hp,hq⟩:=mem _ _ hk
   exact (h6 p hp).used k hq
 | it q =>
  cases q with
  | none=>intro k hk;cases hk
  | some m =>
   obtain ⟨h1,h2,b,bm,x,z,h3,h4,h5,h6,h7⟩:=h
   intro k hk
   have:k=m:=by simpa [A12] using hk
   subst this;exact h5
def swP (i j:Nat) (p:Nat×Ob):Nat×Ob:=(sw i j p.1,swO i j p.2)
def swM (i j:Nat):List (Nat×Ob)→List (Nat×Ob)
 | []=>[]
 | p::r=>swP i j p::swM i j r
theorem C4m:∀ (l:List (Nat×Ob)) (f g:Nat→Option Ob),(∀ n,g n=(f (sw i j n)).map (swO i j))→∀ n,put g (swM i j l) n=(put f l (sw i j n)).map (swO i j):=by
 intro l
 induction l with
 | nil=>intro f g h n;exact h n
 | cons p r ih =>
  intro f g h n
  obtain ⟨k,o⟩:=p
  simp only [swM,swP,put]
  refine ih _ _ (fun n=>?_) n
  by_cases hn:n=sw i j k
  ·subst hn;rw [upd_same,sw_sw,upd_same];rfl
  ·rw [upd_ne _ _ hn,upd_ne _ _ (fun q=>hn (by rw [← q,sw_sw])),h]
theorem B9U {l:List Nat} {ds:List Deferred} (h:Z4 e l ds):Z4 (e.sw i j) (l.map (sw i j)) ds:=by
 induction h with
 | nil=>exact .nil
 | cons h1 h2 h3 _ ih=>exact .cons (by simp only [A9.sw,sw_sw];exact h1) (by simp only [A9.sw,sw_sw];exact h2) (by simp only [A9.sw,sw_sw];exact h3) ih
variable {P:Program} {T:TT} {c:L0} {e eb:A9} {of of':Nat→Option Ob}
def A4B (ob:Tr) (n0 nx:Nat):Nat→List Nat→List Nat→List Nat
 | 0,_,seen=>seen
 | _+1,[],seen=>seen
 | f+1,id::r,seen=>bif mem id seen||!(G7 n0 nx id) then A4B ob n0 nx f r seen else
  match ob.get id with
  | some o=>A4B ob n0 nx f (A12 (A3W ob n0 nx id o)++r) (id::seen)
  | none=>A4B ob n0 nx f r (id::seen)
def okR (n0 nx:Nat) (keep:List Nat) (id:Nat):Bool:=!(G7 n0 nx id)||mem id keep
def A9g (n0 nx:Nat) (keep:List Nat):List Nat→Bool
 | []=>true
 | id::r=>okR n0 nx keep id&&A9g n0 nx keep r
def A9h:List (V×A)→Bool
 | []=>true
 | p::r=>(match E4 p.2 with | []=>true | _=>false)&&A9h r
def C6c:Ob→Bool
 | .map _ _ es=>A9h es
 | _=>true
def A24 (ob:Tr) (n0 nx:Nat) (keep:List Nat):List (Nat×Ob)→List (Nat×Ob)
 | []=>[]
 | p::r=>bif okR n0 nx keep p.1 then (p.1,A3W ob n0 nx p.1 p.2)::A24 ob n0 nx keep r else A24 ob n0 nx keep r
def B9V (n0 nx:Nat) (keep:List Nat):List (Nat×Ob)→Bool
 | []=>true
 | p::r=>A9g n0 nx keep (A12 p.2)&&(C6c p.2&&B9V n0 nx keep r)
def B9W:List Nat→Nat→Nat
 | [],m=>m
 | id::r,m=>B9W r (bif Nat.blt m (id+1) then id+1 else m)
def A6X (ob:Tr) (n0 nx:Nat):List (Nat×Ob)→List Nat
 | []=>[]
 | p::r=>bif G7 n0 nx p.1 then A6X ob n0 nx r else A12 (A3W ob n0 nx p.1 p.2)++A6X ob n0 nx r
def mkL:Option (List Nat)→List Nat
 | some l=>l
 | none=>[]
theorem Z4.anew {ob:Tr} {n0 nx:Nat} {keep:List Nat} (hA:A2y T c e eb of' ob n0 nx) {l:List Nat} {ds:List Deferred} (h:Z4 e l ds):(∀ id∈l,G7 n0 nx id=true→id∈keep)→Z4 (e.anew ob n0 nx keep) l ds:=by
 induction h with
 | nil=>intro _;exact .nil
 | cons h1 h2 h3 _ ih=>intro hk;exact .cons ⟨h1,hk _ (by simp)⟩ (hA.box0 h2) h3 (ih fun id A2=>hk id (by simp [A2]))
theorem A4P.anew {ob:Tr} {n0 nx:Nat} {keep:List Nat} (hA:A2y T c e eb of' ob n0 nx) {rd:Option Nat} {l:Option (List Nat)} {ds:List Deferred} (h:A4P e rd l ds) (hk:∀ id∈mkL l,G7 n0 nx id=true→id∈keep):A4P (e.anew ob n0 nx keep) rd l ds:=by
 cases l with
 | none=>exact h
 | some l=>exact ⟨h.1,h.2.anew hA hk⟩
def St.norm0 (σ:St) (n0:Nat) (ks:List Nat):Option St :=
 let sl:=A6V σ.ob n0 σ.nx (A06 σ.sl ks)
 let L:=σ.ob.toL fun j=>j
 let keep:=A4B σ.ob n0 σ.nx 1000 (A22 sl++(mkL σ.mks++A6X σ.ob n0 σ.nx L)) []
 let L2:=A24 σ.ob n0 σ.nx keep L
 bif (A9g n0 σ.nx keep (A22 sl)&&A9g n0 σ.nx keep (mkL σ.mks))&&B9V n0 σ.nx keep L2 then some ⟨sl,A01 .e L2,σ.rd,B9W keep n0,σ.mks⟩ else none
theorem B0G {n0 nx id:Nat} {keep:List Nat} (h:okR n0 nx keep id=true):G7 n0 nx id=true→id∈keep:=by
 intro hn
 unfold okR at h
 rw [hn] at h
 exact mem_iff.1 (by simpa using h)
theorem A4C {n0 nx:Nat} {keep:List Nat}:∀ {l:List Nat},A9g n0 nx keep l=true→∀ id∈l,G7 n0 nx id=true→id∈keep:=by
 intro l
 induction l with
 | nil=>intro _ id h;cases h
 | cons k r ih =>
  intro h id A2
  simp only [A9g,D2I] at h
  rcases List.mem_cons.1 A2 with rfl | A2
  ·exact B0G h.1
  ·exact ih h.2 id A2
theorem B0H:∀ {es:List (V×A)},A9h es=true→∀ p∈es,E4 p.2=[]:=by
 intro es
 induction es with
 | nil=>intro _ p h;cases h
 | cons q r ih =>
  intro h p hp
  simp only [A9h,D2I] at h
  rcases List.mem_cons.1 hp with rfl | hp
  ·cases hq:E4 p.2 with
   | nil=>rfl
   | cons _ _=>rw [hq] at h;simp at h
  ·exact ih h.2 p hp
theorem C4n:∀ (l:List Nat) (m:Nat),m≤B9W l m∧∀ id∈l,id < B9W l m:=by
 intro l
 induction l with
 | nil=>intro m;exact ⟨Nat.le_refl _,fun id h=>by cases h⟩
 | cons k r ih =>
  intro m
  simp only [B9W]
  obtain ⟨p,q⟩:=ih (bif Nat.blt m (k+1) then k+1 else m)
  have hm:m≤(bif Nat.blt m (k+1) then k+1 else m)∧k < (bif Nat.blt m (k+1) then k+1 else m):=by
   cases hb:Nat.blt m (k+1) with
   | true=>have:m < k+1:=by simpa [Nat.blt_eq] using hb
           exact ⟨by simp;omega,by simp⟩
   | false =>
    have:¬ m < k+1:=by intro hq;rw [show Nat.blt m (k+1)=true by simpa [Nat.blt_eq] using hq] at hb;cases hb
    exact ⟨by simp,by simp;omega⟩
  refine ⟨Nat.le_trans hm.1 p,fun id A2=>?_⟩
  rcases List.mem_cons.1 A2 with rfl | A2
  ·exact Nat.lt_of_lt_of_le hm.2 p
  ·exact q id A2
theorem B9X {ob:Tr} {n0 nx:Nat}:∀ {l:List (Nat×A)} {t:Nat},G8 (A6V ob n0 nx l) t=V4 ob n0 nx (G8 l t):=by
 intro l
 induction l with
 | nil=>intro t;rfl
 | cons p r ih =>
  intro t
  obtain ⟨k,v⟩:=p
  rw [A6V,M4,M4]
  by_cases h:t=k
  ·subst h;rw [upd_same,upd_same]
  ·rw [upd_ne _ _ h,upd_ne _ _ h];exact ih
theorem B9Y:∀ {l:List (Nat×A)} {t:Nat},∀ id∈E4 (G8 l t),id∈A22 l:=by
 intro l
 induction l with
 | nil=>intro t id h;cases h
 | cons p r ih =>
  intro t id h
  obtain ⟨k,v⟩:=p
  simp only [A22,D2S]
  rw [M4] at h
  by_cases hk:t=k
  ·subst hk;rw [upd_same] at h;exact .inl h
  ·rw [upd_ne _ _ hk] at h;exact .inr (ih id h)
theorem A4D:∀ (l:List (Nat×Ob)) (f:Nat→Option Ob) (id:Nat),put f l id=match put (fun _=>none) l id with
  | some o=>some o
  | none=>f id:=by
 intro l
 induction l with
 | nil=>intro f id;rfl
 | cons p r ih =>
  intro f id
  obtain ⟨k,o⟩:=p
  simp only [put]
  rw [ih (F9 f k (some o)),ih (F9 (fun _=>none) k (some o))]
  cases hq:put (fun _=>none) r id with
  | some o'=>rfl
  | none =>
   simp only
   by_cases h:id=k
   ·subst h;rw [upd_same,upd_same]
   ·rw [upd_ne _ _ h,upd_ne _ _ h]
theorem B0I {ob:Tr} {n0 nx:Nat} {keep:List Nat}:∀ (l:List (Nat×Ob)) (id:Nat),put (fun _=>none) (A24 ob n0 nx keep l) id=if okR n0 nx keep id=true then (put (fun _=>none) l id).map (A3W ob n0 nx id) else none:=by
 intro l
 induction l with
 | nil=>intro id;simp [A24,put]
 | cons p r ih =>
  intro id
  obtain ⟨k,o⟩:=p
  simp only [A24]
  cases hk:okR n0 nx keep k with
  | false =>
   simp only [cond_false,put]
   rw [ih id,A4D r (F9 (fun _=>none) k (some o))]
   by_cases A2:okR n0 nx keep id=true
   ·have hne:id≠k:=fun h=>by subst h;rw [hk] at A2;cases A2
    rw [if_pos A2,if_pos A2,upd_ne _ _ hne]
    cases put (fun _=>none) r id<;>rfl
   ·rw [if_neg A2,if_neg A2]
  | true =>
   simp only [cond_true,put]
   rw [A4D (A24 ob n0 nx keep r) (F9 (fun _=>none) k _),ih id,A4D r (F9 (fun _=>none) k (some o))]
   by_cases A2:okR n0 nx keep id=true
   ·rw [if_pos A2,if_pos A2]
    cases put (fun _=>none) r id with
    | some o'=>rfl
    | none =>
     simp only [Option.map_none]
     by_cases h:id=k
     ·subst h;rw [upd_same,upd_same];rfl
     ·rw [upd_ne _ _ h,upd_ne _ _ h];rfl
   ·rw [if_neg A2,if_neg A2]
    simp only
    by_cases h:id=k
    ·subst h;exact absurd hk A2
    ·exact upd_ne _ _ h
theorem B9Z {n0 nx:Nat} {keep:List Nat}:∀ {l:List (Nat×Ob)},B9V n0 nx keep l=true→∀ id o,put (fun _=>none) l id=some o→A9g n0 nx keep (A12 o)=true∧C6c o=true:=by
 intro l
 induction l with
 | nil=>intro _ id o h;cases h
 | cons p r ih =>
  intro h id o ho
  obtain ⟨k,o1⟩:=p
  simp only [B9V,D2I] at h
  simp only [put] at ho
  rw [A4D] at ho
  split at ho
  ·rename_i o' ho'
   injection ho with ho;subst ho
   exact ih h.2.2 id _ ho'
  ·by_cases hk:id=k
   ·subst hk;rw [upd_same] at ho;injection ho with ho;subst ho;exact ⟨h.1,h.2.1⟩
   ·rw [upd_ne _ _ hk] at ho;cases ho
theorem Sim.norm0 {n0 nt:Nat} {σ σn:St} {a:Act} {w:World} {ks:List Nat} (h:Sim T c eb of' n0 nt σ a w) (hb:A80 T eb of') (hnew:∀ id,n0≤id→id < σ.nx→¬ eb.U id) (hn:σ.norm0 n0 ks=some σn):Sim T c eb of' n0 nt σn a w∧n0≤σn.nx∧σn.rd=σ.rd:=by
 obtain ⟨e,rfl,hst⟩:=h
 unfold St.norm0 at hn
 simp only at hn
 generalize hkeep:A4B σ.ob n0 σ.nx 1000 (A22 (A6V σ.ob n0 σ.nx (A06 σ.sl ks))++(mkL σ.mks++A6X σ.ob n0 σ.nx (σ.ob.toL fun j=>j))) []=keep at hn
 cases hc:((A9g n0 σ.nx keep (A22 (A6V σ.ob n0 σ.nx (A06 σ.sl ks)))&&A9g n0 σ.nx keep (mkL σ.mks))&&B9V n0 σ.nx keep (A24 σ.ob n0 σ.nx keep (σ.ob.toL fun j=>j))) with
 | false=>rw [hc] at hn;cases hn
 | true =>
 rw [hc] at hn
 simp only [cond_true,D2K] at hn
 subst hn
 simp only [D2I] at hc
 obtain ⟨hc1,hc2⟩:=hc
 have isn:∀ {id:Nat},G7 n0 σ.nx id=true→n0≤id∧id < σ.nx:=fun {id} hq=>by
  simp only [G7,D2I] at hq
  exact ⟨D2N hq.1,by simpa [Nat.blt_eq] using hq.2⟩
 have nis:∀ {id:Nat},eb.U id→G7 n0 σ.nx id=false:=fun {id} hu=>by
  cases hq:G7 n0 σ.nx id with
  | false=>rfl
  | true=>exact absurd hu (hnew id (isn hq).1 (isn hq).2)
 have hA:A2y T c e eb of' σ.ob n0 σ.nx:=⟨hst.os,fun id hq=>hnew id (isn hq).1 (isn hq).2⟩
 obtain ⟨hm0,hmk⟩:=C4n keep n0
 have hget:∀ id,put (fun _=>none) (σ.ob.toL fun j=>j) id=σ.ob.get id:=fun id=>by
  rw [A1S];unfold D1;cases σ.ob.get id<;>rfl
 have hover:∀ id,D1 (A01 .e (A24 σ.ob n0 σ.nx keep (σ.ob.toL fun j=>j))) of' id=if okR n0 σ.nx keep id=true then (match σ.ob.get id with | some o=>some (A3W σ.ob n0 σ.nx id o) | none=>of' id) else of' id:=by
  intro id
  rw [A0K,show D1 Tr.e of'=of' from funext fun j=>by unfold D1;rw [Tr.get_e],A4D,B0I,hget]
  by_cases A2:okR n0 σ.nx keep id=true
  ·rw [if_pos A2,if_pos A2];cases σ.ob.get id<;>rfl
  ·rw [if_neg A2,if_neg A2]
 have hok:∀ id o,D1 (A01 .e (A24 σ.ob n0 σ.nx keep (σ.ob.toL fun j=>j))) of' id=some o→OK T (e.anew σ.ob n0 σ.nx keep) id o∧(D1 σ.ob of' id).isSome∧e.U id:=by
  intro id o ho
  rw [hover] at ho
  by_cases A2:okR n0 σ.nx keep id=true
  ·rw [if_pos A2] at ho
   cases hg:σ.ob.get id with
   | some o1 =>
    rw [hg] at ho
    injection ho with ho;subst ho
    have h1:D1 σ.ob of' id=some o1:=by unfold D1;rw [hg]
    have hch:=B9Z hc2 id (A3W σ.ob n0 σ.nx id o1) (by rw [B0I,if_pos A2,hget,hg];rfl)
    refine ⟨OK.fix hA hg (hst.os.ok _ _ h1) (B0G A2) (A4C hch.1) (fun kt et es he=>?_),by rw [h1];rfl,(hst.os.ok _ _ h1).use⟩
    subst he
    exact B0H hch.2
   | none =>
    rw [hg] at ho
    have h1:D1 σ.ob of' id=some o:=by unfold D1;rw [hg];exact ho
    exact ⟨OK.old hA (hst.os.ok _ _ h1) (hb id o ho),by rw [h1];rfl,(hst.os.ok _ _ h1).use⟩
  ·rw [if_neg A2] at ho
   have hu:=(hb id o ho).use
   have:=nis hu
   unfold okR at A2
   rw [this] at A2
   exact absurd rfl A2
 refine ⟨⟨e.anew σ.ob n0 σ.nx keep,rfl,⟨⟨fun id o ho=>(hok id o ho).1,fun i j b o b' o' hi hj=>?_,fun i b o hi=>?_,fun i b o hi=>hst.os.lt i b o hi.1,hst.os.slt,hst.os.s0,hst.os.snew,hst.os.os,hst.os.tape,hst.os.output,hst.os.size,hst.os.block,hst.os.g.mono (fun _ _ q=>q) rfl (fun _ q=>q) (Nat.le_refl _) (fun j b o hj hb=>by
  obtain ⟨o1,ho1⟩:=D2M.1 hj
  exact .inl ⟨j,o,(hok _ _ ho1).2.1,hb⟩)⟩,?_,fun id A2=>?_,fun t=>?_,hst.def_.anew hA (A4C hc1.2),hst.nt⟩⟩,hm0,rfl⟩
 ·obtain ⟨o1,ho1⟩:=D2M.1 hi
  obtain ⟨o2,ho2⟩:=D2M.1 hj
  exact hst.os.sep i j b o b' o' (hok _ _ ho1).2.1 (hok _ _ ho2).2.1
 ·obtain ⟨o1,ho1⟩:=D2M.1 hi
  exact hst.os.own i b o (hok _ _ ho1).2.1
 ·have old:∀ {id:Nat},eb.U id→(e.anew σ.ob n0 σ.nx keep).bn id=e.bn id:=fun {id} hu=>R5 (A1F (nis hu))
  exact ⟨hst.le.S,fun id hu=>⟨hst.le.use id hu,fun hq=>by rw [nis hu] at hq;cases hq⟩,fun id hu hq=>hst.le.obj id hu (by rw [← old hu];exact hq),fun id hu h0=>by rw [old hu];exact hst.le.box id hu h0,fun id hu=>by rw [old hu];exact hst.le.up id hu,hst.le.ty,hst.le.grow,hst.le.keep⟩
 ·rcases hst.U id A2.1 with h | h
  ·exact .inl h
  ·refine .inr ⟨h.1,hmk id (A2.2 ?_)⟩
   simp only [G7,D2I]
   exact ⟨D2R h.1,by simpa [Nat.blt_eq] using h.2⟩
 ·show C3 T _ (G8 (A6V σ.ob n0 σ.nx (A06 σ.sl ks)) t) _
  have hr:C3 T e (G8 (A06 σ.sl ks) t) (a.tmps.getD t undef):=by
   rcases A76 σ.sl ks t with h | h
   ·rw [h];trivial
   ·rw [h];exact hst.sl t
  have href:∀ id∈E4 (G8 (A6V σ.ob n0 σ.nx (A06 σ.sl ks)) t),G7 n0 σ.nx id=true→id∈keep:=fun id A2=>A4C hc1.1 id (B9Y id A2)
  rw [B9X] at href ⊢
  exact hr.fix hA href
def St.swap (σ:St) (i j:Nat):St:={ σ with sl:=swS i j σ.sl,ob:=A01 .e (swM i j (σ.ob.toL fun j=>j)),mks:=match σ.mks with
 | some l=>some (l.map (sw i j))
 | none=>none }
theorem C4o {i j:Nat}:∀ {l:List (Nat×A)} {t:Nat},G8 (swS i j l) t=swA i j (G8 l t):=by
 intro l
 induction l with
 | nil=>intro t;rfl
 | cons p r ih =>
  intro t
  obtain ⟨k,v⟩:=p
  rw [swS,M4,M4]
  by_cases h:t=k
  ·subst h;rw [upd_same,upd_same]
  ·rw [upd_ne _ _ h,upd_ne _ _ h];exact ih
theorem Sim.swap {n0 nt:Nat} {σ:St} {a:Act} {w:World} (h:Sim T c eb of' n0 nt σ a w) (hb:A80 T eb of') {i j:Nat} (hi:n0≤i∧i < σ.nx) (hj:n0≤j∧j < σ.nx) (hui:¬ eb.U i) (huj:¬ eb.U j):Sim T c eb of' n0 nt (σ.swap i j) a w:=by
 obtain ⟨e,rfl,hst⟩:=h
 have old:∀ {n:Nat},eb.U n→sw i j n=n:=fun {n} hu=>A4Z (fun q=>hui (q ▸ hu)) (fun q=>huj (q ▸ hu))
 have hget:∀ id,put (fun _=>none) (σ.ob.toL fun j=>j) id=σ.ob.get id:=fun id=>by
  rw [A1S];unfold D1;cases σ.ob.get id<;>rfl
 have hover:∀ n,D1 (A01 .e (swM i j (σ.ob.toL fun j=>j))) of' n=match σ.ob.get (sw i j n) with
   | some o=>some (swO i j o)
   | none=>of' n:=by
  intro n
  rw [A0K,show D1 Tr.e of'=of' from funext fun j=>by unfold D1;rw [Tr.get_e],A4D,C4m _ (fun _=>none) (fun _=>none) (fun _=>rfl),hget]
  cases σ.ob.get (sw i j n)<;>rfl
 have hok:∀ n o,D1 (A01 .e (swM i j (σ.ob.toL fun j=>j))) of' n=some o→OK T (e.sw i j) n o∧(D1 σ.ob of' (sw i j n)).isSome:=by
  intro n o ho
  rw [hover] at ho
  split at ho
  ·rename_i o1 hg
   injection ho with ho;subst ho
   have h1:D1 σ.ob of' (sw i j n)=some o1:=by unfold D1;rw [hg]
   have:=(hst.os.ok _ _ h1).sw (i:=i) (j:=j)
   rw [sw_sw] at this
   exact ⟨this,by rw [h1];rfl⟩
  ·rename_i hg
   have hbo:=hb n o ho
   have hn:=old hbo.use
   rw [hn] at hg ⊢
   have h1:D1 σ.ob of' n=some o:=by unfold D1;rw [hg];exact ho
   have:=(hst.os.ok _ _ h1).sw (i:=i) (j:=j)
   rw [hn,C8M o (fun k hk=>⟨fun q=>hui (by rw [← q];exact hbo.used k hk),fun q=>huj (by rw [← q];exact hbo.used k hk)⟩)] at this
   exact ⟨this,by rw [h1];rfl⟩
 refine ⟨e.sw i j,rfl,⟨fun id o ho=>(hok id o ho).1,fun p q b o b' o' hp hq hb1 hb2 hne=>?_,fun p b o hp hb1=>?_,fun p b o hp hb1=>hst.os.lt _ b o hp hb1,hst.os.slt,hst.os.s0,hst.os.snew,hst.os.os,hst.os.tape,hst.os.output,hst.os.size,hst.os.block,hst.os.g.mono (fun _ _ q=>q) rfl (fun _ q=>q) (Nat.le_refl _) (fun p b o hp hb=>by
  obtain ⟨o1,ho1⟩:=D2M.1 hp
  exact .inl ⟨_,o,(hok _ _ ho1).2,hb⟩)⟩,?_,fun id A2=>?_,fun t=>?_,?_,hst.nt⟩
 ·obtain ⟨o1,ho1⟩:=D2M.1 hp
  obtain ⟨o2,ho2⟩:=D2M.1 hq
  exact hst.os.sep _ _ b o b' o' (hok _ _ ho1).2 (hok _ _ ho2).2 hb1 hb2 (fun k=>hne (C8J k))
 ·obtain ⟨o1,ho1⟩:=D2M.1 hp
  exact hst.os.own _ b o (hok _ _ ho1).2 hb1
 ·have k:∀ {n:Nat},eb.U n→(e.sw i j).ι n=e.ι n∧(e.sw i j).bn n=e.bn n∧(e.sw i j).ln n=e.ln n∧(e.sw i j).ty n=e.ty n∧((e.sw i j).U n↔e.U n):=fun {n} hu=>by
   have:=old hu
   refine ⟨?_,?_,?_,?_,?_⟩<;>simp only [A9.sw,this]
  exact ⟨hst.le.S,fun id hu=>(k hu).2.2.2.2.2 (hst.le.use id hu),fun id hu hq=>by rw [(k hu).1,(k hu).2.2.1];exact hst.le.obj id hu (by rw [← (k hu).2.1];exact hq),fun id hu h0=>by rw [(k hu).2.1];exact hst.le.box id hu h0,fun id hu=>by rw [(k hu).2.1];exact hst.le.up id hu,fun id hu=>by rw [(k hu).2.2.2.1];exact hst.le.ty id hu,hst.le.grow,hst.le.keep⟩
 ·by_cases h1:id=i
  ·subst h1;exact .inr hi
  ·by_cases h2:id=j
   ·subst h2;exact .inr hj
   ·have:e.U (sw i j id):=A2
    rw [A4Z h1 h2] at this
    exact hst.U id this
 ·show C3 T _ (G8 (swS i j σ.sl) t) _
  rw [C4o]
  exact (hst.sl t).sw
 ·have:=hst.def_
  show A4P (e.sw i j) c.rd (match σ.mks with | some l=>some (l.map (sw i j)) | none=>none) a.defers
  cases hm:σ.mks with
  | none=>rw [hm] at this;exact this
  | some l=>rw [hm] at this;exact ⟨this.1,B9U this.2⟩
def St.permL (n0:Nat):List Nat→Nat→(Nat→Nat)→St→St
 | [],_,_,σ=>σ
 | id::r,k,f,σ=>bif G7 n0 σ.nx (f id)&&G7 n0 σ.nx k then St.permL n0 r (k+1) (fun n=>sw (f id) k (f n)) (σ.swap (f id) k) else σ
theorem St.permL_rd {n0:Nat}:∀ (l:List Nat) (k:Nat) (f:Nat→Nat) (σ:St),(St.permL n0 l k f σ).rd=σ.rd∧(St.permL n0 l k f σ).nx=σ.nx:=by
 intro l
 induction l with
 | nil=>intro k f σ;exact ⟨rfl,rfl⟩
 | cons id r ih =>
  intro k f σ
  unfold St.permL
  cases G7 n0 σ.nx (f id)&&G7 n0 σ.nx k
  ·exact ⟨rfl,rfl⟩
  ·exact ih (k+1) _ (σ.swap (f id) k)
theorem Sim.permL {n0 nt:Nat} {a:Act} {w:World} (hb:A80 T eb of'):∀ (l:List Nat) (k:Nat) (f:Nat→Nat) (σ:St),Sim T c eb of' n0 nt σ a w→(∀ id,n0≤id→id < σ.nx→¬ eb.U id)→Sim T c eb of' n0 nt (St.permL n0 l k f σ) a w:=by
 have isn:∀ {nx id:Nat},G7 n0 nx id=true→n0≤id∧id < nx:=fun {nx id} hq=>by
  simp only [G7,D2I] at hq
  exact ⟨D2N hq.1,by simpa [Nat.blt_eq] using hq.2⟩
 intro l
 induction l with
 | nil=>intro k f σ h _;exact h
 | cons id r ih =>
  intro k f σ h hn
  unfold St.permL
  cases hc:G7 n0 σ.nx (f id)&&G7 n0 σ.nx k with
  | false=>exact h
  | true =>
   simp only [D2I] at hc
   have h1:=isn hc.1
   have h2:=isn hc.2
   exact ih (k+1) _ (σ.swap (f id) k) (h.swap hb h1 h2 (hn _ h1.1 h1.2) (hn _ h2.1 h2.2)) hn
def St.met (σ:St) (n0:Nat) (ks:List Nat):List Nat :=
 (A4B σ.ob n0 σ.nx 1000 (A22 (A6V σ.ob n0 σ.nx (A06 σ.sl ks))++(mkL σ.mks++A6X σ.ob n0 σ.nx (σ.ob.toL fun j=>j))) []).reverse
def St.norm (σ:St) (n0:Nat) (ks:List Nat):Option St :=
 match ks with
 | k::r=>bif Nat.beq k 999999 then (St.permL n0 (σ.met n0 r) n0 (fun n=>n) σ).norm0 n0 r else σ.norm0 n0 (k::r)
 | []=>σ.norm0 n0 []
theorem Sim.norm {n0 nt:Nat} {σ σn:St} {a:Act} {w:World} {ks:List Nat} (h:Sim T c eb of' n0 nt σ a w) (hb:A80 T eb of') (hnew:∀ id,n0≤id→id < σ.nx→¬ eb.U id) (hn:σ.norm n0 ks=some σn):Sim T c eb of' n0 nt σn a w∧n0≤σn.nx∧σn.rd=σ.rd:=by
 unfold St.norm at hn
 split at hn
 ·rename_i k r
  cases hk:Nat.beq k 999999 with
  | false=>rw [hk] at hn;exact h.norm0 hb hnew hn
  | true =>
   rw [hk] at hn
   obtain ⟨p1,p2⟩:=St.permL_rd (n0:=n0) (σ.met n0 r) n0 (fun n=>n) σ
   have:=(Sim.permL hb _ n0 (fun n=>n) σ h hnew).norm0 hb (fun id h1 h2=>hnew id h1 (by rw [p2] at h2;exact h2)) hn
   exact ⟨this.1,this.2.1,this.2.2.trans p1⟩
 ·exact h.norm0 hb hnew hn
theorem B90 {α:Type} {q:Bool} {a b:α} (h:(bif q then some a else none)=some b):q=true∧a=b:=by
 cases q with
 | false=>cases h
 | true=>exact ⟨rfl,by simpa using h⟩
theorem B3J {σ σn:St} {n0:Nat} {ks:List Nat} (h:σ.norm n0 ks=some σn):σn.rd=σ.rd:=by
 have z:∀ {σ σn:St} {ks:List Nat},σ.norm0 n0 ks=some σn→σn.rd=σ.rd:=fun {σ σn ks} h=>by
  unfold St.norm0 at h
  simp only at h
  rw [← (B90 h).2]
 unfold St.norm at h
 split at h
 ·rename_i k r
  cases hk:Nat.beq k 999999 with
  | false=>rw [hk] at h;exact z h
  | true=>rw [hk] at h;exact (z h).trans (St.permL_rd (n0:=n0) (σ.met n0 r) n0 (fun n=>n) σ).1
 ·exact z h
def V5 (n0:Nat) (ks:List Nat) (M6:Nat) (f:St→Option (Exit×St)):Nat→St→Option (Exit×St)
 | 0,_=>none
 | n+1,σ=>bif Nat.ble σ.nx M6 then (match σ.norm n0 ks with
  | some σn=>match f σn with
   | some (ex,σ1)=>match ex with
    | .normal=>V5 n0 ks M6 f n σ1
    | ex=>bif Nat.ble σ1.nx M6 then (match σ1.norm n0 ks with
     | some σ2=>bif Nat.ble σ2.nx M6 then some (ex,{ σ2 with nx:=M6 }) else none
     | none=>none) else none
   | none=>none
  | none=>none) else none
theorem Sim.up {n0 nt m:Nat} {σ:St} {a:Act} {w:World} (h:Sim T c eb of n0 nt σ a w) (hm:σ.nx≤m):Sim T c eb of n0 nt { σ with nx:=m } a w:=by
 obtain ⟨e,rfl,hst⟩:=h
 exact ⟨e,rfl,hst.os,hst.le,fun id A2=>(hst.U id A2).imp (fun q=>q) (fun q=>⟨q.1,Nat.lt_of_lt_of_le q.2 hm⟩),hst.sl,hst.def_,hst.nt⟩
theorem B2d {nt n0 M6:Nat} {ks:List Nat} {body:Code} {f:St→Option (Exit×St)} (hf:∀ σ ex σ',f σ=some (ex,σ')→A3I P T nt n0 of body σ ex σ'):∀ (n:Nat) (σ:St) (ex:Exit) (σ':St),V5 n0 ks M6 f n σ=some (ex,σ') →
  σ.le σ'∧σ'.nx=M6∧∀ (m:Nat) (of':Nat→Option Ob) (c:L0) (eb:A9) (a:Act) (w:World),A2Y of of' eb n0 σ'→A80 T eb of'→Sim T c eb of' n0 nt σ a w→Code.roundsIn (WF c.rd) m P body (fun e a' w'=>e=ex∧Sim T c eb of' n0 nt σ' a' w') n a w:=by
 intro n
 induction n with
 | zero=>intro σ ex σ' h;cases h
 | succ n ih =>
  intro σ ex σ' h
  simp only [V5] at h
  cases hle:Nat.ble σ.nx M6 with
  | false=>rw [hle] at h;cases h
  | true =>
  rw [hle] at h
  simp only [cond_true] at h
  have hle:=D2N hle
  split at h<;>try (cases h;done)
  rename_i σn hn
  split at h<;>try (cases h;done)
  rename_i ex1 σ1 hx
  obtain ⟨l1,k1⟩:=hf _ _ _ hx
  have hrd:σn.rd=σ.rd:=B3J hn
  have rdle:∀ id∈σ.rd,id∈σ1.rd:=fun id A2=>l1.1 id (by rw [hrd];exact A2)
  have round:∀ (m:Nat) (of':Nat→Option Ob) (c:L0) (eb:A9) (a:Act) (w:World),(∀ id∈σ1.rd,of' id=of id)→(∀ id,n0≤id→id < M6→¬ eb.U id)→σ1.nx≤M6→A80 T eb of'→Sim T c eb of' n0 nt σ a w→body.wpIn (WF c.rd) m P (fun e a' w'=>e=ex1∧Sim T c eb of' n0 nt σ1 a' w') a w:=fun m of' c eb a w h1 h2 h3 hbs hs=>by
   obtain ⟨s1,s2,s3⟩:=hs.norm hbs (fun id q1 q2=>h2 id q1 (Nat.lt_of_lt_of_le q2 hle)) hn
   exact k1 m of' c eb a w s2 ⟨h1,fun id q1 q2=>h2 id q1 (Nat.lt_of_lt_of_le q2 h3)⟩ hbs s1
  cases ex1 with
  | normal =>
   obtain ⟨l2,b2,k2⟩:=ih _ _ _ h
   have h3:σ1.nx≤M6:=by rw [← b2];exact l2.2
   refine ⟨⟨fun id A2=>l2.1 id (rdle id A2),by rw [b2];exact hle⟩,b2,fun m of' c eb a w hfit hbs hs=>?_⟩
   refine T0 ?_ (round m of' c eb a w (fun id A2=>hfit.rd id (l2.1 id A2)) (fun id q1 q2=>hfit.fr id q1 (by rw [b2];exact q2)) h3 hbs hs)
   rintro e' a' w' ⟨rfl,hs'⟩
   exact k2 m of' c eb a' w' hfit hbs hs'
  | _ =>
   simp only at h
   cases hb1:Nat.ble σ1.nx M6 with
   | false=>rw [hb1] at h;cases h
   | true =>
    rw [hb1] at h
    simp only [cond_true] at h
    have h3:=D2N hb1
    split at h<;>try (cases h;done)
    rename_i σ2 hn2
    cases hb2:Nat.ble σ2.nx M6 with
    | false=>rw [hb2] at h;cases h
    | true =>
    rw [hb2] at h
    simp only [cond_true,D2K,Prod.mk.injEq] at h
    obtain ⟨rfl,rfl⟩:=h
    have h4:=D2N hb2
    have hrd2:σ2.rd=σ1.rd:=B3J hn2
    refine ⟨⟨fun id A2=>by show id∈σ2.rd;rw [hrd2];exact rdle id A2,hle⟩,rfl,fun m of' c eb a w hfit hbs hs=>?_⟩
    refine T0 ?_ (round m of' c eb a w (fun id A2=>hfit.rd id (by show id∈σ2.rd;rw [hrd2];exact A2)) hfit.fr h3 hbs hs)
    rintro e' a' w' ⟨rfl,hs'⟩
    exact ⟨rfl,(hs'.norm hbs (fun id q1 q2=>hfit.fr id q1 (Nat.lt_of_lt_of_le q2 h3)) hn2).1.up h4⟩
theorem A7G {nt n0 M6 fu:Nat} {ks:List Nat} {body:Code} {f:St→Option (Exit×St)} (hf:∀ σ ex σ',f σ=some (ex,σ')→A3I P T nt n0 of body σ ex σ') {σ σ':St} {ex:Exit} (h:V5 n0 ks M6 f fu σ=some (ex,σ')):A3I P T nt n0 of (.loop body) σ ex σ':=by
 obtain ⟨l1,_,k1⟩:=B2d hf fu σ ex σ' h
 exact ⟨l1,fun m of' c eb a w hn hfit hbs hs=>wpIn_loop_rounds fu (k1 m of' c eb a w hfit hbs hs)⟩
variable {T:TT}
def ob {α R:Type} (o:Option α) (k:α→Option R):Option R :=
 match o with
 | some a=>k a
 | none=>none
abbrev E5:=(R:Type)→List A→(Nat→Option Ob)→Nat→(W8→Option R)→Option R
def E5.dir (s:E5):Sym:=fun args of nx=>s W8 args of nx some
def E5.nat (s:E5):Prop:=∀ (R:Type) (args:List A) (of:Nat→Option Ob) (nx:Nat) (k:W8→Option R),s R args of nx k=ob (s.dir args of nx) k
def B0J (s:Sym):E5:=fun _ args of nx k=>ob (s args of nx) k
theorem B5S (s:Sym):(B0J s).nat:=by
 intro R args of nx k
 simp only [B0J,E5.dir]
 cases s args of nx<;>rfl
theorem B5T (s:Sym):(B0J s).dir=s:=by
 funext args of nx
 simp only [B0J,E5.dir]
 cases s args of nx<;>rfl
variable {R:Type}
def B2e (T:TT) (of:Nat→Option Ob) (el:Nat) (u:A) (k:List V×List Nat→Option R):Option R :=
 match u with
 | .w id ver off n=>match of id with
  | some (.row el' v xs _ _)=>bif Nat.beq el el'&&Nat.beq v ver then (bif Nat.ble (off+n) xs.length then k ((xs.drop off).take n,[id]) else none) else none
  | _=>none
 | u=>ob (X9 T of el u) k
theorem A5j (of:Nat→Option Ob) (el:Nat) (u:A) (k:List V×List Nat→Option R):B2e T of el u k=ob (X9 T of el u) k:=by
 unfold B2e
 split
 ·rename_i id ver off n
  simp only [X9]
  cases of id with
  | none=>rfl
  | some o =>
   cases o with
   | row el' v xs nl sh=>simp only;cases (Nat.beq el el'&&Nat.beq v ver)<;>cases Nat.ble (off+n) xs.length<;>rfl
   | _=>rfl
 ·rfl
def A3h (T:TT) (of:Nat→Option Ob) (t:Nat) (i:Int) (u:A) (k:A×List Nat→Option R):Option R :=
 match D4 T t with
 | some (.arr n el)=>bif (T el).isSome then bif C0 0 i&&B5 i n then
   (match u with
   | .p id t' path=>bif M3 T t t' then k (.p id el (path++[i.toNat]),[]) else none
   | .e id ver j t' path=>bif M3 T t t'&&B1c of id ver then k (.e id ver j el (path++[i.toNat]),[id]) else none
   | .c t' y=>bif M3 T t t' then k (.c el (y.nth i.toNat),[]) else none
   | _=>none)
  else none else none
 | some (.slice el)=>bif (T el).isSome then
   (match u with
   | .o id ver=>match of id with
    | some (.row el' v xs _ _)=>bif Nat.beq el el'&&Nat.beq v ver then (bif C0 0 i&&B5 i xs.length then k (.e id ver i.toNat el [],[id]) else none) else none
    | _=>none
   | .w id ver off n=>match of id with
    | some (.row el' v xs _ _)=>bif Nat.beq el el'&&Nat.beq v ver then (bif C0 0 i&&B5 i n then k (.e id ver (off+i.toNat) el [],[id]) else none) else none
    | _=>none
   | .v t' y=>bif M3 T t t' then (bif C0 0 i&&B5 i y.els.length then k (.c el (y.nth i.toNat),[]) else none) else none
   | .q t' y=>bif M3 T t t' then (bif C0 0 i&&B5 i y.els.length then k (.c el (y.nth i.toNat),[]) else none) else none
   | .a id t1 path l0 m=>match D4 T t1 with
    | some (.arr _ el')=>bif Nat.beq el el' then (bif C0 0 i&&B5 i m then k (.p id el (path++[l0+i.toNat]),[]) else none) else none
    | _=>none
   | _=>none)
  else none
 | _=>none
theorem A7H (of:Nat→Option Ob) (t:Nat) (i:Int) (u:A) (k:A×List Nat→Option R):A3h T of t i u k=ob (A0M T of t i u) k:=by
 unfold A3h A0M
 cases D4 T t with
 | none=>rfl
 | some kk =>
 cases kk with
 | arr n el =>
  simp only
  cases u with
  | p id t' path=>simp only;cases (T el).isSome<;>cases C0 0 i<;>cases B5 i (n:Int)<;>cases M3 T t t'<;>rfl
  | e id ver j t' path=>simp only;cases (T el).isSome<;>cases C0 0 i<;>cases B5 i (n:Int)<;>cases M3 T t t'<;>cases B1c of id ver<;>rfl
  | c t' y=>simp only;cases (T el).isSome<;>cases C0 0 i<;>cases B5 i (n:Int)<;>cases M3 T t t'<;>rfl
  | _=>simp only;cases (T el).isSome<;>cases C0 0 i<;>cases B5 i (n:Int)<;>rfl
 | slice el =>
  simp only
  cases (T el).isSome
  ·cases C0 0 i<;>rfl
  ·simp only [cond_true,Bool.and_true]
   cases u with
   | o id ver =>
    simp only
    cases of id with
    | none=>cases C0 0 i<;>rfl
    | some o =>
     cases o with
     | row el' v xs nl sh=>simp only;cases C0 0 i<;>cases (Nat.beq el el'&&Nat.beq v ver)<;>cases B5 i xs.length<;>rfl
     | _=>cases C0 0 i<;>rfl
   | w id ver off n =>
    simp only
    cases of id with
    | none=>cases C0 0 i<;>rfl
    | some o =>
     cases o with
     | row el' v xs nl sh=>simp only;cases C0 0 i<;>cases (Nat.beq el el'&&Nat.beq v ver)<;>cases B5 i n<;>rfl
     | _=>cases C0 0 i<;>rfl
   | v t' y=>simp only;cases C0 0 i<;>cases M3 T t t'<;>cases B5 i y.els.length<;>rfl
   | q t' y=>simp only;cases C0 0 i<;>cases M3 T t t'<;>cases B5 i y.els.length<;>rfl
   | a id t1 path l0 m =>
    simp only
    cases D4 T t1 with
    | none=>cases C0 0 i<;>rfl
    | some k1 =>
     cases k1 with
     | arr n' el'=>simp only;cases C0 0 i<;>cases Nat.beq el el'<;>cases B5 i m<;>rfl
     | _=>cases C0 0 i<;>rfl
   | _=>cases C0 0 i<;>rfl
 | _=>rfl
def B2f (T:TT) (t:Nat) (i:Int) (u:A) (k:A→Option R):Option R :=
 match u with
 | .s l=>match D4 T t with
  | some .str=>bif C0 0 i&&B5 i l.length then k (.i .u8 (l.getD i.toNat .n).int) else none
  | _=>none
 | .v t' y=>match D4 T t with
  | some (.arr n el)=>bif M3 T t t'&&(T el).isSome then (bif C0 0 i&&B5 i n then k (mkA T el (y.nth i.toNat)) else none) else none
  | _=>none
 | _=>none
theorem B5U (t:Nat) (i:Int) (u:A) (k:A→Option R):B2f T t i u k=ob (A5W T t i u) k:=by
 unfold B2f A5W
 cases u with
 | s l =>
  simp only
  cases D4 T t with
  | none=>rfl
  | some k1=>cases k1 with
   | str=>simp only;cases (C0 0 i&&B5 i l.length)<;>rfl
   | _=>rfl
 | v t' y =>
  simp only
  cases D4 T t with
  | none=>rfl
  | some k1=>cases k1 with
   | arr n el=>simp only;cases M3 T t t'<;>cases (T el).isSome<;>cases C0 0 i<;>cases B5 i n<;>rfl
   | _=>rfl
 | _=>rfl
def C8N (op:BinOp) (kd:IntKind) (a b:Int) (k:A→Option R):Option R :=
 match op with
 | .quo=>bif L5 b 0 then none else k (.i kd (kd.wrap (a.tdiv b)))
 | .rem=>bif L5 b 0 then none else k (.i kd (a.tmod b))
 | .shl=>bif C0 0 b then k (.i kd (kd.wrap (a * 2 ^ min b.toNat kd.bits))) else none
 | .shr=>bif C0 0 b then k (.i kd (a.fdiv (2 ^ min b.toNat kd.bits))) else none
 | op=>ob (A8v op kd a b) k
theorem C4p (op:BinOp) (kd:IntKind) (a b:Int) (k:A→Option R):C8N op kd a b k=ob (A8v op kd a b) k:=by
 cases op<;>simp only [C8N,A8v]
 ·cases L5 b 0<;>rfl
 ·cases L5 b 0<;>rfl
 ·cases C0 0 b<;>rfl
 ·cases C0 0 b<;>rfl
def C8O (op:BinOp) (x y:List V) (k:A→Option R):Option R :=
 match op with
 | .add=>bif Nat.ble (x.length+y.length) LIM then k (.s (x++y)) else none
 | op=>ob (B1a op x y) k
theorem C4q (op:BinOp) (x y:List V) (k:A→Option R):C8O op x y k=ob (B1a op x y) k:=by
 cases op<;>simp only [C8O,B1a]
 cases Nat.ble (x.length+y.length) LIM<;>rfl
def C8P (T:TT) (of:Nat→Option Ob) (op:BinOp) (xt:Nat) (u v:A) (k:A×List Nat→Option R):Option R :=
 match u,v with
 | .i kd a,.i k' b=>bif A43 op||A7F kd k' then C8N op kd a b fun r=>k (r,[]) else none
 | .s a,.s b=>C8O op a b fun r=>k (r,[])
 | u,v=>ob (B1b T of op xt u v) k
theorem C4r (of:Nat→Option Ob) (op:BinOp) (xt:Nat) (u v:A) (k:A×List Nat→Option R):C8P T of op xt u v k=ob (B1b T of op xt u v) k:=by
 unfold C8P
 split
 ·rename_i kd a k' b
  simp only [B1b]
  cases (A43 op||A7F kd k')
  ·rfl
  ·simp only [cond_true,if_true,C4p]
   cases A8v op kd a b<;>rfl
 ·rename_i a b
  simp only [B1b,C4q]
  cases B1a op a b<;>rfl
 ·rfl
def unC (op:UnOp) (u:A) (k:A→Option R):Option R :=
 match op,u with
 | .xor,.i kd n=>k (.i kd (J8 .xor kd (if kd.signed then -1 else kd.max) n))
 | op,u=>ob (unA op u) k
theorem B0K (op:BinOp) (kd:IntKind) (x y:Int):B1g kd (J8 op kd x y)=true:=by
 have:=Q2 kd (match op with
  | .and=>(BitVec.ofInt kd.bits x &&& BitVec.ofInt kd.bits y).toNat
  | .or=>(BitVec.ofInt kd.bits x ||| BitVec.ofInt kd.bits y).toNat
  | .xor=>(BitVec.ofInt kd.bits x ^^^ BitVec.ofInt kd.bits y).toNat
  | _=>(BitVec.ofInt kd.bits x &&& ~~~BitVec.ofInt kd.bits y).toNat:Nat)
 unfold B1g
 rw [D2I,J9,J9]
 exact this
theorem C8Q (op:UnOp) (u:A) (k:A→Option R):unC op u k=ob (unA op u) k:=by
 unfold unC
 split
 ·rename_i kd n
  simp only [unA,chk,B0K,if_true]
  rfl
 ·rfl
def C4s (T:TT) (of:Nat→Option Ob) (t:Nat) (u:A) (k:A×List Nat→Option R):Option R :=
 match D4 T t with
 | some .str=>match u with
  | .s l=>bif Nat.ble l.length 9223372036854775807 then k (.i .i64 (l.length:Nat),[]) else none
  | _=>none
 | some (.slice el)=>match u with
  | .s _=>none
  | u=>B2e T of el u fun p=>bif Nat.ble p.1.length 9223372036854775807 then k (.i .i64 (p.1.length:Nat),p.2) else none
 | some (.map _ _)=>match u with
  | .m id=>match of id with
   | some (.map _ _ es)=>bif Nat.ble es.length 9223372036854775807 then k (.i .i64 (es.length:Nat),[id]) else none
   | some (.vm _ _ es)=>bif Nat.ble es.length 9223372036854775807 then k (.i .i64 (es.length:Nat),[id]) else none
   | _=>none
  | _=>none
 | _=>none
theorem C4t (of:Nat→Option Ob) (t:Nat) (u:A) (k:A×List Nat→Option R):C4s T of t u k=ob (B9A T of t u) k:=by
 unfold B9A
 cases hq:A6M of u with
 | some q =>
  obtain ⟨id,kt',et',es⟩:=q
  obtain ⟨rfl,hof⟩:=Z9 hq
  unfold C4s
  simp only
  cases hk:D4 T t with
  | none=>rfl
  | some kk=>cases kk with
   | map kt et=>simp only [hof];cases Nat.ble es.length 9223372036854775807<;>rfl
   | slice el=>simp only [B2e,X9];rfl
   | _=>rfl
 | none =>
 simp only
 unfold C4s B4u
 cases D4 T t with
 | none=>rfl
 | some kk =>
  cases kk with
  | str=>cases u with
   | s l=>simp only;cases Nat.ble l.length 9223372036854775807<;>rfl
   | _=>rfl
  | slice el =>
   have gen:∀ o:Option (List V×List Nat),ob o (fun p=>bif Nat.ble p.1.length 9223372036854775807 then k (A.i .i64 (p.1.length:Nat),p.2) else none)=ob (match o with | some (xs,ro)=>(if Nat.ble xs.length 9223372036854775807=true then some (A.i .i64 (xs.length:Nat),ro) else none) | none=>none) k:=by
    intro o
    cases o with
    | none=>rfl
    | some p=>simp only [ob];cases Nat.ble p.1.length 9223372036854775807<;>rfl
   cases u with
   | s l=>simp only;cases X9 T of el (.s l)<;>rfl
   | _=>simp only [A5j];exact gen _
  | map kt et=>cases u with
   | m id =>
    simp only
    cases A2:of id with
    | none=>rfl
    | some o=>cases o with
     | map kt' et' es=>simp only;cases Nat.ble es.length 9223372036854775807<;>rfl
     | vm kt' et' es=>exfalso;unfold A6M at hq;simp only [A2] at hq;cases hq
     | _=>rfl
   | _=>rfl
  | _=>rfl
def A9i (T:TT) (of:Nat→Option Ob) (nx t:Nat) (x y:A) (k:Out→Option R):Option R :=
 match D4 T t with
 | some (.slice el)=>match T el with
  | some te=>B2e T of el y fun p=>bif Nat.ble te.bytes 131072&&TK.notOther te.k&&Nat.blt 0 te.size then
    (match x with
    | .o id ver=>match of id with
     | some (.row el' v xs nl sh)=>bif Nat.beq el el'&&Nat.beq v ver then (bif Nat.ble (xs.length+p.1.length) LIM then
       k ⟨.o id (ver+1),[(id,.row el (ver+1) (xs++p.1) (nl&&p.1.isEmpty) sh)],id::p.2,[]⟩ else none) else none
     | _=>none
    | .w id ver off n=>match of id with
     | some (.row el' v xs false sh)=>bif Nat.beq el el'&&Nat.beq v ver then (bif Nat.ble (off+n) xs.length then (bif Nat.beq (off+n) xs.length||!sh then (bif Nat.ble (n+p.1.length) LIM then
       k ⟨.o id (ver+1),[(id,.row el (ver+1) ((xs.drop off).take n++p.1) false sh)],id::p.2,[]⟩ else none) else none) else none) else none
     | _=>none
    | .v t' .n=>bif M3 T t t' then (bif Nat.ble p.1.length LIM then k ⟨.o nx 1,[(nx,.row el 1 p.1 p.1.isEmpty false)],p.2,[nx]⟩ else none) else none
    | .z v=>bif A59 v then (bif Nat.ble p.1.length LIM then k ⟨.o nx 1,[(nx,.row el 1 p.1 p.1.isEmpty false)],p.2,[nx]⟩ else none) else none
    | .q t' x=>bif M3 T t t' then (bif !p.1.isEmpty then (bif Nat.ble (x.els.length+p.1.length) LIM then k ⟨.o nx 1,[(nx,.row el 1 (x.els++p.1) p.1.isEmpty false)],p.2,[nx]⟩ else none) else none) else none
    | _=>none)
   else none
  | none=>none
 | _=>none
theorem B2g (of:Nat→Option Ob) (nx t:Nat) (x y:A) (k:Out→Option R):A9i T of nx t x y k=ob (A3w T of nx t x y) k:=by
 unfold A9i A3w
 cases D4 T t with
 | none=>rfl
 | some kk =>
 cases kk with
 | slice el =>
  simp only
  cases T el with
  | none=>rfl
  | some te =>
   simp only [A5j]
   cases X9 T of el y with
   | none=>rfl
   | some p =>
    obtain ⟨ns,ro⟩:=p
    simp only [ob]
    cases (Nat.ble te.bytes 131072&&TK.notOther te.k&&Nat.blt 0 te.size)
    ·rfl
    ·simp only [cond_true,if_true]
     cases x with
     | o id ver =>
      simp only
      cases of id with
      | none=>rfl
      | some o=>cases o with
       | row el' v xs nl sh=>simp only;cases (Nat.beq el el'&&Nat.beq v ver)<;>cases Nat.ble (xs.length+ns.length) LIM<;>rfl
       | _=>rfl
     | w id ver off n =>
      simp only
      cases of id with
      | none=>rfl
      | some o=>cases o with
       | row el' v xs nl sh=>cases nl<;>simp only<;>cases (Nat.beq el el'&&Nat.beq v ver)<;>cases Nat.ble (off+n) xs.length<;>cases (Nat.beq (off+n) xs.length||!sh)<;>cases Nat.ble (n+ns.length) LIM<;>rfl
       | _=>rfl
     | v t' y=>cases y with
      | n=>simp only;cases M3 T t t'<;>cases Nat.ble ns.length LIM<;>rfl
      | _=>rfl
     | z v=>simp only;cases A59 v<;>cases Nat.ble ns.length LIM<;>rfl
     | q t' x'=>simp only;cases M3 T t t'<;>cases ns.isEmpty<;>cases Nat.ble (x'.els.length+ns.length) LIM<;>rfl
     | _=>rfl
 | _=>rfl
variable {T:TT} {R:Type}
def A0C (n:Nat) (lo hi:Option A) (k:Nat×Nat→Option R):Option R :=
 match M6 (0:Nat) lo,M6 n hi with
 | some l,some h=>bif C0 0 l&&C0 l h&&C0 h n then k (l.toNat,(h - l).toNat) else none
 | _,_=>none
theorem A0b (n:Nat) (lo hi:Option A) (k:Nat×Nat→Option R):A0C n lo hi k=ob (T9 n lo hi) k:=by
 unfold A0C T9
 cases M6 (0:Nat) lo with
 | none=>rfl
 | some l=>cases M6 n hi with
  | none=>rfl
  | some h=>simp only;cases (C0 0 l&&C0 l h&&C0 h n)<;>rfl
def B2h (T:TT) (of:Nat→Option Ob) (t:Nat) (u:A) (lo hi mx:Option A) (k:A×List (Nat×Ob)×List Nat→Option R):Option R :=
 match mx with
 | some mx=>(match D4 T t with
  | some (.slice el)=>bif (T el).isSome&&isQ T u then
    (match M6 (0:Nat) lo,hi,mx with
    | some l,some (.i _ h),.i _ h'=>bif L5 h h' then (match P6 T DEP of t u with
     | some (x,wo)=>bif C0 0 l&&C0 l h&&C0 h x.els.length then k (.q t (A00 x l.toNat (h - l).toNat),wo,W2 wo) else none
     | none=>none) else none
    | _,_,_=>none) else none
  | _=>none)
 | none =>
 match D4 T t with
 | some .str=>match u with
  | .s l=>A0C l.length lo hi fun p=>k (.s ((l.drop p.1).take p.2),[],[])
  | _=>none
 | some (.slice el)=>bif (T el).isSome&&isQ T u then
   (match zV T t u with
    | .v t' y=>bif M3 T t t' then A0C y.els.length lo hi fun p=>k (.v t' (A00 y p.1 p.2),[],[]) else none
    | .w id ver off n=>match of id with
     | some (.row el' v xs _ _)=>bif Nat.beq el el'&&Nat.beq v ver then A0C n lo hi fun p=>k (.w id ver (off+p.1) p.2,[],[id]) else none
     | _=>none
    | .o id ver=>match of id with
     | some (.row el' v xs false _)=>bif Nat.beq el el'&&Nat.beq v ver then A0C xs.length lo hi fun p=>k (.w id ver (0+p.1) p.2,[],[id]) else none
     | some (.row el' v xs true _)=>bif Nat.beq el el'&&Nat.beq v ver&&V9 T t then A0C 0 lo hi fun p=>k (.v t (A00 .n p.1 p.2),[],[id]) else none
     | _=>none
    | .a id t1 path lo0 m=>match D4 T t1 with
     | some (.arr _ el')=>bif Nat.beq el el' then A0C m lo hi fun p=>k (.a id t1 path (lo0+p.1) p.2,[],[]) else none
     | _=>none
    | _=>none)
  else none
 | some (.arr n el)=>match u with
  | .p id t1 path=>bif M3 T t t1&&(T el).isSome then A0C n lo hi fun p=>k (.a id t1 path p.1 p.2,[],[]) else none
  | _=>none
 | _=>none
theorem P5 {α:Type} (q:Bool) (a:Option α) (k:α→Option R):ob (if q=true then a else none) k=bif q then ob a k else none:=by cases q<;>rfl
theorem B5V (of:Nat→Option Ob) (t:Nat) (u:A) (lo hi mx:Option A) (k:A×List (Nat×Ob)×List Nat→Option R):B2h T of t u lo hi mx k=ob (A4d T of t u lo hi mx) k:=by
 unfold B2h
 cases mx with
 | some m =>
  unfold A4d
  simp only
  cases D4 T t with
  | none=>rfl
  | some kk =>
  cases kk with
  | str=>cases u<;>rfl
  | slice el =>
   simp only [P5]
   cases ((T el).isSome&&isQ T u)
   ·rfl
   ·simp only [cond_true]
    cases M6 (0:Nat) lo with
    | none=>rfl
    | some l=>cases hi with
     | none=>rfl
     | some a=>cases a with
      | i k1 h=>cases m with
       | i k2 h' =>
        simp only [P5]
        cases L5 h h'
        ·rfl
        ·simp only [cond_true]
         cases P6 T DEP of t u with
         | none=>rfl
         | some p=>obtain ⟨x,wo⟩:=p;simp only [P5];cases (C0 0 l&&C0 l h&&C0 h x.els.length)<;>rfl
       | _=>rfl
      | _=>rfl
  | arr n el=>cases u<;>rfl
  | _=>rfl
 | none =>
 unfold A4d
 simp only
 cases D4 T t with
 | none=>rfl
 | some kk =>
 cases kk with
 | str=>cases u with
  | s l=>simp only [A0b];cases T9 l.length lo hi<;>rfl
  | _=>rfl
 | slice el =>
  simp only [P5]
  cases ((T el).isSome&&isQ T u)
  ·rfl
  ·simp only [cond_true]
   cases zV T t u with
   | v t' y=>simp only [P5,A0b];cases T9 y.els.length lo hi<;>rfl
   | w id ver off n =>
    simp only
    cases of id with
    | none=>rfl
    | some o=>cases o with
     | row el' v xs nl sh=>simp only [P5,A0b];cases T9 n lo hi<;>rfl
     | _=>rfl
   | o id ver =>
    simp only
    cases of id with
    | none=>rfl
    | some o=>cases o with
     | row el' v xs nl sh=>cases nl<;>simp only [P5,A0b]
                           ·cases T9 xs.length lo hi<;>rfl
                           ·cases T9 0 lo hi<;>rfl
     | _=>rfl
   | a id t1 path lo0 m =>
    simp only
    cases D4 T t1 with
    | none=>rfl
    | some k1=>cases k1 with
     | arr n' el'=>simp only [P5,A0b];cases T9 m lo hi<;>rfl
     | _=>rfl
   | _=>rfl
 | arr n el=>cases u with
  | p id t1 path=>simp only [P5,A0b];cases T9 n lo hi<;>rfl
  | _=>rfl
 | _=>rfl
def A3i (T:TT) (nx t:Nat) (u v:A) (k:W8→Option R):Option R :=
 match D4 T t,u,v with
 | some (.slice el),.i _ a,.i _ b=>match T el with
  | some te=>bif Nat.blt 0 te.size&&TK.notOther te.k&&Nat.ble te.bytes 131072 then (bif C0 0 a&&C0 a b&&C0 b LIM then k ⟨.o nx 1,[(nx,.row el 1 (List.replicate a.toNat te.zero) false false)],[],nx+1⟩ else none) else none
  | none=>none
 | _,_,_=>none
theorem A7I (nx t:Nat) (u v:A) (k:W8→Option R):A3i T nx t u v k=ob (A1R T nx t u v) k:=by
 unfold A3i A1R
 cases D4 T t with
 | none=>rfl
 | some kk=>cases kk with
  | slice el=>cases u with
   | i k1 a=>cases v with
    | i k2 b =>
     simp only
     cases T el with
     | none=>rfl
     | some te =>
      simp only
      cases Nat.blt 0 te.size<;>cases TK.notOther te.k<;>cases Nat.ble te.bytes 131072<;>cases C0 0 a<;>cases C0 a b<;>cases C0 b LIM<;>rfl
    | _=>rfl
   | _=>rfl
  | _=>rfl
def C8R (T:TT) (of:Nat→Option Ob) (t:Nat) (u:A) (k:A×List (Nat×Ob)×List Nat→Option R):Option R :=
 match u with
 | .v t' y=>match D4 T t with
  | some (.arr n el)=>bif Nat.blt 0 n&&Nat.beq (B9 T t) (n * B9 T el) then
   (match D4 T t' with
    | some (.slice el')=>bif Nat.beq el el' then (bif Nat.ble n y.els.length then k (.c t (.l (y.els.take n)),[],[]) else none) else none
    | _=>none) else none
  | _=>none
 | .o id ver=>match D4 T t with
  | some (.arr n el)=>bif Nat.blt 0 n&&Nat.beq (B9 T t) (n * B9 T el) then
   (match of id with
    | some (.row el' v xs false _)=>bif Nat.beq el el'&&Nat.beq v ver then (bif Nat.ble n xs.length then k (.c t (.l (xs.take n)),[(id,.row el' ver xs false true)],[id]) else none) else none
    | _=>none) else none
  | _=>none
 | u=>ob (B1h T of t u) k
theorem C4u (of:Nat→Option Ob) (t:Nat) (u:A) (k:A×List (Nat×Ob)×List Nat→Option R):C8R T of t u k=ob (B1h T of t u) k:=by
 unfold C8R
 cases u with
 | v t' y =>
  simp only [B1h]
  cases D4 T t with
  | none=>rfl
  | some kk=>cases kk with
   | arr n el =>
    simp only [P5]
    cases D4 T t' with
    | none=>rfl
    | some k1=>cases k1 with
     | slice el'=>simp only [P5];cases (Nat.blt 0 n&&Nat.beq (B9 T t) (n * B9 T el))<;>cases Nat.beq el el'<;>cases Nat.ble n y.els.length<;>rfl
     | _=>rfl
   | _=>rfl
 | o id ver =>
  simp only [B1h]
  cases D4 T t with
  | none=>rfl
  | some kk=>cases kk with
   | arr n el =>
    simp only [P5]
    cases of id with
    | none=>rfl
    | some o=>cases o with
     | row el' v xs nl sh=>cases nl
                           ·simp only [P5];cases (Nat.blt 0 n&&Nat.beq (B9 T t) (n * B9 T el))<;>cases (Nat.beq el el'&&Nat.beq v ver)<;>cases Nat.ble n xs.length<;>rfl
                           ·rfl
     | _=>rfl
   | _=>rfl
 | _=>rfl
def oc {α β:Type} (o:Option α) (s:α→β) (n:β):β :=
 match o with
 | some a=>s a
 | none=>n
def B3K (T:TT) (of:Nat→Option Ob) (t:Nat) (m k:A) (okk:Bool) (kk:A×List Nat→Option R):Option R :=
 match D4 T t with
 | some (.map kt et)=>match T et,A1f T kt k with
  | some te,some kv=>bif TK.notOther te.k then
    (bif A1Y T t m then kk (okA okk (mkA T et te.zero) false,[]) else
    match m with
    | .m id=>match of id with
     | some (.map kt' et' es)=>bif Nat.beq kt kt'&&Nat.beq et et' then oc (A3M kv es) (fun a=>kk (okA okk (norm T a) true,[id])) (kk (okA okk (mkA T et te.zero) false,[id])) else none
     | some (.vm kt' et' es)=>bif Nat.beq kt kt'&&Nat.beq et et' then (bif B15 kv es then kk (okA okk (mkA T et (B9t kv es)) true,[id]) else kk (okA okk (mkA T et te.zero) false,[id])) else none
     | _=>none
    | _=>none)
   else none
  | _,_=>none
 | _=>none
theorem B91 (of:Nat→Option Ob) (t:Nat) (m k:A) (okk:Bool) (kk:A×List Nat→Option R):B3K T of t m k okk kk=ob (A8h T of t m k okk) kk:=by
 unfold A8h
 cases hq:A6M of m with
 | some q =>
  obtain ⟨id,kt',et',es⟩:=q
  obtain ⟨rfl,hof⟩:=Z9 hq
  unfold B3K B9v
  simp only
  cases D4 T t with
  | none=>rfl
  | some k1=>cases k1 with
   | map kt et =>
    simp only
    cases T et with
    | none=>rfl
    | some te=>cases A1f T kt k with
     | none=>rfl
     | some kv =>
      simp only [P5,show A1Y T t (.m id)=false from rfl,cond_false,hof]
      cases TK.notOther te.k
      ·rfl
      ·simp only [cond_true]
       cases (Nat.beq kt kt'&&Nat.beq et et')
       ·rfl
       ·simp only [cond_true]
        cases B15 kv es<;>rfl
   | _=>rfl
 | none =>
 simp only
 unfold B3K A8d
 cases D4 T t with
 | none=>rfl
 | some k1=>cases k1 with
  | map kt et =>
   simp only
   cases T et with
   | none=>rfl
   | some te=>cases A1f T kt k with
    | none=>rfl
    | some kv =>
     simp only [P5]
     cases TK.notOther te.k
     ·rfl
     ·simp only [cond_true]
      cases A1Y T t m
      ·simp only [cond_false]
       cases m with
       | m id =>
        simp only
        cases A2:of id with
        | none=>rfl
        | some o=>cases o with
         | map kt' et' es =>
          simp only [P5]
          cases (Nat.beq kt kt'&&Nat.beq et et')
          ·rfl
          ·simp only [cond_true]
           cases A3M kv es<;>rfl
         | vm kt' et' es=>exfalso;unfold A6M at hq;simp only [A2] at hq;cases hq
         | _=>rfl
       | _=>rfl
      ·rfl
  | _=>rfl
def B92 (T:TT) (of:Nat→Option Ob) (nx s t:Nat) (u:A) (k:Out→Option R):Option R :=
 match u with
 | .w id ver off n=>match D4 T t with
  | some .str=>match D4 T s with
   | some (.slice el)=>match D4 T el with
    | some (.int .u8)=>bif Nat.beq (B9 T el) 1 then B2e T of el (.w id ver off n) fun p=>k ⟨.s p.1,[],p.2,[]⟩ else none
    | _=>none
   | _=>none
  | _=>ob (A5X T of nx s t (.w id ver off n)) k
 | u=>ob (A5X T of nx s t u) k
theorem B93 (of:Nat→Option Ob) (nx s t:Nat) (u:A) (k:Out→Option R):B92 T of nx s t u k=ob (A5X T of nx s t u) k:=by
 unfold B92
 cases u with
 | w id ver off n =>
  simp only
  cases hk:D4 T t with
  | none=>rfl
  | some kk=>cases kk with
   | str =>
    simp only [A5X,hk,A8y]
    cases D4 T s with
    | none=>rfl
    | some k1=>cases k1 with
     | slice el =>
      simp only
      cases D4 T el with
      | none=>rfl
      | some k2=>cases k2 with
       | int ki=>cases ki<;>try rfl
                 simp only [A5j]
                 cases Nat.beq (B9 T el) 1
                 ·rfl
                 ·simp only [cond_true,if_true];cases X9 T of el (.w id ver off n)<;>rfl
       | _=>rfl
     | _=>rfl
   | _=>rfl
 | _=>rfl
def B94 (T:TT) (of:Nat→Option Ob) (t xt:Nat) (u v:A) (k:A×List (Nat×Ob)×List Nat→Option R):Option R :=
 match D4 T t with
 | some (.slice el)=>bif A3x T xt v&&(T el).isSome then
   B2e T of el v fun p=>bif Nat.ble p.1.length LIM then
    (match u with
    | .a id t1 path lo m=>match D4 T t1,of id with
     | some (.arr N el'),some (.box t0 a false)=>match atA T a path with
      | some (.v t2 y)=>bif Nat.beq el el'&&Nat.beq t1 t2 then
        (bif p.1.isEmpty then (match X9 T of el (.a id t1 path lo m) with
         | some q=>k (.i .i64 0,[],p.2++q.2)
         | none=>none) else
         bif Nat.ble p.1.length m&&Nat.ble (lo+m) N then (match A21 T a path (.v t1 (.l (Z7 y.els lo p.1))) with
          | some a'=>k (.i .i64 (p.1.length:Nat),[(id,.box t0 a' false)],id::p.2)
          | none=>none) else none) else ob (A0u T of t xt u v) k
      | _=>ob (A0u T of t xt u v) k
     | _,_=>ob (A0u T of t xt u v) k
    | u=>ob (A0u T of t xt u v) k)
    else none
  else none
 | _=>none
theorem B95 (of:Nat→Option Ob) (t xt:Nat) (u v:A) (k:A×List (Nat×Ob)×List Nat→Option R):B94 T of t xt u v k=ob (A0u T of t xt u v) k:=by
 unfold B94
 cases hk:D4 T t with
 | none=>simp only [A0u,hk];rfl
 | some kk=>cases kk with
  | slice el =>
   simp only [A5j]
   cases hq:(A3x T xt v&&(T el).isSome) with
   | false=>simp only [A0u,hk,hq];rfl
   | true =>
    simp only [cond_true]
    cases hs:X9 T of el v with
    | none=>simp only [A0u,hk,hq,hs];rfl
    | some p =>
     obtain ⟨ns,ro⟩:=p
     simp only [ob]
     cases hl:Nat.ble ns.length LIM with
     | false=>simp only [A0u,hk,hq,hs,hl];rfl
     | true =>
      simp only [cond_true]
      cases u with
      | a id t1 path lo m =>
       simp only
       cases hk1:D4 T t1 with
       | none=>rfl
       | some k1=>cases k1 with
        | arr N el' =>
         cases ho:of id with
         | none=>rfl
         | some o=>cases o with
          | box t0 a sh=>cases sh
                         ·simp only
                          cases ha:atA T a path with
                          | none=>rfl
                          | some a1=>cases a1 with
                           | v t2 y =>
                            simp only
                            cases hb:(Nat.beq el el'&&Nat.beq t1 t2) with
                            | false=>rfl
                            | true =>
                             simp only [cond_true]
                             cases ns with
                             | nil =>
                              simp only [List.isEmpty_nil,cond_true,A0u,hk,hq,hs,hl,if_true]
                              cases X9 T of el (.a id t1 path lo m)<;>rfl
                             | cons n0 nr =>
                              simp only [List.isEmpty_cons,cond_false,A0u,hk,hq,hs,hl,hk1,ho,ha,hb,if_true,Bool.true_and]
                              cases Nat.ble (n0::nr).length m<;>cases Nat.ble (lo+m) N<;>try rfl
                              simp only [Bool.true_and,cond_true,if_true]
                              cases A21 T a path (.v t1 (.l (Z7 y.els lo (n0::nr))))<;>rfl
                           | _=>rfl
                         ·rfl
          | _=>rfl
        | _=>rfl
      | _=>rfl
  | _=>simp only [A0u,hk];rfl
end Go.Vm
end