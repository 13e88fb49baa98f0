/- What the operations of a program do, shown once for all programs; and numbers. -/
import Derived.Test.YteoeonfajlnggaaGreatVm6
set_option linter.constructorNameAsVariable false
set_option linter.unusedVariables false
set_option linter.unusedSimpArgs false
noncomputable section
namespace Go.Vm
open Go.RowKit
variable {P:Program} {T:TT} {c:P9} {e eb:B9} {of of':Nat→Option Ob}
theorem RV.change {e e':B9} (hf:∀ a ds,Fz e a ds→Fz e' a ds) {ts:List Nat} {xs:List V} {cs:List Value} (h:RV T e ts xs cs):RV T e' ts xs cs:=by
 induction h with
 | nil=>exact .nil
 | int h1 h2 hr _ ih=>exact .int h1 h2 hr ih
 | bool h1 h2 _ ih=>exact .bool h1 h2 ih
 | str h1 h2 _ ih=>exact .str h1 h2 ih
 | ptr h1 h2 _ ih=>exact .ptr h1 h2 ih
 | nils h1 h2 _ ih=>exact .nils h1 h2 ih
 | map h1 h2 _ ih=>exact .map h1 h2 ih
 | func h1 h2 _ ih=>exact .func h1 h2 ih
 | fn h1 h2 _ ih=>exact .fn h1 h2 ih
 | slice h1 h2 h3 h4 h5 _ _ ih1 ih=>exact .slice h1 h2 h3 h4 (hf _ _ h5) ih1 ih
 | arr h1 h2 _ _ ih1 ih=>exact .arr h1 h2 ih1 ih
 | struct h1 h2 _ _ ih1 ih=>exact .struct h1 h2 ih1 ih
theorem SR.move {e e':B9} (hf:∀ a ds,Fz e a ds→Fz e' a ds) (hw:e'.w=e.w) (hS:∀ b i,e'.S b i→e.S b i) {a kt st el:Nat} (hG:∀ b,e.G a b→e'.G a b) {ho:Option V} {es:List (V×V×Bool)} {ms:List MapEntry} {bs:List Nat} (h:SR T e a kt st el ho es ms bs):SR T e' a kt st el ho es ms bs:=by
 induction h with
 | nil=>exact .nil
 | cons h0 hd _ ih =>
  refine .cons ?_ hd ih
  cases h0 with
  | lent h1 h2 h3=>exact .lent ⟨h1.1.change hf,h1.2⟩ h2 h3
  | data h1 h2=>exact .data ⟨h1.1.change hf,h1.2⟩ (h2.change hf)
  | own h1 h2 h0 h3 h5 h6 h7 h8 h9 h10 h11 h12=>exact .own ⟨h1.1.change hf,h1.2⟩ h2 h0 (hG _ h3) (by rw [hw];exact h5) (by rw [hw];exact h6) h7 h8 (h9.change hf) h10 h11 (fun i hi hs=>h12 i hi (hS _ _ hs))
theorem SR.change {e e':B9} (hf:∀ a ds,Fz e a ds→Fz e' a ds) (hw:e'.w=e.w) (hS:∀ b i,e'.S b i→e.S b i) (hG:∀ a b,e.G a b→e'.G a b) {a kt st el:Nat} {ho:Option V} {es:List (V×V×Bool)} {ms:List MapEntry} {bs:List Nat} (h:SR T e a kt st el ho es ms bs):SR T e' a kt st el ho es ms bs:=h.move hf hw hS (hG a)
mutual
def E8:A→List Nat
 | .p id _ _=>[id]
 | .e id _ _ _ _=>[id]
 | .o id _=>[id]
 | .w id _ _ _=>[id]
 | .a id _ _ _ _=>[id]
 | .m id=>[id]
 | .y id=>[id]
 | .f _ l=>F5 l
 | .g _ l=>F5 l
 | .t l=>F5 l
 | _=>[]
def F5:List A→List Nat
 | []=>[]
 | a::r=>E8 a++F5 r
end
def A2Y:List (V×A)→List Nat
 | []=>[]
 | p::r=>E8 p.2++A2Y r
def A3G:List (Nat×A)→List Nat
 | []=>[]
 | p::r=>E8 p.2++A3G r
theorem C2n:∀ (l:List (Nat×A)) p,p∈l→∀ id∈E8 p.2,id∈A3G l:=by
 intro l
 induction l with
 | nil=>intro p hp;cases hp
 | cons q r ih =>
  intro p hp id A2
  simp only [A3G,E0C]
  rcases List.mem_cons.1 hp with rfl | hp
  ·exact .inl A2
  ·exact .inr (ih p hp id A2)
def A1A:Ob→List Nat
 | .box _ a _=>E8 a
 | .row _ _ _ _ _=>[]
 | .map _ _ es=>A2Y es
 | .vm _ _ _=>[]
 | .sm _ _ _ _ _=>[]
 | .lp (some r)=>A3G r.sl
 | .lp none=>[]
 | .it (some m)=>[m]
 | .it none=>[]
theorem B23 {et:Nat}:∀ {es:List (V×V)},∀ p∈vms et es,E8 p.2=[]:=by
 intro es
 induction es with
 | nil=>intro p hp;cases hp
 | cons q r ih =>
  intro p hp
  rcases List.mem_cons.1 hp with rfl | hp
  ·rfl
  ·exact ih p hp
theorem R1.use {a:A} {v:Value} (h:R1 T e a v):∀ id∈E8 a,e.U id:=by
 cases a<;>simp only [E8,List.mem_singleton]<;>intro id A2
 case p=>subst A2;obtain ⟨b,off,h1,_⟩:=h;exact h1
 case e=>subst A2;exact h.2.1
 case o=>subst A2;exact h.2.1
 case w=>subst A2;exact h.2.1
 case a=>subst A2;obtain ⟨b,off,n,el,k,cap,h1,_⟩:=h;exact h1
 case m=>subst A2;obtain ⟨b,h1,_⟩:=h;exact h1
 case y=>subst A2;obtain ⟨b,h1,_⟩:=h;exact h1
 case f=>exact h.elim
 case g=>exact h.elim
 case t=>exact h.elim
 all_goals cases A2
theorem RA.use {l:List A} {cs:List Value} (h:RA T e l cs):∀ id∈F5 l,e.U id:=by
 induction h with
 | nil=>intro id h;cases h
 | f _ _ ih1 ih=>intro id h;simp only [F5,E8,E0C] at h;exact h.elim (ih1 id) (ih id)
 | g _ _ _ _ _ ih1 ih=>intro id h;simp only [F5,E8,E0C] at h;exact h.elim (ih1 id) (ih id)
 | r h1 _ _ ih=>intro id h;simp only [F5,E0C] at h;exact h.elim (h1.use id) (ih id)
 | _=>rename_i ih;intro id h;simp only [F5,E8,List.nil_append] at h;exact ih id h
def H1 (n0 nx id:Nat):Bool:=Nat.ble n0 id&&Nat.blt id nx
def A2Z (ob:Tr) (n0 nx id:Nat):Option Nat :=
 bif H1 n0 nx id then (match ob.get id with
  | some (.row _ v _ _ _)=>some v
  | _=>none) else none
def A5c (ob:Tr) (n0 nx id ver:Nat) (k:Nat→A):A :=
 match A2Z ob n0 nx id with
 | some v=>bif Nat.beq v ver then k 1 else .x
 | none=>k ver
mutual
def W7 (ob:Tr) (n0 nx:Nat):A→A
 | .e id ver i t path=>A5c ob n0 nx id ver fun v=>.e id v i t path
 | .o id ver=>A5c ob n0 nx id ver fun v=>.o id v
 | .w id ver off n=>A5c ob n0 nx id ver fun v=>.w id v off n
 | .f fn l=>.f fn (Y7 ob n0 nx l)
 | .g t l=>.g t (Y7 ob n0 nx l)
 | .t l=>.t (Y7 ob n0 nx l)
 | a=>a
def Y7 (ob:Tr) (n0 nx:Nat):List A→List A
 | []=>[]
 | a::r=>W7 ob n0 nx a::Y7 ob n0 nx r
end
def A7c (ob:Tr) (n0 nx:Nat):List (Nat×A)→List (Nat×A)
 | []=>[]
 | p::r=>(p.1,W7 ob n0 nx p.2)::A7c ob n0 nx r
def A4k (ob:Tr) (n0 nx id:Nat):Ob→Ob
 | .box t a sh=>.box t (W7 ob n0 nx a) sh
 | .row el ver xs nl sh=>.row el (bif H1 n0 nx id then 1 else ver) xs nl sh
 | .map kt et es=>.map kt et es
 | .vm kt et es=>.vm kt et es
 | .sm kt st el es ho=>.sm kt st el es ho
 | .lp (some r)=>.lp (some { r with sl:=A7c ob n0 nx r.sl })
 | .lp none=>.lp none
 | .it q=>.it q
theorem C2o (ob:Tr) (n0 nx:Nat):∀ (l:List (Nat×A)),∀ p∈A7c ob n0 nx l,∃ q∈l,p=(q.1,W7 ob n0 nx q.2):=by
 intro l
 induction l with
 | nil=>intro p hp;cases hp
 | cons q r ih =>
  intro p hp
  rcases List.mem_cons.1 hp with rfl | hp
  ·exact ⟨q,by simp,rfl⟩
  ·obtain ⟨q',h1,h2⟩:=ih p hp
   exact ⟨q',by simp [h1],h2⟩
def B9.anew (e:B9) (ob:Tr) (n0 nx:Nat) (keep:List Nat):B9 :=
 {e with U:=fun j=>e.U j∧(H1 n0 nx j=true→j∈keep),bn:=fun j=>match A2Z ob n0 nx j with
  | some _=>1
  | none=>e.bn j }
structure A20 (T:TT) (c:P9) (e eb:B9) (of':Nat→Option Ob) (ob:Tr) (n0 nx:Nat):Prop where
 os:A7 T c e (E0 ob of')
 new:∀ id,H1 n0 nx id=true→¬ eb.U id
theorem C2p {ob:Tr} {n0 nx id v:Nat} (h:A2Z ob n0 nx id=some v):H1 n0 nx id=true∧∃ el xs nl sh,ob.get id=some (.row el v xs nl sh):=by
 unfold A2Z at h
 cases hn:H1 n0 nx id with
 | false=>rw [hn] at h;cases h
 | true =>
  rw [hn] at h
  simp only [cond_true] at h
  split at h
  ·rename_i el v' xs nl sh hg
   injection h with h;subst h
   exact ⟨rfl,el,xs,nl,sh,hg⟩
  ·cases h
theorem A20.ver {ob:Tr} {n0 nx:Nat} (h:A20 T c e eb of' ob n0 nx) {id v:Nat} (hv:A2Z ob n0 nx id=some v):e.bn id=v∧0 < v:=by
 obtain ⟨_,el,xs,nl,sh,hg⟩:=C2p hv
 have:=h.os.ok id (.row el v xs nl sh) (by unfold E0;rw [hg])
 exact ⟨this.2.2.1,this.2.1⟩
theorem B03 {ob:Tr} {n0 nx:Nat} {keep:List Nat} {a:Addr} {ds:List Value} (h:Fz e a ds):Fz (e.anew ob n0 nx keep) a ds:=h
theorem S4 {ob:Tr} {n0 nx j:Nat} {keep:List Nat} (h:A2Z ob n0 nx j=none):(e.anew ob n0 nx keep).bn j=e.bn j:=by
 show (match A2Z ob n0 nx j with | some _=>1 | none=>e.bn j)=e.bn j
 rw [h]
theorem A6u {ob:Tr} {n0 nx j v:Nat} {keep:List Nat} (h:A2Z ob n0 nx j=some v):(e.anew ob n0 nx keep).bn j=1:=by
 show (match A2Z ob n0 nx j with | some _=>1 | none=>e.bn j)=1
 rw [h]
theorem A20.box0 {ob:Tr} {n0 nx j:Nat} {keep:List Nat} (h:A20 T c e eb of' ob n0 nx) (h0:e.bn j=0):(e.anew ob n0 nx keep).bn j=0:=by
 cases hv:A2Z ob n0 nx j with
 | none=>rw [S4 hv];exact h0
 | some v=>have:=h.ver hv;omega
theorem R1.fix {ob:Tr} {n0 nx:Nat} {keep:List Nat} (hA:A20 T c e eb of' ob n0 nx) {a:A} {v:Value} (h:R1 T e a v) (ho:one v=true) (hk:∀ id∈E8 (W7 ob n0 nx a),H1 n0 nx id=true→id∈keep):R1 T (e.anew ob n0 nx keep) (W7 ob n0 nx a) v:=by
 cases a with
 | x=>exact h
 | p id t path =>
  obtain ⟨b,off,h1,h2,h3,h4,h5⟩:=h
  exact ⟨b,off,⟨h1,hk id (by simp [W7,E8])⟩,hA.box0 h2,h3,h4,h5⟩
 | a id t path lo m =>
  obtain ⟨b,off,n,el,k,cap,h1,h2,h3⟩:=h
  exact ⟨b,off,n,el,k,cap,⟨h1,hk id (by simp [W7,E8])⟩,hA.box0 h2,h3⟩
 | m id =>
  obtain ⟨b,h1,h2,h3⟩:=h
  exact ⟨b,⟨h1,hk id (by simp [W7,E8])⟩,hA.box0 h2,h3⟩
 | y id =>
  obtain ⟨b,h1,h2,h3⟩:=h
  exact ⟨b,⟨h1,hk id (by simp [W7,E8])⟩,hA.box0 h2,h3⟩
 | e id ver i t path =>
  obtain ⟨h0,h1,h2,h3,h4⟩:=h
  simp only [W7] at hk ⊢
  unfold A5c at hk ⊢
  cases hv:A2Z ob n0 nx id with
  | none =>
   rw [hv] at hk
   exact ⟨h0,⟨h1,hk id (by simp [E8])⟩,by rw [S4 hv];exact h2,h3,fun hb=>h4 (by rw [S4 hv] at hb;exact hb)⟩
  | some v' =>
   rw [hv] at hk
   simp only at hk ⊢
   cases hq:Nat.beq v' ver with
   | false=>exact ho
   | true =>
    rw [hq] at hk
    have:=E0r hq;subst this
    exact ⟨h0,⟨h1,hk id (by simp [E8])⟩,by rw [A6u hv];exact Nat.le_refl _,by omega,fun _=>h4 (hA.ver hv).1⟩
 | o id ver =>
  obtain ⟨h0,h1,h2,h3,h4⟩:=h
  simp only [W7] at hk ⊢
  unfold A5c at hk ⊢
  cases hv:A2Z ob n0 nx id with
  | none =>
   rw [hv] at hk
   exact ⟨h0,⟨h1,hk id (by simp [E8])⟩,by rw [S4 hv];exact h2,h3,fun hb=>h4 (by rw [S4 hv] at hb;exact hb)⟩
  | some v' =>
   rw [hv] at hk
   simp only at hk ⊢
   cases hq:Nat.beq v' ver with
   | false=>exact ho
   | true =>
    rw [hq] at hk
    have:=E0r hq;subst this
    exact ⟨h0,⟨h1,hk id (by simp [E8])⟩,by rw [A6u hv];exact Nat.le_refl _,by omega,fun _=>h4 (hA.ver hv).1⟩
 | w id ver off n =>
  obtain ⟨h0,h1,h2,h3,h4⟩:=h
  simp only [W7] at hk ⊢
  unfold A5c at hk ⊢
  cases hv:A2Z ob n0 nx id with
  | none =>
   rw [hv] at hk
   exact ⟨h0,⟨h1,hk id (by simp [E8])⟩,by rw [S4 hv];exact h2,h3,fun hb=>h4 (by rw [S4 hv] at hb;exact hb)⟩
  | some v' =>
   rw [hv] at hk
   simp only at hk ⊢
   cases hq:Nat.beq v' ver with
   | false=>exact ho
   | true =>
    rw [hq] at hk
    have:=E0r hq;subst this
    exact ⟨h0,⟨h1,hk id (by simp [E8])⟩,by rw [A6u hv];exact Nat.le_refl _,by omega,fun _=>h4 (hA.ver hv).1⟩
 | _=>exact h.elim
theorem C2q {ob:Tr} {n0 nx t:Nat}:∀ {a:A},E1 T t a=true→E1 T t (W7 ob n0 nx a)=true:=by
 have r:∀ {id ver:Nat} {k:Nat→A},(∀ v,E1 T t (k v)=X7 T t)→E1 T t (k ver)=true→E1 T t (A5c ob n0 nx id ver k)=true:=by
  intro id ver k hk h
  rw [hk] at h
  unfold A5c
  split
  ·rename_i v _;cases Nat.beq v ver
   ·exact h
   ·exact (hk _).trans h
  ·exact (hk _).trans h
 intro a h
 cases a with
 | e id ver i t path=>exact r (k:=fun v=>.e id v i t path) (fun _=>rfl) h
 | o id ver=>exact r (k:=fun v=>.o id v) (fun _=>rfl) h
 | w id ver off n=>exact r (k:=fun v=>.w id v off n) (fun _=>rfl) h
 | f fn l=>exact h
 | g t' l=>exact h
 | t l=>cases h
 | _=>exact h
theorem D5n {ob:Tr} {n0 nx:Nat}:∀ {ts:List Nat} {l:List A},A0k T ts l=true→A0k T ts (Y7 ob n0 nx l)=true:=by
 intro ts
 induction ts with
 | nil=>intro l h;cases l with
  | nil=>rfl
  | cons a l=>cases h
 | cons t ts ih=>intro l h;cases l with
  | nil=>cases h
  | cons a l =>
   simp only [A0k,E0s] at h
   simp only [Y7,A0k,E0s]
   exact ⟨C2q h.1,ih h.2⟩
theorem RV.anew {ob:Tr} {n0 nx:Nat} {keep:List Nat} {ts:List Nat} {xs:List V} {cs:List Value} (h:RV T e ts xs cs):RV T (e.anew ob n0 nx keep) ts xs cs:=RV.change (e:=e) (e':=e.anew ob n0 nx keep) (fun a ds q=>B03 q) h
theorem RA.fix {ob:Tr} {n0 nx:Nat} {keep:List Nat} (hA:A20 T c e eb of' ob n0 nx) {l:List A} {cs:List Value} (h:RA T e l cs):(∀ id∈F5 (Y7 ob n0 nx l),H1 n0 nx id=true→id∈keep)→RA T (e.anew ob n0 nx keep) (Y7 ob n0 nx l) cs:=by
 induction h with
 | nil=>intro _;exact .nil
 | i hr _ ih=>intro hk;exact .i hr (ih (fun id A2=>hk id (by simp only [Y7,F5,E0C];exact .inr A2)))
 | b _ ih=>intro hk;exact .b (ih (fun id A2=>hk id (by simp only [Y7,F5,E0C];exact .inr A2)))
 | s _ ih=>intro hk;exact .s (ih (fun id A2=>hk id (by simp only [Y7,F5,E0C];exact .inr A2)))
 | z h1 _ ih=>intro hk;exact .z h1 (ih (fun id A2=>hk id (by simp only [Y7,F5,E0C];exact .inr A2)))
 | v h1 _ ih=>intro hk;exact .v h1.anew (ih (fun id A2=>hk id (by simp only [Y7,F5,E0C];exact .inr A2)))
 | c h1 h2 _ ih=>intro hk;exact .c h1.anew h2 (ih (fun id A2=>hk id (by simp only [Y7,F5,E0C];exact .inr A2)))
 | q h1 _ ih=>intro hk;exact .q h1.anew (ih (fun id A2=>hk id (by simp only [Y7,F5,E0C];exact .inr A2)))
 | f _ _ ih1 ih =>
  intro hk
  exact .f (ih1 (fun id A2=>hk id (by simp only [Y7,W7,F5,E8,E0C];exact .inl A2))) (ih (fun id A2=>hk id (by simp only [Y7,F5,E0C];exact .inr A2)))
 | g h1 h2 h3 _ _ ih1 ih =>
  intro hk
  exact .g h1 (D5n h2) h3 (ih1 (fun id A2=>hk id (by simp only [Y7,W7,F5,E8,E0C];exact .inl A2))) (ih (fun id A2=>hk id (by simp only [Y7,F5,E0C];exact .inr A2)))
 | r h1 h2 _ ih =>
  intro hk
  exact .r (h1.fix hA h2 (fun id A2=>hk id (by simp only [Y7,F5,E0C];exact .inl A2))) h2 (ih (fun id A2=>hk id (by simp only [Y7,F5,E0C];exact .inr A2)))
theorem A1Y {ob:Tr} {n0 nx id:Nat} (h:H1 n0 nx id=false):A2Z ob n0 nx id=none:=by unfold A2Z;rw [h];rfl
theorem R1.old {ob:Tr} {n0 nx:Nat} {keep:List Nat} (hA:A20 T c e eb of' ob n0 nx) {a:A} {v:Value} (h:R1 T e a v) (hn:∀ id∈E8 a,H1 n0 nx id=false):R1 T (e.anew ob n0 nx keep) a v:=by
 have nk:∀ {id:Nat},H1 n0 nx id=false→(H1 n0 nx id=true→id∈keep):=fun hf ht=>by rw [hf] at ht;cases ht
 cases a with
 | x=>exact h
 | p id t path =>
  obtain ⟨b,off,h1,h2,h3,h4,h5⟩:=h
  exact ⟨b,off,⟨h1,nk (hn id (by simp [E8]))⟩,hA.box0 h2,h3,h4,h5⟩
 | a id t path lo m =>
  obtain ⟨b,off,n,el,k,cap,h1,h2,h3⟩:=h
  exact ⟨b,off,n,el,k,cap,⟨h1,nk (hn id (by simp [E8]))⟩,hA.box0 h2,h3⟩
 | m id =>
  obtain ⟨b,h1,h2,h3⟩:=h
  exact ⟨b,⟨h1,nk (hn id (by simp [E8]))⟩,hA.box0 h2,h3⟩
 | y id =>
  obtain ⟨b,h1,h2,h3⟩:=h
  exact ⟨b,⟨h1,nk (hn id (by simp [E8]))⟩,hA.box0 h2,h3⟩
 | e id ver i t path =>
  obtain ⟨h0,h1,h2,h3,h4⟩:=h
  have hv:=A1Y (ob:=ob) (hn id (by simp [E8]))
  exact ⟨h0,⟨h1,nk (hn id (by simp [E8]))⟩,by rw [S4 hv];exact h2,h3,fun hb=>h4 (by rw [S4 hv] at hb;exact hb)⟩
 | o id ver =>
  obtain ⟨h0,h1,h2,h3,h4⟩:=h
  have hv:=A1Y (ob:=ob) (hn id (by simp [E8]))
  exact ⟨h0,⟨h1,nk (hn id (by simp [E8]))⟩,by rw [S4 hv];exact h2,h3,fun hb=>h4 (by rw [S4 hv] at hb;exact hb)⟩
 | w id ver off n =>
  obtain ⟨h0,h1,h2,h3,h4⟩:=h
  have hv:=A1Y (ob:=ob) (hn id (by simp [E8]))
  exact ⟨h0,⟨h1,nk (hn id (by simp [E8]))⟩,by rw [S4 hv];exact h2,h3,fun hb=>h4 (by rw [S4 hv] at hb;exact hb)⟩
 | _=>exact h.elim
theorem RA.old {ob:Tr} {n0 nx:Nat} {keep:List Nat} (hA:A20 T c e eb of' ob n0 nx) {l:List A} {cs:List Value} (h:RA T e l cs):(∀ id∈F5 l,H1 n0 nx id=false)→RA T (e.anew ob n0 nx keep) l cs:=by
 induction h with
 | nil=>intro _;exact .nil
 | i hr _ ih=>intro hk;exact .i hr (ih (fun id A2=>hk id (by simp only [F5,E0C];exact .inr A2)))
 | b _ ih=>intro hk;exact .b (ih (fun id A2=>hk id (by simp only [F5,E0C];exact .inr A2)))
 | s _ ih=>intro hk;exact .s (ih (fun id A2=>hk id (by simp only [F5,E0C];exact .inr A2)))
 | z h1 _ ih=>intro hk;exact .z h1 (ih (fun id A2=>hk id (by simp only [F5,E0C];exact .inr A2)))
 | v h1 _ ih=>intro hk;exact .v h1.anew (ih (fun id A2=>hk id (by simp only [F5,E0C];exact .inr A2)))
 | c h1 h2 _ ih=>intro hk;exact .c h1.anew h2 (ih (fun id A2=>hk id (by simp only [F5,E0C];exact .inr A2)))
 | q h1 _ ih=>intro hk;exact .q h1.anew (ih (fun id A2=>hk id (by simp only [F5,E0C];exact .inr A2)))
 | f _ _ ih1 ih =>
  intro hk
  exact .f (ih1 (fun id A2=>hk id (by simp only [F5,E8,E0C];exact .inl A2))) (ih (fun id A2=>hk id (by simp only [F5,E0C];exact .inr A2)))
 | g h1 h2 h3 _ _ ih1 ih =>
  intro hk
  exact .g h1 h2 h3 (ih1 (fun id A2=>hk id (by simp only [F5,E8,E0C];exact .inl A2))) (ih (fun id A2=>hk id (by simp only [F5,E0C];exact .inr A2)))
 | r h1 h2 _ ih =>
  intro hk
  exact .r (h1.old hA (fun id A2=>hk id (by simp only [F5,E0C];exact .inl A2))) h2 (ih (fun id A2=>hk id (by simp only [F5,E0C];exact .inr A2)))
theorem H6.use {a:A} {v:Value} (h:H6 T e a v):∀ id∈E8 a,e.U id:=by
 have one:∀ {a:A} {cs:List Value},RA T e [a] cs→∀ id∈E8 a,e.U id:=fun g id A2=>g.use id (by simp only [F5,List.append_nil];exact A2)
 cases a with
 | x=>intro id h;cases h
 | t l=>exact h.elim
 | v t y=>intro id h;cases h
 | g t l=>exact one h.1
 | _=>exact one h
theorem H6.old {ob:Tr} {n0 nx:Nat} {keep:List Nat} (hA:A20 T c e eb of' ob n0 nx) {a:A} {v:Value} (h:H6 T e a v) (hn:∀ id∈E8 a,H1 n0 nx id=false):H6 T (e.anew ob n0 nx keep) a v:=by
 have one:∀ {a:A} {cs:List Value},RA T e [a] cs→(∀ id∈E8 a,H1 n0 nx id=false)→RA T (e.anew ob n0 nx keep) [a] cs:=fun g hk=>g.old hA (fun id A2=>hk id (by simpa [F5] using A2))
 cases a with
 | x=>trivial
 | t l=>exact h.elim
 | v t y=>exact ⟨h.1.anew,h.2⟩
 | g t l=>exact ⟨one h.1 hn,h.2⟩
 | _=>exact one h hn
theorem MR.use {kt et:Nat} {es:List (V×A)} {ms:List MapEntry} (h:MR T e kt et es ms):∀ p∈es,∀ id∈E8 p.2,e.U id:=by
 induction h with
 | nil=>intro p hp;cases hp
 | cons _ h2 _ _ ih =>
  intro p hp
  rcases List.mem_cons.1 hp with rfl | hp
  ·exact h2.use
  ·exact ih p hp
theorem MR.old {ob:Tr} {n0 nx:Nat} {keep:List Nat} (hA:A20 T c e eb of' ob n0 nx) {kt et:Nat} {es:List (V×A)} {ms:List MapEntry} (h:MR T e kt et es ms):(∀ p∈es,∀ id∈E8 p.2,H1 n0 nx id=false)→MR T (e.anew ob n0 nx keep) kt et es ms:=by
 induction h with
 | nil=>intro _;exact .nil
 | cons h1 h2 h3 _ ih=>intro hk;exact .cons (h1.old hA (fun id A2=>by cases A2)) (h2.old hA (hk _ (List.mem_cons_self ..))) h3 (ih (fun p hp=>hk p (List.mem_cons_of_mem _ hp)))
theorem OK.old {ob:Tr} {n0 nx id:Nat} {keep:List Nat} {o:Ob} (hA:A20 T c e eb of' ob n0 nx) (h:OK T e id o) (hb:OK T eb id o):OK T (e.anew ob n0 nx keep) id o:=by
 have nn:∀ {j:Nat},eb.U j→H1 n0 nx j=false:=fun {j} hj=>by
  cases hq:H1 n0 nx j with
  | false=>rfl
  | true=>exact absurd hj (hA.new j hq)
 have A2:=nn hb.use
 have hU:(e.anew ob n0 nx keep).U id:=⟨h.use,fun ht=>by rw [A2] at ht;cases ht⟩
 cases o with
 | box t a sh =>
  obtain ⟨h1,h2,h2',h2'',b,cs,ty,fz,h3,h4,h5,h5',h6,h7⟩:=h
  obtain ⟨_,_,_,_,_,cs0,_,_,_,_,_,_,g6,_⟩:=hb
  exact ⟨hU,hA.box0 h2,h2',h2'',b,cs,ty,fz,h3,h4,h5,h5',h6.old hA (fun j hj=>nn (g6.use j hj)),h7⟩
 | row el ver xs nl sh =>
  obtain ⟨h1,h2,h3,h4,h4',h5,h6⟩:=h
  refine ⟨hU,h2,by rw [S4 (A1Y A2)];exact h3,h4,h4',h5,?_⟩
  rcases h6 with h6 | ⟨nn',b,o,cs,t,fz,pre,ys,post,g1,g2,g3,g4,g5,g6,g7,g8⟩
  ·exact .inl h6
  ·exact .inr ⟨nn',b,o,cs,t,fz,pre,ys,post,g1,g2,g3,g4,g5,g6.anew,g7,g8⟩
 | map kt et es =>
  obtain ⟨h1,h2,b,ms,clock,h3,h4,h5,es',h6,h7⟩:=h
  obtain ⟨_,_,_,ms0,_,_,_,_,es0,k6,k7⟩:=hb
  have hes:∀ p∈es,∀ j∈E8 p.2,H1 n0 nx j=false:=fun p hp j hj=>nn (k7.use p (k6.mem_iff.2 hp) j hj)
  exact ⟨hU,hA.box0 h2,b,ms,clock,h3,h4,h5,es',h6,h7.old hA (fun p hp=>hes p (h6.mem_iff.1 hp))⟩
 | vm kt et es =>
  obtain ⟨h1,h2,b,ms,clock,h3,h4,h5,es',h6,h7⟩:=h
  exact ⟨hU,hA.box0 h2,b,ms,clock,h3,h4,h5,es',h6,h7.old hA (fun p hp j hj=>by rw [B23 p (h6.mem_iff.1 hp)] at hj;cases hj)⟩
 | sm kt st el es ho =>
  obtain ⟨h1,h2,ha,hb',hc,b,ms,clock,h3,h4,h5,es',bs,h6,h7⟩:=h
  exact ⟨hU,hA.box0 h2,ha,hb',hc,b,ms,clock,h3,h4,h5,es',bs,h6,h7.change (e':=e.anew ob n0 nx keep) (fun a ds q=>B03 q) rfl (fun _ _ q=>q) (fun _ _ q=>q)⟩
 | lp q =>
  cases q with
  | none =>
   obtain ⟨h1,h2,b,h3,h4⟩:=h
   exact ⟨hU,hA.box0 h2,b,h3,h4⟩
  | some r =>
   obtain ⟨h1,h2,b,tm,df,fn,h3,h4,h5,h6⟩:=h
   obtain ⟨_,_,_,tm0,_,_,_,_,_,k6⟩:=hb
   exact ⟨hU,hA.box0 h2,b,tm,df,fn,h3,h4,h5,fun p hp=>(h6 p hp).old hA (fun j hj=>nn ((k6 p hp).use j hj))⟩
 | it q =>
  cases q with
  | none =>
   obtain ⟨h1,h2,b,x,y,z,h3,h4⟩:=h
   exact ⟨hU,hA.box0 h2,b,x,y,z,h3,h4⟩
  | some m =>
   obtain ⟨h1,h2,b,bm,x,z,h3,h4,h5,h6,h7⟩:=h
   obtain ⟨_,_,_,_,_,_,_,_,k5,_⟩:=hb
   have hm:=nn k5
   exact ⟨hU,hA.box0 h2,b,bm,x,z,h3,h4,⟨h5,fun ht=>by rw [hm] at ht;cases ht⟩,hA.box0 h6,h7⟩
theorem H6.fix {ob:Tr} {n0 nx:Nat} {keep:List Nat} (hA:A20 T c e eb of' ob n0 nx) {a:A} {v:Value} (h:H6 T e a v) (hk:∀ id∈E8 (W7 ob n0 nx a),H1 n0 nx id=true→id∈keep):H6 T (e.anew ob n0 nx keep) (W7 ob n0 nx a) v:=by
 have one:∀ {a:A} {cs:List Value},RA T e [a] cs→(∀ id∈E8 (W7 ob n0 nx a),H1 n0 nx id=true→id∈keep)→RA T (e.anew ob n0 nx keep) [W7 ob n0 nx a] cs:=fun {a cs} g hk=>by
  have:=g.fix (keep:=keep) hA (fun id A2=>hk id (by simpa [Y7,F5] using A2))
  simpa [Y7] using this
 have sc:∀ {a:A},RA T e [a] [v]→(∀ id∈E8 (W7 ob n0 nx a),H1 n0 nx id=true→id∈keep)→(W7 ob n0 nx a=.x∨((∀ t y,W7 ob n0 nx a≠.v t y)∧(∀ t l,W7 ob n0 nx a≠.g t l)∧(∀ l,W7 ob n0 nx a≠.t l)))→H6 T (e.anew ob n0 nx keep) (W7 ob n0 nx a) v:=fun {a} g hk hs=>by
  have r:=one g hk
  rcases hs with hs | ⟨s1,s2,s3⟩
  ·rw [hs];trivial
  ·cases hf:W7 ob n0 nx a with
   | v t y=>exact absurd hf (s1 _ _)
   | g t l=>exact absurd hf (s2 _ _)
   | t l=>exact absurd hf (s3 _)
   | x=>trivial
   | _=>rw [hf] at r;exact r
 have fr:∀ {id ver:Nat} {k:Nat→A},(∀ v,(∀ t y,k v≠.v t y)∧(∀ t l,k v≠.g t l)∧(∀ l,k v≠.t l))→(A5c ob n0 nx id ver k=.x∨((∀ t y,A5c ob n0 nx id ver k≠.v t y)∧(∀ t l,A5c ob n0 nx id ver k≠.g t l)∧(∀ l,A5c ob n0 nx id ver k≠.t l))):=by
  intro id ver k hk
  unfold A5c
  split
  ·rename_i v _;cases Nat.beq v ver
   ·exact .inl rfl
   ·exact .inr (hk _)
  ·exact .inr (hk _)
 cases a with
 | x=>trivial
 | t l=>exact h.elim
 | v t y=>exact ⟨h.1.anew,h.2⟩
 | g t l=>exact ⟨one h.1 hk,h.2⟩
 | e id ver i t path=>exact sc h hk (fr (k:=fun v=>.e id v i t path) (fun v=>⟨by simp,by simp,by simp⟩))
 | o id ver=>exact sc h hk (fr (k:=fun v=>.o id v) (fun v=>⟨by simp,by simp,by simp⟩))
 | w id ver off n=>exact sc h hk (fr (k:=fun v=>.w id v off n) (fun v=>⟨by simp,by simp,by simp⟩))
 | _=>exact one h hk
theorem OK.fix {ob:Tr} {n0 nx id:Nat} {keep:List Nat} {o:Ob} (hA:A20 T c e eb of' ob n0 nx) (hg:ob.get id=some o) (h:OK T e id o) (hkeep:H1 n0 nx id=true→id∈keep) (hk:∀ j∈A1A (A4k ob n0 nx id o),H1 n0 nx j=true→j∈keep) (hmap:∀ kt et es,o=.map kt et es→∀ p∈es,E8 p.2=[]):OK T (e.anew ob n0 nx keep) id (A4k ob n0 nx id o):=by
 have hU:(e.anew ob n0 nx keep).U id:=⟨h.use,hkeep⟩
 cases o with
 | box t a sh =>
  obtain ⟨h1,h2,h2',h2'',b,cs,ty,fz,h3,h4,h5,h5',h6,h7⟩:=h
  refine ⟨hU,hA.box0 h2,h2',C2q h2'',b,cs,ty,fz,h3,h4,h5,h5',?_,h7⟩
  have:=h6.fix (keep:=keep) hA (fun j hj=>hk j (by simpa [Y7,F5,A4k,A1A] using hj))
  simpa [Y7] using this
 | row el ver xs nl sh =>
  obtain ⟨h1,h2,h3,h4,h4',h5,h6⟩:=h
  have rest:0 < C1 T el∧((nl=true∧(e.anew ob n0 nx keep).ι id=none∧xs=[])∨(nl=false∧∃ b o cs t fz pre ys post,(e.anew ob n0 nx keep).ι id=some (b,o)∧(e.anew ob n0 nx keep).w.heap[b]? = some (.cells cs t fz)∧A1B (e.anew ob n0 nx keep).w b cs∧cs.toList=pre++ys++post∧pre.length=o∧RV T (e.anew ob n0 nx keep) (List.replicate xs.length el) xs ys ∧
     (∀ i,o+ys.length≤i→¬ (e.anew ob n0 nx keep).S b i)∧(sh=false→∀ i,o≤i→¬ (e.anew ob n0 nx keep).S b i))):=by
   refine ⟨h5,?_⟩
   rcases h6 with h6 | ⟨nn',b,o,cs,t,fz,pre,ys,post,g1,g2,g3,g4,g5,g6,g7,g8⟩
   ·exact .inl h6
   ·exact .inr ⟨nn',b,o,cs,t,fz,pre,ys,post,g1,g2,g3,g4,g5,g6.anew,g7,g8⟩
  cases hn:H1 n0 nx id with
  | false =>
   have hf:A4k ob n0 nx id (.row el ver xs nl sh)=.row el ver xs nl sh:=by simp [A4k,hn]
   rw [hf]
   exact ⟨hU,h2,by rw [S4 (A1Y hn)];exact h3,h4,h4',rest⟩
  | true =>
   have hf:A4k ob n0 nx id (.row el ver xs nl sh)=.row el 1 xs nl sh:=by simp [A4k,hn]
   rw [hf]
   have hv:A2Z ob n0 nx id=some ver:=by unfold A2Z;rw [hn,hg];rfl
   exact ⟨hU,by omega,A6u hv,h4,h4',rest⟩
 | map kt et es =>
  obtain ⟨h1,h2,b,ms,clock,h3,h4,h5,es',h6,h7⟩:=h
  exact ⟨hU,hA.box0 h2,b,ms,clock,h3,h4,h5,es',h6,h7.old hA (fun p hp j hj=>by rw [hmap kt et es rfl p (h6.mem_iff.1 hp)] at hj;cases hj)⟩
 | vm kt et es =>
  obtain ⟨h1,h2,b,ms,clock,h3,h4,h5,es',h6,h7⟩:=h
  exact ⟨hU,hA.box0 h2,b,ms,clock,h3,h4,h5,es',h6,h7.old hA (fun p hp j hj=>by rw [B23 p (h6.mem_iff.1 hp)] at hj;cases hj)⟩
 | sm kt st el es ho =>
  obtain ⟨h1,h2,ha,hb',hc,b,ms,clock,h3,h4,h5,es',bs,h6,h7⟩:=h
  exact ⟨hU,hA.box0 h2,ha,hb',hc,b,ms,clock,h3,h4,h5,es',bs,h6,h7.change (e':=e.anew ob n0 nx keep) (fun a ds q=>B03 q) rfl (fun _ _ q=>q) (fun _ _ q=>q)⟩
 | lp q =>
  cases q with
  | none =>
   obtain ⟨h1,h2,b,h3,h4⟩:=h
   exact ⟨hU,hA.box0 h2,b,h3,h4⟩
  | some r =>
   obtain ⟨h1,h2,b,tm,df,fn,h3,h4,h5,h6⟩:=h
   refine ⟨hU,hA.box0 h2,b,tm,df,fn,h3,h4,h5,fun p hp=>?_⟩
   obtain ⟨q,hq,rfl⟩:=C2o _ _ _ _ p hp
   exact (h6 q hq).fix hA (fun j hj=>hk j (C2n _ _ hp j hj))
 | it q =>
  cases q with
  | none =>
   obtain ⟨h1,h2,b,x,y,z,h3,h4⟩:=h
   exact ⟨hU,hA.box0 h2,b,x,y,z,h3,h4⟩
  | some m =>
   obtain ⟨h1,h2,b,bm,x,z,h3,h4,h5,h6,h7⟩:=h
   exact ⟨hU,hA.box0 h2,b,bm,x,z,h3,h4,⟨h5,hk m (by simp [A4k,A1A])⟩,hA.box0 h6,h7⟩
theorem C2r {ob:Tr} {n0 nx:Nat}:∀ {l:List A} {i:Nat} {v:A},(Y7 ob n0 nx l)[i]? = some v→∃ a,l[i]? = some a∧v=W7 ob n0 nx a:=by
 intro l
 induction l with
 | nil=>intro i v h;simp [Y7] at h
 | cons a l ih =>
  intro i v h
  cases i with
  | zero=>simp [Y7] at h;exact ⟨a,rfl,h.symm⟩
  | succ i=>exact ih (by simpa [Y7] using h)
theorem C2s {ob:Tr} {n0 nx:Nat}:∀ {l:List A},(Y7 ob n0 nx l).length=l.length:=by
 intro l
 induction l with
 | nil=>rfl
 | cons a l ih=>simp [Y7,ih]
theorem C2t:∀ {l:List A} {i:Nat} {a:A},l[i]? = some a→∀ id∈E8 a,id∈F5 l:=by
 intro l
 induction l with
 | nil=>intro i a h;simp at h
 | cons b l ih =>
  intro i a h id A2
  simp only [F5,E0C]
  cases i with
  | zero=>simp at h;subst h;exact .inl A2
  | succ i=>exact .inr (ih (by simpa using h) id A2)
theorem C6.fix {ob:Tr} {n0 nx:Nat} {keep:List Nat} (hA:A20 T c e eb of' ob n0 nx) {a:A} {v:Value} (h:C6 T e a v) (hk:∀ id∈E8 (W7 ob n0 nx a),H1 n0 nx id=true→id∈keep):C6 T (e.anew ob n0 nx keep) (W7 ob n0 nx a) v:=by
 have A5a:∀ {a:A},(∀ l,a≠.t l)→H6 T e a v→(∀ id∈E8 (W7 ob n0 nx a),H1 n0 nx id=true→id∈keep)→C6 T (e.anew ob n0 nx keep) (W7 ob n0 nx a) v:=fun {a} ht g hk=>by
  have r:=g.fix (keep:=keep) hA hk
  cases hf:W7 ob n0 nx a with
  | t l =>
   rw [hf] at r;exact r.elim
  | _=>rw [hf] at r;exact r
 cases a with
 | t l =>
  obtain ⟨xs,rfl,h2,h3⟩:=h
  refine ⟨xs,rfl,by rw [C2s];exact h2,fun i v x hv hx=>?_⟩
  obtain ⟨a,ha,rfl⟩:=C2r hv
  exact (h3 i a x ha hx).fix hA (fun id A2=>hk id (C2t hv id A2))
 | _=>exact A5a (by intro l hl;cases hl) h hk
variable {P:Program} {T:TT} {c:P9} {e eb:B9} {of of':Nat→Option Ob}
def sw (i j n:Nat):Nat:=bif Nat.beq n i then j else bif Nat.beq n j then i else n
theorem A7d {a b:Nat} (h:a≠b):Nat.beq a b=false:=by
 cases hq:Nat.beq a b with
 | false=>rfl
 | true=>exact absurd (E0r hq) h
theorem D75 (i j:Nat):sw i j i=j:=by unfold sw;rw [Nat.beq_refl];rfl
theorem D76 (i j:Nat):sw i j j=i:=by
 unfold sw
 by_cases h:j=i
 ·subst h;rw [Nat.beq_refl];rfl
 ·rw [A7d h,Nat.beq_refl];rfl
theorem A6h {i j n:Nat} (h1:n≠i) (h2:n≠j):sw i j n=n:=by unfold sw;rw [A7d h1,A7d h2];rfl
@[simp] theorem sw_sw (i j n:Nat):sw i j (sw i j n)=n:=by
 by_cases h1:n=i
 ·subst h1;rw [D75,D76]
 ·by_cases h2:n=j
  ·subst h2;rw [D76,D75]
  ·rw [A6h h1 h2,A6h h1 h2]
theorem D5o {i j a b:Nat} (h:sw i j a=sw i j b):a=b:=by rw [← sw_sw i j a,h,sw_sw]
mutual
def swA (i j:Nat):A→A
 | .p id t path=>.p (sw i j id) t path
 | .e id ver k t path=>.e (sw i j id) ver k t path
 | .o id ver=>.o (sw i j id) ver
 | .w id ver off n=>.w (sw i j id) ver off n
 | .a id t path lo m=>.a (sw i j id) t path lo m
 | .m id=>.m (sw i j id)
 | .y id=>.y (sw i j id)
 | .f fn l=>.f fn (swL i j l)
 | .g t l=>.g t (swL i j l)
 | .t l=>.t (swL i j l)
 | a=>a
def swL (i j:Nat):List A→List A
 | []=>[]
 | a::r=>swA i j a::swL i j r
end
def swE (i j:Nat):List (V×A)→List (V×A)
 | []=>[]
 | p::r=>(p.1,swA i j p.2)::swE i j r
def swS (i j:Nat):List (Nat×A)→List (Nat×A)
 | []=>[]
 | p::r=>(p.1,swA i j p.2)::swS i j r
def swO (i j:Nat):Ob→Ob
 | .box t a sh=>.box t (swA i j a) sh
 | .row el ver xs nl sh=>.row el ver xs nl sh
 | .map kt et es=>.map kt et (swE i j es)
 | .vm kt et es=>.vm kt et es
 | .sm kt st el es ho=>.sm kt st el es ho
 | .lp (some r)=>.lp (some { r with sl:=swS i j r.sl })
 | .lp none=>.lp none
 | .it (some m)=>.it (some (sw i j m))
 | .it none=>.it none
def B9.sw (e:B9) (i j:Nat):B9:={ e with ι:=fun n=>e.ι (Vm.sw i j n),bn:=fun n=>e.bn (Vm.sw i j n),U:=fun n=>e.U (Vm.sw i j n),ty:=fun n=>e.ty (Vm.sw i j n),ln:=fun n=>e.ln (Vm.sw i j n) }
variable {i j:Nat}
theorem R1.sw {a:A} {v:Value} (h:R1 T e a v):R1 T (e.sw i j) (swA i j a) v:=by
 cases a<;>simp only [R1,swA,B9.sw,sw_sw] at h ⊢<;>exact h
theorem B04 {t:Nat} {a:A}:E1 T t (swA i j a)=E1 T t a:=by cases a<;>rfl
theorem C9w:∀ {ts:List Nat} {l:List A},A0k T ts (swL i j l)=A0k T ts l:=by
 intro ts
 induction ts with
 | nil=>intro l;cases l<;>rfl
 | cons t ts ih=>intro l;cases l with
  | nil=>rfl
  | cons a l=>simp only [swL,A0k,B04,ih]
theorem RV.sw {ts:List Nat} {xs:List V} {cs:List Value} (h:RV T e ts xs cs):RV T (e.sw i j) ts xs cs:=RV.change (e:=e) (e':=e.sw i j) (fun a ds q=>q) h
theorem RA.sw {l:List A} {cs:List Value} (h:RA T e l cs):RA T (e.sw i j) (swL i j l) cs:=by
 induction h with
 | nil=>exact .nil
 | i hr _ ih=>exact .i hr ih
 | b _ ih=>exact .b ih
 | s _ ih=>exact .s ih
 | z h1 _ ih=>exact .z h1 ih
 | v h1 _ ih=>exact .v h1.sw ih
 | c h1 h2 _ ih=>exact .c h1.sw h2 ih
 | q h1 _ ih=>exact .q h1.sw ih
 | f _ _ ih1 ih=>exact .f ih1 ih
 | g h1 h2 h3 _ _ ih1 ih=>exact .g h1 (by rw [C9w];exact h2) h3 ih1 ih
 | r h1 h2 _ ih=>exact .r h1.sw h2 ih
theorem H6.sw {a:A} {v:Value} (h:H6 T e a v):H6 T (e.sw i j) (swA i j a) v:=by
 cases a<;>simp only [H6] at h<;>first | trivial | exact h.elim | exact ⟨h.1.sw,h.2⟩ | exact RA.sw h
theorem C9x:∀ {l:List A} {k:Nat} {v:A},(swL i j l)[k]? = some v→∃ a,l[k]? = some a∧v=swA i j a:=by
 intro l
 induction l with
 | nil=>intro k v h;simp [swL] at h
 | cons a l ih =>
  intro k v h
  cases k with
  | zero=>simp [swL] at h;exact ⟨a,rfl,h.symm⟩
  | succ k=>exact ih (by simpa [swL] using h)
theorem C9y:∀ {l:List A},(swL i j l).length=l.length:=by
 intro l
 induction l with
 | nil=>rfl
 | cons a l ih=>simp [swL,ih]
theorem C6.sw {a:A} {v:Value} (h:C6 T e a v):C6 T (e.sw i j) (swA i j a) v:=by
 cases a with
 | t l =>
  obtain ⟨xs,rfl,h2,h3⟩:=h
  refine ⟨xs,rfl,by rw [C9y];exact h2,fun k v x hv hx=>?_⟩
  obtain ⟨a,ha,rfl⟩:=C9x hv
  exact (h3 k a x ha hx).sw
 | _=>exact (by first | exact H6.sw (a:=.i _ _) h | exact H6.sw (a:=.b _) h | exact H6.sw (a:=.s _) h | exact H6.sw (a:=.z _) h | exact H6.sw (a:=.v _ _) h | exact H6.sw (a:=.p _ _ _) h | exact H6.sw (a:=.e _ _ _ _ _) h | exact H6.sw (a:=.c _ _) h | exact H6.sw (a:=.q _ _) h | exact H6.sw (a:=.o _ _) h | exact H6.sw (a:=.w _ _ _ _) h | exact H6.sw (a:=.a _ _ _ _ _) h | exact H6.sw (a:=.m _) h | exact H6.sw (a:=.y _) h | exact H6.sw (a:=.f _ _) h | exact H6.sw (a:=.g _ _) h | trivial)
theorem MR.sw {kt et:Nat} {es:List (V×A)} {ms:List MapEntry} (h:MR T e kt et es ms):MR T (e.sw i j) kt et (swE i j es) ms:=by
 induction h with
 | nil=>exact .nil
 | cons h1 h2 h3 _ ih=>exact .cons h1.sw h2.sw (by rw [B04];exact h3) ih
theorem A4l:∀ l:List (V×A),swE i j l=l.map fun p=>(p.1,swA i j p.2):=by
 intro l
 induction l with
 | nil=>rfl
 | cons p r ih=>simp [swE,ih]
theorem C9z {et:Nat}:∀ es:List (V×V),swE i j (vms et es)=vms et es:=by
 intro es
 induction es with
 | nil=>rfl
 | cons p r ih=>simp only [vms,swE,ih];rfl
theorem C9A:∀ {l:List (Nat×A)} {p:Nat×A},p∈swS i j l→∃ q∈l,p=(q.1,swA i j q.2):=by
 intro l
 induction l with
 | nil=>intro p hp;cases hp
 | cons q r ih =>
  intro p hp
  rcases List.mem_cons.1 hp with rfl | hp
  ·exact ⟨q,by simp,rfl⟩
  ·obtain ⟨q',h1,h2⟩:=ih hp
   exact ⟨q',by simp [h1],h2⟩
theorem OK.sw {id:Nat} {o:Ob} (h:OK T e id o):OK T (e.sw i j) (Vm.sw i j id) (swO i j o):=by
 cases o with
 | box t a sh =>
  obtain ⟨h1,h2,h2',h2'',b,cs,ty,fz,h3,h4,h5,h5',h6,h7⟩:=h
  simp only [OK,swO,B9.sw,sw_sw,B04]
  exact ⟨h1,h2,h2',h2'',b,cs,ty,fz,h3,h4,h5,h5',RA.sw h6,h7⟩
 | row el ver xs nl sh =>
  obtain ⟨h1,h2,h3,h4,h4',h5,h6⟩:=h
  simp only [OK,swO,B9.sw,sw_sw]
  refine ⟨h1,h2,h3,h4,h4',h5,?_⟩
  rcases h6 with h6 | ⟨nn',b,o,cs,t,fz,pre,ys,post,g1,g2,g3,g4,g5,g6,g7,g8⟩
  ·exact .inl h6
  ·exact .inr ⟨nn',b,o,cs,t,fz,pre,ys,post,g1,g2,g3,g4,g5,g6.sw,g7,g8⟩
 | map kt et es =>
  obtain ⟨h1,h2,b,ms,clock,h3,h4,⟨h5,h5'⟩,es',h6,h7⟩:=h
  simp only [OK,swO,B9.sw,sw_sw]
  refine ⟨h1,h2,b,ms,clock,h3,h4,⟨by rw [A4l,List.map_map];exact h5,h5'⟩,swE i j es',by rw [A4l,A4l];exact h6.map _,h7.sw⟩
 | vm kt et es =>
  obtain ⟨h1,h2,b,ms,clock,h3,h4,⟨h5,h5'⟩,es',h6,h7⟩:=h
  simp only [OK,swO,B9.sw,sw_sw]
  refine ⟨h1,h2,b,ms,clock,h3,h4,⟨h5,h5'⟩,swE i j es',by rw [← C9z (i:=i) (j:=j) es,A4l,A4l];exact h6.map _,h7.sw⟩
 | sm kt st el es ho =>
  obtain ⟨h1,h2,ha,hb',hc,b,ms,clock,h3,h4,h5,es',bs,h6,h7⟩:=h
  simp only [OK,swO,B9.sw,sw_sw]
  exact ⟨h1,h2,ha,hb',hc,b,ms,clock,h3,h4,h5,es',bs,h6,SR.change (e:=e) (e':=e.sw i j) (fun a ds q=>q) rfl (fun _ _ q=>q) (fun _ _ q=>q) h7⟩
 | lp q =>
  cases q with
  | none =>
   obtain ⟨h1,h2,b,h3,h4⟩:=h
   simp only [OK,swO,B9.sw,sw_sw]
   exact ⟨h1,h2,b,h3,h4⟩
  | some r =>
   obtain ⟨h1,h2,b,tm,df,fn,h3,h4,h5,h6⟩:=h
   simp only [OK,swO,B9.sw,sw_sw]
   refine ⟨h1,h2,b,tm,df,fn,h3,h4,h5,fun p hp=>?_⟩
   obtain ⟨q,hq,rfl⟩:=C9A hp
   exact (h6 q hq).sw
 | it q =>
  cases q with
  | none =>
   obtain ⟨h1,h2,b,x,y,z,h3,h4⟩:=h
   simp only [OK,swO,B9.sw,sw_sw]
   exact ⟨h1,h2,b,x,y,z,h3,h4⟩
  | some m =>
   obtain ⟨h1,h2,b,bm,x,z,h3,h4,h5,h6,h7⟩:=h
   simp only [OK,swO,B9.sw,sw_sw]
   exact ⟨h1,h2,b,bm,x,z,h3,h4,h5,h6,h7⟩
mutual
theorem B05:∀ (a:A),(∀ k∈E8 a,k≠i∧k≠j)→swA i j a=a:=by
 intro a h
 cases a with
 | p id t path=>have:=h id (by simp [E8]);simp only [swA,A6h this.1 this.2]
 | e id ver k t path=>have:=h id (by simp [E8]);simp only [swA,A6h this.1 this.2]
 | o id ver=>have:=h id (by simp [E8]);simp only [swA,A6h this.1 this.2]
 | w id ver off n=>have:=h id (by simp [E8]);simp only [swA,A6h this.1 this.2]
 | a id t path lo m=>have:=h id (by simp [E8]);simp only [swA,A6h this.1 this.2]
 | m id=>have:=h id (by simp [E8]);simp only [swA,A6h this.1 this.2]
 | y id=>have:=h id (by simp [E8]);simp only [swA,A6h this.1 this.2]
 | f fn l=>simp only [swA,B06 l (fun k hk=>h k (by simpa [E8] using hk))]
 | g t l=>simp only [swA,B06 l (fun k hk=>h k (by simpa [E8] using hk))]
 | t l=>simp only [swA,B06 l (fun k hk=>h k (by simpa [E8] using hk))]
 | _=>rfl
theorem B06:∀ (l:List A),(∀ k∈F5 l,k≠i∧k≠j)→swL i j l=l:=by
 intro l h
 cases l with
 | nil=>rfl
 | cons a r=>simp only [swL,B05 a (fun k hk=>h k (by simp [F5,hk])),B06 r (fun k hk=>h k (by simp [F5,hk]))]
end
theorem D5p:∀ (l:List (V×A)),(∀ k∈A2Y l,k≠i∧k≠j)→swE i j l=l:=by
 intro l
 induction l with
 | nil=>intro _;rfl
 | cons p r ih=>intro h;simp only [swE,B05 p.2 (fun k hk=>h k (by simp [A2Y,hk])),ih (fun k hk=>h k (by simp [A2Y,hk]))]
theorem D5q:∀ (l:List (Nat×A)),(∀ k∈A3G l,k≠i∧k≠j)→swS i j l=l:=by
 intro l
 induction l with
 | nil=>intro _;rfl
 | cons p r ih=>intro h;simp only [swS,B05 p.2 (fun k hk=>h k (by simp [A3G,hk])),ih (fun k hk=>h k (by simp [A3G,hk]))]
theorem D5r:∀ (o:Ob),(∀ k∈A1A o,k≠i∧k≠j)→swO i j o=o:=by
 intro o h
 cases o with
 | box t a sh=>simp only [swO,B05 a h]
 | row el ver xs nl sh=>rfl
 | map kt et es=>simp only [swO,D5p es h]
 | vm kt et es=>rfl
 | sm _ _ _ _ _=>rfl
 | lp q=>cases q with
  | none=>rfl
  | some r=>simp only [swO,D5q r.sl h]
 | it q=>cases q with
  | none=>rfl
  | some m=>have:=h m (by simp [A1A]);simp only [swO,A6h this.1 this.2]
theorem H6.used {a:A} {v:Value} (h:H6 T e a v):∀ id∈E8 a,e.U id:=by
 have one:∀ {a:A} {cs:List Value},RA T e [a] cs→∀ id∈E8 a,e.U id:=fun g id A2=>g.use id (by simp [F5,A2])
 cases a<;>simp only [H6] at h
 case x=>intro id A2;cases A2
 case v=>intro id A2;cases A2
 case g=>exact one h.1
 all_goals exact one h
theorem MR.used {kt et:Nat} {es:List (V×A)} {ms:List MapEntry} (h:MR T e kt et es ms):∀ id∈A2Y es,e.U id:=by
 induction h with
 | nil=>intro id A2;cases A2
 | cons h1 h2 _ _ ih =>
  intro id A2
  simp only [A2Y,E0C] at A2
  exact A2.elim (h2.used id) (ih id)
theorem A5d {a b:List (V×A)} (h:a.Perm b):∀ id,id∈A2Y b→id∈A2Y a:=by
 have mem:∀ (l:List (V×A)) id,id∈A2Y l↔∃ p∈l,id∈E8 p.2:=by
  intro l id
  induction l with
  | nil=>simp [A2Y]
  | cons p r ih=>simp [A2Y,ih]
 intro id A2
 rw [mem] at A2 ⊢
 obtain ⟨p,hp,hq⟩:=A2
 exact ⟨p,h.mem_iff.2 hp,hq⟩
theorem OK.used {id:Nat} {o:Ob} (h:OK T e id o):∀ k∈A1A o,e.U k:=by
 cases o with
 | box t a sh =>
  obtain ⟨h1,h2,h2',h2'',b,cs,ty,fz,h3,h4,h5,h5',h6,h7⟩:=h
  exact fun k hk=>h6.use k (by simpa [F5,A1A] using hk)
 | row el ver xs nl sh=>intro k hk;cases hk
 | map kt et es =>
  obtain ⟨h1,h2,b,ms,clock,h3,h4,h5,es',h6,h7⟩:=h
  exact fun k hk=>h7.used k (A5d h6 k hk)
 | vm kt et es=>intro k hk;cases hk
 | sm _ _ _ _ _=>intro k hk;cases hk
 | lp q =>
  cases q with
  | none=>intro k hk;cases hk
  | some r =>
   obtain ⟨h1,h2,b,tm,df,fn,h3,h4,h5,h6⟩:=h
   have mem:∀ (l:List (Nat×A)) id,id∈A3G l→∃ p∈l,id∈E8 p.2:=by
    intro l id
    induction l with
    | nil=>intro h;cases h
    | cons p r ih =>
     intro h
     simp only [A3G,E0C] at h
     rcases h with h | h
     ·exact ⟨p,by simp,h⟩
     ·obtain ⟨q,q1,q2⟩:=ih h;exact ⟨q,by simp [q1],q2⟩
   intro k hk
   obtain ⟨p,hp,hq⟩:=mem _ _ hk
   exact (h6 p hp).used k hq
 | it q =>
  cases q with
  | none=>intro k hk;cases hk
  | some m =>
   obtain ⟨h1,h2,b,bm,x,z,h3,h4,h5,h6,h7⟩:=h
   intro k hk
   have:k=m:=by simpa [A1A] using hk
   subst this;exact h5
def swP (i j:Nat) (p:Nat×Ob):Nat×Ob:=(sw i j p.1,swO i j p.2)
def swM (i j:Nat):List (Nat×Ob)→List (Nat×Ob)
 | []=>[]
 | p::r=>swP i j p::swM i j r
theorem C9B:∀ (l:List (Nat×Ob)) (f g:Nat→Option Ob),(∀ n,g n=(f (sw i j n)).map (swO i j))→∀ n,put g (swM i j l) n=(put f l (sw i j n)).map (swO i j):=by
 intro l
 induction l with
 | nil=>intro f g h n;exact h n
 | cons p r ih =>
  intro f g h n
  obtain ⟨k,o⟩:=p
  simp only [swM,swP,put]
  refine ih _ _ (fun n=>?_) n
  by_cases hn:n=sw i j k
  ·subst hn;rw [upd_same,sw_sw,upd_same];rfl
  ·rw [A4 _ _ hn,A4 _ _ (fun q=>hn (by rw [← q,sw_sw])),h]
theorem C2u {l:List Nat} {ds:List Deferred} (h:A0h e l ds):A0h (e.sw i j) (l.map (sw i j)) ds:=by
 induction h with
 | nil=>exact .nil
 | cons h1 h2 h3 _ ih=>exact .cons (by simp only [B9.sw,sw_sw];exact h1) (by simp only [B9.sw,sw_sw];exact h2) (by simp only [B9.sw,sw_sw];exact h3) ih
variable {P:Program} {T:TT} {c:P9} {e eb:B9} {of of':Nat→Option Ob}
def A5e (ob:Tr) (n0 nx:Nat):Nat→List Nat→List Nat→List Nat
 | 0,_,seen=>seen
 | _+1,[],seen=>seen
 | f+1,id::r,seen=>bif mem id seen||!(H1 n0 nx id) then A5e ob n0 nx f r seen else
  match ob.get id with
  | some o=>A5e ob n0 nx f (A1A (A4k ob n0 nx id o)++r) (id::seen)
  | none=>A5e ob n0 nx f r (id::seen)
def okR (n0 nx:Nat) (keep:List Nat) (id:Nat):Bool:=!(H1 n0 nx id)||mem id keep
def B07 (n0 nx:Nat) (keep:List Nat):List Nat→Bool
 | []=>true
 | id::r=>okR n0 nx keep id&&B07 n0 nx keep r
def B08:List (V×A)→Bool
 | []=>true
 | p::r=>(match E8 p.2 with | []=>true | _=>false)&&B08 r
def D3K:Ob→Bool
 | .map _ _ es=>B08 es
 | _=>true
def A3N (ob:Tr) (n0 nx:Nat) (keep:List Nat):List (Nat×Ob)→List (Nat×Ob)
 | []=>[]
 | p::r=>bif okR n0 nx keep p.1 then (p.1,A4k ob n0 nx p.1 p.2)::A3N ob n0 nx keep r else A3N ob n0 nx keep r
def C2v (n0 nx:Nat) (keep:List Nat):List (Nat×Ob)→Bool
 | []=>true
 | p::r=>B07 n0 nx keep (A1A p.2)&&(D3K p.2&&C2v n0 nx keep r)
def C2w:List Nat→Nat→Nat
 | [],m=>m
 | id::r,m=>C2w r (bif Nat.blt m (id+1) then id+1 else m)
def A7e (ob:Tr) (n0 nx:Nat):List (Nat×Ob)→List Nat
 | []=>[]
 | p::r=>bif H1 n0 nx p.1 then A7e ob n0 nx r else A1A (A4k ob n0 nx p.1 p.2)++A7e ob n0 nx r
def mkL:Option (List Nat)→List Nat
 | some l=>l
 | none=>[]
theorem A0h.anew {ob:Tr} {n0 nx:Nat} {keep:List Nat} (hA:A20 T c e eb of' ob n0 nx) {l:List Nat} {ds:List Deferred} (h:A0h e l ds):(∀ id∈l,H1 n0 nx id=true→id∈keep)→A0h (e.anew ob n0 nx keep) l ds:=by
 induction h with
 | nil=>intro _;exact .nil
 | cons h1 h2 h3 _ ih=>intro hk;exact .cons ⟨h1,hk _ (by simp)⟩ (hA.box0 h2) h3 (ih fun id A2=>hk id (by simp [A2]))
theorem A54.anew {ob:Tr} {n0 nx:Nat} {keep:List Nat} (hA:A20 T c e eb of' ob n0 nx) {rd:Option Nat} {l:Option (List Nat)} {ds:List Deferred} (h:A54 e rd l ds) (hk:∀ id∈mkL l,H1 n0 nx id=true→id∈keep):A54 (e.anew ob n0 nx keep) rd l ds:=by
 cases l with
 | none=>exact h
 | some l=>exact ⟨h.1,h.2.anew hA hk⟩
def St.norm0 (σ:St) (n0:Nat) (ks:List Nat):Option St :=
 let sl:=A7c σ.ob n0 σ.nx (A1v σ.sl ks)
 let L:=σ.ob.toL fun j=>j
 let keep:=A5e σ.ob n0 σ.nx 1000 (A3G sl++(mkL σ.mks++A7e σ.ob n0 σ.nx L)) []
 let L2:=A3N σ.ob n0 σ.nx keep L
 bif (B07 n0 σ.nx keep (A3G sl)&&B07 n0 σ.nx keep (mkL σ.mks))&&C2v n0 σ.nx keep L2 then some ⟨sl,A1m .e L2,σ.rd,C2w keep n0,σ.mks⟩ else none
theorem B24 {n0 nx id:Nat} {keep:List Nat} (h:okR n0 nx keep id=true):H1 n0 nx id=true→id∈keep:=by
 intro hn
 unfold okR at h
 rw [hn] at h
 exact mem_iff.1 (by simpa using h)
theorem A5f {n0 nx:Nat} {keep:List Nat}:∀ {l:List Nat},B07 n0 nx keep l=true→∀ id∈l,H1 n0 nx id=true→id∈keep:=by
 intro l
 induction l with
 | nil=>intro _ id h;cases h
 | cons k r ih =>
  intro h id A2
  simp only [B07,E0s] at h
  rcases List.mem_cons.1 A2 with rfl | A2
  ·exact B24 h.1
  ·exact ih h.2 id A2
theorem B25:∀ {es:List (V×A)},B08 es=true→∀ p∈es,E8 p.2=[]:=by
 intro es
 induction es with
 | nil=>intro _ p h;cases h
 | cons q r ih =>
  intro h p hp
  simp only [B08,E0s] at h
  rcases List.mem_cons.1 hp with rfl | hp
  ·cases hq:E8 p.2 with
   | nil=>rfl
   | cons _ _=>rw [hq] at h;simp at h
  ·exact ih h.2 p hp
theorem C9C:∀ (l:List Nat) (m:Nat),m≤C2w l m∧∀ id∈l,id < C2w l m:=by
 intro l
 induction l with
 | nil=>intro m;exact ⟨Nat.le_refl _,fun id h=>by cases h⟩
 | cons k r ih =>
  intro m
  simp only [C2w]
  obtain ⟨p,q⟩:=ih (bif Nat.blt m (k+1) then k+1 else m)
  have hm:m≤(bif Nat.blt m (k+1) then k+1 else m)∧k < (bif Nat.blt m (k+1) then k+1 else m):=by
   cases hb:Nat.blt m (k+1) with
   | true=>have:m < k+1:=by simpa [Nat.blt_eq] using hb
           exact ⟨by simp;omega,by simp⟩
   | false =>
    have:¬ m < k+1:=by intro hq;rw [show Nat.blt m (k+1)=true by simpa [Nat.blt_eq] using hq] at hb;cases hb
    exact ⟨by simp,by simp;omega⟩
  refine ⟨Nat.le_trans hm.1 p,fun id A2=>?_⟩
  rcases List.mem_cons.1 A2 with rfl | A2
  ·exact Nat.lt_of_lt_of_le hm.2 p
  ·exact q id A2
theorem C2x {ob:Tr} {n0 nx:Nat}:∀ {l:List (Nat×A)} {t:Nat},H2 (A7c ob n0 nx l) t=W7 ob n0 nx (H2 l t):=by
 intro l
 induction l with
 | nil=>intro t;rfl
 | cons p r ih =>
  intro t
  obtain ⟨k,v⟩:=p
  rw [A7c,U6,U6]
  by_cases h:t=k
  ·subst h;rw [upd_same,upd_same]
  ·rw [A4 _ _ h,A4 _ _ h];exact ih
theorem C2y:∀ {l:List (Nat×A)} {t:Nat},∀ id∈E8 (H2 l t),id∈A3G l:=by
 intro l
 induction l with
 | nil=>intro t id h;cases h
 | cons p r ih =>
  intro t id h
  obtain ⟨k,v⟩:=p
  simp only [A3G,E0C]
  rw [U6] at h
  by_cases hk:t=k
  ·subst hk;rw [upd_same] at h;exact .inl h
  ·rw [A4 _ _ hk] at h;exact .inr (ih id h)
theorem A5g:∀ (l:List (Nat×Ob)) (f:Nat→Option Ob) (id:Nat),put f l id=match put (fun _=>none) l id with
  | some o=>some o
  | none=>f id:=by
 intro l
 induction l with
 | nil=>intro f id;rfl
 | cons p r ih =>
  intro f id
  obtain ⟨k,o⟩:=p
  simp only [put]
  rw [ih (G3 f k (some o)),ih (G3 (fun _=>none) k (some o))]
  cases hq:put (fun _=>none) r id with
  | some o'=>rfl
  | none =>
   simp only
   by_cases h:id=k
   ·subst h;rw [upd_same,upd_same]
   ·rw [A4 _ _ h,A4 _ _ h]
theorem B26 {ob:Tr} {n0 nx:Nat} {keep:List Nat}:∀ (l:List (Nat×Ob)) (id:Nat),put (fun _=>none) (A3N ob n0 nx keep l) id=if okR n0 nx keep id=true then (put (fun _=>none) l id).map (A4k ob n0 nx id) else none:=by
 intro l
 induction l with
 | nil=>intro id;simp [A3N,put]
 | cons p r ih =>
  intro id
  obtain ⟨k,o⟩:=p
  simp only [A3N]
  cases hk:okR n0 nx keep k with
  | false =>
   simp only [cond_false,put]
   rw [ih id,A5g r (G3 (fun _=>none) k (some o))]
   by_cases A2:okR n0 nx keep id=true
   ·have hne:id≠k:=fun h=>by subst h;rw [hk] at A2;cases A2
    rw [if_pos A2,if_pos A2,A4 _ _ hne]
    cases put (fun _=>none) r id<;>rfl
   ·rw [if_neg A2,if_neg A2]
  | true =>
   simp only [cond_true,put]
   rw [A5g (A3N ob n0 nx keep r) (G3 (fun _=>none) k _),ih id,A5g r (G3 (fun _=>none) k (some o))]
   by_cases A2:okR n0 nx keep id=true
   ·rw [if_pos A2,if_pos A2]
    cases put (fun _=>none) r id with
    | some o'=>rfl
    | none =>
     simp only [Option.map_none]
     by_cases h:id=k
     ·subst h;rw [upd_same,upd_same];rfl
     ·rw [A4 _ _ h,A4 _ _ h];rfl
   ·rw [if_neg A2,if_neg A2]
    simp only
    by_cases h:id=k
    ·subst h;exact absurd hk A2
    ·exact A4 _ _ h
theorem C2z {n0 nx:Nat} {keep:List Nat}:∀ {l:List (Nat×Ob)},C2v n0 nx keep l=true→∀ id o,put (fun _=>none) l id=some o→B07 n0 nx keep (A1A o)=true∧D3K o=true:=by
 intro l
 induction l with
 | nil=>intro _ id o h;cases h
 | cons p r ih =>
  intro h id o ho
  obtain ⟨k,o1⟩:=p
  simp only [C2v,E0s] at h
  simp only [put] at ho
  rw [A5g] at ho
  split at ho
  ·rename_i o' ho'
   injection ho with ho;subst ho
   exact ih h.2.2 id _ ho'
  ·by_cases hk:id=k
   ·subst hk;rw [upd_same] at ho;injection ho with ho;subst ho;exact ⟨h.1,h.2.1⟩
   ·rw [A4 _ _ hk] at ho;cases ho
theorem Sim.norm0 {n0 nt:Nat} {σ σn:St} {a:Act} {w:World} {ks:List Nat} (h:Sim T c eb of' n0 nt σ a w) (hb:B2d T eb of') (hnew:∀ id,n0≤id→id < σ.nx→¬ eb.U id) (hn:σ.norm0 n0 ks=some σn):Sim T c eb of' n0 nt σn a w∧n0≤σn.nx∧σn.rd=σ.rd:=by
 obtain ⟨e,rfl,hst⟩:=h
 unfold St.norm0 at hn
 simp only at hn
 generalize hkeep:A5e σ.ob n0 σ.nx 1000 (A3G (A7c σ.ob n0 σ.nx (A1v σ.sl ks))++(mkL σ.mks++A7e σ.ob n0 σ.nx (σ.ob.toL fun j=>j))) []=keep at hn
 cases hc:((B07 n0 σ.nx keep (A3G (A7c σ.ob n0 σ.nx (A1v σ.sl ks)))&&B07 n0 σ.nx keep (mkL σ.mks))&&C2v n0 σ.nx keep (A3N σ.ob n0 σ.nx keep (σ.ob.toL fun j=>j))) with
 | false=>rw [hc] at hn;cases hn
 | true =>
 rw [hc] at hn
 simp only [cond_true,E0u] at hn
 subst hn
 simp only [E0s] at hc
 obtain ⟨hc1,hc2⟩:=hc
 have isn:∀ {id:Nat},H1 n0 σ.nx id=true→n0≤id∧id < σ.nx:=fun {id} hq=>by
  simp only [H1,E0s] at hq
  exact ⟨E0x hq.1,by simpa [Nat.blt_eq] using hq.2⟩
 have nis:∀ {id:Nat},eb.U id→H1 n0 σ.nx id=false:=fun {id} hu=>by
  cases hq:H1 n0 σ.nx id with
  | false=>rfl
  | true=>exact absurd hu (hnew id (isn hq).1 (isn hq).2)
 have hA:A20 T c e eb of' σ.ob n0 σ.nx:=⟨hst.os,fun id hq=>hnew id (isn hq).1 (isn hq).2⟩
 obtain ⟨hm0,hmk⟩:=C9C keep n0
 have hget:∀ id,put (fun _=>none) (σ.ob.toL fun j=>j) id=σ.ob.get id:=fun id=>by
  rw [A2o];unfold E0;cases σ.ob.get id<;>rfl
 have hover:∀ id,E0 (A1m .e (A3N σ.ob n0 σ.nx keep (σ.ob.toL fun j=>j))) of' id=if okR n0 σ.nx keep id=true then (match σ.ob.get id with | some o=>some (A4k σ.ob n0 σ.nx id o) | none=>of' id) else of' id:=by
  intro id
  rw [A0X,show E0 Tr.e of'=of' from funext fun j=>by unfold E0;rw [Tr.get_e],A5g,B26,hget]
  by_cases A2:okR n0 σ.nx keep id=true
  ·rw [if_pos A2,if_pos A2];cases σ.ob.get id<;>rfl
  ·rw [if_neg A2,if_neg A2]
 have hok:∀ id o,E0 (A1m .e (A3N σ.ob n0 σ.nx keep (σ.ob.toL fun j=>j))) of' id=some o→OK T (e.anew σ.ob n0 σ.nx keep) id o∧(E0 σ.ob of' id).isSome∧e.U id:=by
  intro id o ho
  rw [hover] at ho
  by_cases A2:okR n0 σ.nx keep id=true
  ·rw [if_pos A2] at ho
   cases hg:σ.ob.get id with
   | some o1 =>
    rw [hg] at ho
    injection ho with ho;subst ho
    have h1:E0 σ.ob of' id=some o1:=by unfold E0;rw [hg]
    have hch:=C2z hc2 id (A4k σ.ob n0 σ.nx id o1) (by rw [B26,if_pos A2,hget,hg];rfl)
    refine ⟨OK.fix hA hg (hst.os.ok _ _ h1) (B24 A2) (A5f hch.1) (fun kt et es he=>?_),by rw [h1];rfl,(hst.os.ok _ _ h1).use⟩
    subst he
    exact B25 hch.2
   | none =>
    rw [hg] at ho
    have h1:E0 σ.ob of' id=some o:=by unfold E0;rw [hg];exact ho
    exact ⟨OK.old hA (hst.os.ok _ _ h1) (hb id o ho),by rw [h1];rfl,(hst.os.ok _ _ h1).use⟩
  ·rw [if_neg A2] at ho
   have hu:=(hb id o ho).use
   have:=nis hu
   unfold okR at A2
   rw [this] at A2
   exact absurd rfl A2
 refine ⟨⟨e.anew σ.ob n0 σ.nx keep,rfl,⟨⟨fun id o ho=>(hok id o ho).1,fun i j b o b' o' hi hj=>?_,fun i b o hi=>?_,fun i b o hi=>hst.os.lt i b o hi.1,hst.os.slt,hst.os.s0,hst.os.snew,hst.os.os,hst.os.tape,hst.os.output,hst.os.size,hst.os.block,hst.os.g.mono (fun _ _ q=>q) rfl (fun _ q=>q) (Nat.le_refl _) (fun j b o hj hb=>by
  obtain ⟨o1,ho1⟩:=E0w.1 hj
  exact .inl ⟨j,o,(hok _ _ ho1).2.1,hb⟩)⟩,?_,fun id A2=>?_,fun t=>?_,hst.def_.anew hA (A5f hc1.2),hst.nt⟩⟩,hm0,rfl⟩
 ·obtain ⟨o1,ho1⟩:=E0w.1 hi
  obtain ⟨o2,ho2⟩:=E0w.1 hj
  exact hst.os.sep i j b o b' o' (hok _ _ ho1).2.1 (hok _ _ ho2).2.1
 ·obtain ⟨o1,ho1⟩:=E0w.1 hi
  exact hst.os.own i b o (hok _ _ ho1).2.1
 ·have old:∀ {id:Nat},eb.U id→(e.anew σ.ob n0 σ.nx keep).bn id=e.bn id:=fun {id} hu=>S4 (A1Y (nis hu))
  exact ⟨hst.le.S,fun id hu=>⟨hst.le.use id hu,fun hq=>by rw [nis hu] at hq;cases hq⟩,fun id hu hq=>hst.le.obj id hu (by rw [← old hu];exact hq),fun id hu h0=>by rw [old hu];exact hst.le.box id hu h0,fun id hu=>by rw [old hu];exact hst.le.up id hu,hst.le.ty,hst.le.grow,hst.le.keep⟩
 ·rcases hst.U id A2.1 with h | h
  ·exact .inl h
  ·refine .inr ⟨h.1,hmk id (A2.2 ?_)⟩
   simp only [H1,E0s]
   exact ⟨E0B h.1,by simpa [Nat.blt_eq] using h.2⟩
 ·show C6 T _ (H2 (A7c σ.ob n0 σ.nx (A1v σ.sl ks)) t) _
  have hr:C6 T e (H2 (A1v σ.sl ks) t) (a.tmps.getD t undef):=by
   rcases B0D σ.sl ks t with h | h
   ·rw [h];trivial
   ·rw [h];exact hst.sl t
  have href:∀ id∈E8 (H2 (A7c σ.ob n0 σ.nx (A1v σ.sl ks)) t),H1 n0 σ.nx id=true→id∈keep:=fun id A2=>A5f hc1.1 id (C2y id A2)
  rw [C2x] at href ⊢
  exact hr.fix hA href
def St.swap (σ:St) (i j:Nat):St:={ σ with sl:=swS i j σ.sl,ob:=A1m .e (swM i j (σ.ob.toL fun j=>j)),mks:=match σ.mks with
 | some l=>some (l.map (sw i j))
 | none=>none }
theorem C9D {i j:Nat}:∀ {l:List (Nat×A)} {t:Nat},H2 (swS i j l) t=swA i j (H2 l t):=by
 intro l
 induction l with
 | nil=>intro t;rfl
 | cons p r ih =>
  intro t
  obtain ⟨k,v⟩:=p
  rw [swS,U6,U6]
  by_cases h:t=k
  ·subst h;rw [upd_same,upd_same]
  ·rw [A4 _ _ h,A4 _ _ h];exact ih
theorem Sim.swap {n0 nt:Nat} {σ:St} {a:Act} {w:World} (h:Sim T c eb of' n0 nt σ a w) (hb:B2d T eb of') {i j:Nat} (hi:n0≤i∧i < σ.nx) (hj:n0≤j∧j < σ.nx) (hui:¬ eb.U i) (huj:¬ eb.U j):Sim T c eb of' n0 nt (σ.swap i j) a w:=by
 obtain ⟨e,rfl,hst⟩:=h
 have old:∀ {n:Nat},eb.U n→sw i j n=n:=fun {n} hu=>A6h (fun q=>hui (q ▸ hu)) (fun q=>huj (q ▸ hu))
 have hget:∀ id,put (fun _=>none) (σ.ob.toL fun j=>j) id=σ.ob.get id:=fun id=>by
  rw [A2o];unfold E0;cases σ.ob.get id<;>rfl
 have hover:∀ n,E0 (A1m .e (swM i j (σ.ob.toL fun j=>j))) of' n=match σ.ob.get (sw i j n) with
   | some o=>some (swO i j o)
   | none=>of' n:=by
  intro n
  rw [A0X,show E0 Tr.e of'=of' from funext fun j=>by unfold E0;rw [Tr.get_e],A5g,C9B _ (fun _=>none) (fun _=>none) (fun _=>rfl),hget]
  cases σ.ob.get (sw i j n)<;>rfl
 have hok:∀ n o,E0 (A1m .e (swM i j (σ.ob.toL fun j=>j))) of' n=some o→OK T (e.sw i j) n o∧(E0 σ.ob of' (sw i j n)).isSome:=by
  intro n o ho
  rw [hover] at ho
  split at ho
  ·rename_i o1 hg
   injection ho with ho;subst ho
   have h1:E0 σ.ob of' (sw i j n)=some o1:=by unfold E0;rw [hg]
   have:=(hst.os.ok _ _ h1).sw (i:=i) (j:=j)
   rw [sw_sw] at this
   exact ⟨this,by rw [h1];rfl⟩
  ·rename_i hg
   have hbo:=hb n o ho
   have hn:=old hbo.use
   rw [hn] at hg ⊢
   have h1:E0 σ.ob of' n=some o:=by unfold E0;rw [hg];exact ho
   have:=(hst.os.ok _ _ h1).sw (i:=i) (j:=j)
   rw [hn,D5r o (fun k hk=>⟨fun q=>hui (by rw [← q];exact hbo.used k hk),fun q=>huj (by rw [← q];exact hbo.used k hk)⟩)] at this
   exact ⟨this,by rw [h1];rfl⟩
 refine ⟨e.sw i j,rfl,⟨fun id o ho=>(hok id o ho).1,fun p q b o b' o' hp hq hb1 hb2 hne=>?_,fun p b o hp hb1=>?_,fun p b o hp hb1=>hst.os.lt _ b o hp hb1,hst.os.slt,hst.os.s0,hst.os.snew,hst.os.os,hst.os.tape,hst.os.output,hst.os.size,hst.os.block,hst.os.g.mono (fun _ _ q=>q) rfl (fun _ q=>q) (Nat.le_refl _) (fun p b o hp hb=>by
  obtain ⟨o1,ho1⟩:=E0w.1 hp
  exact .inl ⟨_,o,(hok _ _ ho1).2,hb⟩)⟩,?_,fun id A2=>?_,fun t=>?_,?_,hst.nt⟩
 ·obtain ⟨o1,ho1⟩:=E0w.1 hp
  obtain ⟨o2,ho2⟩:=E0w.1 hq
  exact hst.os.sep _ _ b o b' o' (hok _ _ ho1).2 (hok _ _ ho2).2 hb1 hb2 (fun k=>hne (D5o k))
 ·obtain ⟨o1,ho1⟩:=E0w.1 hp
  exact hst.os.own _ b o (hok _ _ ho1).2 hb1
 ·have k:∀ {n:Nat},eb.U n→(e.sw i j).ι n=e.ι n∧(e.sw i j).bn n=e.bn n∧(e.sw i j).ln n=e.ln n∧(e.sw i j).ty n=e.ty n∧((e.sw i j).U n↔e.U n):=fun {n} hu=>by
   have:=old hu
   refine ⟨?_,?_,?_,?_,?_⟩<;>simp only [B9.sw,this]
  exact ⟨hst.le.S,fun id hu=>(k hu).2.2.2.2.2 (hst.le.use id hu),fun id hu hq=>by rw [(k hu).1,(k hu).2.2.1];exact hst.le.obj id hu (by rw [← (k hu).2.1];exact hq),fun id hu h0=>by rw [(k hu).2.1];exact hst.le.box id hu h0,fun id hu=>by rw [(k hu).2.1];exact hst.le.up id hu,fun id hu=>by rw [(k hu).2.2.2.1];exact hst.le.ty id hu,hst.le.grow,hst.le.keep⟩
 ·by_cases h1:id=i
  ·subst h1;exact .inr hi
  ·by_cases h2:id=j
   ·subst h2;exact .inr hj
   ·have:e.U (sw i j id):=A2
    rw [A6h h1 h2] at this
    exact hst.U id this
 ·show C6 T _ (H2 (swS i j σ.sl) t) _
  rw [C9D]
  exact (hst.sl t).sw
 ·have:=hst.def_
  show A54 (e.sw i j) c.rd (match σ.mks with | some l=>some (l.map (sw i j)) | none=>none) a.defers
  cases hm:σ.mks with
  | none=>rw [hm] at this;exact this
  | some l=>rw [hm] at this;exact ⟨this.1,C2u this.2⟩
def St.permL (n0:Nat):List Nat→Nat→(Nat→Nat)→St→St
 | [],_,_,σ=>σ
 | id::r,k,f,σ=>bif H1 n0 σ.nx (f id)&&H1 n0 σ.nx k then St.permL n0 r (k+1) (fun n=>sw (f id) k (f n)) (σ.swap (f id) k) else σ
theorem St.permL_rd {n0:Nat}:∀ (l:List Nat) (k:Nat) (f:Nat→Nat) (σ:St),(St.permL n0 l k f σ).rd=σ.rd∧(St.permL n0 l k f σ).nx=σ.nx:=by
 intro l
 induction l with
 | nil=>intro k f σ;exact ⟨rfl,rfl⟩
 | cons id r ih =>
  intro k f σ
  unfold St.permL
  cases H1 n0 σ.nx (f id)&&H1 n0 σ.nx k
  ·exact ⟨rfl,rfl⟩
  ·exact ih (k+1) _ (σ.swap (f id) k)
theorem Sim.permL {n0 nt:Nat} {a:Act} {w:World} (hb:B2d T eb of'):∀ (l:List Nat) (k:Nat) (f:Nat→Nat) (σ:St),Sim T c eb of' n0 nt σ a w→(∀ id,n0≤id→id < σ.nx→¬ eb.U id)→Sim T c eb of' n0 nt (St.permL n0 l k f σ) a w:=by
 have isn:∀ {nx id:Nat},H1 n0 nx id=true→n0≤id∧id < nx:=fun {nx id} hq=>by
  simp only [H1,E0s] at hq
  exact ⟨E0x hq.1,by simpa [Nat.blt_eq] using hq.2⟩
 intro l
 induction l with
 | nil=>intro k f σ h _;exact h
 | cons id r ih =>
  intro k f σ h hn
  unfold St.permL
  cases hc:H1 n0 σ.nx (f id)&&H1 n0 σ.nx k with
  | false=>exact h
  | true =>
   simp only [E0s] at hc
   have h1:=isn hc.1
   have h2:=isn hc.2
   exact ih (k+1) _ (σ.swap (f id) k) (h.swap hb h1 h2 (hn _ h1.1 h1.2) (hn _ h2.1 h2.2)) hn
def St.met (σ:St) (n0:Nat) (ks:List Nat):List Nat :=
 (A5e σ.ob n0 σ.nx 1000 (A3G (A7c σ.ob n0 σ.nx (A1v σ.sl ks))++(mkL σ.mks++A7e σ.ob n0 σ.nx (σ.ob.toL fun j=>j))) []).reverse
def St.norm (σ:St) (n0:Nat) (ks:List Nat):Option St :=
 match ks with
 | k::r=>bif Nat.beq k 999999 then (St.permL n0 (σ.met n0 r) n0 (fun n=>n) σ).norm0 n0 r else σ.norm0 n0 (k::r)
 | []=>σ.norm0 n0 []
theorem Sim.norm {n0 nt:Nat} {σ σn:St} {a:Act} {w:World} {ks:List Nat} (h:Sim T c eb of' n0 nt σ a w) (hb:B2d T eb of') (hnew:∀ id,n0≤id→id < σ.nx→¬ eb.U id) (hn:σ.norm n0 ks=some σn):Sim T c eb of' n0 nt σn a w∧n0≤σn.nx∧σn.rd=σ.rd:=by
 unfold St.norm at hn
 split at hn
 ·rename_i k r
  cases hk:Nat.beq k 999999 with
  | false=>rw [hk] at hn;exact h.norm0 hb hnew hn
  | true =>
   rw [hk] at hn
   obtain ⟨p1,p2⟩:=St.permL_rd (n0:=n0) (σ.met n0 r) n0 (fun n=>n) σ
   have:=(Sim.permL hb _ n0 (fun n=>n) σ h hnew).norm0 hb (fun id h1 h2=>hnew id h1 (by rw [p2] at h2;exact h2)) hn
   exact ⟨this.1,this.2.1,this.2.2.trans p1⟩
 ·exact h.norm0 hb hnew hn
theorem C2A {α:Type} {q:Bool} {a b:α} (h:(bif q then some a else none)=some b):q=true∧a=b:=by
 cases q with
 | false=>cases h
 | true=>exact ⟨rfl,by simpa using h⟩
theorem B7z {σ σn:St} {n0:Nat} {ks:List Nat} (h:σ.norm n0 ks=some σn):σn.rd=σ.rd:=by
 have z:∀ {σ σn:St} {ks:List Nat},σ.norm0 n0 ks=some σn→σn.rd=σ.rd:=fun {σ σn ks} h=>by
  unfold St.norm0 at h
  simp only at h
  rw [← (C2A h).2]
 unfold St.norm at h
 split at h
 ·rename_i k r
  cases hk:Nat.beq k 999999 with
  | false=>rw [hk] at h;exact z h
  | true=>rw [hk] at h;exact (z h).trans (St.permL_rd (n0:=n0) (σ.met n0 r) n0 (fun n=>n) σ).1
 ·exact z h
def W9 (n0:Nat) (ks:List Nat) (M2:Nat) (f:St→Option (Exit×St)):Nat→St→Option (Exit×St)
 | 0,_=>none
 | n+1,σ=>bif Nat.ble σ.nx M2 then (match σ.norm n0 ks with
  | some σn=>match f σn with
   | some (ex,σ1)=>match ex with
    | .normal=>W9 n0 ks M2 f n σ1
    | ex=>bif Nat.ble σ1.nx M2 then (match σ1.norm n0 ks with
     | some σ2=>bif Nat.ble σ2.nx M2 then some (ex,{ σ2 with nx:=M2 }) else none
     | none=>none) else none
   | none=>none
  | none=>none) else none
theorem Sim.up {n0 nt m:Nat} {σ:St} {a:Act} {w:World} (h:Sim T c eb of n0 nt σ a w) (hm:σ.nx≤m):Sim T c eb of n0 nt { σ with nx:=m } a w:=by
 obtain ⟨e,rfl,hst⟩:=h
 exact ⟨e,rfl,hst.os,hst.le,fun id A2=>(hst.U id A2).imp (fun q=>q) (fun q=>⟨q.1,Nat.lt_of_lt_of_le q.2 hm⟩),hst.sl,hst.def_,hst.nt⟩
theorem B4X {nt n0 M2:Nat} {ks:List Nat} {body:Code} {f:St→Option (Exit×St)} (hf:∀ σ ex σ',f σ=some (ex,σ')→A4S P T nt n0 of body σ ex σ'):∀ (n:Nat) (σ:St) (ex:Exit) (σ':St),W9 n0 ks M2 f n σ=some (ex,σ') →
  σ.le σ'∧σ'.nx=M2∧∀ (m:Nat) (of':Nat→Option Ob) (c:P9) (eb:B9) (a:Act) (w:World),A3F of of' eb n0 σ'→B2d T eb of'→Sim T c eb of' n0 nt σ a w→Code.roundsIn (WF c.rd) m P body (fun e a' w'=>e=ex∧Sim T c eb of' n0 nt σ' a' w') n a w:=by
 intro n
 induction n with
 | zero=>intro σ ex σ' h;cases h
 | succ n ih =>
  intro σ ex σ' h
  simp only [W9] at h
  cases hle:Nat.ble σ.nx M2 with
  | false=>rw [hle] at h;cases h
  | true =>
  rw [hle] at h
  simp only [cond_true] at h
  have hle:=E0x hle
  split at h<;>try (cases h;done)
  rename_i σn hn
  split at h<;>try (cases h;done)
  rename_i ex1 σ1 hx
  obtain ⟨l1,k1⟩:=hf _ _ _ hx
  have hrd:σn.rd=σ.rd:=B7z hn
  have rdle:∀ id∈σ.rd,id∈σ1.rd:=fun id A2=>l1.1 id (by rw [hrd];exact A2)
  have round:∀ (m:Nat) (of':Nat→Option Ob) (c:P9) (eb:B9) (a:Act) (w:World),(∀ id∈σ1.rd,of' id=of id)→(∀ id,n0≤id→id < M2→¬ eb.U id)→σ1.nx≤M2→B2d T eb of'→Sim T c eb of' n0 nt σ a w→body.wpIn (WF c.rd) m P (fun e a' w'=>e=ex1∧Sim T c eb of' n0 nt σ1 a' w') a w:=fun m of' c eb a w h1 h2 h3 hbs hs=>by
   obtain ⟨s1,s2,s3⟩:=hs.norm hbs (fun id q1 q2=>h2 id q1 (Nat.lt_of_lt_of_le q2 hle)) hn
   exact k1 m of' c eb a w s2 ⟨h1,fun id q1 q2=>h2 id q1 (Nat.lt_of_lt_of_le q2 h3)⟩ hbs s1
  cases ex1 with
  | normal =>
   obtain ⟨l2,b2,k2⟩:=ih _ _ _ h
   have h3:σ1.nx≤M2:=by rw [← b2];exact l2.2
   refine ⟨⟨fun id A2=>l2.1 id (rdle id A2),by rw [b2];exact hle⟩,b2,fun m of' c eb a w hfit hbs hs=>?_⟩
   refine U0 ?_ (round m of' c eb a w (fun id A2=>hfit.rd id (l2.1 id A2)) (fun id q1 q2=>hfit.fr id q1 (by rw [b2];exact q2)) h3 hbs hs)
   rintro e' a' w' ⟨rfl,hs'⟩
   exact k2 m of' c eb a' w' hfit hbs hs'
  | _ =>
   simp only at h
   cases hb1:Nat.ble σ1.nx M2 with
   | false=>rw [hb1] at h;cases h
   | true =>
    rw [hb1] at h
    simp only [cond_true] at h
    have h3:=E0x hb1
    split at h<;>try (cases h;done)
    rename_i σ2 hn2
    cases hb2:Nat.ble σ2.nx M2 with
    | false=>rw [hb2] at h;cases h
    | true =>
    rw [hb2] at h
    simp only [cond_true,E0u,Prod.mk.injEq] at h
    obtain ⟨rfl,rfl⟩:=h
    have h4:=E0x hb2
    have hrd2:σ2.rd=σ1.rd:=B7z hn2
    refine ⟨⟨fun id A2=>by show id∈σ2.rd;rw [hrd2];exact rdle id A2,hle⟩,rfl,fun m of' c eb a w hfit hbs hs=>?_⟩
    refine U0 ?_ (round m of' c eb a w (fun id A2=>hfit.rd id (by show id∈σ2.rd;rw [hrd2];exact A2)) hfit.fr h3 hbs hs)
    rintro e' a' w' ⟨rfl,hs'⟩
    exact ⟨rfl,(hs'.norm hbs (fun id q1 q2=>hfit.fr id q1 (Nat.lt_of_lt_of_le q2 h3)) hn2).1.up h4⟩
theorem A9f {nt n0 M2 fu:Nat} {ks:List Nat} {body:Code} {f:St→Option (Exit×St)} (hf:∀ σ ex σ',f σ=some (ex,σ')→A4S P T nt n0 of body σ ex σ') {σ σ':St} {ex:Exit} (h:W9 n0 ks M2 f fu σ=some (ex,σ')):A4S P T nt n0 of (.loop body) σ ex σ':=by
 obtain ⟨l1,_,k1⟩:=B4X hf fu σ ex σ' h
 exact ⟨l1,fun m of' c eb a w hn hfit hbs hs=>wpIn_loop_rounds fu (k1 m of' c eb a w hfit hbs hs)⟩
variable {T:TT}
def ob {α R:Type} (o:Option α) (k:α→Option R):Option R :=
 match o with
 | some a=>k a
 | none=>none
abbrev D3:=(R:Type)→List A→(Nat→Option Ob)→Nat→(J2→Option R)→Option R
def D3.dir (s:D3):Sym:=fun args of nx=>s J2 args of nx some
def D3.nat (s:D3):Prop:=∀ (R:Type) (args:List A) (of:Nat→Option Ob) (nx:Nat) (k:J2→Option R),s R args of nx k=ob (s.dir args of nx) k
def A55 (s:Sym):D3:=fun _ args of nx k=>ob (s args of nx) k
theorem A3l (s:Sym):(A55 s).nat:=by
 intro R args of nx k
 simp only [A55,D3.dir]
 cases s args of nx<;>rfl
theorem A3m (s:Sym):(A55 s).dir=s:=by
 funext args of nx
 simp only [A55,D3.dir]
 cases s args of nx<;>rfl
variable {R:Type}
def B4Y (T:TT) (of:Nat→Option Ob) (el:Nat) (u:A) (k:List V×List Nat→Option R):Option R :=
 match u with
 | .w id ver off n=>match of id with
  | some (.row el' v xs _ _)=>bif Nat.beq el el'&&Nat.beq v ver then (bif Nat.ble (off+n) xs.length then k ((xs.drop off).take n,[id]) else none) else none
  | _=>none
 | u=>ob (Z7 T of el u) k
theorem A6v (of:Nat→Option Ob) (el:Nat) (u:A) (k:List V×List Nat→Option R):B4Y T of el u k=ob (Z7 T of el u) k:=by
 unfold B4Y
 split
 ·rename_i id ver off n
  simp only [Z7]
  cases of id with
  | none=>rfl
  | some o =>
   cases o with
   | row el' v xs nl sh=>simp only;cases (Nat.beq el el'&&Nat.beq v ver)<;>cases Nat.ble (off+n) xs.length<;>rfl
   | _=>rfl
 ·rfl
def A3Y (T:TT) (of:Nat→Option Ob) (t:Nat) (i:Int) (u:A) (k:A×List Nat→Option R):Option R :=
 match D2 T t with
 | some (.arr n el)=>bif (T el).isSome then bif F2 0 i&&C3 i n then
   (match u with
   | .p id t' path=>bif same T t t' then k (.p id el (path++[i.toNat]),[]) else none
   | .e id ver j t' path=>bif same T t t'&&B5U of id ver then k (.e id ver j el (path++[i.toNat]),[id]) else none
   | .c t' y=>bif same T t t' then k (.c el (y.nth i.toNat),[]) else none
   | _=>none)
  else none else none
 | some (.slice el)=>bif (T el).isSome then
   (match u with
   | .o id ver=>match of id with
    | some (.row el' v xs _ _)=>bif Nat.beq el el'&&Nat.beq v ver then (bif F2 0 i&&C3 i xs.length then k (.e id ver i.toNat el [],[id]) else none) else none
    | _=>none
   | .w id ver off n=>match of id with
    | some (.row el' v xs _ _)=>bif Nat.beq el el'&&Nat.beq v ver then (bif F2 0 i&&C3 i n then k (.e id ver (off+i.toNat) el [],[id]) else none) else none
    | _=>none
   | .v t' y=>bif same T t t' then (bif F2 0 i&&C3 i y.els.length then k (.c el (y.nth i.toNat),[]) else none) else none
   | .q t' y=>bif same T t t' then (bif F2 0 i&&C3 i y.els.length then k (.c el (y.nth i.toNat),[]) else none) else none
   | .a id t1 path l0 m=>match D2 T t1 with
    | some (.arr _ el')=>bif Nat.beq el el' then (bif F2 0 i&&C3 i m then k (.p id el (path++[l0+i.toNat]),[]) else none) else none
    | _=>none
   | _=>none)
  else none
 | _=>none
theorem A9g (of:Nat→Option Ob) (t:Nat) (i:Int) (u:A) (k:A×List Nat→Option R):A3Y T of t i u k=ob (A1h T of t i u) k:=by
 unfold A3Y A1h
 cases D2 T t with
 | none=>rfl
 | some kk =>
 cases kk with
 | arr n el =>
  simp only
  cases u with
  | p id t' path=>simp only;cases (T el).isSome<;>cases F2 0 i<;>cases C3 i (n:Int)<;>cases same T t t'<;>rfl
  | e id ver j t' path=>simp only;cases (T el).isSome<;>cases F2 0 i<;>cases C3 i (n:Int)<;>cases same T t t'<;>cases B5U of id ver<;>rfl
  | c t' y=>simp only;cases (T el).isSome<;>cases F2 0 i<;>cases C3 i (n:Int)<;>cases same T t t'<;>rfl
  | _=>simp only;cases (T el).isSome<;>cases F2 0 i<;>cases C3 i (n:Int)<;>rfl
 | slice el =>
  simp only
  cases (T el).isSome
  ·cases F2 0 i<;>rfl
  ·simp only [cond_true,Bool.and_true]
   cases u with
   | o id ver =>
    simp only
    cases of id with
    | none=>cases F2 0 i<;>rfl
    | some o =>
     cases o with
     | row el' v xs nl sh=>simp only;cases F2 0 i<;>cases (Nat.beq el el'&&Nat.beq v ver)<;>cases C3 i xs.length<;>rfl
     | _=>cases F2 0 i<;>rfl
   | w id ver off n =>
    simp only
    cases of id with
    | none=>cases F2 0 i<;>rfl
    | some o =>
     cases o with
     | row el' v xs nl sh=>simp only;cases F2 0 i<;>cases (Nat.beq el el'&&Nat.beq v ver)<;>cases C3 i n<;>rfl
     | _=>cases F2 0 i<;>rfl
   | v t' y=>simp only;cases F2 0 i<;>cases same T t t'<;>cases C3 i y.els.length<;>rfl
   | q t' y=>simp only;cases F2 0 i<;>cases same T t t'<;>cases C3 i y.els.length<;>rfl
   | a id t1 path l0 m =>
    simp only
    cases D2 T t1 with
    | none=>cases F2 0 i<;>rfl
    | some k1 =>
     cases k1 with
     | arr n' el'=>simp only;cases F2 0 i<;>cases Nat.beq el el'<;>cases C3 i m<;>rfl
     | _=>cases F2 0 i<;>rfl
   | _=>cases F2 0 i<;>rfl
 | _=>rfl
def B4Z (T:TT) (t:Nat) (i:Int) (u:A) (k:A→Option R):Option R :=
 match u with
 | .s l=>match D2 T t with
  | some .str=>bif F2 0 i&&C3 i l.length then k (.i .u8 (l.getD i.toNat .n).int) else none
  | _=>none
 | .v t' y=>match D2 T t with
  | some (.arr n el)=>bif same T t t'&&(T el).isSome then (bif F2 0 i&&C3 i n then k (mkA T el (y.nth i.toNat)) else none) else none
  | _=>none
 | _=>none
theorem B9G (t:Nat) (i:Int) (u:A) (k:A→Option R):B4Z T t i u k=ob (A8i T t i u) k:=by
 unfold B4Z A8i
 cases u with
 | s l =>
  simp only
  cases D2 T t with
  | none=>rfl
  | some k1=>cases k1 with
   | str=>simp only;cases (F2 0 i&&C3 i l.length)<;>rfl
   | _=>rfl
 | v t' y =>
  simp only
  cases D2 T t with
  | none=>rfl
  | some k1=>cases k1 with
   | arr n el=>simp only;cases same T t t'<;>cases (T el).isSome<;>cases F2 0 i<;>cases C3 i n<;>rfl
   | _=>rfl
 | _=>rfl
def D5s (op:BinOp) (kd:IntKind) (a b:Int) (k:A→Option R):Option R :=
 match op with
 | .quo=>bif Y5 b 0 then none else k (.i kd (kd.wrap (a.tdiv b)))
 | .rem=>bif Y5 b 0 then none else k (.i kd (a.tmod b))
 | .shl=>bif F2 0 b then k (.i kd (kd.wrap (a * 2 ^ min b.toNat kd.bits))) else none
 | .shr=>bif F2 0 b then k (.i kd (a.fdiv (2 ^ min b.toNat kd.bits))) else none
 | op=>ob (B14 op kd a b) k
theorem C9E (op:BinOp) (kd:IntKind) (a b:Int) (k:A→Option R):D5s op kd a b k=ob (B14 op kd a b) k:=by
 cases op<;>simp only [D5s,B14]
 ·cases Y5 b 0<;>rfl
 ·cases Y5 b 0<;>rfl
 ·cases F2 0 b<;>rfl
 ·cases F2 0 b<;>rfl
def D5t (op:BinOp) (x y:List V) (k:A→Option R):Option R :=
 match op with
 | .add=>bif Nat.ble (x.length+y.length) LIM then k (.s (x++y)) else none
 | op=>ob (B5S op x y) k
theorem C9F (op:BinOp) (x y:List V) (k:A→Option R):D5t op x y k=ob (B5S op x y) k:=by
 cases op<;>simp only [D5t,B5S]
 cases Nat.ble (x.length+y.length) LIM<;>rfl
def D5u (T:TT) (of:Nat→Option Ob) (op:BinOp) (xt:Nat) (u v:A) (k:A×List Nat→Option R):Option R :=
 match u,v with
 | .i kd a,.i k' b=>bif A6Q op||A9j kd k' then D5s op kd a b fun r=>k (r,[]) else none
 | .s a,.s b=>D5t op a b fun r=>k (r,[])
 | u,v=>ob (B5T T of op xt u v) k
theorem C9G (of:Nat→Option Ob) (op:BinOp) (xt:Nat) (u v:A) (k:A×List Nat→Option R):D5u T of op xt u v k=ob (B5T T of op xt u v) k:=by
 unfold D5u
 split
 ·rename_i kd a k' b
  simp only [B5T]
  cases (A6Q op||A9j kd k')
  ·rfl
  ·simp only [cond_true,if_true,C9E]
   cases B14 op kd a b<;>rfl
 ·rename_i a b
  simp only [B5T,C9F]
  cases B5S op a b<;>rfl
 ·rfl
def unC (op:UnOp) (u:A) (k:A→Option R):Option R :=
 match op,u with
 | .xor,.i kd n=>k (.i kd (H8 .xor kd (if kd.signed then -1 else kd.max) n))
 | op,u=>ob (unA op u) k
theorem B27 (op:BinOp) (kd:IntKind) (x y:Int):B5Y kd (H8 op kd x y)=true:=by
 have:=N8 kd (match op with
  | .and=>(BitVec.ofInt kd.bits x &&& BitVec.ofInt kd.bits y).toNat
  | .or=>(BitVec.ofInt kd.bits x ||| BitVec.ofInt kd.bits y).toNat
  | .xor=>(BitVec.ofInt kd.bits x ^^^ BitVec.ofInt kd.bits y).toNat
  | _=>(BitVec.ofInt kd.bits x &&& ~~~BitVec.ofInt kd.bits y).toNat:Nat)
 unfold B5Y
 rw [E0s,C5,C5]
 exact this
theorem D5v (op:UnOp) (u:A) (k:A→Option R):unC op u k=ob (unA op u) k:=by
 unfold unC
 split
 ·rename_i kd n
  simp only [unA,chk,B27,if_true]
  rfl
 ·rfl
def C9H (T:TT) (of:Nat→Option Ob) (t:Nat) (u:A) (k:A×List Nat→Option R):Option R :=
 match D2 T t with
 | some .str=>match u with
  | .s l=>bif Nat.ble l.length 9223372036854775807 then k (.i .i64 (l.length:Nat),[]) else none
  | _=>none
 | some (.slice el)=>match u with
  | .s _=>none
  | u=>B4Y T of el u fun p=>bif Nat.ble p.1.length 9223372036854775807 then k (.i .i64 (p.1.length:Nat),p.2) else none
 | some (.map _ _)=>match u with
  | .m id=>match of id with
   | some (.map _ _ es)=>bif Nat.ble es.length 9223372036854775807 then k (.i .i64 (es.length:Nat),[id]) else none
   | some (.vm _ _ es)=>bif Nat.ble es.length 9223372036854775807 then k (.i .i64 (es.length:Nat),[id]) else none
   | _=>none
  | _=>none
 | _=>none
theorem C9I (of:Nat→Option Ob) (t:Nat) (u:A) (k:A×List Nat→Option R):C9H T of t u k=ob (C6h T of t u) k:=by
 unfold C6h
 cases hq:A8b of u with
 | some q =>
  obtain ⟨id,kt',et',es⟩:=q
  obtain ⟨rfl,hof⟩:=A0n hq
  unfold C9H
  simp only
  cases hk:D2 T t with
  | none=>rfl
  | some kk=>cases kk with
   | map kt et=>simp only [hof];cases Nat.ble es.length 9223372036854775807<;>rfl
   | slice el=>simp only [B4Y,Z7];rfl
   | _=>rfl
 | none =>
 simp only
 unfold C9H C0G
 cases D2 T t with
 | none=>rfl
 | some kk =>
  cases kk with
  | str=>cases u with
   | s l=>simp only;cases Nat.ble l.length 9223372036854775807<;>rfl
   | _=>rfl
  | slice el =>
   have gen:∀ o:Option (List V×List Nat),ob o (fun p=>bif Nat.ble p.1.length 9223372036854775807 then k (A.i .i64 (p.1.length:Nat),p.2) else none)=ob (match o with | some (xs,ro)=>(if Nat.ble xs.length 9223372036854775807=true then some (A.i .i64 (xs.length:Nat),ro) else none) | none=>none) k:=by
    intro o
    cases o with
    | none=>rfl
    | some p=>simp only [ob];cases Nat.ble p.1.length 9223372036854775807<;>rfl
   cases u with
   | s l=>simp only;cases Z7 T of el (.s l)<;>rfl
   | _=>simp only [A6v];exact gen _
  | map kt et=>cases u with
   | m id =>
    simp only
    cases A2:of id with
    | none=>rfl
    | some o=>cases o with
     | map kt' et' es=>simp only;cases Nat.ble es.length 9223372036854775807<;>rfl
     | vm kt' et' es=>exfalso;unfold A8b at hq;simp only [A2] at hq;cases hq
     | _=>rfl
   | _=>rfl
  | _=>rfl
def B09 (T:TT) (of:Nat→Option Ob) (nx t:Nat) (x y:A) (k:Out→Option R):Option R :=
 match D2 T t with
 | some (.slice el)=>match T el with
  | some te=>B4Y T of el y fun p=>bif Nat.ble te.bytes 131072&&TK.notOther te.k&&Nat.blt 0 te.size then
    (match x with
    | .o id ver=>match of id with
     | some (.row el' v xs nl sh)=>bif Nat.beq el el'&&Nat.beq v ver then (bif Nat.ble (xs.length+p.1.length) LIM then
       k ⟨.o id (ver+1),[(id,.row el (ver+1) (xs++p.1) (nl&&p.1.isEmpty) sh)],id::p.2,[]⟩ else none) else none
     | _=>none
    | .w id ver off n=>match of id with
     | some (.row el' v xs false sh)=>bif Nat.beq el el'&&Nat.beq v ver then (bif Nat.ble (off+n) xs.length then (bif Nat.beq (off+n) xs.length||!sh then (bif Nat.ble (n+p.1.length) LIM then
       k ⟨.o id (ver+1),[(id,.row el (ver+1) ((xs.drop off).take n++p.1) false sh)],id::p.2,[]⟩ else none) else none) else none) else none
     | _=>none
    | .v t' .n=>bif same T t t' then (bif Nat.ble p.1.length LIM then k ⟨.o nx 1,[(nx,.row el 1 p.1 p.1.isEmpty false)],p.2,[nx]⟩ else none) else none
    | .z v=>bif A8N v then (bif Nat.ble p.1.length LIM then k ⟨.o nx 1,[(nx,.row el 1 p.1 p.1.isEmpty false)],p.2,[nx]⟩ else none) else none
    | .q t' x=>bif same T t t' then (bif !p.1.isEmpty then (bif Nat.ble (x.els.length+p.1.length) LIM then k ⟨.o nx 1,[(nx,.row el 1 (x.els++p.1) p.1.isEmpty false)],p.2,[nx]⟩ else none) else none) else none
    | _=>none)
   else none
  | none=>none
 | _=>none
theorem B40 (of:Nat→Option Ob) (nx t:Nat) (x y:A) (k:Out→Option R):B09 T of nx t x y k=ob (A43 T of nx t x y) k:=by
 unfold B09 A43
 cases D2 T t with
 | none=>rfl
 | some kk =>
 cases kk with
 | slice el =>
  simp only
  cases T el with
  | none=>rfl
  | some te =>
   simp only [A6v]
   cases Z7 T of el y with
   | none=>rfl
   | some p =>
    obtain ⟨ns,ro⟩:=p
    simp only [ob]
    cases (Nat.ble te.bytes 131072&&TK.notOther te.k&&Nat.blt 0 te.size)
    ·rfl
    ·simp only [cond_true,if_true]
     cases x with
     | o id ver =>
      simp only
      cases of id with
      | none=>rfl
      | some o=>cases o with
       | row el' v xs nl sh=>simp only;cases (Nat.beq el el'&&Nat.beq v ver)<;>cases Nat.ble (xs.length+ns.length) LIM<;>rfl
       | _=>rfl
     | w id ver off n =>
      simp only
      cases of id with
      | none=>rfl
      | some o=>cases o with
       | row el' v xs nl sh=>cases nl<;>simp only<;>cases (Nat.beq el el'&&Nat.beq v ver)<;>cases Nat.ble (off+n) xs.length<;>cases (Nat.beq (off+n) xs.length||!sh)<;>cases Nat.ble (n+ns.length) LIM<;>rfl
       | _=>rfl
     | v t' y=>cases y with
      | n=>simp only;cases same T t t'<;>cases Nat.ble ns.length LIM<;>rfl
      | _=>rfl
     | z v=>simp only;cases A8N v<;>cases Nat.ble ns.length LIM<;>rfl
     | q t' x'=>simp only;cases same T t t'<;>cases ns.isEmpty<;>cases Nat.ble (x'.els.length+ns.length) LIM<;>rfl
     | _=>rfl
 | _=>rfl
variable {T:TT} {R:Type}
def A0M (n:Nat) (lo hi:Option A) (k:Nat×Nat→Option R):Option R :=
 match M2 (0:Nat) lo,M2 n hi with
 | some l,some h=>bif F2 0 l&&F2 l h&&F2 h n then k (l.toNat,(h - l).toNat) else none
 | _,_=>none
theorem A0j (n:Nat) (lo hi:Option A) (k:Nat×Nat→Option R):A0M n lo hi k=ob (V3 n lo hi) k:=by
 unfold A0M V3
 cases M2 (0:Nat) lo with
 | none=>rfl
 | some l=>cases M2 n hi with
  | none=>rfl
  | some h=>simp only;cases (F2 0 l&&F2 l h&&F2 h n)<;>rfl
def B41 (T:TT) (of:Nat→Option Ob) (t:Nat) (u:A) (lo hi mx:Option A) (k:A×List (Nat×Ob)×List Nat→Option R):Option R :=
 match mx with
 | some mx=>(match D2 T t with
  | some (.slice el)=>bif (T el).isSome&&isQ T u then
    (match M2 (0:Nat) lo,hi,mx with
    | some l,some (.i _ h),.i _ h'=>bif Y5 h h' then (match Q4 T DEP of t u with
     | some (x,wo)=>bif F2 0 l&&F2 l h&&F2 h x.els.length then k (.q t (A5N x l.toNat (h - l).toNat),wo,X5 wo) else none
     | none=>none) else none
    | _,_,_=>none) else none
  | _=>none)
 | none =>
 match D2 T t with
 | some .str=>match u with
  | .s l=>A0M l.length lo hi fun p=>k (.s ((l.drop p.1).take p.2),[],[])
  | _=>none
 | some (.slice el)=>bif (T el).isSome&&isQ T u then
   (match zV T t u with
    | .v t' y=>bif same T t t' then A0M y.els.length lo hi fun p=>k (.v t' (A5N y p.1 p.2),[],[]) else none
    | .w id ver off n=>match of id with
     | some (.row el' v xs _ _)=>bif Nat.beq el el'&&Nat.beq v ver then A0M n lo hi fun p=>k (.w id ver (off+p.1) p.2,[],[id]) else none
     | _=>none
    | .o id ver=>match of id with
     | some (.row el' v xs false _)=>bif Nat.beq el el'&&Nat.beq v ver then A0M xs.length lo hi fun p=>k (.w id ver (0+p.1) p.2,[],[id]) else none
     | some (.row el' v xs true _)=>bif Nat.beq el el'&&Nat.beq v ver&&X7 T t then A0M 0 lo hi fun p=>k (.v t (A5N .n p.1 p.2),[],[id]) else none
     | _=>none
    | .a id t1 path lo0 m=>match D2 T t1 with
     | some (.arr _ el')=>bif Nat.beq el el' then A0M m lo hi fun p=>k (.a id t1 path (lo0+p.1) p.2,[],[]) else none
     | _=>none
    | _=>none)
  else none
 | some (.arr n el)=>match u with
  | .p id t1 path=>bif same T t t1&&(T el).isSome then A0M n lo hi fun p=>k (.a id t1 path p.1 p.2,[],[]) else none
  | _=>none
 | _=>none
theorem Q2 {α:Type} (q:Bool) (a:Option α) (k:α→Option R):ob (if q=true then a else none) k=bif q then ob a k else none:=by cases q<;>rfl
theorem B9H (of:Nat→Option Ob) (t:Nat) (u:A) (lo hi mx:Option A) (k:A×List (Nat×Ob)×List Nat→Option R):B41 T of t u lo hi mx k=ob (A5A T of t u lo hi mx) k:=by
 unfold B41
 cases mx with
 | some m =>
  unfold A5A
  simp only
  cases D2 T t with
  | none=>rfl
  | some kk =>
  cases kk with
  | str=>cases u<;>rfl
  | slice el =>
   simp only [Q2]
   cases ((T el).isSome&&isQ T u)
   ·rfl
   ·simp only [cond_true]
    cases M2 (0:Nat) lo with
    | none=>rfl
    | some l=>cases hi with
     | none=>rfl
     | some a=>cases a with
      | i k1 h=>cases m with
       | i k2 h' =>
        simp only [Q2]
        cases Y5 h h'
        ·rfl
        ·simp only [cond_true]
         cases Q4 T DEP of t u with
         | none=>rfl
         | some p=>obtain ⟨x,wo⟩:=p;simp only [Q2];cases (F2 0 l&&F2 l h&&F2 h x.els.length)<;>rfl
       | _=>rfl
      | _=>rfl
  | arr n el=>cases u<;>rfl
  | _=>rfl
 | none =>
 unfold A5A
 simp only
 cases D2 T t with
 | none=>rfl
 | some kk =>
 cases kk with
 | str=>cases u with
  | s l=>simp only [A0j];cases V3 l.length lo hi<;>rfl
  | _=>rfl
 | slice el =>
  simp only [Q2]
  cases ((T el).isSome&&isQ T u)
  ·rfl
  ·simp only [cond_true]
   cases zV T t u with
   | v t' y=>simp only [Q2,A0j];cases V3 y.els.length lo hi<;>rfl
   | w id ver off n =>
    simp only
    cases of id with
    | none=>rfl
    | some o=>cases o with
     | row el' v xs nl sh=>simp only [Q2,A0j];cases V3 n lo hi<;>rfl
     | _=>rfl
   | o id ver =>
    simp only
    cases of id with
    | none=>rfl
    | some o=>cases o with
     | row el' v xs nl sh=>cases nl<;>simp only [Q2,A0j]
                           ·cases V3 xs.length lo hi<;>rfl
                           ·cases V3 0 lo hi<;>rfl
     | _=>rfl
   | a id t1 path lo0 m =>
    simp only
    cases D2 T t1 with
    | none=>rfl
    | some k1=>cases k1 with
     | arr n' el'=>simp only [Q2,A0j];cases V3 m lo hi<;>rfl
     | _=>rfl
   | _=>rfl
 | arr n el=>cases u with
  | p id t1 path=>simp only [Q2,A0j];cases V3 n lo hi<;>rfl
  | _=>rfl
 | _=>rfl
def A3Z (T:TT) (nx t:Nat) (u v:A) (k:J2→Option R):Option R :=
 match D2 T t,u,v with
 | some (.slice el),.i _ a,.i _ b=>match T el with
  | some te=>bif Nat.blt 0 te.size&&TK.notOther te.k&&Nat.ble te.bytes 131072 then (bif F2 0 a&&F2 a b&&F2 b LIM then k ⟨.o nx 1,[(nx,.row el 1 (List.replicate a.toNat te.zero) false false)],[],nx+1⟩ else none) else none
  | none=>none
 | _,_,_=>none
theorem A9h (nx t:Nat) (u v:A) (k:J2→Option R):A3Z T nx t u v k=ob (A2n T nx t u v) k:=by
 unfold A3Z A2n
 cases D2 T t with
 | none=>rfl
 | some kk=>cases kk with
  | slice el=>cases u with
   | i k1 a=>cases v with
    | i k2 b =>
     simp only
     cases T el with
     | none=>rfl
     | some te =>
      simp only
      cases Nat.blt 0 te.size<;>cases TK.notOther te.k<;>cases Nat.ble te.bytes 131072<;>cases F2 0 a<;>cases F2 a b<;>cases F2 b LIM<;>rfl
    | _=>rfl
   | _=>rfl
  | _=>rfl
def D5w (T:TT) (of:Nat→Option Ob) (t:Nat) (u:A) (k:A×List (Nat×Ob)×List Nat→Option R):Option R :=
 match u with
 | .v t' y=>match D2 T t with
  | some (.arr n el)=>bif Nat.blt 0 n&&Nat.beq (C1 T t) (n * C1 T el) then
   (match D2 T t' with
    | some (.slice el')=>bif Nat.beq el el' then (bif Nat.ble n y.els.length then k (.c t (.l (y.els.take n)),[],[]) else none) else none
    | _=>none) else none
  | _=>none
 | .o id ver=>match D2 T t with
  | some (.arr n el)=>bif Nat.blt 0 n&&Nat.beq (C1 T t) (n * C1 T el) then
   (match of id with
    | some (.row el' v xs false _)=>bif Nat.beq el el'&&Nat.beq v ver then (bif Nat.ble n xs.length then k (.c t (.l (xs.take n)),[(id,.row el' ver xs false true)],[id]) else none) else none
    | _=>none) else none
  | _=>none
 | u=>ob (B5Z T of t u) k
theorem C9J (of:Nat→Option Ob) (t:Nat) (u:A) (k:A×List (Nat×Ob)×List Nat→Option R):D5w T of t u k=ob (B5Z T of t u) k:=by
 unfold D5w
 cases u with
 | v t' y =>
  simp only [B5Z]
  cases D2 T t with
  | none=>rfl
  | some kk=>cases kk with
   | arr n el =>
    simp only [Q2]
    cases D2 T t' with
    | none=>rfl
    | some k1=>cases k1 with
     | slice el'=>simp only [Q2];cases (Nat.blt 0 n&&Nat.beq (C1 T t) (n * C1 T el))<;>cases Nat.beq el el'<;>cases Nat.ble n y.els.length<;>rfl
     | _=>rfl
   | _=>rfl
 | o id ver =>
  simp only [B5Z]
  cases D2 T t with
  | none=>rfl
  | some kk=>cases kk with
   | arr n el =>
    simp only [Q2]
    cases of id with
    | none=>rfl
    | some o=>cases o with
     | row el' v xs nl sh=>cases nl
                           ·simp only [Q2];cases (Nat.blt 0 n&&Nat.beq (C1 T t) (n * C1 T el))<;>cases (Nat.beq el el'&&Nat.beq v ver)<;>cases Nat.ble n xs.length<;>rfl
                           ·rfl
     | _=>rfl
   | _=>rfl
 | _=>rfl
def oc {α β:Type} (o:Option α) (s:α→β) (n:β):β :=
 match o with
 | some a=>s a
 | none=>n
def B7A (T:TT) (of:Nat→Option Ob) (t:Nat) (m k:A) (okk:Bool) (kk:A×List Nat→Option R):Option R :=
 match D2 T t with
 | some (.map kt et)=>match T et,A1D T kt k with
  | some te,some kv=>bif TK.notOther te.k then
    (bif A2y T t m then kk (okA okk (mkA T et te.zero) false,[]) else
    match m with
    | .m id=>match of id with
     | some (.map kt' et' es)=>bif Nat.beq kt kt'&&Nat.beq et et' then oc (A4H kv es) (fun a=>kk (okA okk (norm T a) true,[id])) (kk (okA okk (mkA T et te.zero) false,[id])) else none
     | some (.vm kt' et' es)=>bif Nat.beq kt kt'&&Nat.beq et et' then (bif P0 kv es then kk (okA okk (mkA T et (L9 kv es)) true,[id]) else kk (okA okk (mkA T et te.zero) false,[id])) else none
     | _=>none
    | _=>none)
   else none
  | _,_=>none
 | _=>none
theorem C2B (of:Nat→Option Ob) (t:Nat) (m k:A) (okk:Bool) (kk:A×List Nat→Option R):B7A T of t m k okk kk=ob (B0t T of t m k okk) kk:=by
 unfold B0t
 cases hq:A8b of m with
 | some q =>
  obtain ⟨id,kt',et',es⟩:=q
  obtain ⟨rfl,hof⟩:=A0n hq
  unfold B7A C6c
  simp only
  cases D2 T t with
  | none=>rfl
  | some k1=>cases k1 with
   | map kt et =>
    simp only
    cases T et with
    | none=>rfl
    | some te=>cases A1D T kt k with
     | none=>rfl
     | some kv =>
      simp only [Q2,show A2y T t (.m id)=false from rfl,cond_false,hof]
      cases TK.notOther te.k
      ·rfl
      ·simp only [cond_true]
       cases (Nat.beq kt kt'&&Nat.beq et et')
       ·rfl
       ·simp only [cond_true]
        cases P0 kv es<;>rfl
   | _=>rfl
 | none =>
 simp only
 unfold B7A B0p
 cases D2 T t with
 | none=>rfl
 | some k1=>cases k1 with
  | map kt et =>
   simp only
   cases T et with
   | none=>rfl
   | some te=>cases A1D T kt k with
    | none=>rfl
    | some kv =>
     simp only [Q2]
     cases TK.notOther te.k
     ·rfl
     ·simp only [cond_true]
      cases A2y T t m
      ·simp only [cond_false]
       cases m with
       | m id =>
        simp only
        cases A2:of id with
        | none=>rfl
        | some o=>cases o with
         | map kt' et' es =>
          simp only [Q2]
          cases (Nat.beq kt kt'&&Nat.beq et et')
          ·rfl
          ·simp only [cond_true]
           cases A4H kv es<;>rfl
         | vm kt' et' es=>exfalso;unfold A8b at hq;simp only [A2] at hq;cases hq
         | _=>rfl
       | _=>rfl
      ·rfl
  | _=>rfl
def C2C (T:TT) (of:Nat→Option Ob) (nx s t:Nat) (u:A) (k:Out→Option R):Option R :=
 match u with
 | .w id ver off n=>match D2 T t with
  | some .str=>match D2 T s with
   | some (.slice el)=>match D2 T el with
    | some (.int .u8)=>bif Nat.beq (C1 T el) 1 then B4Y T of el (.w id ver off n) fun p=>k ⟨.s p.1,[],p.2,[]⟩ else none
    | _=>none
   | _=>none
  | _=>ob (A8j T of nx s t (.w id ver off n)) k
 | u=>ob (A8j T of nx s t u) k
theorem C2D (of:Nat→Option Ob) (nx s t:Nat) (u:A) (k:Out→Option R):C2C T of nx s t u k=ob (A8j T of nx s t u) k:=by
 unfold C2C
 cases u with
 | w id ver off n =>
  simp only
  cases hk:D2 T t with
  | none=>rfl
  | some kk=>cases kk with
   | str =>
    simp only [A8j,hk,bytesOf]
    cases D2 T s with
    | none=>rfl
    | some k1=>cases k1 with
     | slice el =>
      simp only
      cases D2 T el with
      | none=>rfl
      | some k2=>cases k2 with
       | int ki=>cases ki<;>try rfl
                 simp only [A6v]
                 cases Nat.beq (C1 T el) 1
                 ·rfl
                 ·simp only [cond_true,if_true];cases Z7 T of el (.w id ver off n)<;>rfl
       | _=>rfl
     | _=>rfl
   | _=>rfl
 | _=>rfl
def C2E (T:TT) (of:Nat→Option Ob) (t xt:Nat) (u v:A) (k:A×List (Nat×Ob)×List Nat→Option R):Option R :=
 match D2 T t with
 | some (.slice el)=>bif A44 T xt v&&(T el).isSome then
   B4Y T of el v fun p=>bif Nat.ble p.1.length LIM then
    (match u with
    | .a id t1 path lo m=>match D2 T t1,of id with
     | some (.arr N el'),some (.box t0 a false)=>match atA T a path with
      | some (.v t2 y)=>bif Nat.beq el el'&&Nat.beq t1 t2 then
        (bif p.1.isEmpty then (match Z7 T of el (.a id t1 path lo m) with
         | some q=>k (.i .i64 0,[],p.2++q.2)
         | none=>none) else
         bif Nat.ble p.1.length m&&Nat.ble (lo+m) N then (match A3H T a path (.v t1 (.l (A0m y.els lo p.1))) with
          | some a'=>k (.i .i64 (p.1.length:Nat),[(id,.box t0 a' false)],id::p.2)
          | none=>none) else none) else ob (A0H T of t xt u v) k
      | _=>ob (A0H T of t xt u v) k
     | _,_=>ob (A0H T of t xt u v) k
    | u=>ob (A0H T of t xt u v) k)
    else none
  else none
 | _=>none
theorem C2F (of:Nat→Option Ob) (t xt:Nat) (u v:A) (k:A×List (Nat×Ob)×List Nat→Option R):C2E T of t xt u v k=ob (A0H T of t xt u v) k:=by
 unfold C2E
 cases hk:D2 T t with
 | none=>simp only [A0H,hk];rfl
 | some kk=>cases kk with
  | slice el =>
   simp only [A6v]
   cases hq:(A44 T xt v&&(T el).isSome) with
   | false=>simp only [A0H,hk,hq];rfl
   | true =>
    simp only [cond_true]
    cases hs:Z7 T of el v with
    | none=>simp only [A0H,hk,hq,hs];rfl
    | some p =>
     obtain ⟨ns,ro⟩:=p
     simp only [ob]
     cases hl:Nat.ble ns.length LIM with
     | false=>simp only [A0H,hk,hq,hs,hl];rfl
     | true =>
      simp only [cond_true]
      cases u with
      | a id t1 path lo m =>
       simp only
       cases hk1:D2 T t1 with
       | none=>rfl
       | some k1=>cases k1 with
        | arr N el' =>
         cases ho:of id with
         | none=>rfl
         | some o=>cases o with
          | box t0 a sh=>cases sh
                         ·simp only
                          cases ha:atA T a path with
                          | none=>rfl
                          | some a1=>cases a1 with
                           | v t2 y =>
                            simp only
                            cases hb:(Nat.beq el el'&&Nat.beq t1 t2) with
                            | false=>rfl
                            | true =>
                             simp only [cond_true]
                             cases ns with
                             | nil =>
                              simp only [List.isEmpty_nil,cond_true,A0H,hk,hq,hs,hl,if_true]
                              cases Z7 T of el (.a id t1 path lo m)<;>rfl
                             | cons n0 nr =>
                              simp only [List.isEmpty_cons,cond_false,A0H,hk,hq,hs,hl,hk1,ho,ha,hb,if_true,Bool.true_and]
                              cases Nat.ble (n0::nr).length m<;>cases Nat.ble (lo+m) N<;>try rfl
                              simp only [Bool.true_and,cond_true,if_true]
                              cases A3H T a path (.v t1 (.l (A0m y.els lo (n0::nr))))<;>rfl
                           | _=>rfl
                         ·rfl
          | _=>rfl
        | _=>rfl
      | _=>rfl
  | _=>simp only [A0H,hk];rfl
end Go.Vm
end