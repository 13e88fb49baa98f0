/- What the operations of a program do, shown once for all programs; and numbers. -/
import Derived.Test.YteoeonfajlnggaaGreatVm6
set_option linter.constructorNameAsVariable false
set_option linter.unusedVariables false
set_option linter.unusedSimpArgs false
noncomputable section
namespace Go.Vm
open Go.RowKit
variable {P:Program} {T:TT} {c:J8} {e eb:B4} {of of':Nat→Option Ob}
theorem RV.change {e e':B4} (hf:∀ a ds,Fz e a ds→Fz e' a ds) {ts:List Nat} {xs:List V} {cs:List Value} (h:RV T e ts xs cs):RV T e' ts xs cs:=by
 induction h with
 | nil=>exact .nil
 | int h1 h2 hr _ ih=>exact .int h1 h2 hr ih
 | bool h1 h2 _ ih=>exact .bool h1 h2 ih
 | str h1 h2 _ ih=>exact .str h1 h2 ih
 | ptr h1 h2 _ ih=>exact .ptr h1 h2 ih
 | nils h1 h2 _ ih=>exact .nils h1 h2 ih
 | map h1 h2 _ ih=>exact .map h1 h2 ih
 | func h1 h2 _ ih=>exact .func h1 h2 ih
 | fn h1 h2 _ ih=>exact .fn h1 h2 ih
 | slice h1 h2 h3 h4 h5 _ _ ih1 ih=>exact .slice h1 h2 h3 h4 (hf _ _ h5) ih1 ih
 | arr h1 h2 _ _ ih1 ih=>exact .arr h1 h2 ih1 ih
 | struct h1 h2 _ _ ih1 ih=>exact .struct h1 h2 ih1 ih
theorem SR.move {e e':B4} (hf:∀ a ds,Fz e a ds→Fz e' a ds) (hw:e'.w=e.w) (hS:∀ b i,e'.S b i→e.S b i) {a kt st el:Nat} (hG:∀ b,e.G a b→e'.G a b) {ho:Option V} {es:List (V×V×Bool)} {ms:List MapEntry} {bs:List Nat} (h:SR T e a kt st el ho es ms bs):SR T e' a kt st el ho es ms bs:=by
 induction h with
 | nil=>exact .nil
 | cons h0 hd _ ih =>
  refine .cons ?_ hd ih
  cases h0 with
  | lent h1 h2 h3=>exact .lent ⟨h1.1.change hf,h1.2⟩ h2 h3
  | data h1 h2=>exact .data ⟨h1.1.change hf,h1.2⟩ (h2.change hf)
  | own h1 h2 h0 h3 h5 h6 h7 h8 h9 h10 h11 h12=>exact .own ⟨h1.1.change hf,h1.2⟩ h2 h0 (hG _ h3) (by rw [hw];exact h5) (by rw [hw];exact h6) h7 h8 (h9.change hf) h10 h11 (fun i hi hs=>h12 i hi (hS _ _ hs))
theorem SR.change {e e':B4} (hf:∀ a ds,Fz e a ds→Fz e' a ds) (hw:e'.w=e.w) (hS:∀ b i,e'.S b i→e.S b i) (hG:∀ a b,e.G a b→e'.G a b) {a kt st el:Nat} {ho:Option V} {es:List (V×V×Bool)} {ms:List MapEntry} {bs:List Nat} (h:SR T e a kt st el ho es ms bs):SR T e' a kt st el ho es ms bs:=h.move hf hw hS (hG a)
mutual
def E1:A→List Nat
 | .p id _ _=>[id]
 | .e id _ _ _ _=>[id]
 | .o id _=>[id]
 | .w id _ _ _=>[id]
 | .a id _ _ _ _=>[id]
 | .m id=>[id]
 | .y id=>[id]
 | .f _ l=>E5 l
 | .g _ l=>E5 l
 | .t l=>E5 l
 | _=>[]
def E5:List A→List Nat
 | []=>[]
 | a::r=>E1 a++E5 r
end
def A2X:List (V×A)→List Nat
 | []=>[]
 | p::r=>E1 p.2++A2X r
def A3x:List (Nat×A)→List Nat
 | []=>[]
 | p::r=>E1 p.2++A3x r
theorem C0C:∀ (l:List (Nat×A)) p,p∈l→∀ id∈E1 p.2,id∈A3x l:=by
 intro l
 induction l with
 | nil=>intro p hp;cases hp
 | cons q r ih =>
  intro p hp id A3
  simp only [A3x,D55]
  rcases List.mem_cons.1 hp with rfl | hp
  ·exact .inl A3
  ·exact .inr (ih p hp id A3)
def A1E:Ob→List Nat
 | .box _ a _=>E1 a
 | .row _ _ _ _ _=>[]
 | .map _ _ es=>A2X es
 | .vm _ _ _=>[]
 | .sm _ _ _ _ _=>[]
 | .lp (some r)=>A3x r.sl
 | .lp none=>[]
 | .it (some m)=>[m]
 | .it none=>[]
theorem B2x {et:Nat}:∀ {es:List (V×V)},∀ p∈vms et es,E1 p.2=[]:=by
 intro es
 induction es with
 | nil=>intro p hp;cases hp
 | cons q r ih =>
  intro p hp
  rcases List.mem_cons.1 hp with rfl | hp
  ·rfl
  ·exact ih p hp
theorem R1.use {a:A} {v:Value} (h:R1 T e a v):∀ id∈E1 a,e.U id:=by
 cases a<;>simp only [E1,List.mem_singleton]<;>intro id A3
 case p=>subst A3;obtain ⟨b,off,h1,_⟩:=h;exact h1
 case e=>subst A3;exact h.2.1
 case o=>subst A3;exact h.2.1
 case w=>subst A3;exact h.2.1
 case a=>subst A3;obtain ⟨b,off,n,el,k,cap,h1,_⟩:=h;exact h1
 case m=>subst A3;obtain ⟨b,h1,_⟩:=h;exact h1
 case y=>subst A3;obtain ⟨b,h1,_⟩:=h;exact h1
 case f=>exact h.elim
 case g=>exact h.elim
 case t=>exact h.elim
 all_goals cases A3
theorem RA.use {l:List A} {cs:List Value} (h:RA T e l cs):∀ id∈E5 l,e.U id:=by
 induction h with
 | nil=>intro id h;cases h
 | f _ _ ih1 ih=>intro id h;simp only [E5,E1,D55] at h;exact h.elim (ih1 id) (ih id)
 | g _ _ _ _ _ ih1 ih=>intro id h;simp only [E5,E1,D55] at h;exact h.elim (ih1 id) (ih id)
 | r h1 _ _ ih=>intro id h;simp only [E5,D55] at h;exact h.elim (h1.use id) (ih id)
 | _=>rename_i ih;intro id h;simp only [E5,E1,List.nil_append] at h;exact ih id h
def G9 (n0 nx id:Nat):Bool:=Nat.ble n0 id&&Nat.blt id nx
def A2Y (ob:Tr) (n0 nx id:Nat):Option Nat :=
 bif G9 n0 nx id then (match ob.get id with
  | some (.row _ v _ _ _)=>some v
  | _=>none) else none
def A40 (ob:Tr) (n0 nx id ver:Nat) (k:Nat→A):A :=
 match A2Y ob n0 nx id with
 | some v=>bif Nat.beq v ver then k 1 else .x
 | none=>k ver
mutual
def W1 (ob:Tr) (n0 nx:Nat):A→A
 | .e id ver i t path=>A40 ob n0 nx id ver fun v=>.e id v i t path
 | .o id ver=>A40 ob n0 nx id ver fun v=>.o id v
 | .w id ver off n=>A40 ob n0 nx id ver fun v=>.w id v off n
 | .f fn l=>.f fn (Y0 ob n0 nx l)
 | .g t l=>.g t (Y0 ob n0 nx l)
 | .t l=>.t (Y0 ob n0 nx l)
 | a=>a
def Y0 (ob:Tr) (n0 nx:Nat):List A→List A
 | []=>[]
 | a::r=>W1 ob n0 nx a::Y0 ob n0 nx r
end
def A6Z (ob:Tr) (n0 nx:Nat):List (Nat×A)→List (Nat×A)
 | []=>[]
 | p::r=>(p.1,W1 ob n0 nx p.2)::A6Z ob n0 nx r
def A4c (ob:Tr) (n0 nx id:Nat):Ob→Ob
 | .box t a sh=>.box t (W1 ob n0 nx a) sh
 | .row el ver xs nl sh=>.row el (bif G9 n0 nx id then 1 else ver) xs nl sh
 | .map kt et es=>.map kt et es
 | .vm kt et es=>.vm kt et es
 | .sm kt st el es ho=>.sm kt st el es ho
 | .lp (some r)=>.lp (some { r with sl:=A6Z ob n0 nx r.sl })
 | .lp none=>.lp none
 | .it q=>.it q
theorem C0D (ob:Tr) (n0 nx:Nat):∀ (l:List (Nat×A)),∀ p∈A6Z ob n0 nx l,∃ q∈l,p=(q.1,W1 ob n0 nx q.2):=by
 intro l
 induction l with
 | nil=>intro p hp;cases hp
 | cons q r ih =>
  intro p hp
  rcases List.mem_cons.1 hp with rfl | hp
  ·exact ⟨q,by simp,rfl⟩
  ·obtain ⟨q',h1,h2⟩:=ih p hp
   exact ⟨q',by simp [h1],h2⟩
def B4.anew (e:B4) (ob:Tr) (n0 nx:Nat) (keep:List Nat):B4 :=
 {e with U:=fun j=>e.U j∧(G9 n0 nx j=true→j∈keep),bn:=fun j=>match A2Y ob n0 nx j with
  | some _=>1
  | none=>e.bn j }
structure A2Z (T:TT) (c:J8) (e eb:B4) (of':Nat→Option Ob) (ob:Tr) (n0 nx:Nat):Prop where
 os:A5 T c e (C1 ob of')
 new:∀ id,G9 n0 nx id=true→¬ eb.U id
theorem C0E {ob:Tr} {n0 nx id v:Nat} (h:A2Y ob n0 nx id=some v):G9 n0 nx id=true∧∃ el xs nl sh,ob.get id=some (.row el v xs nl sh):=by
 unfold A2Y at h
 cases hn:G9 n0 nx id with
 | false=>rw [hn] at h;cases h
 | true =>
  rw [hn] at h
  simp only [cond_true] at h
  split at h
  ·rename_i el v' xs nl sh hg
   injection h with h;subst h
   exact ⟨rfl,el,xs,nl,sh,hg⟩
  ·cases h
theorem A2Z.ver {ob:Tr} {n0 nx:Nat} (h:A2Z T c e eb of' ob n0 nx) {id v:Nat} (hv:A2Y ob n0 nx id=some v):e.bn id=v∧0 < v:=by
 obtain ⟨_,el,xs,nl,sh,hg⟩:=C0E hv
 have:=h.os.ok id (.row el v xs nl sh) (by unfold C1;rw [hg])
 exact ⟨this.2.2.1,this.2.1⟩
theorem B0J {ob:Tr} {n0 nx:Nat} {keep:List Nat} {a:Addr} {ds:List Value} (h:Fz e a ds):Fz (e.anew ob n0 nx keep) a ds:=h
theorem R8 {ob:Tr} {n0 nx j:Nat} {keep:List Nat} (h:A2Y ob n0 nx j=none):(e.anew ob n0 nx keep).bn j=e.bn j:=by
 show (match A2Y ob n0 nx j with | some _=>1 | none=>e.bn j)=e.bn j
 rw [h]
theorem A6g {ob:Tr} {n0 nx j v:Nat} {keep:List Nat} (h:A2Y ob n0 nx j=some v):(e.anew ob n0 nx keep).bn j=1:=by
 show (match A2Y ob n0 nx j with | some _=>1 | none=>e.bn j)=1
 rw [h]
theorem A2Z.box0 {ob:Tr} {n0 nx j:Nat} {keep:List Nat} (h:A2Z T c e eb of' ob n0 nx) (h0:e.bn j=0):(e.anew ob n0 nx keep).bn j=0:=by
 cases hv:A2Y ob n0 nx j with
 | none=>rw [R8 hv];exact h0
 | some v=>have:=h.ver hv;omega
theorem R1.fix {ob:Tr} {n0 nx:Nat} {keep:List Nat} (hA:A2Z T c e eb of' ob n0 nx) {a:A} {v:Value} (h:R1 T e a v) (ho:one v=true) (hk:∀ id∈E1 (W1 ob n0 nx a),G9 n0 nx id=true→id∈keep):R1 T (e.anew ob n0 nx keep) (W1 ob n0 nx a) v:=by
 cases a with
 | x=>exact h
 | p id t path =>
  obtain ⟨b,off,h1,h2,h3,h4,h5⟩:=h
  exact ⟨b,off,⟨h1,hk id (by simp [W1,E1])⟩,hA.box0 h2,h3,h4,h5⟩
 | a id t path lo m =>
  obtain ⟨b,off,n,el,k,cap,h1,h2,h3⟩:=h
  exact ⟨b,off,n,el,k,cap,⟨h1,hk id (by simp [W1,E1])⟩,hA.box0 h2,h3⟩
 | m id =>
  obtain ⟨b,h1,h2,h3⟩:=h
  exact ⟨b,⟨h1,hk id (by simp [W1,E1])⟩,hA.box0 h2,h3⟩
 | y id =>
  obtain ⟨b,h1,h2,h3⟩:=h
  exact ⟨b,⟨h1,hk id (by simp [W1,E1])⟩,hA.box0 h2,h3⟩
 | e id ver i t path =>
  obtain ⟨h0,h1,h2,h3,h4⟩:=h
  simp only [W1] at hk ⊢
  unfold A40 at hk ⊢
  cases hv:A2Y ob n0 nx id with
  | none =>
   rw [hv] at hk
   exact ⟨h0,⟨h1,hk id (by simp [E1])⟩,by rw [R8 hv];exact h2,h3,fun hb=>h4 (by rw [R8 hv] at hb;exact hb)⟩
  | some v' =>
   rw [hv] at hk
   simp only at hk ⊢
   cases hq:Nat.beq v' ver with
   | false=>exact ho
   | true =>
    rw [hq] at hk
    have:=D5U hq;subst this
    exact ⟨h0,⟨h1,hk id (by simp [E1])⟩,by rw [A6g hv];exact Nat.le_refl _,by omega,fun _=>h4 (hA.ver hv).1⟩
 | o id ver =>
  obtain ⟨h0,h1,h2,h3,h4⟩:=h
  simp only [W1] at hk ⊢
  unfold A40 at hk ⊢
  cases hv:A2Y ob n0 nx id with
  | none =>
   rw [hv] at hk
   exact ⟨h0,⟨h1,hk id (by simp [E1])⟩,by rw [R8 hv];exact h2,h3,fun hb=>h4 (by rw [R8 hv] at hb;exact hb)⟩
  | some v' =>
   rw [hv] at hk
   simp only at hk ⊢
   cases hq:Nat.beq v' ver with
   | false=>exact ho
   | true =>
    rw [hq] at hk
    have:=D5U hq;subst this
    exact ⟨h0,⟨h1,hk id (by simp [E1])⟩,by rw [A6g hv];exact Nat.le_refl _,by omega,fun _=>h4 (hA.ver hv).1⟩
 | w id ver off n =>
  obtain ⟨h0,h1,h2,h3,h4⟩:=h
  simp only [W1] at hk ⊢
  unfold A40 at hk ⊢
  cases hv:A2Y ob n0 nx id with
  | none =>
   rw [hv] at hk
   exact ⟨h0,⟨h1,hk id (by simp [E1])⟩,by rw [R8 hv];exact h2,h3,fun hb=>h4 (by rw [R8 hv] at hb;exact hb)⟩
  | some v' =>
   rw [hv] at hk
   simp only at hk ⊢
   cases hq:Nat.beq v' ver with
   | false=>exact ho
   | true =>
    rw [hq] at hk
    have:=D5U hq;subst this
    exact ⟨h0,⟨h1,hk id (by simp [E1])⟩,by rw [A6g hv];exact Nat.le_refl _,by omega,fun _=>h4 (hA.ver hv).1⟩
 | _=>exact h.elim
theorem C0F {ob:Tr} {n0 nx t:Nat}:∀ {a:A},D2 T t a=true→D2 T t (W1 ob n0 nx a)=true:=by
 have r:∀ {id ver:Nat} {k:Nat→A},(∀ v,D2 T t (k v)=X2 T t)→D2 T t (k ver)=true→D2 T t (A40 ob n0 nx id ver k)=true:=by
  intro id ver k hk h
  rw [hk] at h
  unfold A40
  split
  ·rename_i v _;cases Nat.beq v ver
   ·exact h
   ·exact (hk _).trans h
  ·exact (hk _).trans h
 intro a h
 cases a with
 | e id ver i t path=>exact r (k:=fun v=>.e id v i t path) (fun _=>rfl) h
 | o id ver=>exact r (k:=fun v=>.o id v) (fun _=>rfl) h
 | w id ver off n=>exact r (k:=fun v=>.w id v off n) (fun _=>rfl) h
 | f fn l=>exact h
 | g t' l=>exact h
 | t l=>cases h
 | _=>exact h
theorem D09 {ob:Tr} {n0 nx:Nat}:∀ {ts:List Nat} {l:List A},A0f T ts l=true→A0f T ts (Y0 ob n0 nx l)=true:=by
 intro ts
 induction ts with
 | nil=>intro l h;cases l with
  | nil=>rfl
  | cons a l=>cases h
 | cons t ts ih=>intro l h;cases l with
  | nil=>cases h
  | cons a l =>
   simp only [A0f,D5V] at h
   simp only [Y0,A0f,D5V]
   exact ⟨C0F h.1,ih h.2⟩
theorem RV.anew {ob:Tr} {n0 nx:Nat} {keep:List Nat} {ts:List Nat} {xs:List V} {cs:List Value} (h:RV T e ts xs cs):RV T (e.anew ob n0 nx keep) ts xs cs:=RV.change (e:=e) (e':=e.anew ob n0 nx keep) (fun a ds q=>B0J q) h
theorem RA.fix {ob:Tr} {n0 nx:Nat} {keep:List Nat} (hA:A2Z T c e eb of' ob n0 nx) {l:List A} {cs:List Value} (h:RA T e l cs):(∀ id∈E5 (Y0 ob n0 nx l),G9 n0 nx id=true→id∈keep)→RA T (e.anew ob n0 nx keep) (Y0 ob n0 nx l) cs:=by
 induction h with
 | nil=>intro _;exact .nil
 | i hr _ ih=>intro hk;exact .i hr (ih (fun id A3=>hk id (by simp only [Y0,E5,D55];exact .inr A3)))
 | b _ ih=>intro hk;exact .b (ih (fun id A3=>hk id (by simp only [Y0,E5,D55];exact .inr A3)))
 | s _ ih=>intro hk;exact .s (ih (fun id A3=>hk id (by simp only [Y0,E5,D55];exact .inr A3)))
 | z h1 _ ih=>intro hk;exact .z h1 (ih (fun id A3=>hk id (by simp only [Y0,E5,D55];exact .inr A3)))
 | v h1 _ ih=>intro hk;exact .v h1.anew (ih (fun id A3=>hk id (by simp only [Y0,E5,D55];exact .inr A3)))
 | c h1 h2 _ ih=>intro hk;exact .c h1.anew h2 (ih (fun id A3=>hk id (by simp only [Y0,E5,D55];exact .inr A3)))
 | q h1 _ ih=>intro hk;exact .q h1.anew (ih (fun id A3=>hk id (by simp only [Y0,E5,D55];exact .inr A3)))
 | f _ _ ih1 ih =>
  intro hk
  exact .f (ih1 (fun id A3=>hk id (by simp only [Y0,W1,E5,E1,D55];exact .inl A3))) (ih (fun id A3=>hk id (by simp only [Y0,E5,D55];exact .inr A3)))
 | g h1 h2 h3 _ _ ih1 ih =>
  intro hk
  exact .g h1 (D09 h2) h3 (ih1 (fun id A3=>hk id (by simp only [Y0,W1,E5,E1,D55];exact .inl A3))) (ih (fun id A3=>hk id (by simp only [Y0,E5,D55];exact .inr A3)))
 | r h1 h2 _ ih =>
  intro hk
  exact .r (h1.fix hA h2 (fun id A3=>hk id (by simp only [Y0,E5,D55];exact .inl A3))) h2 (ih (fun id A3=>hk id (by simp only [Y0,E5,D55];exact .inr A3)))
theorem A1W {ob:Tr} {n0 nx id:Nat} (h:G9 n0 nx id=false):A2Y ob n0 nx id=none:=by unfold A2Y;rw [h];rfl
theorem R1.old {ob:Tr} {n0 nx:Nat} {keep:List Nat} (hA:A2Z T c e eb of' ob n0 nx) {a:A} {v:Value} (h:R1 T e a v) (hn:∀ id∈E1 a,G9 n0 nx id=false):R1 T (e.anew ob n0 nx keep) a v:=by
 have nk:∀ {id:Nat},G9 n0 nx id=false→(G9 n0 nx id=true→id∈keep):=fun hf ht=>by rw [hf] at ht;cases ht
 cases a with
 | x=>exact h
 | p id t path =>
  obtain ⟨b,off,h1,h2,h3,h4,h5⟩:=h
  exact ⟨b,off,⟨h1,nk (hn id (by simp [E1]))⟩,hA.box0 h2,h3,h4,h5⟩
 | a id t path lo m =>
  obtain ⟨b,off,n,el,k,cap,h1,h2,h3⟩:=h
  exact ⟨b,off,n,el,k,cap,⟨h1,nk (hn id (by simp [E1]))⟩,hA.box0 h2,h3⟩
 | m id =>
  obtain ⟨b,h1,h2,h3⟩:=h
  exact ⟨b,⟨h1,nk (hn id (by simp [E1]))⟩,hA.box0 h2,h3⟩
 | y id =>
  obtain ⟨b,h1,h2,h3⟩:=h
  exact ⟨b,⟨h1,nk (hn id (by simp [E1]))⟩,hA.box0 h2,h3⟩
 | e id ver i t path =>
  obtain ⟨h0,h1,h2,h3,h4⟩:=h
  have hv:=A1W (ob:=ob) (hn id (by simp [E1]))
  exact ⟨h0,⟨h1,nk (hn id (by simp [E1]))⟩,by rw [R8 hv];exact h2,h3,fun hb=>h4 (by rw [R8 hv] at hb;exact hb)⟩
 | o id ver =>
  obtain ⟨h0,h1,h2,h3,h4⟩:=h
  have hv:=A1W (ob:=ob) (hn id (by simp [E1]))
  exact ⟨h0,⟨h1,nk (hn id (by simp [E1]))⟩,by rw [R8 hv];exact h2,h3,fun hb=>h4 (by rw [R8 hv] at hb;exact hb)⟩
 | w id ver off n =>
  obtain ⟨h0,h1,h2,h3,h4⟩:=h
  have hv:=A1W (ob:=ob) (hn id (by simp [E1]))
  exact ⟨h0,⟨h1,nk (hn id (by simp [E1]))⟩,by rw [R8 hv];exact h2,h3,fun hb=>h4 (by rw [R8 hv] at hb;exact hb)⟩
 | _=>exact h.elim
theorem RA.old {ob:Tr} {n0 nx:Nat} {keep:List Nat} (hA:A2Z T c e eb of' ob n0 nx) {l:List A} {cs:List Value} (h:RA T e l cs):(∀ id∈E5 l,G9 n0 nx id=false)→RA T (e.anew ob n0 nx keep) l cs:=by
 induction h with
 | nil=>intro _;exact .nil
 | i hr _ ih=>intro hk;exact .i hr (ih (fun id A3=>hk id (by simp only [E5,D55];exact .inr A3)))
 | b _ ih=>intro hk;exact .b (ih (fun id A3=>hk id (by simp only [E5,D55];exact .inr A3)))
 | s _ ih=>intro hk;exact .s (ih (fun id A3=>hk id (by simp only [E5,D55];exact .inr A3)))
 | z h1 _ ih=>intro hk;exact .z h1 (ih (fun id A3=>hk id (by simp only [E5,D55];exact .inr A3)))
 | v h1 _ ih=>intro hk;exact .v h1.anew (ih (fun id A3=>hk id (by simp only [E5,D55];exact .inr A3)))
 | c h1 h2 _ ih=>intro hk;exact .c h1.anew h2 (ih (fun id A3=>hk id (by simp only [E5,D55];exact .inr A3)))
 | q h1 _ ih=>intro hk;exact .q h1.anew (ih (fun id A3=>hk id (by simp only [E5,D55];exact .inr A3)))
 | f _ _ ih1 ih =>
  intro hk
  exact .f (ih1 (fun id A3=>hk id (by simp only [E5,E1,D55];exact .inl A3))) (ih (fun id A3=>hk id (by simp only [E5,D55];exact .inr A3)))
 | g h1 h2 h3 _ _ ih1 ih =>
  intro hk
  exact .g h1 h2 h3 (ih1 (fun id A3=>hk id (by simp only [E5,E1,D55];exact .inl A3))) (ih (fun id A3=>hk id (by simp only [E5,D55];exact .inr A3)))
 | r h1 h2 _ ih =>
  intro hk
  exact .r (h1.old hA (fun id A3=>hk id (by simp only [E5,D55];exact .inl A3))) h2 (ih (fun id A3=>hk id (by simp only [E5,D55];exact .inr A3)))
theorem H5.use {a:A} {v:Value} (h:H5 T e a v):∀ id∈E1 a,e.U id:=by
 have one:∀ {a:A} {cs:List Value},RA T e [a] cs→∀ id∈E1 a,e.U id:=fun g id A3=>g.use id (by simp only [E5,List.append_nil];exact A3)
 cases a with
 | x=>intro id h;cases h
 | t l=>exact h.elim
 | v t y=>intro id h;cases h
 | g t l=>exact one h.1
 | _=>exact one h
theorem H5.old {ob:Tr} {n0 nx:Nat} {keep:List Nat} (hA:A2Z T c e eb of' ob n0 nx) {a:A} {v:Value} (h:H5 T e a v) (hn:∀ id∈E1 a,G9 n0 nx id=false):H5 T (e.anew ob n0 nx keep) a v:=by
 have one:∀ {a:A} {cs:List Value},RA T e [a] cs→(∀ id∈E1 a,G9 n0 nx id=false)→RA T (e.anew ob n0 nx keep) [a] cs:=fun g hk=>g.old hA (fun id A3=>hk id (by simpa [E5] using A3))
 cases a with
 | x=>trivial
 | t l=>exact h.elim
 | v t y=>exact ⟨h.1.anew,h.2⟩
 | g t l=>exact ⟨one h.1 hn,h.2⟩
 | _=>exact one h hn
theorem MR.use {kt et:Nat} {es:List (V×A)} {ms:List MapEntry} (h:MR T e kt et es ms):∀ p∈es,∀ id∈E1 p.2,e.U id:=by
 induction h with
 | nil=>intro p hp;cases hp
 | cons _ h2 _ _ ih =>
  intro p hp
  rcases List.mem_cons.1 hp with rfl | hp
  ·exact h2.use
  ·exact ih p hp
theorem MR.old {ob:Tr} {n0 nx:Nat} {keep:List Nat} (hA:A2Z T c e eb of' ob n0 nx) {kt et:Nat} {es:List (V×A)} {ms:List MapEntry} (h:MR T e kt et es ms):(∀ p∈es,∀ id∈E1 p.2,G9 n0 nx id=false)→MR T (e.anew ob n0 nx keep) kt et es ms:=by
 induction h with
 | nil=>intro _;exact .nil
 | cons h1 h2 h3 _ ih=>intro hk;exact .cons (h1.old hA (fun id A3=>by cases A3)) (h2.old hA (hk _ (List.mem_cons_self ..))) h3 (ih (fun p hp=>hk p (List.mem_cons_of_mem _ hp)))
theorem OK.old {ob:Tr} {n0 nx id:Nat} {keep:List Nat} {o:Ob} (hA:A2Z T c e eb of' ob n0 nx) (h:OK T e id o) (hb:OK T eb id o):OK T (e.anew ob n0 nx keep) id o:=by
 have nn:∀ {j:Nat},eb.U j→G9 n0 nx j=false:=fun {j} hj=>by
  cases hq:G9 n0 nx j with
  | false=>rfl
  | true=>exact absurd hj (hA.new j hq)
 have A3:=nn hb.use
 have hU:(e.anew ob n0 nx keep).U id:=⟨h.use,fun ht=>by rw [A3] at ht;cases ht⟩
 cases o with
 | box t a sh =>
  obtain ⟨h1,h2,h2',h2'',b,cs,ty,fz,h3,h4,h5,h5',h6,h7⟩:=h
  obtain ⟨_,_,_,_,_,cs0,_,_,_,_,_,_,g6,_⟩:=hb
  exact ⟨hU,hA.box0 h2,h2',h2'',b,cs,ty,fz,h3,h4,h5,h5',h6.old hA (fun j hj=>nn (g6.use j hj)),h7⟩
 | row el ver xs nl sh =>
  obtain ⟨h1,h2,h3,h4,h4',h5,h6⟩:=h
  refine ⟨hU,h2,by rw [R8 (A1W A3)];exact h3,h4,h4',h5,?_⟩
  rcases h6 with h6 | ⟨nn',b,o,cs,t,fz,pre,ys,post,g1,g2,g3,g4,g5,g6,g7,g8⟩
  ·exact .inl h6
  ·exact .inr ⟨nn',b,o,cs,t,fz,pre,ys,post,g1,g2,g3,g4,g5,g6.anew,g7,g8⟩
 | map kt et es =>
  obtain ⟨h1,h2,b,ms,clock,h3,h4,h5,es',h6,h7⟩:=h
  obtain ⟨_,_,_,ms0,_,_,_,_,es0,k6,k7⟩:=hb
  have hes:∀ p∈es,∀ j∈E1 p.2,G9 n0 nx j=false:=fun p hp j hj=>nn (k7.use p (k6.mem_iff.2 hp) j hj)
  exact ⟨hU,hA.box0 h2,b,ms,clock,h3,h4,h5,es',h6,h7.old hA (fun p hp=>hes p (h6.mem_iff.1 hp))⟩
 | vm kt et es =>
  obtain ⟨h1,h2,b,ms,clock,h3,h4,h5,es',h6,h7⟩:=h
  exact ⟨hU,hA.box0 h2,b,ms,clock,h3,h4,h5,es',h6,h7.old hA (fun p hp j hj=>by rw [B2x p (h6.mem_iff.1 hp)] at hj;cases hj)⟩
 | sm kt st el es ho =>
  obtain ⟨h1,h2,ha,hb',hc,b,ms,clock,h3,h4,h5,es',bs,h6,h7⟩:=h
  exact ⟨hU,hA.box0 h2,ha,hb',hc,b,ms,clock,h3,h4,h5,es',bs,h6,h7.change (e':=e.anew ob n0 nx keep) (fun a ds q=>B0J q) rfl (fun _ _ q=>q) (fun _ _ q=>q)⟩
 | lp q =>
  cases q with
  | none =>
   obtain ⟨h1,h2,b,h3,h4⟩:=h
   exact ⟨hU,hA.box0 h2,b,h3,h4⟩
  | some r =>
   obtain ⟨h1,h2,b,tm,df,fn,h3,h4,h5,h6⟩:=h
   obtain ⟨_,_,_,tm0,_,_,_,_,_,k6⟩:=hb
   exact ⟨hU,hA.box0 h2,b,tm,df,fn,h3,h4,h5,fun p hp=>(h6 p hp).old hA (fun j hj=>nn ((k6 p hp).use j hj))⟩
 | it q =>
  cases q with
  | none =>
   obtain ⟨h1,h2,b,x,y,z,h3,h4⟩:=h
   exact ⟨hU,hA.box0 h2,b,x,y,z,h3,h4⟩
  | some m =>
   obtain ⟨h1,h2,b,bm,x,z,h3,h4,h5,h6,h7⟩:=h
   obtain ⟨_,_,_,_,_,_,_,_,k5,_⟩:=hb
   have hm:=nn k5
   exact ⟨hU,hA.box0 h2,b,bm,x,z,h3,h4,⟨h5,fun ht=>by rw [hm] at ht;cases ht⟩,hA.box0 h6,h7⟩
theorem H5.fix {ob:Tr} {n0 nx:Nat} {keep:List Nat} (hA:A2Z T c e eb of' ob n0 nx) {a:A} {v:Value} (h:H5 T e a v) (hk:∀ id∈E1 (W1 ob n0 nx a),G9 n0 nx id=true→id∈keep):H5 T (e.anew ob n0 nx keep) (W1 ob n0 nx a) v:=by
 have one:∀ {a:A} {cs:List Value},RA T e [a] cs→(∀ id∈E1 (W1 ob n0 nx a),G9 n0 nx id=true→id∈keep)→RA T (e.anew ob n0 nx keep) [W1 ob n0 nx a] cs:=fun {a cs} g hk=>by
  have:=g.fix (keep:=keep) hA (fun id A3=>hk id (by simpa [Y0,E5] using A3))
  simpa [Y0] using this
 have sc:∀ {a:A},RA T e [a] [v]→(∀ id∈E1 (W1 ob n0 nx a),G9 n0 nx id=true→id∈keep)→(W1 ob n0 nx a=.x∨((∀ t y,W1 ob n0 nx a≠.v t y)∧(∀ t l,W1 ob n0 nx a≠.g t l)∧(∀ l,W1 ob n0 nx a≠.t l)))→H5 T (e.anew ob n0 nx keep) (W1 ob n0 nx a) v:=fun {a} g hk hs=>by
  have r:=one g hk
  rcases hs with hs | ⟨s1,s2,s3⟩
  ·rw [hs];trivial
  ·cases hf:W1 ob n0 nx a with
   | v t y=>exact absurd hf (s1 _ _)
   | g t l=>exact absurd hf (s2 _ _)
   | t l=>exact absurd hf (s3 _)
   | x=>trivial
   | _=>rw [hf] at r;exact r
 have fr:∀ {id ver:Nat} {k:Nat→A},(∀ v,(∀ t y,k v≠.v t y)∧(∀ t l,k v≠.g t l)∧(∀ l,k v≠.t l))→(A40 ob n0 nx id ver k=.x∨((∀ t y,A40 ob n0 nx id ver k≠.v t y)∧(∀ t l,A40 ob n0 nx id ver k≠.g t l)∧(∀ l,A40 ob n0 nx id ver k≠.t l))):=by
  intro id ver k hk
  unfold A40
  split
  ·rename_i v _;cases Nat.beq v ver
   ·exact .inl rfl
   ·exact .inr (hk _)
  ·exact .inr (hk _)
 cases a with
 | x=>trivial
 | t l=>exact h.elim
 | v t y=>exact ⟨h.1.anew,h.2⟩
 | g t l=>exact ⟨one h.1 hk,h.2⟩
 | e id ver i t path=>exact sc h hk (fr (k:=fun v=>.e id v i t path) (fun v=>⟨by simp,by simp,by simp⟩))
 | o id ver=>exact sc h hk (fr (k:=fun v=>.o id v) (fun v=>⟨by simp,by simp,by simp⟩))
 | w id ver off n=>exact sc h hk (fr (k:=fun v=>.w id v off n) (fun v=>⟨by simp,by simp,by simp⟩))
 | _=>exact one h hk
theorem OK.fix {ob:Tr} {n0 nx id:Nat} {keep:List Nat} {o:Ob} (hA:A2Z T c e eb of' ob n0 nx) (hg:ob.get id=some o) (h:OK T e id o) (hkeep:G9 n0 nx id=true→id∈keep) (hk:∀ j∈A1E (A4c ob n0 nx id o),G9 n0 nx j=true→j∈keep) (hmap:∀ kt et es,o=.map kt et es→∀ p∈es,E1 p.2=[]):OK T (e.anew ob n0 nx keep) id (A4c ob n0 nx id o):=by
 have hU:(e.anew ob n0 nx keep).U id:=⟨h.use,hkeep⟩
 cases o with
 | box t a sh =>
  obtain ⟨h1,h2,h2',h2'',b,cs,ty,fz,h3,h4,h5,h5',h6,h7⟩:=h
  refine ⟨hU,hA.box0 h2,h2',C0F h2'',b,cs,ty,fz,h3,h4,h5,h5',?_,h7⟩
  have:=h6.fix (keep:=keep) hA (fun j hj=>hk j (by simpa [Y0,E5,A4c,A1E] using hj))
  simpa [Y0] using this
 | row el ver xs nl sh =>
  obtain ⟨h1,h2,h3,h4,h4',h5,h6⟩:=h
  have rest:0 < B8 T el∧((nl=true∧(e.anew ob n0 nx keep).ι id=none∧xs=[])∨(nl=false∧∃ b o cs t fz pre ys post,(e.anew ob n0 nx keep).ι id=some (b,o)∧(e.anew ob n0 nx keep).w.heap[b]? = some (.cells cs t fz)∧A1F (e.anew ob n0 nx keep).w b cs∧cs.toList=pre++ys++post∧pre.length=o∧RV T (e.anew ob n0 nx keep) (List.replicate xs.length el) xs ys ∧
     (∀ i,o+ys.length≤i→¬ (e.anew ob n0 nx keep).S b i)∧(sh=false→∀ i,o≤i→¬ (e.anew ob n0 nx keep).S b i))):=by
   refine ⟨h5,?_⟩
   rcases h6 with h6 | ⟨nn',b,o,cs,t,fz,pre,ys,post,g1,g2,g3,g4,g5,g6,g7,g8⟩
   ·exact .inl h6
   ·exact .inr ⟨nn',b,o,cs,t,fz,pre,ys,post,g1,g2,g3,g4,g5,g6.anew,g7,g8⟩
  cases hn:G9 n0 nx id with
  | false =>
   have hf:A4c ob n0 nx id (.row el ver xs nl sh)=.row el ver xs nl sh:=by simp [A4c,hn]
   rw [hf]
   exact ⟨hU,h2,by rw [R8 (A1W hn)];exact h3,h4,h4',rest⟩
  | true =>
   have hf:A4c ob n0 nx id (.row el ver xs nl sh)=.row el 1 xs nl sh:=by simp [A4c,hn]
   rw [hf]
   have hv:A2Y ob n0 nx id=some ver:=by unfold A2Y;rw [hn,hg];rfl
   exact ⟨hU,by omega,A6g hv,h4,h4',rest⟩
 | map kt et es =>
  obtain ⟨h1,h2,b,ms,clock,h3,h4,h5,es',h6,h7⟩:=h
  exact ⟨hU,hA.box0 h2,b,ms,clock,h3,h4,h5,es',h6,h7.old hA (fun p hp j hj=>by rw [hmap kt et es rfl p (h6.mem_iff.1 hp)] at hj;cases hj)⟩
 | vm kt et es =>
  obtain ⟨h1,h2,b,ms,clock,h3,h4,h5,es',h6,h7⟩:=h
  exact ⟨hU,hA.box0 h2,b,ms,clock,h3,h4,h5,es',h6,h7.old hA (fun p hp j hj=>by rw [B2x p (h6.mem_iff.1 hp)] at hj;cases hj)⟩
 | sm kt st el es ho =>
  obtain ⟨h1,h2,ha,hb',hc,b,ms,clock,h3,h4,h5,es',bs,h6,h7⟩:=h
  exact ⟨hU,hA.box0 h2,ha,hb',hc,b,ms,clock,h3,h4,h5,es',bs,h6,h7.change (e':=e.anew ob n0 nx keep) (fun a ds q=>B0J q) rfl (fun _ _ q=>q) (fun _ _ q=>q)⟩
 | lp q =>
  cases q with
  | none =>
   obtain ⟨h1,h2,b,h3,h4⟩:=h
   exact ⟨hU,hA.box0 h2,b,h3,h4⟩
  | some r =>
   obtain ⟨h1,h2,b,tm,df,fn,h3,h4,h5,h6⟩:=h
   refine ⟨hU,hA.box0 h2,b,tm,df,fn,h3,h4,h5,fun p hp=>?_⟩
   obtain ⟨q,hq,rfl⟩:=C0D _ _ _ _ p hp
   exact (h6 q hq).fix hA (fun j hj=>hk j (C0C _ _ hp j hj))
 | it q =>
  cases q with
  | none =>
   obtain ⟨h1,h2,b,x,y,z,h3,h4⟩:=h
   exact ⟨hU,hA.box0 h2,b,x,y,z,h3,h4⟩
  | some m =>
   obtain ⟨h1,h2,b,bm,x,z,h3,h4,h5,h6,h7⟩:=h
   exact ⟨hU,hA.box0 h2,b,bm,x,z,h3,h4,⟨h5,hk m (by simp [A4c,A1E])⟩,hA.box0 h6,h7⟩
theorem C0G {ob:Tr} {n0 nx:Nat}:∀ {l:List A} {i:Nat} {v:A},(Y0 ob n0 nx l)[i]? = some v→∃ a,l[i]? = some a∧v=W1 ob n0 nx a:=by
 intro l
 induction l with
 | nil=>intro i v h;simp [Y0] at h
 | cons a l ih =>
  intro i v h
  cases i with
  | zero=>simp [Y0] at h;exact ⟨a,rfl,h.symm⟩
  | succ i=>exact ih (by simpa [Y0] using h)
theorem C0H {ob:Tr} {n0 nx:Nat}:∀ {l:List A},(Y0 ob n0 nx l).length=l.length:=by
 intro l
 induction l with
 | nil=>rfl
 | cons a l ih=>simp [Y0,ih]
theorem C0I:∀ {l:List A} {i:Nat} {a:A},l[i]? = some a→∀ id∈E1 a,id∈E5 l:=by
 intro l
 induction l with
 | nil=>intro i a h;simp at h
 | cons b l ih =>
  intro i a h id A3
  simp only [E5,D55]
  cases i with
  | zero=>simp at h;subst h;exact .inl A3
  | succ i=>exact .inr (ih (by simpa using h) id A3)
theorem C2.fix {ob:Tr} {n0 nx:Nat} {keep:List Nat} (hA:A2Z T c e eb of' ob n0 nx) {a:A} {v:Value} (h:C2 T e a v) (hk:∀ id∈E1 (W1 ob n0 nx a),G9 n0 nx id=true→id∈keep):C2 T (e.anew ob n0 nx keep) (W1 ob n0 nx a) v:=by
 have A4Y:∀ {a:A},(∀ l,a≠.t l)→H5 T e a v→(∀ id∈E1 (W1 ob n0 nx a),G9 n0 nx id=true→id∈keep)→C2 T (e.anew ob n0 nx keep) (W1 ob n0 nx a) v:=fun {a} ht g hk=>by
  have r:=g.fix (keep:=keep) hA hk
  cases hf:W1 ob n0 nx a with
  | t l =>
   rw [hf] at r;exact r.elim
  | _=>rw [hf] at r;exact r
 cases a with
 | t l =>
  obtain ⟨xs,rfl,h2,h3⟩:=h
  refine ⟨xs,rfl,by rw [C0H];exact h2,fun i v x hv hx=>?_⟩
  obtain ⟨a,ha,rfl⟩:=C0G hv
  exact (h3 i a x ha hx).fix hA (fun id A3=>hk id (C0I hv id A3))
 | _=>exact A4Y (by intro l hl;cases hl) h hk
variable {P:Program} {T:TT} {c:J8} {e eb:B4} {of of':Nat→Option Ob}
def sw (i j n:Nat):Nat:=bif Nat.beq n i then j else bif Nat.beq n j then i else n
theorem A60 {a b:Nat} (h:a≠b):Nat.beq a b=false:=by
 cases hq:Nat.beq a b with
 | false=>rfl
 | true=>exact absurd (D5U hq) h
theorem D3C (i j:Nat):sw i j i=j:=by unfold sw;rw [Nat.beq_refl];rfl
theorem D3D (i j:Nat):sw i j j=i:=by
 unfold sw
 by_cases h:j=i
 ·subst h;rw [Nat.beq_refl];rfl
 ·rw [A60 h,Nat.beq_refl];rfl
theorem A53 {i j n:Nat} (h1:n≠i) (h2:n≠j):sw i j n=n:=by unfold sw;rw [A60 h1,A60 h2];rfl
@[simp] theorem sw_sw (i j n:Nat):sw i j (sw i j n)=n:=by
 by_cases h1:n=i
 ·subst h1;rw [D3C,D3D]
 ·by_cases h2:n=j
  ·subst h2;rw [D3D,D3C]
  ·rw [A53 h1 h2,A53 h1 h2]
theorem D1a {i j a b:Nat} (h:sw i j a=sw i j b):a=b:=by rw [← sw_sw i j a,h,sw_sw]
mutual
def swA (i j:Nat):A→A
 | .p id t path=>.p (sw i j id) t path
 | .e id ver k t path=>.e (sw i j id) ver k t path
 | .o id ver=>.o (sw i j id) ver
 | .w id ver off n=>.w (sw i j id) ver off n
 | .a id t path lo m=>.a (sw i j id) t path lo m
 | .m id=>.m (sw i j id)
 | .y id=>.y (sw i j id)
 | .f fn l=>.f fn (swL i j l)
 | .g t l=>.g t (swL i j l)
 | .t l=>.t (swL i j l)
 | a=>a
def swL (i j:Nat):List A→List A
 | []=>[]
 | a::r=>swA i j a::swL i j r
end
def swE (i j:Nat):List (V×A)→List (V×A)
 | []=>[]
 | p::r=>(p.1,swA i j p.2)::swE i j r
def swS (i j:Nat):List (Nat×A)→List (Nat×A)
 | []=>[]
 | p::r=>(p.1,swA i j p.2)::swS i j r
def swO (i j:Nat):Ob→Ob
 | .box t a sh=>.box t (swA i j a) sh
 | .row el ver xs nl sh=>.row el ver xs nl sh
 | .map kt et es=>.map kt et (swE i j es)
 | .vm kt et es=>.vm kt et es
 | .sm kt st el es ho=>.sm kt st el es ho
 | .lp (some r)=>.lp (some { r with sl:=swS i j r.sl })
 | .lp none=>.lp none
 | .it (some m)=>.it (some (sw i j m))
 | .it none=>.it none
def B4.sw (e:B4) (i j:Nat):B4:={ e with ι:=fun n=>e.ι (Vm.sw i j n),bn:=fun n=>e.bn (Vm.sw i j n),U:=fun n=>e.U (Vm.sw i j n),ty:=fun n=>e.ty (Vm.sw i j n),ln:=fun n=>e.ln (Vm.sw i j n) }
variable {i j:Nat}
theorem R1.sw {a:A} {v:Value} (h:R1 T e a v):R1 T (e.sw i j) (swA i j a) v:=by
 cases a<;>simp only [R1,swA,B4.sw,sw_sw] at h ⊢<;>exact h
theorem B0K {t:Nat} {a:A}:D2 T t (swA i j a)=D2 T t a:=by cases a<;>rfl
theorem C6s:∀ {ts:List Nat} {l:List A},A0f T ts (swL i j l)=A0f T ts l:=by
 intro ts
 induction ts with
 | nil=>intro l;cases l<;>rfl
 | cons t ts ih=>intro l;cases l with
  | nil=>rfl
  | cons a l=>simp only [swL,A0f,B0K,ih]
theorem RV.sw {ts:List Nat} {xs:List V} {cs:List Value} (h:RV T e ts xs cs):RV T (e.sw i j) ts xs cs:=RV.change (e:=e) (e':=e.sw i j) (fun a ds q=>q) h
theorem RA.sw {l:List A} {cs:List Value} (h:RA T e l cs):RA T (e.sw i j) (swL i j l) cs:=by
 induction h with
 | nil=>exact .nil
 | i hr _ ih=>exact .i hr ih
 | b _ ih=>exact .b ih
 | s _ ih=>exact .s ih
 | z h1 _ ih=>exact .z h1 ih
 | v h1 _ ih=>exact .v h1.sw ih
 | c h1 h2 _ ih=>exact .c h1.sw h2 ih
 | q h1 _ ih=>exact .q h1.sw ih
 | f _ _ ih1 ih=>exact .f ih1 ih
 | g h1 h2 h3 _ _ ih1 ih=>exact .g h1 (by rw [C6s];exact h2) h3 ih1 ih
 | r h1 h2 _ ih=>exact .r h1.sw h2 ih
theorem H5.sw {a:A} {v:Value} (h:H5 T e a v):H5 T (e.sw i j) (swA i j a) v:=by
 cases a<;>simp only [H5] at h<;>first | trivial | exact h.elim | exact ⟨h.1.sw,h.2⟩ | exact RA.sw h
theorem C6t:∀ {l:List A} {k:Nat} {v:A},(swL i j l)[k]? = some v→∃ a,l[k]? = some a∧v=swA i j a:=by
 intro l
 induction l with
 | nil=>intro k v h;simp [swL] at h
 | cons a l ih =>
  intro k v h
  cases k with
  | zero=>simp [swL] at h;exact ⟨a,rfl,h.symm⟩
  | succ k=>exact ih (by simpa [swL] using h)
theorem C6u:∀ {l:List A},(swL i j l).length=l.length:=by
 intro l
 induction l with
 | nil=>rfl
 | cons a l ih=>simp [swL,ih]
theorem C2.sw {a:A} {v:Value} (h:C2 T e a v):C2 T (e.sw i j) (swA i j a) v:=by
 cases a with
 | t l =>
  obtain ⟨xs,rfl,h2,h3⟩:=h
  refine ⟨xs,rfl,by rw [C6u];exact h2,fun k v x hv hx=>?_⟩
  obtain ⟨a,ha,rfl⟩:=C6t hv
  exact (h3 k a x ha hx).sw
 | _=>exact (by first | exact H5.sw (a:=.i _ _) h | exact H5.sw (a:=.b _) h | exact H5.sw (a:=.s _) h | exact H5.sw (a:=.z _) h | exact H5.sw (a:=.v _ _) h | exact H5.sw (a:=.p _ _ _) h | exact H5.sw (a:=.e _ _ _ _ _) h | exact H5.sw (a:=.c _ _) h | exact H5.sw (a:=.q _ _) h | exact H5.sw (a:=.o _ _) h | exact H5.sw (a:=.w _ _ _ _) h | exact H5.sw (a:=.a _ _ _ _ _) h | exact H5.sw (a:=.m _) h | exact H5.sw (a:=.y _) h | exact H5.sw (a:=.f _ _) h | exact H5.sw (a:=.g _ _) h | trivial)
theorem MR.sw {kt et:Nat} {es:List (V×A)} {ms:List MapEntry} (h:MR T e kt et es ms):MR T (e.sw i j) kt et (swE i j es) ms:=by
 induction h with
 | nil=>exact .nil
 | cons h1 h2 h3 _ ih=>exact .cons h1.sw h2.sw (by rw [B0K];exact h3) ih
theorem A4d:∀ l:List (V×A),swE i j l=l.map fun p=>(p.1,swA i j p.2):=by
 intro l
 induction l with
 | nil=>rfl
 | cons p r ih=>simp [swE,ih]
theorem C6v {et:Nat}:∀ es:List (V×V),swE i j (vms et es)=vms et es:=by
 intro es
 induction es with
 | nil=>rfl
 | cons p r ih=>simp only [vms,swE,ih];rfl
theorem C6w:∀ {l:List (Nat×A)} {p:Nat×A},p∈swS i j l→∃ q∈l,p=(q.1,swA i j q.2):=by
 intro l
 induction l with
 | nil=>intro p hp;cases hp
 | cons q r ih =>
  intro p hp
  rcases List.mem_cons.1 hp with rfl | hp
  ·exact ⟨q,by simp,rfl⟩
  ·obtain ⟨q',h1,h2⟩:=ih hp
   exact ⟨q',by simp [h1],h2⟩
theorem OK.sw {id:Nat} {o:Ob} (h:OK T e id o):OK T (e.sw i j) (Vm.sw i j id) (swO i j o):=by
 cases o with
 | box t a sh =>
  obtain ⟨h1,h2,h2',h2'',b,cs,ty,fz,h3,h4,h5,h5',h6,h7⟩:=h
  simp only [OK,swO,B4.sw,sw_sw,B0K]
  exact ⟨h1,h2,h2',h2'',b,cs,ty,fz,h3,h4,h5,h5',RA.sw h6,h7⟩
 | row el ver xs nl sh =>
  obtain ⟨h1,h2,h3,h4,h4',h5,h6⟩:=h
  simp only [OK,swO,B4.sw,sw_sw]
  refine ⟨h1,h2,h3,h4,h4',h5,?_⟩
  rcases h6 with h6 | ⟨nn',b,o,cs,t,fz,pre,ys,post,g1,g2,g3,g4,g5,g6,g7,g8⟩
  ·exact .inl h6
  ·exact .inr ⟨nn',b,o,cs,t,fz,pre,ys,post,g1,g2,g3,g4,g5,g6.sw,g7,g8⟩
 | map kt et es =>
  obtain ⟨h1,h2,b,ms,clock,h3,h4,⟨h5,h5'⟩,es',h6,h7⟩:=h
  simp only [OK,swO,B4.sw,sw_sw]
  refine ⟨h1,h2,b,ms,clock,h3,h4,⟨by rw [A4d,List.map_map];exact h5,h5'⟩,swE i j es',by rw [A4d,A4d];exact h6.map _,h7.sw⟩
 | vm kt et es =>
  obtain ⟨h1,h2,b,ms,clock,h3,h4,⟨h5,h5'⟩,es',h6,h7⟩:=h
  simp only [OK,swO,B4.sw,sw_sw]
  refine ⟨h1,h2,b,ms,clock,h3,h4,⟨h5,h5'⟩,swE i j es',by rw [← C6v (i:=i) (j:=j) es,A4d,A4d];exact h6.map _,h7.sw⟩
 | sm kt st el es ho =>
  obtain ⟨h1,h2,ha,hb',hc,b,ms,clock,h3,h4,h5,es',bs,h6,h7⟩:=h
  simp only [OK,swO,B4.sw,sw_sw]
  exact ⟨h1,h2,ha,hb',hc,b,ms,clock,h3,h4,h5,es',bs,h6,SR.change (e:=e) (e':=e.sw i j) (fun a ds q=>q) rfl (fun _ _ q=>q) (fun _ _ q=>q) h7⟩
 | lp q =>
  cases q with
  | none =>
   obtain ⟨h1,h2,b,h3,h4⟩:=h
   simp only [OK,swO,B4.sw,sw_sw]
   exact ⟨h1,h2,b,h3,h4⟩
  | some r =>
   obtain ⟨h1,h2,b,tm,df,fn,h3,h4,h5,h6⟩:=h
   simp only [OK,swO,B4.sw,sw_sw]
   refine ⟨h1,h2,b,tm,df,fn,h3,h4,h5,fun p hp=>?_⟩
   obtain ⟨q,hq,rfl⟩:=C6w hp
   exact (h6 q hq).sw
 | it q =>
  cases q with
  | none =>
   obtain ⟨h1,h2,b,x,y,z,h3,h4⟩:=h
   simp only [OK,swO,B4.sw,sw_sw]
   exact ⟨h1,h2,b,x,y,z,h3,h4⟩
  | some m =>
   obtain ⟨h1,h2,b,bm,x,z,h3,h4,h5,h6,h7⟩:=h
   simp only [OK,swO,B4.sw,sw_sw]
   exact ⟨h1,h2,b,bm,x,z,h3,h4,h5,h6,h7⟩
mutual
theorem B0L:∀ (a:A),(∀ k∈E1 a,k≠i∧k≠j)→swA i j a=a:=by
 intro a h
 cases a with
 | p id t path=>have:=h id (by simp [E1]);simp only [swA,A53 this.1 this.2]
 | e id ver k t path=>have:=h id (by simp [E1]);simp only [swA,A53 this.1 this.2]
 | o id ver=>have:=h id (by simp [E1]);simp only [swA,A53 this.1 this.2]
 | w id ver off n=>have:=h id (by simp [E1]);simp only [swA,A53 this.1 this.2]
 | a id t path lo m=>have:=h id (by simp [E1]);simp only [swA,A53 this.1 this.2]
 | m id=>have:=h id (by simp [E1]);simp only [swA,A53 this.1 this.2]
 | y id=>have:=h id (by simp [E1]);simp only [swA,A53 this.1 this.2]
 | f fn l=>simp only [swA,B0M l (fun k hk=>h k (by simpa [E1] using hk))]
 | g t l=>simp only [swA,B0M l (fun k hk=>h k (by simpa [E1] using hk))]
 | t l=>simp only [swA,B0M l (fun k hk=>h k (by simpa [E1] using hk))]
 | _=>rfl
theorem B0M:∀ (l:List A),(∀ k∈E5 l,k≠i∧k≠j)→swL i j l=l:=by
 intro l h
 cases l with
 | nil=>rfl
 | cons a r=>simp only [swL,B0L a (fun k hk=>h k (by simp [E5,hk])),B0M r (fun k hk=>h k (by simp [E5,hk]))]
end
theorem D1b:∀ (l:List (V×A)),(∀ k∈A2X l,k≠i∧k≠j)→swE i j l=l:=by
 intro l
 induction l with
 | nil=>intro _;rfl
 | cons p r ih=>intro h;simp only [swE,B0L p.2 (fun k hk=>h k (by simp [A2X,hk])),ih (fun k hk=>h k (by simp [A2X,hk]))]
theorem D1c:∀ (l:List (Nat×A)),(∀ k∈A3x l,k≠i∧k≠j)→swS i j l=l:=by
 intro l
 induction l with
 | nil=>intro _;rfl
 | cons p r ih=>intro h;simp only [swS,B0L p.2 (fun k hk=>h k (by simp [A3x,hk])),ih (fun k hk=>h k (by simp [A3x,hk]))]
theorem D1d:∀ (o:Ob),(∀ k∈A1E o,k≠i∧k≠j)→swO i j o=o:=by
 intro o h
 cases o with
 | box t a sh=>simp only [swO,B0L a h]
 | row el ver xs nl sh=>rfl
 | map kt et es=>simp only [swO,D1b es h]
 | vm kt et es=>rfl
 | sm _ _ _ _ _=>rfl
 | lp q=>cases q with
  | none=>rfl
  | some r=>simp only [swO,D1c r.sl h]
 | it q=>cases q with
  | none=>rfl
  | some m=>have:=h m (by simp [A1E]);simp only [swO,A53 this.1 this.2]
theorem H5.used {a:A} {v:Value} (h:H5 T e a v):∀ id∈E1 a,e.U id:=by
 have one:∀ {a:A} {cs:List Value},RA T e [a] cs→∀ id∈E1 a,e.U id:=fun g id A3=>g.use id (by simp [E5,A3])
 cases a<;>simp only [H5] at h
 case x=>intro id A3;cases A3
 case v=>intro id A3;cases A3
 case g=>exact one h.1
 all_goals exact one h
theorem MR.used {kt et:Nat} {es:List (V×A)} {ms:List MapEntry} (h:MR T e kt et es ms):∀ id∈A2X es,e.U id:=by
 induction h with
 | nil=>intro id A3;cases A3
 | cons h1 h2 _ _ ih =>
  intro id A3
  simp only [A2X,D55] at A3
  exact A3.elim (h2.used id) (ih id)
theorem A41 {a b:List (V×A)} (h:a.Perm b):∀ id,id∈A2X b→id∈A2X a:=by
 have mem:∀ (l:List (V×A)) id,id∈A2X l↔∃ p∈l,id∈E1 p.2:=by
  intro l id
  induction l with
  | nil=>simp [A2X]
  | cons p r ih=>simp [A2X,ih]
 intro id A3
 rw [mem] at A3 ⊢
 obtain ⟨p,hp,hq⟩:=A3
 exact ⟨p,h.mem_iff.2 hp,hq⟩
theorem OK.used {id:Nat} {o:Ob} (h:OK T e id o):∀ k∈A1E o,e.U k:=by
 cases o with
 | box t a sh =>
  obtain ⟨h1,h2,h2',h2'',b,cs,ty,fz,h3,h4,h5,h5',h6,h7⟩:=h
  exact fun k hk=>h6.use k (by simpa [E5,A1E] using hk)
 | row el ver xs nl sh=>intro k hk;cases hk
 | map kt et es =>
  obtain ⟨h1,h2,b,ms,clock,h3,h4,h5,es',h6,h7⟩:=h
  exact fun k hk=>h7.used k (A41 h6 k hk)
 | vm kt et es=>intro k hk;cases hk
 | sm _ _ _ _ _=>intro k hk;cases hk
 | lp q =>
  cases q with
  | none=>intro k hk;cases hk
  | some r =>
   obtain ⟨h1,h2,b,tm,df,fn,h3,h4,h5,h6⟩:=h
   have mem:∀ (l:List (Nat×A)) id,id∈A3x l→∃ p∈l,id∈E1 p.2:=by
    intro l id
    induction l with
    | nil=>intro h;cases h
    | cons p r ih =>
     intro h
     simp only [A3x,D55] at h
     rcases h with h | h
     ·exact ⟨p,by simp,h⟩
     ·obtain ⟨q,q1,q2⟩:=ih h;exact ⟨q,by simp [q1],q2⟩
   intro k hk
   obtain ⟨p,hp,hq⟩:=mem _ _ hk
   exact (h6 p hp).used k hq
 | it q =>
  cases q with
  | none=>intro k hk;cases hk
  | some m =>
   obtain ⟨h1,h2,b,bm,x,z,h3,h4,h5,h6,h7⟩:=h
   intro k hk
   have:k=m:=by simpa [A1E] using hk
   subst this;exact h5
def swP (i j:Nat) (p:Nat×Ob):Nat×Ob:=(sw i j p.1,swO i j p.2)
def swM (i j:Nat):List (Nat×Ob)→List (Nat×Ob)
 | []=>[]
 | p::r=>swP i j p::swM i j r
theorem C6x:∀ (l:List (Nat×Ob)) (f g:Nat→Option Ob),(∀ n,g n=(f (sw i j n)).map (swO i j))→∀ n,put g (swM i j l) n=(put f l (sw i j n)).map (swO i j):=by
 intro l
 induction l with
 | nil=>intro f g h n;exact h n
 | cons p r ih =>
  intro f g h n
  obtain ⟨k,o⟩:=p
  simp only [swM,swP,put]
  refine ih _ _ (fun n=>?_) n
  by_cases hn:n=sw i j k
  ·subst hn;rw [upd_same,sw_sw,upd_same];rfl
  ·rw [upd_ne _ _ hn,upd_ne _ _ (fun q=>hn (by rw [← q,sw_sw])),h]
theorem C0J {l:List Nat} {ds:List Deferred} (h:A0c e l ds):A0c (e.sw i j) (l.map (sw i j)) ds:=by
 induction h with
 | nil=>exact .nil
 | cons h1 h2 h3 _ ih=>exact .cons (by simp only [B4.sw,sw_sw];exact h1) (by simp only [B4.sw,sw_sw];exact h2) (by simp only [B4.sw,sw_sw];exact h3) ih
variable {P:Program} {T:TT} {c:J8} {e eb:B4} {of of':Nat→Option Ob}
def A42 (ob:Tr) (n0 nx:Nat):Nat→List Nat→List Nat→List Nat
 | 0,_,seen=>seen
 | _+1,[],seen=>seen
 | f+1,id::r,seen=>bif mem id seen||!(G9 n0 nx id) then A42 ob n0 nx f r seen else
  match ob.get id with
  | some o=>A42 ob n0 nx f (A1E (A4c ob n0 nx id o)++r) (id::seen)
  | none=>A42 ob n0 nx f r (id::seen)
def okR (n0 nx:Nat) (keep:List Nat) (id:Nat):Bool:=!(G9 n0 nx id)||mem id keep
def B0N (n0 nx:Nat) (keep:List Nat):List Nat→Bool
 | []=>true
 | id::r=>okR n0 nx keep id&&B0N n0 nx keep r
def B0O:List (V×A)→Bool
 | []=>true
 | p::r=>(match E1 p.2 with | []=>true | _=>false)&&B0O r
def D0i:Ob→Bool
 | .map _ _ es=>B0O es
 | _=>true
def A3I (ob:Tr) (n0 nx:Nat) (keep:List Nat):List (Nat×Ob)→List (Nat×Ob)
 | []=>[]
 | p::r=>bif okR n0 nx keep p.1 then (p.1,A4c ob n0 nx p.1 p.2)::A3I ob n0 nx keep r else A3I ob n0 nx keep r
def C0K (n0 nx:Nat) (keep:List Nat):List (Nat×Ob)→Bool
 | []=>true
 | p::r=>B0N n0 nx keep (A1E p.2)&&(D0i p.2&&C0K n0 nx keep r)
def C0L:List Nat→Nat→Nat
 | [],m=>m
 | id::r,m=>C0L r (bif Nat.blt m (id+1) then id+1 else m)
def A61 (ob:Tr) (n0 nx:Nat):List (Nat×Ob)→List Nat
 | []=>[]
 | p::r=>bif G9 n0 nx p.1 then A61 ob n0 nx r else A1E (A4c ob n0 nx p.1 p.2)++A61 ob n0 nx r
def mkL:Option (List Nat)→List Nat
 | some l=>l
 | none=>[]
theorem A0c.anew {ob:Tr} {n0 nx:Nat} {keep:List Nat} (hA:A2Z T c e eb of' ob n0 nx) {l:List Nat} {ds:List Deferred} (h:A0c e l ds):(∀ id∈l,G9 n0 nx id=true→id∈keep)→A0c (e.anew ob n0 nx keep) l ds:=by
 induction h with
 | nil=>intro _;exact .nil
 | cons h1 h2 h3 _ ih=>intro hk;exact .cons ⟨h1,hk _ (by simp)⟩ (hA.box0 h2) h3 (ih fun id A3=>hk id (by simp [A3]))
theorem A39.anew {ob:Tr} {n0 nx:Nat} {keep:List Nat} (hA:A2Z T c e eb of' ob n0 nx) {rd:Option Nat} {l:Option (List Nat)} {ds:List Deferred} (h:A39 e rd l ds) (hk:∀ id∈mkL l,G9 n0 nx id=true→id∈keep):A39 (e.anew ob n0 nx keep) rd l ds:=by
 cases l with
 | none=>exact h
 | some l=>exact ⟨h.1,h.2.anew hA hk⟩
def St.norm0 (σ:St) (n0:Nat) (ks:List Nat):Option St :=
 let sl:=A6Z σ.ob n0 σ.nx (A1y σ.sl ks)
 let L:=σ.ob.toL fun j=>j
 let keep:=A42 σ.ob n0 σ.nx 1000 (A3x sl++(mkL σ.mks++A61 σ.ob n0 σ.nx L)) []
 let L2:=A3I σ.ob n0 σ.nx keep L
 bif (B0N n0 σ.nx keep (A3x sl)&&B0N n0 σ.nx keep (mkL σ.mks))&&C0K n0 σ.nx keep L2 then some ⟨sl,A1p .e L2,σ.rd,C0L keep n0,σ.mks⟩ else none
theorem B2y {n0 nx id:Nat} {keep:List Nat} (h:okR n0 nx keep id=true):G9 n0 nx id=true→id∈keep:=by
 intro hn
 unfold okR at h
 rw [hn] at h
 exact mem_iff.1 (by simpa using h)
theorem A43 {n0 nx:Nat} {keep:List Nat}:∀ {l:List Nat},B0N n0 nx keep l=true→∀ id∈l,G9 n0 nx id=true→id∈keep:=by
 intro l
 induction l with
 | nil=>intro _ id h;cases h
 | cons k r ih =>
  intro h id A3
  simp only [B0N,D5V] at h
  rcases List.mem_cons.1 A3 with rfl | A3
  ·exact B2y h.1
  ·exact ih h.2 id A3
theorem B2z:∀ {es:List (V×A)},B0O es=true→∀ p∈es,E1 p.2=[]:=by
 intro es
 induction es with
 | nil=>intro _ p h;cases h
 | cons q r ih =>
  intro h p hp
  simp only [B0O,D5V] at h
  rcases List.mem_cons.1 hp with rfl | hp
  ·cases hq:E1 p.2 with
   | nil=>rfl
   | cons _ _=>rw [hq] at h;simp at h
  ·exact ih h.2 p hp
theorem C6y:∀ (l:List Nat) (m:Nat),m≤C0L l m∧∀ id∈l,id < C0L l m:=by
 intro l
 induction l with
 | nil=>intro m;exact ⟨Nat.le_refl _,fun id h=>by cases h⟩
 | cons k r ih =>
  intro m
  simp only [C0L]
  obtain ⟨p,q⟩:=ih (bif Nat.blt m (k+1) then k+1 else m)
  have hm:m≤(bif Nat.blt m (k+1) then k+1 else m)∧k < (bif Nat.blt m (k+1) then k+1 else m):=by
   cases hb:Nat.blt m (k+1) with
   | true=>have:m < k+1:=by simpa [Nat.blt_eq] using hb
           exact ⟨by simp;omega,by simp⟩
   | false =>
    have:¬ m < k+1:=by intro hq;rw [show Nat.blt m (k+1)=true by simpa [Nat.blt_eq] using hq] at hb;cases hb
    exact ⟨by simp,by simp;omega⟩
  refine ⟨Nat.le_trans hm.1 p,fun id A3=>?_⟩
  rcases List.mem_cons.1 A3 with rfl | A3
  ·exact Nat.lt_of_lt_of_le hm.2 p
  ·exact q id A3
theorem C0M {ob:Tr} {n0 nx:Nat}:∀ {l:List (Nat×A)} {t:Nat},F1 (A6Z ob n0 nx l) t=W1 ob n0 nx (F1 l t):=by
 intro l
 induction l with
 | nil=>intro t;rfl
 | cons p r ih =>
  intro t
  obtain ⟨k,v⟩:=p
  rw [A6Z,J3,J3]
  by_cases h:t=k
  ·subst h;rw [upd_same,upd_same]
  ·rw [upd_ne _ _ h,upd_ne _ _ h];exact ih
theorem C0N:∀ {l:List (Nat×A)} {t:Nat},∀ id∈E1 (F1 l t),id∈A3x l:=by
 intro l
 induction l with
 | nil=>intro t id h;cases h
 | cons p r ih =>
  intro t id h
  obtain ⟨k,v⟩:=p
  simp only [A3x,D55]
  rw [J3] at h
  by_cases hk:t=k
  ·subst hk;rw [upd_same] at h;exact .inl h
  ·rw [upd_ne _ _ hk] at h;exact .inr (ih id h)
theorem A44:∀ (l:List (Nat×Ob)) (f:Nat→Option Ob) (id:Nat),put f l id=match put (fun _=>none) l id with
  | some o=>some o
  | none=>f id:=by
 intro l
 induction l with
 | nil=>intro f id;rfl
 | cons p r ih =>
  intro f id
  obtain ⟨k,o⟩:=p
  simp only [put]
  rw [ih (F8 f k (some o)),ih (F8 (fun _=>none) k (some o))]
  cases hq:put (fun _=>none) r id with
  | some o'=>rfl
  | none =>
   simp only
   by_cases h:id=k
   ·subst h;rw [upd_same,upd_same]
   ·rw [upd_ne _ _ h,upd_ne _ _ h]
theorem B2A {ob:Tr} {n0 nx:Nat} {keep:List Nat}:∀ (l:List (Nat×Ob)) (id:Nat),put (fun _=>none) (A3I ob n0 nx keep l) id=if okR n0 nx keep id=true then (put (fun _=>none) l id).map (A4c ob n0 nx id) else none:=by
 intro l
 induction l with
 | nil=>intro id;simp [A3I,put]
 | cons p r ih =>
  intro id
  obtain ⟨k,o⟩:=p
  simp only [A3I]
  cases hk:okR n0 nx keep k with
  | false =>
   simp only [cond_false,put]
   rw [ih id,A44 r (F8 (fun _=>none) k (some o))]
   by_cases A3:okR n0 nx keep id=true
   ·have hne:id≠k:=fun h=>by subst h;rw [hk] at A3;cases A3
    rw [if_pos A3,if_pos A3,upd_ne _ _ hne]
    cases put (fun _=>none) r id<;>rfl
   ·rw [if_neg A3,if_neg A3]
  | true =>
   simp only [cond_true,put]
   rw [A44 (A3I ob n0 nx keep r) (F8 (fun _=>none) k _),ih id,A44 r (F8 (fun _=>none) k (some o))]
   by_cases A3:okR n0 nx keep id=true
   ·rw [if_pos A3,if_pos A3]
    cases put (fun _=>none) r id with
    | some o'=>rfl
    | none =>
     simp only [Option.map_none]
     by_cases h:id=k
     ·subst h;rw [upd_same,upd_same];rfl
     ·rw [upd_ne _ _ h,upd_ne _ _ h];rfl
   ·rw [if_neg A3,if_neg A3]
    simp only
    by_cases h:id=k
    ·subst h;exact absurd hk A3
    ·exact upd_ne _ _ h
theorem C0O {n0 nx:Nat} {keep:List Nat}:∀ {l:List (Nat×Ob)},C0K n0 nx keep l=true→∀ id o,put (fun _=>none) l id=some o→B0N n0 nx keep (A1E o)=true∧D0i o=true:=by
 intro l
 induction l with
 | nil=>intro _ id o h;cases h
 | cons p r ih =>
  intro h id o ho
  obtain ⟨k,o1⟩:=p
  simp only [C0K,D5V] at h
  simp only [put] at ho
  rw [A44] at ho
  split at ho
  ·rename_i o' ho'
   injection ho with ho;subst ho
   exact ih h.2.2 id _ ho'
  ·by_cases hk:id=k
   ·subst hk;rw [upd_same] at ho;injection ho with ho;subst ho;exact ⟨h.1,h.2.1⟩
   ·rw [upd_ne _ _ hk] at ho;cases ho
theorem Sim.norm0 {n0 nt:Nat} {σ σn:St} {a:Act} {w:World} {ks:List Nat} (h:Sim T c eb of' n0 nt σ a w) (hb:A85 T eb of') (hnew:∀ id,n0≤id→id < σ.nx→¬ eb.U id) (hn:σ.norm0 n0 ks=some σn):Sim T c eb of' n0 nt σn a w∧n0≤σn.nx∧σn.rd=σ.rd:=by
 obtain ⟨e,rfl,hst⟩:=h
 unfold St.norm0 at hn
 simp only at hn
 generalize hkeep:A42 σ.ob n0 σ.nx 1000 (A3x (A6Z σ.ob n0 σ.nx (A1y σ.sl ks))++(mkL σ.mks++A61 σ.ob n0 σ.nx (σ.ob.toL fun j=>j))) []=keep at hn
 cases hc:((B0N n0 σ.nx keep (A3x (A6Z σ.ob n0 σ.nx (A1y σ.sl ks)))&&B0N n0 σ.nx keep (mkL σ.mks))&&C0K n0 σ.nx keep (A3I σ.ob n0 σ.nx keep (σ.ob.toL fun j=>j))) with
 | false=>rw [hc] at hn;cases hn
 | true =>
 rw [hc] at hn
 simp only [cond_true,D5X] at hn
 subst hn
 simp only [D5V] at hc
 obtain ⟨hc1,hc2⟩:=hc
 have isn:∀ {id:Nat},G9 n0 σ.nx id=true→n0≤id∧id < σ.nx:=fun {id} hq=>by
  simp only [G9,D5V] at hq
  exact ⟨D50 hq.1,by simpa [Nat.blt_eq] using hq.2⟩
 have nis:∀ {id:Nat},eb.U id→G9 n0 σ.nx id=false:=fun {id} hu=>by
  cases hq:G9 n0 σ.nx id with
  | false=>rfl
  | true=>exact absurd hu (hnew id (isn hq).1 (isn hq).2)
 have hA:A2Z T c e eb of' σ.ob n0 σ.nx:=⟨hst.os,fun id hq=>hnew id (isn hq).1 (isn hq).2⟩
 obtain ⟨hm0,hmk⟩:=C6y keep n0
 have hget:∀ id,put (fun _=>none) (σ.ob.toL fun j=>j) id=σ.ob.get id:=fun id=>by
  rw [A2p];unfold C1;cases σ.ob.get id<;>rfl
 have hover:∀ id,C1 (A1p .e (A3I σ.ob n0 σ.nx keep (σ.ob.toL fun j=>j))) of' id=if okR n0 σ.nx keep id=true then (match σ.ob.get id with | some o=>some (A4c σ.ob n0 σ.nx id o) | none=>of' id) else of' id:=by
  intro id
  rw [A0Y,show C1 Tr.e of'=of' from funext fun j=>by unfold C1;rw [Tr.get_e],A44,B2A,hget]
  by_cases A3:okR n0 σ.nx keep id=true
  ·rw [if_pos A3,if_pos A3];cases σ.ob.get id<;>rfl
  ·rw [if_neg A3,if_neg A3]
 have hok:∀ id o,C1 (A1p .e (A3I σ.ob n0 σ.nx keep (σ.ob.toL fun j=>j))) of' id=some o→OK T (e.anew σ.ob n0 σ.nx keep) id o∧(C1 σ.ob of' id).isSome∧e.U id:=by
  intro id o ho
  rw [hover] at ho
  by_cases A3:okR n0 σ.nx keep id=true
  ·rw [if_pos A3] at ho
   cases hg:σ.ob.get id with
   | some o1 =>
    rw [hg] at ho
    injection ho with ho;subst ho
    have h1:C1 σ.ob of' id=some o1:=by unfold C1;rw [hg]
    have hch:=C0O hc2 id (A4c σ.ob n0 σ.nx id o1) (by rw [B2A,if_pos A3,hget,hg];rfl)
    refine ⟨OK.fix hA hg (hst.os.ok _ _ h1) (B2y A3) (A43 hch.1) (fun kt et es he=>?_),by rw [h1];rfl,(hst.os.ok _ _ h1).use⟩
    subst he
    exact B2z hch.2
   | none =>
    rw [hg] at ho
    have h1:C1 σ.ob of' id=some o:=by unfold C1;rw [hg];exact ho
    exact ⟨OK.old hA (hst.os.ok _ _ h1) (hb id o ho),by rw [h1];rfl,(hst.os.ok _ _ h1).use⟩
  ·rw [if_neg A3] at ho
   have hu:=(hb id o ho).use
   have:=nis hu
   unfold okR at A3
   rw [this] at A3
   exact absurd rfl A3
 refine ⟨⟨e.anew σ.ob n0 σ.nx keep,rfl,⟨⟨fun id o ho=>(hok id o ho).1,fun i j b o b' o' hi hj=>?_,fun i b o hi=>?_,fun i b o hi=>hst.os.lt i b o hi.1,hst.os.slt,hst.os.s0,hst.os.snew,hst.os.os,hst.os.tape,hst.os.output,hst.os.size,hst.os.block,hst.os.g.mono (fun _ _ q=>q) rfl (fun _ q=>q) (Nat.le_refl _) (fun j b o hj hb=>by
  obtain ⟨o1,ho1⟩:=D5Z.1 hj
  exact .inl ⟨j,o,(hok _ _ ho1).2.1,hb⟩)⟩,?_,fun id A3=>?_,fun t=>?_,hst.def_.anew hA (A43 hc1.2),hst.nt⟩⟩,hm0,rfl⟩
 ·obtain ⟨o1,ho1⟩:=D5Z.1 hi
  obtain ⟨o2,ho2⟩:=D5Z.1 hj
  exact hst.os.sep i j b o b' o' (hok _ _ ho1).2.1 (hok _ _ ho2).2.1
 ·obtain ⟨o1,ho1⟩:=D5Z.1 hi
  exact hst.os.own i b o (hok _ _ ho1).2.1
 ·have old:∀ {id:Nat},eb.U id→(e.anew σ.ob n0 σ.nx keep).bn id=e.bn id:=fun {id} hu=>R8 (A1W (nis hu))
  exact ⟨hst.le.S,fun id hu=>⟨hst.le.use id hu,fun hq=>by rw [nis hu] at hq;cases hq⟩,fun id hu hq=>hst.le.obj id hu (by rw [← old hu];exact hq),fun id hu h0=>by rw [old hu];exact hst.le.box id hu h0,fun id hu=>by rw [old hu];exact hst.le.up id hu,hst.le.ty,hst.le.grow,hst.le.keep⟩
 ·rcases hst.U id A3.1 with h | h
  ·exact .inl h
  ·refine .inr ⟨h.1,hmk id (A3.2 ?_)⟩
   simp only [G9,D5V]
   exact ⟨D54 h.1,by simpa [Nat.blt_eq] using h.2⟩
 ·show C2 T _ (F1 (A6Z σ.ob n0 σ.nx (A1y σ.sl ks)) t) _
  have hr:C2 T e (F1 (A1y σ.sl ks) t) (a.tmps.getD t undef):=by
   rcases B0i σ.sl ks t with h | h
   ·rw [h];trivial
   ·rw [h];exact hst.sl t
  have href:∀ id∈E1 (F1 (A6Z σ.ob n0 σ.nx (A1y σ.sl ks)) t),G9 n0 σ.nx id=true→id∈keep:=fun id A3=>A43 hc1.1 id (C0N id A3)
  rw [C0M] at href ⊢
  exact hr.fix hA href
def St.swap (σ:St) (i j:Nat):St:={ σ with sl:=swS i j σ.sl,ob:=A1p .e (swM i j (σ.ob.toL fun j=>j)),mks:=match σ.mks with
 | some l=>some (l.map (sw i j))
 | none=>none }
theorem C6z {i j:Nat}:∀ {l:List (Nat×A)} {t:Nat},F1 (swS i j l) t=swA i j (F1 l t):=by
 intro l
 induction l with
 | nil=>intro t;rfl
 | cons p r ih =>
  intro t
  obtain ⟨k,v⟩:=p
  rw [swS,J3,J3]
  by_cases h:t=k
  ·subst h;rw [upd_same,upd_same]
  ·rw [upd_ne _ _ h,upd_ne _ _ h];exact ih
theorem Sim.swap {n0 nt:Nat} {σ:St} {a:Act} {w:World} (h:Sim T c eb of' n0 nt σ a w) (hb:A85 T eb of') {i j:Nat} (hi:n0≤i∧i < σ.nx) (hj:n0≤j∧j < σ.nx) (hui:¬ eb.U i) (huj:¬ eb.U j):Sim T c eb of' n0 nt (σ.swap i j) a w:=by
 obtain ⟨e,rfl,hst⟩:=h
 have old:∀ {n:Nat},eb.U n→sw i j n=n:=fun {n} hu=>A53 (fun q=>hui (q ▸ hu)) (fun q=>huj (q ▸ hu))
 have hget:∀ id,put (fun _=>none) (σ.ob.toL fun j=>j) id=σ.ob.get id:=fun id=>by
  rw [A2p];unfold C1;cases σ.ob.get id<;>rfl
 have hover:∀ n,C1 (A1p .e (swM i j (σ.ob.toL fun j=>j))) of' n=match σ.ob.get (sw i j n) with
   | some o=>some (swO i j o)
   | none=>of' n:=by
  intro n
  rw [A0Y,show C1 Tr.e of'=of' from funext fun j=>by unfold C1;rw [Tr.get_e],A44,C6x _ (fun _=>none) (fun _=>none) (fun _=>rfl),hget]
  cases σ.ob.get (sw i j n)<;>rfl
 have hok:∀ n o,C1 (A1p .e (swM i j (σ.ob.toL fun j=>j))) of' n=some o→OK T (e.sw i j) n o∧(C1 σ.ob of' (sw i j n)).isSome:=by
  intro n o ho
  rw [hover] at ho
  split at ho
  ·rename_i o1 hg
   injection ho with ho;subst ho
   have h1:C1 σ.ob of' (sw i j n)=some o1:=by unfold C1;rw [hg]
   have:=(hst.os.ok _ _ h1).sw (i:=i) (j:=j)
   rw [sw_sw] at this
   exact ⟨this,by rw [h1];rfl⟩
  ·rename_i hg
   have hbo:=hb n o ho
   have hn:=old hbo.use
   rw [hn] at hg ⊢
   have h1:C1 σ.ob of' n=some o:=by unfold C1;rw [hg];exact ho
   have:=(hst.os.ok _ _ h1).sw (i:=i) (j:=j)
   rw [hn,D1d o (fun k hk=>⟨fun q=>hui (by rw [← q];exact hbo.used k hk),fun q=>huj (by rw [← q];exact hbo.used k hk)⟩)] at this
   exact ⟨this,by rw [h1];rfl⟩
 refine ⟨e.sw i j,rfl,⟨fun id o ho=>(hok id o ho).1,fun p q b o b' o' hp hq hb1 hb2 hne=>?_,fun p b o hp hb1=>?_,fun p b o hp hb1=>hst.os.lt _ b o hp hb1,hst.os.slt,hst.os.s0,hst.os.snew,hst.os.os,hst.os.tape,hst.os.output,hst.os.size,hst.os.block,hst.os.g.mono (fun _ _ q=>q) rfl (fun _ q=>q) (Nat.le_refl _) (fun p b o hp hb=>by
  obtain ⟨o1,ho1⟩:=D5Z.1 hp
  exact .inl ⟨_,o,(hok _ _ ho1).2,hb⟩)⟩,?_,fun id A3=>?_,fun t=>?_,?_,hst.nt⟩
 ·obtain ⟨o1,ho1⟩:=D5Z.1 hp
  obtain ⟨o2,ho2⟩:=D5Z.1 hq
  exact hst.os.sep _ _ b o b' o' (hok _ _ ho1).2 (hok _ _ ho2).2 hb1 hb2 (fun k=>hne (D1a k))
 ·obtain ⟨o1,ho1⟩:=D5Z.1 hp
  exact hst.os.own _ b o (hok _ _ ho1).2 hb1
 ·have k:∀ {n:Nat},eb.U n→(e.sw i j).ι n=e.ι n∧(e.sw i j).bn n=e.bn n∧(e.sw i j).ln n=e.ln n∧(e.sw i j).ty n=e.ty n∧((e.sw i j).U n↔e.U n):=fun {n} hu=>by
   have:=old hu
   refine ⟨?_,?_,?_,?_,?_⟩<;>simp only [B4.sw,this]
  exact ⟨hst.le.S,fun id hu=>(k hu).2.2.2.2.2 (hst.le.use id hu),fun id hu hq=>by rw [(k hu).1,(k hu).2.2.1];exact hst.le.obj id hu (by rw [← (k hu).2.1];exact hq),fun id hu h0=>by rw [(k hu).2.1];exact hst.le.box id hu h0,fun id hu=>by rw [(k hu).2.1];exact hst.le.up id hu,fun id hu=>by rw [(k hu).2.2.2.1];exact hst.le.ty id hu,hst.le.grow,hst.le.keep⟩
 ·by_cases h1:id=i
  ·subst h1;exact .inr hi
  ·by_cases h2:id=j
   ·subst h2;exact .inr hj
   ·have:e.U (sw i j id):=A3
    rw [A53 h1 h2] at this
    exact hst.U id this
 ·show C2 T _ (F1 (swS i j σ.sl) t) _
  rw [C6z]
  exact (hst.sl t).sw
 ·have:=hst.def_
  show A39 (e.sw i j) c.rd (match σ.mks with | some l=>some (l.map (sw i j)) | none=>none) a.defers
  cases hm:σ.mks with
  | none=>rw [hm] at this;exact this
  | some l=>rw [hm] at this;exact ⟨this.1,C0J this.2⟩
def St.permL (n0:Nat):List Nat→Nat→(Nat→Nat)→St→St
 | [],_,_,σ=>σ
 | id::r,k,f,σ=>bif G9 n0 σ.nx (f id)&&G9 n0 σ.nx k then St.permL n0 r (k+1) (fun n=>sw (f id) k (f n)) (σ.swap (f id) k) else σ
theorem St.permL_rd {n0:Nat}:∀ (l:List Nat) (k:Nat) (f:Nat→Nat) (σ:St),(St.permL n0 l k f σ).rd=σ.rd∧(St.permL n0 l k f σ).nx=σ.nx:=by
 intro l
 induction l with
 | nil=>intro k f σ;exact ⟨rfl,rfl⟩
 | cons id r ih =>
  intro k f σ
  unfold St.permL
  cases G9 n0 σ.nx (f id)&&G9 n0 σ.nx k
  ·exact ⟨rfl,rfl⟩
  ·exact ih (k+1) _ (σ.swap (f id) k)
theorem Sim.permL {n0 nt:Nat} {a:Act} {w:World} (hb:A85 T eb of'):∀ (l:List Nat) (k:Nat) (f:Nat→Nat) (σ:St),Sim T c eb of' n0 nt σ a w→(∀ id,n0≤id→id < σ.nx→¬ eb.U id)→Sim T c eb of' n0 nt (St.permL n0 l k f σ) a w:=by
 have isn:∀ {nx id:Nat},G9 n0 nx id=true→n0≤id∧id < nx:=fun {nx id} hq=>by
  simp only [G9,D5V] at hq
  exact ⟨D50 hq.1,by simpa [Nat.blt_eq] using hq.2⟩
 intro l
 induction l with
 | nil=>intro k f σ h _;exact h
 | cons id r ih =>
  intro k f σ h hn
  unfold St.permL
  cases hc:G9 n0 σ.nx (f id)&&G9 n0 σ.nx k with
  | false=>exact h
  | true =>
   simp only [D5V] at hc
   have h1:=isn hc.1
   have h2:=isn hc.2
   exact ih (k+1) _ (σ.swap (f id) k) (h.swap hb h1 h2 (hn _ h1.1 h1.2) (hn _ h2.1 h2.2)) hn
def St.met (σ:St) (n0:Nat) (ks:List Nat):List Nat :=
 (A42 σ.ob n0 σ.nx 1000 (A3x (A6Z σ.ob n0 σ.nx (A1y σ.sl ks))++(mkL σ.mks++A61 σ.ob n0 σ.nx (σ.ob.toL fun j=>j))) []).reverse
def St.norm (σ:St) (n0:Nat) (ks:List Nat):Option St :=
 match ks with
 | k::r=>bif Nat.beq k 999999 then (St.permL n0 (σ.met n0 r) n0 (fun n=>n) σ).norm0 n0 r else σ.norm0 n0 (k::r)
 | []=>σ.norm0 n0 []
theorem Sim.norm {n0 nt:Nat} {σ σn:St} {a:Act} {w:World} {ks:List Nat} (h:Sim T c eb of' n0 nt σ a w) (hb:A85 T eb of') (hnew:∀ id,n0≤id→id < σ.nx→¬ eb.U id) (hn:σ.norm n0 ks=some σn):Sim T c eb of' n0 nt σn a w∧n0≤σn.nx∧σn.rd=σ.rd:=by
 unfold St.norm at hn
 split at hn
 ·rename_i k r
  cases hk:Nat.beq k 999999 with
  | false=>rw [hk] at hn;exact h.norm0 hb hnew hn
  | true =>
   rw [hk] at hn
   obtain ⟨p1,p2⟩:=St.permL_rd (n0:=n0) (σ.met n0 r) n0 (fun n=>n) σ
   have:=(Sim.permL hb _ n0 (fun n=>n) σ h hnew).norm0 hb (fun id h1 h2=>hnew id h1 (by rw [p2] at h2;exact h2)) hn
   exact ⟨this.1,this.2.1,this.2.2.trans p1⟩
 ·exact h.norm0 hb hnew hn
theorem C0P {α:Type} {q:Bool} {a b:α} (h:(bif q then some a else none)=some b):q=true∧a=b:=by
 cases q with
 | false=>cases h
 | true=>exact ⟨rfl,by simpa using h⟩
theorem B6I {σ σn:St} {n0:Nat} {ks:List Nat} (h:σ.norm n0 ks=some σn):σn.rd=σ.rd:=by
 have z:∀ {σ σn:St} {ks:List Nat},σ.norm0 n0 ks=some σn→σn.rd=σ.rd:=fun {σ σn ks} h=>by
  unfold St.norm0 at h
  simp only at h
  rw [← (C0P h).2]
 unfold St.norm at h
 split at h
 ·rename_i k r
  cases hk:Nat.beq k 999999 with
  | false=>rw [hk] at h;exact z h
  | true=>rw [hk] at h;exact (z h).trans (St.permL_rd (n0:=n0) (σ.met n0 r) n0 (fun n=>n) σ).1
 ·exact z h
def W2 (n0:Nat) (ks:List Nat) (M5:Nat) (f:St→Option (Exit×St)):Nat→St→Option (Exit×St)
 | 0,_=>none
 | n+1,σ=>bif Nat.ble σ.nx M5 then (match σ.norm n0 ks with
  | some σn=>match f σn with
   | some (ex,σ1)=>match ex with
    | .normal=>W2 n0 ks M5 f n σ1
    | ex=>bif Nat.ble σ1.nx M5 then (match σ1.norm n0 ks with
     | some σ2=>bif Nat.ble σ2.nx M5 then some (ex,{ σ2 with nx:=M5 }) else none
     | none=>none) else none
   | none=>none
  | none=>none) else none
theorem Sim.up {n0 nt m:Nat} {σ:St} {a:Act} {w:World} (h:Sim T c eb of n0 nt σ a w) (hm:σ.nx≤m):Sim T c eb of n0 nt { σ with nx:=m } a w:=by
 obtain ⟨e,rfl,hst⟩:=h
 exact ⟨e,rfl,hst.os,hst.le,fun id A3=>(hst.U id A3).imp (fun q=>q) (fun q=>⟨q.1,Nat.lt_of_lt_of_le q.2 hm⟩),hst.sl,hst.def_,hst.nt⟩
theorem B4n {nt n0 M5:Nat} {ks:List Nat} {body:Code} {f:St→Option (Exit×St)} (hf:∀ σ ex σ',f σ=some (ex,σ')→A4I P T nt n0 of body σ ex σ'):∀ (n:Nat) (σ:St) (ex:Exit) (σ':St),W2 n0 ks M5 f n σ=some (ex,σ') →
  σ.le σ'∧σ'.nx=M5∧∀ (m:Nat) (of':Nat→Option Ob) (c:J8) (eb:B4) (a:Act) (w:World),A2U of of' eb n0 σ'→A85 T eb of'→Sim T c eb of' n0 nt σ a w→Code.roundsIn (WF c.rd) m P body (fun e a' w'=>e=ex∧Sim T c eb of' n0 nt σ' a' w') n a w:=by
 intro n
 induction n with
 | zero=>intro σ ex σ' h;cases h
 | succ n ih =>
  intro σ ex σ' h
  simp only [W2] at h
  cases hle:Nat.ble σ.nx M5 with
  | false=>rw [hle] at h;cases h
  | true =>
  rw [hle] at h
  simp only [cond_true] at h
  have hle:=D50 hle
  split at h<;>try (cases h;done)
  rename_i σn hn
  split at h<;>try (cases h;done)
  rename_i ex1 σ1 hx
  obtain ⟨l1,k1⟩:=hf _ _ _ hx
  have hrd:σn.rd=σ.rd:=B6I hn
  have rdle:∀ id∈σ.rd,id∈σ1.rd:=fun id A3=>l1.1 id (by rw [hrd];exact A3)
  have round:∀ (m:Nat) (of':Nat→Option Ob) (c:J8) (eb:B4) (a:Act) (w:World),(∀ id∈σ1.rd,of' id=of id)→(∀ id,n0≤id→id < M5→¬ eb.U id)→σ1.nx≤M5→A85 T eb of'→Sim T c eb of' n0 nt σ a w→body.wpIn (WF c.rd) m P (fun e a' w'=>e=ex1∧Sim T c eb of' n0 nt σ1 a' w') a w:=fun m of' c eb a w h1 h2 h3 hbs hs=>by
   obtain ⟨s1,s2,s3⟩:=hs.norm hbs (fun id q1 q2=>h2 id q1 (Nat.lt_of_lt_of_le q2 hle)) hn
   exact k1 m of' c eb a w s2 ⟨h1,fun id q1 q2=>h2 id q1 (Nat.lt_of_lt_of_le q2 h3)⟩ hbs s1
  cases ex1 with
  | normal =>
   obtain ⟨l2,b2,k2⟩:=ih _ _ _ h
   have h3:σ1.nx≤M5:=by rw [← b2];exact l2.2
   refine ⟨⟨fun id A3=>l2.1 id (rdle id A3),by rw [b2];exact hle⟩,b2,fun m of' c eb a w hfit hbs hs=>?_⟩
   refine T4 ?_ (round m of' c eb a w (fun id A3=>hfit.rd id (l2.1 id A3)) (fun id q1 q2=>hfit.fr id q1 (by rw [b2];exact q2)) h3 hbs hs)
   rintro e' a' w' ⟨rfl,hs'⟩
   exact k2 m of' c eb a' w' hfit hbs hs'
  | _ =>
   simp only at h
   cases hb1:Nat.ble σ1.nx M5 with
   | false=>rw [hb1] at h;cases h
   | true =>
    rw [hb1] at h
    simp only [cond_true] at h
    have h3:=D50 hb1
    split at h<;>try (cases h;done)
    rename_i σ2 hn2
    cases hb2:Nat.ble σ2.nx M5 with
    | false=>rw [hb2] at h;cases h
    | true =>
    rw [hb2] at h
    simp only [cond_true,D5X,Prod.mk.injEq] at h
    obtain ⟨rfl,rfl⟩:=h
    have h4:=D50 hb2
    have hrd2:σ2.rd=σ1.rd:=B6I hn2
    refine ⟨⟨fun id A3=>by show id∈σ2.rd;rw [hrd2];exact rdle id A3,hle⟩,rfl,fun m of' c eb a w hfit hbs hs=>?_⟩
    refine T4 ?_ (round m of' c eb a w (fun id A3=>hfit.rd id (by show id∈σ2.rd;rw [hrd2];exact A3)) hfit.fr h3 hbs hs)
    rintro e' a' w' ⟨rfl,hs'⟩
    exact ⟨rfl,(hs'.norm hbs (fun id q1 q2=>hfit.fr id q1 (Nat.lt_of_lt_of_le q2 h3)) hn2).1.up h4⟩
theorem A8P {nt n0 M5 fu:Nat} {ks:List Nat} {body:Code} {f:St→Option (Exit×St)} (hf:∀ σ ex σ',f σ=some (ex,σ')→A4I P T nt n0 of body σ ex σ') {σ σ':St} {ex:Exit} (h:W2 n0 ks M5 f fu σ=some (ex,σ')):A4I P T nt n0 of (.loop body) σ ex σ':=by
 obtain ⟨l1,_,k1⟩:=B4n hf fu σ ex σ' h
 exact ⟨l1,fun m of' c eb a w hn hfit hbs hs=>wpIn_loop_rounds fu (k1 m of' c eb a w hfit hbs hs)⟩
variable {T:TT}
def ob {α R:Type} (o:Option α) (k:α→Option R):Option R :=
 match o with
 | some a=>k a
 | none=>none
abbrev D7:=(R:Type)→List A→(Nat→Option Ob)→Nat→(H9→Option R)→Option R
def D7.dir (s:D7):Sym:=fun args of nx=>s H9 args of nx some
def D7.nat (s:D7):Prop:=∀ (R:Type) (args:List A) (of:Nat→Option Ob) (nx:Nat) (k:H9→Option R),s R args of nx k=ob (s.dir args of nx) k
def A62 (s:Sym):D7:=fun _ args of nx k=>ob (s args of nx) k
theorem A45 (s:Sym):(A62 s).nat:=by
 intro R args of nx k
 simp only [A62,D7.dir]
 cases s args of nx<;>rfl
theorem A46 (s:Sym):(A62 s).dir=s:=by
 funext args of nx
 simp only [A62,D7.dir]
 cases s args of nx<;>rfl
variable {R:Type}
def B4o (T:TT) (of:Nat→Option Ob) (el:Nat) (u:A) (k:List V×List Nat→Option R):Option R :=
 match u with
 | .w id ver off n=>match of id with
  | some (.row el' v xs _ _)=>bif Nat.beq el el'&&Nat.beq v ver then (bif Nat.ble (off+n) xs.length then k ((xs.drop off).take n,[id]) else none) else none
  | _=>none
 | u=>ob (Y7 T of el u) k
theorem A6h (of:Nat→Option Ob) (el:Nat) (u:A) (k:List V×List Nat→Option R):B4o T of el u k=ob (Y7 T of el u) k:=by
 unfold B4o
 split
 ·rename_i id ver off n
  simp only [Y7]
  cases of id with
  | none=>rfl
  | some o =>
   cases o with
   | row el' v xs nl sh=>simp only;cases (Nat.beq el el'&&Nat.beq v ver)<;>cases Nat.ble (off+n) xs.length<;>rfl
   | _=>rfl
 ·rfl
def A3Q (T:TT) (of:Nat→Option Ob) (t:Nat) (i:Int) (u:A) (k:A×List Nat→Option R):Option R :=
 match C5 T t with
 | some (.arr n el)=>bif (T el).isSome then bif F2 0 i&&D4 i n then
   (match u with
   | .p id t' path=>bif same T t t' then k (.p id el (path++[i.toNat]),[]) else none
   | .e id ver j t' path=>bif same T t t'&&B5n of id ver then k (.e id ver j el (path++[i.toNat]),[id]) else none
   | .c t' y=>bif same T t t' then k (.c el (y.nth i.toNat),[]) else none
   | _=>none)
  else none else none
 | some (.slice el)=>bif (T el).isSome then
   (match u with
   | .o id ver=>match of id with
    | some (.row el' v xs _ _)=>bif Nat.beq el el'&&Nat.beq v ver then (bif F2 0 i&&D4 i xs.length then k (.e id ver i.toNat el [],[id]) else none) else none
    | _=>none
   | .w id ver off n=>match of id with
    | some (.row el' v xs _ _)=>bif Nat.beq el el'&&Nat.beq v ver then (bif F2 0 i&&D4 i n then k (.e id ver (off+i.toNat) el [],[id]) else none) else none
    | _=>none
   | .v t' y=>bif same T t t' then (bif F2 0 i&&D4 i y.els.length then k (.c el (y.nth i.toNat),[]) else none) else none
   | .q t' y=>bif same T t t' then (bif F2 0 i&&D4 i y.els.length then k (.c el (y.nth i.toNat),[]) else none) else none
   | .a id t1 path l0 m=>match C5 T t1 with
    | some (.arr _ el')=>bif Nat.beq el el' then (bif F2 0 i&&D4 i m then k (.p id el (path++[l0+i.toNat]),[]) else none) else none
    | _=>none
   | _=>none)
  else none
 | _=>none
theorem A8Q (of:Nat→Option Ob) (t:Nat) (i:Int) (u:A) (k:A×List Nat→Option R):A3Q T of t i u k=ob (A1j T of t i u) k:=by
 unfold A3Q A1j
 cases C5 T t with
 | none=>rfl
 | some kk =>
 cases kk with
 | arr n el =>
  simp only
  cases u with
  | p id t' path=>simp only;cases (T el).isSome<;>cases F2 0 i<;>cases D4 i (n:Int)<;>cases same T t t'<;>rfl
  | e id ver j t' path=>simp only;cases (T el).isSome<;>cases F2 0 i<;>cases D4 i (n:Int)<;>cases same T t t'<;>cases B5n of id ver<;>rfl
  | c t' y=>simp only;cases (T el).isSome<;>cases F2 0 i<;>cases D4 i (n:Int)<;>cases same T t t'<;>rfl
  | _=>simp only;cases (T el).isSome<;>cases F2 0 i<;>cases D4 i (n:Int)<;>rfl
 | slice el =>
  simp only
  cases (T el).isSome
  ·cases F2 0 i<;>rfl
  ·simp only [cond_true,Bool.and_true]
   cases u with
   | o id ver =>
    simp only
    cases of id with
    | none=>cases F2 0 i<;>rfl
    | some o =>
     cases o with
     | row el' v xs nl sh=>simp only;cases F2 0 i<;>cases (Nat.beq el el'&&Nat.beq v ver)<;>cases D4 i xs.length<;>rfl
     | _=>cases F2 0 i<;>rfl
   | w id ver off n =>
    simp only
    cases of id with
    | none=>cases F2 0 i<;>rfl
    | some o =>
     cases o with
     | row el' v xs nl sh=>simp only;cases F2 0 i<;>cases (Nat.beq el el'&&Nat.beq v ver)<;>cases D4 i n<;>rfl
     | _=>cases F2 0 i<;>rfl
   | v t' y=>simp only;cases F2 0 i<;>cases same T t t'<;>cases D4 i y.els.length<;>rfl
   | q t' y=>simp only;cases F2 0 i<;>cases same T t t'<;>cases D4 i y.els.length<;>rfl
   | a id t1 path l0 m =>
    simp only
    cases C5 T t1 with
    | none=>cases F2 0 i<;>rfl
    | some k1 =>
     cases k1 with
     | arr n' el'=>simp only;cases F2 0 i<;>cases Nat.beq el el'<;>cases D4 i m<;>rfl
     | _=>cases F2 0 i<;>rfl
   | _=>cases F2 0 i<;>rfl
 | _=>rfl
def B4p (T:TT) (t:Nat) (i:Int) (u:A) (k:A→Option R):Option R :=
 match u with
 | .s l=>match C5 T t with
  | some .str=>bif F2 0 i&&D4 i l.length then k (.i .u8 (l.getD i.toNat .n).int) else none
  | _=>none
 | .v t' y=>match C5 T t with
  | some (.arr n el)=>bif same T t t'&&(T el).isSome then (bif F2 0 i&&D4 i n then k (mkA T el (y.nth i.toNat)) else none) else none
  | _=>none
 | _=>none
theorem B8e (t:Nat) (i:Int) (u:A) (k:A→Option R):B4p T t i u k=ob (A71 T t i u) k:=by
 unfold B4p A71
 cases u with
 | s l =>
  simp only
  cases C5 T t with
  | none=>rfl
  | some k1=>cases k1 with
   | str=>simp only;cases (F2 0 i&&D4 i l.length)<;>rfl
   | _=>rfl
 | v t' y =>
  simp only
  cases C5 T t with
  | none=>rfl
  | some k1=>cases k1 with
   | arr n el=>simp only;cases same T t t'<;>cases (T el).isSome<;>cases F2 0 i<;>cases D4 i n<;>rfl
   | _=>rfl
 | _=>rfl
def D1e (op:BinOp) (kd:IntKind) (a b:Int) (k:A→Option R):Option R :=
 match op with
 | .quo=>bif Y6 b 0 then none else k (.i kd (kd.wrap (a.tdiv b)))
 | .rem=>bif Y6 b 0 then none else k (.i kd (a.tmod b))
 | .shl=>bif F2 0 b then k (.i kd (kd.wrap (a * 2 ^ min b.toNat kd.bits))) else none
 | .shr=>bif F2 0 b then k (.i kd (a.fdiv (2 ^ min b.toNat kd.bits))) else none
 | op=>ob (B1P op kd a b) k
theorem C6A (op:BinOp) (kd:IntKind) (a b:Int) (k:A→Option R):D1e op kd a b k=ob (B1P op kd a b) k:=by
 cases op<;>simp only [D1e,B1P]
 ·cases Y6 b 0<;>rfl
 ·cases Y6 b 0<;>rfl
 ·cases F2 0 b<;>rfl
 ·cases F2 0 b<;>rfl
def D1f (op:BinOp) (x y:List V) (k:A→Option R):Option R :=
 match op with
 | .add=>bif Nat.ble (x.length+y.length) LIM then k (.s (x++y)) else none
 | op=>ob (B5l op x y) k
theorem C6B (op:BinOp) (x y:List V) (k:A→Option R):D1f op x y k=ob (B5l op x y) k:=by
 cases op<;>simp only [D1f,B5l]
 cases Nat.ble (x.length+y.length) LIM<;>rfl
def D1g (T:TT) (of:Nat→Option Ob) (op:BinOp) (xt:Nat) (u v:A) (k:A×List Nat→Option R):Option R :=
 match u,v with
 | .i kd a,.i k' b=>bif A6C op||A8T kd k' then D1e op kd a b fun r=>k (r,[]) else none
 | .s a,.s b=>D1f op a b fun r=>k (r,[])
 | u,v=>ob (B5m T of op xt u v) k
theorem C6C (of:Nat→Option Ob) (op:BinOp) (xt:Nat) (u v:A) (k:A×List Nat→Option R):D1g T of op xt u v k=ob (B5m T of op xt u v) k:=by
 unfold D1g
 split
 ·rename_i kd a k' b
  simp only [B5m]
  cases (A6C op||A8T kd k')
  ·rfl
  ·simp only [cond_true,if_true,C6A]
   cases B1P op kd a b<;>rfl
 ·rename_i a b
  simp only [B5m,C6B]
  cases B5l op a b<;>rfl
 ·rfl
def unC (op:UnOp) (u:A) (k:A→Option R):Option R :=
 match op,u with
 | .xor,.i kd n=>k (.i kd (H6 .xor kd (if kd.signed then -1 else kd.max) n))
 | op,u=>ob (unA op u) k
theorem B2B (op:BinOp) (kd:IntKind) (x y:Int):B5r kd (H6 op kd x y)=true:=by
 have:=Q7 kd (match op with
  | .and=>(BitVec.ofInt kd.bits x &&& BitVec.ofInt kd.bits y).toNat
  | .or=>(BitVec.ofInt kd.bits x ||| BitVec.ofInt kd.bits y).toNat
  | .xor=>(BitVec.ofInt kd.bits x ^^^ BitVec.ofInt kd.bits y).toNat
  | _=>(BitVec.ofInt kd.bits x &&& ~~~BitVec.ofInt kd.bits y).toNat:Nat)
 unfold B5r
 rw [D5V,D3,D3]
 exact this
theorem D1h (op:UnOp) (u:A) (k:A→Option R):unC op u k=ob (unA op u) k:=by
 unfold unC
 split
 ·rename_i kd n
  simp only [unA,chk,B2B,if_true]
  rfl
 ·rfl
def C6D (T:TT) (of:Nat→Option Ob) (t:Nat) (u:A) (k:A×List Nat→Option R):Option R :=
 match C5 T t with
 | some .str=>match u with
  | .s l=>bif Nat.ble l.length 9223372036854775807 then k (.i .i64 (l.length:Nat),[]) else none
  | _=>none
 | some (.slice el)=>match u with
  | .s _=>none
  | u=>B4o T of el u fun p=>bif Nat.ble p.1.length 9223372036854775807 then k (.i .i64 (p.1.length:Nat),p.2) else none
 | some (.map _ _)=>match u with
  | .m id=>match of id with
   | some (.map _ _ es)=>bif Nat.ble es.length 9223372036854775807 then k (.i .i64 (es.length:Nat),[id]) else none
   | some (.vm _ _ es)=>bif Nat.ble es.length 9223372036854775807 then k (.i .i64 (es.length:Nat),[id]) else none
   | _=>none
  | _=>none
 | _=>none
theorem C6E (of:Nat→Option Ob) (t:Nat) (u:A) (k:A×List Nat→Option R):C6D T of t u k=ob (C4g T of t u) k:=by
 unfold C4g
 cases hq:A7U of u with
 | some q =>
  obtain ⟨id,kt',et',es⟩:=q
  obtain ⟨rfl,hof⟩:=A0k hq
  unfold C6D
  simp only
  cases hk:C5 T t with
  | none=>rfl
  | some kk=>cases kk with
   | map kt et=>simp only [hof];cases Nat.ble es.length 9223372036854775807<;>rfl
   | slice el=>simp only [B4o,Y7];rfl
   | _=>rfl
 | none =>
 simp only
 unfold C6D B9a
 cases C5 T t with
 | none=>rfl
 | some kk =>
  cases kk with
  | str=>cases u with
   | s l=>simp only;cases Nat.ble l.length 9223372036854775807<;>rfl
   | _=>rfl
  | slice el =>
   have gen:∀ o:Option (List V×List Nat),ob o (fun p=>bif Nat.ble p.1.length 9223372036854775807 then k (A.i .i64 (p.1.length:Nat),p.2) else none)=ob (match o with | some (xs,ro)=>(if Nat.ble xs.length 9223372036854775807=true then some (A.i .i64 (xs.length:Nat),ro) else none) | none=>none) k:=by
    intro o
    cases o with
    | none=>rfl
    | some p=>simp only [ob];cases Nat.ble p.1.length 9223372036854775807<;>rfl
   cases u with
   | s l=>simp only;cases Y7 T of el (.s l)<;>rfl
   | _=>simp only [A6h];exact gen _
  | map kt et=>cases u with
   | m id =>
    simp only
    cases A3:of id with
    | none=>rfl
    | some o=>cases o with
     | map kt' et' es=>simp only;cases Nat.ble es.length 9223372036854775807<;>rfl
     | vm kt' et' es=>exfalso;unfold A7U at hq;simp only [A3] at hq;cases hq
     | _=>rfl
   | _=>rfl
  | _=>rfl
def B0P (T:TT) (of:Nat→Option Ob) (nx t:Nat) (x y:A) (k:Out→Option R):Option R :=
 match C5 T t with
 | some (.slice el)=>match T el with
  | some te=>B4o T of el y fun p=>bif Nat.ble te.bytes 131072&&TK.notOther te.k&&Nat.blt 0 te.size then
    (match x with
    | .o id ver=>match of id with
     | some (.row el' v xs nl sh)=>bif Nat.beq el el'&&Nat.beq v ver then (bif Nat.ble (xs.length+p.1.length) LIM then
       k ⟨.o id (ver+1),[(id,.row el (ver+1) (xs++p.1) (nl&&p.1.isEmpty) sh)],id::p.2,[]⟩ else none) else none
     | _=>none
    | .w id ver off n=>match of id with
     | some (.row el' v xs false sh)=>bif Nat.beq el el'&&Nat.beq v ver then (bif Nat.ble (off+n) xs.length then (bif Nat.beq (off+n) xs.length||!sh then (bif Nat.ble (n+p.1.length) LIM then
       k ⟨.o id (ver+1),[(id,.row el (ver+1) ((xs.drop off).take n++p.1) false sh)],id::p.2,[]⟩ else none) else none) else none) else none
     | _=>none
    | .v t' .n=>bif same T t t' then (bif Nat.ble p.1.length LIM then k ⟨.o nx 1,[(nx,.row el 1 p.1 p.1.isEmpty false)],p.2,[nx]⟩ else none) else none
    | .z v=>bif A8u v then (bif Nat.ble p.1.length LIM then k ⟨.o nx 1,[(nx,.row el 1 p.1 p.1.isEmpty false)],p.2,[nx]⟩ else none) else none
    | .q t' x=>bif same T t t' then (bif !p.1.isEmpty then (bif Nat.ble (x.els.length+p.1.length) LIM then k ⟨.o nx 1,[(nx,.row el 1 (x.els++p.1) p.1.isEmpty false)],p.2,[nx]⟩ else none) else none) else none
    | _=>none)
   else none
  | none=>none
 | _=>none
theorem B4q (of:Nat→Option Ob) (nx t:Nat) (x y:A) (k:Out→Option R):B0P T of nx t x y k=ob (A4Q T of nx t x y) k:=by
 unfold B0P A4Q
 cases C5 T t with
 | none=>rfl
 | some kk =>
 cases kk with
 | slice el =>
  simp only
  cases T el with
  | none=>rfl
  | some te =>
   simp only [A6h]
   cases Y7 T of el y with
   | none=>rfl
   | some p =>
    obtain ⟨ns,ro⟩:=p
    simp only [ob]
    cases (Nat.ble te.bytes 131072&&TK.notOther te.k&&Nat.blt 0 te.size)
    ·rfl
    ·simp only [cond_true,if_true]
     cases x with
     | o id ver =>
      simp only
      cases of id with
      | none=>rfl
      | some o=>cases o with
       | row el' v xs nl sh=>simp only;cases (Nat.beq el el'&&Nat.beq v ver)<;>cases Nat.ble (xs.length+ns.length) LIM<;>rfl
       | _=>rfl
     | w id ver off n =>
      simp only
      cases of id with
      | none=>rfl
      | some o=>cases o with
       | row el' v xs nl sh=>cases nl<;>simp only<;>cases (Nat.beq el el'&&Nat.beq v ver)<;>cases Nat.ble (off+n) xs.length<;>cases (Nat.beq (off+n) xs.length||!sh)<;>cases Nat.ble (n+ns.length) LIM<;>rfl
       | _=>rfl
     | v t' y=>cases y with
      | n=>simp only;cases same T t t'<;>cases Nat.ble ns.length LIM<;>rfl
      | _=>rfl
     | z v=>simp only;cases A8u v<;>cases Nat.ble ns.length LIM<;>rfl
     | q t' x'=>simp only;cases same T t t'<;>cases ns.isEmpty<;>cases Nat.ble (x'.els.length+ns.length) LIM<;>rfl
     | _=>rfl
 | _=>rfl
variable {T:TT} {R:Type}
def A0N (n:Nat) (lo hi:Option A) (k:Nat×Nat→Option R):Option R :=
 match M5 (0:Nat) lo,M5 n hi with
 | some l,some h=>bif F2 0 l&&F2 l h&&F2 h n then k (l.toNat,(h - l).toNat) else none
 | _,_=>none
theorem A0e (n:Nat) (lo hi:Option A) (k:Nat×Nat→Option R):A0N n lo hi k=ob (U4 n lo hi) k:=by
 unfold A0N U4
 cases M5 (0:Nat) lo with
 | none=>rfl
 | some l=>cases M5 n hi with
  | none=>rfl
  | some h=>simp only;cases (F2 0 l&&F2 l h&&F2 h n)<;>rfl
def B4r (T:TT) (of:Nat→Option Ob) (t:Nat) (u:A) (lo hi mx:Option A) (k:A×List (Nat×Ob)×List Nat→Option R):Option R :=
 match mx with
 | some mx=>(match C5 T t with
  | some (.slice el)=>bif (T el).isSome&&isQ T u then
    (match M5 (0:Nat) lo,hi,mx with
    | some l,some (.i _ h),.i _ h'=>bif Y6 h h' then (match Q0 T DEP of t u with
     | some (x,wo)=>bif F2 0 l&&F2 l h&&F2 h x.els.length then k (.q t (A5z x l.toNat (h - l).toNat),wo,X0 wo) else none
     | none=>none) else none
    | _,_,_=>none) else none
  | _=>none)
 | none =>
 match C5 T t with
 | some .str=>match u with
  | .s l=>A0N l.length lo hi fun p=>k (.s ((l.drop p.1).take p.2),[],[])
  | _=>none
 | some (.slice el)=>bif (T el).isSome&&isQ T u then
   (match zV T t u with
    | .v t' y=>bif same T t t' then A0N y.els.length lo hi fun p=>k (.v t' (A5z y p.1 p.2),[],[]) else none
    | .w id ver off n=>match of id with
     | some (.row el' v xs _ _)=>bif Nat.beq el el'&&Nat.beq v ver then A0N n lo hi fun p=>k (.w id ver (off+p.1) p.2,[],[id]) else none
     | _=>none
    | .o id ver=>match of id with
     | some (.row el' v xs false _)=>bif Nat.beq el el'&&Nat.beq v ver then A0N xs.length lo hi fun p=>k (.w id ver (0+p.1) p.2,[],[id]) else none
     | some (.row el' v xs true _)=>bif Nat.beq el el'&&Nat.beq v ver&&X2 T t then A0N 0 lo hi fun p=>k (.v t (A5z .n p.1 p.2),[],[id]) else none
     | _=>none
    | .a id t1 path lo0 m=>match C5 T t1 with
     | some (.arr _ el')=>bif Nat.beq el el' then A0N m lo hi fun p=>k (.a id t1 path (lo0+p.1) p.2,[],[]) else none
     | _=>none
    | _=>none)
  else none
 | some (.arr n el)=>match u with
  | .p id t1 path=>bif same T t t1&&(T el).isSome then A0N n lo hi fun p=>k (.a id t1 path p.1 p.2,[],[]) else none
  | _=>none
 | _=>none
theorem P6 {α:Type} (q:Bool) (a:Option α) (k:α→Option R):ob (if q=true then a else none) k=bif q then ob a k else none:=by cases q<;>rfl
theorem B8f (of:Nat→Option Ob) (t:Nat) (u:A) (lo hi mx:Option A) (k:A×List (Nat×Ob)×List Nat→Option R):B4r T of t u lo hi mx k=ob (A5o T of t u lo hi mx) k:=by
 unfold B4r
 cases mx with
 | some m =>
  unfold A5o
  simp only
  cases C5 T t with
  | none=>rfl
  | some kk =>
  cases kk with
  | str=>cases u<;>rfl
  | slice el =>
   simp only [P6]
   cases ((T el).isSome&&isQ T u)
   ·rfl
   ·simp only [cond_true]
    cases M5 (0:Nat) lo with
    | none=>rfl
    | some l=>cases hi with
     | none=>rfl
     | some a=>cases a with
      | i k1 h=>cases m with
       | i k2 h' =>
        simp only [P6]
        cases Y6 h h'
        ·rfl
        ·simp only [cond_true]
         cases Q0 T DEP of t u with
         | none=>rfl
         | some p=>obtain ⟨x,wo⟩:=p;simp only [P6];cases (F2 0 l&&F2 l h&&F2 h x.els.length)<;>rfl
       | _=>rfl
      | _=>rfl
  | arr n el=>cases u<;>rfl
  | _=>rfl
 | none =>
 unfold A5o
 simp only
 cases C5 T t with
 | none=>rfl
 | some kk =>
 cases kk with
 | str=>cases u with
  | s l=>simp only [A0e];cases U4 l.length lo hi<;>rfl
  | _=>rfl
 | slice el =>
  simp only [P6]
  cases ((T el).isSome&&isQ T u)
  ·rfl
  ·simp only [cond_true]
   cases zV T t u with
   | v t' y=>simp only [P6,A0e];cases U4 y.els.length lo hi<;>rfl
   | w id ver off n =>
    simp only
    cases of id with
    | none=>rfl
    | some o=>cases o with
     | row el' v xs nl sh=>simp only [P6,A0e];cases U4 n lo hi<;>rfl
     | _=>rfl
   | o id ver =>
    simp only
    cases of id with
    | none=>rfl
    | some o=>cases o with
     | row el' v xs nl sh=>cases nl<;>simp only [P6,A0e]
                           ·cases U4 xs.length lo hi<;>rfl
                           ·cases U4 0 lo hi<;>rfl
     | _=>rfl
   | a id t1 path lo0 m =>
    simp only
    cases C5 T t1 with
    | none=>rfl
    | some k1=>cases k1 with
     | arr n' el'=>simp only [P6,A0e];cases U4 m lo hi<;>rfl
     | _=>rfl
   | _=>rfl
 | arr n el=>cases u with
  | p id t1 path=>simp only [P6,A0e];cases U4 n lo hi<;>rfl
  | _=>rfl
 | _=>rfl
def A3R (T:TT) (nx t:Nat) (u v:A) (k:H9→Option R):Option R :=
 match C5 T t,u,v with
 | some (.slice el),.i _ a,.i _ b=>match T el with
  | some te=>bif Nat.blt 0 te.size&&TK.notOther te.k&&Nat.ble te.bytes 131072 then (bif F2 0 a&&F2 a b&&F2 b LIM then k ⟨.o nx 1,[(nx,.row el 1 (List.replicate a.toNat te.zero) false false)],[],nx+1⟩ else none) else none
  | none=>none
 | _,_,_=>none
theorem A8R (nx t:Nat) (u v:A) (k:H9→Option R):A3R T nx t u v k=ob (A2o T nx t u v) k:=by
 unfold A3R A2o
 cases C5 T t with
 | none=>rfl
 | some kk=>cases kk with
  | slice el=>cases u with
   | i k1 a=>cases v with
    | i k2 b =>
     simp only
     cases T el with
     | none=>rfl
     | some te =>
      simp only
      cases Nat.blt 0 te.size<;>cases TK.notOther te.k<;>cases Nat.ble te.bytes 131072<;>cases F2 0 a<;>cases F2 a b<;>cases F2 b LIM<;>rfl
    | _=>rfl
   | _=>rfl
  | _=>rfl
def D1i (T:TT) (of:Nat→Option Ob) (t:Nat) (u:A) (k:A×List (Nat×Ob)×List Nat→Option R):Option R :=
 match u with
 | .v t' y=>match C5 T t with
  | some (.arr n el)=>bif Nat.blt 0 n&&Nat.beq (B8 T t) (n * B8 T el) then
   (match C5 T t' with
    | some (.slice el')=>bif Nat.beq el el' then (bif Nat.ble n y.els.length then k (.c t (.l (y.els.take n)),[],[]) else none) else none
    | _=>none) else none
  | _=>none
 | .o id ver=>match C5 T t with
  | some (.arr n el)=>bif Nat.blt 0 n&&Nat.beq (B8 T t) (n * B8 T el) then
   (match of id with
    | some (.row el' v xs false _)=>bif Nat.beq el el'&&Nat.beq v ver then (bif Nat.ble n xs.length then k (.c t (.l (xs.take n)),[(id,.row el' ver xs false true)],[id]) else none) else none
    | _=>none) else none
  | _=>none
 | u=>ob (B5s T of t u) k
theorem C6F (of:Nat→Option Ob) (t:Nat) (u:A) (k:A×List (Nat×Ob)×List Nat→Option R):D1i T of t u k=ob (B5s T of t u) k:=by
 unfold D1i
 cases u with
 | v t' y =>
  simp only [B5s]
  cases C5 T t with
  | none=>rfl
  | some kk=>cases kk with
   | arr n el =>
    simp only [P6]
    cases C5 T t' with
    | none=>rfl
    | some k1=>cases k1 with
     | slice el'=>simp only [P6];cases (Nat.blt 0 n&&Nat.beq (B8 T t) (n * B8 T el))<;>cases Nat.beq el el'<;>cases Nat.ble n y.els.length<;>rfl
     | _=>rfl
   | _=>rfl
 | o id ver =>
  simp only [B5s]
  cases C5 T t with
  | none=>rfl
  | some kk=>cases kk with
   | arr n el =>
    simp only [P6]
    cases of id with
    | none=>rfl
    | some o=>cases o with
     | row el' v xs nl sh=>cases nl
                           ·simp only [P6];cases (Nat.blt 0 n&&Nat.beq (B8 T t) (n * B8 T el))<;>cases (Nat.beq el el'&&Nat.beq v ver)<;>cases Nat.ble n xs.length<;>rfl
                           ·rfl
     | _=>rfl
   | _=>rfl
 | _=>rfl
def oc {α β:Type} (o:Option α) (s:α→β) (n:β):β :=
 match o with
 | some a=>s a
 | none=>n
def B6J (T:TT) (of:Nat→Option Ob) (t:Nat) (m k:A) (okk:Bool) (kk:A×List Nat→Option R):Option R :=
 match C5 T t with
 | some (.map kt et)=>match T et,A1H T kt k with
  | some te,some kv=>bif TK.notOther te.k then
    (bif A2y T t m then kk (okA okk (mkA T et te.zero) false,[]) else
    match m with
    | .m id=>match of id with
     | some (.map kt' et' es)=>bif Nat.beq kt kt'&&Nat.beq et et' then oc (A4A kv es) (fun a=>kk (okA okk (norm T a) true,[id])) (kk (okA okk (mkA T et te.zero) false,[id])) else none
     | some (.vm kt' et' es)=>bif Nat.beq kt kt'&&Nat.beq et et' then (bif A0S kv es then kk (okA okk (mkA T et (A0E kv es)) true,[id]) else kk (okA okk (mkA T et te.zero) false,[id])) else none
     | _=>none
    | _=>none)
   else none
  | _,_=>none
 | _=>none
theorem C0Q (of:Nat→Option Ob) (t:Nat) (m k:A) (okk:Bool) (kk:A×List Nat→Option R):B6J T of t m k okk kk=ob (A98 T of t m k okk) kk:=by
 unfold A98
 cases hq:A7U of m with
 | some q =>
  obtain ⟨id,kt',et',es⟩:=q
  obtain ⟨rfl,hof⟩:=A0k hq
  unfold B6J C4b
  simp only
  cases C5 T t with
  | none=>rfl
  | some k1=>cases k1 with
   | map kt et =>
    simp only
    cases T et with
    | none=>rfl
    | some te=>cases A1H T kt k with
     | none=>rfl
     | some kv =>
      simp only [P6,show A2y T t (.m id)=false from rfl,cond_false,hof]
      cases TK.notOther te.k
      ·rfl
      ·simp only [cond_true]
       cases (Nat.beq kt kt'&&Nat.beq et et')
       ·rfl
       ·simp only [cond_true]
        cases A0S kv es<;>rfl
   | _=>rfl
 | none =>
 simp only
 unfold B6J A94
 cases C5 T t with
 | none=>rfl
 | some k1=>cases k1 with
  | map kt et =>
   simp only
   cases T et with
   | none=>rfl
   | some te=>cases A1H T kt k with
    | none=>rfl
    | some kv =>
     simp only [P6]
     cases TK.notOther te.k
     ·rfl
     ·simp only [cond_true]
      cases A2y T t m
      ·simp only [cond_false]
       cases m with
       | m id =>
        simp only
        cases A3:of id with
        | none=>rfl
        | some o=>cases o with
         | map kt' et' es =>
          simp only [P6]
          cases (Nat.beq kt kt'&&Nat.beq et et')
          ·rfl
          ·simp only [cond_true]
           cases A4A kv es<;>rfl
         | vm kt' et' es=>exfalso;unfold A7U at hq;simp only [A3] at hq;cases hq
         | _=>rfl
       | _=>rfl
      ·rfl
  | _=>rfl
def C0R (T:TT) (of:Nat→Option Ob) (nx s t:Nat) (u:A) (k:Out→Option R):Option R :=
 match u with
 | .w id ver off n=>match C5 T t with
  | some .str=>match C5 T s with
   | some (.slice el)=>match C5 T el with
    | some (.int .u8)=>bif Nat.beq (B8 T el) 1 then B4o T of el (.w id ver off n) fun p=>k ⟨.s p.1,[],p.2,[]⟩ else none
    | _=>none
   | _=>none
  | _=>ob (A72 T of nx s t (.w id ver off n)) k
 | u=>ob (A72 T of nx s t u) k
theorem C0S (of:Nat→Option Ob) (nx s t:Nat) (u:A) (k:Out→Option R):C0R T of nx s t u k=ob (A72 T of nx s t u) k:=by
 unfold C0R
 cases u with
 | w id ver off n =>
  simp only
  cases hk:C5 T t with
  | none=>rfl
  | some kk=>cases kk with
   | str =>
    simp only [A72,hk,bytesOf]
    cases C5 T s with
    | none=>rfl
    | some k1=>cases k1 with
     | slice el =>
      simp only
      cases C5 T el with
      | none=>rfl
      | some k2=>cases k2 with
       | int ki=>cases ki<;>try rfl
                 simp only [A6h]
                 cases Nat.beq (B8 T el) 1
                 ·rfl
                 ·simp only [cond_true,if_true];cases Y7 T of el (.w id ver off n)<;>rfl
       | _=>rfl
     | _=>rfl
   | _=>rfl
 | _=>rfl
def C0T (T:TT) (of:Nat→Option Ob) (t xt:Nat) (u v:A) (k:A×List (Nat×Ob)×List Nat→Option R):Option R :=
 match C5 T t with
 | some (.slice el)=>bif A4R T xt v&&(T el).isSome then
   B4o T of el v fun p=>bif Nat.ble p.1.length LIM then
    (match u with
    | .a id t1 path lo m=>match C5 T t1,of id with
     | some (.arr N el'),some (.box t0 a false)=>match atA T a path with
      | some (.v t2 y)=>bif Nat.beq el el'&&Nat.beq t1 t2 then
        (bif p.1.isEmpty then (match Y7 T of el (.a id t1 path lo m) with
         | some q=>k (.i .i64 0,[],p.2++q.2)
         | none=>none) else
         bif Nat.ble p.1.length m&&Nat.ble (lo+m) N then (match A3y T a path (.v t1 (.l (A0j y.els lo p.1))) with
          | some a'=>k (.i .i64 (p.1.length:Nat),[(id,.box t0 a' false)],id::p.2)
          | none=>none) else none) else ob (A0I T of t xt u v) k
      | _=>ob (A0I T of t xt u v) k
     | _,_=>ob (A0I T of t xt u v) k
    | u=>ob (A0I T of t xt u v) k)
    else none
  else none
 | _=>none
theorem C0U (of:Nat→Option Ob) (t xt:Nat) (u v:A) (k:A×List (Nat×Ob)×List Nat→Option R):C0T T of t xt u v k=ob (A0I T of t xt u v) k:=by
 unfold C0T
 cases hk:C5 T t with
 | none=>simp only [A0I,hk];rfl
 | some kk=>cases kk with
  | slice el =>
   simp only [A6h]
   cases hq:(A4R T xt v&&(T el).isSome) with
   | false=>simp only [A0I,hk,hq];rfl
   | true =>
    simp only [cond_true]
    cases hs:Y7 T of el v with
    | none=>simp only [A0I,hk,hq,hs];rfl
    | some p =>
     obtain ⟨ns,ro⟩:=p
     simp only [ob]
     cases hl:Nat.ble ns.length LIM with
     | false=>simp only [A0I,hk,hq,hs,hl];rfl
     | true =>
      simp only [cond_true]
      cases u with
      | a id t1 path lo m =>
       simp only
       cases hk1:C5 T t1 with
       | none=>rfl
       | some k1=>cases k1 with
        | arr N el' =>
         cases ho:of id with
         | none=>rfl
         | some o=>cases o with
          | box t0 a sh=>cases sh
                         ·simp only
                          cases ha:atA T a path with
                          | none=>rfl
                          | some a1=>cases a1 with
                           | v t2 y =>
                            simp only
                            cases hb:(Nat.beq el el'&&Nat.beq t1 t2) with
                            | false=>rfl
                            | true =>
                             simp only [cond_true]
                             cases ns with
                             | nil =>
                              simp only [List.isEmpty_nil,cond_true,A0I,hk,hq,hs,hl,if_true]
                              cases Y7 T of el (.a id t1 path lo m)<;>rfl
                             | cons n0 nr =>
                              simp only [List.isEmpty_cons,cond_false,A0I,hk,hq,hs,hl,hk1,ho,ha,hb,if_true,Bool.true_and]
                              cases Nat.ble (n0::nr).length m<;>cases Nat.ble (lo+m) N<;>try rfl
                              simp only [Bool.true_and,cond_true,if_true]
                              cases A3y T a path (.v t1 (.l (A0j y.els lo (n0::nr))))<;>rfl
                           | _=>rfl
                         ·rfl
          | _=>rfl
        | _=>rfl
      | _=>rfl
  | _=>simp only [A0I,hk];rfl
end Go.Vm
end