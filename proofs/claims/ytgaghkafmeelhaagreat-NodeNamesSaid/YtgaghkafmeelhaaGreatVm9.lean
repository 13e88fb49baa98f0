/- What the operations of a program do, shown once for all programs; and numbers. -/
import Derived.Test.YtgaghkafmeelhaaGreatVm8
set_option linter.constructorNameAsVariable false
set_option linter.unusedVariables false
set_option linter.unusedSimpArgs false
set_option linter.unnecessarySimpa false
noncomputable section
namespace Go.Vm
open Go.RowKit
variable {P:Program} {T:TT} {R:Type} {c:F6} {e:B6} {of:Nat→Option Ob}
mutual
def A1r (T:TT):Nat→Nat→Bool
 | 0,_=>false
 | d+1,t=>match C3 T t with
  | some (.int _) | some .bool | some .str=>true
  | some (.arr _ el)=>A1r T d el
  | some (.struct fs)=>B0F T d fs
  | _=>false
def B0F (T:TT):Nat→List Nat→Bool
 | 0,_=>false
 | _+1,[]=>true
 | d+1,t::r=>A1r T d t&&B0F T d r
end
theorem RV.flat:∀ (d:Nat) {e e':B6},(∀ {t:Nat} {xs:List V} {cs:List Value},A1r T d t=true→∀ n,RV T e (List.replicate n t) xs cs→RV T e' (List.replicate n t) xs cs) ∧
  (∀ {ts:List Nat} {xs:List V} {cs:List Value},B0F T d ts=true→RV T e ts xs cs→RV T e' ts xs cs):=by
 intro d
 induction d with
 | zero=>intro e e';exact ⟨fun h=>by simp [A1r] at h,fun h=>by simp [B0F] at h⟩
 | succ d ih =>
  intro e e'
  have one:∀ {t:Nat} {x:V} {cs:List Value},A1r T (d+1) t=true→RV T e [t] [x] cs→RV T e' [t] [x] cs:=by
   intro t x cs hf h
   simp only [A1r] at hf
   cases h with
   | int h1 h2 hr g=>cases g;exact .int h1 h2 hr .nil
   | bool h1 h2 g=>cases g;exact .bool h1 h2 .nil
   | str h1 h2 g=>cases g;exact .str h1 h2 .nil
   | ptr h1=>rw [h1] at hf;cases hf
   | nils h1=>rw [h1] at hf;cases hf
   | map h1=>rw [h1] at hf;cases hf
   | func h1=>rw [h1] at hf;cases hf
   | fn h1=>rw [h1] at hf;cases hf
   | slice h1=>rw [h1] at hf;cases hf
   | arr h1 h2 g1 g=>rw [h1] at hf;cases g;exact .arr h1 h2 ((ih (e:=e) (e':=e')).1 hf _ g1) .nil
   | struct h1 h2 g1 g=>rw [h1] at hf;cases g;exact .struct h1 h2 ((ih (e:=e) (e':=e')).2 hf g1) .nil
  refine ⟨fun {t xs cs} hf n=>?_,fun {ts xs cs} hf h=>?_⟩
  ·induction n generalizing xs cs with
   | zero=>intro h;cases h;exact .nil
   | succ n ihn =>
    intro h
    rw [List.replicate_succ] at h ⊢
    cases xs with
    | nil=>cases h
    | cons x xs =>
     obtain ⟨d1,r,rfl,g1,g2⟩:=h.cons_inv
     exact (one hf g1).append (ts:=[t]) (xs:=[x]) (ihn g2)
  ·cases ts with
   | nil=>cases h;exact .nil
   | cons t ts =>
    simp only [B0F,D9z] at hf
    cases xs with
    | nil=>cases h
    | cons x xs =>
     obtain ⟨d1,r,rfl,g1,g2⟩:=h.cons_inv
     exact ((ih (e:=e) (e':=e')).1 hf.1 1 g1).append (ts:=[t]) (xs:=[x]) ((ih (e:=e) (e':=e')).2 hf.2 g2)
theorem B2a {t:Nat} {y:V} {v:Value} (ht:(T t).isSome=true) (h:RV T e [t] [y] v.cells.toList) (ha:A0b T t v):B9 T e (mkA T t y) v:=by
 obtain ⟨te,hte⟩:=D9D.1 ht
 exact U0 (a:=.v t y) hte ⟨h,ha⟩ (G1 t y)
inductive RP (T:TT) (e:B6):List Nat→List V→List Value→Prop
 | nil:RP T e [] [] []
 | cons {t ts x xs v vs}:RV T e [t] [x] v.cells.toList→A0b T t v→RP T e ts xs vs→RP T e (t::ts) (x::xs) (v::vs)
theorem RP.change {e e':B6} (hf:∀ a ds,Fz e a ds→Fz e' a ds) {ts:List Nat} {xs:List V} {vs:List Value} (h:RP T e ts xs vs):RP T e' ts xs vs:=by
 induction h with
 | nil=>exact .nil
 | cons h1 h2 _ ih=>exact .cons (h1.change hf) h2 ih
def A0f (T:TT):(Nat→Option Ob)→List Nat→List A→Option (List V×List (Nat×Ob))
 | _,[],[]=>some ([],[])
 | of,t::ts,a::as0=>match M3 T DEP of t a with
  | some (x,wo)=>match A0f T (put of wo) ts as0 with
   | some (xs,wo')=>some (x::xs,wo++wo')
   | none=>none
  | none=>none
 | _,_,_=>none
theorem A5U:∀ {ts:List Nat} {as0:List A} {vals:List Value} {e:B6} {of of':Nat→Option Ob} {xs:List V} {wo:List (Nat×Ob)},A8 T c e of'→A0f T of ts as0=some (xs,wo)→(∀ id∈T5 wo,of' id=of id)→Q1 T e as0 vals→Shd T c e of' wo fun e'=>RP T e' ts xs vals:=by
 intro ts
 induction ts with
 | nil =>
  intro as0 vals e of of' xs wo h hv ho hr
  cases as0 with
  | nil =>
   simp only [A0f,D9B,Prod.mk.injEq] at hv
   obtain ⟨rfl,rfl⟩:=hv
   cases hr
   exact ⟨e,rfl,h,B6.le.refl e,fun _ hu=>hu,.nil⟩
  | cons a as0=>simp [A0f] at hv
 | cons t ts ih =>
  intro as0 vals e of of' xs wo h hv ho hr
  cases as0 with
  | nil=>simp [A0f] at hv
  | cons a as0 =>
   simp only [A0f] at hv
   split at hv<;>try (cases hv;done)
   rename_i x1 w1 h1
   split at hv<;>try (cases hv;done)
   rename_i xs2 w2 h2
   injection hv with hv;injection hv with hv1 hv2
   subst hv1;subst hv2
   have ho1:∀ id∈T5 w1,of' id=of id:=fun id A4=>ho id (by simp only [T5,List.map_append,D9J];exact .inl A4)
   have h1':=(A0w DEP).1 of of' t a x1 w1 h1 ho1
   cases hr with
   | @cons _ v _ vs r1 r2 =>
   obtain ⟨e1,p1,p2,p3,p4,p5⟩:=A0K h h1' r1
   have ag:=A47 h1' r1
   obtain ⟨e2,q1,q2,q3,q4,q5⟩:=ih p2 h2 (fun id A4=>A9g _ _ _ _ (ho id (by simp only [T5,List.map_append,D9J];exact .inr A4))) (r2.mono p3)
   exact ⟨e2,q1.trans p1,by rw [F1];exact q2,p3.trans q3,fun j hj=>p4 j (q4 j hj),.cons (p5.mono q3) ag q5⟩
theorem B7M:∀ {ts:List Nat} {as0:List A} {of:Nat→Option Ob} {xs:List V} {wo:List (Nat×Ob)},A0f T of ts as0=some (xs,wo)→Z4 of wo:=by
 intro ts
 induction ts with
 | nil =>
  intro as0 of xs wo h
  cases as0 with
  | nil=>simp only [A0f,D9B,Prod.mk.injEq] at h;rw [← h.2];intro p hp;cases hp
  | cons a as0=>simp [A0f] at h
 | cons t ts ih =>
  intro as0 of xs wo h
  cases as0 with
  | nil=>simp [A0f] at h
  | cons a as0 =>
   simp only [A0f] at h
   split at h<;>try (cases h;done)
   rename_i x1 w1 h1
   split at h<;>try (cases h;done)
   rename_i xs2 w2 h2
   injection h with h;injection h with _ hv2
   subst hv2
   exact A1L ((B7o DEP).1 _ _ _ _ _ h1) (ih h2)
def A6 (T:TT):List Nat→List V→List A
 | t::ts,x::xs=>mkA T t x::A6 T ts xs
 | _,_=>[]
theorem RP.reps {ts:List Nat} {xs:List V} {vs:List Value} (h:RP T e ts xs vs) (ht:ts.all (fun t=>(T t).isSome)=true):Q1 T e (A6 T ts xs) vs:=by
 induction h with
 | nil=>exact .nil
 | cons h1 h2 _ ih =>
  simp only [List.all_cons,D9z] at ht
  exact .cons (B2a ht.1 h1 h2) (ih ht.2)
inductive RK where
 | d (t:Nat)
 | r (el:Nat)
inductive Rs where
 | d (t:Nat) (y:V)
 | r (el:Nat) (xs:List V) (nl:Bool)
def C0Y:A→List A
 | .t l=>l
 | a=>[a]
def dL (T:TT) (sh:Bool):(Nat→Option Ob)→List A→List RK→Option (List V×List (Nat×Ob))
 | _,[],[]=>some ([],[])
 | of,a::l,.d t::r=>match M3 T DEP of t a with
  | some (y,wo)=>bif (T t).isSome&&(sh||A1r T 8 t) then (match dL T sh (put of wo) l r with
   | some (ys,wo')=>some (y::ys,wo++wo')
   | none=>none) else none
  | none=>none
 | of,_::l,.r _::r=>match dL T sh of l r with
  | some (ys,wo)=>some (.n::ys,wo)
  | none=>none
 | _,_,_=>none
def C0Z (T:TT) (sh:Bool) (of:Nat→Option Ob) (el:Nat) (a:A):Option (List V×Bool) :=
 match a with
 | .o id ver=>match of id with
  | some (.row el' v xs nl false)=>bif Nat.beq el el'&&Nat.beq v ver&&(sh||A1r T 8 el) then some (xs,nl) else none
  | _=>none
 | .z v=>bif A5G v&&Nat.blt 0 (C2 T el) then some ([],true) else none
 | _=>none
def rL (T:TT) (sh:Bool) (of:Nat→Option Ob):List A→List V→List RK→Option (List Rs)
 | [],[],[]=>some []
 | _::l,y::ys,.d t::r=>match rL T sh of l ys r with
  | some rs=>some (.d t y::rs)
  | none=>none
 | a::l,_::ys,.r el::r=>match C0Z T sh of el a with
  | some (xs,nl)=>match rL T sh of l ys r with
   | some rs=>some (.r el xs nl::rs)
   | none=>none
  | none=>none
 | _,_,_=>none
def A4S:List RK→Nat
 | []=>0
 | .d _::r=>A4S r
 | .r _::r=>A4S r+1
def isT:A→Bool
 | .t _=>true
 | _=>false
def A7 (T:TT) (sh:Bool) (rk:List RK) (out:J7):Option (List Rs) :=
 bif Nat.beq rk.length 1 == isT out.val then none else
 match dL T sh (put (fun _=>none) out.wo) (C0Y out.val) rk with
 | some (ys,wo)=>bif Nat.ble (A4S rk) 1 then rL T sh (put (put (fun _=>none) out.wo) wo) (C0Y out.val) ys rk else none
 | none=>none
def R3 (T:TT):Nat→List Rs→List A×List (Nat×Ob)×Nat
 | nx,[]=>([],[],nx)
 | nx,.d t y::r=>let p:=R3 T nx r
  (mkA T t y::p.1,p.2.1,p.2.2)
 | nx,.r el xs nl::r=>let p:=R3 T (nx+1) r
  (.o nx 1::p.1,(nx,.row el 1 xs nl false)::p.2.1,p.2.2)
def C00:List A→A
 | [a]=>a
 | l=>.t l
abbrev FC:=(R:Type)→List V→(List Rs→Option R)→Option R
def FC.nat (F:FC):Prop:=∀ (R:Type) (xs:List V) (k:List Rs→Option R),F R xs k=ob (F (List Rs) xs some) k
def toC {R:Type} (T:TT) (of:Nat→Option Ob) (t:Nat) (a:A) (k:V×List (Nat×Ob)→Option R):Option R :=
 match a with
 | .w id ver off n=>(match C3 T t,of id with
  | some (.slice el),some (.row el' v xs nl _)=>bif Nat.beq el el'&&Nat.beq v ver&&Nat.beq (C2 T t) 1 then bif Nat.ble (off+n) xs.length then k (.l ((xs.drop off).take n),[(id,.row el' v xs nl true)]) else none else none
  | _,_=>none)
 | a=>ob (M3 T DEP of t a) k
theorem C9A {R:Type} (of:Nat→Option Ob) (t:Nat) (a:A) (k:V×List (Nat×Ob)→Option R):toC T of t a k=ob (M3 T DEP of t a) k:=by
 unfold toC
 cases a with
 | w id ver off n =>
  simp only [DEP,M3,A0l]
  cases C3 T t with
  | none=>rfl
  | some kk=>cases kk with
   | slice el=>cases of id with
    | none=>rfl
    | some o=>cases o with
     | row el' v xs nl sh =>
      simp only
      cases (Nat.beq el el'&&Nat.beq v ver&&Nat.beq (C2 T t) 1)<;>cases Nat.ble (off+n) xs.length<;>rfl
     | _=>rfl
   | _=>rfl
 | _=>rfl
def B3T {R:Type} (T:TT):(Nat→Option Ob)→List Nat→List A→(List V×List (Nat×Ob)→Option R)→Option R
 | _,[],[],k=>k ([],[])
 | of,t::ts,a::as0,k=>toC T of t a fun p=>B3T T (put of p.2) ts as0 fun q=>k (p.1::q.1,p.2++q.2)
 | _,_,_,_=>none
theorem B0G {R:Type}:∀ (ts:List Nat) (of:Nat→Option Ob) (as0:List A) (k:List V×List (Nat×Ob)→Option R),B3T T of ts as0 k=ob (A0f T of ts as0) k:=by
 intro ts
 induction ts with
 | nil=>intro of as0 k;cases as0<;>rfl
 | cons t ts ih =>
  intro of as0 k
  cases as0 with
  | nil=>rfl
  | cons a as0 =>
   simp only [B3T,C9A,ih,A0f]
   cases M3 T DEP of t a with
   | none=>rfl
   | some p =>
    simp only [ob]
    cases A0f T (put of p.2) ts as0<;>rfl
def A5 (T:TT) (sh:Bool) (ts:List Nat) (F:FC):H4:=fun R args of nx k =>
 B3T T of ts args fun p=>F R p.1 fun rs=>k ⟨C00 (R3 T nx rs).1,(bif sh then A1a of p.2 else [])++(R3 T nx rs).2.1,T5 p.2,(R3 T nx rs).2.2⟩
theorem A7j {sh:Bool} {ts:List Nat} {F:FC} (hF:F.nat):(A5 T sh ts F).nat:=by
 intro R args of nx k
 simp only [A5,H4.dir,B0G]
 cases A0f T of ts args with
 | none=>rfl
 | some p =>
  simp only [ob]
  rw [hF R,hF J7]
  cases F (List Rs) p.1 some<;>rfl
variable {P:Program} {T:TT} {R:Type} {c:F6} {e:B6} {of:Nat→Option Ob}
def B6.grown (e:B6) (w:World) (S2:Nat→Nat→Prop):B6:={ e with w:=w,S:=fun b i=>e.S b i∨(e.w.heap.size≤b∧S2 b i) }
theorem A8.grown (h:A8 T c e of) {w':World} {S2:Nat→Nat→Prop} (hsz:e.w.heap.size≤w'.heap.size) (hb:∀ b,b < e.w.heap.size→w'.heap[b]? = e.w.heap[b]?) (h1:w'.os=e.w.os) (h2:w'.tape=e.w.tape) (h3:w'.output=e.w.output) (hS:∀ b i,S2 b i→b < w'.heap.size) :
  A8 T c (e.grown w' S2) of∧e.le (e.grown w' S2):=by
 have hle:e.le (e.grown w' S2):=by
  refine ⟨fun b i hs=>⟨.inl hs,fun x hx=>?_⟩,fun _ h=>h,fun id hu _=>⟨rfl,rfl,fun b o hι=>D0 (hb b (h.lt _ _ _ hu hι))⟩,fun _ _ h=>h,fun _ _=>Nat.le_refl _,fun _ _=>rfl,hsz,fun b hb'=>D0 (hb b hb')⟩
  show w'.cell? ⟨b,i,none⟩=some x
  rw [E1 (hb b (h.slt _ _ hs))];exact hx
 refine ⟨⟨fun id o ho=>?_,h.sep,h.own,fun id b o hu hι=>Nat.lt_of_lt_of_le (h.lt id b o hu hι) hsz,fun b i hs=>?_,fun b i hs=>.inl (h.s0 _ _ hs),fun b i hs=>?_,h1.trans h.os,h2.trans h.tape,h3.trans h.output,Nat.le_trans h.size hsz,fun k hk hm=>?_,h.g.mono (fun _ _ q=>q) rfl (fun _ q=>q) hsz (fun j b o hj hb=>.inl ⟨j,o,hj,hb⟩)⟩,hle⟩
 ·exact (h.ok id o ho).keep hle rfl (fun b o' hι=>hb b (h.lt _ _ _ (h.ok id o ho).use hι)) (fun b o' i hι hs=>by
   rcases hs with hs | ⟨hs,_⟩
   ·exact hs
   ·exact absurd (h.lt _ _ _ (h.ok id o ho).use hι) (by omega)) (fun a o' b _ hG=>⟨hG,hb b (h.g.lt _ _ hG),fun i hs=>by
   rcases hs with hs | ⟨hs,_⟩
   ·exact hs
   ·exact absurd (h.g.lt _ _ hG) (by omega)⟩)
 ·rcases hs with hs | ⟨_,hs⟩
  ·exact Nat.lt_of_lt_of_le (h.slt _ _ hs) hsz
  ·exact hS _ _ hs
 ·rcases hs with hs | ⟨hs,_⟩
  ·exact h.snew _ _ hs
  ·exact .inr (.inl (Nat.le_trans h.size hs))
 ·show w'.heap[k]? = _
  rw [hb k (Nat.lt_of_lt_of_le hk h.size)];exact h.block k hk hm
def B6.adopt (e:B6) (id b o el n:Nat):B6:={ e with ι:=D9 e.ι id (some (b,o)),bn:=D9 e.bn id 1,U:=fun j=>j=id∨e.U j,ty:=D9 e.ty id el,ln:=D9 e.ln id n }
theorem A8.adopt (h:A8 T c e of) {id b o el:Nat} {xs:List V} {cs:Array Value} {t:TypeId} {fz:Nat×Nat} {pre ys post:List Value} (hu:¬ e.U id) (hz:0 < C2 T el) (hb:e.w.heap[b]? = some (.cells cs t fz)) (hf:A06 e.w b cs) (hcs:cs.toList=pre++ys++post) (hp:pre.length=o) (hr:RV T e (List.replicate xs.length el) xs ys)
  (h1:∀ i,o+ys.length≤i→¬ e.S b i) (h2:∀ i,o≤i→¬ e.S b i) (hnew:c.w0.heap.size≤b) (hown:∀ j b' o',(of j).isSome→e.ι j=some (b',o')→b'≠b) (hnG:∀ a,¬ e.G a b) :
  A8 T c (e.adopt id b o el xs.length) (D9 of id (some (.row el 1 xs false false)))∧e.le (e.adopt id b o el xs.length):=by
 have hne:∀ j,e.U j→j≠id:=fun j hj hq=>hu (hq ▸ hj)
 have hblt:b < e.w.heap.size:=(Array.getElem?_eq_some_iff.1 hb).1
 have hle:e.le (e.adopt id b o el xs.length):=by
  refine ⟨fun b i hs=>⟨hs,fun x hx=>hx⟩,fun j hj=>.inr hj,fun j hj _=>⟨A2 _ _ (hne j hj),A2 _ _ (hne j hj),fun _ _ _=>rfl⟩,fun j hj h0=>?_,fun j hj=>?_,fun j hj=>A2 _ _ (hne j hj),Nat.le_refl _,fun _ _=>rfl⟩
  ·show D9 e.bn id 1 j=0
   rw [A2 _ _ (hne j hj)];exact h0
  ·show _≤D9 e.bn id 1 j
   rw [A2 _ _ (hne j hj)];exact Nat.le_refl _
 have hιid:(e.adopt id b o el xs.length).ι id=some (b,o):=upd_same _ _ _
 have hι:∀ j,j≠id→(e.adopt id b o el xs.length).ι j=e.ι j:=fun j hj=>A2 _ _ hj
 refine ⟨⟨fun j ob hj=>?_,fun j k b1 q b2 q' hj hk hb1 hb2 hjk=>?_,fun j b1 q hj hb1=>?_,fun j b1 q hj hb1=>?_,h.slt,h.s0,h.snew,h.os,h.tape,h.output,h.size,h.block,?_⟩,hle⟩
 ·by_cases hjid:j=id
  ·subst hjid
   rw [upd_same] at hj;cases hj
   refine ⟨.inl rfl,by omega,upd_same _ _ _,upd_same _ _ _,upd_same _ _ _,hz,.inr ⟨rfl,b,o,cs,t,fz,pre,ys,post,hιid,hb,hf,hcs,hp,hr.mono hle,h1,fun _=>h2⟩⟩
  ·rw [A2 _ _ hjid] at hj
   exact (h.ok j ob hj).keep hle (A2 _ _ hjid) (fun _ _ _=>rfl) (fun _ _ _ _ hs=>hs) (fun a o' b _ hG=>⟨hG,rfl,fun i hs=>hs⟩)
 ·by_cases h1':j=id
  ·have h2':k≠id:=fun hq=>hjk (h1'.trans hq.symm)
   subst h1'
   rw [hιid] at hb1;cases hb1
   rw [hι _ h2'] at hb2
   rw [A2 _ _ h2'] at hk
   exact fun hq=>hown k b2 q' hk hb2 hq.symm
  ·rw [hι _ h1'] at hb1
   rw [A2 _ _ h1'] at hj
   by_cases h2':k=id
   ·subst h2'
    rw [hιid] at hb2;cases hb2
    exact hown j b1 q hj hb1
   ·rw [hι _ h2'] at hb2
    rw [A2 _ _ h2'] at hk
    exact h.sep j k b1 q b2 q' hj hk hb1 hb2 hjk
 ·by_cases h1':j=id
  ·subst h1';rw [hιid] at hb1;cases hb1;exact .inl hnew
  ·rw [hι _ h1'] at hb1
   rw [A2 _ _ h1'] at hj
   exact h.own j b1 q hj hb1
 ·by_cases h1':j=id
  ·subst h1';rw [hιid] at hb1;cases hb1;exact hblt
  ·rw [hι _ h1'] at hb1
   rcases hj with hj | hj
   ·exact absurd hj h1'
   ·exact h.lt j b1 q hj hb1
 ·refine ⟨fun a b1 hG j b2 q hj hb2=>?_,h.g.uniq,h.g.own,h.g.lt⟩
  by_cases h1':j=id
  ·subst h1';rw [hιid] at hb2;cases hb2;exact fun hq=>hnG a (hq ▸ hG)
  ·rw [hι _ h1'] at hb2
   rw [A2 _ _ h1'] at hj
   exact h.g.sep a b1 hG j b2 q hj hb2
inductive RR (T:TT) (sh:Bool) (e:B6) (B:Nat):List RK→List Rs→List Value→Prop
 | nil:RR T sh e B [] [] []
 | d {t y v rk rs vs}:(T t).isSome=true→(sh||A1r T 8 t)=true→RV T e [t] [y] v.cells.toList→A0b T t v→RR T sh e B rk rs vs→RR T sh e B (.d t::rk) (.d t y::rs) (v::vs)
 | n {el rk rs vs}:0 < C2 T el→RR T sh e B rk rs vs→RR T sh e B (.r el::rk) (.r el [] true::rs) (.slice none 0 0::vs)
 | r {el xs b o cs t fz pre ys post k cap rk rs vs}:0 < C2 T el→(sh||A1r T 8 el)=true→B≤b→e.w.heap[b]? = some (.cells cs t fz)→A06 e.w b cs→cs.toList=pre++ys++post→pre.length=o→RV T e (List.replicate xs.length el) xs ys →
   (∀ i,o+ys.length≤i→¬ e.S b i)→(∀ i,o≤i→¬ e.S b i)→xs.length≤cap→o+cap * C2 T el=cs.size→(0 < cap→k=o)→RR T sh e B rk rs vs→RR T sh e B (.r el::rk) (.r el xs false::rs) (.slice (some ⟨b,k,none⟩) xs.length cap::vs)
theorem C01 {sh:Bool}:∀ {rk:List RK} {l:List A} {vs:List Value} {e:B6} {of:Nat→Option Ob} {ys:List V} {wo:List (Nat×Ob)},A8 T c e of→dL T sh of l rk=some (ys,wo)→Q1 T e l vs →
  ∃ e':B6,e'.w=e.w∧A8 T c e' (put of wo)∧e.le e'∧(∀ j,e'.U j→e.U j)∧Q1 T e' l vs ∧
   ∀ rs,rL T sh (put of wo) l ys rk=some rs→∀ B,(∀ id el v xs nl sh' b o,put of wo id=some (.row el v xs nl sh')→e'.ι id=some (b,o)→B≤b)→RR T sh e' B rk rs vs:=by
 intro rk
 induction rk with
 | nil =>
  intro l vs e of ys wo h hd hr
  cases l with
  | nil =>
   simp only [dL,D9B,Prod.mk.injEq] at hd
   obtain ⟨rfl,rfl⟩:=hd
   refine ⟨e,rfl,h,B6.le.refl e,fun _ hu=>hu,hr,fun rs hrs B _=>?_⟩
   simp only [rL,D9B] at hrs
   subst hrs
   cases hr;exact .nil
  | cons a l=>simp [dL] at hd
 | cons k rk ih =>
  intro l vs e of ys wo h hd hr
  cases l with
  | nil=>cases k<;>simp [dL] at hd
  | cons a l =>
   cases k with
   | d t =>
    simp only [dL] at hd
    split at hd<;>try (cases hd;done)
    rename_i y w1 h1
    cases hc:((T t).isSome&&(sh||A1r T 8 t)) with
    | false=>rw [hc] at hd;cases hd
    | true =>
     rw [hc] at hd
     simp only [cond_true] at hd
     split at hd<;>try (cases hd;done)
     rename_i ys2 w2 h2
     simp only [D9B,Prod.mk.injEq] at hd
     obtain ⟨rfl,rfl⟩:=hd
     simp only [D9z] at hc
     cases hr with
     | @cons _ v _ vs r1 r2 =>
     obtain ⟨e1,p1,p2,p3,p4,p5⟩:=A0K h h1 r1
     have ag:=A47 h1 r1
     obtain ⟨e2,q1,q2,q3,q4,q6,q5⟩:=ih p2 h2 (r2.mono p3)
     refine ⟨e2,q1.trans p1,by rw [F1];exact q2,p3.trans q3,fun j hj=>p4 j (q4 j hj),.cons ((r1.mono p3).mono q3) q6,fun rs hrs B hB=>?_⟩
     simp only [rL] at hrs
     split at hrs<;>try (cases hrs;done)
     rename_i rs2 hrs2
     simp only [D9B] at hrs
     subst hrs
     rw [F1] at hrs2 hB
     exact .d hc.1 hc.2 (p5.mono q3) ag (q5 _ hrs2 B hB)
   | r el =>
    simp only [dL] at hd
    split at hd<;>try (cases hd;done)
    rename_i ys2 w2 h2
    simp only [D9B,Prod.mk.injEq] at hd
    obtain ⟨rfl,rfl⟩:=hd
    cases hr with
    | @cons _ v _ vs r1 r2 =>
    obtain ⟨e2,q1,q2,q3,q4,q6,q5⟩:=ih h h2 r2
    refine ⟨e2,q1,q2,q3,q4,.cons (r1.mono q3) q6,fun rs hrs B hB=>?_⟩
    simp only [rL] at hrs
    split at hrs<;>try (cases hrs;done)
    rename_i xs nl hn
    split at hrs<;>try (cases hrs;done)
    rename_i rs2 hrs2
    simp only [D9B] at hrs
    subst hrs
    have rest:=q5 _ hrs2 B hB
    have r1':=r1.mono q3
    cases a with
    | o id ver =>
     simp only [C0Z] at hn
     split at hn<;>try (cases hn;done)
     rename_i el' v' xs' nl' hof
     cases hc:(Nat.beq el el'&&Nat.beq v' ver&&(sh||A1r T 8 el)) with
     | false=>rw [hc] at hn;cases hn
     | true =>
      rw [hc] at hn
      simp only [cond_true,D9B,Prod.mk.injEq] at hn
      obtain ⟨rfl,rfl⟩:=hn
      simp only [D9z] at hc
      obtain ⟨⟨c1,c2⟩,c3⟩:=hc
      have:=D9y c1;subst this
      have:=D9y c2;subst this
      obtain ⟨g1,g2,g3,g4,g4',g5,g6⟩:=q2.ok _ _ hof
      rcases L6 r1' g3 with ⟨k1,k2,rfl⟩ | ⟨b,o,cap,k,k1,k2,k3,k4,rfl⟩
      ·rcases g6 with ⟨rfl,_,rfl⟩ | ⟨_,b,o,cs,t,fz,pre,ys,post,m1,_⟩
       ·exact .n g5 rest
       ·rw [k1] at m1;cases m1
      ·rcases g6 with ⟨_,m1,_⟩ | ⟨rfl,b',o',cs,t,fz,pre,ys,post,m1,m2,m3,m4,m5,m6,m7,m8⟩
       ·rw [k1] at m1;cases m1
       ·rw [k1] at m1;cases m1
        rw [g4'] at k2 ⊢
        rw [g4] at k3
        rw [Q5 m2] at k3
        exact .r g5 c3 (hB _ _ _ _ _ _ _ _ hof k1) m2 m3 m4 m5 m6 m7 (m8 rfl) k2 k3 k4 rest
    | z v0 =>
     simp only [C0Z] at hn
     cases hc:(A5G v0&&Nat.blt 0 (C2 T el)) with
     | false=>rw [hc] at hn;cases hn
     | true =>
      rw [hc] at hn
      simp only [cond_true,D9B,Prod.mk.injEq] at hn
      obtain ⟨rfl,rfl⟩:=hn
      simp only [D9z] at hc
      have hx:RA T e2 [.z v0] [v]:=r1'
      have hv:v=.slice none 0 0:=by
       cases hx with
       | z _ _=>exact A1J hc.1
       | r g1 _ _=>exact g1.elim
      subst hv
      exact .n (by simpa [Nat.blt_eq] using hc.2) rest
    | _=>simp [C0Z] at hn
theorem RR.flat {sh:Bool} {B:Nat} {e e':B6} (hw:e'.w=e.w) (hf:sh=true→∀ a ds,Fz e a ds→Fz e' a ds) (hS:∀ b i,B≤b→e'.S b i→e.S b i):∀ {rk:List RK} {rs:List Rs} {vs:List Value},RR T sh e B rk rs vs→RR T sh e' B rk rs vs:=by
 intro rk rs vs h
 have one:∀ {t:Nat} {ts:List Nat} (n:Nat) {xs:List V} {cs:List Value},(sh||A1r T 8 t)=true→ts=List.replicate n t→RV T e ts xs cs→RV T e' ts xs cs:=fun {t ts} n {xs cs} hc hts g=>by
  cases hsh:sh with
  | true=>exact g.change (hf hsh)
  | false =>
   rw [hsh,Bool.false_or] at hc
   subst hts
   exact (RV.flat 8 (e:=e) (e':=e')).1 hc n g
 induction h with
 | nil=>exact .nil
 | d h1 h2 h3 h4 _ ih=>exact .d h1 h2 (one 1 h2 rfl h3) h4 ih
 | n h1 _ ih=>exact .n h1 ih
 | r h1 h2 h3 h4 h5 h6 h7 h8 h9 h10 h11 h12 h13 _ ih =>
  exact .r h1 h2 h3 (by rw [hw];exact h4) (by rw [hw];exact h5) h6 h7 (one _ h2 rfl h8) (fun i hi hs=>h9 i hi (hS _ _ h3 hs)) (fun i hi hs=>h10 i hi (hS _ _ h3 hs)) h11 h12 h13 ih
theorem RR.data {sh:Bool} {B nx:Nat}:∀ {rk:List RK} {rs:List Rs} {vs:List Value},RR T sh e B rk rs vs→A4S rk=0→(R3 T nx rs).2=([],nx)∧Q1 T e (R3 T nx rs).1 vs:=by
 intro rk rs vs h
 induction h with
 | nil=>intro _;exact ⟨rfl,.nil⟩
 | d h1 h2 h3 h4 _ ih =>
  intro hc
  obtain ⟨p,q⟩:=ih hc
  refine ⟨?_,.cons (B2a h1 h3 h4) q⟩
  simp only [R3]
  exact Prod.ext (congrArg Prod.fst p) (congrArg Prod.snd p)
 | n _ _ _=>intro hc;simp [A4S] at hc
 | r _ _ _ _ _ _ _ _ _ _ _ _ _ _ _=>intro hc;simp [A4S] at hc
theorem RR.take {sh:Bool} {B nx:Nat}:∀ {rk:List RK} {rs:List Rs} {vs:List Value} {e:B6} {of:Nat→Option Ob},A8 T c e of→RR T sh e B rk rs vs→A4S rk≤1→(∀ id,nx≤id→id < (R3 T nx rs).2.2→¬ e.U id)→c.w0.heap.size≤B→(∀ j b o,(of j).isSome→e.ι j=some (b,o)→b < B)→(∀ a b,e.G a b→b < B) →
  nx≤(R3 T nx rs).2.2∧∃ e':B6,e'.w=e.w∧A8 T c e' (put of (R3 T nx rs).2.1)∧e.le e'∧(∀ id,e'.U id→e.U id∨(nx≤id∧id < (R3 T nx rs).2.2))∧Q1 T e' (R3 T nx rs).1 vs:=by
 intro rk rs vs e of hos h
 induction h with
 | nil=>intro _ _ _ _ _;exact ⟨Nat.le_refl _,e,rfl,hos,B6.le.refl e,fun _ hu=>.inl hu,.nil⟩
 | d h1 h2 h3 h4 hr ih =>
  intro hc hu hB hb hGB
  obtain ⟨g0,e',g1,g2,g3,g4,g5⟩:=ih hc hu hB hb hGB
  exact ⟨g0,e',g1,g2,g3,g4,.cons (B2a h1 (h3.mono g3) h4) g5⟩
 | @n el rk rs vs hz hr ih =>
  intro hc hu hB hb hGB
  have hc0:A4S rk=0:=by simp only [A4S] at hc;omega
  obtain ⟨p,q⟩:=hr.data (nx:=nx+1) hc0
  have e1:(R3 T nx (.r el [] true::rs)).2.2=nx+1:=by simp only [R3];rw [p]
  have e2:(R3 T nx (.r el [] true::rs)).2.1=[(nx,.row el 1 [] true false)]:=by simp only [R3];rw [p]
  have hun:¬ e.U nx:=hu nx (Nat.le_refl _) (by rw [e1];omega)
  have hle:=hos.le_nil (el:=el) hun
  refine ⟨by rw [e1];omega,e.nil nx el,rfl,by rw [e2];exact hos.nil hun rfl hz,hle,fun id A4=>?_,?_⟩
  ·rcases A4 with rfl | A4
   ·exact .inr ⟨Nat.le_refl _,by rw [e1];omega⟩
   ·exact .inl A4
  ·simp only [R3]
   exact .cons (A2v (.inl rfl) (upd_same _ _ _) (by omega) (upd_same _ _ _) (upd_same _ _ _)) (q.mono hle)
 | @r el xs b o cs t fz pre ys post k cap rk rs vs hz hfl hb1 h4 h5 h6 h7 h8 h9 h10 h11 h12 h13 hr ih =>
  intro hc hu hB hb hGB
  have hc0:A4S rk=0:=by simp only [A4S] at hc;omega
  obtain ⟨p,q⟩:=hr.data (nx:=nx+1) hc0
  have e1:(R3 T nx (.r el xs false::rs)).2.2=nx+1:=by simp only [R3];rw [p]
  have e2:(R3 T nx (.r el xs false::rs)).2.1=[(nx,.row el 1 xs false false)]:=by simp only [R3];rw [p]
  have hun:¬ e.U nx:=hu nx (Nat.le_refl _) (by rw [e1];omega)
  obtain ⟨g1,hle⟩:=hos.adopt (id:=nx) hun hz h4 h5 h6 h7 h8 h9 h10 (Nat.le_trans hB hb1) (fun j b' o' hj hι hq=>by have:=hb j b' o' hj hι;omega) (fun a hG=>by have:=hGB a b hG;omega)
  refine ⟨by rw [e1];omega,e.adopt nx b o el xs.length,rfl,by rw [e2];exact g1,hle,fun id A4=>?_,?_⟩
  ·rcases A4 with rfl | A4
   ·exact .inr ⟨Nat.le_refl _,by rw [e1];omega⟩
   ·exact .inl A4
  ·simp only [R3]
   refine .cons ?_ (q.mono hle)
   have ln:(e.adopt nx b o el xs.length).ln nx=xs.length:=upd_same _ _ _
   have:=A0L (T:=T) (e:=e.adopt nx b o el xs.length) (id:=nx) (ver:=1) (b:=b) (o:=o) (cap:=cap) (.inl rfl) (upd_same _ _ _) (by omega) (upd_same _ _ _) (by rw [ln];exact h11) (by
    rw [show (e.adopt nx b o el xs.length).ty nx=el from upd_same _ _ _,Q5 (show (e.adopt nx b o el xs.length).w.heap[b]? = _ from h4)];exact h12) (k:=k) h13
   rw [ln] at this
   exact this
variable {P:Program} {T:TT} {R:Type} {c:F6} {e:B6} {of:Nat→Option Ob}
def TV (T:TT) (ts:List Nat) (xs:List V):Prop:=∃ e vs,RP T e ts xs vs
theorem A45 {α β:Type} {o:Option α} {k:α→Option β} {b:β} (h:ob o k=some b):∃ a,o=some a∧k a=some b:=by
 cases o with
 | none=>cases h
 | some a=>exact ⟨a,rfl,h⟩
theorem B7N {nx:Nat}:∀ {rs:List Rs} {nx:Nat},∀ a∈(R3 T nx rs).1,∀ l,a≠.t l:=by
 intro rs
 induction rs with
 | nil=>intro nx a ha;simp [R3] at ha
 | cons r rs ih =>
  intro nx a ha
  cases r with
  | d t y =>
   simp only [R3,List.mem_cons] at ha
   rcases ha with rfl | ha
   ·exact A2C _ _
   ·exact ih a ha
  | r el xs nl =>
   simp only [R3,List.mem_cons] at ha
   rcases ha with rfl | ha
   ·intro l h;cases h
   ·exact ih a ha
theorem B7O {nx:Nat} {rs:List Rs}:(R3 T nx rs).1.length=rs.length:=by
 induction rs generalizing nx with
 | nil=>rfl
 | cons r rs ih=>cases r<;>simp [R3,ih]
theorem C9B {sh:Bool} {of:Nat→Option Ob}:∀ {rk:List RK} {l:List A} {ys:List V} {rs:List Rs},rL T sh of l ys rk=some rs→rs.length=rk.length:=by
 intro rk
 induction rk with
 | nil=>intro l ys rs h;cases l<;>cases ys<;>simp [rL] at h;subst h;rfl
 | cons k rk ih =>
  intro l ys rs h
  cases l with
  | nil=>cases k<;>simp [rL] at h
  | cons a l=>cases ys with
   | nil=>cases k<;>simp [rL] at h
   | cons y ys =>
    cases k with
    | d t =>
     simp only [rL] at h
     split at h<;>try (cases h;done)
     rename_i rs' h'
     simp only [D9B] at h;subst h
     simp [ih h']
    | r el =>
     simp only [rL] at h
     split at h<;>try (cases h;done)
     split at h<;>try (cases h;done)
     rename_i rs' h'
     simp only [D9B] at h;subst h
     simp [ih h']
theorem B2b:∀ {l:List A} {xs:List Value},xs.length=l.length→(∀ (i:Nat) v x,l[i]? = some v→xs[i]? = some x→F0 T e v x)→Q1 T e l xs:=by
 intro l
 induction l with
 | nil=>intro xs h _;cases xs with
  | nil=>exact .nil
  | cons _ _=>simp at h
 | cons a l ih =>
  intro xs h hr
  cases xs with
  | nil=>simp at h
  | cons x xs =>
   refine .cons ?_ (ih (by simpa using h) (fun i v x hv hx=>hr (i+1) v x (by simpa using hv) (by simpa using hx)))
   have:=hr 0 a x rfl rfl
   cases a with
   | t l=>exact this.elim
   | _=>exact this
theorem B2c {l:List A} {xs:List Value} (h:Q1 T e l xs) (hn:∀ a∈l,∀ m,a≠.t m):B9 T e (.t l) (.tuple xs.toArray):=by
 obtain ⟨h1,h2⟩:=h.get
 refine ⟨xs.toArray,rfl,by simpa using h1,fun i v x hv hx=>?_⟩
 exact A5e (h2 i v x hv (by simpa using hx)) (hn v (List.mem_of_getElem? hv))
theorem A9l {f:FuncId} {s:H4} (hn:s.nat) (hs:B2 P T f s.dir) {sh:Bool} {ts:List Nat} {rk:List RK} {F:FC} (hFn:F.nat) (hts:ts.all (fun t=>(T t).isSome)=true)
  (hF:∀ xs rs,TV T ts xs→F (List Rs) xs some=some rs→s (List Rs) (A6 T ts xs) (fun _=>none) 0 (fun out=>A7 T sh rk out)=some rs):B2 P T f (A5 T sh ts F).dir:=by
 intro c e of of' args vals nx out hos hrun hro hu hvals
 unfold H4.dir A5 at hrun
 rw [B0G] at hrun
 obtain ⟨⟨xs,wo⟩,hargs,hrun⟩:=A45 hrun
 simp only at hrun
 rw [hFn J7] at hrun
 obtain ⟨rs,hrs,hout⟩:=A45 hrun
 injection hout with hout
 subst hout
 obtain ⟨eS,s1,s2,s3,s4,s5⟩:=A5U hos hargs hro hvals
 have hrun0:=hF xs rs ⟨_,_,s5⟩ hrs
 rw [hn] at hrun0
 obtain ⟨out0,hout0,hres⟩:=A45 hrun0
 let e0:B6:={ w:=e.w,ι:=fun _=>none,S:=eS.S,bn:=fun _=>0,U:=fun _=>False,ty:=fun _=>0,ln:=fun _=>0,G:=fun _ _=>False }
 let c0:F6:={ w0:=e.w,M:=fun _=>False,S0:=eS.S }
 have hos0:A8 T c0 e0 (fun _=>none):=⟨fun _ _ h=>(by cases h),fun _ _ _ _ _ _ h=>(by cases h),fun _ _ _ h=>(by cases h),fun _ _ _ h=>False.elim h,fun b i h=>by have:=s2.slt b i h;rwa [s1] at this,fun _ _ h=>h,fun _ _ h=>.inl h,rfl,rfl,rfl,Nat.le_refl _,fun _ _ _=>rfl,⟨fun _ _ h=>h.elim,fun _ _ _ h=>h.elim,fun _ _ h=>h.elim,fun _ _ h=>h.elim⟩⟩
 have hreps0:Q1 T e0 (A6 T ts xs) vals.toList:=(s5.change (e':=e0) (fun a ds q=>⟨q.1,fun j y hj=>by
  obtain ⟨p1,p2⟩:=q.2 j y hj
  rw [s1] at p1
  exact ⟨p1,p2⟩⟩)).reps hts
 refine E0 (hs c0 e0 (fun _=>none) (fun _=>none) _ vals 0 out0 hos0 hout0 (fun _ _=>rfl) (fun _ _ _ h=>h) hreps0) ?_
 rintro x w' ⟨e1,rfl,k1,k2,k3,k4⟩
 obtain ⟨vs,hvs,hx⟩:∃ vs,Q1 T e1 (C0Y out0.val) vs∧((isT out0.val=true∧x=.tuple vs.toArray)∨(isT out0.val=false∧vs=[x])):=by
  cases hv:out0.val with
  | t l =>
   rw [hv] at k4
   obtain ⟨X,rfl,h2,h3⟩:=k4
   exact ⟨X.toList,B2b (by simpa [C0Y] using h2) (fun i v x a b=>h3 i v x a (by simpa using b)),.inl ⟨rfl,by simp⟩⟩
  | _=>rw [hv] at k4;exact ⟨[x],.cons k4 .nil,.inr ⟨rfl,rfl⟩⟩
 unfold A7 at hres
 cases hsh1:(Nat.beq rk.length 1 == isT out0.val) with
 | true=>rw [hsh1] at hres;cases hres
 | false =>
 rw [hsh1] at hres
 simp only [cond_false] at hres
 split at hres<;>try (cases hres;done)
 rename_i ys w2 hdl
 cases hcnt:Nat.ble (A4S rk) 1 with
 | false=>rw [hcnt] at hres;cases hres
 | true =>
 rw [hcnt] at hres
 simp only [cond_true] at hres
 obtain ⟨e2,q1,q2,q3,q4,q6,q5⟩:=C01 k1 hdl hvs
 have hRR:=q5 rs hres e.w.heap.size (fun id el v xs nl sh' b o A4 hι=>by
  rcases q2.own id b o (by rw [A4];rfl) hι with h | h
  ·exact h
  ·exact h.elim)
 obtain ⟨eK,ofK,t1,t2,t3,t4,t5,t6⟩:∃ (eK:B6) (ofK:Nat→Option Ob),eK.w=e.w∧A8 T c eK ofK∧e.le eK∧(∀ j,eK.U j→e.U j)∧(sh=true→∀ b i,eS.S b i→eK.S b i)∧put of' (bif sh then A1a of wo else [])=ofK:=by
  cases sh with
  | true =>
   refine ⟨eS,put of' wo,s1,s2,s3,s4,fun _ _ _ h=>h,?_⟩
   have hall:Z4 of' wo:=fun p hp=>by
    rw [hro p.1 (List.mem_map.2 ⟨p,hp,rfl⟩)];exact B7M hargs p hp
   show put of' (A1a of wo)=_
   rw [A5M hro,B0u hall]
  | false=>exact ⟨e,of',rfl,hos,B6.le.refl e,fun _ h=>h,fun h=>(by cases h),rfl⟩
 have hsz:eK.w.heap.size=e.w.heap.size:=by rw [t1]
 obtain ⟨g1,g2⟩:=t2.grown (w':=e2.w) (S2:=e2.S) (by rw [hsz];exact q2.size) (fun b hb=>by rw [t1];exact q2.block b (by rw [← hsz];exact hb) (fun h=>h)) (by rw [t1];exact q2.os) (by rw [t1];exact q2.tape) (by rw [t1];exact q2.output) (fun b i h=>q2.slt b i h)
 have hRA:RR T sh (eK.grown e2.w e2.S) e.w.heap.size rk rs vs:=RR.flat (e:=e2) (e':=eK.grown e2.w e2.S) rfl (fun hsh a ds q=>⟨q.1,fun j y hj=>by
   obtain ⟨p1,p2⟩:=q.2 j y hj
   refine ⟨p1,?_⟩
   rcases q2.snew _ _ p2 with h | h | h
   ·exact .inl (t5 hsh _ _ h)
   ·exact .inr ⟨by rw [hsz];exact h,p2⟩
   ·exact h.elim⟩) (fun b i hB hS=>by
   rcases hS with h | h
   ·have:=t2.slt b i h;omega
   ·exact h.2) hRR
 obtain ⟨u0,e',u1,u2,u3,u4,u5⟩:=RR.take (nx:=nx) g1 hRA (D9E hcnt) (fun id h1 h2 hU=>hu id h1 h2 (t4 id hU)) hos.size (fun j b o hj hι=>by
  have:=t2.lt j b o (t2.ok j _ (Option.some_get hj).symm).use hι
  rwa [hsz] at this) (fun a b hG=>by
  have:=t2.g.lt a b hG
  rwa [hsz] at this)
 refine ⟨e',u1.trans q1,?_,t3.trans (g2.trans u3),fun id A4=>(u4 id A4).imp (t4 id) (fun h=>h),?_⟩
 ·show A8 T c e' (put of' ((bif sh then A1a of wo else [])++(R3 T nx rs).2.1))
  rw [F1,t6];exact u2
 ·show B9 T e' (C00 (R3 T nx rs).1) x
  have hlen:(R3 T nx rs).1.length=rk.length:=by rw [B7O,C9B hres]
  rcases hx with ⟨ht,rfl⟩ | ⟨ht,rfl⟩
  ·have hne:(R3 T nx rs).1.length≠1:=by
    rw [hlen];intro h;rw [h,ht] at hsh1;cases hsh1
   have:C00 (R3 T nx rs).1=.t (R3 T nx rs).1:=by
    unfold C00
    split
    ·rename_i a h;rw [h] at hne;exact absurd rfl hne
    ·rfl
   rw [this]
   exact B2c u5 (B7N (nx:=nx))
  ·have h1:=u5.get.1
   obtain ⟨a,ha⟩:∃ a,(R3 T nx rs).1=[a]:=List.length_eq_one_iff.1 (by simpa using h1.symm)
   rw [ha] at u5 ⊢
   cases u5 with
   | cons h _=>exact h
variable {P:Program} {T:TT} {R:Type}
def noC:H4:=fun _ _ _ _ _=>none
theorem B3U:noC.nat:=fun _ _ _ _ _=>rfl
theorem C9C {f:FuncId}:B2 P T f noC.dir:=fun c e of of' args vals nx out _ h=>by cases h
def A2P:List (Nat×H4)→Nat→Option H4
 | [],_=>none
 | (k,s)::r,f=>bif Nat.beq k f then some s else A2P r f
def P4 (P:Program) (T:TT) (tab:List (Nat×H4)):Prop:=∀ f s,(f,s)∈tab→s.nat∧B2 P T f s.dir
theorem B5f:P4 P T []:=fun f s h=>by cases h
theorem P4.cons {tab:List (Nat×H4)} (h:P4 P T tab) {f:Nat} {s:H4} (hn:s.nat) (hs:B2 P T f s.dir):P4 P T ((f,s)::tab):=by
 intro g s' hg
 rcases List.mem_cons.1 hg with hq | hg
 ·cases hq;exact ⟨hn,hs⟩
 ·exact h g s' hg
theorem A1s:∀ {tab:List (Nat×H4)} {f:Nat} {s:H4},A2P tab f=some s→(f,s)∈tab:=by
 intro tab
 induction tab with
 | nil=>intro f s h;cases h
 | cons p r ih =>
  intro f s h
  obtain ⟨k,s'⟩:=p
  simp only [A2P] at h
  cases hk:Nat.beq k f with
  | true =>
   rw [hk] at h;simp only [cond_true,D9B] at h
   have:=D9y hk;subst this;subst h
   exact List.mem_cons_self ..
  | false=>rw [hk] at h;exact List.mem_cons_of_mem _ (ih h)
def A0g (P:Program) (T:TT) (tab:List (Nat×H4)) (fl:Bool) (fu:Nat):Nat→KC
 | 0=>⟨fun f=>match A2P tab f with
  | some s=>s
  | none=>noC,fun _=>noC,fun _=>false⟩
 | d+1=>⟨fun f=>match A2P tab f with
  | some s=>s
  | none=>W6 P T (A0g P T tab fl fu d) (fun _ _=>none) fl fu f,fun id=>A3d T (A0g P T tab fl fu d) fl fu id,A3h P⟩
theorem P5 {tab:List (Nat×H4)} (h:P4 P T tab) {fl:Bool} {fu:Nat}:∀ d,(A0g P T tab fl fu d).nat:=by
 intro d
 induction d with
 | zero =>
  refine ⟨fun f=>?_,fun _=>B3U⟩
  show (match A2P tab f with
   | some s=>s
   | none=>noC).nat
  split
  ·rename_i s hs;exact (h f s (A1s hs)).1
  ·exact B3U
 | succ d ih =>
  refine ⟨fun f=>?_,fun id=>B26 ih⟩
  show (match A2P tab f with
   | some s=>s
   | none=>W6 P T (A0g P T tab fl fu d) (fun _ _=>none) fl fu f).nat
  split
  ·rename_i s hs;exact (h f s (A1s hs)).1
  ·exact A8z ih (fun _=>F7)
theorem Z5 (hm:P.follows .mixedOrders=true) (hT:H2 T P) {tab:List (Nat×H4)} (h:P4 P T tab) {fl:Bool} {fu:Nat}:∀ d,KOK P T (A0g P T tab fl fu d).dir:=by
 intro d
 induction d with
 | zero =>
  refine ⟨fun f=>?_,fun id c e of of' args vals nx out b _ hr=>(by cases hr),fun f h=>(by cases h)⟩
  show B2 P T f (match A2P tab f with
   | some s=>s
   | none=>noC).dir
  split
  ·rename_i s hs;exact (h f s (A1s hs)).2
  ·exact C9C
 | succ d ih =>
  refine ⟨fun f=>?_,fun id=>?_,fun f h=>A8G h⟩
  ·show B2 P T f (match A2P tab f with
    | some s=>s
    | none=>W6 P T (A0g P T tab fl fu d) (fun _ _=>none) fl fu f).dir
   split
   ·rename_i s hs;exact (h f s (A1s hs)).2
   ·exact B1b hm hT (P5 h d) ih (fun _=>F7) (fun n0 fn code _ _=>D2 code)
  ·show YOK P T id (A3d T (A0g P T tab fl fu d) fl fu id).dir
   rw [A6t (P5 h d)]
   exact A8F hm hT ih
structure A1c (P:Program) (T:TT) (f:Nat) (Lo:Nat→LC):Prop where
 nat:∀ n0,A2k (Lo n0)
 ok:∀ n0 fn code,P.funcs[f]? = some fn→fn.body=some code→M2 P T fn.ntmps n0 (W8 (Lo n0)) code
theorem A4K {f:Nat}:A1c P T f (fun _ _=>none):=⟨fun _=>F7,fun n0 fn code _ _=>D2 code⟩
theorem B7P (hm:P.follows .mixedOrders=true) (hT:H2 T P) {tab:List (Nat×H4)} (h:P4 P T tab) {f d fu:Nat} {Lo:Nat→LC} {sh:Bool} {ts:List Nat} {rk:List RK} {F:FC} (hFn:F.nat) (hts:ts.all (fun t=>(T t).isSome)=true)
  (hL:A1c P T f Lo)
  (hF:∀ xs rs,TV T ts xs→F (List Rs) xs some=some rs→W6 P T (A0g P T tab false fu d) Lo false fu f (List Rs) (A6 T ts xs) (fun _=>none) 0 (fun out=>A7 T sh rk out)=some rs) :
  P4 P T ((f,A5 T sh ts F)::tab) :=
 h.cons (A7j hFn) (A9l (A8z (P5 h d) hL.nat) (B1b hm hT (P5 h d) (Z5 hm hT h d) hL.nat hL.ok) hFn hts hF)
variable {P:Program} {T:TT} {R:Type}
def Z9 {p q:Type} (B:p→(p→Option R)→(q→Option R)→Option R):Nat→p→(q→Option R)→Option R
 | 0,_,_=>none
 | n+1,x,kx=>B x (fun x'=>Z9 B n x' kx) kx
def A4 (n:Nat):Nat:=Classical.choose (⟨n,rfl⟩:∃ m,m=n)
theorem A9m (n:Nat):A4 n=n:=Classical.choose_spec (⟨n,rfl⟩:∃ m,m=n)
abbrev FU:Nat:=4611686018427387904
def Z6 (n0:Nat) (ks:List Nat) (H7:Nat) (f:St→(Exit→St→Option R)→Option R):Nat→St→(Exit→St→Option R)→Option R
 | 0,_,_=>none
 | n+1,σ,k=>bif Nat.ble σ.nx H7 then (match σ.norm n0 ks with
  | some σn=>f σn fun ex σ1=>match ex with
   | .normal=>Z6 n0 ks H7 f n σ1 k
   | ex=>bif Nat.ble σ1.nx H7 then (match σ1.norm n0 ks with
    | some σ2=>bif Nat.ble σ2.nx H7 then k ex { σ2 with nx:=H7 } else none
    | none=>none) else none
  | none=>none) else none
theorem B0H {n0 H7:Nat} {ks:List Nat} {f:St→(Exit→St→Option R)→Option R} {g:St→Option (Exit×St)} (h:∀ σ k,f σ k=ob2 (g σ) k):∀ (n:Nat) (σ:St) (k:Exit→St→Option R),Z6 n0 ks H7 f n σ k=ob2 (S6 n0 ks H7 g n σ) k:=by
 intro n
 induction n with
 | zero=>intro σ k;rfl
 | succ n ih =>
  intro σ k
  simp only [Z6,S6,h]
  cases Nat.ble σ.nx H7
  ·rfl
  ·simp only [cond_true]
   cases σ.norm n0 ks with
   | none=>rfl
   | some σn =>
    simp only
    cases g σn with
    | none=>rfl
    | some p =>
     obtain ⟨ex,σ1⟩:=p
     simp only [ob2]
     cases ex with
     | normal=>exact ih σ1 k
     | _ =>
      simp only
      cases Nat.ble σ1.nx H7
      ·rfl
      ·simp only [cond_true]
       cases σ1.norm n0 ks with
       | none=>rfl
       | some σ2=>simp only;cases Nat.ble σ2.nx H7<;>rfl
def A7k (n0:Nat) (ks:List Nat) (H7:Nat) (K:St→Option R) (kx:Exit→St→Option R):Exit→St→Option R:=fun ex σ1=>match ex with
 | .normal=>bif Nat.ble σ1.nx H7 then (match σ1.norm n0 ks with
  | some σn=>K σn
  | none=>none) else none
 | ex=>bif Nat.ble σ1.nx H7 then (match σ1.norm n0 ks with
  | some σ2=>bif Nat.ble σ2.nx H7 then kx ex { σ2 with nx:=H7 } else none
  | none=>none) else none
theorem B7Q {p q:Type} {n0 H7:Nat} {ks:List Nat} {f:St→(Exit→St→Option R)→Option R} (tm:p→St) (B:p→(p→Option R)→(q→Option R)→Option R) (ek:(Exit→St→Option R)→q→Option R)
  (hstep:∀ (x:p) (K:St→Option R) (kx:Exit→St→Option R),f (tm x) (A7k n0 ks H7 K kx)=B x (fun x'=>K (tm x')) (ek kx)) :
  ∀ (n:Nat) (x:p) (σ:St) (k:Exit→St→Option R),σ.norm n0 ks=some (tm x)→Nat.ble σ.nx H7=true→Z6 n0 ks H7 f n σ k=Z9 B n x (ek k):=by
 intro n
 have key:∀ n (k:Exit→St→Option R),∃ G:St→Option R,(∀ x,G (tm x)=Z9 B n x (ek k))∧∀ σ,Z6 n0 ks H7 f n σ k=bif Nat.ble σ.nx H7 then (match σ.norm n0 ks with | some σn=>G σn | none=>none) else none:=by
  intro n
  induction n with
  | zero =>
   intro k
   refine ⟨fun _=>none,fun x=>rfl,fun σ=>?_⟩
   simp only [Z6]
   cases Nat.ble σ.nx H7
   ·rfl
   ·simp only [cond_true];cases σ.norm n0 ks<;>rfl
  | succ n ih =>
   intro k
   obtain ⟨G,g1,g2⟩:=ih k
   refine ⟨fun τ=>f τ (A7k n0 ks H7 G k),fun x=>?_,fun σ=>?_⟩
   ·simp only
    rw [hstep x G k,Z9]
    congr 1
    funext x'
    exact g1 x'
   ·simp only [Z6]
    have:∀ σn,(f σn fun ex σ1=>match ex with
      | .normal=>Z6 n0 ks H7 f n σ1 k
      | ex=>bif Nat.ble σ1.nx H7 then (match σ1.norm n0 ks with
       | some σ2=>bif Nat.ble σ2.nx H7 then k ex { σ2 with nx:=H7 } else none
       | none=>none) else none)=f σn (A7k n0 ks H7 G k):=by
     intro σn
     congr 1
     funext ex σ1
     cases ex with
     | normal=>exact g2 σ1
     | _=>rfl
    cases Nat.ble σ.nx H7
    ·rfl
    ·simp only [cond_true]
     cases σ.norm n0 ks with
     | none=>rfl
     | some σn=>exact this σn
 intro x σ k hn hb
 obtain ⟨G,g1,g2⟩:=key n k
 rw [g2,hb,cond_true,hn]
 exact g1 x
theorem A5V {n0 H7:Nat} {ks:List Nat} {f:St→Option (Exit×St)} {n:Nat} {σ:St} (h:Nat.ble σ.nx H7=false∨σ.norm n0 ks=none):S6 n0 ks H7 f n σ=none:=by
 cases n with
 | zero=>rfl
 | succ n =>
  simp only [S6]
  rcases h with h | h
  ·rw [h];rfl
  ·rw [h];cases Nat.ble σ.nx H7<;>rfl
def A1t {p q:Type} (T:TT) (K:KC) (LoI:LC) (nt:Nat) (b:Code) (n0:Nat) (ks:List Nat) (H7:Nat) (ext:St→Option p) (B:(R:Type)→p→(p→Option R)→(q→Option R)→Option R) (ek:(R:Type)→(Exit→St→Option R)→q→Option R):LS:=fun R of σ k =>
 bif Nat.ble σ.nx H7 then (match σ.norm n0 ks with
  | some τ=>match ext τ with
   | some x=>Z9 (B R) (A4 FU) x (ek R k)
   | none=>ob2 (S6 n0 ks H7 (fun σ=>H5 T K.dir (W8 LoI) FU nt of b σ) FU σ) k
  | none=>none) else none
theorem B7R {p q:Type} {K:KC} (hK:K.nat) {LoI:LC} (hLI:A2k LoI) {nt:Nat} {b:Code} {n0:Nat} {ks:List Nat} {H7:Nat} {ext:St→Option p} {B:(R:Type)→p→(p→Option R)→(q→Option R)→Option R} {ek:(R:Type)→(Exit→St→Option R)→q→Option R} (tm:p→St)
  (hext:∀ τ x,ext τ=some x→τ=tm x)
  (hstep:∀ (R:Type) (of:Nat→Option Ob) (x:p) (K':St→Option R) (kx:Exit→St→Option R),T6 T K LoI false FU nt of R b (tm x) (A7k n0 ks H7 K' kx)=B R x (fun x'=>K' (tm x')) (ek R kx))
  (R:Type) (of:Nat→Option Ob) (σ:St) (k:Exit→St→Option R) :
  A1t T K LoI nt b n0 ks H7 ext B ek R of σ k=ob2 (S6 n0 ks H7 (fun σ=>H5 T K.dir (W8 LoI) FU nt of b σ) FU σ) k:=by
 have hun:=B0H (R:=R) (n0:=n0) (H7:=H7) (ks:=ks) (f:=fun σ k=>T6 T K LoI false FU nt of R b σ k) (g:=fun σ=>H5 T K.dir (W8 LoI) FU nt of b σ) (fun σ k=>A2l hK hLI of R b σ k) FU σ k
 unfold A1t
 cases hb:Nat.ble σ.nx H7 with
 | false =>
  simp only [cond_false]
  rw [A5V (.inl hb)];rfl
 | true =>
  simp only [cond_true]
  cases hn:σ.norm n0 ks with
  | none =>
   rw [A5V (.inr hn)];rfl
  | some τ =>
   simp only
   cases hx:ext τ with
   | none=>rfl
   | some x =>
    simp only
    rw [A9m,← hun]
    exact (B7Q tm (B R) (ek R) (hstep R of) FU x σ k (by rw [hn,hext τ x hx]) hb).symm
def A6V {p:Type} (ext:St→Option p) (tm:p→St):Prop:=∀ τ x,ext τ=some x→τ=tm x
def A2Q {p q:Type} (T:TT) (K:KC) (LoI:LC) (nt:Nat) (b:Code) (n0:Nat) (ks:List Nat) (H7:Nat) (tm:p→St) (B:(R:Type)→p→(p→Option R)→(q→Option R)→Option R) (ek:(R:Type)→(Exit→St→Option R)→q→Option R):Prop :=
 ∀ (R:Type) (of:Nat→Option Ob) (x:p) (K':St→Option R) (kx:Exit→St→Option R),T6 T K LoI false FU nt of R b (tm x) (A7k n0 ks H7 K' kx)=B R x (fun x'=>K' (tm x')) (ek R kx)
def T8 (P:Program) (T:TT) (nt n0:Nat) (b:Code) (s:LS):Prop:=s.nat∧∀ of σ ex σ',s.dir of σ=some (ex,σ')→A1Z P T nt n0 of (.loop b) σ ex σ'
theorem U5 (hm:P.follows .mixedOrders=true) (hT:H2 T P) {p q:Type} {K:KC} (hK:K.nat) (hS:KOK P T K.dir) {LoI:LC} (hLI:A2k LoI) {nt:Nat} {b:Code} {n0:Nat} (hO:M2 P T nt n0 (W8 LoI) b) {ks:List Nat} {H7:Nat} {ext:St→Option p} {B:(R:Type)→p→(p→Option R)→(q→Option R)→Option R} {ek:(R:Type)→(Exit→St→Option R)→q→Option R} (tm:p→St)
  (hext:∀ τ x,ext τ=some x→τ=tm x)
  (hstep:∀ (R:Type) (of:Nat→Option Ob) (x:p) (K':St→Option R) (kx:Exit→St→Option R),T6 T K LoI false FU nt of R b (tm x) (A7k n0 ks H7 K' kx)=B R x (fun x'=>K' (tm x')) (ek R kx)) :
  T8 P T nt n0 b (A1t T K LoI nt b n0 ks H7 ext B ek):=by
 have heq:=B7R (H7:=H7) (ks:=ks) (n0:=n0) hK hLI tm hext hstep
 refine ⟨fun R of σ k=>?_,fun of σ ex σ' h=>?_⟩
 ·rw [heq R,heq (Exit×St)]
  cases S6 n0 ks H7 (fun σ=>H5 T K.dir (W8 LoI) FU nt of b σ) FU σ<;>rfl
 ·unfold LS.dir at h
  rw [heq] at h
  have h':S6 n0 ks H7 (fun σ=>H5 T K.dir (W8 LoI) FU nt of b σ) FU σ=some (ex,σ'):=by
   cases hq:S6 n0 ks H7 (fun σ=>H5 T K.dir (W8 LoI) FU nt of b σ) FU σ with
   | none=>rw [hq] at h;cases h
   | some p=>rw [hq] at h;exact h
  exact A6J (fun σ ex σ' h=>A00 hm hT hS b hO σ ex σ' h) h'
def M1:Code→List Code
 | .seq x y=>M1 x++M1 y
 | .cond _ x y=>M1 x++M1 y
 | .block _ b=>M1 b
 | .loop b=>b::M1 b
 | _=>[]
def A5W:Code→Nat
 | .region id _ _=>id
 | .seq x _=>A5W x
 | .cond _ x _=>A5W x
 | .block _ b=>A5W b
 | .loop b=>A5W b
 | _=>0
def lp (c:Code) (i:Nat):Code:=(M1 c).getD i .skip
def B3V:List (Nat×LS)→Nat→Option LS
 | [],_=>none
 | (k,s)::r,i=>bif Nat.beq k i then some s else B3V r i
def loT (l:List (Nat×LS)):LC:=fun b=>B3V l (A5W b)
theorem B5g:∀ {l:List (Nat×LS)} {i:Nat} {s:LS},B3V l i=some s→∃ k,(k,s)∈l:=by
 intro l
 induction l with
 | nil=>intro i s h;cases h
 | cons p r ih =>
  intro i s h
  obtain ⟨k,s'⟩:=p
  simp only [B3V] at h
  cases hk:Nat.beq k i with
  | true=>rw [hk] at h;simp only [cond_true,D9B] at h;subst h;exact ⟨k,List.mem_cons_self ..⟩
  | false=>rw [hk] at h;obtain ⟨j,hj⟩:=ih h;exact ⟨j,List.mem_cons_of_mem _ hj⟩
theorem B3W {l:List (Nat×LS)} (h:∀ p∈l,LS.nat p.2):A2k (loT l):=fun b s hs=>by
 obtain ⟨k,hk⟩:=B5g hs
 exact h _ hk
theorem B2d {Lo:A4w} {nt n0:Nat}:∀ c:Code,(∀ b∈M1 c,∀ s,Lo b=some s→∀ of σ ex σ',s of σ=some (ex,σ')→A1Z P T nt n0 of (.loop b) σ ex σ')→M2 P T nt n0 Lo c:=by
 intro c
 induction c with
 | seq x y ihx ihy=>intro h;exact ⟨ihx (fun b hb=>h b (by simp [M1,hb])),ihy (fun b hb=>h b (by simp [M1,hb]))⟩
 | cond q x y ihx ihy=>intro h;exact ⟨ihx (fun b hb=>h b (by simp [M1,hb])),ihy (fun b hb=>h b (by simp [M1,hb]))⟩
 | block id b ih=>intro h;exact ih (fun b hb=>h b (by simpa [M1] using hb))
 | loop b ih=>intro h;exact ⟨h b (by simp [M1]),ih (fun b' hb=>h b' (by simp [M1,hb]))⟩
 | _=>intro _;trivial
def C02 (P:Program) (T:TT) (Lo:LC) (nt n0:Nat) (c:Code):Nat→Prop
 | 0=>True
 | n+1=>C02 P T Lo nt n0 c n∧∀ s,Lo (lp c n)=some s→T8 P T nt n0 (lp c n) s
theorem loI {Lo:LC} {nt n0:Nat} {c:Code} {i:Nat} {s0:LS} (h0:Lo (lp c i)=some s0) (h:T8 P T nt n0 (lp c i) s0):∀ s,Lo (lp c i)=some s→T8 P T nt n0 (lp c i) s:=by
 intro s hs;rw [h0] at hs;cases hs;exact h
theorem loN {Lo:LC} {nt n0:Nat} {c:Code} {i:Nat} (h0:Lo (lp c i)=none):∀ s,Lo (lp c i)=some s→T8 P T nt n0 (lp c i) s:=by
 intro s hs;rw [h0] at hs;cases hs
theorem A5X {Lo:LC} {nt n0:Nat} {c:Code} (n:Nat) (hn:Nat.beq (M1 c).length n=true) (h:C02 P T Lo nt n0 c n):M2 P T nt n0 (W8 Lo) c:=by
 have hn:=D9y hn
 have key:∀ n,C02 P T Lo nt n0 c n→∀ i,i < n→∀ s,Lo (lp c i)=some s→T8 P T nt n0 (lp c i) s:=by
  intro n
  induction n with
  | zero=>intro _ i hi;omega
  | succ n ih =>
   intro h i hi
   by_cases hin:i=n
   ·subst hin;exact h.2
   ·exact ih h.1 i (by omega)
 refine B2d c (fun b hb s hs=>?_)
 obtain ⟨i,hi,rfl⟩:=List.mem_iff_getElem.1 hb
 have e:lp c i=(M1 c)[i]:=by unfold lp;simp [List.getD,hi]
 rw [← e] at hs ⊢
 unfold W8 at hs
 cases hq:Lo (lp c i) with
 | none=>rw [hq] at hs;cases hs
 | some s0 =>
  rw [hq] at hs
  injection hs with hs;subst hs
  exact (key n h i (by omega) s0 hq).2
def A2f (P:Program) (f:Nat):Code :=
 match P.funcs[f]? with
 | some fn=>match fn.body with
  | some c=>c
  | none=>.skip
 | none=>.skip
def C9D (P:Program) (f:Nat):Nat :=
 match P.funcs[f]? with
 | some fn=>fn.ntmps
 | none=>0
def atN (n0:Nat) (l:List (Nat×LS)):Nat→LC:=fun n=>bif Nat.beq n n0 then loT l else fun _=>none
theorem A0y {f:Nat} (n0:Nat) {l:List (Nat×LS)} (hn:∀ p∈l,LS.nat p.2) (n:Nat) (hl:Nat.beq (M1 (A2f P f)).length n=true) (h:C02 P T (loT l) (C9D P f) n0 (A2f P f) n):A1c P T f (atN n0 l):=by
 refine ⟨fun m=>?_,fun m fn code h1 h2=>?_⟩
 ·unfold atN
  cases Nat.beq m n0
  ·exact F7
  ·exact B3W hn
 ·unfold atN
  cases hm:Nat.beq m n0 with
  | false=>exact D2 code
  | true =>
   have:=D9y hm;subst this
   simp only [cond_true]
   have:=A5X n hl h
   simpa only [A2f,C9D,h1,h2] using this
abbrev N5:Nat:=4294967296
def A2M (x n:Nat):Nat:=(x >>> n) ||| ((x <<< (32 - n)) % N5)
def sS0 (x:Nat):Nat:=(A2M x 7 ^^^ A2M x 18) ^^^ (x >>> 3)
def sS1 (x:Nat):Nat:=(A2M x 17 ^^^ A2M x 19) ^^^ (x >>> 10)
def bS0 (x:Nat):Nat:=(A2M x 2 ^^^ A2M x 13) ^^^ A2M x 22
def bS1 (x:Nat):Nat:=(A2M x 6 ^^^ A2M x 11) ^^^ A2M x 25
def chN (x y z:Nat):Nat:=(x &&& y) ^^^ ((4294967295 - x) &&& z)
def B2e (x y z:Nat):Nat:=((x &&& y) ^^^ (x &&& z)) ^^^ (y &&& z)
def A3G (l:List Nat):Nat:=(l.getD 15 0+sS0 (l.getD 14 0)+l.getD 6 0+sS1 (l.getD 1 0)) % N5
def A1P:Nat→List Nat→List Nat
 | 0,l=>l
 | n+1,l=>A12 (A3G l) fun x=>A1P n (x::l)
structure S8 where
 a:Nat
 b:Nat
 c:Nat
 d:Nat
 e:Nat
 f:Nat
 g:Nat
 h:Nat
def B2f (s:S8) (k w:Nat):S8 :=
 A12 (s.h+bS1 s.e+chN s.e s.f s.g+k+w) fun t=>A12 ((t+(bS0 s.a+B2e s.a s.b s.c)) % N5) fun a=>A12 ((s.d+t) % N5) fun e=>⟨a,s.a,s.b,s.c,e,s.e,s.f,s.g⟩
def A7l:List Nat→List Nat→S8→S8
 | k::ks,w::ws,s=>A7l ks ws (B2f s k w)
 | _,_,s=>s
def B2g (s x:S8):S8 :=
 A12 ((s.a+x.a) % N5) fun a=>A12 ((s.b+x.b) % N5) fun b=>A12 ((s.c+x.c) % N5) fun c=>A12 ((s.d+x.d) % N5) fun d=>A12 ((s.e+x.e) % N5) fun e=>A12 ((s.f+x.f) % N5) fun f=>A12 ((s.g+x.g) % N5) fun g=>A12 ((s.h+x.h) % N5) fun h=>⟨a,b,c,d,e,f,g,h⟩
def A7m:List Nat:=[0x428a2f98,0x71374491,0xb5c0fbcf,0xe9b5dba5,0x3956c25b,0x59f111f1,0x923f82a4,0xab1c5ed5,
 0xd807aa98,0x12835b01,0x243185be,0x550c7dc3,0x72be5d74,0x80deb1fe,0x9bdc06a7,0xc19bf174,
 0xe49b69c1,0xefbe4786,0x0fc19dc6,0x240ca1cc,0x2de92c6f,0x4a7484aa,0x5cb0a9dc,0x76f988da,
 0x983e5152,0xa831c66d,0xb00327c8,0xbf597fc7,0xc6e00bf3,0xd5a79147,0x06ca6351,0x14292967,
 0x27b70a85,0x2e1b2138,0x4d2c6dfc,0x53380d13,0x650a7354,0x766a0abb,0x81c2c92e,0x92722c85,
 0xa2bfe8a1,0xa81a664b,0xc24b8b70,0xc76c51a3,0xd192e819,0xd6990624,0xf40e3585,0x106aa070,
 0x19a4c116,0x1e376c08,0x2748774c,0x34b0bcb5,0x391c0cb3,0x4ed8aa4a,0x5b9cca4f,0x682e6ff3,
 0x748f82ee,0x78a5636f,0x84c87814,0x8cc70208,0x90befffa,0xa4506ceb,0xbef9a3f7,0xc67178f2]
def J6:Nat→List Nat→List Nat→List Nat
 | n+1,b0::b1::b2::b3::r,acc=>A12 (((b0 * 256+b1) * 256+b2) * 256+b3) fun w=>J6 n r (w::acc)
 | _,_,acc=>acc
def A6W (s:S8) (bs:List Nat):S8:=B2g s (A7l A7m (A1P 48 (J6 16 bs [])).reverse s)
def s0N:S8:=⟨0x6a09e667,0xbb67ae85,0x3c6ef372,0xa54ff53a,0x510e527f,0x9b05688c,0x1f83d9ab,0x5be0cd19⟩
def be4 (n:Nat):List Nat:=[n / 16777216 % 256,n / 65536 % 256,n / 256 % 256,n % 256]
def D34 (s:S8):List Nat:=be4 s.a++(be4 s.b++(be4 s.c++(be4 s.d++(be4 s.e++(be4 s.f++(be4 s.g++be4 s.h))))))
def A1d:Nat→S8→List Nat→S8
 | 0,s,_=>s
 | n+1,s,l=>match l with
  | []=>s
  | l=>A1d n (A6W s (l.take 64)) (l.drop 64)
def A4b (n:Nat):List Nat:=128::(List.replicate ((119 - n % 64) % 64) 0++[8 * n / 2 ^ 56 % 256,8 * n / 2 ^ 48 % 256,8 * n / 2 ^ 40 % 256,8 * n / 2 ^ 32 % 256,8 * n / 2 ^ 24 % 256,8 * n / 2 ^ 16 % 256,8 * n / 2 ^ 8 % 256,8 * n % 256])
def C9E (l:List Nat):List Nat:=D34 (A1d (l.length / 64+2) s0N (l++A4b l.length))
example:C9E [97,98,99]=[0xba,0x78,0x16,0xbf,0x8f,0x01,0xcf,0xea,0x41,0x41,0x40,0xde,0x5d,0xae,0x22,0x23,0xb0,0x03,0x61,0xa3,0x96,0x17,0x7a,0x9c,0xb4,0x10,0xff,0x61,0xf2,0x00,0x15,0xad]:=by kernel_rfl
variable {T:TT} {R:Type}
abbrev ck {R:Type} (i:Int) (n:Nat) (k:Option R):Option R:=bif M6 0 i&&H8 i n then k else none
abbrev J2 (n:Int):Int:=IntKind.wrap .i64 n
abbrev W32 (n:Int):Int:=IntKind.wrap .u32 n
abbrev WU (n:Int):Int:=IntKind.wrap .u64 n
def elV (w:V) (i:Int):Int:=(w.nth i.toNat).int
def nv (n:Nat):V:=.i (n:Int)
theorem A4c (n:Nat):W32 (n:Int)=((n % 4294967296:Nat):Int):=by
 unfold W32 IntKind.wrap
 simp [IntKind.bits,IntKind.signed]
theorem D9j (n:Nat):WU (n:Int)=((n % 18446744073709551616:Nat):Int):=by
 unfold WU IntKind.wrap
 simp [IntKind.bits,IntKind.signed]
theorem A1Q {n:Nat} (h:n < 4294967296):W32 (n:Int)=(n:Int):=by rw [A4c,Nat.mod_eq_of_lt h]
theorem E4 {n:Nat} (h:n < 18446744073709551616):WU (n:Int)=(n:Int):=by rw [D9j,Nat.mod_eq_of_lt h]
theorem N6 {n:Int} (h1 : -9223372036854775808≤n) (h2:n≤9223372036854775807):J2 n=n:=by
 show (if (true&&decide (n % 2 ^ 64 ≥ 2 ^ (64 - 1)))=true then n % 2 ^ 64 - 2 ^ 64 else n % 2 ^ 64)=n
 by_cases h:n % 2 ^ 64 ≥ 2 ^ (64 - 1)
 ·rw [if_pos (by simpa using h)];omega
 ·rw [if_neg (by simpa using h)];omega
theorem P8 {i:Int} {n:Nat} {k:Option R} (h1:0≤i) (h2:i < n):ck i n k=k:=by
 unfold ck
 rw [N9.2 h1,show H8 i n=true by simp [H8,h2]]
 rfl
theorem M7 (w a:Nat):BitVec.ofInt w (a:Int)=BitVec.ofNat w a:=BitVec.ofInt_natCast w a
theorem B2h {a b:Nat} (ha:a < 4294967296) (hb:b < 4294967296):G4 .and .u32 (a:Int) (b:Int)=((a &&& b:Nat):Int):=by
 have hl:a &&& b < 4294967296:=Nat.lt_of_le_of_lt Nat.and_le_left ha
 show IntKind.wrap .u32 (((BitVec.ofInt 32 (a:Int) &&& BitVec.ofInt 32 (b:Int)).toNat:Nat):Int)=_
 rw [M7,M7,BitVec.toNat_and,BitVec.toNat_ofNat,BitVec.toNat_ofNat]
 rw [Nat.mod_eq_of_lt (by simpa using ha),Nat.mod_eq_of_lt (by simpa using hb)]
 exact A1Q hl
theorem A2z {a b:Nat} (ha:a < 4294967296) (hb:b < 4294967296):G4 .or .u32 (a:Int) (b:Int)=((a ||| b:Nat):Int):=by
 have hl:a ||| b < 4294967296:=Nat.or_lt_two_pow (n:=32) ha hb
 show IntKind.wrap .u32 (((BitVec.ofInt 32 (a:Int) ||| BitVec.ofInt 32 (b:Int)).toNat:Nat):Int)=_
 rw [M7,M7,BitVec.toNat_or,BitVec.toNat_ofNat,BitVec.toNat_ofNat]
 rw [Nat.mod_eq_of_lt (by simpa using ha),Nat.mod_eq_of_lt (by simpa using hb)]
 exact A1Q hl
theorem A5Y {a b:Nat} (ha:a < 4294967296) (hb:b < 4294967296):G4 .xor .u32 (a:Int) (b:Int)=((a ^^^ b:Nat):Int):=by
 have hl:a ^^^ b < 4294967296:=Nat.xor_lt_two_pow (n:=32) ha hb
 show IntKind.wrap .u32 (((BitVec.ofInt 32 (a:Int) ^^^ BitVec.ofInt 32 (b:Int)).toNat:Nat):Int)=_
 rw [M7,M7,BitVec.toNat_xor,BitVec.toNat_ofNat,BitVec.toNat_ofNat]
 rw [Nat.mod_eq_of_lt (by simpa using ha),Nat.mod_eq_of_lt (by simpa using hb)]
 exact A1Q hl
theorem B2i {a b:Nat} (ha:a < 18446744073709551616) (hb:b < 18446744073709551616):G4 .and .u64 (a:Int) (b:Int)=((a &&& b:Nat):Int):=by
 have hl:a &&& b < 18446744073709551616:=Nat.lt_of_le_of_lt Nat.and_le_left ha
 show IntKind.wrap .u64 (((BitVec.ofInt 64 (a:Int) &&& BitVec.ofInt 64 (b:Int)).toNat:Nat):Int)=_
 rw [M7,M7,BitVec.toNat_and,BitVec.toNat_ofNat,BitVec.toNat_ofNat]
 rw [Nat.mod_eq_of_lt (by simpa using ha),Nat.mod_eq_of_lt (by simpa using hb)]
 exact E4 hl
theorem B5h {a b:Nat} (ha:a < 18446744073709551616) (hb:b < 18446744073709551616):G4 .or .u64 (a:Int) (b:Int)=((a ||| b:Nat):Int):=by
 have hl:a ||| b < 18446744073709551616:=Nat.or_lt_two_pow (n:=64) ha hb
 show IntKind.wrap .u64 (((BitVec.ofInt 64 (a:Int) ||| BitVec.ofInt 64 (b:Int)).toNat:Nat):Int)=_
 rw [M7,M7,BitVec.toNat_or,BitVec.toNat_ofNat,BitVec.toNat_ofNat]
 rw [Nat.mod_eq_of_lt (by simpa using ha),Nat.mod_eq_of_lt (by simpa using hb)]
 exact E4 hl
theorem B2j {a b:Nat} (ha:a < 18446744073709551616) (hb:b < 18446744073709551616):G4 .xor .u64 (a:Int) (b:Int)=((a ^^^ b:Nat):Int):=by
 have hl:a ^^^ b < 18446744073709551616:=Nat.xor_lt_two_pow (n:=64) ha hb
 show IntKind.wrap .u64 (((BitVec.ofInt 64 (a:Int) ^^^ BitVec.ofInt 64 (b:Int)).toNat:Nat):Int)=_
 rw [M7,M7,BitVec.toNat_xor,BitVec.toNat_ofNat,BitVec.toNat_ofNat]
 rw [Nat.mod_eq_of_lt (by simpa using ha),Nat.mod_eq_of_lt (by simpa using hb)]
 exact E4 hl
theorem B7S (a b:Nat):(a:Int).fdiv (b:Int)=((a / b:Nat):Int):=by
 cases a with
 | zero=>simp
 | succ a=>cases b with
  | zero=>simp
  | succ b=>rfl
theorem A0M (a n:Nat):(a:Int).fdiv (2 ^ n)=((a >>> n:Nat):Int):=by
 rw [show ((2:Int) ^ n)=((2 ^ n:Nat):Int) by push_cast;rfl,B7S,Nat.shiftRight_eq_div_pow]
theorem A3H (a n:Nat):(a:Int) * 2 ^ n=((a <<< n:Nat):Int):=by
 rw [Nat.shiftLeft_eq];push_cast;rfl
def xor (a b:Int):Int:=G4 .xor .u32 a b
def and (a b:Int):Int:=G4 .and .u32 a b
def rot (x:Int) (n:Nat):Int:=G4 .or .u32 (W32 (x * 2 ^ (32 - n))) (x.fdiv (2 ^ n))
def sg0 (x:Int):Int:=xor (xor (rot x 7) (rot x 18)) (x.fdiv (2 ^ 3))
def sg1 (x:Int):Int:=xor (xor (rot x 17) (rot x 19)) (x.fdiv (2 ^ 10))
theorem A1e {a n:Nat} (h:a < N5):a >>> n < N5:=by
 rw [Nat.shiftRight_eq_div_pow];exact Nat.lt_of_le_of_lt (Nat.div_le_self _ _) h
theorem C1 {a n:Nat} (h:a < N5):A2M a n < N5:=by
 unfold A2M
 exact Nat.or_lt_two_pow (n:=32) (A1e h) (Nat.mod_lt _ (show 0 < N5 by decide))
theorem A1f {a n:Nat} (h:a < N5):rot (a:Int) n=((A2M a n:Nat):Int):=by
 unfold rot A2M
 have hm:(a <<< (32 - n)) % 4294967296 < 4294967296:=Nat.mod_lt _ (by decide)
 rw [A3H,A0M,A4c,A2z hm (A1e h),Nat.or_comm]
theorem A0N {a b:Nat} (ha:a < N5) (hb:b < N5):xor (a:Int) (b:Int)=((a ^^^ b:Nat):Int):=A5Y ha hb
theorem A5Z {a b:Nat} (ha:a < N5) (hb:b < N5):and (a:Int) (b:Int)=((a &&& b:Nat):Int):=B2h ha hb
theorem N7 {a b:Nat} (ha:a < N5) (hb:b < N5):a ^^^ b < N5:=Nat.xor_lt_two_pow (n:=32) ha hb
theorem Q2 {a b:Nat} (ha:a < N5):a &&& b < N5:=Nat.lt_of_le_of_lt Nat.and_le_left ha
theorem C9F {a:Nat} (h:a < N5):sg0 (a:Int)=((sS0 a:Nat):Int):=by
 unfold sg0 sS0
 rw [A1f h,A1f h,A0M,A0N (C1 h) (C1 h),A0N (N7 (C1 h) (C1 h)) (A1e h)]
theorem C9G {a:Nat} (h:a < N5):sg1 (a:Int)=((sS1 a:Nat):Int):=by
 unfold sg1 sS1
 rw [A1f h,A1f h,A0M,A0N (C1 h) (C1 h),A0N (N7 (C1 h) (C1 h)) (A1e h)]
theorem C9H {a:Nat} (h:a < N5):sS0 a < N5:=N7 (N7 (C1 h) (C1 h)) (A1e h)
theorem C9I {a:Nat} (h:a < N5):sS1 a < N5:=N7 (N7 (C1 h) (C1 h)) (A1e h)
theorem C9J {a:Nat} (h:a < N5):bS0 a < N5:=N7 (N7 (C1 h) (C1 h)) (C1 h)
theorem C9K {a:Nat} (h:a < N5):bS1 a < N5:=N7 (N7 (C1 h) (C1 h)) (C1 h)
theorem C03 {a:Nat} (h:a < N5):4294967295 ^^^ a=4294967295 - a:=by
 have:(4294967295:Nat)=2 ^ 32 - 1:=by decide
 have h2:=Nat.testBit_two_pow_sub_succ (n:=32) (x:=a) (by simpa using h)
 apply Nat.eq_of_testBit_eq
 intro i
 rw [Nat.testBit_xor,show 4294967295 - a=2 ^ 32 - (a+1) by omega,h2]
 rw [this,Nat.testBit_two_pow_sub_one]
 by_cases hi:i < 32
 ·simp [hi]
 ·have:a.testBit i=false:=Nat.testBit_lt_two_pow (Nat.lt_of_lt_of_le (show a < 2 ^ 32 from h) (Nat.pow_le_pow_right (show 2 > 0 by decide) (show 32≤i by omega)))
  simp [hi,this]
def byt (x:V) (i:Int):Int:=W32 (x.nth i.toNat).int
def B7T (x:V) (i:Int):Int:=G4 .or .u32 (G4 .or .u32 (G4 .or .u32 (W32 (byt x (J2 (4 * i)) * 2 ^ 24)) (W32 (byt x (J2 (J2 (4 * i)+1)) * 2 ^ 16))) (W32 (byt x (J2 (J2 (4 * i)+2)) * 2 ^ 8))) (byt x (J2 (J2 (4 * i)+3)))
def e8 (x:V) (i:Nat):Int:=(x.nth i).int
def D35 (x:V) (k w:Int):V :=
 let a:=e8 x 0
 let e:=e8 x 4
 let t:=W32 (W32 (W32 (W32 (e8 x 7+xor (xor (rot e 6) (rot e 11)) (rot e 25))+xor (and e (e8 x 5)) (and (G4 .xor .u32 4294967295 e) (e8 x 6)))+k)+w)
 let u:=W32 (xor (xor (rot a 2) (rot a 13)) (rot a 22)+xor (xor (and a (e8 x 1)) (and a (e8 x 2))) (and (e8 x 1) (e8 x 2)))
 .l [.i (W32 (t+u)),.i a,.i (e8 x 1),.i (e8 x 2),.i (W32 (e8 x 3+t)),.i e,.i (e8 x 5),.i (e8 x 6)]
inductive C04 where
 | m (x:V) (z:V) (i:Int) (w:V)
inductive C9L where
 | o (x:V) (z:V) (i:Int) (w:V)
def B7U (R:Type) (p:C04) (K:C04→Option R) (kx:C9L→Option R):Option R :=
 match p with
 | .m x z i w =>
  bif H8 i 16 then
   ck (J2 (4 * i)) x.els.length <| ck (J2 (J2 (4 * i)+1)) x.els.length <| ck (J2 (J2 (4 * i)+2)) x.els.length <| ck (J2 (J2 (4 * i)+3)) x.els.length <|
   ck i 64 <| K (.m x z (J2 (i+1)) (w.put i.toNat (.i (B7T x i))))
  else kx (.o x z i w)
inductive C05 where
 | m (z:V) (i:Int) (w:V)
inductive C9M where
 | o (z:V) (i:Int) (w:V)
def B5i (R:Type) (p:C05) (K:C05→Option R) (kx:C9M→Option R):Option R :=
 match p with
 | .m z i w =>
  bif H8 i 64 then
   ck (J2 (i - 15)) 64 <| ck (J2 (i - 2)) 64 <| ck (J2 (i - 16)) 64 <| ck (J2 (i - 7)) 64 <| ck i 64 <|
   K (.m z (J2 (i+1)) (w.put i.toNat (.i (W32 (W32 (W32 (elV w (J2 (i - 16))+elV w (J2 (i - 7)))+sg0 (elV w (J2 (i - 15))))+sg1 (elV w (J2 (i - 2))))))))
  else kx (.o z i w)
inductive C06 where
 | m (s:V) (z:V) (w:V) (k:V) (x:V) (i:Int)
inductive C9N where
 | o (s:V) (z:V) (w:V) (k:V) (x:V) (i:Int)
def B7V (R:Type) (p:C06) (K:C06→Option R) (kx:C9N→Option R):Option R :=
 match p with
 | .m s z w k x i =>
  bif H8 i 64 then ck i 64 <| ck i 64 <| K (.m s z w k (D35 x (elV k i) (elV w i)) (J2 (i+1))) else kx (.o s z w k x i)
inductive C07 where
 | m (s:V) (z:V) (x:V) (i:Int)
inductive C9O where
 | o (s:V) (z:V) (x:V) (i:Int)
def B2k (R:Type) (p:C07) (K:C07→Option R) (kx:C9O→Option R):Option R :=
 match p with
 | .m s z x i =>
  bif H8 i 8 then ck i 8 <| ck i 8 <| ck i 8 <| K (.m (s.put i.toNat (.i (W32 (elV s i+elV x i)))) z x (J2 (i+1))) else kx (.o s z x i)
theorem C9P {x:V} {bs:List Nat} (hx:x.els=bs.map nv) {k b:Nat} (h:bs[k]? = some b):(x.nth k).int=(b:Int):=by
 unfold V.nth
 rw [hx,List.getD,List.getElem?_map,h]
 rfl
theorem B2l {a b i:Nat} (h:b < 2 ^ i):(a <<< i) ||| b=a * 2 ^ i+b:=by
 rw [← Nat.shiftLeft_add_eq_or_of_lt h,Nat.shiftLeft_eq]
theorem C08 {b0 b1 b2 b3:Nat} (h0:b0 < 256) (h1:b1 < 256) (h2:b2 < 256) (h3:b3 < 256):(((b0 <<< 24) ||| (b1 <<< 16)) ||| (b2 <<< 8)) ||| b3=((b0 * 256+b1) * 256+b2) * 256+b3:=by
 have e1:(b0 <<< 24) ||| (b1 <<< 16)=(b0 * 256+b1) <<< 16:=by
  rw [B2l (by rw [Nat.shiftLeft_eq];omega),Nat.shiftLeft_eq,Nat.shiftLeft_eq];omega
 have e2:((b0 * 256+b1) <<< 16) ||| (b2 <<< 8)=((b0 * 256+b1) * 256+b2) <<< 8:=by
  rw [B2l (by rw [Nat.shiftLeft_eq];omega),Nat.shiftLeft_eq,Nat.shiftLeft_eq];omega
 rw [e1,e2,B2l (by omega)]
theorem A9n {x:V} {bs:List Nat} (hx:x.els=bs.map nv) (hb:∀ b∈bs,b < 256) {k b:Nat} (h:bs[k]? = some b):byt x (k:Int)=(b:Int):=by
 have:=hb b (List.mem_of_getElem? h)
 unfold byt
 rw [show ((k:Int)).toNat=k from rfl,C9P hx h,A1Q (by omega)]
theorem B7W {x:V} {bs:List Nat} (hx:x.els=bs.map nv) (hb:∀ b∈bs,b < 256) {j b0 b1 b2 b3:Nat} (hj:j < 1000) (h0:bs[4 * j]? = some b0) (h1:bs[4 * j+1]? = some b1) (h2:bs[4 * j+2]? = some b2) (h3:bs[4 * j+3]? = some b3) :
  B7T x (j:Int)=(((((b0 * 256+b1) * 256+b2) * 256+b3:Nat)):Int):=by
 have l0:=hb b0 (List.mem_of_getElem? h0)
 have l1:=hb b1 (List.mem_of_getElem? h1)
 have l2:=hb b2 (List.mem_of_getElem? h2)
 have l3:=hb b3 (List.mem_of_getElem? h3)
 have w0:J2 (4 * (j:Int))=((4 * j:Nat):Int):=by rw [N6 (by omega) (by omega)];push_cast;rfl
 have w1:J2 (J2 (4 * (j:Int))+1)=((4 * j+1:Nat):Int):=by rw [w0,N6 (by omega) (by omega)];push_cast;rfl
 have w2:J2 (J2 (4 * (j:Int))+2)=((4 * j+2:Nat):Int):=by rw [w0,N6 (by omega) (by omega)];push_cast;rfl
 have w3:J2 (J2 (4 * (j:Int))+3)=((4 * j+3:Nat):Int):=by rw [w0,N6 (by omega) (by omega)];push_cast;rfl
 unfold B7T
 rw [w1,w2,w3,w0,A9n hx hb h0,A9n hx hb h1,A9n hx hb h2,A9n hx hb h3,A3H,A3H,A3H,← C08 l0 l1 l2 l3]
 have s0:b0 <<< 24 < 4294967296:=by rw [Nat.shiftLeft_eq];omega
 have s1:b1 <<< 16 < 4294967296:=by rw [Nat.shiftLeft_eq];omega
 have s2:b2 <<< 8 < 4294967296:=by rw [Nat.shiftLeft_eq];omega
 have o1:=Nat.or_lt_two_pow (n:=32) s0 s1
 have o2:=Nat.or_lt_two_pow (n:=32) o1 s2
 rw [A1Q s0,A1Q s1,A1Q s2,A2z s0 s1,A2z o1 s2,A2z o2 (by omega)]
theorem A50 {l:List V} {m:Nat} {z y:V}:(V.l (l++List.replicate (m+1) z)).put l.length y=.l ((l++[y])++List.replicate m z):=by
 unfold V.put
 simp only [V.els]
 rw [List.set_append_right _ _ (Nat.le_refl _),Nat.sub_self,List.replicate_succ,List.set_cons_zero,List.append_assoc,List.singleton_append]
theorem D36 {bs:List Nat} {k:Nat} (h:k+4≤bs.length):∃ b0 b1 b2 b3,bs[k]? = some b0∧bs[k+1]? = some b1∧bs[k+2]? = some b2∧bs[k+3]? = some b3∧bs.drop k=b0::b1::b2::b3::bs.drop (k+4):=by
 refine ⟨bs[k],bs[k+1],bs[k+2],bs[k+3],by simp,by simp,by simp,by simp,?_⟩
 rw [List.drop_eq_getElem_cons (by omega),List.drop_eq_getElem_cons (by omega),List.drop_eq_getElem_cons (by omega),List.drop_eq_getElem_cons (by omega)]
theorem D37 {R:Type} {x z:V} {bs:List Nat} (hx:x.els=bs.map nv) (hb:∀ b∈bs,b < 256) (hl:64≤bs.length):∀ (m j n:Nat) (l:List Nat) (k:C9L→Option R),j+m=16→l.length=j→m < n →
  Z9 (B7U R) n (.m x z (j:Int) (.l (l.reverse.map nv++List.replicate (48+m) (.i 0)))) k=k (.o x z 16 (.l ((J6 m (bs.drop (4 * j)) l).reverse.map nv++List.replicate 48 (.i 0)))):=by
 intro m
 induction m with
 | zero =>
  intro j n l k hj hlen hn
  obtain ⟨n,rfl⟩:∃ n',n=n'+1:=⟨n - 1,by omega⟩
  have:j=16:=by omega
  subst this
  rfl
 | succ m ih =>
  intro j n l k hj hlen hn
  obtain ⟨n,rfl⟩:∃ n',n=n'+1:=⟨n - 1,by omega⟩
  obtain ⟨b0,b1,b2,b3,g0,g1,g2,g3,gd⟩:=D36 (bs:=bs) (k:=4 * j) (by omega)
  have hxl:x.els.length=bs.length:=by rw [hx,D9C]
  have w0:J2 (4 * (j:Int))=((4 * j:Nat):Int):=by rw [N6 (by omega) (by omega)];push_cast;rfl
  have w1:J2 (J2 (4 * (j:Int))+1)=((4 * j+1:Nat):Int):=by rw [w0,N6 (by omega) (by omega)];push_cast;rfl
  have w2:J2 (J2 (4 * (j:Int))+2)=((4 * j+2:Nat):Int):=by rw [w0,N6 (by omega) (by omega)];push_cast;rfl
  have w3:J2 (J2 (4 * (j:Int))+3)=((4 * j+3:Nat):Int):=by rw [w0,N6 (by omega) (by omega)];push_cast;rfl
  have wj:J2 ((j:Int)+1)=((j+1:Nat):Int):=by rw [N6 (by omega) (by omega)];push_cast;rfl
  rw [Z9]
  show (bif H8 (j:Int) 16 then _ else _)=_
  rw [show H8 (j:Int) 16=true by simp [H8];omega,cond_true]
  simp only
  rw [w1,w2,w3,w0,hxl,P8 (by omega) (by omega),P8 (by omega) (by omega),P8 (by omega) (by omega),P8 (by omega) (by omega),P8 (by omega) (by omega),wj,B7W hx hb (by omega) g0 g1 g2 g3]
  have hput:=A50 (l:=l.reverse.map nv) (m:=48+m) (z:=.i 0) (y:=nv (((b0 * 256+b1) * 256+b2) * 256+b3))
  rw [D9C,List.length_reverse,hlen] at hput
  rw [show ((j:Int)).toNat=j from rfl,show 48+(m+1)=48+m+1 from rfl,show V.i ((((b0 * 256+b1) * 256+b2) * 256+b3:Nat):Int)=nv (((b0 * 256+b1) * 256+b2) * 256+b3) from rfl,hput]
  have hl2:l.reverse.map nv++[nv (((b0 * 256+b1) * 256+b2) * 256+b3)]=((((b0 * 256+b1) * 256+b2) * 256+b3)::l).reverse.map nv:=by simp
  rw [hl2,ih (j+1) n _ k (by omega) (by simp [hlen]) (by omega),gd]
  simp only [J6,N2]
  rfl
theorem A3I {l:List Nat} {r:List V} {q:Nat} (h:q < l.length):elV (.l (l.reverse.map nv++r)) ((l.length - 1 - q:Nat):Int)=((l.getD q 0:Nat):Int):=by
 unfold elV V.nth
 simp only [V.els]
 rw [show (((l.length - 1 - q:Nat):Int)).toNat=l.length - 1 - q from rfl,List.getD,List.getElem?_append_left (by simp;omega),List.getElem?_map,List.getElem?_reverse (by omega)]
 rw [show l.length - 1 - (l.length - 1 - q)=q by omega]
 simp [List.getD,h,nv,V.int]
theorem A2g:∀ (m:Nat) (bs acc:List Nat),(∀ b∈bs,b < 256)→(∀ a∈acc,a < N5)→4 * m≤bs.length→(∀ a∈J6 m bs acc,a < N5)∧(J6 m bs acc).length=m+acc.length:=by
 intro m
 induction m with
 | zero=>intro bs acc _ ha _;simp only [J6];exact ⟨ha,by simp⟩
 | succ m ih =>
  intro bs acc hb ha hl
  match bs,hb,hl with
  | b0::b1::b2::b3::r,hb,hl =>
   simp only [J6,N2]
   have l0:=hb b0 (by simp)
   have l1:=hb b1 (by simp)
   have l2:=hb b2 (by simp)
   have l3:=hb b3 (by simp)
   obtain ⟨p,q⟩:=ih r ((((b0 * 256+b1) * 256+b2) * 256+b3)::acc) (fun b h=>hb b (by simp [h])) (fun a h=>by
    rcases List.mem_cons.1 h with rfl | h
    ·show _ < 4294967296;omega
    ·exact ha a h) (by simp at hl;omega)
   exact ⟨p,by rw [q];simp;omega⟩
  | [],_,hl=>simp at hl
  | [_],_,hl=>simp at hl;omega
  | [_,_],_,hl=>simp at hl;omega
  | [_,_,_],_,hl=>simp at hl;omega
theorem A0W {l:List Nat} (h:∀ a∈l,a < N5) (q:Nat):l.getD q 0 < N5:=by
 rw [List.getD]
 cases hq:l[q]? with
 | none=>show 0 < N5;decide
 | some a=>exact h a (List.mem_of_getElem? hq)
theorem A7n:∀ (m:Nat) (l:List Nat),(∀ a∈l,a < N5)→(∀ a∈A1P m l,a < N5)∧(A1P m l).length=m+l.length:=by
 intro m
 induction m with
 | zero=>intro l h;simp only [A1P];exact ⟨h,by simp⟩
 | succ m ih =>
  intro l h
  simp only [A1P,N2]
  obtain ⟨p,q⟩:=ih (A3G l::l) (fun a ha=>by
   rcases List.mem_cons.1 ha with rfl | ha
   ·exact Nat.mod_lt _ (by decide)
   ·exact h a ha)
  exact ⟨p,by rw [q];simp;omega⟩
theorem D38 {R:Type} {z:V}:∀ (m n:Nat) (l:List Nat) (k:C9M→Option R),l.length+m=64→16≤l.length→(∀ a∈l,a < N5)→m < n →
  Z9 (B5i R) n (.m z (l.length:Int) (.l (l.reverse.map nv++List.replicate m (.i 0)))) k=k (.o z 64 (.l ((A1P m l).reverse.map nv))):=by
 intro m
 induction m with
 | zero =>
  intro n l k hj h16 hlt hn
  obtain ⟨n,rfl⟩:∃ n',n=n'+1:=⟨n - 1,by omega⟩
  have:l.length=64:=by omega
  rw [this]
  simp only [A1P,List.replicate_zero,List.append_nil]
  rfl
 | succ m ih =>
  intro n l k hj h16 hlt hn
  obtain ⟨n,rfl⟩:∃ n',n=n'+1:=⟨n - 1,by omega⟩
  have wi:∀ d:Nat,d≤16→J2 ((l.length:Int) - (d:Int))=((l.length - d:Nat):Int):=fun d hd=>by rw [N6 (by omega) (by omega)];omega
  have wj:J2 ((l.length:Int)+1)=((l.length+1:Nat):Int):=by rw [N6 (by omega) (by omega)];push_cast;rfl
  have e15:J2 ((l.length:Int) - 15)=((l.length - 1 - 14:Nat):Int):=(wi 15 (by omega)).trans (by omega)
  have e2:J2 ((l.length:Int) - 2)=((l.length - 1 - 1:Nat):Int):=(wi 2 (by omega)).trans (by omega)
  have e16:J2 ((l.length:Int) - 16)=((l.length - 1 - 15:Nat):Int):=(wi 16 (by omega)).trans (by omega)
  have e7:J2 ((l.length:Int) - 7)=((l.length - 1 - 6:Nat):Int):=(wi 7 (by omega)).trans (by omega)
  rw [Z9]
  show (bif H8 (l.length:Int) 64 then _ else _)=_
  rw [show H8 (l.length:Int) 64=true by simp [H8];omega,cond_true]
  simp only
  rw [e15,e2,e16,e7,P8 (by omega) (by omega),P8 (by omega) (by omega),P8 (by omega) (by omega),P8 (by omega) (by omega),P8 (by omega) (by omega),wj]
  rw [A3I (by omega),A3I (by omega),A3I (by omega),A3I (by omega),C9F (A0W hlt _),C9G (A0W hlt _)]
  have hput:=A50 (l:=l.reverse.map nv) (m:=m) (z:=.i 0) (y:=nv (A3G l))
  rw [D9C,List.length_reverse] at hput
  have hval:W32 (W32 (W32 (((l.getD 15 0:Nat):Int)+((l.getD 6 0:Nat):Int))+((sS0 (l.getD 14 0):Nat):Int))+((sS1 (l.getD 1 0):Nat):Int))=((A3G l:Nat):Int):=by
   rw [← Int.natCast_add,A4c,← Int.natCast_add,A4c,← Int.natCast_add,A4c]
   congr 1
   unfold A3G
   show _=_ % 4294967296
   omega
  rw [hval,show ((l.length:Int)).toNat=l.length from rfl,show V.i ((A3G l:Nat):Int)=nv (A3G l) from rfl,hput]
  have hl2:l.reverse.map nv++[nv (A3G l)]=(A3G l::l).reverse.map nv:=by simp
  rw [hl2]
  have:=ih n (A3G l::l) k (by simp;omega) (by simp;omega) (fun a ha=>by
   rcases List.mem_cons.1 ha with rfl | ha
   ·exact Nat.mod_lt _ (by decide)
   ·exact hlt a ha) (by omega)
  rw [D9G] at this
  rw [this]
  simp only [A1P,N2]
variable {T:TT} {R:Type} {P:Program}
theorem B3X {e:B6} {el:Nat} {kd:IntKind} (he:C3 T el=some (.int kd)) (hlo:lo kd=0):∀ {n:Nat} {xs:List V} {cs:List Value},RV T e (List.replicate n el) xs cs→∃ ns:List Nat,xs=ns.map nv∧∀ a∈ns,(a:Int)≤hi kd:=by
 intro n
 induction n with
 | zero=>intro xs cs h;cases h;exact ⟨[],rfl,fun a ha=>by cases ha⟩
 | succ n ih =>
  intro xs cs h
  rw [List.replicate_succ] at h
  cases xs with
  | nil=>cases h
  | cons x xs =>
   obtain ⟨d,r,rfl,g1,g2⟩:=h.cons_inv
   obtain ⟨m,rfl,_,hr⟩:=g1.int_inv he
   obtain ⟨ns,rfl,hn⟩:=ih g2
   unfold inR at hr
   rw [hlo] at hr
   refine ⟨m.toNat::ns,?_,fun a ha=>?_⟩
   ·simp only [List.map_cons,nv]
    rw [show ((m.toNat:Nat):Int)=m by omega]
   ·rcases List.mem_cons.1 ha with rfl | ha
    ·omega
    ·exact hn a ha
theorem RP.uncons {e:B6} {t:Nat} {ts:List Nat} {x:V} {xs:List V} {vs:List Value} (h:RP T e (t::ts) (x::xs) vs):∃ v vs',vs=v::vs'∧RV T e [t] [x] v.cells.toList∧RP T e ts xs vs':=by
 cases h with
 | cons h1 _ h2=>exact ⟨_,_,rfl,h1,h2⟩
theorem TV.head {t:Nat} {ts:List Nat} {x:V} {xs:List V} (h:TV T (t::ts) (x::xs)):∃ e cs,RV T e [t] [x] cs:=by
 obtain ⟨e,vs,h⟩:=h
 obtain ⟨v,vs',_,h1,_⟩:=h.uncons
 exact ⟨e,_,h1⟩
theorem TV.tail {t:Nat} {ts:List Nat} {x:V} {xs:List V} (h:TV T (t::ts) (x::xs)):TV T ts xs:=by
 obtain ⟨e,vs,h⟩:=h
 obtain ⟨v,vs',_,_,h2⟩:=h.uncons
 exact ⟨e,vs',h2⟩
theorem TV.len {ts:List Nat} {xs:List V} (h:TV T ts xs):xs.length=ts.length:=by
 obtain ⟨e,vs,h⟩:=h
 induction h with
 | nil=>rfl
 | cons _ _ _ ih=>simp [ih]
theorem A51 {t el:Nat} {kd:IntKind} {x:V} {e:B6} {cs:List Value} (ht:C3 T t=some (.slice el)) (he:C3 T el=some (.int kd)) (hlo:lo kd=0) (h:RV T e [t] [x] cs):∃ ns:List Nat,x.els=ns.map nv∧∀ a∈ns,(a:Int)≤hi kd:=by
 rcases h.slice_inv ht with ⟨rfl,_⟩ | ⟨ys,ds,a,cap,rfl,_,_,_,g⟩
 ·exact ⟨[],rfl,fun a ha=>by cases ha⟩
 ·exact B3X he hlo g
theorem C9Q {t n el:Nat} {kd:IntKind} {x:V} {e:B6} {cs:List Value} (ht:C3 T t=some (.arr n el)) (he:C3 T el=some (.int kd)) (hlo:lo kd=0) (h:RV T e [t] [x] cs):∃ ns:List Nat,x=.l (ns.map nv)∧ns.length=n∧∀ a∈ns,(a:Int)≤hi kd:=by
 obtain ⟨ys,rfl,hl,g⟩:=h.arr_inv ht
 obtain ⟨ns,rfl,hn⟩:=B3X he hlo g
 exact ⟨ns,rfl,by simpa using hl,hn⟩
theorem D39 {α:Type} (o:Option α):ob o some=o:=by cases o<;>rfl
theorem A1u (hm:P.follows .mixedOrders=true) (hT:H2 T P) {tab:List (Nat×H4)} (h:P4 P T tab) {f d fu:Nat} {Lo:Nat→LC} {sh:Bool} {ts:List Nat} {rk:List RK} {F:FC} {G:(R:Type)→List V→(List Rs→Option R)→Option R} (hFn:F.nat) (hts:ts.all (fun t=>(T t).isSome)=true)
  (hL:A1c P T f Lo)
  (hrun:∀ (R:Type) xs (k:List Rs→Option R),TV T ts xs→W6 P T (A0g P T tab false fu d) Lo false fu f R (A6 T ts xs) (fun _=>none) 0 (fun out=>ob (A7 T sh rk out) k)=G R xs k)
  (hG:∀ xs rs,TV T ts xs→F (List Rs) xs some=some rs→G (List Rs) xs some=some rs) :
  P4 P T ((f,A5 T sh ts F)::tab) :=
 B7P hm hT h hFn hts hL (fun xs rs htv hrs=>by
  have:=hG xs rs htv hrs
  rw [← hrun (List Rs) xs some htv] at this
  simpa only [D39] using this)
def stV (s:S8):V:=.l [nv s.a,nv s.b,nv s.c,nv s.d,nv s.e,nv s.f,nv s.g,nv s.h]
structure OkS (s:S8):Prop where
 a:s.a < N5
 b:s.b < N5
 c:s.c < N5
 d:s.d < N5
 e:s.e < N5
 f:s.f < N5
 g:s.g < N5
 h:s.h < N5
theorem A9o {s:S8} (h:OkS s) (k w:Nat):OkS (B2f s k w):=by
 unfold B2f
 simp only [N2]
 exact ⟨Nat.mod_lt _ (by decide),h.a,h.b,h.c,Nat.mod_lt _ (by decide),h.e,h.f,h.g⟩
theorem C9R {a:Nat} (h:a < N5):G4 .xor .u32 4294967295 (a:Int)=((4294967295 - a:Nat):Int):=by
 rw [show (4294967295:Int)=((4294967295:Nat):Int) from rfl,A5Y (by decide) h,C03 h]
theorem C09 {s:S8} (h:OkS s) {k w:Nat} (hk:k < N5) (hw:w < N5):D35 (stV s) (k:Int) (w:Int)=stV (B2f s k w):=by
 have hne:4294967295 - s.e < N5:=by show _ < 4294967296;omega
 have c1:and (s.e:Int) (s.f:Int)=((s.e &&& s.f:Nat):Int):=A5Z h.e h.f
 have c2:and ((4294967295 - s.e:Nat):Int) (s.g:Int)=(((4294967295 - s.e) &&& s.g:Nat):Int):=A5Z hne h.g
 have hch:xor (and (s.e:Int) (s.f:Int)) (and (G4 .xor .u32 4294967295 (s.e:Int)) (s.g:Int))=((chN s.e s.f s.g:Nat):Int):=by
  rw [C9R h.e,c1,c2,A0N (Q2 h.e) (Q2 hne)];rfl
 have hb1:xor (xor (rot (s.e:Int) 6) (rot (s.e:Int) 11)) (rot (s.e:Int) 25)=((bS1 s.e:Nat):Int):=by
  rw [A1f h.e,A1f h.e,A1f h.e,A0N (C1 h.e) (C1 h.e),A0N (N7 (C1 h.e) (C1 h.e)) (C1 h.e)];rfl
 have hb0:xor (xor (rot (s.a:Int) 2) (rot (s.a:Int) 13)) (rot (s.a:Int) 22)=((bS0 s.a:Nat):Int):=by
  rw [A1f h.a,A1f h.a,A1f h.a,A0N (C1 h.a) (C1 h.a),A0N (N7 (C1 h.a) (C1 h.a)) (C1 h.a)];rfl
 have hmaj:xor (xor (and (s.a:Int) (s.b:Int)) (and (s.a:Int) (s.c:Int))) (and (s.b:Int) (s.c:Int))=((B2e s.a s.b s.c:Nat):Int):=by
  rw [A5Z h.a h.b,A5Z h.a h.c,A5Z h.b h.c,A0N (Q2 h.a) (Q2 h.a),A0N (N7 (Q2 h.a) (Q2 h.a)) (Q2 h.b)];rfl
 have ht:W32 (W32 (W32 (W32 ((s.h:Int)+xor (xor (rot (s.e:Int) 6) (rot (s.e:Int) 11)) (rot (s.e:Int) 25))+xor (and (s.e:Int) (s.f:Int)) (and (G4 .xor .u32 4294967295 (s.e:Int)) (s.g:Int)))+(k:Int))+(w:Int))=(((s.h+bS1 s.e+chN s.e s.f s.g+k+w) % 4294967296:Nat):Int):=by
  rw [hb1,hch,← Int.natCast_add,A4c,← Int.natCast_add,A4c,← Int.natCast_add,A4c,← Int.natCast_add,A4c]
  congr 1;omega
 have hu:W32 (xor (xor (rot (s.a:Int) 2) (rot (s.a:Int) 13)) (rot (s.a:Int) 22)+xor (xor (and (s.a:Int) (s.b:Int)) (and (s.a:Int) (s.c:Int))) (and (s.b:Int) (s.c:Int)))=(((bS0 s.a+B2e s.a s.b s.c) % 4294967296:Nat):Int):=by
  rw [hb0,hmaj,← Int.natCast_add,A4c]
 show V.l [.i (W32 (W32 (W32 (W32 (W32 ((s.h:Int)+xor (xor (rot (s.e:Int) 6) (rot (s.e:Int) 11)) (rot (s.e:Int) 25))+xor (and (s.e:Int) (s.f:Int)) (and (G4 .xor .u32 4294967295 (s.e:Int)) (s.g:Int)))+(k:Int))+(w:Int))+W32 (xor (xor (rot (s.a:Int) 2) (rot (s.a:Int) 13)) (rot (s.a:Int) 22)+xor (xor (and (s.a:Int) (s.b:Int)) (and (s.a:Int) (s.c:Int))) (and (s.b:Int) (s.c:Int))))),.i s.a,.i s.b,.i s.c,.i (W32 ((s.d:Int)+W32 (W32 (W32 (W32 ((s.h:Int)+xor (xor (rot (s.e:Int) 6) (rot (s.e:Int) 11)) (rot (s.e:Int) 25))+xor (and (s.e:Int) (s.f:Int)) (and (G4 .xor .u32 4294967295 (s.e:Int)) (s.g:Int)))+(k:Int))+(w:Int)))),.i s.e,.i s.f,.i s.g]=_
 rw [ht,hu,← Int.natCast_add,← Int.natCast_add,A4c,A4c]
 unfold B2f stV
 simp only [N2,nv]
 refine congrArg V.l ?_
 congr 1
 ·congr 1;congr 1;show _=_ % 4294967296;omega
 ·congr 3
  congr 1
  congr 1;congr 1;show _=_ % 4294967296;omega
theorem A52 {l:List Nat} {j:Nat} (h:j < l.length):elV (.l (l.map nv)) (j:Int)=((l[j]:Nat):Int):=by
 unfold elV V.nth
 simp only [V.els]
 rw [show ((j:Int)).toNat=j from rfl,List.getD,List.getElem?_map,D9L h]
 rfl
theorem D4a {s z:V} {K W:List Nat} (hK:K.length=64) (hW:W.length=64) (kK:∀ a∈K,a < N5) (kW:∀ a∈W,a < N5):∀ (m j n:Nat) (x:S8) (k:C9N→Option R),j+m=64→OkS x→m < n →
  Z9 (B7V R) n (.m s z (.l (W.map nv)) (.l (K.map nv)) (stV x) (j:Int)) k=k (.o s z (.l (W.map nv)) (.l (K.map nv)) (stV (A7l (K.drop j) (W.drop j) x)) 64):=by
 intro m
 induction m with
 | zero =>
  intro j n x k hj hx hn
  obtain ⟨n,rfl⟩:∃ n',n=n'+1:=⟨n - 1,by omega⟩
  have:j=64:=by omega
  subst this
  rw [List.drop_of_length_le (by omega),List.drop_of_length_le (by omega)]
  rfl
 | succ m ih =>
  intro j n x k hj hx hn
  obtain ⟨n,rfl⟩:∃ n',n=n'+1:=⟨n - 1,by omega⟩
  have wj:J2 ((j:Int)+1)=((j+1:Nat):Int):=by rw [N6 (by omega) (by omega)];push_cast;rfl
  rw [Z9]
  show (bif H8 (j:Int) 64 then _ else _)=_
  rw [show H8 (j:Int) 64=true by simp [H8];omega,cond_true]
  simp only
  rw [P8 (by omega) (by omega),P8 (by omega) (by omega),wj,A52 (by omega),A52 (by omega),C09 hx (kK _ (List.getElem_mem ..)) (kW _ (List.getElem_mem ..)),ih (j+1) n _ k (by omega) (A9o hx _ _) (by omega)]
  rw [List.drop_eq_getElem_cons (show j < K.length by omega),List.drop_eq_getElem_cons (show j < W.length by omega)]
  rfl
theorem C1a {s x:S8}:OkS (B2g s x):=by
 unfold B2g
 simp only [N2]
 exact ⟨Nat.mod_lt _ (by decide),Nat.mod_lt _ (by decide),Nat.mod_lt _ (by decide),Nat.mod_lt _ (by decide),Nat.mod_lt _ (by decide),Nat.mod_lt _ (by decide),Nat.mod_lt _ (by decide),Nat.mod_lt _ (by decide)⟩
theorem D4b {s x:S8} {z:V} {n:Nat} {k:C9O→Option R} :
  Z9 (B2k R) (n+9) (.m (stV s) z (stV x) 0) k=k (.o (stV (B2g s x)) z (stV x) 8):=by
 have h1:Z9 (B2k R) (n+9) (.m (stV s) z (stV x) 0) k=k (.o (.l [.i (W32 ((s.a:Int)+(x.a:Int))),.i (W32 ((s.b:Int)+(x.b:Int))),.i (W32 ((s.c:Int)+(x.c:Int))),.i (W32 ((s.d:Int)+(x.d:Int))),.i (W32 ((s.e:Int)+(x.e:Int))),.i (W32 ((s.f:Int)+(x.f:Int))),.i (W32 ((s.g:Int)+(x.g:Int))),.i (W32 ((s.h:Int)+(x.h:Int)))]) z (stV x) 8):=by kernel_rfl
 rw [h1]
 simp only [← Int.natCast_add,A4c]
 unfold B2g stV
 simp only [N2]
 rfl
variable {T:TT} {R:Type} {P:Program}
def z64:V:=.l (List.replicate 64 (.i 0))
def z8:V:=.l (List.replicate 8 (.i 0))
def A2h:V:=.l (A7m.map nv)
def A53 (x:V):List Nat:=x.els.map fun v=>v.int.toNat
def spW (x:V):V:=.l ((A1P 48 (J6 16 (A53 x) [])).reverse.map nv)
def s8 (x:V):S8:=⟨(x.nth 0).int.toNat,(x.nth 1).int.toNat,(x.nth 2).int.toNat,(x.nth 3).int.toNat,(x.nth 4).int.toNat,(x.nth 5).int.toNat,(x.nth 6).int.toNat,(x.nth 7).int.toNat⟩
def C9S (s b:V):V:=stV (A6W (s8 s) (A53 b))
def Fsp (t:Nat):FC:=fun R xs k=>match xs with
 | [x]=>bif Nat.ble 64 x.els.length then k [.d t (spW x)] else none
 | _=>none
def Fmx (t:Nat):FC:=fun R xs k=>match xs with
 | [s,b]=>bif Nat.ble 64 b.els.length then k [.d t (C9S s b)] else none
 | _=>none
theorem C1b (t:Nat):FC.nat (Fsp t):=by
 intro R xs k
 unfold Fsp
 split
 ·rename_i x;cases Nat.ble 64 x.els.length<;>rfl
 ·rfl
theorem C1c (t:Nat):FC.nat (Fmx t):=by
 intro R xs k
 unfold Fmx
 split
 ·rename_i s b;cases Nat.ble 64 b.els.length<;>rfl
 ·rfl
theorem A2A {x:V} {bs:List Nat} (hx:x.els=bs.map nv):A53 x=bs:=by
 unfold A53
 rw [hx,List.map_map]
 conv=>rhs;rw [← List.map_id bs]
 apply List.map_congr_left
 intro a _
 rfl
theorem B2m {x:V} {bs:List Nat} (hx:x.els=bs.map nv) (hb:∀ b∈bs,b < 256) (hl:64≤bs.length) {n:Nat} (hn:64 < n) (k:V→Option R) :
  Z9 (B7U R) n (.m x z64 0 z64) (fun | .o _ z _ w=>Z9 (B5i R) n (.m z 16 w) (fun | .o _ _ w=>k w))=k (spW x):=by
 have h1:=D37 (R:=R) (z:=z64) hx hb hl 16 0 n [] (fun | .o _ z _ w=>Z9 (B5i R) n (.m z 16 w) (fun | .o _ _ w=>k w)) rfl rfl (by omega)
 obtain ⟨w1,w2⟩:=A2g 16 bs [] hb (fun a h=>by cases h) (by omega)
 have h2:=D38 (R:=R) (z:=z64) 48 n (J6 16 bs []) (fun | .o _ _ w=>k w) (by rw [w2];rfl) (by rw [w2];simp) w1 (by omega)
 rw [w2] at h2
 refine h1.trans (Eq.trans ?_ (h2.trans ?_))
 ·rfl
 ·show k _=_
  unfold spW
  rw [A2A hx]
theorem B0I:∀ a∈A7m,a < N5:=by decide
theorem C9T (s:S8):s8 (stV s)=s:=rfl
theorem C1d {s:S8} {b:V} {bs:List Nat} (hs:OkS s) (hx:b.els=bs.map nv) (hb:∀ b∈bs,b < 256) (hl:64≤bs.length) {n:Nat} (hn:64 < n) (k:V→Option R) :
  Z9 (B7V R) n (.m (stV s) z8 (spW b) A2h (stV s) 0) (fun | .o s z _ _ x _=>Z9 (B2k R) n (.m s z x 0) (fun | .o s _ _ _=>k s))=k (C9S (stV s) b):=by
 obtain ⟨w1,w2⟩:=A2g 16 bs [] hb (fun a h=>by cases h) (by omega)
 obtain ⟨c1,c2⟩:=A7n 48 (J6 16 bs []) w1
 have h1:=D4a (R:=R) (s:=stV s) (z:=z8) (K:=A7m) (W:=(A1P 48 (J6 16 bs [])).reverse) rfl (by rw [List.length_reverse,c2,w2];rfl) B0I (fun a h=>c1 a (List.mem_reverse.1 h)) 64 0 n s
  (fun | .o s z _ _ x _=>Z9 (B2k R) n (.m s z x 0) (fun | .o s _ _ _=>k s)) rfl hs (by omega)
 have hsp:spW b=.l ((A1P 48 (J6 16 bs [])).reverse.map nv):=by unfold spW;rw [A2A hx]
 rw [hsp]
 refine h1.trans ?_
 obtain ⟨n,rfl⟩:∃ n',n=n'+9:=⟨n - 9,by omega⟩
 refine D4b.trans ?_
 show k _=k _
 unfold C9S A6W
 rw [C9T,A2A hx]
 rfl
theorem C9U {ns:List Nat} (hl:ns.length=8) (h:∀ a∈ns,(a:Int)≤4294967295):∃ s,V.l (ns.map nv)=stV s∧OkS s:=by
 match ns,hl with
 | [a,b,c,d,e,f,g,i],_ =>
  have q:∀ x∈[a,b,c,d,e,f,g,i],x < N5:=fun x hx=>by have:=h x hx;show x < 4294967296;omega
  exact ⟨⟨a,b,c,d,e,f,g,i⟩,rfl,⟨q _ (by simp),q _ (by simp),q _ (by simp),q _ (by simp),q _ (by simp),q _ (by simp),q _ (by simp),q _ (by simp)⟩⟩
theorem B3Y {bs:List Nat} (h:∀ a∈bs,(a:Int)≤hi .u8):∀ b∈bs,b < 256:=fun b hb=>by have:=h b hb;simp only [hi] at this;omega
variable {T:TT} {R:Type} {P:Program}
abbrev ln {R:Type} (n:Nat) (k:Option R):Option R:=bif Nat.ble n 9223372036854775807 then k else none
abbrev lim {R:Type} (n:Nat) (k:Option R):Option R:=bif Nat.ble n LIM then k else none
def gtL (l:List V) (i:Int):Int:=(l.getD i.toNat .n).int
def U6 (a b:Int):Int:=G4 .xor .u64 a b
def A1v (a b:Int):Int:=G4 .and .u64 a b
def rtU (x:Int) (n:Nat):Int:=(G4 .or .u64 (x.fdiv (2 ^ n)) (WU (x * 2 ^ (32 - n)))).tmod 4294967296
def C9V (x:Int):Int:=U6 (U6 (rtU x 7) (rtU x 18)) (x.fdiv (2 ^ 3))
def C9W (x:Int):Int:=U6 (U6 (rtU x 17) (rtU x 19)) (x.fdiv (2 ^ 10))
def B7X (xs:List V) (i:Int):Int:=WU (WU (256 * WU (WU (256 * WU (WU (256 * WU (WU (256 * 0)+WU (gtL xs (J2 (i+0)))))+WU (gtL xs (J2 (i+1)))))+WU (gtL xs (J2 (i+2)))))+WU (gtL xs (J2 (i+3))))
def sh8:Nat→V→V
 | 0,x=>x
 | j+1,x=>sh8 j (x.put (j+1) (.i (elV x j)))
def D4c (x:V) (k w:Int):V :=
 let e:=elV x 4
 let a:=elV x 0
 let t:=(WU (WU (WU (WU (elV x 7+U6 (U6 (rtU e 6) (rtU e 11)) (rtU e 25))+U6 (A1v e (elV x 5)) (A1v (WU (4294967295 - e)) (elV x 6)))+k)+w)).tmod 4294967296
 let small:=U6 (U6 (rtU a 2) (rtU a 13)) (rtU a 22)
 let most:=U6 (U6 (A1v a (elV x 1)) (A1v a (elV x 2))) (A1v (elV x 1) (elV x 2))
 let y:=(sh8 7 x).put 4 (.i ((WU (elV (sh8 7 x) 4+t)).tmod 4294967296))
 y.put 0 (.i ((WU (WU (t+small)+most)).tmod 4294967296))
def ad8:Nat→Nat→V→V→V
 | 0,_,v,_=>v
 | m+1,j,v,x=>ad8 m (j+1) (v.put j (.i ((WU (elV v j+elV x j)).tmod 4294967296))) x
inductive C1e where
 | m (b:V) (xs:List V)
inductive C9X where
 | o (b:V) (xs:List V)
def C1f (R:Type) (p:C1e) (K:C1e→Option R) (kx:C9X→Option R):Option R :=
 match p with
 | .m b xs =>
  ln xs.length <| bif !(ieq ((xs.length:Int).tmod 64) 56) then lim (xs.length+1) <| K (.m b (xs++[.i 0])) else kx (.o b xs)
inductive C1g where
 | m (z:V) (v:V) (xs:List V) (kk:V) (at_:Int) (ws:List V) (i:Int)
inductive B7Y where
 | o (z:V) (v:V) (xs:List V) (kk:V) (at_:Int) (ws:List V) (i:Int)
def B2n (R:Type) (p:C1g) (K:C1g→Option R) (kx:B7Y→Option R):Option R :=
 match p with
 | .m z v xs kk at_ ws i =>
  bif H8 i 64 then
   (bif H8 i 16 then
    ck (J2 (J2 (at_+J2 (4 * i))+0)) xs.length <| ck (J2 (J2 (at_+J2 (4 * i))+1)) xs.length <| ck (J2 (J2 (at_+J2 (4 * i))+2)) xs.length <| ck (J2 (J2 (at_+J2 (4 * i))+3)) xs.length <|
    lim (ws.length+1) <| K (.m z v xs kk at_ (ws++[.i (B7X xs (J2 (at_+J2 (4 * i))))]) (J2 (i+1)))
   else
    ck (J2 (i - 15)) ws.length <| ck (J2 (i - 15)) ws.length <| ck (J2 (i - 15)) ws.length <| ck (J2 (i - 2)) ws.length <| ck (J2 (i - 2)) ws.length <| ck (J2 (i - 2)) ws.length <|
    ck (J2 (i - 16)) ws.length <| ck (J2 (i - 7)) ws.length <| lim (ws.length+1) <|
    K (.m z v xs kk at_ (ws++[.i ((WU (WU (WU (gtL ws (J2 (i - 16))+C9V (gtL ws (J2 (i - 15))))+gtL ws (J2 (i - 7)))+C9W (gtL ws (J2 (i - 2))))).tmod 4294967296)]) (J2 (i+1))))
  else kx (.o z v xs kk at_ ws i)
inductive C1h where
 | m (z:V) (v:V) (xs:List V) (kk:V) (at_:Int) (ws:List V) (x:V) (i:Int)
inductive C1i where
 | o (z:V) (v:V) (xs:List V) (kk:V) (at_:Int) (ws:List V) (x:V) (i:Int)
def B7Z (R:Type) (p:C1h) (K:C1h→Option R) (kx:C1i→Option R):Option R :=
 match p with
 | .m z v xs kk at_ ws x i =>
  bif H8 i 64 then ck i 64 <| ck i ws.length <| K (.m z v xs kk at_ ws (D4c x (elV kk i) (gtL ws i)) (J2 (i+1))) else kx (.o z v xs kk at_ ws x i)
inductive C1j where
 | m (z:V) (v:V) (xs:List V) (kk:V) (at_:Int)
inductive C9Y where
 | o (z:V) (v:V) (xs:List V) (kk:V) (at_:Int)
def C1k (R:Type) (p:C1j) (K:C1j→Option R) (kx:C9Y→Option R):Option R :=
 match p with
 | .m z v xs kk at_ =>
  ln xs.length <| bif H8 at_ xs.length then
   Z9 (B2n R) (A4 FU) (.m z v xs kk at_ [] 0) (fun | .o z v xs kk at_ ws _=>Z9 (B7Z R) (A4 FU) (.m z v xs kk at_ ws v 0) (fun | .o z v xs kk at_ _ x _=>K (.m z (ad8 8 0 v x) xs kk (J2 (at_+64)))))
  else kx (.o z v xs kk at_)
variable {T:TT} {R:Type} {P:Program}
def bt (n:Int) (j:Nat):V:=.i (IntKind.wrap .u8 ((n.fdiv (2 ^ (8 * j))).tmod 256))
def ap8 {R:Type} (n:Int):Nat→List V→(List V→Option R)→Option R
 | 0,xs,k=>k xs
 | j+1,xs,k=>lim (xs.length+1) <| ap8 n j (xs++[bt n j]) k
theorem A4d {n:Nat} {k:Option R} (h:n≤1073741824):lim n k=k:=by
 unfold lim LIM
 rw [D9I h];rfl
theorem B0J {n:Nat} {k:Option R} (h:n≤9223372036854775807):ln n k=k:=by
 unfold ln
 rw [D9I h];rfl
theorem A3J (a b:Nat):(a:Int).tmod (b:Int)=((a % b:Nat):Int):=rfl
theorem C1l {a b:Int} (h:a=b):ieq a b=true:=Y4.2 h
theorem C9Z {a b:Int} (h:a≠b):ieq a b=false:=by
 cases hq:ieq a b with
 | false=>rfl
 | true=>exact absurd (Y4.1 hq) h
theorem D4d {b:V}:∀ (m n:Nat) (xs:List V) (k:C9X→Option R),(xs.length+m) % 64=56→m < 64→xs.length+m≤1073741824→m < n →
  Z9 (C1f R) n (.m b xs) k=k (.o b (xs++List.replicate m (.i 0))):=by
 intro m
 induction m with
 | zero =>
  intro n xs k h1 h2 h3 h4
  obtain ⟨n,rfl⟩:∃ n',n=n'+1:=⟨n - 1,by omega⟩
  rw [Z9]
  show ln xs.length (bif !(ieq ((xs.length:Int).tmod 64) 56) then _ else _)=_
  rw [B0J (by omega),show (64:Int)=((64:Nat):Int) from rfl,A3J,C1l (by omega)]
  simp
 | succ m ih =>
  intro n xs k h1 h2 h3 h4
  obtain ⟨n,rfl⟩:∃ n',n=n'+1:=⟨n - 1,by omega⟩
  rw [Z9]
  show ln xs.length (bif !(ieq ((xs.length:Int).tmod 64) 56) then lim (xs.length+1) _ else _)=_
  rw [B0J (by omega),show (64:Int)=((64:Nat):Int) from rfl,A3J,C9Z (by omega),A4d (by omega)]
  simp only [Bool.not_false,cond_true]
  rw [ih n (xs++[V.i 0]) k (by simp;omega) (by omega) (by simp;omega) (by omega)]
  simp [List.replicate_succ]
theorem D4e {n:Nat} (j:Nat):bt (n:Int) j=nv (n / 2 ^ (8 * j) % 256):=by
 unfold bt
 rw [A0M,Nat.shiftRight_eq_div_pow,show (256:Int)=((256:Nat):Int) from rfl,A3J]
 have:IntKind.wrap .u8 ((n / 2 ^ (8 * j) % 256:Nat):Int)=((n / 2 ^ (8 * j) % 256:Nat):Int):=by
  have hl:n / 2 ^ (8 * j) % 256 < 256:=Nat.mod_lt _ (by decide)
  unfold IntKind.wrap
  simp [IntKind.bits,IntKind.signed]
 rw [this];rfl
theorem C90 {n:Int}:∀ (j:Nat) (xs:List V) (k:List V→Option R),xs.length+j≤1073741824→ap8 n j xs k=k (xs++((List.range j).reverse.map (bt n))):=by
 intro j
 induction j with
 | zero=>intro xs k h;simp [ap8]
 | succ j ih =>
  intro xs k h
  rw [ap8,A4d (by omega),ih _ _ (by simp;omega)]
  simp [List.range_succ]
def Gpd (el:Nat):FC:=fun R xs k=>match xs with
 | [b]=>lim (([]:List V).length+b.els.length) <| lim (b.els.length+1) <| Z9 (C1f R) (A4 FU) (.m b (b.els++[.i 128])) (fun | .o b xs=>ln b.els.length <| ap8 (WU (WU b.els.length * 8)) 8 xs fun xs=>k [.r el xs false])
 | _=>none
def Fpd (el:Nat):FC:=fun R xs k=>match xs with
 | [b]=>bif Nat.ble b.els.length 1000000000 then k [.r el (b.els++(A4b b.els.length).map nv) false] else none
 | _=>none
theorem C1m (el:Nat):FC.nat (Fpd el):=by
 intro R xs k
 unfold Fpd
 split
 ·rename_i b;cases Nat.ble b.els.length 1000000000<;>rfl
 ·rfl
theorem HID:64 < A4 FU:=by rw [A9m];decide
theorem C91 (el:Nat) {b:V} {rs:List Rs} (h:Fpd el (List Rs) [b] some=some rs):Gpd el (List Rs) [b] some=some rs:=by
 simp only [Fpd] at h
 cases hl:Nat.ble b.els.length 1000000000 with
 | false=>rw [hl] at h;cases h
 | true =>
  rw [hl] at h
  have hl:=D9E hl
  simp only [Gpd]
  have HID:=HID
  rw [A4d (by simp;omega),A4d (by omega),D4d ((119 - b.els.length % 64) % 64) (A4 FU) (b.els++[V.i 128]) _ (by simp;omega) (by omega) (by simp;omega) (by omega)]
  simp only
  rw [B0J (by omega),C90 _ _ _ (by simp;omega)]
  have hw:WU (WU (b.els.length:Int) * 8)=((8 * b.els.length:Nat):Int):=by
   rw [E4 (by omega),show ((b.els.length:Int) * 8)=((8 * b.els.length:Nat):Int) by push_cast;omega,E4 (by omega)]
  rw [hw]
  refine Eq.trans ?_ h
  simp only [cond_true]
  congr 3
  unfold A4b
  generalize 8 * b.els.length=N
  rw [show (List.range 8).reverse=[7,6,5,4,3,2,1,0] from rfl]
  simp only [List.map_cons,List.map_append,List.append_assoc,List.map_replicate,List.cons_append,List.nil_append,List.map_nil,D4e,Nat.mul_zero,Nat.pow_zero,Nat.div_one]
  rfl
variable {T:TT} {R:Type} {P:Program}
theorem A4e {a:Nat} (h:a < N5):a < 18446744073709551616:=Nat.lt_of_lt_of_le h (by decide)
theorem W5 {a b:Nat} (ha:a < N5) (hb:b < N5):U6 (a:Int) (b:Int)=((a ^^^ b:Nat):Int):=B2j (A4e ha) (A4e hb)
theorem A3K {a b:Nat} (ha:a < N5) (hb:b < N5):A1v (a:Int) (b:Int)=((a &&& b:Nat):Int):=B2i (A4e ha) (A4e hb)
theorem A1g {a n:Nat} (h:a < N5) (hn:0 < n) (hn2:n < 32):rtU (a:Int) n=((A2M a n:Nat):Int):=by
 unfold rtU A2M
 have h2:a <<< (32 - n) < 18446744073709551616:=by
  rw [Nat.shiftLeft_eq]
  have:2 ^ (32 - n)≤2 ^ 32:=Nat.pow_le_pow_right (by decide) (by omega)
  have h3:a * 2 ^ (32 - n)≤a * 2 ^ 32:=Nat.mul_le_mul_left _ this
  have h':a < 4294967296:=h
  omega
 rw [A3H,A0M,E4 h2,B5h (A4e (A1e h)) h2,show (4294967296:Int)=((4294967296:Nat):Int) from rfl,A3J]
 congr 1
 rw [show (4294967296:Nat)=2 ^ 32 from rfl,Nat.or_mod_two_pow,show N5=2 ^ 32 from rfl,Nat.mod_eq_of_lt (show a >>> n < 2 ^ 32 from A1e h)]
theorem C1n {a:Nat} (h:a < N5):C9V (a:Int)=((sS0 a:Nat):Int):=by
 unfold C9V sS0
 rw [A1g h (by decide) (by decide),A1g h (by decide) (by decide),A0M,W5 (C1 h) (C1 h),W5 (N7 (C1 h) (C1 h)) (A1e h)]
theorem C1o {a:Nat} (h:a < N5):C9W (a:Int)=((sS1 a:Nat):Int):=by
 unfold C9W sS1
 rw [A1g h (by decide) (by decide),A1g h (by decide) (by decide),A0M,W5 (C1 h) (C1 h),W5 (N7 (C1 h) (C1 h)) (A1e h)]
theorem C92 {a b c:Nat} (ha:a < N5):chN a b c < N5:=by
 unfold chN
 have:4294967295 - a < N5:=by show _ < 4294967296;omega
 exact N7 (Q2 ha) (Q2 this)
theorem C1p {a b c:Nat} (ha:a < N5) (hb:b < N5):B2e a b c < N5:=by
 unfold B2e
 exact N7 (N7 (Q2 ha) (Q2 ha)) (Q2 hb)
theorem B70 (n:Nat):(n:Int).tmod 4294967296=((n % 4294967296:Nat):Int):=rfl
theorem C1q {s:S8} (h:OkS s) {k w:Nat} (hk:k < N5) (hw:w < N5):D4c (stV s) (k:Int) (w:Int)=stV (B2f s k w):=by
 have hne:4294967295 - s.e < N5:=by show _ < 4294967296;omega
 have hb1:U6 (U6 (rtU (s.e:Int) 6) (rtU (s.e:Int) 11)) (rtU (s.e:Int) 25)=((bS1 s.e:Nat):Int):=by
  rw [A1g h.e (by decide) (by decide),A1g h.e (by decide) (by decide),A1g h.e (by decide) (by decide),W5 (C1 h.e) (C1 h.e),W5 (N7 (C1 h.e) (C1 h.e)) (C1 h.e)];rfl
 have hb0:U6 (U6 (rtU (s.a:Int) 2) (rtU (s.a:Int) 13)) (rtU (s.a:Int) 22)=((bS0 s.a:Nat):Int):=by
  rw [A1g h.a (by decide) (by decide),A1g h.a (by decide) (by decide),A1g h.a (by decide) (by decide),W5 (C1 h.a) (C1 h.a),W5 (N7 (C1 h.a) (C1 h.a)) (C1 h.a)];rfl
 have hch:U6 (A1v (s.e:Int) (s.f:Int)) (A1v (WU (4294967295 - (s.e:Int))) (s.g:Int))=((chN s.e s.f s.g:Nat):Int):=by
  have he:s.e < 4294967296:=h.e
  rw [show (4294967295 - (s.e:Int))=((4294967295 - s.e:Nat):Int) by omega,E4 (A4e hne),A3K h.e h.f,A3K hne h.g,W5 (Q2 h.e) (Q2 hne)];rfl
 have hmaj:U6 (U6 (A1v (s.a:Int) (s.b:Int)) (A1v (s.a:Int) (s.c:Int))) (A1v (s.b:Int) (s.c:Int))=((B2e s.a s.b s.c:Nat):Int):=by
  rw [A3K h.a h.b,A3K h.a h.c,A3K h.b h.c,W5 (Q2 h.a) (Q2 h.a),W5 (N7 (Q2 h.a) (Q2 h.a)) (Q2 h.b)];rfl
 have l1:s.h < 4294967296:=h.h
 have l2:bS1 s.e < 4294967296:=C9K h.e
 have l3:chN s.e s.f s.g < 4294967296:=C92 h.e
 have l4:bS0 s.a < 4294967296:=C9J h.a
 have l5:B2e s.a s.b s.c < 4294967296:=C1p h.a h.b
 have l6:s.d < 4294967296:=h.d
 have hk:k < 4294967296:=hk
 have hw:w < 4294967296:=hw
 have ht:(WU (WU (WU (WU ((s.h:Int)+U6 (U6 (rtU (s.e:Int) 6) (rtU (s.e:Int) 11)) (rtU (s.e:Int) 25))+U6 (A1v (s.e:Int) (s.f:Int)) (A1v (WU (4294967295 - (s.e:Int))) (s.g:Int)))+(k:Int))+(w:Int))).tmod 4294967296=(((s.h+bS1 s.e+chN s.e s.f s.g+k+w) % 4294967296:Nat):Int):=by
  rw [hb1,hch,← Int.natCast_add,E4 (by omega),← Int.natCast_add,E4 (by omega),← Int.natCast_add,E4 (by omega),← Int.natCast_add,E4 (by omega),B70]
 show V.l [.i ((WU (WU ((WU (WU (WU (WU ((s.h:Int)+U6 (U6 (rtU (s.e:Int) 6) (rtU (s.e:Int) 11)) (rtU (s.e:Int) 25))+U6 (A1v (s.e:Int) (s.f:Int)) (A1v (WU (4294967295 - (s.e:Int))) (s.g:Int)))+(k:Int))+(w:Int))).tmod 4294967296+U6 (U6 (rtU (s.a:Int) 2) (rtU (s.a:Int) 13)) (rtU (s.a:Int) 22))+U6 (U6 (A1v (s.a:Int) (s.b:Int)) (A1v (s.a:Int) (s.c:Int))) (A1v (s.b:Int) (s.c:Int)))).tmod 4294967296),
  .i s.a,.i s.b,.i s.c,.i ((WU ((s.d:Int)+(WU (WU (WU (WU ((s.h:Int)+U6 (U6 (rtU (s.e:Int) 6) (rtU (s.e:Int) 11)) (rtU (s.e:Int) 25))+U6 (A1v (s.e:Int) (s.f:Int)) (A1v (WU (4294967295 - (s.e:Int))) (s.g:Int)))+(k:Int))+(w:Int))).tmod 4294967296)).tmod 4294967296),.i s.e,.i s.f,.i s.g]=_
 rw [ht,hb0,hmaj,← Int.natCast_add,E4 (by omega),← Int.natCast_add,E4 (by omega),B70,← Int.natCast_add,E4 (by omega),B70]
 unfold B2f stV
 simp only [N2,nv]
 refine congrArg V.l ?_
 congr 1
 ·congr 1;congr 1;show _=_ % 4294967296;omega
 ·congr 3
  congr 1
  congr 1;congr 1;show _=_ % 4294967296;omega
theorem C93 {s x:S8} (hs:OkS s) (hx:OkS x):ad8 8 0 (stV s) (stV x)=stV (B2g s x):=by
 have q:∀ a b:Nat,a < N5→b < N5→(WU ((a:Int)+(b:Int))).tmod 4294967296=(((a+b) % N5:Nat):Int):=fun a b ha hb=>by
  have ha:a < 4294967296:=ha
  have hb:b < 4294967296:=hb
  rw [← Int.natCast_add,E4 (by omega),B70]
 show V.l [.i ((WU ((s.a:Int)+(x.a:Int))).tmod 4294967296),.i ((WU ((s.b:Int)+(x.b:Int))).tmod 4294967296),.i ((WU ((s.c:Int)+(x.c:Int))).tmod 4294967296),.i ((WU ((s.d:Int)+(x.d:Int))).tmod 4294967296),.i ((WU ((s.e:Int)+(x.e:Int))).tmod 4294967296),.i ((WU ((s.f:Int)+(x.f:Int))).tmod 4294967296),.i ((WU ((s.g:Int)+(x.g:Int))).tmod 4294967296),.i ((WU ((s.h:Int)+(x.h:Int))).tmod 4294967296)]=_
 rw [q _ _ hs.a hx.a,q _ _ hs.b hx.b,q _ _ hs.c hx.c,q _ _ hs.d hx.d,q _ _ hs.e hx.e,q _ _ hs.f hx.f,q _ _ hs.g hx.g,q _ _ hs.h hx.h]
 unfold B2g stV
 simp only [N2]
 rfl
theorem A54 {l:List Nat} {j a:Nat} (h:l[j]? = some a):gtL (l.map nv) (j:Int)=(a:Int):=by
 unfold gtL
 rw [show ((j:Int)).toNat=j from rfl,List.getD,List.getElem?_map,h]
 rfl
theorem A46 {l:List Nat} {q:Nat} (h:q < l.length):gtL (l.reverse.map nv) ((l.length - 1 - q:Nat):Int)=((l.getD q 0:Nat):Int):=by
 have:=A3I (r:=[]) h
 rw [List.append_nil] at this
 exact this
theorem B71 {bs:List Nat} (hb:∀ b∈bs,b < 256) {j b0 b1 b2 b3:Nat} (hj:j < 4611686018427387904) (h0:bs[j]? = some b0) (h1:bs[j+1]? = some b1) (h2:bs[j+2]? = some b2) (h3:bs[j+3]? = some b3) :
  B7X (bs.map nv) (j:Int)=(((((b0 * 256+b1) * 256+b2) * 256+b3:Nat)):Int):=by
 have l0:=hb b0 (List.mem_of_getElem? h0)
 have l1:=hb b1 (List.mem_of_getElem? h1)
 have l2:=hb b2 (List.mem_of_getElem? h2)
 have l3:=hb b3 (List.mem_of_getElem? h3)
 have w:∀ d:Nat,d < 4→J2 ((j:Int)+(d:Int))=((j+d:Nat):Int):=fun d hd=>by rw [N6 (by omega) (by omega)];push_cast;rfl
 have e0:J2 ((j:Int)+0)=((j:Nat):Int):=w 0 (by decide)
 have e1:J2 ((j:Int)+1)=((j+1:Nat):Int):=w 1 (by decide)
 have e2:J2 ((j:Int)+2)=((j+2:Nat):Int):=w 2 (by decide)
 have e3:J2 ((j:Int)+3)=((j+3:Nat):Int):=w 3 (by decide)
 unfold B7X
 rw [e0,e1,e2,e3,A54 h0,A54 h1,A54 h2,A54 h3,E4 (n:=b0) (by omega),E4 (n:=b1) (by omega),E4 (n:=b2) (by omega),E4 (n:=b3) (by omega)]
 have z:WU (256 * 0)=((0:Nat):Int):=rfl
 have m:∀ a:Nat,a < 4294967296→WU (256 * (a:Int))=((256 * a:Nat):Int):=fun a ha=>by
  rw [show (256 * (a:Int))=((256 * a:Nat):Int) by omega,E4 (by omega)]
 rw [z,← Int.natCast_add,E4 (by omega),m _ (by omega),← Int.natCast_add,E4 (by omega),m _ (by omega),← Int.natCast_add,E4 (by omega),m _ (by omega),← Int.natCast_add,E4 (by omega)]
 congr 1;omega
theorem C94 {z v kk:V} {bs:List Nat} (hb:∀ b∈bs,b < 256) {a:Nat} (hl:a+64≤bs.length) (hB:bs.length < 4611686018427387000):∀ (m j n:Nat) (l:List Nat) (k:B7Y→Option R),j+m=16→l.length=j →
  Z9 (B2n R) (m+n) (.m z v (bs.map nv) kk (a:Int) (l.reverse.map nv) (j:Int)) k=Z9 (B2n R) n (.m z v (bs.map nv) kk (a:Int) ((J6 m (bs.drop (a+4 * j)) l).reverse.map nv) 16) k:=by
 intro m
 induction m with
 | zero =>
  intro j n l k hj hlen
  have:j=16:=by omega
  subst this
  rw [Nat.zero_add]
  rfl
 | succ m ih =>
  intro j n l k hj hlen
  obtain ⟨b0,b1,b2,b3,g0,g1,g2,g3,gd⟩:=D36 (bs:=bs) (k:=a+4 * j) (by omega)
  have w0:J2 ((a:Int)+J2 (4 * (j:Int)))=((a+4 * j:Nat):Int):=by rw [N6 (n:=4 * (j:Int)) (by omega) (by omega),N6 (by omega) (by omega)];push_cast;rfl
  have w:∀ d:Nat,d < 4→J2 (((a+4 * j:Nat):Int)+(d:Int))=((a+4 * j+d:Nat):Int):=fun d hd=>by rw [N6 (by omega) (by omega)];push_cast;rfl
  have e0:J2 (((a+4 * j:Nat):Int)+0)=((a+4 * j:Nat):Int):=w 0 (by decide)
  have e1:J2 (((a+4 * j:Nat):Int)+1)=((a+4 * j+1:Nat):Int):=w 1 (by decide)
  have e2:J2 (((a+4 * j:Nat):Int)+2)=((a+4 * j+2:Nat):Int):=w 2 (by decide)
  have e3:J2 (((a+4 * j:Nat):Int)+3)=((a+4 * j+3:Nat):Int):=w 3 (by decide)
  have wj:J2 ((j:Int)+1)=((j+1:Nat):Int):=by rw [N6 (by omega) (by omega)];push_cast;rfl
  rw [show m+1+n=(m+n)+1 by omega,Z9]
  show (bif H8 (j:Int) 64 then (bif H8 (j:Int) 16 then _ else _) else _)=_
  rw [show H8 (j:Int) 64=true by simp [H8];omega,show H8 (j:Int) 16=true by simp [H8];omega]
  simp only [cond_true]
  rw [w0,e0,e1,e2,e3,D9C,D9C,List.length_reverse,P8 (by omega) (by omega),P8 (by omega) (by omega),P8 (by omega) (by omega),P8 (by omega) (by omega),A4d (by omega),wj,B71 hb (by omega) g0 g1 g2 g3]
  have hl2:l.reverse.map nv++[V.i ((((b0 * 256+b1) * 256+b2) * 256+b3:Nat):Int)]=((((b0 * 256+b1) * 256+b2) * 256+b3)::l).reverse.map nv:=by simp;rfl
  rw [hl2,ih (j+1) n _ k (by omega) (by simp [hlen]),gd]
  simp only [J6,N2]
  rfl
theorem C95 {z v xs:V} {ws:List V} {at_:Int} {kk:V}:∀ (m n:Nat) (l:List Nat) (k:B7Y→Option R),l.length+m=64→16≤l.length→(∀ a∈l,a < N5)→m < n →
  Z9 (B2n R) n (.m z v ws kk at_ (l.reverse.map nv) (l.length:Int)) k=k (.o z v ws kk at_ ((A1P m l).reverse.map nv) 64):=by
 intro m
 induction m with
 | zero =>
  intro n l k hj h16 hlt hn
  obtain ⟨n,rfl⟩:∃ n',n=n'+1:=⟨n - 1,by omega⟩
  have:l.length=64:=by omega
  rw [this]
  rfl
 | succ m ih =>
  intro n l k hj h16 hlt hn
  obtain ⟨n,rfl⟩:∃ n',n=n'+1:=⟨n - 1,by omega⟩
  have wi:∀ d:Nat,d≤16→J2 ((l.length:Int) - (d:Int))=((l.length - d:Nat):Int):=fun d hd=>by rw [N6 (by omega) (by omega)];omega
  have wj:J2 ((l.length:Int)+1)=((l.length+1:Nat):Int):=by rw [N6 (by omega) (by omega)];push_cast;rfl
  have e15:J2 ((l.length:Int) - 15)=((l.length - 1 - 14:Nat):Int):=(wi 15 (by omega)).trans (by omega)
  have e2:J2 ((l.length:Int) - 2)=((l.length - 1 - 1:Nat):Int):=(wi 2 (by omega)).trans (by omega)
  have e16:J2 ((l.length:Int) - 16)=((l.length - 1 - 15:Nat):Int):=(wi 16 (by omega)).trans (by omega)
  have e7:J2 ((l.length:Int) - 7)=((l.length - 1 - 6:Nat):Int):=(wi 7 (by omega)).trans (by omega)
  rw [Z9]
  show (bif H8 (l.length:Int) 64 then (bif H8 (l.length:Int) 16 then _ else _) else _)=_
  rw [show H8 (l.length:Int) 64=true by simp [H8];omega,show H8 (l.length:Int) 16=false by simp [H8];omega]
  simp only [cond_true,cond_false]
  rw [D9C,List.length_reverse,e15,e2,e16,e7,P8 (by omega) (by omega),P8 (by omega) (by omega),P8 (by omega) (by omega),P8 (by omega) (by omega),P8 (by omega) (by omega),P8 (by omega) (by omega),P8 (by omega) (by omega),P8 (by omega) (by omega),A4d (by omega),wj]
  rw [A46 (by omega),A46 (by omega),A46 (by omega),A46 (by omega),C1n (A0W hlt _),C1o (A0W hlt _)]
  have g1:l.getD 15 0 < 4294967296:=A0W hlt 15
  have g2:l.getD 6 0 < 4294967296:=A0W hlt 6
  have g3:sS0 (l.getD 14 0) < 4294967296:=C9H (A0W hlt 14)
  have g4:sS1 (l.getD 1 0) < 4294967296:=C9I (A0W hlt 1)
  have hval:(WU (WU (WU (((l.getD 15 0:Nat):Int)+((sS0 (l.getD 14 0):Nat):Int))+((l.getD 6 0:Nat):Int))+((sS1 (l.getD 1 0):Nat):Int))).tmod 4294967296=((A3G l:Nat):Int):=by
   rw [← Int.natCast_add,E4 (by omega),← Int.natCast_add,E4 (by omega),← Int.natCast_add,E4 (by omega),B70]
   rfl
  rw [hval]
  have hl2:l.reverse.map nv++[V.i ((A3G l:Nat):Int)]=(A3G l::l).reverse.map nv:=by simp;rfl
  rw [hl2]
  have:=ih n (A3G l::l) k (by simp;omega) (by simp;omega) (fun a ha=>by
   rcases List.mem_cons.1 ha with rfl | ha
   ·exact Nat.mod_lt _ (by decide)
   ·exact hlt a ha) (by omega)
  rw [D9G] at this
  rw [this]
  simp only [A1P,N2]
theorem D4f {z v:V} {xs:List V} {at_:Int} {K W:List Nat} (hK:K.length=64) (hW:W.length=64) (kK:∀ a∈K,a < N5) (kW:∀ a∈W,a < N5):∀ (m j n:Nat) (x:S8) (k:C1i→Option R),j+m=64→OkS x→m < n →
  Z9 (B7Z R) n (.m z v xs (.l (K.map nv)) at_ (W.map nv) (stV x) (j:Int)) k=k (.o z v xs (.l (K.map nv)) at_ (W.map nv) (stV (A7l (K.drop j) (W.drop j) x)) 64):=by
 intro m
 induction m with
 | zero =>
  intro j n x k hj hx hn
  obtain ⟨n,rfl⟩:∃ n',n=n'+1:=⟨n - 1,by omega⟩
  have:j=64:=by omega
  subst this
  rw [List.drop_of_length_le (by omega),List.drop_of_length_le (by omega)]
  rfl
 | succ m ih =>
  intro j n x k hj hx hn
  obtain ⟨n,rfl⟩:∃ n',n=n'+1:=⟨n - 1,by omega⟩
  have wj:J2 ((j:Int)+1)=((j+1:Nat):Int):=by rw [N6 (by omega) (by omega)];push_cast;rfl
  rw [Z9]
  show (bif H8 (j:Int) 64 then _ else _)=_
  rw [show H8 (j:Int) 64=true by simp [H8];omega,cond_true]
  simp only
  rw [D9C,P8 (by omega) (by omega),P8 (by omega) (by omega),wj,A52 (by omega),A54 (D9L (show j < W.length by omega)),C1q hx (kK _ (List.getElem_mem ..)) (kW _ (List.getElem_mem ..)),ih (j+1) n _ k (by omega) (A9o hx _ _) (by omega)]
  rw [List.drop_eq_getElem_cons (show j < K.length by omega),List.drop_eq_getElem_cons (show j < W.length by omega)]
  rfl
theorem B72:∀ (ks ws:List Nat) {s:S8},OkS s→OkS (A7l ks ws s):=by
 intro ks
 induction ks with
 | nil=>intro ws s h;cases ws<;>exact h
 | cons k ks ih =>
  intro ws s h
  cases ws with
  | nil=>exact h
  | cons w ws=>exact ih ws (A9o h k w)
theorem B0K:∀ (m:Nat) (l acc:List Nat),J6 m (l.take (4 * m)) acc=J6 m l acc:=by
 intro m
 induction m with
 | zero=>intro l acc;rfl
 | succ m ih =>
  intro l acc
  match l with
  | b0::b1::b2::b3::r =>
   rw [show 4 * (m+1)=4 * m+1+1+1+1 by omega]
   simp only [List.take_succ_cons,J6,N2]
   exact ih r _
  | []=>rfl
  | [_]=>rw [List.take_of_length_le (by simp;omega)]
  | [_,_]=>rw [List.take_of_length_le (by simp;omega)]
  | [_,_,_]=>rw [List.take_of_length_le (by simp;omega)]
theorem B5j (s:S8) (l:List Nat):A6W s (l.take 64)=A6W s l:=by
 unfold A6W
 rw [B0K 16 l []]
theorem B3Z (s:S8) (l:List Nat):OkS (A6W s l):=C1a
theorem D4g {z:V} {bs:List Nat} (hb:∀ b∈bs,b < 256) (hB:bs.length < 4611686018427387000):∀ (m q n:Nat) (s:S8) (k:C9Y→Option R),bs.length=64 * (q+m)→OkS s→m < n →
  Z9 (C1k R) n (.m z (stV s) (bs.map nv) A2h ((64 * q:Nat):Int)) k=k (.o z (stV (A1d m s (bs.drop (64 * q)))) (bs.map nv) A2h ((64 * (q+m):Nat):Int)):=by
 intro m
 induction m with
 | zero =>
  intro q n s k hl hs hn
  obtain ⟨n,rfl⟩:∃ n',n=n'+1:=⟨n - 1,by omega⟩
  rw [Z9]
  show ln (bs.map nv).length (bif H8 ((64 * q:Nat):Int) (bs.map nv).length then _ else _)=_
  rw [D9C,B0J (by omega),show H8 ((64 * q:Nat):Int) (bs.length:Int)=false by simp [H8];omega]
  rfl
 | succ m ih =>
  intro q n s k hl hs hn
  obtain ⟨n,rfl⟩:∃ n',n=n'+1:=⟨n - 1,by omega⟩
  have HID:=HID
  have h16:A4 FU=16+(A4 FU - 16):=by omega
  obtain ⟨w1,w2⟩:=A2g 16 (bs.drop (64 * q)) [] (fun b h=>hb b (List.mem_of_mem_drop h)) (fun a h=>by cases h) (by simp;omega)
  obtain ⟨c1,c2⟩:=A7n 48 (J6 16 (bs.drop (64 * q)) []) w1
  have h1:∀ k':B7Y→Option R,Z9 (B2n R) (A4 FU) (.m z (stV s) (bs.map nv) A2h ((64 * q:Nat):Int) [] 0) k'=k' (.o z (stV s) (bs.map nv) A2h ((64 * q:Nat):Int) ((A1P 48 (J6 16 (bs.drop (64 * q)) [])).reverse.map nv) 64):=fun k'=>by
   have e:=C94 (R:=R) (z:=z) (v:=stV s) (kk:=A2h) hb (a:=64 * q) (by omega) hB 16 0 (A4 FU - 16) [] k' rfl rfl
   rw [← h16] at e
   refine e.trans ?_
   have e2:=C95 (R:=R) (z:=z) (v:=stV s) (xs:=z) (ws:=bs.map nv) (at_:=((64 * q:Nat):Int)) (kk:=A2h) 48 (A4 FU - 16) (J6 16 (bs.drop (64 * q)) []) k' (by rw [w2];rfl) (by rw [w2];simp) w1 (by omega)
   rw [w2] at e2
   exact e2
  have h2:∀ k':C1i→Option R,Z9 (B7Z R) (A4 FU) (.m z (stV s) (bs.map nv) A2h ((64 * q:Nat):Int) ((A1P 48 (J6 16 (bs.drop (64 * q)) [])).reverse.map nv) (stV s) 0) k'=k' (.o z (stV s) (bs.map nv) A2h ((64 * q:Nat):Int) ((A1P 48 (J6 16 (bs.drop (64 * q)) [])).reverse.map nv) (stV (A7l A7m (A1P 48 (J6 16 (bs.drop (64 * q)) [])).reverse s)) 64):=fun k' =>
   D4f (K:=A7m) (W:=(A1P 48 (J6 16 (bs.drop (64 * q)) [])).reverse) rfl (by rw [List.length_reverse,c2,w2];rfl) B0I (fun a h=>c1 a (List.mem_reverse.1 h)) 64 0 (A4 FU) s k' rfl hs (by omega)
  rw [Z9]
  show ln (bs.map nv).length (bif H8 ((64 * q:Nat):Int) (bs.map nv).length then _ else _)=_
  rw [D9C,B0J (by omega),show H8 ((64 * q:Nat):Int) (bs.length:Int)=true by simp [H8];omega,cond_true,h1]
  simp only
  rw [h2]
  simp only
  rw [C93 hs (B72 _ _ hs)]
  have wj:J2 (((64 * q:Nat):Int)+64)=((64 * (q+1):Nat):Int):=by rw [N6 (by omega) (by omega)];push_cast;omega
  rw [wj]
  have:=ih (q+1) n (A6W s (bs.drop (64 * q))) k (by omega) (B3Z _ _) (by omega)
  unfold A6W at this
  refine this.trans ?_
  rw [show 64 * (q+(m+1))=64 * (q+1+m) by omega]
  have hm:A1d (m+1) s (bs.drop (64 * q))=A1d m (A6W s (bs.drop (64 * q))) (bs.drop (64 * (q+1))):=by
   cases hd:bs.drop (64 * q) with
   | nil=>have:=congrArg List.length hd;simp at this;omega
   | cons b r =>
    simp only [A1d]
    rw [← hd,B5j,List.drop_drop]
    congr 2
  rw [hm]
  rfl
theorem B0L:∀ (m d:Nat) (s:S8) (l:List Nat),l.length≤64 * m→A1d (m+d) s l=A1d m s l:=by
 intro m
 induction m with
 | zero =>
  intro d s l h
  have:l=[]:=List.length_eq_zero_iff.1 (by omega)
  subst this
  cases d<;>rfl
 | succ m ih =>
  intro d s l h
  rw [show m+1+d=(m+d)+1 by omega]
  cases l with
  | nil=>rfl
  | cons b r =>
   simp only [A1d]
   exact ih d _ _ (by simp at h ⊢;omega)
end Go.Vm
end