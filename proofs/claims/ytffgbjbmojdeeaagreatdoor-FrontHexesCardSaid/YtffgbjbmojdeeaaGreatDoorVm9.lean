/- What the operations of a program do, shown once for all programs; and numbers. -/
import Derived.Test.YtffgbjbmojdeeaaGreatDoorVm8
import Derived.Laws.Externs
import Derived.Lib.Bytealg
import Derived.OpenShut
import Derived.WalkKit
import Derived.ProofKit
import Derived.JoinedOf
import Derived.ChangeShapes
import Derived.Sort.KeysCollected
import Derived.WideShapes
import Derived.Below
import Derived.Calls
set_option linter.constructorNameAsVariable false
set_option linter.unusedVariables false
set_option linter.unusedSimpArgs false
set_option linter.unnecessarySimpa false
noncomputable section
namespace Go.Vm
open Go.RowKit
variable {P:Program} {T:TT} {R:Type} {c:F1} {e:A8} {of:Nat→Option Ob}
mutual
def A0G (T:TT):Nat→Nat→Bool
 | 0,_=>false
 | d+1,t=>match B2 T t with
  | some (.int _) | some .bool | some .str=>true
  | some (.arr _ el)=>A0G T d el
  | some (.struct fs)=>A8n T d fs
  | _=>false
def A8n (T:TT):Nat→List Nat→Bool
 | 0,_=>false
 | _+1,[]=>true
 | d+1,t::r=>A0G T d t&&A8n T d r
end
theorem RV.flat:∀ (d:Nat) {e e':A8},(∀ {t:Nat} {xs:List V} {cs:List Value},A0G T d t=true→∀ n,RV T e (List.replicate n t) xs cs→RV T e' (List.replicate n t) xs cs) ∧
  (∀ {ts:List Nat} {xs:List V} {cs:List Value},A8n T d ts=true→RV T e ts xs cs→RV T e' ts xs cs):=by
 intro d
 induction d with
 | zero=>intro e e';exact ⟨fun h=>by simp [A0G] at h,fun h=>by simp [A8n] at h⟩
 | succ d ih =>
  intro e e'
  have one:∀ {t:Nat} {x:V} {cs:List Value},A0G T (d+1) t=true→RV T e [t] [x] cs→RV T e' [t] [x] cs:=by
   intro t x cs hf h
   simp only [A0G] at hf
   cases h with
   | int h1 h2 hr g=>cases g;exact .int h1 h2 hr .nil
   | bool h1 h2 g=>cases g;exact .bool h1 h2 .nil
   | str h1 h2 g=>cases g;exact .str h1 h2 .nil
   | ptr h1=>rw [h1] at hf;cases hf
   | nils h1=>rw [h1] at hf;cases hf
   | map h1=>rw [h1] at hf;cases hf
   | func h1=>rw [h1] at hf;cases hf
   | fn h1=>rw [h1] at hf;cases hf
   | slice h1=>rw [h1] at hf;cases hf
   | arr h1 h2 g1 g=>rw [h1] at hf;cases g;exact .arr h1 h2 ((ih (e:=e) (e':=e')).1 hf _ g1) .nil
   | struct h1 h2 g1 g=>rw [h1] at hf;cases g;exact .struct h1 h2 ((ih (e:=e) (e':=e')).2 hf g1) .nil
  refine ⟨fun {t xs cs} hf n=>?_,fun {ts xs cs} hf h=>?_⟩
  ·induction n generalizing xs cs with
   | zero=>intro h;cases h;exact .nil
   | succ n ihn =>
    intro h
    rw [List.replicate_succ] at h ⊢
    cases xs with
    | nil=>cases h
    | cons x xs =>
     obtain ⟨d1,r,rfl,g1,g2⟩:=h.cons_inv
     exact (one hf g1).append (ts:=[t]) (xs:=[x]) (ihn g2)
  ·cases ts with
   | nil=>cases h;exact .nil
   | cons t ts =>
    simp only [A8n,C3o] at hf
    cases xs with
    | nil=>cases h
    | cons x xs =>
     obtain ⟨d1,r,rfl,g1,g2⟩:=h.cons_inv
     exact ((ih (e:=e) (e':=e')).1 hf.1 1 g1).append (ts:=[t]) (xs:=[x]) ((ih (e:=e) (e':=e')).2 hf.2 g2)
theorem A9V {t:Nat} {y:V} {v:Value} (ht:(T t).isSome=true) (h:RV T e [t] [y] v.cells.toList) (ha:T3 T t v):B3 T e (mkA T t y) v:=by
 obtain ⟨te,hte⟩:=C3s.1 ht
 exact W5 (a:=.v t y) hte ⟨h,ha⟩ (G9 t y)
inductive RP (T:TT) (e:A8):List Nat→List V→List Value→Prop
 | nil:RP T e [] [] []
 | cons {t ts x xs v vs}:RV T e [t] [x] v.cells.toList→T3 T t v→RP T e ts xs vs→RP T e (t::ts) (x::xs) (v::vs)
theorem RP.change {e e':A8} (hf:∀ a ds,Fz e a ds→Fz e' a ds) {ts:List Nat} {xs:List V} {vs:List Value} (h:RP T e ts xs vs):RP T e' ts xs vs:=by
 induction h with
 | nil=>exact .nil
 | cons h1 h2 _ ih=>exact .cons (h1.change hf) h2 ih
theorem RP.mono {e e':A8} (he:e.le e') {ts:List Nat} {xs:List V} {vs:List Value} (h:RP T e ts xs vs):RP T e' ts xs vs:=h.change (fun a ds q=>q.mono he)
def X1 (T:TT):(Nat→Option Ob)→List Nat→List A→Option (List V×List (Nat×Ob))
 | _,[],[]=>some ([],[])
 | of,t::ts,a::as0=>match J0 T DEP of t a with
  | some (x,wo)=>match X1 T (put of wo) ts as0 with
   | some (xs,wo')=>some (x::xs,wo++wo')
   | none=>none
  | none=>none
 | _,_,_=>none
theorem A4L:∀ {ts:List Nat} {as0:List A} {vals:List Value} {e:A8} {of of':Nat→Option Ob} {xs:List V} {wo:List (Nat×Ob)},A5 T c e of'→X1 T of ts as0=some (xs,wo)→(∀ id∈U1 wo,of' id=of id)→P3 T e as0 vals→Shd T c e of' wo fun e'=>RP T e' ts xs vals:=by
 intro ts
 induction ts with
 | nil =>
  intro as0 vals e of of' xs wo h hv ho hr
  cases as0 with
  | nil =>
   simp only [X1,C3q,Prod.mk.injEq] at hv
   obtain ⟨rfl,rfl⟩:=hv
   cases hr
   exact ⟨e,rfl,h,A8.le.refl e,fun _ hu=>hu,.nil⟩
  | cons a as0=>simp [X1] at hv
 | cons t ts ih =>
  intro as0 vals e of of' xs wo h hv ho hr
  cases as0 with
  | nil=>simp [X1] at hv
  | cons a as0 =>
   simp only [X1] at hv
   split at hv<;>try (cases hv;done)
   rename_i x1 w1 h1
   split at hv<;>try (cases hv;done)
   rename_i xs2 w2 h2
   injection hv with hv;injection hv with hv1 hv2
   subst hv1;subst hv2
   have ho1:∀ id∈U1 w1,of' id=of id:=fun id A7=>ho id (by simp only [U1,List.map_append,C3y];exact .inl A7)
   have h1':=(Y5 DEP).1 of of' t a x1 w1 h1 ho1
   cases hr with
   | @cons _ v _ vs r1 r2 =>
   obtain ⟨e1,p1,p2,p3,p4,p5⟩:=Y8 h h1' r1
   have ag:=A3z h1' r1
   obtain ⟨e2,q1,q2,q3,q4,q5⟩:=ih p2 h2 (fun id A7=>A6g _ _ _ _ (ho id (by simp only [U1,List.map_append,C3y];exact .inr A7))) (r2.mono p3)
   exact ⟨e2,q1.trans p1,by rw [F8];exact q2,p3.trans q3,fun j hj=>p4 j (q4 j hj),.cons (p5.mono q3) ag q5⟩
theorem B44:∀ {ts:List Nat} {as0:List A} {of:Nat→Option Ob} {xs:List V} {wo:List (Nat×Ob)},X1 T of ts as0=some (xs,wo)→V8 of wo:=by
 intro ts
 induction ts with
 | nil =>
  intro as0 of xs wo h
  cases as0 with
  | nil=>simp only [X1,C3q,Prod.mk.injEq] at h;rw [← h.2];intro p hp;cases hp
  | cons a as0=>simp [X1] at h
 | cons t ts ih =>
  intro as0 of xs wo h
  cases as0 with
  | nil=>simp [X1] at h
  | cons a as0 =>
   simp only [X1] at h
   split at h<;>try (cases h;done)
   rename_i x1 w1 h1
   split at h<;>try (cases h;done)
   rename_i xs2 w2 h2
   injection h with h;injection h with _ hv2
   subst hv2
   exact A0M ((B2x DEP).1 _ _ _ _ _ h1) (ih h2)
def E0 (T:TT):List Nat→List V→List A
 | t::ts,x::xs=>mkA T t x::E0 T ts xs
 | _,_=>[]
theorem RP.reps {ts:List Nat} {xs:List V} {vs:List Value} (h:RP T e ts xs vs) (ht:ts.all (fun t=>(T t).isSome)=true):P3 T e (E0 T ts xs) vs:=by
 induction h with
 | nil=>exact .nil
 | cons h1 h2 _ ih =>
  simp only [List.all_cons,C3o] at ht
  exact .cons (A9V ht.1 h1 h2) (ih ht.2)
inductive RK where
 | d (t:Nat)
 | r (el:Nat)
inductive Rs where
 | d (t:Nat) (y:V)
 | r (el:Nat) (xs:List V) (nl:Bool)
def B7k:A→List A
 | .t l=>l
 | a=>[a]
def dL (T:TT) (sh:Bool):(Nat→Option Ob)→List A→List RK→Option (List V×List (Nat×Ob))
 | _,[],[]=>some ([],[])
 | of,a::l,.d t::r=>match J0 T DEP of t a with
  | some (y,wo)=>bif (T t).isSome&&(sh||A0G T 8 t) then (match dL T sh (put of wo) l r with
   | some (ys,wo')=>some (y::ys,wo++wo')
   | none=>none) else none
  | none=>none
 | of,_::l,.r _::r=>match dL T sh of l r with
  | some (ys,wo)=>some (.n::ys,wo)
  | none=>none
 | _,_,_=>none
def B7l (T:TT) (sh:Bool) (of:Nat→Option Ob) (el:Nat) (a:A):Option (List V×Bool) :=
 match a with
 | .o id ver=>match of id with
  | some (.row el' v xs nl false)=>bif Nat.beq el el'&&Nat.beq v ver&&(sh||A0G T 8 el) then some (xs,nl) else none
  | _=>none
 | .z v=>bif A3Q v&&Nat.blt 0 (B1 T el) then some ([],true) else none
 | _=>none
def rL (T:TT) (sh:Bool) (of:Nat→Option Ob):List A→List V→List RK→Option (List Rs)
 | [],[],[]=>some []
 | _::l,y::ys,.d t::r=>match rL T sh of l ys r with
  | some rs=>some (.d t y::rs)
  | none=>none
 | a::l,_::ys,.r el::r=>match B7l T sh of el a with
  | some (xs,nl)=>match rL T sh of l ys r with
   | some rs=>some (.r el xs nl::rs)
   | none=>none
  | none=>none
 | _,_,_=>none
def A3s:List RK→Nat
 | []=>0
 | .d _::r=>A3s r
 | .r _::r=>A3s r+1
def isT:A→Bool
 | .t _=>true
 | _=>false
def E7 (T:TT) (sh:Bool) (rk:List RK) (out:M8):Option (List Rs) :=
 bif Nat.beq rk.length 1 == isT out.val then none else
 match dL T sh (put (fun _=>none) out.wo) (B7k out.val) rk with
 | some (ys,wo)=>bif Nat.ble (A3s rk) 1 then rL T sh (put (put (fun _=>none) out.wo) wo) (B7k out.val) ys rk else none
 | none=>none
def P8 (T:TT):Nat→List Rs→List A×List (Nat×Ob)×Nat
 | nx,[]=>([],[],nx)
 | nx,.d t y::r=>let p:=P8 T nx r
  (mkA T t y::p.1,p.2.1,p.2.2)
 | nx,.r el xs nl::r=>let p:=P8 T (nx+1) r
  (.o nx 1::p.1,(nx,.row el 1 xs nl false)::p.2.1,p.2.2)
def B7m:List A→A
 | [a]=>a
 | l=>.t l
abbrev FC:=(R:Type)→List V→(List Rs→Option R)→Option R
def FC.nat (F:FC):Prop:=∀ (R:Type) (xs:List V) (k:List Rs→Option R),F R xs k=ob (F (List Rs) xs some) k
def toC {R:Type} (T:TT) (of:Nat→Option Ob) (t:Nat) (a:A) (k:V×List (Nat×Ob)→Option R):Option R :=
 match a with
 | .w id ver off n=>(match B2 T t,of id with
  | some (.slice el),some (.row el' v xs nl _)=>bif Nat.beq el el'&&Nat.beq v ver&&Nat.beq (B1 T t) 1 then bif Nat.ble (off+n) xs.length then k (.l ((xs.drop off).take n),[(id,.row el' v xs nl true)]) else none else none
  | _,_=>none)
 | a=>ob (J0 T DEP of t a) k
theorem C0c {R:Type} (of:Nat→Option Ob) (t:Nat) (a:A) (k:V×List (Nat×Ob)→Option R):toC T of t a k=ob (J0 T DEP of t a) k:=by
 unfold toC
 cases a with
 | w id ver off n =>
  simp only [DEP,J0,X2]
  cases B2 T t with
  | none=>rfl
  | some kk=>cases kk with
   | slice el=>cases of id with
    | none=>rfl
    | some o=>cases o with
     | row el' v xs nl sh =>
      simp only
      cases (Nat.beq el el'&&Nat.beq v ver&&Nat.beq (B1 T t) 1)<;>cases Nat.ble (off+n) xs.length<;>rfl
     | _=>rfl
   | _=>rfl
 | _=>rfl
def B0O {R:Type} (T:TT):(Nat→Option Ob)→List Nat→List A→(List V×List (Nat×Ob)→Option R)→Option R
 | _,[],[],k=>k ([],[])
 | of,t::ts,a::as0,k=>toC T of t a fun p=>B0O T (put of p.2) ts as0 fun q=>k (p.1::q.1,p.2++q.2)
 | _,_,_,_=>none
theorem A8o {R:Type}:∀ (ts:List Nat) (of:Nat→Option Ob) (as0:List A) (k:List V×List (Nat×Ob)→Option R),B0O T of ts as0 k=ob (X1 T of ts as0) k:=by
 intro ts
 induction ts with
 | nil=>intro of as0 k;cases as0<;>rfl
 | cons t ts ih =>
  intro of as0 k
  cases as0 with
  | nil=>rfl
  | cons a as0 =>
   simp only [B0O,C0c,ih,X1]
   cases J0 T DEP of t a with
   | none=>rfl
   | some p =>
    simp only [ob]
    cases X1 T (put of p.2) ts as0<;>rfl
def C1 (T:TT) (sh:Bool) (ts:List Nat) (F:FC):J4:=fun R args of nx k =>
 B0O T of ts args fun p=>F R p.1 fun rs=>k ⟨B7m (P8 T nx rs).1,(bif sh then A0p of p.2 else [])++(P8 T nx rs).2.1,U1 p.2,(P8 T nx rs).2.2⟩
theorem A58 {sh:Bool} {ts:List Nat} {F:FC} (hF:F.nat):(C1 T sh ts F).nat:=by
 intro R args of nx k
 simp only [C1,J4.dir,A8o]
 cases X1 T of ts args with
 | none=>rfl
 | some p =>
  simp only [ob]
  rw [hF R,hF M8]
  cases F (List Rs) p.1 some<;>rfl
variable {P:Program} {T:TT} {R:Type} {c:F1} {e:A8} {of:Nat→Option Ob}
def A8.grown (e:A8) (w:World) (S2:Nat→Nat→Prop):A8:={ e with w:=w,S:=fun b i=>e.S b i∨(e.w.heap.size≤b∧S2 b i) }
theorem A5.grown (h:A5 T c e of) {w':World} {S2:Nat→Nat→Prop} (hsz:e.w.heap.size≤w'.heap.size) (hb:∀ b,b < e.w.heap.size→w'.heap[b]? = e.w.heap[b]?) (h1:w'.os=e.w.os) (h2:w'.tape=e.w.tape) (h3:w'.output=e.w.output) (hS:∀ b i,S2 b i→b < w'.heap.size) :
  A5 T c (e.grown w' S2) of∧e.le (e.grown w' S2):=by
 have hle:e.le (e.grown w' S2):=by
  refine ⟨fun b i hs=>⟨.inl hs,fun x hx=>?_⟩,fun _ h=>h,fun id hu _=>⟨rfl,rfl,fun b o hι=>C3 (hb b (h.lt _ _ _ hu hι))⟩,fun _ _ h=>h,fun _ _=>Nat.le_refl _,fun _ _=>rfl,hsz,fun b hb'=>C3 (hb b hb')⟩
  show w'.cell? ⟨b,i,none⟩=some x
  rw [C9 (hb b (h.slt _ _ hs))];exact hx
 refine ⟨⟨fun id o ho=>?_,h.sep,h.own,fun id b o hu hι=>Nat.lt_of_lt_of_le (h.lt id b o hu hι) hsz,fun b i hs=>?_,fun b i hs=>.inl (h.s0 _ _ hs),fun b i hs=>?_,h1.trans h.os,h2.trans h.tape,h3.trans h.output,Nat.le_trans h.size hsz,fun k hk hm=>?_,h.g.mono (fun _ _ q=>q) rfl (fun _ q=>q) hsz (fun j b o hj hb=>.inl ⟨j,o,hj,hb⟩)⟩,hle⟩
 ·exact (h.ok id o ho).keep hle rfl (fun b o' hι=>hb b (h.lt _ _ _ (h.ok id o ho).use hι)) (fun b o' i hι hs=>by
   rcases hs with hs | ⟨hs,_⟩
   ·exact hs
   ·exact absurd (h.lt _ _ _ (h.ok id o ho).use hι) (by omega)) (fun a o' b _ hG=>⟨hG,hb b (h.g.lt _ _ hG),fun i hs=>by
   rcases hs with hs | ⟨hs,_⟩
   ·exact hs
   ·exact absurd (h.g.lt _ _ hG) (by omega)⟩)
 ·rcases hs with hs | ⟨_,hs⟩
  ·exact Nat.lt_of_lt_of_le (h.slt _ _ hs) hsz
  ·exact hS _ _ hs
 ·rcases hs with hs | ⟨hs,_⟩
  ·exact h.snew _ _ hs
  ·exact .inr (.inl (Nat.le_trans h.size hs))
 ·show w'.heap[k]? = _
  rw [hb k (Nat.lt_of_lt_of_le hk h.size)];exact h.block k hk hm
def A8.adopt (e:A8) (id b o el n:Nat):A8:={ e with ι:=D3 e.ι id (some (b,o)),bn:=D3 e.bn id 1,U:=fun j=>j=id∨e.U j,ty:=D3 e.ty id el,ln:=D3 e.ln id n }
theorem A5.adopt (h:A5 T c e of) {id b o el:Nat} {xs:List V} {cs:Array Value} {fz:Nat×Nat} {pre ys post:List Value} (hu:¬ e.U id) (hz:0 < B1 T el) (hb:e.w.heap[b]? = some (.cells cs el fz)) (hf:A0y e.w b cs) (hcs:cs.toList=pre++ys++post) (hp:pre.length=o) (hr:RV T e (List.replicate xs.length el) xs ys)
  (h1:∀ i,o+ys.length≤i→¬ e.S b i) (h2:∀ i,o≤i→¬ e.S b i) (hnew:c.w0.heap.size≤b) (hown:∀ j b' o',(of j).isSome→e.ι j=some (b',o')→b'≠b) (hnG:∀ a,¬ e.G a b) :
  A5 T c (e.adopt id b o el xs.length) (D3 of id (some (.row el 1 xs false false)))∧e.le (e.adopt id b o el xs.length):=by
 have hne:∀ j,e.U j→j≠id:=fun j hj hq=>hu (hq ▸ hj)
 have hblt:b < e.w.heap.size:=(Array.getElem?_eq_some_iff.1 hb).1
 have hle:e.le (e.adopt id b o el xs.length):=by
  refine ⟨fun b i hs=>⟨hs,fun x hx=>hx⟩,fun j hj=>.inr hj,fun j hj _=>⟨A3 _ _ (hne j hj),A3 _ _ (hne j hj),fun _ _ _=>rfl⟩,fun j hj h0=>?_,fun j hj=>?_,fun j hj=>A3 _ _ (hne j hj),Nat.le_refl _,fun _ _=>rfl⟩
  ·show D3 e.bn id 1 j=0
   rw [A3 _ _ (hne j hj)];exact h0
  ·show _≤D3 e.bn id 1 j
   rw [A3 _ _ (hne j hj)];exact Nat.le_refl _
 have hιid:(e.adopt id b o el xs.length).ι id=some (b,o):=upd_same _ _ _
 have hι:∀ j,j≠id→(e.adopt id b o el xs.length).ι j=e.ι j:=fun j hj=>A3 _ _ hj
 refine ⟨⟨fun j ob hj=>?_,fun j k b1 q b2 q' hj hk hb1 hb2 hjk=>?_,fun j b1 q hj hb1=>?_,fun j b1 q hj hb1=>?_,h.slt,h.s0,h.snew,h.os,h.tape,h.output,h.size,h.block,?_⟩,hle⟩
 ·by_cases hjid:j=id
  ·subst hjid
   rw [upd_same] at hj;cases hj
   refine ⟨.inl rfl,by omega,upd_same _ _ _,upd_same _ _ _,upd_same _ _ _,hz,.inr ⟨rfl,b,o,cs,el,fz,pre,ys,post,hιid,hb,hf,hcs,hp,hr.mono hle,h1,fun _=>h2,rfl⟩⟩
  ·rw [A3 _ _ hjid] at hj
   exact (h.ok j ob hj).keep hle (A3 _ _ hjid) (fun _ _ _=>rfl) (fun _ _ _ _ hs=>hs) (fun a o' b _ hG=>⟨hG,rfl,fun i hs=>hs⟩)
 ·by_cases h1':j=id
  ·have h2':k≠id:=fun hq=>hjk (h1'.trans hq.symm)
   subst h1'
   rw [hιid] at hb1;cases hb1
   rw [hι _ h2'] at hb2
   rw [A3 _ _ h2'] at hk
   exact fun hq=>hown k b2 q' hk hb2 hq.symm
  ·rw [hι _ h1'] at hb1
   rw [A3 _ _ h1'] at hj
   by_cases h2':k=id
   ·subst h2'
    rw [hιid] at hb2;cases hb2
    exact hown j b1 q hj hb1
   ·rw [hι _ h2'] at hb2
    rw [A3 _ _ h2'] at hk
    exact h.sep j k b1 q b2 q' hj hk hb1 hb2 hjk
 ·by_cases h1':j=id
  ·subst h1';rw [hιid] at hb1;cases hb1;exact .inl hnew
  ·rw [hι _ h1'] at hb1
   rw [A3 _ _ h1'] at hj
   exact h.own j b1 q hj hb1
 ·by_cases h1':j=id
  ·subst h1';rw [hιid] at hb1;cases hb1;exact hblt
  ·rw [hι _ h1'] at hb1
   rcases hj with hj | hj
   ·exact absurd hj h1'
   ·exact h.lt j b1 q hj hb1
 ·refine ⟨fun a b1 hG j b2 q hj hb2=>?_,h.g.uniq,h.g.own,h.g.lt⟩
  by_cases h1':j=id
  ·subst h1';rw [hιid] at hb2;cases hb2;exact fun hq=>hnG a (hq ▸ hG)
  ·rw [hι _ h1'] at hb2
   rw [A3 _ _ h1'] at hj
   exact h.g.sep a b1 hG j b2 q hj hb2
inductive RR (T:TT) (sh:Bool) (e:A8) (B:Nat):List RK→List Rs→List Value→Prop
 | nil:RR T sh e B [] [] []
 | d {t y v rk rs vs}:(T t).isSome=true→(sh||A0G T 8 t)=true→RV T e [t] [y] v.cells.toList→T3 T t v→RR T sh e B rk rs vs→RR T sh e B (.d t::rk) (.d t y::rs) (v::vs)
 | n {el rk rs vs}:0 < B1 T el→RR T sh e B rk rs vs→RR T sh e B (.r el::rk) (.r el [] true::rs) (.slice none 0 0::vs)
 | r {el xs b o cs fz pre ys post k cap rk rs vs}:0 < B1 T el→(sh||A0G T 8 el)=true→B≤b→e.w.heap[b]? = some (.cells cs el fz)→A0y e.w b cs→cs.toList=pre++ys++post→pre.length=o→RV T e (List.replicate xs.length el) xs ys →
   (∀ i,o+ys.length≤i→¬ e.S b i)→(∀ i,o≤i→¬ e.S b i)→xs.length≤cap→o+cap * B1 T el=cs.size→(0 < cap→k=o)→RR T sh e B rk rs vs→RR T sh e B (.r el::rk) (.r el xs false::rs) (.slice (some ⟨b,k,none⟩) xs.length cap::vs)
theorem B7n {sh:Bool}:∀ {rk:List RK} {l:List A} {vs:List Value} {e:A8} {of:Nat→Option Ob} {ys:List V} {wo:List (Nat×Ob)},A5 T c e of→dL T sh of l rk=some (ys,wo)→P3 T e l vs →
  ∃ e':A8,e'.w=e.w∧A5 T c e' (put of wo)∧e.le e'∧(∀ j,e'.U j→e.U j)∧P3 T e' l vs ∧
   ∀ rs,rL T sh (put of wo) l ys rk=some rs→∀ B,(∀ id el v xs nl sh' b o,put of wo id=some (.row el v xs nl sh')→e'.ι id=some (b,o)→B≤b)→RR T sh e' B rk rs vs:=by
 intro rk
 induction rk with
 | nil =>
  intro l vs e of ys wo h hd hr
  cases l with
  | nil =>
   simp only [dL,C3q,Prod.mk.injEq] at hd
   obtain ⟨rfl,rfl⟩:=hd
   refine ⟨e,rfl,h,A8.le.refl e,fun _ hu=>hu,hr,fun rs hrs B _=>?_⟩
   simp only [rL,C3q] at hrs
   subst hrs
   cases hr;exact .nil
  | cons a l=>simp [dL] at hd
 | cons k rk ih =>
  intro l vs e of ys wo h hd hr
  cases l with
  | nil=>cases k<;>simp [dL] at hd
  | cons a l =>
   cases k with
   | d t =>
    simp only [dL] at hd
    split at hd<;>try (cases hd;done)
    rename_i y w1 h1
    cases hc:((T t).isSome&&(sh||A0G T 8 t)) with
    | false=>rw [hc] at hd;cases hd
    | true =>
     rw [hc] at hd
     simp only [cond_true] at hd
     split at hd<;>try (cases hd;done)
     rename_i ys2 w2 h2
     simp only [C3q,Prod.mk.injEq] at hd
     obtain ⟨rfl,rfl⟩:=hd
     simp only [C3o] at hc
     cases hr with
     | @cons _ v _ vs r1 r2 =>
     obtain ⟨e1,p1,p2,p3,p4,p5⟩:=Y8 h h1 r1
     have ag:=A3z h1 r1
     obtain ⟨e2,q1,q2,q3,q4,q6,q5⟩:=ih p2 h2 (r2.mono p3)
     refine ⟨e2,q1.trans p1,by rw [F8];exact q2,p3.trans q3,fun j hj=>p4 j (q4 j hj),.cons ((r1.mono p3).mono q3) q6,fun rs hrs B hB=>?_⟩
     simp only [rL] at hrs
     split at hrs<;>try (cases hrs;done)
     rename_i rs2 hrs2
     simp only [C3q] at hrs
     subst hrs
     rw [F8] at hrs2 hB
     exact .d hc.1 hc.2 (p5.mono q3) ag (q5 _ hrs2 B hB)
   | r el =>
    simp only [dL] at hd
    split at hd<;>try (cases hd;done)
    rename_i ys2 w2 h2
    simp only [C3q,Prod.mk.injEq] at hd
    obtain ⟨rfl,rfl⟩:=hd
    cases hr with
    | @cons _ v _ vs r1 r2 =>
    obtain ⟨e2,q1,q2,q3,q4,q6,q5⟩:=ih h h2 r2
    refine ⟨e2,q1,q2,q3,q4,.cons (r1.mono q3) q6,fun rs hrs B hB=>?_⟩
    simp only [rL] at hrs
    split at hrs<;>try (cases hrs;done)
    rename_i xs nl hn
    split at hrs<;>try (cases hrs;done)
    rename_i rs2 hrs2
    simp only [C3q] at hrs
    subst hrs
    have rest:=q5 _ hrs2 B hB
    have r1':=r1.mono q3
    cases a with
    | o id ver =>
     simp only [B7l] at hn
     split at hn<;>try (cases hn;done)
     rename_i el' v' xs' nl' hof
     cases hc:(Nat.beq el el'&&Nat.beq v' ver&&(sh||A0G T 8 el)) with
     | false=>rw [hc] at hn;cases hn
     | true =>
      rw [hc] at hn
      simp only [cond_true,C3q,Prod.mk.injEq] at hn
      obtain ⟨rfl,rfl⟩:=hn
      simp only [C3o] at hc
      obtain ⟨⟨c1,c2⟩,c3⟩:=hc
      have:=C3n c1;subst this
      have:=C3n c2;subst this
      obtain ⟨g1,g2,g3,g4,g4',g5,g6⟩:=q2.ok _ _ hof
      rcases F7 r1' g3 with ⟨k1,k2,rfl⟩ | ⟨b,o,cap,k,k1,k2,k3,k4,rfl⟩
      ·rcases g6 with ⟨rfl,_,rfl⟩ | ⟨_,b,o,cs,t,fz,pre,ys,post,m1,_⟩
       ·exact .n g5 rest
       ·rw [k1] at m1;cases m1
      ·rcases g6 with ⟨_,m1,_⟩ | ⟨rfl,b',o',cs,t,fz,pre,ys,post,m1,m2,m3,m4,m5,m6,m7,m8⟩
       ·rw [k1] at m1;cases m1
       ·rw [k1] at m1;cases m1
        rw [g4'] at k2 ⊢
        rw [g4] at k3
        rw [N1 m2] at k3
        obtain ⟨m8,hte⟩:=m8
        subst hte
        exact .r g5 c3 (hB _ _ _ _ _ _ _ _ hof k1) m2 m3 m4 m5 m6 m7 (m8 rfl) k2 k3 k4 rest
    | z v0 =>
     simp only [B7l] at hn
     cases hc:(A3Q v0&&Nat.blt 0 (B1 T el)) with
     | false=>rw [hc] at hn;cases hn
     | true =>
      rw [hc] at hn
      simp only [cond_true,C3q,Prod.mk.injEq] at hn
      obtain ⟨rfl,rfl⟩:=hn
      simp only [C3o] at hc
      have hx:RA T e2 [.z v0] [v]:=r1'
      have hv:v=.slice none 0 0:=by
       cases hx with
       | z _ _=>exact A0K hc.1
       | r g1 _ _=>exact g1.elim
      subst hv
      exact .n (by simpa [Nat.blt_eq] using hc.2) rest
    | _=>simp [B7l] at hn
theorem RR.flat {sh:Bool} {B:Nat} {e e':A8} (hw:e'.w=e.w) (hf:sh=true→∀ a ds,Fz e a ds→Fz e' a ds) (hS:∀ b i,B≤b→e'.S b i→e.S b i):∀ {rk:List RK} {rs:List Rs} {vs:List Value},RR T sh e B rk rs vs→RR T sh e' B rk rs vs:=by
 intro rk rs vs h
 have one:∀ {t:Nat} {ts:List Nat} (n:Nat) {xs:List V} {cs:List Value},(sh||A0G T 8 t)=true→ts=List.replicate n t→RV T e ts xs cs→RV T e' ts xs cs:=fun {t ts} n {xs cs} hc hts g=>by
  cases hsh:sh with
  | true=>exact g.change (hf hsh)
  | false =>
   rw [hsh,Bool.false_or] at hc
   subst hts
   exact (RV.flat 8 (e:=e) (e':=e')).1 hc n g
 induction h with
 | nil=>exact .nil
 | d h1 h2 h3 h4 _ ih=>exact .d h1 h2 (one 1 h2 rfl h3) h4 ih
 | n h1 _ ih=>exact .n h1 ih
 | r h1 h2 h3 h4 h5 h6 h7 h8 h9 h10 h11 h12 h13 _ ih =>
  exact .r h1 h2 h3 (by rw [hw];exact h4) (by rw [hw];exact h5) h6 h7 (one _ h2 rfl h8) (fun i hi hs=>h9 i hi (hS _ _ h3 hs)) (fun i hi hs=>h10 i hi (hS _ _ h3 hs)) h11 h12 h13 ih
theorem RR.data {sh:Bool} {B nx:Nat}:∀ {rk:List RK} {rs:List Rs} {vs:List Value},RR T sh e B rk rs vs→A3s rk=0→(P8 T nx rs).2=([],nx)∧P3 T e (P8 T nx rs).1 vs:=by
 intro rk rs vs h
 induction h with
 | nil=>intro _;exact ⟨rfl,.nil⟩
 | d h1 h2 h3 h4 _ ih =>
  intro hc
  obtain ⟨p,q⟩:=ih hc
  refine ⟨?_,.cons (A9V h1 h3 h4) q⟩
  simp only [P8]
  exact Prod.ext (congrArg Prod.fst p) (congrArg Prod.snd p)
 | n _ _ _=>intro hc;simp [A3s] at hc
 | r _ _ _ _ _ _ _ _ _ _ _ _ _ _ _=>intro hc;simp [A3s] at hc
theorem RR.mono {sh:Bool} {B:Nat} {e e':A8} (he:e.le e') (hw:e'.w=e.w) (hS:∀ b i,e'.S b i→e.S b i) {rk:List RK} {rs:List Rs} {vs:List Value} (h:RR T sh e B rk rs vs):RR T sh e' B rk rs vs:=by
 induction h with
 | nil=>exact .nil
 | d h1 h2 h3 h4 _ ih=>exact .d h1 h2 (h3.mono he) h4 ih
 | n h1 _ ih=>exact .n h1 ih
 | r h1 h2 h3 h4 h5 h6 h7 h8 h9 h10 h11 h12 h13 _ ih =>
  exact .r h1 h2 h3 (by rw [hw];exact h4) (by rw [hw];exact h5) h6 h7 (h8.mono he) (fun i hi hs=>h9 i hi (hS _ _ hs)) (fun i hi hs=>h10 i hi (hS _ _ hs)) h11 h12 h13 ih
theorem RR.take {sh:Bool} {B nx:Nat}:∀ {rk:List RK} {rs:List Rs} {vs:List Value} {e:A8} {of:Nat→Option Ob},A5 T c e of→RR T sh e B rk rs vs→A3s rk≤1→(∀ id,nx≤id→id < (P8 T nx rs).2.2→¬ e.U id)→c.w0.heap.size≤B→(∀ j b o,(of j).isSome→e.ι j=some (b,o)→b < B)→(∀ a b,e.G a b→b < B) →
  nx≤(P8 T nx rs).2.2∧∃ e':A8,e'.w=e.w∧A5 T c e' (put of (P8 T nx rs).2.1)∧e.le e'∧(∀ id,e'.U id→e.U id∨(nx≤id∧id < (P8 T nx rs).2.2))∧P3 T e' (P8 T nx rs).1 vs:=by
 intro rk rs vs e of hos h
 induction h with
 | nil=>intro _ _ _ _ _;exact ⟨Nat.le_refl _,e,rfl,hos,A8.le.refl e,fun _ hu=>.inl hu,.nil⟩
 | d h1 h2 h3 h4 hr ih =>
  intro hc hu hB hb hGB
  obtain ⟨g0,e',g1,g2,g3,g4,g5⟩:=ih hc hu hB hb hGB
  exact ⟨g0,e',g1,g2,g3,g4,.cons (A9V h1 (h3.mono g3) h4) g5⟩
 | @n el rk rs vs hz hr ih =>
  intro hc hu hB hb hGB
  have hc0:A3s rk=0:=by simp only [A3s] at hc;omega
  obtain ⟨p,q⟩:=hr.data (nx:=nx+1) hc0
  have e1:(P8 T nx (.r el [] true::rs)).2.2=nx+1:=by simp only [P8];rw [p]
  have e2:(P8 T nx (.r el [] true::rs)).2.1=[(nx,.row el 1 [] true false)]:=by simp only [P8];rw [p]
  have hun:¬ e.U nx:=hu nx (Nat.le_refl _) (by rw [e1];omega)
  have hle:=hos.le_nil (el:=el) hun
  refine ⟨by rw [e1];omega,e.nil nx el,rfl,by rw [e2];exact hos.nil hun rfl hz,hle,fun id A7=>?_,?_⟩
  ·rcases A7 with rfl | A7
   ·exact .inr ⟨Nat.le_refl _,by rw [e1];omega⟩
   ·exact .inl A7
  ·simp only [P8]
   exact .cons (A2F (.inl rfl) (upd_same _ _ _) (by omega) (upd_same _ _ _) (upd_same _ _ _)) (q.mono hle)
 | @r el xs b o cs fz pre ys post k cap rk rs vs hz hfl hb1 h4 h5 h6 h7 h8 h9 h10 h11 h12 h13 hr ih =>
  intro hc hu hB hb hGB
  have hc0:A3s rk=0:=by simp only [A3s] at hc;omega
  obtain ⟨p,q⟩:=hr.data (nx:=nx+1) hc0
  have e1:(P8 T nx (.r el xs false::rs)).2.2=nx+1:=by simp only [P8];rw [p]
  have e2:(P8 T nx (.r el xs false::rs)).2.1=[(nx,.row el 1 xs false false)]:=by simp only [P8];rw [p]
  have hun:¬ e.U nx:=hu nx (Nat.le_refl _) (by rw [e1];omega)
  obtain ⟨g1,hle⟩:=hos.adopt (id:=nx) hun hz h4 h5 h6 h7 h8 h9 h10 (Nat.le_trans hB hb1) (fun j b' o' hj hι hq=>by have:=hb j b' o' hj hι;omega) (fun a hG=>by have:=hGB a b hG;omega)
  refine ⟨by rw [e1];omega,e.adopt nx b o el xs.length,rfl,by rw [e2];exact g1,hle,fun id A7=>?_,?_⟩
  ·rcases A7 with rfl | A7
   ·exact .inr ⟨Nat.le_refl _,by rw [e1];omega⟩
   ·exact .inl A7
  ·simp only [P8]
   refine .cons ?_ (q.mono hle)
   have ln:(e.adopt nx b o el xs.length).ln nx=xs.length:=upd_same _ _ _
   have:=A0u (T:=T) (e:=e.adopt nx b o el xs.length) (id:=nx) (ver:=1) (b:=b) (o:=o) (cap:=cap) (.inl rfl) (upd_same _ _ _) (by omega) (upd_same _ _ _) (by rw [ln];exact h11) (by
    rw [show (e.adopt nx b o el xs.length).ty nx=el from upd_same _ _ _,N1 (show (e.adopt nx b o el xs.length).w.heap[b]? = _ from h4)];exact h12) (k:=k) h13
   rw [ln] at this
   exact this
variable {P:Program} {T:TT} {R:Type} {c:F1} {e:A8} {of:Nat→Option Ob}
def TV (T:TT) (ts:List Nat) (xs:List V):Prop:=∃ e vs,RP T e ts xs vs
theorem A3M {α β:Type} {o:Option α} {k:α→Option β} {b:β} (h:ob o k=some b):∃ a,o=some a∧k a=some b:=by
 cases o with
 | none=>cases h
 | some a=>exact ⟨a,rfl,h⟩
theorem B45 {nx:Nat}:∀ {rs:List Rs} {nx:Nat},∀ a∈(P8 T nx rs).1,∀ l,a≠.t l:=by
 intro rs
 induction rs with
 | nil=>intro nx a ha;simp [P8] at ha
 | cons r rs ih =>
  intro nx a ha
  cases r with
  | d t y =>
   simp only [P8,List.mem_cons] at ha
   rcases ha with rfl | ha
   ·exact A1t _ _
   ·exact ih a ha
  | r el xs nl =>
   simp only [P8,List.mem_cons] at ha
   rcases ha with rfl | ha
   ·intro l h;cases h
   ·exact ih a ha
theorem B46 {nx:Nat} {rs:List Rs}:(P8 T nx rs).1.length=rs.length:=by
 induction rs generalizing nx with
 | nil=>rfl
 | cons r rs ih=>cases r<;>simp [P8,ih]
theorem C0d {sh:Bool} {of:Nat→Option Ob}:∀ {rk:List RK} {l:List A} {ys:List V} {rs:List Rs},rL T sh of l ys rk=some rs→rs.length=rk.length:=by
 intro rk
 induction rk with
 | nil=>intro l ys rs h;cases l<;>cases ys<;>simp [rL] at h;subst h;rfl
 | cons k rk ih =>
  intro l ys rs h
  cases l with
  | nil=>cases k<;>simp [rL] at h
  | cons a l=>cases ys with
   | nil=>cases k<;>simp [rL] at h
   | cons y ys =>
    cases k with
    | d t =>
     simp only [rL] at h
     split at h<;>try (cases h;done)
     rename_i rs' h'
     simp only [C3q] at h;subst h
     simp [ih h']
    | r el =>
     simp only [rL] at h
     split at h<;>try (cases h;done)
     split at h<;>try (cases h;done)
     rename_i rs' h'
     simp only [C3q] at h;subst h
     simp [ih h']
theorem A9W:∀ {l:List A} {xs:List Value},xs.length=l.length→(∀ (i:Nat) v x,l[i]? = some v→xs[i]? = some x→E2 T e v x)→P3 T e l xs:=by
 intro l
 induction l with
 | nil=>intro xs h _;cases xs with
  | nil=>exact .nil
  | cons _ _=>simp at h
 | cons a l ih =>
  intro xs h hr
  cases xs with
  | nil=>simp at h
  | cons x xs =>
   refine .cons ?_ (ih (by simpa using h) (fun i v x hv hx=>hr (i+1) v x (by simpa using hv) (by simpa using hx)))
   have:=hr 0 a x rfl rfl
   cases a with
   | t l=>exact this.elim
   | _=>exact this
theorem A9X {l:List A} {xs:List Value} (h:P3 T e l xs) (hn:∀ a∈l,∀ m,a≠.t m):B3 T e (.t l) (.tuple xs.toArray):=by
 obtain ⟨h1,h2⟩:=h.get
 refine ⟨xs.toArray,rfl,by simpa using h1,fun i v x hv hx=>?_⟩
 exact B0D (h2 i v x hv (by simpa using hx)) (hn v (List.mem_of_getElem? hv))
theorem A65 {f:FuncId} {s:J4} (hn:s.nat) (hs:C0 P T f s.dir) {sh:Bool} {ts:List Nat} {rk:List RK} {F:FC} (hFn:F.nat) (hts:ts.all (fun t=>(T t).isSome)=true)
  (hF:∀ xs rs,TV T ts xs→F (List Rs) xs some=some rs→s (List Rs) (E0 T ts xs) (fun _=>none) 0 (fun out=>E7 T sh rk out)=some rs):C0 P T f (C1 T sh ts F).dir:=by
 intro c e of of' args vals nx out hos hrun hro hu hvals
 unfold J4.dir C1 at hrun
 rw [A8o] at hrun
 obtain ⟨⟨xs,wo⟩,hargs,hrun⟩:=A3M hrun
 simp only at hrun
 rw [hFn M8] at hrun
 obtain ⟨rs,hrs,hout⟩:=A3M hrun
 injection hout with hout
 subst hout
 obtain ⟨eS,s1,s2,s3,s4,s5⟩:=A4L hos hargs hro hvals
 have hrun0:=hF xs rs ⟨_,_,s5⟩ hrs
 rw [hn] at hrun0
 obtain ⟨out0,hout0,hres⟩:=A3M hrun0
 let e0:A8:={ w:=e.w,ι:=fun _=>none,S:=eS.S,bn:=fun _=>0,U:=fun _=>False,ty:=fun _=>0,ln:=fun _=>0,G:=fun _ _=>False }
 let c0:F1:={ w0:=e.w,M:=fun _=>False,S0:=eS.S }
 have hos0:A5 T c0 e0 (fun _=>none):=⟨fun _ _ h=>(by cases h),fun _ _ _ _ _ _ h=>(by cases h),fun _ _ _ h=>(by cases h),fun _ _ _ h=>False.elim h,fun b i h=>by have:=s2.slt b i h;rwa [s1] at this,fun _ _ h=>h,fun _ _ h=>.inl h,rfl,rfl,rfl,Nat.le_refl _,fun _ _ _=>rfl,⟨fun _ _ h=>h.elim,fun _ _ _ h=>h.elim,fun _ _ h=>h.elim,fun _ _ h=>h.elim⟩⟩
 have hreps0:P3 T e0 (E0 T ts xs) vals.toList:=(s5.change (e':=e0) (fun a ds q=>⟨q.1,fun j y hj=>by
  obtain ⟨p1,p2⟩:=q.2 j y hj
  rw [s1] at p1
  exact ⟨p1,p2⟩⟩)).reps hts
 refine C8 (hs c0 e0 (fun _=>none) (fun _=>none) _ vals 0 out0 hos0 hout0 (fun _ _=>rfl) (fun _ _ _ h=>h) hreps0) ?_
 rintro x w' ⟨e1,rfl,k1,k2,k3,k4⟩
 obtain ⟨vs,hvs,hx⟩:∃ vs,P3 T e1 (B7k out0.val) vs∧((isT out0.val=true∧x=.tuple vs.toArray)∨(isT out0.val=false∧vs=[x])):=by
  cases hv:out0.val with
  | t l =>
   rw [hv] at k4
   obtain ⟨X,rfl,h2,h3⟩:=k4
   exact ⟨X.toList,A9W (by simpa [B7k] using h2) (fun i v x a b=>h3 i v x a (by simpa using b)),.inl ⟨rfl,by simp⟩⟩
  | _=>rw [hv] at k4;exact ⟨[x],.cons k4 .nil,.inr ⟨rfl,rfl⟩⟩
 unfold E7 at hres
 cases hsh1:(Nat.beq rk.length 1 == isT out0.val) with
 | true=>rw [hsh1] at hres;cases hres
 | false =>
 rw [hsh1] at hres
 simp only [cond_false] at hres
 split at hres<;>try (cases hres;done)
 rename_i ys w2 hdl
 cases hcnt:Nat.ble (A3s rk) 1 with
 | false=>rw [hcnt] at hres;cases hres
 | true =>
 rw [hcnt] at hres
 simp only [cond_true] at hres
 obtain ⟨e2,q1,q2,q3,q4,q6,q5⟩:=B7n k1 hdl hvs
 have hRR:=q5 rs hres e.w.heap.size (fun id el v xs nl sh' b o A7 hι=>by
  rcases q2.own id b o (by rw [A7];rfl) hι with h | h
  ·exact h
  ·exact h.elim)
 obtain ⟨eK,ofK,t1,t2,t3,t4,t5,t6⟩:∃ (eK:A8) (ofK:Nat→Option Ob),eK.w=e.w∧A5 T c eK ofK∧e.le eK∧(∀ j,eK.U j→e.U j)∧(sh=true→∀ b i,eS.S b i→eK.S b i)∧put of' (bif sh then A0p of wo else [])=ofK:=by
  cases sh with
  | true =>
   refine ⟨eS,put of' wo,s1,s2,s3,s4,fun _ _ _ h=>h,?_⟩
   have hall:V8 of' wo:=fun p hp=>by
    rw [hro p.1 (List.mem_map.2 ⟨p,hp,rfl⟩)];exact B44 hargs p hp
   show put of' (A0p of wo)=_
   rw [A3W hro,A7m hall]
  | false=>exact ⟨e,of',rfl,hos,A8.le.refl e,fun _ h=>h,fun h=>(by cases h),rfl⟩
 have hsz:eK.w.heap.size=e.w.heap.size:=by rw [t1]
 obtain ⟨g1,g2⟩:=t2.grown (w':=e2.w) (S2:=e2.S) (by rw [hsz];exact q2.size) (fun b hb=>by rw [t1];exact q2.block b (by rw [← hsz];exact hb) (fun h=>h)) (by rw [t1];exact q2.os) (by rw [t1];exact q2.tape) (by rw [t1];exact q2.output) (fun b i h=>q2.slt b i h)
 have hRA:RR T sh (eK.grown e2.w e2.S) e.w.heap.size rk rs vs:=RR.flat (e:=e2) (e':=eK.grown e2.w e2.S) rfl (fun hsh a ds q=>⟨q.1,fun j y hj=>by
   obtain ⟨p1,p2⟩:=q.2 j y hj
   refine ⟨p1,?_⟩
   rcases q2.snew _ _ p2 with h | h | h
   ·exact .inl (t5 hsh _ _ h)
   ·exact .inr ⟨by rw [hsz];exact h,p2⟩
   ·exact h.elim⟩) (fun b i hB hS=>by
   rcases hS with h | h
   ·have:=t2.slt b i h;omega
   ·exact h.2) hRR
 obtain ⟨u0,e',u1,u2,u3,u4,u5⟩:=RR.take (nx:=nx) g1 hRA (C3t hcnt) (fun id h1 h2 hU=>hu id h1 h2 (t4 id hU)) hos.size (fun j b o hj hι=>by
  have:=t2.lt j b o (t2.ok j _ (Option.some_get hj).symm).use hι
  rwa [hsz] at this) (fun a b hG=>by
  have:=t2.g.lt a b hG
  rwa [hsz] at this)
 refine ⟨e',u1.trans q1,?_,t3.trans (g2.trans u3),fun id A7=>(u4 id A7).imp (t4 id) (fun h=>h),?_⟩
 ·show A5 T c e' (put of' ((bif sh then A0p of wo else [])++(P8 T nx rs).2.1))
  rw [F8,t6];exact u2
 ·show B3 T e' (B7m (P8 T nx rs).1) x
  have hlen:(P8 T nx rs).1.length=rk.length:=by rw [B46,C0d hres]
  rcases hx with ⟨ht,rfl⟩ | ⟨ht,rfl⟩
  ·have hne:(P8 T nx rs).1.length≠1:=by
    rw [hlen];intro h;rw [h,ht] at hsh1;cases hsh1
   have:B7m (P8 T nx rs).1=.t (P8 T nx rs).1:=by
    unfold B7m
    split
    ·rename_i a h;rw [h] at hne;exact absurd rfl hne
    ·rfl
   rw [this]
   exact A9X u5 (B45 (nx:=nx))
  ·have h1:=u5.get.1
   obtain ⟨a,ha⟩:∃ a,(P8 T nx rs).1=[a]:=List.length_eq_one_iff.1 (by simpa using h1.symm)
   rw [ha] at u5 ⊢
   cases u5 with
   | cons h _=>exact h
variable {P:Program} {T:TT} {R:Type}
def noC:J4:=fun _ _ _ _ _=>none
theorem B0P:noC.nat:=fun _ _ _ _ _=>rfl
theorem C0e {f:FuncId}:C0 P T f noC.dir:=fun c e of of' args vals nx out _ h=>by cases h
def A1Q:List (Nat×J4)→Nat→Option J4
 | [],_=>none
 | (k,s)::r,f=>bif Nat.beq k f then some s else A1Q r f
def M3 (P:Program) (T:TT) (tab:List (Nat×J4)):Prop:=∀ f s,(f,s)∈tab→s.nat∧C0 P T f s.dir
theorem B2k:M3 P T []:=fun f s h=>by cases h
theorem M3.cons {tab:List (Nat×J4)} (h:M3 P T tab) {f:Nat} {s:J4} (hn:s.nat) (hs:C0 P T f s.dir):M3 P T ((f,s)::tab):=by
 intro g s' hg
 rcases List.mem_cons.1 hg with hq | hg
 ·cases hq;exact ⟨hn,hs⟩
 ·exact h g s' hg
theorem A0H:∀ {tab:List (Nat×J4)} {f:Nat} {s:J4},A1Q tab f=some s→(f,s)∈tab:=by
 intro tab
 induction tab with
 | nil=>intro f s h;cases h
 | cons p r ih =>
  intro f s h
  obtain ⟨k,s'⟩:=p
  simp only [A1Q] at h
  cases hk:Nat.beq k f with
  | true =>
   rw [hk] at h;simp only [cond_true,C3q] at h
   have:=C3n hk;subst this;subst h
   exact List.mem_cons_self ..
  | false=>rw [hk] at h;exact List.mem_cons_of_mem _ (ih h)
def U3 (P:Program) (T:TT) (tab:List (Nat×J4)) (fl:Bool) (fu:Nat):Nat→KC
 | 0=>⟨fun f=>match A1Q tab f with
  | some s=>s
  | none=>noC,fun _=>noC,fun _=>false⟩
 | d+1=>⟨fun f=>match A1Q tab f with
  | some s=>s
  | none=>P4 P T (U3 P T tab fl fu d) (fun _ _=>none) fl fu f,fun id=>A1W T (U3 P T tab fl fu d) fl fu id,A1X P⟩
theorem H3 {tab:List (Nat×J4)} (h:M3 P T tab) {fl:Bool} {fu:Nat}:∀ d,(U3 P T tab fl fu d).nat:=by
 intro d
 induction d with
 | zero =>
  refine ⟨fun f=>?_,fun _=>B0P⟩
  show (match A1Q tab f with
   | some s=>s
   | none=>noC).nat
  split
  ·rename_i s hs;exact (h f s (A0H hs)).1
  ·exact B0P
 | succ d ih =>
  refine ⟨fun f=>?_,fun id=>A9b ih⟩
  show (match A1Q tab f with
   | some s=>s
   | none=>P4 P T (U3 P T tab fl fu d) (fun _ _=>none) fl fu f).nat
  split
  ·rename_i s hs;exact (h f s (A0H hs)).1
  ·exact A1v ih (fun _=>G0)
theorem T8 (hm:P.follows .mixedOrders=true) (hT:F4 T P) {tab:List (Nat×J4)} (h:M3 P T tab) {fl:Bool} {fu:Nat}:∀ d,KOK P T (U3 P T tab fl fu d).dir:=by
 intro d
 induction d with
 | zero =>
  refine ⟨fun f=>?_,fun id c e of of' args vals nx out b _ hr=>(by cases hr),fun f h=>(by cases h)⟩
  show C0 P T f (match A1Q tab f with
   | some s=>s
   | none=>noC).dir
  split
  ·rename_i s hs;exact (h f s (A0H hs)).2
  ·exact C0e
 | succ d ih =>
  refine ⟨fun f=>?_,fun id=>?_,fun f h=>A5W h⟩
  ·show C0 P T f (match A1Q tab f with
    | some s=>s
    | none=>P4 P T (U3 P T tab fl fu d) (fun _ _=>none) fl fu f).dir
   split
   ·rename_i s hs;exact (h f s (A0H hs)).2
   ·exact A2l hm hT (H3 h d) ih (fun _=>G0) (fun n0 fn code _ _=>D7 code)
  ·show YOK P T id (A1W T (U3 P T tab fl fu d) fl fu id).dir
   rw [A4f (H3 h d)]
   exact A5V hm hT ih
structure A0e (P:Program) (T:TT) (f:Nat) (Lo:Nat→LC):Prop where
 nat:∀ n0,A2j (Lo n0)
 ok:∀ n0 fn code,P.funcs[f]? = some fn→fn.body=some code→K8 P T fn.ntmps n0 (Z1 (Lo n0)) code
theorem A8p {f:Nat}:A0e P T f (fun _ _=>none):=⟨fun _=>G0,fun n0 fn code _ _=>D7 code⟩
theorem A8q (hm:P.follows .mixedOrders=true) (hT:F4 T P) {tab:List (Nat×J4)} (h:M3 P T tab) {f d fu:Nat} {Lo:Nat→LC} {sh:Bool} {ts:List Nat} {rk:List RK} {F:FC} (hFn:F.nat) (hts:ts.all (fun t=>(T t).isSome)=true)
  (hL:A0e P T f Lo)
  (hF:∀ xs rs,TV T ts xs→F (List Rs) xs some=some rs→P4 P T (U3 P T tab false fu d) Lo false fu f (List Rs) (E0 T ts xs) (fun _=>none) 0 (fun out=>E7 T sh rk out)=some rs) :
  M3 P T ((f,C1 T sh ts F)::tab) :=
 h.cons (A58 hFn) (A65 (A1v (H3 h d) hL.nat) (A2l hm hT (H3 h d) (T8 hm hT h d) hL.nat hL.ok) hFn hts hF)
theorem M3.run (hm:P.follows .mixedOrders=true) (hT:F4 T P) {tab:List (Nat×J4)} (h:M3 P T tab) {f d fu:Nat} {Lo:Nat→LC} (hL:A0e P T f Lo):M3 P T ((f,P4 P T (U3 P T tab false fu d) Lo false fu f)::tab) :=
 h.cons (A1v (H3 h d) hL.nat) (A2l hm hT (H3 h d) (T8 hm hT h d) hL.nat hL.ok)
variable {P:Program} {T:TT} {R:Type}
def lpC {p q:Type} (B:p→(p→Option R)→(q→Option R)→Option R):Nat→p→(q→Option R)→Option R
 | 0,_,_=>none
 | n+1,x,kx=>B x (fun x'=>lpC B n x' kx) kx
def A7 (n:Nat):Nat:=Classical.choose (⟨n,rfl⟩:∃ m,m=n)
theorem A4M (n:Nat):A7 n=n:=Classical.choose_spec (⟨n,rfl⟩:∃ m,m=n)
abbrev FU:Nat:=4611686018427387904
def W6 (n0:Nat) (ks:List Nat) (F3:Nat) (f:St→(Exit→St→Option R)→Option R):Nat→St→(Exit→St→Option R)→Option R
 | 0,_,_=>none
 | n+1,σ,k=>bif Nat.ble σ.nx F3 then (match σ.norm n0 ks with
  | some σn=>f σn fun ex σ1=>match ex with
   | .normal=>W6 n0 ks F3 f n σ1 k
   | ex=>bif Nat.ble σ1.nx F3 then (match σ1.norm n0 ks with
    | some σ2=>bif Nat.ble σ2.nx F3 then k ex { σ2 with nx:=F3 } else none
    | none=>none) else none
  | none=>none) else none
theorem A8r {n0 F3:Nat} {ks:List Nat} {f:St→(Exit→St→Option R)→Option R} {g:St→Option (Exit×St)} (h:∀ σ k,f σ k=ob2 (g σ) k):∀ (n:Nat) (σ:St) (k:Exit→St→Option R),W6 n0 ks F3 f n σ k=ob2 (R0 n0 ks F3 g n σ) k:=by
 intro n
 induction n with
 | zero=>intro σ k;rfl
 | succ n ih =>
  intro σ k
  simp only [W6,R0,h]
  cases Nat.ble σ.nx F3
  ·rfl
  ·simp only [cond_true]
   cases σ.norm n0 ks with
   | none=>rfl
   | some σn =>
    simp only
    cases g σn with
    | none=>rfl
    | some p =>
     obtain ⟨ex,σ1⟩:=p
     simp only [ob2]
     cases ex with
     | normal=>exact ih σ1 k
     | _ =>
      simp only
      cases Nat.ble σ1.nx F3
      ·rfl
      ·simp only [cond_true]
       cases σ1.norm n0 ks with
       | none=>rfl
       | some σ2=>simp only;cases Nat.ble σ2.nx F3<;>rfl
def A59 (n0:Nat) (ks:List Nat) (F3:Nat) (K:St→Option R) (kx:Exit→St→Option R):Exit→St→Option R:=fun ex σ1=>match ex with
 | .normal=>bif Nat.ble σ1.nx F3 then (match σ1.norm n0 ks with
  | some σn=>K σn
  | none=>none) else none
 | ex=>bif Nat.ble σ1.nx F3 then (match σ1.norm n0 ks with
  | some σ2=>bif Nat.ble σ2.nx F3 then kx ex { σ2 with nx:=F3 } else none
  | none=>none) else none
theorem B47 {p q:Type} {n0 F3:Nat} {ks:List Nat} {f:St→(Exit→St→Option R)→Option R} (tm:p→St) (B:p→(p→Option R)→(q→Option R)→Option R) (ek:(Exit→St→Option R)→q→Option R)
  (hstep:∀ (x:p) (K:St→Option R) (kx:Exit→St→Option R),f (tm x) (A59 n0 ks F3 K kx)=B x (fun x'=>K (tm x')) (ek kx)) :
  ∀ (n:Nat) (x:p) (σ:St) (k:Exit→St→Option R),σ.norm n0 ks=some (tm x)→Nat.ble σ.nx F3=true→W6 n0 ks F3 f n σ k=lpC B n x (ek k):=by
 intro n
 have key:∀ n (k:Exit→St→Option R),∃ G:St→Option R,(∀ x,G (tm x)=lpC B n x (ek k))∧∀ σ,W6 n0 ks F3 f n σ k=bif Nat.ble σ.nx F3 then (match σ.norm n0 ks with | some σn=>G σn | none=>none) else none:=by
  intro n
  induction n with
  | zero =>
   intro k
   refine ⟨fun _=>none,fun x=>rfl,fun σ=>?_⟩
   simp only [W6]
   cases Nat.ble σ.nx F3
   ·rfl
   ·simp only [cond_true];cases σ.norm n0 ks<;>rfl
  | succ n ih =>
   intro k
   obtain ⟨G,g1,g2⟩:=ih k
   refine ⟨fun τ=>f τ (A59 n0 ks F3 G k),fun x=>?_,fun σ=>?_⟩
   ·simp only
    rw [hstep x G k,lpC]
    congr 1
    funext x'
    exact g1 x'
   ·simp only [W6]
    have:∀ σn,(f σn fun ex σ1=>match ex with
      | .normal=>W6 n0 ks F3 f n σ1 k
      | ex=>bif Nat.ble σ1.nx F3 then (match σ1.norm n0 ks with
       | some σ2=>bif Nat.ble σ2.nx F3 then k ex { σ2 with nx:=F3 } else none
       | none=>none) else none)=f σn (A59 n0 ks F3 G k):=by
     intro σn
     congr 1
     funext ex σ1
     cases ex with
     | normal=>exact g2 σ1
     | _=>rfl
    cases Nat.ble σ.nx F3
    ·rfl
    ·simp only [cond_true]
     cases σ.norm n0 ks with
     | none=>rfl
     | some σn=>exact this σn
 intro x σ k hn hb
 obtain ⟨G,g1,g2⟩:=key n k
 rw [g2,hb,cond_true,hn]
 exact g1 x
theorem A4N {n0 F3:Nat} {ks:List Nat} {f:St→Option (Exit×St)} {n:Nat} {σ:St} (h:Nat.ble σ.nx F3=false∨σ.norm n0 ks=none):R0 n0 ks F3 f n σ=none:=by
 cases n with
 | zero=>rfl
 | succ n =>
  simp only [R0]
  rcases h with h | h
  ·rw [h];rfl
  ·rw [h];cases Nat.ble σ.nx F3<;>rfl
def A2A {p q:Type} (T:TT) (K:KC) (LoI:LC) (nt:Nat) (b:Code) (n0:Nat) (ks:List Nat) (F3:Nat) (ext:St→Option p) (B:(R:Type)→p→(p→Option R)→(q→Option R)→Option R) (ek:(R:Type)→(Exit→St→Option R)→q→Option R):LS:=fun R of σ k =>
 bif Nat.ble σ.nx F3 then (match σ.norm n0 ks with
  | some τ=>match ext τ with
   | some x=>lpC (B R) (A7 FU) x (ek R k)
   | none=>ob2 (R0 n0 ks F3 (fun σ=>G1 T K.dir (Z1 LoI) FU nt of b σ) FU σ) k
  | none=>none) else none
theorem B48 {p q:Type} {K:KC} (hK:K.nat) {LoI:LC} (hLI:A2j LoI) {nt:Nat} {b:Code} {n0:Nat} {ks:List Nat} {F3:Nat} {ext:St→Option p} {B:(R:Type)→p→(p→Option R)→(q→Option R)→Option R} {ek:(R:Type)→(Exit→St→Option R)→q→Option R} (tm:p→St)
  (hext:∀ τ x,ext τ=some x→τ=tm x)
  (hstep:∀ (R:Type) (of:Nat→Option Ob) (x:p) (K':St→Option R) (kx:Exit→St→Option R),R4 T K LoI false FU nt of R b (tm x) (A59 n0 ks F3 K' kx)=B R x (fun x'=>K' (tm x')) (ek R kx))
  (R:Type) (of:Nat→Option Ob) (σ:St) (k:Exit→St→Option R) :
  A2A T K LoI nt b n0 ks F3 ext B ek R of σ k=ob2 (R0 n0 ks F3 (fun σ=>G1 T K.dir (Z1 LoI) FU nt of b σ) FU σ) k:=by
 have hun:=A8r (R:=R) (n0:=n0) (F3:=F3) (ks:=ks) (f:=fun σ k=>R4 T K LoI false FU nt of R b σ k) (g:=fun σ=>G1 T K.dir (Z1 LoI) FU nt of b σ) (fun σ k=>A2k hK hLI of R b σ k) FU σ k
 unfold A2A
 cases hb:Nat.ble σ.nx F3 with
 | false =>
  simp only [cond_false]
  rw [A4N (.inl hb)];rfl
 | true =>
  simp only [cond_true]
  cases hn:σ.norm n0 ks with
  | none =>
   rw [A4N (.inr hn)];rfl
  | some τ =>
   simp only
   cases hx:ext τ with
   | none=>rfl
   | some x =>
    simp only
    rw [A4M,← hun]
    exact (B47 tm (B R) (ek R) (hstep R of) FU x σ k (by rw [hn,hext τ x hx]) hb).symm
def B2l {p:Type} (ext:St→Option p) (tm:p→St):Prop:=∀ τ x,ext τ=some x→τ=tm x
def A6a {p q:Type} (T:TT) (K:KC) (LoI:LC) (nt:Nat) (b:Code) (n0:Nat) (ks:List Nat) (F3:Nat) (tm:p→St) (B:(R:Type)→p→(p→Option R)→(q→Option R)→Option R) (ek:(R:Type)→(Exit→St→Option R)→q→Option R):Prop :=
 ∀ (R:Type) (of:Nat→Option Ob) (x:p) (K':St→Option R) (kx:Exit→St→Option R),R4 T K LoI false FU nt of R b (tm x) (A59 n0 ks F3 K' kx)=B R x (fun x'=>K' (tm x')) (ek R kx)
def A0f (P:Program) (T:TT) (nt n0:Nat) (b:Code) (s:LS):Prop:=s.nat∧∀ of σ ex σ',s.dir of σ=some (ex,σ')→A2n P T nt n0 of (.loop b) σ ex σ'
theorem A0I (hm:P.follows .mixedOrders=true) (hT:F4 T P) {p q:Type} {K:KC} (hK:K.nat) (hS:KOK P T K.dir) {LoI:LC} (hLI:A2j LoI) {nt:Nat} {b:Code} {n0:Nat} (hO:K8 P T nt n0 (Z1 LoI) b) {ks:List Nat} {F3:Nat} {ext:St→Option p} {B:(R:Type)→p→(p→Option R)→(q→Option R)→Option R} {ek:(R:Type)→(Exit→St→Option R)→q→Option R} (tm:p→St)
  (hext:∀ τ x,ext τ=some x→τ=tm x)
  (hstep:∀ (R:Type) (of:Nat→Option Ob) (x:p) (K':St→Option R) (kx:Exit→St→Option R),R4 T K LoI false FU nt of R b (tm x) (A59 n0 ks F3 K' kx)=B R x (fun x'=>K' (tm x')) (ek R kx)) :
  A0f P T nt n0 b (A2A T K LoI nt b n0 ks F3 ext B ek):=by
 have heq:=B48 (F3:=F3) (ks:=ks) (n0:=n0) hK hLI tm hext hstep
 refine ⟨fun R of σ k=>?_,fun of σ ex σ' h=>?_⟩
 ·rw [heq R,heq (Exit×St)]
  cases R0 n0 ks F3 (fun σ=>G1 T K.dir (Z1 LoI) FU nt of b σ) FU σ<;>rfl
 ·unfold LS.dir at h
  rw [heq] at h
  have h':R0 n0 ks F3 (fun σ=>G1 T K.dir (Z1 LoI) FU nt of b σ) FU σ=some (ex,σ'):=by
   cases hq:R0 n0 ks F3 (fun σ=>G1 T K.dir (Z1 LoI) FU nt of b σ) FU σ with
   | none=>rw [hq] at h;cases h
   | some p=>rw [hq] at h;exact h
  exact A5e (fun σ ex σ' h=>A3G hm hT hS b hO σ ex σ' h) h'
def H8:Code→List Code
 | .seq x y=>H8 x++H8 y
 | .cond _ x y=>H8 x++H8 y
 | .block _ b=>H8 b
 | .loop b=>b::H8 b
 | _=>[]
def A4O:Code→Nat
 | .region id _ _=>id
 | .seq x _=>A4O x
 | .cond _ x _=>A4O x
 | .block _ b=>A4O b
 | .loop b=>A4O b
 | _=>0
def lp (c:Code) (i:Nat):Code:=(H8 c).getD i .skip
def B0Q:List (Nat×LS)→Nat→Option LS
 | [],_=>none
 | (k,s)::r,i=>bif Nat.beq k i then some s else B0Q r i
def loT (l:List (Nat×LS)):LC:=fun b=>B0Q l (A4O b)
theorem B2m:∀ {l:List (Nat×LS)} {i:Nat} {s:LS},B0Q l i=some s→∃ k,(k,s)∈l:=by
 intro l
 induction l with
 | nil=>intro i s h;cases h
 | cons p r ih =>
  intro i s h
  obtain ⟨k,s'⟩:=p
  simp only [B0Q] at h
  cases hk:Nat.beq k i with
  | true=>rw [hk] at h;simp only [cond_true,C3q] at h;subst h;exact ⟨k,List.mem_cons_self ..⟩
  | false=>rw [hk] at h;obtain ⟨j,hj⟩:=ih h;exact ⟨j,List.mem_cons_of_mem _ hj⟩
theorem B7o {l:List (Nat×LS)} (h:∀ p∈l,LS.nat p.2):A2j (loT l):=fun b s hs=>by
 obtain ⟨k,hk⟩:=B2m hs
 exact h _ hk
theorem A9Y {Lo:A4j} {nt n0:Nat}:∀ c:Code,(∀ b∈H8 c,∀ s,Lo b=some s→∀ of σ ex σ',s of σ=some (ex,σ')→A2n P T nt n0 of (.loop b) σ ex σ')→K8 P T nt n0 Lo c:=by
 intro c
 induction c with
 | seq x y ihx ihy=>intro h;exact ⟨ihx (fun b hb=>h b (by simp [H8,hb])),ihy (fun b hb=>h b (by simp [H8,hb]))⟩
 | cond q x y ihx ihy=>intro h;exact ⟨ihx (fun b hb=>h b (by simp [H8,hb])),ihy (fun b hb=>h b (by simp [H8,hb]))⟩
 | block id b ih=>intro h;exact ih (fun b hb=>h b (by simpa [H8] using hb))
 | loop b ih=>intro h;exact ⟨h b (by simp [H8]),ih (fun b' hb=>h b' (by simp [H8,hb]))⟩
 | _=>intro _;trivial
def B7p (P:Program) (T:TT) (Lo:LC) (nt n0:Nat) (c:Code):Nat→Prop
 | 0=>True
 | n+1=>B7p P T Lo nt n0 c n∧∀ s,Lo (lp c n)=some s→A0f P T nt n0 (lp c n) s
theorem loI {Lo:LC} {nt n0:Nat} {c:Code} {i:Nat} {s0:LS} (h0:Lo (lp c i)=some s0) (h:A0f P T nt n0 (lp c i) s0):∀ s,Lo (lp c i)=some s→A0f P T nt n0 (lp c i) s:=by
 intro s hs;rw [h0] at hs;cases hs;exact h
theorem A9Z {Lo:LC} {nt n0:Nat} {c:Code} (n:Nat) (hn:Nat.beq (H8 c).length n=true) (h:B7p P T Lo nt n0 c n):K8 P T nt n0 (Z1 Lo) c:=by
 have hn:=C3n hn
 have key:∀ n,B7p P T Lo nt n0 c n→∀ i,i < n→∀ s,Lo (lp c i)=some s→A0f P T nt n0 (lp c i) s:=by
  intro n
  induction n with
  | zero=>intro _ i hi;omega
  | succ n ih =>
   intro h i hi
   by_cases hin:i=n
   ·subst hin;exact h.2
   ·exact ih h.1 i (by omega)
 refine A9Y c (fun b hb s hs=>?_)
 obtain ⟨i,hi,rfl⟩:=List.mem_iff_getElem.1 hb
 have e:lp c i=(H8 c)[i]:=by unfold lp;simp [List.getD,hi]
 rw [← e] at hs ⊢
 unfold Z1 at hs
 cases hq:Lo (lp c i) with
 | none=>rw [hq] at hs;cases hs
 | some s0 =>
  rw [hq] at hs
  injection hs with hs;subst hs
  exact (key n h i (by omega) s0 hq).2
def A66 (P:Program) (f:Nat):Code :=
 match P.funcs[f]? with
 | some fn=>match fn.body with
  | some c=>c
  | none=>.skip
 | none=>.skip
def C0f (P:Program) (f:Nat):Nat :=
 match P.funcs[f]? with
 | some fn=>fn.ntmps
 | none=>0
def atN (n0:Nat) (l:List (Nat×LS)):Nat→LC:=fun n=>bif Nat.beq n n0 then loT l else fun _=>none
theorem A1E {f:Nat} (n0:Nat) {l:List (Nat×LS)} (hn:∀ p∈l,LS.nat p.2) (n:Nat) (hl:Nat.beq (H8 (A66 P f)).length n=true) (h:B7p P T (loT l) (C0f P f) n0 (A66 P f) n):A0e P T f (atN n0 l):=by
 refine ⟨fun m=>?_,fun m fn code h1 h2=>?_⟩
 ·unfold atN
  cases Nat.beq m n0
  ·exact G0
  ·exact B7o hn
 ·unfold atN
  cases hm:Nat.beq m n0 with
  | false=>exact D7 code
  | true =>
   have:=C3n hm;subst this
   simp only [cond_true]
   have:=A9Z n hl h
   simpa only [A66,C0f,h1,h2] using this
abbrev V7:Nat:=4294967296
def A2B (x n:Nat):Nat:=(x >>> n) ||| ((x <<< (32 - n)) % V7)
def sS0 (x:Nat):Nat:=(A2B x 7 ^^^ A2B x 18) ^^^ (x >>> 3)
def sS1 (x:Nat):Nat:=(A2B x 17 ^^^ A2B x 19) ^^^ (x >>> 10)
def bS0 (x:Nat):Nat:=(A2B x 2 ^^^ A2B x 13) ^^^ A2B x 22
def bS1 (x:Nat):Nat:=(A2B x 6 ^^^ A2B x 11) ^^^ A2B x 25
def chN (x y z:Nat):Nat:=(x &&& y) ^^^ ((4294967295 - x) &&& z)
def C0g (x y z:Nat):Nat:=((x &&& y) ^^^ (x &&& z)) ^^^ (y &&& z)
def A5f (l:List Nat):Nat:=(l.getD 15 0+sS0 (l.getD 14 0)+l.getD 6 0+sS1 (l.getD 1 0)) % V7
def A3t:Nat→List Nat→List Nat
 | 0,l=>l
 | n+1,l=>A03 (A5f l) fun x=>A3t n (x::l)
structure S8 where
 a:Nat
 b:Nat
 c:Nat
 d:Nat
 e:Nat
 f:Nat
 g:Nat
 h:Nat
def B49 (s:S8) (k w:Nat):S8 :=
 A03 (s.h+bS1 s.e+chN s.e s.f s.g+k+w) fun t=>A03 ((t+(bS0 s.a+C0g s.a s.b s.c)) % V7) fun a=>A03 ((s.d+t) % V7) fun e=>⟨a,s.a,s.b,s.c,e,s.e,s.f,s.g⟩
def B5a:List Nat→List Nat→S8→S8
 | k::ks,w::ws,s=>B5a ks ws (B49 s k w)
 | _,_,s=>s
def C0h (s x:S8):S8 :=
 A03 ((s.a+x.a) % V7) fun a=>A03 ((s.b+x.b) % V7) fun b=>A03 ((s.c+x.c) % V7) fun c=>A03 ((s.d+x.d) % V7) fun d=>A03 ((s.e+x.e) % V7) fun e=>A03 ((s.f+x.f) % V7) fun f=>A03 ((s.g+x.g) % V7) fun g=>A03 ((s.h+x.h) % V7) fun h=>⟨a,b,c,d,e,f,g,h⟩
def B0R:List Nat:=[0x428a2f98,0x71374491,0xb5c0fbcf,0xe9b5dba5,0x3956c25b,0x59f111f1,0x923f82a4,0xab1c5ed5,
 0xd807aa98,0x12835b01,0x243185be,0x550c7dc3,0x72be5d74,0x80deb1fe,0x9bdc06a7,0xc19bf174,
 0xe49b69c1,0xefbe4786,0x0fc19dc6,0x240ca1cc,0x2de92c6f,0x4a7484aa,0x5cb0a9dc,0x76f988da,
 0x983e5152,0xa831c66d,0xb00327c8,0xbf597fc7,0xc6e00bf3,0xd5a79147,0x06ca6351,0x14292967,
 0x27b70a85,0x2e1b2138,0x4d2c6dfc,0x53380d13,0x650a7354,0x766a0abb,0x81c2c92e,0x92722c85,
 0xa2bfe8a1,0xa81a664b,0xc24b8b70,0xc76c51a3,0xd192e819,0xd6990624,0xf40e3585,0x106aa070,
 0x19a4c116,0x1e376c08,0x2748774c,0x34b0bcb5,0x391c0cb3,0x4ed8aa4a,0x5b9cca4f,0x682e6ff3,
 0x748f82ee,0x78a5636f,0x84c87814,0x8cc70208,0x90befffa,0xa4506ceb,0xbef9a3f7,0xc67178f2]
def V2:Nat→List Nat→List Nat→List Nat
 | n+1,b0::b1::b2::b3::r,acc=>A03 (((b0 * 256+b1) * 256+b2) * 256+b3) fun w=>V2 n r (w::acc)
 | _,_,acc=>acc
def B7q (s:S8) (bs:List Nat):S8:=C0h s (B5a B0R (A3t 48 (V2 16 bs [])).reverse s)
def s0N:S8:=⟨0x6a09e667,0xbb67ae85,0x3c6ef372,0xa54ff53a,0x510e527f,0x9b05688c,0x1f83d9ab,0x5be0cd19⟩
def A0s:Nat→S8→List Nat→S8
 | 0,s,_=>s
 | n+1,s,l=>match l with
  | []=>s
  | l=>A0s n (B7q s (l.take 64)) (l.drop 64)
variable {T:TT} {R:Type}
abbrev ck {R:Type} (i:Int) (n:Nat) (k:Option R):Option R:=bif J1 0 i&&E8 i n then k else none
abbrev R2 (n:Int):Int:=IntKind.wrap .i64 n
abbrev W32 (n:Int):Int:=IntKind.wrap .u32 n
abbrev WU (n:Int):Int:=IntKind.wrap .u64 n
def elV (w:V) (i:Int):Int:=(w.nth i.toNat).int
def nv (n:Nat):V:=.i (n:Int)
theorem A26 (n:Nat):W32 (n:Int)=((n % 4294967296:Nat):Int):=by
 unfold W32 IntKind.wrap
 simp [IntKind.bits,IntKind.signed]
theorem C3k (n:Nat):WU (n:Int)=((n % 18446744073709551616:Nat):Int):=by
 unfold WU IntKind.wrap
 simp [IntKind.bits,IntKind.signed]
theorem A00 {n:Nat} (h:n < 4294967296):W32 (n:Int)=(n:Int):=by rw [A26,Nat.mod_eq_of_lt h]
theorem B7r {n:Nat} (h:n < 18446744073709551616):WU (n:Int)=(n:Int):=by rw [C3k,Nat.mod_eq_of_lt h]
theorem T9 {n:Int} (h1 : -9223372036854775808≤n) (h2:n≤9223372036854775807):R2 n=n:=by
 show (if (true&&decide (n % 2 ^ 64 ≥ 2 ^ (64 - 1)))=true then n % 2 ^ 64 - 2 ^ 64 else n % 2 ^ 64)=n
 by_cases h:n % 2 ^ 64 ≥ 2 ^ (64 - 1)
 ·rw [if_pos (by simpa using h)];omega
 ·rw [if_neg (by simpa using h)];omega
theorem T0 {i:Int} {n:Nat} {k:Option R} (h1:0≤i) (h2:i < n):ck i n k=k:=by
 unfold ck
 rw [K9.2 h1,show E8 i n=true by simp [E8,h2]]
 rfl
theorem Y7 (w a:Nat):BitVec.ofInt w (a:Int)=BitVec.ofNat w a:=BitVec.ofInt_natCast w a
theorem A90 {a b:Nat} (ha:a < 4294967296) (hb:b < 4294967296):F5 .and .u32 (a:Int) (b:Int)=((a &&& b:Nat):Int):=by
 have hl:a &&& b < 4294967296:=Nat.lt_of_le_of_lt Nat.and_le_left ha
 show IntKind.wrap .u32 (((BitVec.ofInt 32 (a:Int) &&& BitVec.ofInt 32 (b:Int)).toNat:Nat):Int)=_
 rw [Y7,Y7,BitVec.toNat_and,BitVec.toNat_ofNat,BitVec.toNat_ofNat]
 rw [Nat.mod_eq_of_lt (by simpa using ha),Nat.mod_eq_of_lt (by simpa using hb)]
 exact A00 hl
theorem A1F {a b:Nat} (ha:a < 4294967296) (hb:b < 4294967296):F5 .or .u32 (a:Int) (b:Int)=((a ||| b:Nat):Int):=by
 have hl:a ||| b < 4294967296:=Nat.or_lt_two_pow (n:=32) ha hb
 show IntKind.wrap .u32 (((BitVec.ofInt 32 (a:Int) ||| BitVec.ofInt 32 (b:Int)).toNat:Nat):Int)=_
 rw [Y7,Y7,BitVec.toNat_or,BitVec.toNat_ofNat,BitVec.toNat_ofNat]
 rw [Nat.mod_eq_of_lt (by simpa using ha),Nat.mod_eq_of_lt (by simpa using hb)]
 exact A00 hl
theorem A4P {a b:Nat} (ha:a < 4294967296) (hb:b < 4294967296):F5 .xor .u32 (a:Int) (b:Int)=((a ^^^ b:Nat):Int):=by
 have hl:a ^^^ b < 4294967296:=Nat.xor_lt_two_pow (n:=32) ha hb
 show IntKind.wrap .u32 (((BitVec.ofInt 32 (a:Int) ^^^ BitVec.ofInt 32 (b:Int)).toNat:Nat):Int)=_
 rw [Y7,Y7,BitVec.toNat_xor,BitVec.toNat_ofNat,BitVec.toNat_ofNat]
 rw [Nat.mod_eq_of_lt (by simpa using ha),Nat.mod_eq_of_lt (by simpa using hb)]
 exact A00 hl
theorem B5b (a b:Nat):(a:Int).fdiv (b:Int)=((a / b:Nat):Int):=by
 cases a with
 | zero=>simp
 | succ a=>cases b with
  | zero=>simp
  | succ b=>rfl
theorem A4Q (a n:Nat):(a:Int).fdiv (2 ^ n)=((a >>> n:Nat):Int):=by
 rw [show ((2:Int) ^ n)=((2 ^ n:Nat):Int) by push_cast;rfl,B5b,Nat.shiftRight_eq_div_pow]
theorem A3N (a n:Nat):(a:Int) * 2 ^ n=((a <<< n:Nat):Int):=by
 rw [Nat.shiftLeft_eq];push_cast;rfl
def xor (a b:Int):Int:=F5 .xor .u32 a b
def and (a b:Int):Int:=F5 .and .u32 a b
def rot (x:Int) (n:Nat):Int:=F5 .or .u32 (W32 (x * 2 ^ (32 - n))) (x.fdiv (2 ^ n))
def sg0 (x:Int):Int:=xor (xor (rot x 7) (rot x 18)) (x.fdiv (2 ^ 3))
def sg1 (x:Int):Int:=xor (xor (rot x 17) (rot x 19)) (x.fdiv (2 ^ 10))
theorem A67 {a n:Nat} (h:a < V7):a >>> n < V7:=by
 rw [Nat.shiftRight_eq_div_pow];exact Nat.lt_of_le_of_lt (Nat.div_le_self _ _) h
theorem H9 {a n:Nat} (h:a < V7):A2B a n < V7:=by
 unfold A2B
 exact Nat.or_lt_two_pow (n:=32) (A67 h) (Nat.mod_lt _ (show 0 < V7 by decide))
theorem A0t {a n:Nat} (h:a < V7):rot (a:Int) n=((A2B a n:Nat):Int):=by
 unfold rot A2B
 have hm:(a <<< (32 - n)) % 4294967296 < 4294967296:=Nat.mod_lt _ (by decide)
 rw [A3N,A4Q,A26,A1F hm (A67 h),Nat.or_comm]
theorem A0g {a b:Nat} (ha:a < V7) (hb:b < V7):xor (a:Int) (b:Int)=((a ^^^ b:Nat):Int):=A4P ha hb
theorem A4R {a b:Nat} (ha:a < V7) (hb:b < V7):and (a:Int) (b:Int)=((a &&& b:Nat):Int):=A90 ha hb
theorem A4S {a b:Nat} (ha:a < V7) (hb:b < V7):a ^^^ b < V7:=Nat.xor_lt_two_pow (n:=32) ha hb
theorem A15 {a b:Nat} (ha:a < V7):a &&& b < V7:=Nat.lt_of_le_of_lt Nat.and_le_left ha
theorem C0i {a:Nat} (h:a < V7):sg0 (a:Int)=((sS0 a:Nat):Int):=by
 unfold sg0 sS0
 rw [A0t h,A0t h,A4Q,A0g (H9 h) (H9 h),A0g (A4S (H9 h) (H9 h)) (A67 h)]
theorem C0j {a:Nat} (h:a < V7):sg1 (a:Int)=((sS1 a:Nat):Int):=by
 unfold sg1 sS1
 rw [A0t h,A0t h,A4Q,A0g (H9 h) (H9 h),A0g (A4S (H9 h) (H9 h)) (A67 h)]
theorem B7s {a:Nat} (h:a < V7):4294967295 ^^^ a=4294967295 - a:=by
 have:(4294967295:Nat)=2 ^ 32 - 1:=by decide
 have h2:=Nat.testBit_two_pow_sub_succ (n:=32) (x:=a) (by simpa using h)
 apply Nat.eq_of_testBit_eq
 intro i
 rw [Nat.testBit_xor,show 4294967295 - a=2 ^ 32 - (a+1) by omega,h2]
 rw [this,Nat.testBit_two_pow_sub_one]
 by_cases hi:i < 32
 ·simp [hi]
 ·have:a.testBit i=false:=Nat.testBit_lt_two_pow (Nat.lt_of_lt_of_le (show a < 2 ^ 32 from h) (Nat.pow_le_pow_right (show 2 > 0 by decide) (show 32≤i by omega)))
  simp [hi,this]
def byt (x:V) (i:Int):Int:=W32 (x.nth i.toNat).int
def B5c (x:V) (i:Int):Int:=F5 .or .u32 (F5 .or .u32 (F5 .or .u32 (W32 (byt x (R2 (4 * i)) * 2 ^ 24)) (W32 (byt x (R2 (R2 (4 * i)+1)) * 2 ^ 16))) (W32 (byt x (R2 (R2 (4 * i)+2)) * 2 ^ 8))) (byt x (R2 (R2 (4 * i)+3)))
def e8 (x:V) (i:Nat):Int:=(x.nth i).int
def C2U (x:V) (k w:Int):V :=
 let a:=e8 x 0
 let e:=e8 x 4
 let t:=W32 (W32 (W32 (W32 (e8 x 7+xor (xor (rot e 6) (rot e 11)) (rot e 25))+xor (and e (e8 x 5)) (and (F5 .xor .u32 4294967295 e) (e8 x 6)))+k)+w)
 let u:=W32 (xor (xor (rot a 2) (rot a 13)) (rot a 22)+xor (xor (and a (e8 x 1)) (and a (e8 x 2))) (and (e8 x 1) (e8 x 2)))
 .l [.i (W32 (t+u)),.i a,.i (e8 x 1),.i (e8 x 2),.i (W32 (e8 x 3+t)),.i e,.i (e8 x 5),.i (e8 x 6)]
inductive B7t where
 | m (x:V) (z:V) (i:Int) (w:V)
inductive C0k where
 | o (x:V) (z:V) (i:Int) (w:V)
def B5d (R:Type) (p:B7t) (K:B7t→Option R) (kx:C0k→Option R):Option R :=
 match p with
 | .m x z i w =>
  bif E8 i 16 then
   ck (R2 (4 * i)) x.els.length <| ck (R2 (R2 (4 * i)+1)) x.els.length <| ck (R2 (R2 (4 * i)+2)) x.els.length <| ck (R2 (R2 (4 * i)+3)) x.els.length <|
   ck i 64 <| K (.m x z (R2 (i+1)) (w.put i.toNat (.i (B5c x i))))
  else kx (.o x z i w)
inductive B7u where
 | m (z:V) (i:Int) (w:V)
inductive C0l where
 | o (z:V) (i:Int) (w:V)
def B2n (R:Type) (p:B7u) (K:B7u→Option R) (kx:C0l→Option R):Option R :=
 match p with
 | .m z i w =>
  bif E8 i 64 then
   ck (R2 (i - 15)) 64 <| ck (R2 (i - 2)) 64 <| ck (R2 (i - 16)) 64 <| ck (R2 (i - 7)) 64 <| ck i 64 <|
   K (.m z (R2 (i+1)) (w.put i.toNat (.i (W32 (W32 (W32 (elV w (R2 (i - 16))+elV w (R2 (i - 7)))+sg0 (elV w (R2 (i - 15))))+sg1 (elV w (R2 (i - 2))))))))
  else kx (.o z i w)
inductive B7v where
 | m (s:V) (z:V) (w:V) (k:V) (x:V) (i:Int)
inductive C0m where
 | o (s:V) (z:V) (w:V) (k:V) (x:V) (i:Int)
def B5e (R:Type) (p:B7v) (K:B7v→Option R) (kx:C0m→Option R):Option R :=
 match p with
 | .m s z w k x i =>
  bif E8 i 64 then ck i 64 <| ck i 64 <| K (.m s z w k (C2U x (elV k i) (elV w i)) (R2 (i+1))) else kx (.o s z w k x i)
inductive B7w where
 | m (s:V) (z:V) (x:V) (i:Int)
inductive C0n where
 | o (s:V) (z:V) (x:V) (i:Int)
def A91 (R:Type) (p:B7w) (K:B7w→Option R) (kx:C0n→Option R):Option R :=
 match p with
 | .m s z x i =>
  bif E8 i 8 then ck i 8 <| ck i 8 <| ck i 8 <| K (.m (s.put i.toNat (.i (W32 (elV s i+elV x i)))) z x (R2 (i+1))) else kx (.o s z x i)
theorem C0o {x:V} {bs:List Nat} (hx:x.els=bs.map nv) {k b:Nat} (h:bs[k]? = some b):(x.nth k).int=(b:Int):=by
 unfold V.nth
 rw [hx,List.getD,List.getElem?_map,h]
 rfl
theorem A92 {a b i:Nat} (h:b < 2 ^ i):(a <<< i) ||| b=a * 2 ^ i+b:=by
 rw [← Nat.shiftLeft_add_eq_or_of_lt h,Nat.shiftLeft_eq]
theorem B7x {b0 b1 b2 b3:Nat} (h0:b0 < 256) (h1:b1 < 256) (h2:b2 < 256) (h3:b3 < 256):(((b0 <<< 24) ||| (b1 <<< 16)) ||| (b2 <<< 8)) ||| b3=((b0 * 256+b1) * 256+b2) * 256+b3:=by
 have e1:(b0 <<< 24) ||| (b1 <<< 16)=(b0 * 256+b1) <<< 16:=by
  rw [A92 (by rw [Nat.shiftLeft_eq];omega),Nat.shiftLeft_eq,Nat.shiftLeft_eq];omega
 have e2:((b0 * 256+b1) <<< 16) ||| (b2 <<< 8)=((b0 * 256+b1) * 256+b2) <<< 8:=by
  rw [A92 (by rw [Nat.shiftLeft_eq];omega),Nat.shiftLeft_eq,Nat.shiftLeft_eq];omega
 rw [e1,e2,A92 (by omega)]
theorem A68 {x:V} {bs:List Nat} (hx:x.els=bs.map nv) (hb:∀ b∈bs,b < 256) {k b:Nat} (h:bs[k]? = some b):byt x (k:Int)=(b:Int):=by
 have:=hb b (List.mem_of_getElem? h)
 unfold byt
 rw [show ((k:Int)).toNat=k from rfl,C0o hx h,A00 (by omega)]
theorem B5f {x:V} {bs:List Nat} (hx:x.els=bs.map nv) (hb:∀ b∈bs,b < 256) {j b0 b1 b2 b3:Nat} (hj:j < 1000) (h0:bs[4 * j]? = some b0) (h1:bs[4 * j+1]? = some b1) (h2:bs[4 * j+2]? = some b2) (h3:bs[4 * j+3]? = some b3) :
  B5c x (j:Int)=(((((b0 * 256+b1) * 256+b2) * 256+b3:Nat)):Int):=by
 have l0:=hb b0 (List.mem_of_getElem? h0)
 have l1:=hb b1 (List.mem_of_getElem? h1)
 have l2:=hb b2 (List.mem_of_getElem? h2)
 have l3:=hb b3 (List.mem_of_getElem? h3)
 have w0:R2 (4 * (j:Int))=((4 * j:Nat):Int):=by rw [T9 (by omega) (by omega)];push_cast;rfl
 have w1:R2 (R2 (4 * (j:Int))+1)=((4 * j+1:Nat):Int):=by rw [w0,T9 (by omega) (by omega)];push_cast;rfl
 have w2:R2 (R2 (4 * (j:Int))+2)=((4 * j+2:Nat):Int):=by rw [w0,T9 (by omega) (by omega)];push_cast;rfl
 have w3:R2 (R2 (4 * (j:Int))+3)=((4 * j+3:Nat):Int):=by rw [w0,T9 (by omega) (by omega)];push_cast;rfl
 unfold B5c
 rw [w1,w2,w3,w0,A68 hx hb h0,A68 hx hb h1,A68 hx hb h2,A68 hx hb h3,A3N,A3N,A3N,← B7x l0 l1 l2 l3]
 have s0:b0 <<< 24 < 4294967296:=by rw [Nat.shiftLeft_eq];omega
 have s1:b1 <<< 16 < 4294967296:=by rw [Nat.shiftLeft_eq];omega
 have s2:b2 <<< 8 < 4294967296:=by rw [Nat.shiftLeft_eq];omega
 have o1:=Nat.or_lt_two_pow (n:=32) s0 s1
 have o2:=Nat.or_lt_two_pow (n:=32) o1 s2
 rw [A00 s0,A00 s1,A00 s2,A1F s0 s1,A1F o1 s2,A1F o2 (by omega)]
theorem A4T {l:List V} {m:Nat} {z y:V}:(V.l (l++List.replicate (m+1) z)).put l.length y=.l ((l++[y])++List.replicate m z):=by
 unfold V.put
 simp only [V.els]
 rw [List.set_append_right _ _ (Nat.le_refl _),Nat.sub_self,List.replicate_succ,List.set_cons_zero,List.append_assoc,List.singleton_append]
theorem C3l {bs:List Nat} {k:Nat} (h:k+4≤bs.length):∃ b0 b1 b2 b3,bs[k]? = some b0∧bs[k+1]? = some b1∧bs[k+2]? = some b2∧bs[k+3]? = some b3∧bs.drop k=b0::b1::b2::b3::bs.drop (k+4):=by
 refine ⟨bs[k],bs[k+1],bs[k+2],bs[k+3],by simp,by simp,by simp,by simp,?_⟩
 rw [List.drop_eq_getElem_cons (by omega),List.drop_eq_getElem_cons (by omega),List.drop_eq_getElem_cons (by omega),List.drop_eq_getElem_cons (by omega)]
theorem C2V {R:Type} {x z:V} {bs:List Nat} (hx:x.els=bs.map nv) (hb:∀ b∈bs,b < 256) (hl:64≤bs.length):∀ (m j n:Nat) (l:List Nat) (k:C0k→Option R),j+m=16→l.length=j→m < n →
  lpC (B5d R) n (.m x z (j:Int) (.l (l.reverse.map nv++List.replicate (48+m) (.i 0)))) k=k (.o x z 16 (.l ((V2 m (bs.drop (4 * j)) l).reverse.map nv++List.replicate 48 (.i 0)))):=by
 intro m
 induction m with
 | zero =>
  intro j n l k hj hlen hn
  obtain ⟨n,rfl⟩:∃ n',n=n'+1:=⟨n - 1,by omega⟩
  have:j=16:=by omega
  subst this
  rfl
 | succ m ih =>
  intro j n l k hj hlen hn
  obtain ⟨n,rfl⟩:∃ n',n=n'+1:=⟨n - 1,by omega⟩
  obtain ⟨b0,b1,b2,b3,g0,g1,g2,g3,gd⟩:=C3l (bs:=bs) (k:=4 * j) (by omega)
  have hxl:x.els.length=bs.length:=by rw [hx,C3r]
  have w0:R2 (4 * (j:Int))=((4 * j:Nat):Int):=by rw [T9 (by omega) (by omega)];push_cast;rfl
  have w1:R2 (R2 (4 * (j:Int))+1)=((4 * j+1:Nat):Int):=by rw [w0,T9 (by omega) (by omega)];push_cast;rfl
  have w2:R2 (R2 (4 * (j:Int))+2)=((4 * j+2:Nat):Int):=by rw [w0,T9 (by omega) (by omega)];push_cast;rfl
  have w3:R2 (R2 (4 * (j:Int))+3)=((4 * j+3:Nat):Int):=by rw [w0,T9 (by omega) (by omega)];push_cast;rfl
  have wj:R2 ((j:Int)+1)=((j+1:Nat):Int):=by rw [T9 (by omega) (by omega)];push_cast;rfl
  rw [lpC]
  show (bif E8 (j:Int) 16 then _ else _)=_
  rw [show E8 (j:Int) 16=true by simp [E8];omega,cond_true]
  simp only
  rw [w1,w2,w3,w0,hxl,T0 (by omega) (by omega),T0 (by omega) (by omega),T0 (by omega) (by omega),T0 (by omega) (by omega),T0 (by omega) (by omega),wj,B5f hx hb (by omega) g0 g1 g2 g3]
  have hput:=A4T (l:=l.reverse.map nv) (m:=48+m) (z:=.i 0) (y:=nv (((b0 * 256+b1) * 256+b2) * 256+b3))
  rw [C3r,List.length_reverse,hlen] at hput
  rw [show ((j:Int)).toNat=j from rfl,show 48+(m+1)=48+m+1 from rfl,show V.i ((((b0 * 256+b1) * 256+b2) * 256+b3:Nat):Int)=nv (((b0 * 256+b1) * 256+b2) * 256+b3) from rfl,hput]
  have hl2:l.reverse.map nv++[nv (((b0 * 256+b1) * 256+b2) * 256+b3)]=((((b0 * 256+b1) * 256+b2) * 256+b3)::l).reverse.map nv:=by simp
  rw [hl2,ih (j+1) n _ k (by omega) (by simp [hlen]) (by omega),gd]
  simp only [V2,T4]
  rfl
theorem A3O {l:List Nat} {r:List V} {q:Nat} (h:q < l.length):elV (.l (l.reverse.map nv++r)) ((l.length - 1 - q:Nat):Int)=((l.getD q 0:Nat):Int):=by
 unfold elV V.nth
 simp only [V.els]
 rw [show (((l.length - 1 - q:Nat):Int)).toNat=l.length - 1 - q from rfl,List.getD,List.getElem?_append_left (by simp;omega),List.getElem?_map,List.getElem?_reverse (by omega)]
 rw [show l.length - 1 - (l.length - 1 - q)=q by omega]
 simp [List.getD,h,nv,V.int]
theorem A3j:∀ (m:Nat) (bs acc:List Nat),(∀ b∈bs,b < 256)→(∀ a∈acc,a < V7)→4 * m≤bs.length→(∀ a∈V2 m bs acc,a < V7)∧(V2 m bs acc).length=m+acc.length:=by
 intro m
 induction m with
 | zero=>intro bs acc _ ha _;simp only [V2];exact ⟨ha,by simp⟩
 | succ m ih =>
  intro bs acc hb ha hl
  match bs,hb,hl with
  | b0::b1::b2::b3::r,hb,hl =>
   simp only [V2,T4]
   have l0:=hb b0 (by simp)
   have l1:=hb b1 (by simp)
   have l2:=hb b2 (by simp)
   have l3:=hb b3 (by simp)
   obtain ⟨p,q⟩:=ih r ((((b0 * 256+b1) * 256+b2) * 256+b3)::acc) (fun b h=>hb b (by simp [h])) (fun a h=>by
    rcases List.mem_cons.1 h with rfl | h
    ·show _ < 4294967296;omega
    ·exact ha a h) (by simp at hl;omega)
   exact ⟨p,by rw [q];simp;omega⟩
  | [],_,hl=>simp at hl
  | [_],_,hl=>simp at hl;omega
  | [_,_],_,hl=>simp at hl;omega
  | [_,_,_],_,hl=>simp at hl;omega
theorem B0S {l:List Nat} (h:∀ a∈l,a < V7) (q:Nat):l.getD q 0 < V7:=by
 rw [List.getD]
 cases hq:l[q]? with
 | none=>show 0 < V7;decide
 | some a=>exact h a (List.mem_of_getElem? hq)
theorem B2o:∀ (m:Nat) (l:List Nat),(∀ a∈l,a < V7)→(∀ a∈A3t m l,a < V7)∧(A3t m l).length=m+l.length:=by
 intro m
 induction m with
 | zero=>intro l h;simp only [A3t];exact ⟨h,by simp⟩
 | succ m ih =>
  intro l h
  simp only [A3t,T4]
  obtain ⟨p,q⟩:=ih (A5f l::l) (fun a ha=>by
   rcases List.mem_cons.1 ha with rfl | ha
   ·exact Nat.mod_lt _ (by decide)
   ·exact h a ha)
  exact ⟨p,by rw [q];simp;omega⟩
theorem C2W {R:Type} {z:V}:∀ (m n:Nat) (l:List Nat) (k:C0l→Option R),l.length+m=64→16≤l.length→(∀ a∈l,a < V7)→m < n →
  lpC (B2n R) n (.m z (l.length:Int) (.l (l.reverse.map nv++List.replicate m (.i 0)))) k=k (.o z 64 (.l ((A3t m l).reverse.map nv))):=by
 intro m
 induction m with
 | zero =>
  intro n l k hj h16 hlt hn
  obtain ⟨n,rfl⟩:∃ n',n=n'+1:=⟨n - 1,by omega⟩
  have:l.length=64:=by omega
  rw [this]
  simp only [A3t,List.replicate_zero,List.append_nil]
  rfl
 | succ m ih =>
  intro n l k hj h16 hlt hn
  obtain ⟨n,rfl⟩:∃ n',n=n'+1:=⟨n - 1,by omega⟩
  have wi:∀ d:Nat,d≤16→R2 ((l.length:Int) - (d:Int))=((l.length - d:Nat):Int):=fun d hd=>by rw [T9 (by omega) (by omega)];omega
  have wj:R2 ((l.length:Int)+1)=((l.length+1:Nat):Int):=by rw [T9 (by omega) (by omega)];push_cast;rfl
  have e15:R2 ((l.length:Int) - 15)=((l.length - 1 - 14:Nat):Int):=(wi 15 (by omega)).trans (by omega)
  have e2:R2 ((l.length:Int) - 2)=((l.length - 1 - 1:Nat):Int):=(wi 2 (by omega)).trans (by omega)
  have e16:R2 ((l.length:Int) - 16)=((l.length - 1 - 15:Nat):Int):=(wi 16 (by omega)).trans (by omega)
  have e7:R2 ((l.length:Int) - 7)=((l.length - 1 - 6:Nat):Int):=(wi 7 (by omega)).trans (by omega)
  rw [lpC]
  show (bif E8 (l.length:Int) 64 then _ else _)=_
  rw [show E8 (l.length:Int) 64=true by simp [E8];omega,cond_true]
  simp only
  rw [e15,e2,e16,e7,T0 (by omega) (by omega),T0 (by omega) (by omega),T0 (by omega) (by omega),T0 (by omega) (by omega),T0 (by omega) (by omega),wj]
  rw [A3O (by omega),A3O (by omega),A3O (by omega),A3O (by omega),C0i (B0S hlt _),C0j (B0S hlt _)]
  have hput:=A4T (l:=l.reverse.map nv) (m:=m) (z:=.i 0) (y:=nv (A5f l))
  rw [C3r,List.length_reverse] at hput
  have hval:W32 (W32 (W32 (((l.getD 15 0:Nat):Int)+((l.getD 6 0:Nat):Int))+((sS0 (l.getD 14 0):Nat):Int))+((sS1 (l.getD 1 0):Nat):Int))=((A5f l:Nat):Int):=by
   rw [← Int.natCast_add,A26,← Int.natCast_add,A26,← Int.natCast_add,A26]
   congr 1
   unfold A5f
   show _=_ % 4294967296
   omega
  rw [hval,show ((l.length:Int)).toNat=l.length from rfl,show V.i ((A5f l:Nat):Int)=nv (A5f l) from rfl,hput]
  have hl2:l.reverse.map nv++[nv (A5f l)]=(A5f l::l).reverse.map nv:=by simp
  rw [hl2]
  have:=ih n (A5f l::l) k (by simp;omega) (by simp;omega) (fun a ha=>by
   rcases List.mem_cons.1 ha with rfl | ha
   ·exact Nat.mod_lt _ (by decide)
   ·exact hlt a ha) (by omega)
  rw [C3v] at this
  rw [this]
  simp only [A3t,T4]
variable {T:TT} {R:Type} {P:Program}
theorem B0T {e:A8} {el:Nat} {kd:IntKind} (he:B2 T el=some (.int kd)) (hlo:lo kd=0):∀ {n:Nat} {xs:List V} {cs:List Value},RV T e (List.replicate n el) xs cs→∃ ns:List Nat,xs=ns.map nv∧∀ a∈ns,(a:Int)≤hi kd:=by
 intro n
 induction n with
 | zero=>intro xs cs h;cases h;exact ⟨[],rfl,fun a ha=>by cases ha⟩
 | succ n ih =>
  intro xs cs h
  rw [List.replicate_succ] at h
  cases xs with
  | nil=>cases h
  | cons x xs =>
   obtain ⟨d,r,rfl,g1,g2⟩:=h.cons_inv
   obtain ⟨m,rfl,_,hr⟩:=g1.int_inv he
   obtain ⟨ns,rfl,hn⟩:=ih g2
   unfold inR at hr
   rw [hlo] at hr
   refine ⟨m.toNat::ns,?_,fun a ha=>?_⟩
   ·simp only [List.map_cons,nv]
    rw [show ((m.toNat:Nat):Int)=m by omega]
   ·rcases List.mem_cons.1 ha with rfl | ha
    ·omega
    ·exact hn a ha
theorem RP.uncons {e:A8} {t:Nat} {ts:List Nat} {x:V} {xs:List V} {vs:List Value} (h:RP T e (t::ts) (x::xs) vs):∃ v vs',vs=v::vs'∧RV T e [t] [x] v.cells.toList∧RP T e ts xs vs':=by
 cases h with
 | cons h1 _ h2=>exact ⟨_,_,rfl,h1,h2⟩
theorem TV.head {t:Nat} {ts:List Nat} {x:V} {xs:List V} (h:TV T (t::ts) (x::xs)):∃ e cs,RV T e [t] [x] cs:=by
 obtain ⟨e,vs,h⟩:=h
 obtain ⟨v,vs',_,h1,_⟩:=h.uncons
 exact ⟨e,_,h1⟩
theorem TV.tail {t:Nat} {ts:List Nat} {x:V} {xs:List V} (h:TV T (t::ts) (x::xs)):TV T ts xs:=by
 obtain ⟨e,vs,h⟩:=h
 obtain ⟨v,vs',_,_,h2⟩:=h.uncons
 exact ⟨e,vs',h2⟩
theorem TV.len {ts:List Nat} {xs:List V} (h:TV T ts xs):xs.length=ts.length:=by
 obtain ⟨e,vs,h⟩:=h
 induction h with
 | nil=>rfl
 | cons _ _ _ ih=>simp [ih]
theorem A8s {t el:Nat} {kd:IntKind} {x:V} {e:A8} {cs:List Value} (ht:B2 T t=some (.slice el)) (he:B2 T el=some (.int kd)) (hlo:lo kd=0) (h:RV T e [t] [x] cs):∃ ns:List Nat,x.els=ns.map nv∧∀ a∈ns,(a:Int)≤hi kd:=by
 rcases h.slice_inv ht with ⟨rfl,_⟩ | ⟨ys,ds,a,cap,rfl,_,_,_,g⟩
 ·exact ⟨[],rfl,fun a ha=>by cases ha⟩
 ·exact B0T he hlo g
theorem C0p {t n el:Nat} {kd:IntKind} {x:V} {e:A8} {cs:List Value} (ht:B2 T t=some (.arr n el)) (he:B2 T el=some (.int kd)) (hlo:lo kd=0) (h:RV T e [t] [x] cs):∃ ns:List Nat,x=.l (ns.map nv)∧ns.length=n∧∀ a∈ns,(a:Int)≤hi kd:=by
 obtain ⟨ys,rfl,hl,g⟩:=h.arr_inv ht
 obtain ⟨ns,rfl,hn⟩:=B0T he hlo g
 exact ⟨ns,rfl,by simpa using hl,hn⟩
theorem C2X {α:Type} (o:Option α):ob o some=o:=by cases o<;>rfl
theorem A8t (hm:P.follows .mixedOrders=true) (hT:F4 T P) {tab:List (Nat×J4)} (h:M3 P T tab) {f d fu:Nat} {Lo:Nat→LC} {sh:Bool} {ts:List Nat} {rk:List RK} {F:FC} {G:(R:Type)→List V→(List Rs→Option R)→Option R} (hFn:F.nat) (hts:ts.all (fun t=>(T t).isSome)=true)
  (hL:A0e P T f Lo)
  (hrun:∀ (R:Type) xs (k:List Rs→Option R),TV T ts xs→P4 P T (U3 P T tab false fu d) Lo false fu f R (E0 T ts xs) (fun _=>none) 0 (fun out=>ob (E7 T sh rk out) k)=G R xs k)
  (hG:∀ xs rs,TV T ts xs→F (List Rs) xs some=some rs→G (List Rs) xs some=some rs) :
  M3 P T ((f,C1 T sh ts F)::tab) :=
 A8q hm hT h hFn hts hL (fun xs rs htv hrs=>by
  have:=hG xs rs htv hrs
  rw [← hrun (List Rs) xs some htv] at this
  simpa only [C2X] using this)
def stV (s:S8):V:=.l [nv s.a,nv s.b,nv s.c,nv s.d,nv s.e,nv s.f,nv s.g,nv s.h]
structure OkS (s:S8):Prop where
 a:s.a < V7
 b:s.b < V7
 c:s.c < V7
 d:s.d < V7
 e:s.e < V7
 f:s.f < V7
 g:s.g < V7
 h:s.h < V7
theorem B7y {s:S8} (h:OkS s) (k w:Nat):OkS (B49 s k w):=by
 unfold B49
 simp only [T4]
 exact ⟨Nat.mod_lt _ (by decide),h.a,h.b,h.c,Nat.mod_lt _ (by decide),h.e,h.f,h.g⟩
theorem C0q {a:Nat} (h:a < V7):F5 .xor .u32 4294967295 (a:Int)=((4294967295 - a:Nat):Int):=by
 rw [show (4294967295:Int)=((4294967295:Nat):Int) from rfl,A4P (by decide) h,B7s h]
theorem B7z {s:S8} (h:OkS s) {k w:Nat} (hk:k < V7) (hw:w < V7):C2U (stV s) (k:Int) (w:Int)=stV (B49 s k w):=by
 have hne:4294967295 - s.e < V7:=by show _ < 4294967296;omega
 have c1:and (s.e:Int) (s.f:Int)=((s.e &&& s.f:Nat):Int):=A4R h.e h.f
 have c2:and ((4294967295 - s.e:Nat):Int) (s.g:Int)=(((4294967295 - s.e) &&& s.g:Nat):Int):=A4R hne h.g
 have hch:xor (and (s.e:Int) (s.f:Int)) (and (F5 .xor .u32 4294967295 (s.e:Int)) (s.g:Int))=((chN s.e s.f s.g:Nat):Int):=by
  rw [C0q h.e,c1,c2,A0g (A15 h.e) (A15 hne)];rfl
 have hb1:xor (xor (rot (s.e:Int) 6) (rot (s.e:Int) 11)) (rot (s.e:Int) 25)=((bS1 s.e:Nat):Int):=by
  rw [A0t h.e,A0t h.e,A0t h.e,A0g (H9 h.e) (H9 h.e),A0g (A4S (H9 h.e) (H9 h.e)) (H9 h.e)];rfl
 have hb0:xor (xor (rot (s.a:Int) 2) (rot (s.a:Int) 13)) (rot (s.a:Int) 22)=((bS0 s.a:Nat):Int):=by
  rw [A0t h.a,A0t h.a,A0t h.a,A0g (H9 h.a) (H9 h.a),A0g (A4S (H9 h.a) (H9 h.a)) (H9 h.a)];rfl
 have hmaj:xor (xor (and (s.a:Int) (s.b:Int)) (and (s.a:Int) (s.c:Int))) (and (s.b:Int) (s.c:Int))=((C0g s.a s.b s.c:Nat):Int):=by
  rw [A4R h.a h.b,A4R h.a h.c,A4R h.b h.c,A0g (A15 h.a) (A15 h.a),A0g (A4S (A15 h.a) (A15 h.a)) (A15 h.b)];rfl
 have ht:W32 (W32 (W32 (W32 ((s.h:Int)+xor (xor (rot (s.e:Int) 6) (rot (s.e:Int) 11)) (rot (s.e:Int) 25))+xor (and (s.e:Int) (s.f:Int)) (and (F5 .xor .u32 4294967295 (s.e:Int)) (s.g:Int)))+(k:Int))+(w:Int))=(((s.h+bS1 s.e+chN s.e s.f s.g+k+w) % 4294967296:Nat):Int):=by
  rw [hb1,hch,← Int.natCast_add,A26,← Int.natCast_add,A26,← Int.natCast_add,A26,← Int.natCast_add,A26]
  congr 1;omega
 have hu:W32 (xor (xor (rot (s.a:Int) 2) (rot (s.a:Int) 13)) (rot (s.a:Int) 22)+xor (xor (and (s.a:Int) (s.b:Int)) (and (s.a:Int) (s.c:Int))) (and (s.b:Int) (s.c:Int)))=(((bS0 s.a+C0g s.a s.b s.c) % 4294967296:Nat):Int):=by
  rw [hb0,hmaj,← Int.natCast_add,A26]
 show V.l [.i (W32 (W32 (W32 (W32 (W32 ((s.h:Int)+xor (xor (rot (s.e:Int) 6) (rot (s.e:Int) 11)) (rot (s.e:Int) 25))+xor (and (s.e:Int) (s.f:Int)) (and (F5 .xor .u32 4294967295 (s.e:Int)) (s.g:Int)))+(k:Int))+(w:Int))+W32 (xor (xor (rot (s.a:Int) 2) (rot (s.a:Int) 13)) (rot (s.a:Int) 22)+xor (xor (and (s.a:Int) (s.b:Int)) (and (s.a:Int) (s.c:Int))) (and (s.b:Int) (s.c:Int))))),.i s.a,.i s.b,.i s.c,.i (W32 ((s.d:Int)+W32 (W32 (W32 (W32 ((s.h:Int)+xor (xor (rot (s.e:Int) 6) (rot (s.e:Int) 11)) (rot (s.e:Int) 25))+xor (and (s.e:Int) (s.f:Int)) (and (F5 .xor .u32 4294967295 (s.e:Int)) (s.g:Int)))+(k:Int))+(w:Int)))),.i s.e,.i s.f,.i s.g]=_
 rw [ht,hu,← Int.natCast_add,← Int.natCast_add,A26,A26]
 unfold B49 stV
 simp only [T4,nv]
 refine congrArg V.l ?_
 congr 1
 ·congr 1;congr 1;show _=_ % 4294967296;omega
 ·congr 3
  congr 1
  congr 1;congr 1;show _=_ % 4294967296;omega
theorem A8u {l:List Nat} {j:Nat} (h:j < l.length):elV (.l (l.map nv)) (j:Int)=((l[j]:Nat):Int):=by
 unfold elV V.nth
 simp only [V.els]
 rw [show ((j:Int)).toNat=j from rfl,List.getD,List.getElem?_map,C3A h]
 rfl
theorem C2Y {s z:V} {K W:List Nat} (hK:K.length=64) (hW:W.length=64) (kK:∀ a∈K,a < V7) (kW:∀ a∈W,a < V7):∀ (m j n:Nat) (x:S8) (k:C0m→Option R),j+m=64→OkS x→m < n →
  lpC (B5e R) n (.m s z (.l (W.map nv)) (.l (K.map nv)) (stV x) (j:Int)) k=k (.o s z (.l (W.map nv)) (.l (K.map nv)) (stV (B5a (K.drop j) (W.drop j) x)) 64):=by
 intro m
 induction m with
 | zero =>
  intro j n x k hj hx hn
  obtain ⟨n,rfl⟩:∃ n',n=n'+1:=⟨n - 1,by omega⟩
  have:j=64:=by omega
  subst this
  rw [List.drop_of_length_le (by omega),List.drop_of_length_le (by omega)]
  rfl
 | succ m ih =>
  intro j n x k hj hx hn
  obtain ⟨n,rfl⟩:∃ n',n=n'+1:=⟨n - 1,by omega⟩
  have wj:R2 ((j:Int)+1)=((j+1:Nat):Int):=by rw [T9 (by omega) (by omega)];push_cast;rfl
  rw [lpC]
  show (bif E8 (j:Int) 64 then _ else _)=_
  rw [show E8 (j:Int) 64=true by simp [E8];omega,cond_true]
  simp only
  rw [T0 (by omega) (by omega),T0 (by omega) (by omega),wj,A8u (by omega),A8u (by omega),B7z hx (kK _ (List.getElem_mem ..)) (kW _ (List.getElem_mem ..)),ih (j+1) n _ k (by omega) (B7y hx _ _) (by omega)]
  rw [List.drop_eq_getElem_cons (show j < K.length by omega),List.drop_eq_getElem_cons (show j < W.length by omega)]
  rfl
theorem C2Z {s x:S8} {z:V} {n:Nat} {k:C0n→Option R} :
  lpC (A91 R) (n+9) (.m (stV s) z (stV x) 0) k=k (.o (stV (C0h s x)) z (stV x) 8):=by
 have h1:lpC (A91 R) (n+9) (.m (stV s) z (stV x) 0) k=k (.o (.l [.i (W32 ((s.a:Int)+(x.a:Int))),.i (W32 ((s.b:Int)+(x.b:Int))),.i (W32 ((s.c:Int)+(x.c:Int))),.i (W32 ((s.d:Int)+(x.d:Int))),.i (W32 ((s.e:Int)+(x.e:Int))),.i (W32 ((s.f:Int)+(x.f:Int))),.i (W32 ((s.g:Int)+(x.g:Int))),.i (W32 ((s.h:Int)+(x.h:Int)))]) z (stV x) 8):=by kernel_rfl
 rw [h1]
 simp only [← Int.natCast_add,A26]
 unfold C0h stV
 simp only [T4]
 rfl
variable {T:TT} {R:Type} {P:Program}
def z64:V:=.l (List.replicate 64 (.i 0))
def z8:V:=.l (List.replicate 8 (.i 0))
def B8x:V:=.l (B0R.map nv)
def V3 (x:V):List Nat:=x.els.map fun v=>v.int.toNat
def spW (x:V):V:=.l ((A3t 48 (V2 16 (V3 x) [])).reverse.map nv)
def s8 (x:V):S8:=⟨(x.nth 0).int.toNat,(x.nth 1).int.toNat,(x.nth 2).int.toNat,(x.nth 3).int.toNat,(x.nth 4).int.toNat,(x.nth 5).int.toNat,(x.nth 6).int.toNat,(x.nth 7).int.toNat⟩
def B5g (s b:V):V:=stV (B7q (s8 s) (V3 b))
def Fsp (t:Nat):FC:=fun R xs k=>match xs with
 | [x]=>bif Nat.ble 64 x.els.length then k [.d t (spW x)] else none
 | _=>none
def Fmx (t:Nat):FC:=fun R xs k=>match xs with
 | [s,b]=>bif Nat.ble 64 b.els.length then k [.d t (B5g s b)] else none
 | _=>none
theorem B7A (t:Nat):FC.nat (Fsp t):=by
 intro R xs k
 unfold Fsp
 split
 ·rename_i x;cases Nat.ble 64 x.els.length<;>rfl
 ·rfl
theorem B7B (t:Nat):FC.nat (Fmx t):=by
 intro R xs k
 unfold Fmx
 split
 ·rename_i s b;cases Nat.ble 64 b.els.length<;>rfl
 ·rfl
theorem P2 {x:V} {bs:List Nat} (hx:x.els=bs.map nv):V3 x=bs:=by
 unfold V3
 rw [hx,List.map_map]
 conv=>rhs;rw [← List.map_id bs]
 apply List.map_congr_left
 intro a _
 rfl
theorem A93 {x:V} {bs:List Nat} (hx:x.els=bs.map nv) (hb:∀ b∈bs,b < 256) (hl:64≤bs.length) {n:Nat} (hn:64 < n) (k:V→Option R) :
  lpC (B5d R) n (.m x z64 0 z64) (fun | .o _ z _ w=>lpC (B2n R) n (.m z 16 w) (fun | .o _ _ w=>k w))=k (spW x):=by
 have h1:=C2V (R:=R) (z:=z64) hx hb hl 16 0 n [] (fun | .o _ z _ w=>lpC (B2n R) n (.m z 16 w) (fun | .o _ _ w=>k w)) rfl rfl (by omega)
 obtain ⟨w1,w2⟩:=A3j 16 bs [] hb (fun a h=>by cases h) (by omega)
 have h2:=C2W (R:=R) (z:=z64) 48 n (V2 16 bs []) (fun | .o _ _ w=>k w) (by rw [w2];rfl) (by rw [w2];simp) w1 (by omega)
 rw [w2] at h2
 refine h1.trans (Eq.trans ?_ (h2.trans ?_))
 ·rfl
 ·show k _=_
  unfold spW
  rw [P2 hx]
theorem B5h:∀ a∈B0R,a < V7:=by decide
theorem C0r (s:S8):s8 (stV s)=s:=rfl
theorem B7C {s:S8} {b:V} {bs:List Nat} (hs:OkS s) (hx:b.els=bs.map nv) (hb:∀ b∈bs,b < 256) (hl:64≤bs.length) {n:Nat} (hn:64 < n) (k:V→Option R) :
  lpC (B5e R) n (.m (stV s) z8 (spW b) B8x (stV s) 0) (fun | .o s z _ _ x _=>lpC (A91 R) n (.m s z x 0) (fun | .o s _ _ _=>k s))=k (B5g (stV s) b):=by
 obtain ⟨w1,w2⟩:=A3j 16 bs [] hb (fun a h=>by cases h) (by omega)
 obtain ⟨c1,c2⟩:=B2o 48 (V2 16 bs []) w1
 have h1:=C2Y (R:=R) (s:=stV s) (z:=z8) (K:=B0R) (W:=(A3t 48 (V2 16 bs [])).reverse) rfl (by rw [List.length_reverse,c2,w2];rfl) B5h (fun a h=>c1 a (List.mem_reverse.1 h)) 64 0 n s
  (fun | .o s z _ _ x _=>lpC (A91 R) n (.m s z x 0) (fun | .o s _ _ _=>k s)) rfl hs (by omega)
 have hsp:spW b=.l ((A3t 48 (V2 16 bs [])).reverse.map nv):=by unfold spW;rw [P2 hx]
 rw [hsp]
 refine h1.trans ?_
 obtain ⟨n,rfl⟩:∃ n',n=n'+9:=⟨n - 9,by omega⟩
 refine C2Z.trans ?_
 show k _=k _
 unfold B5g B7q
 rw [C0r,P2 hx]
 rfl
theorem C0s {ns:List Nat} (hl:ns.length=8) (h:∀ a∈ns,(a:Int)≤4294967295):∃ s,V.l (ns.map nv)=stV s∧OkS s:=by
 match ns,hl with
 | [a,b,c,d,e,f,g,i],_ =>
  have q:∀ x∈[a,b,c,d,e,f,g,i],x < V7:=fun x hx=>by have:=h x hx;show x < 4294967296;omega
  exact ⟨⟨a,b,c,d,e,f,g,i⟩,rfl,⟨q _ (by simp),q _ (by simp),q _ (by simp),q _ (by simp),q _ (by simp),q _ (by simp),q _ (by simp),q _ (by simp)⟩⟩
theorem B5i {bs:List Nat} (h:∀ a∈bs,(a:Int)≤hi .u8):∀ b∈bs,b < 256:=fun b hb=>by have:=h b hb;simp only [hi] at this;omega
variable {T:TT} {R:Type} {P:Program}
abbrev ln {R:Type} (n:Nat) (k:Option R):Option R:=bif Nat.ble n 9223372036854775807 then k else none
abbrev lim {R:Type} (n:Nat) (k:Option R):Option R:=bif Nat.ble n LIM then k else none
variable {T:TT} {R:Type} {P:Program}
def bt (n:Int) (j:Nat):V:=.i (IntKind.wrap .u8 ((n.fdiv (2 ^ (8 * j))).tmod 256))
theorem A69 {n:Nat} {k:Option R} (h:n≤1073741824):lim n k=k:=by
 unfold lim LIM
 rw [C3x h];rfl
theorem A1n {n:Nat} {k:Option R} (h:n≤9223372036854775807):ln n k=k:=by
 unfold ln
 rw [C3x h];rfl
theorem HID:64 < A7 FU:=by rw [A4M];decide
variable {T:TT} {R:Type} {P:Program}
variable {T:TT} {R:Type} {P:Program}
variable {T:TT} {P:Program} {c:F1} {e eb:A8} {of of':Nat→Option Ob}
def A01 {α:Type}:List V→(List V→α)→α
 | [],k=>k []
 | a::r,k=>match a with
  | .i n=>B6y n fun n=>A01 r fun r=>k (.i n::r)
  | a=>A01 r fun r=>k (a::r)
theorem A4U {α:Type}:∀ (l:List V) (k:List V→α),A01 l k=k l:=by
 intro l
 induction l with
 | nil=>intro k;rfl
 | cons a r ih =>
  intro k
  cases a with
  | i n=>simp only [A01,A6B,ih]
  | _=>simp only [A01,ih]
def C20 {α:Type} (v:V) (k:V→α):α :=
 match v with
 | .l xs=>A01 xs fun xs=>k (.l xs)
 | .i n=>B6y n fun n=>k (.i n)
 | v=>k v
theorem B7D {α:Type} (v:V) (k:V→α):C20 v k=k v:=by
 cases v with
 | l xs=>exact A4U xs _
 | i n=>exact A6B n fun n=>k (.i n)
 | _=>rfl
def A6b {α:Type}:List Rs→(List Rs→α)→α
 | [],k=>k []
 | r::l,k=>match r with
  | .d t y=>C20 y fun y=>A6b l fun l=>k (.d t y::l)
  | .r el xs nl=>A01 xs fun xs=>A6b l fun l=>k (.r el xs nl::l)
theorem B5j {α:Type}:∀ (l:List Rs) (k:List Rs→α),A6b l k=k l:=by
 intro l
 induction l with
 | nil=>intro k;rfl
 | cons r l ih =>
  intro k
  cases r with
  | d t y=>simp only [A6b,B7D,ih]
  | r el xs nl=>simp only [A6b,A4U,ih]
def B7E (F:FC):FC:=fun R xs k=>F R xs fun rs=>A6b rs k
theorem B7F (F:FC):B7E F=F:=by
 funext R xs k
 unfold B7E
 congr 1
 funext rs
 exact B5j rs k
theorem M3.see {f:Nat} {sh:Bool} {ts:List Nat} {F:FC} (h:C0 P T f (C1 T sh ts F).dir):C0 P T f (C1 T sh ts (B7E F)).dir:=by
 rw [B7F];exact h
theorem M3.at {tab:List (Nat×J4)} (h:M3 P T tab) {f:Nat} {s:J4} (hs:A1Q tab f=some s):C0 P T f s.dir:=(h f s (A0H hs)).2
theorem run_loadBytes (w:World):∀ (ns:List Nat) (a:Addr) (acc:ByteArray),(∀ (j:Nat) y,(ns.map fun n=>Value.int .u8 ((n:Nat):Int))[j]? = some y→w.cell? (a.add j)=some y) →
  (Extern.Bytes.loadBytes a ns.length acc).run P w=.ok ⟨(acc.data.toList++ns.map (fun n=>n.toUInt8)).toArray⟩ w:=by
 intro ns
 induction ns with
 | nil=>intro a acc _;simp [Extern.Bytes.loadBytes]
 | cons n ns ih =>
  intro a acc h
  have h0:w.cell? a=some (.int .u8 ((n:Nat):Int)):=by
   have:=h 0 _ rfl
   rwa [show a.add 0=a from by unfold Addr.add;simp] at this
  have ih:=ih (a.add 1) (acc.push n.toUInt8) (fun j y hj=>by
   rw [Addr.add_add,Nat.add_comm]
   exact h (j+1) y (by simpa using hj))
  rw [C3v,Extern.Bytes.loadBytes]
  simp only [Sem.run_bind]
  rw [Go.run_load,h0]
  simp only [Result.andThen,Int.toNat_natCast]
  rw [ih]
  simp
theorem A8v {e:A8} {el:Nat} {kd:IntKind} (he:B2 T el=some (.int kd)) (hlo:lo kd=0):∀ {n:Nat} {xs:List V} {cs:List Value},RV T e (List.replicate n el) xs cs→∃ ns:List Nat,xs=ns.map nv∧cs=(ns.map fun n=>Value.int kd ((n:Nat):Int))∧∀ a∈ns,(a:Int)≤hi kd:=by
 intro n
 induction n with
 | zero=>intro xs cs h;cases h;exact ⟨[],rfl,rfl,fun a ha=>by cases ha⟩
 | succ n ih =>
  intro xs cs h
  rw [List.replicate_succ] at h
  cases xs with
  | nil=>cases h
  | cons x xs =>
   obtain ⟨d,r,rfl,g1,g2⟩:=h.cons_inv
   obtain ⟨m,rfl,rfl,hr⟩:=g1.int_inv he
   obtain ⟨ns,rfl,rfl,hn⟩:=ih g2
   unfold inR at hr
   rw [hlo] at hr
   have hm:((m.toNat:Nat):Int)=m:=by omega
   refine ⟨m.toNat::ns,?_,?_,fun a ha=>?_⟩
   ·simp only [List.map_cons,nv,hm]
   ·simp only [List.map_cons,hm,List.singleton_append]
   ·rcases List.mem_cons.1 ha with rfl | ha
    ·omega
    ·exact hn a ha
theorem A4V {u8 u8s:Nat} (h1:B2 T u8s=some (.slice u8)) (h2:B2 T u8=some (.int .u8)) {x:V} {v:Value} (h:RV T e [u8s] [x] v.cells.toList) (ha:T3 T u8s v) :
  ∃ ns:List Nat,x.els=ns.map nv∧(∀ a∈ns,a < 256)∧(Extern.Bytes.bytesOf v).run P e.w=.ok ⟨(ns.map (fun n=>n.toUInt8)).toArray⟩ e.w:=by
 have hv:v.cells=#[v]:=by
  cases v with
  | agg cs =>
   obtain ⟨k,hk,hg⟩:=ha.2 ⟨cs,rfl⟩
   rw [h1] at hk;cases hk;cases hg
  | _=>rfl
 rw [hv] at h
 rcases h.slice_inv h1 with ⟨rfl,hc⟩ | ⟨ys,ds,a,cap,rfl,hc,hle,hfz,hrow⟩
 ·simp at hc;subst hc
  exact ⟨[],rfl,(fun a h=>by cases h),rfl⟩
 ·simp at hc;subst hc
  obtain ⟨ns,rfl,rfl,hn⟩:=A8v h2 rfl hrow
  refine ⟨ns,rfl,B5i hn,?_⟩
  show (Extern.Bytes.loadBytes a (ns.map nv).length .empty).run P e.w=_
  rw [C3r,run_loadBytes e.w ns a .empty (fun j y hj=>(hfz.2 j y hj).1)]
  simp
def A4W:List V→List V→Int
 | [],[]=>0
 | [],_::_ => -1
 | _::_,[]=>1
 | a::x,b::y=>bif E8 a.int b.int then -1 else bif E8 b.int a.int then 1 else A4W x y
theorem B7G:∀ (a b:List Nat),(∀ x∈a,x < 256)→(∀ x∈b,x < 256)→Lib.compareBytes (a.map (fun n=>n.toUInt8)) (b.map (fun n=>n.toUInt8))=A4W (a.map nv) (b.map nv):=by
 intro a
 induction a with
 | nil=>intro b _ _;cases b<;>rfl
 | cons x a ih =>
  intro b ha hb
  cases b with
  | nil=>rfl
  | cons y b =>
   have hx:=ha x (by simp)
   have hy:=hb y (by simp)
   have q:∀ m n:Nat,m < 256→n < 256→(m.toUInt8 < n.toUInt8↔m < n):=fun m n hm hn=>by
    rw [UInt8.lt_iff_toNat_lt]
    simp [Nat.toUInt8,UInt8.toNat_ofNat',Nat.mod_eq_of_lt hm,Nat.mod_eq_of_lt hn]
   simp only [List.map_cons,Lib.compareBytes,A4W]
   rw [ih b (fun z h=>ha z (by simp [h])) (fun z h=>hb z (by simp [h]))]
   have e1:E8 (nv x).int (nv y).int=decide (x < y):=by rw [Bool.eq_iff_iff,H0];simp [nv,V.int]
   have e2:E8 (nv y).int (nv x).int=decide (y < x):=by rw [Bool.eq_iff_iff,H0];simp [nv,V.int]
   rw [e1,e2]
   by_cases h1:x < y
   ·rw [if_pos ((q x y hx hy).2 h1)];simp [h1]
   ·rw [if_neg (fun h=>h1 ((q x y hx hy).1 h))]
    by_cases h2:y < x
    ·rw [if_pos ((q y x hy hx).2 h2)];simp [h1,h2]
    ·rw [if_neg (fun h=>h2 ((q y x hy hx).1 h))];simp [h1,h2]
theorem B2p:∀ (a b:List V),inR .i64 (A4W a b):=by
 have z0:inR .i64 0:=⟨by decide,by decide⟩
 have z1:inR .i64 1:=⟨by decide,by decide⟩
 have zm:inR .i64 (-1):=⟨by decide,by decide⟩
 intro a
 induction a with
 | nil=>intro b;cases b<;>assumption
 | cons x a ih =>
  intro b
  cases b with
  | nil=>exact z1
  | cons y b =>
   simp only [A4W]
   cases E8 x.int y.int
   ·cases E8 y.int x.int
    ·exact ih b
    ·exact z1
   ·exact zm
def C0t (T:TT) (u8s:Nat):N9:=fun args of nx =>
 match X1 T of [u8s,u8s] args with
 | some ([x,y],wo)=>some ⟨.i .i64 (A4W x.els y.els),[],U1 wo,nx⟩
 | _=>none
theorem C0u {u8 u8s:Nat} (h1:B2 T u8s=some (.slice u8)) (h2:B2 T u8=some (.int .u8)) {f:FuncId} {fn:Func} (hf:P.funcs[f]? = some fn) (hname:(fn.name == "runtime.NumGoroutine")=false) (hb:fn.body.isNone=true) (hn:Extern.findNext fn=none) (he:Extern.find fn=some Extern.BytealgCompare.compare):C0 P T f (C0t T u8s):=by
 intro c e of of' as0 vals nx out hos hs hro hu hvals
 unfold C0t at hs
 split at hs<;>try (cases hs;done)
 rename_i x y wo hv
 injection hs with hs;subst hs
 obtain ⟨e1,g1,g2,g3,g4,g5⟩:=A4L hos hv hro hvals
 obtain ⟨vals⟩:=vals
 simp only at g5
 cases g5 with
 | @cons _ _ _ _ v1 _ r1 a1 g5 =>
 cases g5 with
 | @cons _ _ _ _ v2 _ r2 a2 g5 =>
 cases g5
 obtain ⟨n1,p1,q1,b1⟩:=A4V (P:=P) h1 h2 r1 a1
 obtain ⟨n2,p2,q2,b2⟩:=A4V (P:=P) h1 h2 r2 a2
 rw [g1] at b1 b2
 have hrun:(callFunc f #[v1,v2]).run P e.w=.ok (.value (.int .i64 (A4W x.els y.els))) e.w:=by
  rw [run_callFunc_extern hf hname hb hn he]
  show ((do pure (goInt (Extern.BytealgCompare.cmp (← Extern.Bytes.bytesOf v1) (← Extern.Bytes.bytesOf v2))):Sem Value).run P e.w).andThen _=_
  simp only [Sem.run_bind,b1,b2,Result.andThen,Sem.run_pure]
  rw [Lib.cmp_eq,p1,p2,← B7G _ _ q1 q2]
  rfl
 exact E5 (.inl ⟨_,e.w,hrun,A4 hos (G6 (B2p _ _))⟩)
section
variable {P:Program} {H:Type} {enc:TypeId×Value→H} {w w':World} {b0:Nat} {held:Bool}
theorem A0J {α β:Type} {g g':α→Option β}:∀ (l:List α) (xs:List β),l.mapM g=some xs→(∀ a∈l,∀ x,g a=some x→g' a=some x)→l.mapM g'=some xs:=by
 intro l
 induction l with
 | nil=>intro xs h _;simpa using h
 | cons a r ih =>
  intro xs h hg
  simp only [List.mapM_cons] at h ⊢
  cases ha:g a with
  | none=>simp [ha] at h
  | some x =>
   cases hr:r.mapM g with
   | none=>simp [ha,hr] at h
   | some ys =>
    simp [ha,hr] at h
    rw [hg a (by simp) x ha,ih ys hr (fun i hi=>hg i (by simp [hi]))]
    simp [h]
theorem A02 (a:Addr) (i:Nat):(a.add i).block=a.block:=by
 unfold Addr.add;split<;>simp_all
theorem A4X {a:Addr} {v:Value} (h:w.cell? a=some v):a.block < w.heap.size:=by
 unfold World.cell? at h
 cases hb:w.heap[a.block]? with
 | none=>simp [hb] at h
 | some o=>exact (Array.getElem?_eq_some_iff.1 hb).1
theorem B2q {a:Addr} (hb:w'.heap[a.block]? = w.heap[a.block]?):w'.cell? a=w.cell? a:=by
 unfold World.cell?;rw [hb]
theorem B2r (hw:∀ i,i < w.heap.size→w'.heap[i]? = w.heap[i]?) {a:Addr} {n:Nat} {l:List Value} (hn:0 < n) (h:w.cells? b0 a n=some l):a.block < w.heap.size∧w'.cells? b0 a n=some l:=by
 unfold World.cells? at h ⊢
 split at h<;>try (cases h;done)
 rename_i hb
 rw [if_pos hb]
 have hblk:a.block < w.heap.size:=by
  obtain ⟨m,rfl⟩:∃ m,n=m+1:=⟨n - 1,by omega⟩
  rw [List.range_succ_eq_map,List.mapM_cons] at h
  cases h0:w.cell? (a.add 0) with
  | none=>simp [h0] at h
  | some v=>have:=A4X h0;rwa [A02] at this
 refine ⟨hblk,A0J _ _ h (fun i _ x hx=>?_)⟩
 have e:=B2q (w:=w) (w':=w') (a:=a.add i) (by rw [A02];exact hw _ hblk)
 rw [e];exact hx
def A3P (P:Program) (R:List TypeId):Bool:=R.all fun t=>match P.underlying t with
 | some (.slice e)=>decide (0 < P.cellsOf e)&&R.contains e
 | some (.pointer e)=>decide (0 < P.cellsOf e)&&R.contains e
 | some (.struct fs)=>fs.toList.all fun f=>R.contains f.type
 | some (.array _ e)=>R.contains e
 | some (.map _ e)=>R.contains e
 | _=>true
theorem B5k {R:List TypeId} (hR:A3P P R=true) (hw:∀ i,i < w.heap.size→w'.heap[i]? = w.heap[i]?) :
  ∀ (fuel:Nat) (t:TypeId) (cs:List Value) (x:DataW H×List MemPlace),t∈R→DataW.trod enc P w b0 (fun _=>true) true fuel t cs=some x→DataW.trod enc P w' b0 (fun b=>decide (b < w.heap.size)) true fuel t cs=some x:=by
 intro fuel
 induction fuel with
 | zero=>intro t cs x _ h;simp [DataW.trod] at h
 | succ fuel ih =>
  intro t cs x ht h
  have hRt:=(List.all_eq_true.1 hR) t ht
  have bindcells:∀ (a:Addr) (n:Nat) (e:TypeId) (y:DataW H×List MemPlace),e∈R→0 < n→(w.cells? b0 a n).bind (DataW.trod enc P w b0 (fun _=>true) true fuel e)=some y →
    a.block < w.heap.size∧(w'.cells? b0 a n).bind (DataW.trod enc P w' b0 (fun b=>decide (b < w.heap.size)) true fuel e)=some y:=fun a n e y he hn h=>by
   cases hc:w.cells? b0 a n with
   | none=>simp [hc] at h
   | some l =>
    rw [hc] at h
    obtain ⟨h1,h2⟩:=B2r hw hn hc
    exact ⟨h1,by rw [h2];exact ih _ _ _ he h⟩
  simp only [DataW.trod] at h ⊢
  split at h
  case h_6 a e hu =>
   rw [hu] at hRt
   simp only [C3o,C3z,List.contains_iff_mem] at hRt
   obtain ⟨y,hy,rfl⟩:=Option.map_eq_some_iff.1 h
   rw [(bindcells _ _ _ _ hRt.2 hRt.1 hy).2];rfl
  case h_8 e a len cap hu =>
   rw [hu] at hRt
   simp only [C3o,C3z,List.contains_iff_mem] at hRt
   split at h<;>try (cases h;done)
   rename_i hc
   rw [if_pos hc]
   cases h1:(List.range len).mapM (fun i=>(w.cells? b0 (a.add (i * P.cellsOf e)) (P.cellsOf e)).bind (DataW.trod enc P w b0 (fun _=>true) true fuel e)) with
   | none=>rw [h1] at h;cases h
   | some elems =>
    rw [h1] at h
    have g1:=A0J _ _ h1 (fun i _ y hy=>(bindcells _ _ _ _ hRt.2 hRt.1 hy).2)
    rw [g1]
    simp only [Option.bind_some,if_true] at h ⊢
    obtain ⟨rest,hr,rfl⟩:=Option.map_eq_some_iff.1 h
    by_cases hb:a.block < w.heap.size
    ·have g2:=A0J _ _ hr (fun i _ y hy=>(bindcells _ _ _ _ hRt.2 hRt.1 hy).2)
     rw [if_pos (by simpa using hb),g2];rfl
    ·have hz:cap - len=0:=by
      rcases Nat.eq_zero_or_pos (cap - len) with h0 | h0
      ·exact h0
      ·exfalso
       obtain ⟨m,hm⟩:∃ m,cap - len=m+1:=⟨cap - len - 1,by omega⟩
       rw [hm,List.range_succ_eq_map,List.mapM_cons] at hr
       cases h0:(w.cells? b0 (a.add ((len+0) * P.cellsOf e)) (P.cellsOf e)).bind (DataW.trod enc P w b0 (fun _=>true) true fuel e) with
       | none=>rw [h0] at hr;simp at hr
       | some y =>
        have:=(bindcells _ _ _ _ hRt.2 hRt.1 h0).1
        rw [A02] at this
        exact hb this
     rw [hz] at hr
     simp at hr;subst hr
     rw [if_neg (by simpa using hb)];rfl
  case h_9 fs cs' hu =>
   rw [hu] at hRt
   simp only [List.all_eq_true,List.contains_iff_mem] at hRt
   split at h<;>try (cases h;done)
   rename_i hc
   rw [if_pos hc]
   obtain ⟨y,hy,rfl⟩:=Option.map_eq_some_iff.1 h
   rw [A0J _ _ hy (fun f hf z hz=>ih _ _ _ (hRt f hf) hz)];rfl
  case h_10 n e cs' hu =>
   rw [hu] at hRt
   simp only [List.contains_iff_mem] at hRt
   split at h<;>try (cases h;done)
   rename_i hc
   rw [if_pos hc]
   obtain ⟨y,hy,rfl⟩:=Option.map_eq_some_iff.1 h
   rw [A0J _ _ hy (fun i _ z hz=>ih _ _ _ hRt hz)];rfl
  case h_14 k e b hu =>
   rw [hu] at hRt
   simp only [List.contains_iff_mem] at hRt
   cases ho:w.heap[b]? with
   | none=>rw [ho] at h;cases h
   | some o =>
    have hb:b < w.heap.size:=(Array.getElem?_eq_some_iff.1 ho).1
    rw [ho] at h
    rw [hw b hb,ho]
    cases o with
    | map es clock =>
     simp only at h ⊢
     split at h<;>try (cases h;done)
     rename_i hc
     rw [if_pos hc]
     obtain ⟨xs,h1,h2⟩:=Option.bind_eq_some_iff.1 h
     rw [A0J _ _ h1 (fun a _ y hy=>by
      obtain ⟨key,k1,k2⟩:=Option.bind_eq_some_iff.1 hy
      rw [k1]
      simp only [Option.bind_some]
      split at k2<;>try (cases k2;done)
      rename_i hf
      rw [if_pos hf]
      obtain ⟨z,hz,rfl⟩:=Option.map_eq_some_iff.1 k2
      rw [ih _ _ _ hRt hz];rfl)]
     exact h2
    | _=>cases h
  all_goals exact h
theorem A8w {R:List TypeId} (hR:A3P P R=true) (hw:∀ i,i < w.heap.size→w'.heap[i]? = w.heap[i]?) :
  ∀ (ts:List TypeId) (vs:List Value) (ds:List (DataW H)) (ps:List MemPlace),(∀ t∈ts,t∈R)→DataW.TrodAll enc P w b0 (fun _=>true) true ts vs ds ps→DataW.TrodAll enc P w' b0 (fun b=>decide (b < w.heap.size)) true ts vs ds ps:=by
 intro ts
 induction ts with
 | nil =>
  intro vs ds ps _ h
  cases vs<;>cases ds<;>first | exact h | (exact False.elim h)
 | cons t r ih =>
  intro vs ds ps hts h
  cases vs with
  | nil=>exact False.elim h
  | cons v vs =>
   cases ds with
   | nil=>exact False.elim h
   | cons d ds =>
    obtain ⟨p,q,⟨fuel,h1⟩,h2,h3⟩:=h
    exact ⟨p,q,⟨fuel,B5k hR hw _ _ _ _ (hts _ (by simp)) h1⟩,ih _ _ _ (fun t ht=>hts t (by simp [ht])) h2,h3⟩
theorem B2s {f:Func} {s:ChangeSpec} {args:Array Value} {ds gs:List (DataW H)} {before:List MemPlace} {fresh:Bool} {R:List TypeId} (hR:A3P P R=true) (hpR:f.params.toList.all (fun t=>R.contains t)=true)
  (hW:DataW.Whole enc P f.params.toList s.vars false w args.toList ds gs before) (hs:A76 w w') (hv:s.vars=[]) {t:TypeId} (hr:f.resultTypes=#[t]) (ht:P.underlying t=some .bool)
  (hfn:s.fn H (ds++gs)={ results:=[.lit (.bool true)],args:=ds }):s.post enc P f false fresh false false w args (.bool true) w':=by
 have hW':=hW
 obtain ⟨p,q,hA,hV,hb,hz,hn⟩:=hW
 rw [hv] at hV
 have hgq:gs=[]∧q=[]:=by cases gs<;>first | exact ⟨rfl,hV⟩ | exact False.elim hV
 obtain ⟨rfl,rfl⟩:=hgq
 refine ⟨ds,[],before,[],p,[],hW',?_,?_,?_,hs.kept _,fun h=>by cases h⟩
 ·rw [hfn,hr]
  exact ⟨[],[],⟨1,by simp [DataW.trod,ht,Value.cells]⟩,rfl,rfl⟩
 ·rw [hfn];exact A8w hR hs.2.2.2 _ _ _ _ (fun t ht=>by have:=(List.all_eq_true.1 hpR) t ht;simpa [List.contains_iff_mem] using this) hA
 ·rw [hfn,hv];rfl
end
variable {T:TT} {P:Program}
def B0U:List (Nat×N9)→Nat→Option N9
 | [],_=>none
 | (k,s)::r,f=>bif Nat.beq k f then some s else B0U r f
def U0 (P:Program) (T:TT):List (Nat×N9)→Prop
 | []=>True
 | (k,s)::r=>C0 P T k s∧U0 P T r
theorem B5l:∀ {l:List (Nat×N9)},U0 P T l→∀ f s,B0U l f=some s→C0 P T f s:=by
 intro l
 induction l with
 | nil=>intro _ f s h;cases h
 | cons p r ih =>
  obtain ⟨k,s0⟩:=p
  intro h f s hs
  simp only [B0U] at hs
  cases hk:Nat.beq k f with
  | true =>
   rw [hk] at hs;simp only [cond_true,C3q] at hs
   have:=C3n hk;subst this;subst hs
   exact h.1
  | false=>rw [hk] at hs;exact ih h.2 f s hs
def H1 (P:Program) (T:TT) (l:List (Nat×N9)) (fu d f:Nat):N9:=B3C P T (B0U l) fu d f
theorem D8 (hm:P.follows .mixedOrders=true) (hT:F4 T P) {l:List (Nat×N9)} (h:U0 P T l) {fu d f:Nat}:C0 P T f (H1 P T l fu d f):=by
 rw [H1,B3D]
 exact B1X hm hT (B5l h) (fun f n0 fn code _ _=>D7 code) d f
variable {T:TT} {P:Program} {c:F1} {e eb:A8} {of of':Nat→Option Ob}
def V4:List V→List V→Bool
 | [],_=>true
 | _::_,[]=>false
 | a::x,b::y=>bif E8 a.int b.int then true else bif E8 b.int a.int then false else V4 x y
def A3u (a:V):List V→List V
 | []=>[a]
 | b::r=>bif V4 a.els b.els then a::b::r else b::A3u a r
def A2C:List V→List V
 | []=>[]
 | a::r=>A3u a (A2C r)
open Go.RowKit Go.Maps
variable {T:TT} {P:Program} {c:F1} {e eb:A8} {of of':Nat→Option Ob}
variable {P:Program} {T:TT} {c:F1} {e eb:A8} {of of':Nat→Option Ob}
variable {P:Program} {T:TT} {R:Type}
def vI (b:V):Int→Bool:=@V.rec (fun _=>Int→Bool) (fun _=>Unit) (fun m n=>eqQ n m) (fun _ _=>false) (fun _ _ _=>false) (fun _ _ _=>false) (fun _=>false) (fun _ _=>false) () (fun _ _ _ _=>()) b
def vB (b:V):Bool→Bool:=@V.rec (fun _=>Bool→Bool) (fun _=>Unit) (fun _ _=>false) (fun y x=>@Bool.rec (fun _=>Bool→Bool) (fun y=>@Bool.rec (fun _=>Bool) true false y) (fun y=>y) x y) (fun _ _ _=>false) (fun _ _ _=>false) (fun _=>false) (fun _ _=>false) () (fun _ _ _ _=>()) b
def vS (b:V):(List V→Bool)→Bool:=@V.rec (fun _=>(List V→Bool)→Bool) (fun _=>Unit) (fun _ _=>false) (fun _ _=>false) (fun m _ f=>f m) (fun _ _ _=>false) (fun _=>false) (fun _ _=>false) () (fun _ _ _ _=>()) b
def vL (b:V):(List V→Bool)→Bool:=@V.rec (fun _=>(List V→Bool)→Bool) (fun _=>Unit) (fun _ _=>false) (fun _ _=>false) (fun _ _ _=>false) (fun m _ f=>f m) (fun _=>false) (fun _ _=>false) () (fun _ _ _ _=>()) b
def vN (b:V):Bool:=@V.rec (fun _=>Bool) (fun _=>Unit) (fun _=>false) (fun _=>false) (fun _ _=>false) (fun _ _=>false) true (fun _=>false) () (fun _ _ _ _=>()) b
def vF (b:V):Nat→Bool:=@V.rec (fun _=>Nat→Bool) (fun _=>Unit) (fun _ _=>false) (fun _ _=>false) (fun _ _ _=>false) (fun _ _ _=>false) (fun _=>false) (fun m n=>Nat.beq n m) () (fun _ _ _ _=>()) b
def onC (f:V→Bool) (g:List V→Bool) (l:List V):Bool:=@List.rec V (fun _=>(V→Bool)→(List V→Bool)→Bool) (fun _ _=>false) (fun b s _ f g=>@Bool.rec (fun _=>Bool) false (g s) (f b)) l f g
def C21 (l:List V):Bool:=@List.rec V (fun _=>Bool) true (fun _ _ _=>false) l
def eqV (a:V):V→Bool:=@V.rec (fun _=>V→Bool) (fun _=>List V→Bool) (fun n b=>vI b n) (fun x b=>vB b x) (fun _ f b=>vS b f) (fun _ f b=>vL b f) (fun b=>vN b) (fun n b=>vF b n) C21 (fun _ _ f g=>onC f g) a
def A8x (a:List V):List V→Bool:=@V.rec_1 (fun _=>V→Bool) (fun _=>List V→Bool) (fun n b=>vI b n) (fun x b=>vB b x) (fun _ f b=>vS b f) (fun _ f b=>vL b f) (fun b=>vN b) (fun n b=>vF b n) C21 (fun _ _ f g=>onC f g) a
mutual
theorem B7H:∀ (a b:V),eqV a b=true→a=b:=by
 intro a b h
 cases a with
 | i n =>
  cases b with
  | i m=>rw [show m=n from (Q9.1 ((B3j n m).symm.trans h)).symm]
  | _=>cases h
 | b x =>
  cases b with
  | b y=>cases x<;>cases y<;>first | rfl | cases h
  | _=>cases h
 | s l =>
  cases b with
  | s m=>rw [A2D l m h]
  | _=>cases h
 | l l =>
  cases b with
  | l m=>rw [A2D l m h]
  | _=>cases h
 | n=>cases b<;>first | rfl | cases h
 | f n =>
  cases b with
  | f m=>rw [C3n h]
  | _=>cases h
theorem A2D:∀ (a b:List V),A8x a b=true→a=b:=by
 intro a b h
 cases a with
 | nil=>cases b<;>first | rfl | cases h
 | cons x r =>
  cases b with
  | nil=>cases h
  | cons y s =>
   have h:@Bool.rec (fun _=>Bool) false (A8x r s) (eqV x y)=true:=h
   cases hx:eqV x y with
   | false=>rw [hx] at h;cases h
   | true=>rw [hx] at h;rw [B7H x y hx,A2D r s h]
end
def A94 {R:Type} (tab:List (List V×List Rs)):List V→(List Rs→Option R)→Option R :=
 @List.rec (List V×List Rs) (fun _=>List V→(List Rs→Option R)→Option R) (fun _ _=>none) (fun p _ ih xs k=>@Bool.rec (fun _=>Option R) (ih xs k) (k p.2) (A8x p.1 xs)) tab
def G8 (tab:List (List V×List Rs)):FC:=fun R xs k=>A94 tab xs k
theorem B5m (tab:List (List V×List Rs)):FC.nat (G8 tab):=by
 intro R xs k
 show A94 tab xs k=ob (A94 tab xs some) k
 induction tab with
 | nil=>rfl
 | cons p r ih =>
  show @Bool.rec (fun _=>Option R) (A94 r xs k) (k p.2) (A8x p.1 xs)=ob (@Bool.rec (fun _=>Option (List Rs)) (A94 r xs some) (some p.2) (A8x p.1 xs)) k
  cases A8x p.1 xs
  ·exact ih
  ·rfl
theorem B7I {tab:List (List V×List Rs)} {xs:List V} {rs:List Rs} (h:A94 tab xs some=some rs):(xs,rs)∈tab:=by
 induction tab with
 | nil=>cases h
 | cons p r ih =>
  have h:@Bool.rec (fun _=>Option (List Rs)) (A94 r xs some) (some p.2) (A8x p.1 xs)=some rs:=h
  cases he:A8x p.1 xs with
  | false=>rw [he] at h;exact List.mem_cons_of_mem _ (ih h)
  | true =>
   rw [he] at h
   simp only [C3q] at h
   have:=A2D _ _ he
   subst h;subst this
   exact List.mem_cons_self ..
def C0v (s:N9):J4:=fun R args of nx k=>ob (s args of nx) k
theorem A8y (s:N9):(C0v s).dir=s:=by
 funext args of nx
 show ob (s args of nx) some=_
 cases s args of nx<;>rfl
theorem B5n (s:N9):(C0v s).nat:=by
 intro R args of nx k
 rw [A8y];rfl
def B0V (T:TT) (s:N9) (sh:Bool) (ts:List Nat) (rk:List RK):List (List V×List Rs)→Prop
 | []=>True
 | p::r=>ob (s (E0 T ts p.1) (fun _=>none) 0) (fun out=>E7 T sh rk out)=some p.2∧B0V T s sh ts rk r
theorem B0V.at {s:N9} {sh:Bool} {ts:List Nat} {rk:List RK}:∀ {tab:List (List V×List Rs)},B0V T s sh ts rk tab→∀ p∈tab,ob (s (E0 T ts p.1) (fun _=>none) 0) (fun out=>E7 T sh rk out)=some p.2:=by
 intro tab
 induction tab with
 | nil=>intro _ p h;cases h
 | cons q r ih =>
  intro h p hp
  rcases List.mem_cons.1 hp with rfl | hp
  ·exact h.1
  ·exact ih h.2 p hp
theorem E3 {f:FuncId} {s:N9} (hs:C0 P T f s) {sh:Bool} {ts:List Nat} {rk:List RK} {tab:List (List V×List Rs)} (hts:ts.all (fun t=>(T t).isSome)=true) (h:B0V T s sh ts rk tab):C0 P T f (C1 T sh ts (G8 tab)).dir :=
 A65 (s:=C0v s) (B5n s) (by rw [A8y];exact hs) (B5m tab) hts (fun xs rs _ hrs=>h.at (xs,rs) (B7I hrs))
def bl (l:List Nat):V:=.l (l.map fun n=>.i (n:Nat))
def bs (l:List Nat):V:=.s (l.map fun n=>.i (n:Nat))
variable {R:Type}
variable {P:Program} {T:TT} {R:Type} {e:A8}
def A7a (c:Int):List V→Nat
 | []=>0
 | a::r=>bif ieq a.int c then A7a c r+1 else A7a c r
def A27 (c:Int):Nat→List V→Int
 | _,[] => -1
 | i,a::r=>bif ieq a.int c then (i:Nat) else A27 c (i+1) r
def A7b:N9:=fun args of nx =>
 match args with
 | [.s l,.i .u8 c]=>if Nat.ble l.length LIM then some (.pv nx (.i .i64 (A7a c l:Nat)) []) else none
 | _=>none
def A28:N9:=fun args of nx =>
 match args with
 | [.s l,.i .u8 c]=>if Nat.ble l.length LIM then some (.pv nx (.i .i64 (A27 c 0 l)) []) else none
 | _=>none
variable {P:Program} {T:TT} {R:Type} {c:F1} {e:A8} {of:Nat→Option Ob}
def box0 (t:Nat) (x:V):Nat→Option Ob:=fun j=>bif Nat.beq j 0 then some (.box t (.v t x) false) else none
theorem A5.back {f:Nat→Option Ob} (h:A5 T c e f) {id:Nat} {o:Ob} (ho:OK T e id o) (hown:∀ b q,e.ι id=some (b,q)→c.w0.heap.size≤b∨c.M b) (hsep:∀ j b q b' q',j≠id→(f j).isSome→e.ι id=some (b,q)→e.ι j=some (b',q')→b'≠b) (hnG:∀ a b q,e.ι id=some (b,q)→¬ e.G a b):A5 T c e (D3 f id (some o)):=by
 have ne:∀ j,j≠id→D3 f id (some o) j=f j:=fun j hj=>A3 _ _ hj
 refine ⟨fun j x hj=>?_,fun i j b q b' q' hi hj hb hb' hne=>?_,fun j b q hj hb=>?_,h.lt,h.slt,h.s0,h.snew,h.os,h.tape,h.output,h.size,h.block,?_⟩
 ·by_cases hji:j=id
  ·subst hji;rw [upd_same] at hj;cases hj;exact ho
  ·rw [ne j hji] at hj;exact h.ok j x hj
 ·by_cases h1:i=id
  ·subst h1
   rw [ne j (Ne.symm hne)] at hj
   exact fun q'=>hsep j b q b' _ (Ne.symm hne) hj hb hb' q'.symm
  ·by_cases h2:j=id
   ·subst h2
    rw [ne i h1] at hi
    exact hsep i b' _ b _ h1 hi hb' hb
   ·rw [ne i h1] at hi;rw [ne j h2] at hj
    exact h.sep i j b q b' q' hi hj hb hb' hne
 ·by_cases hji:j=id
  ·subst hji;exact hown b q hb
  ·rw [ne j hji] at hj;exact h.own j b q hj hb
 ·refine ⟨fun a b1 hG j b2 q hj hb2=>?_,h.g.uniq,h.g.own,h.g.lt⟩
  by_cases hji:j=id
  ·subst hji;exact fun hq=>hnG a b2 q hb2 (hq ▸ hG)
  ·rw [ne j hji] at hj;exact h.g.sep a b1 hG j b2 q hj hb2
variable {P:Program} {T:TT} {R:Type} {c:F1} {e:A8} {of:Nat→Option Ob}
variable {P:Program} {T:TT} {R:Type}
def sub (xs:List V) (lo hi:Int):List V:=(xs.drop lo.toNat).take (hi - lo).toNat
variable {P:Program} {T:TT} {R:Type}
def leV:Nat→Int→List V
 | 0,_=>[]
 | m+1,n=>.i (IntKind.wrap .u8 n)::leV m (n.fdiv (2 ^ 8))
def C0w (n:Int):List V :=
 bif E8 n 253 then leV 1 n else bif E8 n 65536 then .i 253::leV 2 n else bif E8 n 4294967296 then .i 254::leV 4 n else .i 255::leV 8 n
variable {P:Program} {T:TT} {R:Type}
variable {P:Program} {T:TT} {R:Type}
variable {P:Program} {T:TT} {R:Type}
variable {P:Program} {T:TT} {R:Type}
variable {P:Program} {T:TT} {R:Type}
variable {P:Program} {T:TT}
variable {R:Type}
variable {P:Program} {T:TT} {R:Type}
variable {P:Program} {T:TT} {R:Type}
end Go.Vm
end