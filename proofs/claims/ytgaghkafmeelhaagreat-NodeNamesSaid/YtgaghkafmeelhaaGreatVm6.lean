/- What the operations of a program do, shown once for all programs; and numbers. -/
import Derived.Test.YtgaghkafmeelhaaGreatVm5
import Derived.LoopN
import Derived.RangeFuncLeaves
import Derived.OpenShut
import Derived.WalkKit
import Derived.ProofKit
import Derived.KernelRfl
import Derived.Laws.Externs
set_option linter.constructorNameAsVariable false
set_option linter.unusedVariables false
set_option linter.unusedSimpArgs false
set_option linter.unnecessarySimpa false
noncomputable section
namespace Go.Vm
open Go.RowKit
variable {P:Program} {T:TT} {c:F6} {e eb:B6} {of of':Nat→Option Ob}
def wS (E:J9):List (Nat×A) :=
 match E.dst with
 | some d=>[(d,E.val)]
 | none=>[]
def wO (E:J9):List (Nat×Option Ob):=E.wo.map fun p=>(p.1,some p.2)
def A12 {α:Type} (n:Nat) (k:Nat→α):α:=Nat.rec (k 0) (fun m _=>k (Nat.succ m)) n
theorem N2 {α:Type} (n:Nat) (k:Nat→α):A12 n k=k n:=by cases n<;>rfl
def C14 {α:Type} (i:Int) (k:Int→α):α :=
 match i with
 | .ofNat n=>A12 n fun n=>k (.ofNat n)
 | .negSucc n=>A12 n fun n=>k (.negSucc n)
theorem A9K {α:Type} (i:Int) (k:Int→α):C14 i k=k i:=by
 cases i with
 | ofNat n=>exact N2 n fun n=>k (.ofNat n)
 | negSucc n=>exact N2 n fun n=>k (.negSucc n)
def D3D {α:Type} (a:A) (k:A→α):α :=
 match a with
 | .i kd n=>C14 n fun n=>k (.i kd n)
 | .b q=>match q with
  | true=>k (.b true)
  | false=>k (.b false)
 | a=>k a
theorem B4e {α:Type} (a:A) (k:A→α):D3D a k=k a:=by
 cases a with
 | i kd n=>exact A9K n fun n=>k (.i kd n)
 | b q=>cases q<;>rfl
 | _=>rfl
def D3E {α β:Type} (l:List β) (k:List β→α):α :=
 match l with
 | []=>k []
 | a::r=>k (a::r)
theorem B4f {α β:Type} (l:List β) (k:List β→α):D3E l k=k l:=by cases l<;>rfl
def St.app (σ:St) (E:J9):St :=
 {sl:=match E.dst with | some d=>(d,E.val)::σ.sl | none=>σ.sl,ob:=Z0 σ.ob E.wo,rd:=W0 σ.ob E.ro σ.rd,nx:=E.hi,mks:=σ.mks }
theorem B83:∀ (l:List (Nat×Ob)) (f:Nat→Option Ob),put f l=wr f (l.map fun p=>(p.1,some p.2)):=by
 intro l
 induction l with
 | nil=>intro f;rfl
 | cons p r ih=>intro f;exact ih _
theorem B1c (σ:St) (E:J9):C4 (σ.app E).sl=wr (C4 σ.sl) (wS E):=by
 unfold St.app wS
 cases E.dst with
 | none=>rfl
 | some d=>exact E9 _ _ _
theorem B1d (σ:St) (E:J9) (of:Nat→Option Ob):B5 (σ.app E).ob of=wr (B5 σ.ob of) (wO E):=by
 show B5 (Z0 σ.ob E.wo) of=_
 rw [X3,B83];rfl
theorem H0.step {sl:Nat→A} {U:Nat→Prop} {nt:Nat} {mk:Option (List Nat)} {a:Act} (h:H0 T c eb sl of U nt mk a e) {E:J9} {x:Value} {w':World} (hl:P7 T c e of E.lo ⟨E.val,E.wo,E.ro,E.hi⟩ x w') (hd:∀ d,E.dst=some d→d < nt) :
  ∃ e',e'.w=w'∧H0 T c eb (wr sl (wS E)) (wr of (wO E)) (fun id=>U id∨(E.lo≤id∧id < E.hi)) nt mk (a.put E.dst x) e':=by
 obtain ⟨e',q1,q2,q3,q4,q5⟩:=hl
 refine ⟨e',q1,?_⟩
 have q2':A8 T c e' (wr of (wO E)):=by
  have q2:A8 T c e' (put of E.wo):=q2
  rw [B83] at q2;exact q2
 refine ⟨q2',h.le.trans q3,fun id A4=>(q4 id A4).imp (h.U id) (fun q=>q),fun t=>?_,?_,?_⟩
 ·unfold wS
  cases hdst:E.dst with
  | none=>exact (h.sl t).mono q3
  | some d =>
   have hdl:d < a.tmps.size:=by rw [h.nt];exact hd d hdst
   show B9 T e' (D9 sl d E.val t) ((a.tmps.setIfInBounds d x).getD t undef)
   by_cases ht:t=d
   ·subst ht
    rw [upd_same]
    have:(a.tmps.setIfInBounds t x).getD t undef=x:=by simp [hdl]
    rw [this];exact q5
   ·rw [A2 _ _ ht]
    have:(a.tmps.setIfInBounds d x).getD t undef=a.tmps.getD t undef:=by simp [Array.getElem?_setIfInBounds_ne (Ne.symm ht)]
    rw [this];exact (h.sl t).mono q3
 ·cases E.dst<;>exact h.def_.mono q3
 ·cases E.dst with
  | none=>exact h.nt
  | some d=>show (a.tmps.setIfInBounds d x).size=nt;rw [Array.size_setIfInBounds];exact h.nt
def V8 (nt:Nat) (o:Oper):Bool :=
 match o.dst with
 | some d=>Nat.blt d nt
 | none=>true
def F2 (T:TT) (K:KS) (ops:Array Oper) (of:Nat→Option Ob):List Oper→St→Option (List J9×St)
 | [],σ=>some ([],σ)
 | o::r,σ =>
  match V2 T K ops (C4 σ.sl) (B5 σ.ob of) σ.nx o with
  | some E=>D3D E.val fun v=>A12 E.hi fun h=>D3E (W0 σ.ob E.ro σ.rd) fun rd =>
   match F2 T K ops of r { sl:=match E.dst with | some d=>(d,v)::σ.sl | none=>σ.sl,ob:=Z0 σ.ob E.wo,rd:=rd,nx:=h,mks:=σ.mks } with
   | some (Es,σ')=>some ({ E with val:=v,hi:=h }::Es,σ')
   | none=>none
  | none=>none
theorem Z7 {K:KS} {ops:Array Oper} {of:Nat→Option Ob} {o:Oper} {r:List Oper} {σ:St}:F2 T K ops of (o::r) σ =
  match V2 T K ops (C4 σ.sl) (B5 σ.ob of) σ.nx o with
  | some E=>(match F2 T K ops of r (σ.app E) with
   | some (Es,σ')=>some (E::Es,σ')
   | none=>none)
  | none=>none:=by
 simp only [F2,B4e,N2,B4f]
 rfl
structure A0d (of of':Nat→Option Ob) (eb:B6) (n0:Nat) (σ:St):Prop where
 rd:∀ id∈σ.rd,of' id=of id
 fr:∀ id,n0≤id→id < σ.nx→¬ eb.U id
def St.le (σ σ':St):Prop:=(∀ id∈σ.rd,id∈σ'.rd)∧σ.nx≤σ'.nx
theorem St.le.refl (σ:St):σ.le σ:=⟨fun _ h=>h,Nat.le_refl _⟩
theorem St.le.trans {a b c:St} (h:a.le b) (k:b.le c):a.le c:=⟨fun id A4=>k.1 id (h.1 id A4),Nat.le_trans h.2 k.2⟩
theorem A0d.mono {eb:B6} {n0:Nat} {σ σ':St} (h:A0d of of' eb n0 σ') (hle:σ.le σ'):A0d of of' eb n0 σ:=⟨fun id A4=>h.rd id (hle.1 id A4),fun id h1 h2=>h.fr id h1 (Nat.lt_of_lt_of_le h2 hle.2)⟩
theorem D3F {K:KS} {ops:Array Oper} {sl:Nat→A} {o:Oper} {E:J9} {σ:St} (hr:V2 T K ops sl of σ.nx o=some E):σ.le (σ.app E):=⟨L4 _ _ _,(U2 hr).2.1⟩
theorem T3 {K:KS} {ops:Array Oper}:∀ (l:List Oper) (σ σ':St) (Es:List J9),F2 T K ops of l σ=some (Es,σ')→σ.le σ':=by
 intro l
 induction l with
 | nil=>intro σ σ' Es h;simp only [F2,D9B,Prod.mk.injEq] at h;rw [h.2];exact St.le.refl _
 | cons o r ih =>
  intro σ σ' Es h
  rw [Z7] at h
  split at h<;>try (cases h;done)
  rename_i E hE
  split at h<;>try (cases h;done)
  rename_i Es' σ2 hrec
  simp only [D9B,Prod.mk.injEq] at h
  obtain ⟨-,rfl⟩:=h
  exact (D3F hE).trans (ih _ _ _ hrec)
theorem N8 {ob:Tr} {rd ro:List Nat} {l:List Nat} (h:∀ id∈rd,of' id=of id) (hm:∀ id∈W0 ob ro l,id∈rd):∀ id∈ro,B5 ob of' id=B5 ob of id:=by
 intro id A4
 unfold B5
 rcases B6i ob ro l id A4 with ⟨o,ho⟩ | h'
 ·rw [ho]
 ·cases ob.get id with
  | some o=>rfl
  | none=>exact h id (hm id h')
theorem A6u {rd:Option Nat} {m:Nat} (hT:H2 T P) {K:KS} (hK:KOK P T K) {ops:Array Oper} {Q:Exit→Act→World→Prop} {n0 nt:Nat}:∀ (l:List Oper) (k:Nat) (σ σ':St) (Es:List J9) (a:Act) (w:World),(∀ j,l[j]? = ops[k+j]? ∨ l.length≤j)→(∀ o∈l,V8 nt o=true) →
  F2 T K ops of l σ=some (Es,σ')→n0≤σ.nx→A0d of of' eb n0 σ'→X1 T c eb of' n0 nt σ a w→(∀ a' w',X1 T c eb of' n0 nt σ' a' w'→Q .normal a' w')→wpOpsIn (WF rd) m P ops Q (List.range' k l.length) a w:=by
 intro l
 induction l with
 | nil =>
  intro k σ σ' Es a w _ _ hr _ _ hs hQ
  simp only [F2,D9B,Prod.mk.injEq] at hr
  obtain ⟨-,rfl⟩:=hr
  exact hQ a w hs
 | cons o r ih =>
  intro k σ σ' Es a w hl hd hr hn hfit hs hQ
  have h0:ops[k]? = some o:=by
   rcases hl 0 with h | h
   ·simpa using h.symm
   ·simp at h
  rw [Z7] at hr
  split at hr<;>try (cases hr;done)
  rename_i E hE
  split at hr<;>try (cases hr;done)
  rename_i Es' σ2 hrec
  simp only [D9B,Prod.mk.injEq] at hr
  obtain ⟨rfl,rfl⟩:=hr
  have hle:=T3 _ _ _ _ hrec
  obtain ⟨k1,k2,k3,k4⟩:=U2 hE
  obtain ⟨e,rfl,hst⟩:=hs
  rw [D9G,List.range'_succ,wpOpsIn_cons]
  refine A90 hT hK h0 hst.os hE (N8 hfit.rd hle.1) (fun id h1 h2 hu=>?_) (fun t _=>hst.sl t) (fun x w' hl'=>?_)
  ·rcases hst.U id hu with h3 | h3
   ·exact hfit.fr id (by omega) (Nat.lt_of_lt_of_le h2 hle.2) h3
   ·omega
  ·obtain ⟨e',rfl,hst'⟩:=hst.step hl' (fun d hd'=>by
    have:=hd o (by simp)
    unfold V8 at this
    rw [← k3,hd'] at this
    simpa [Nat.blt_eq] using this)
   refine ih (k+1) (σ.app E) _ _ _ _ (fun j=>?_) (fun o' ho'=>hd o' (by simp [ho'])) hrec (Nat.le_trans hn k2) hfit ⟨e',rfl,?_⟩ hQ
   ·rcases hl (j+1) with h | h
    ·left;simpa [Nat.add_assoc,Nat.add_comm 1 j] using h
    ·right;simp at h;omega
   ·rw [B1c,B1d]
    refine ⟨hst'.os,hst'.le,fun id A4=>?_,hst'.sl,hst'.def_,hst'.nt⟩
    rcases hst'.U id A4 with (h1 | h1) | h1
    ·exact .inl h1
    ·exact .inr ⟨h1.1,Nat.lt_of_lt_of_le h1.2 k2⟩
    ·exact .inr ⟨by omega,h1.2⟩
theorem B84 {rd:Option Nat} {m:Nat} (hT:H2 T P) {K:KS} (hK:KOK P T K) {id:Nat} {ops:Array Oper} {Q:Exit→Act→World→Prop} {n0 nt:Nat} {σ σ':St} {Es:List J9} {a:Act} {w:World} (hd:ops.toList.all (V8 nt)=true) (hr:F2 T K ops of ops.toList σ=some (Es,σ')) (hn:n0≤σ.nx) (hfit:A0d of of' eb n0 σ')
  (hs:X1 T c eb of' n0 nt σ a w) (hQ:∀ a' w',X1 T c eb of' n0 nt σ' a' w'→Q .normal a' w'):(Code.region id ops false).wpIn (WF rd) m P Q a w:=by
 refine wpIn_region ?_
 have:=A6u (rd:=rd) (m:=m) hT hK (Q:=Q) ops.toList 0 σ σ' Es a w (fun j=>.inl (by simp)) (List.all_eq_true.1 hd) hr hn hfit hs hQ
 rwa [D9F,← List.range_eq_range'] at this
variable {P:Program} {T:TT} {c:F6} {e eb:B6} {of of':Nat→Option Ob}
def C15 (o:Oper) (acc:List Nat):Nat:=o.after.toList.foldl (fun s e=>if Region.binds .any e then s ||| 2 ^ e.on ||| acc.getD e.on 0 else s) 0
def Q6:List Oper→List Nat→List Nat
 | [],acc=>acc
 | o::r,acc=>Q6 r (acc++[C15 o acc])
def B5G (t:Option Nat) (l:List Nat):Bool :=
 match t with
 | some d=>mem d l
 | none=>false
def A9L (l:List (Nat×Ob)) (E:J9):Bool:=l.any fun p=>mem p.1 E.ro||mem p.1 (E.wo.map (·.1))
def A8C (a b:Option Nat):Bool :=
 match a,b with
 | some x,some y=>Nat.beq x y
 | _,_=>false
def W9 (A B:J9):Bool:=B5G A.dst B.rs||B5G B.dst A.rs||A8C A.dst B.dst||A9L A.wo B||A9L B.wo A
def A0Q:Nat→List Oper→Bool
 | _,[]=>true
 | i,o::r=>o.after.toList.all (fun e=>!(Region.binds .any e)||Nat.blt e.on i)&&A0Q (i+1) r
theorem A2S:∀ (l:List Oper) (i:Nat),A0Q i l=true→∀ q o,l[q]? = some o→∀ e∈o.after,Region.binds .any e=true→e.on < i+q:=by
 intro l
 induction l with
 | nil=>intro i _ q o h;simp at h
 | cons o0 r ih =>
  intro i h q o hq e he hb
  simp only [A0Q,D9z,List.all_eq_true,Bool.or_eq_true,Bool.not_eq_true'] at h
  cases q with
  | zero =>
   simp only [List.getElem?_cons_zero,D9B] at hq
   subst hq
   rcases h.1 e (Array.mem_toList_iff.2 he) with h1 | h1
   ·rw [hb] at h1;cases h1
   ·simpa [Nat.blt_eq] using h1
  | succ q=>rw [show i+(q+1)=i+1+q by omega];exact ih (i+1) h.2 q o (by simpa using hq) e he hb
theorem B5H {D:Nat→Bool} {G:Nat→Prop} (hDG:∀ j,D j=true→G j) {acc:List Nat} (hacc:∀ j,G j→∀ p,(acc.getD j 0).testBit p=true→D p=true) {o:Oper} (ho:∀ e∈o.after,Region.binds .any e=true→D e.on=true) :
  ∀ p,(C15 o acc).testBit p=true→D p=true:=by
 unfold C15
 have key:∀ (l:List Edge) (s:Nat),(∀ e∈l,Region.binds .any e=true→D e.on=true)→(∀ p,s.testBit p=true→D p=true) →
   ∀ p,(l.foldl (fun s e=>if Region.binds .any e then s ||| 2 ^ e.on ||| acc.getD e.on 0 else s) s).testBit p=true→D p=true:=by
  intro l
  induction l with
  | nil=>intro s _ hs p h;exact hs p h
  | cons e r ih =>
   intro s hl hs p h
   simp only [List.foldl_cons] at h
   refine ih _ (fun e' he'=>hl e' (by simp [he'])) ?_ p h
   intro p hp
   split at hp
   ·rename_i hb
    have hD:=hl e (by simp) hb
    rw [Nat.testBit_or,Nat.testBit_or,Bool.or_eq_true,Bool.or_eq_true,Nat.testBit_two_pow] at hp
    rcases hp with (hp | hp) | hp
    ·exact hs p hp
    ·have:e.on=p:=by simpa using hp
     rw [← this];exact hD
    ·exact hacc _ (hDG _ hD) p hp
   ·exact hs p hp
 exact key o.after.toList 0 (fun e he=>ho e (Array.mem_toList_iff.1 he)) (fun p hp=>by simp at hp)
theorem A3e {D:Nat→Bool} {G:Nat→Prop} (hDG:∀ j,D j=true→G j):∀ (l:List Oper) (acc:List Nat),(∀ j,G j→∀ p,(acc.getD j 0).testBit p=true→D p=true) →
  (∀ q o,l[q]? = some o→G (acc.length+q)→∀ e∈o.after,Region.binds .any e=true→D e.on=true) →
  ∀ j,G j→∀ p,((Q6 l acc).getD j 0).testBit p=true→D p=true:=by
 intro l
 induction l with
 | nil=>intro acc hacc _;exact hacc
 | cons o r ih =>
  intro acc hacc h
  refine ih (acc++[C15 o acc]) (fun j hj p hp=>?_) (fun q o' hq=>by have:=h (q+1) o' (by simpa using hq);rwa [D9A,D9H,show acc.length+1+q=acc.length+(q+1) by omega])
  rcases Nat.lt_trichotomy j acc.length with hlt | heq | hgt
  ·exact hacc j hj p (by rw [List.getD_eq_getElem?_getD,List.getElem?_append_left hlt,← List.getD_eq_getElem?_getD] at hp;exact hp)
  ·subst heq
   rw [List.getD_eq_getElem?_getD,List.getElem?_append_right (Nat.le_refl _),Nat.sub_self] at hp
   exact B5H hDG hacc (h 0 o rfl (by simpa using hj)) p (by simpa using hp)
  ·rw [List.getD_eq_getElem?_getD,List.getElem?_eq_none (by simp;omega)] at hp
   simp at hp
theorem Z8 {K:KS} {ops:Array Oper}:∀ (l:List Oper) (σ σ':St) (Es:List J9),F2 T K ops of l σ=some (Es,σ') →
  σ'=Es.foldl St.app σ∧Es.length=l.length∧∀ (p:Nat) o,l[p]? = some o→∃ E,Es[p]? = some E∧V2 T K ops (C4 ((Es.take p).foldl St.app σ).sl) (B5 ((Es.take p).foldl St.app σ).ob of) ((Es.take p).foldl St.app σ).nx o=some E∧(((Es.take p).foldl St.app σ).app E).le σ':=by
 intro l
 induction l with
 | nil =>
  intro σ σ' Es h
  simp only [F2,D9B,Prod.mk.injEq] at h
  obtain ⟨rfl,rfl⟩:=h
  exact ⟨rfl,rfl,fun p o h=>by simp at h⟩
 | cons o r ih =>
  intro σ σ' Es h
  rw [Z7] at h
  split at h<;>try (cases h;done)
  rename_i E hE
  split at h<;>try (cases h;done)
  rename_i Es' σ2 hrec
  simp only [D9B,Prod.mk.injEq] at h
  obtain ⟨rfl,rfl⟩:=h
  obtain ⟨h1,h2,h3⟩:=ih _ _ _ hrec
  refine ⟨h1,by simp [h2],fun p o' hp=>?_⟩
  cases p with
  | zero =>
   simp only [List.getElem?_cons_zero,D9B] at hp
   subst hp
   exact ⟨E,rfl,hE,T3 _ _ _ _ hrec⟩
  | succ p=>simpa using h3 p o' (by simpa using hp)
theorem A2E:∀ (Es:List J9) (σ:St),C4 (Es.foldl St.app σ).sl=(Es.map wS).foldl wr (C4 σ.sl):=by
 intro Es
 induction Es with
 | nil=>intro σ;rfl
 | cons E r ih=>intro σ;simp only [List.foldl_cons,List.map_cons];rw [ih,B1c]
theorem A2F (of:Nat→Option Ob):∀ (Es:List J9) (σ:St),B5 (Es.foldl St.app σ).ob of=(Es.map wO).foldl wr (B5 σ.ob of):=by
 intro Es
 induction Es with
 | nil=>intro σ;rfl
 | cons E r ih=>intro σ;simp only [List.foldl_cons,List.map_cons];rw [ih,B1d]
theorem B1e {K:KS} {ops:Array Oper} {l:List Oper} {σ σ':St} {Es:List J9} (h:F2 T K ops of l σ=some (Es,σ')):∀ (p:Nat),σ.nx≤((Es.take p).foldl St.app σ).nx∧∀ q E,Es[q]? = some E→((Es.take q).foldl St.app σ).nx=E.lo∧E.lo≤E.hi∧(q < p→E.hi≤((Es.take p).foldl St.app σ).nx):=by
 obtain ⟨h1,h2,h3⟩:=Z8 _ _ _ _ h
 have one:∀ q E,Es[q]? = some E→((Es.take q).foldl St.app σ).nx=E.lo∧E.lo≤E.hi∧((Es.take (q+1)).foldl St.app σ).nx=E.hi:=by
  intro q E hE
  have hq:q < l.length:=by rw [← h2];exact (List.getElem?_eq_some_iff.1 hE).1
  obtain ⟨E',g1,g2,g3⟩:=h3 q l[q] (D9L hq)
  rw [hE] at g1;cases g1
  obtain ⟨k1,k2,_⟩:=U2 g2
  refine ⟨k1.symm,by omega,?_⟩
  obtain ⟨hlt,hEq⟩:=List.getElem?_eq_some_iff.1 hE
  rw [List.take_succ_eq_append_getElem hlt,List.foldl_append,hEq]
  rfl
 have mono:∀ p,((Es.take p).foldl St.app σ).nx≤((Es.take (p+1)).foldl St.app σ).nx:=by
  intro p
  cases hp:Es[p]? with
  | none =>
   have:=List.getElem?_eq_none_iff.1 hp
   rw [List.take_of_length_le this,List.take_of_length_le (by omega)]
   exact Nat.le_refl _
  | some E=>obtain ⟨a,b,d⟩:=one p E hp;omega
 have monos:∀ d p,((Es.take p).foldl St.app σ).nx≤((Es.take (p+d)).foldl St.app σ).nx:=by
  intro d
  induction d with
  | zero=>intro p;exact Nat.le_refl _
  | succ d ih=>intro p;exact Nat.le_trans (ih p) (mono (p+d))
 intro p
 refine ⟨?_,fun q E hE=>?_⟩
 ·have:=monos p 0
  rw [Nat.zero_add] at this
  exact this
 ·obtain ⟨a,b,d⟩:=one q E hE
  refine ⟨a,b,fun hqp=>?_⟩
  have:=monos (p - (q+1)) (q+1)
  rw [show q+1+(p - (q+1))=p by omega] at this
  omega
variable {P:Program} {T:TT} {c:F6} {e eb:B6} {of of':Nat→Option Ob}
theorem A2G (A B:J9):W9 A B=W9 B A:=by
 unfold W9
 have:A8C A.dst B.dst=A8C B.dst A.dst:=by
  unfold A8C
  cases A.dst<;>cases B.dst<;>first | rfl | skip
  rename_i x y
  rw [Bool.eq_iff_iff]
  show (Nat.beq x y=true)↔(Nat.beq y x=true)
  rw [Nat.beq_eq,Nat.beq_eq]
  exact eq_comm
 rw [this,Bool.or_comm (B5G A.dst B.rs),Bool.or_right_comm (_||_) (A9L A.wo B)]
theorem B4g {A B:J9} (h:W9 A B=false):∀ t∈B.rs,t ∉ X5 (wS A):=by
 intro t ht hk
 simp only [W9,Bool.or_eq_false_iff] at h
 have h1:=h.1.1.1.1
 unfold wS at hk
 unfold B5G at h1
 cases hd:A.dst with
 | none=>rw [hd] at hk;simp [X5] at hk
 | some d =>
  rw [hd] at hk h1
  simp only [X5,List.map_cons,List.map_nil,List.mem_singleton] at hk
  subst hk
  simp only [] at h1
  rw [mem_iff.2 ht] at h1;cases h1
theorem B4h {A B:J9} (h:W9 A B=false):∀ t,t∈X5 (wS A)→t ∉ X5 (wS B):=by
 intro t hA hB
 simp only [W9,Bool.or_eq_false_iff] at h
 have h1:=h.1.1.2
 unfold wS at hA hB
 unfold A8C at h1
 cases hd:A.dst with
 | none=>rw [hd] at hA;simp [X5] at hA
 | some d =>
  cases hd':B.dst with
  | none=>rw [hd'] at hB;simp [X5] at hB
  | some d' =>
   rw [hd] at hA h1
   rw [hd'] at hB h1
   simp only [X5,List.map_cons,List.map_nil,List.mem_singleton] at hA hB
   subst hA;subst hB
   simp at h1
theorem A9M (A:J9) (t:Nat):t∈X5 (wO A)↔∃ p∈A.wo,p.1=t:=by
 simp [X5,wO]
theorem B4i {A B:J9} (h:W9 A B=false):∀ t∈B.ro,t ∉ X5 (wO A):=by
 intro t ht hk
 simp only [W9,Bool.or_eq_false_iff] at h
 have h1:=h.1.2
 obtain ⟨p,hp,rfl⟩:=(A9M A t).1 hk
 unfold A9L at h1
 rw [List.any_eq_false] at h1
 have:=h1 p hp
 simp only [Bool.or_eq_true,mem_iff,not_or] at this
 exact this.1 ht
theorem B4j {A B:J9} (h:W9 A B=false):∀ t,t∈X5 (wO A)→t ∉ X5 (wO B):=by
 intro t hA hB
 simp only [W9,Bool.or_eq_false_iff] at h
 have h1:=h.1.2
 obtain ⟨p,hp,rfl⟩:=(A9M A t).1 hA
 obtain ⟨q,hq,hqp⟩:=(A9M B p.1).1 hB
 unfold A9L at h1
 rw [List.any_eq_false] at h1
 have:=h1 p hp
 simp only [Bool.or_eq_true,mem_iff,not_or] at this
 exact this.2 (List.mem_map.2 ⟨q,hq,hqp⟩)
def left (D:Nat→Bool) (n:Nat):Nat:=((List.range n).filter fun j=>!D j).length
theorem A5d {D:Nat→Bool} {n i:Nat} (hi:i < n) (hD:D i=false):left (fun j=>j == i||D j) n < left D n:=by
 unfold left
 have key:∀ (l:List Nat),(l.filter fun j=>!(j == i||D j)).length≤(l.filter fun j=>!D j).length∧(i∈l→(l.filter fun j=>!(j == i||D j)).length < (l.filter fun j=>!D j).length):=by
  intro l
  induction l with
  | nil=>simp
  | cons k r ih =>
   by_cases hk:k=i
   ·subst hk
    simp only [beq_self_eq_true,Bool.true_or,Bool.not_true,Bool.false_eq_true,not_false_eq_true,List.filter_cons_of_neg,hD,Bool.not_false,List.filter_cons_of_pos,D9G]
    refine ⟨by omega,fun _=>by omega⟩
   ·have hb:(k == i)=false:=by simpa using hk
    cases hDk:D k
    ·simp only [List.filter_cons,hb,hDk,Bool.false_or,Bool.not_false,if_true,D9G]
     refine ⟨by omega,fun h=>?_⟩
     rcases List.mem_cons.1 h with h | h
     ·exact absurd h.symm hk
     ·have:=ih.2 h;omega
    ·simp only [List.filter_cons,hb,hDk,Bool.or_true,Bool.not_true,Bool.false_eq_true,if_false]
     refine ⟨ih.1,fun h=>?_⟩
     rcases List.mem_cons.1 h with h | h
     ·exact absurd h.symm hk
     ·exact ih.2 h
 exact (key _).2 (List.mem_range.2 hi)
theorem A1x {listed:Array Bool} {i:Nat} (h:i < listed.size):listed.getD i true=listed.getD i false:=by simp [h]
theorem B1f:∀ (Es:List J9) (σ:St),(Es.foldl St.app σ).mks=σ.mks:=by
 intro Es
 induction Es with
 | nil=>intro σ;rfl
 | cons E r ih=>intro σ;exact ih _
theorem B85 {rd:Option Nat} {m:Nat} (hT:H2 T P) {K:KS} (hK:KOK P T K) {ops:Array Oper} {Q:Exit→Act→World→Prop} {n0 nt:Nat} {σ σ':St} {Es:List J9} (hd:∀ o∈ops.toList,V8 nt o=true) (hr:F2 T K ops of ops.toList σ=some (Es,σ')) (hn:n0≤σ.nx) (hfit:A0d of of' eb n0 σ') (hcb:A0Q 0 ops.toList=true) (hchk:∀ (p q:Nat) (A B:J9),q < p→Es[p]? = some B→Es[q]? = some A→W9 A B=true→((Q6 ops.toList []).getD p 0).testBit q=true)
  (hQ:∀ a' w',X1 T c eb of' n0 nt σ' a' w'→Q .normal a' w'):∀ (fuel:Nat) (listed:Array Bool) (D:Nat→Bool) (a:Act) (e:B6),listed.size=ops.size→(∀ j,j < ops.size→D j=listed.getD j false)→(∀ j,ops.size≤j→D j=false)→left D ops.size≤fuel →
   (∀ j o,D j=true→ops[j]? = some o→∀ e∈o.after,Region.binds .any e=true→D e.on=true) →
   H0 T c eb (G5 D 0 (Es.map wS) (C4 σ.sl)) (G5 D 0 (Es.map wO) (B5 σ.ob of')) (fun id=>eb.U id∨(n0≤id∧id < σ.nx)∨∃ j E,D j=true∧Es[j]? = some E∧E.lo≤id∧id < E.hi) nt σ.mks a e →
   wpAnyIn (WF rd) m P .any ops Q fuel listed a e.w:=by
 obtain ⟨hσ,hlen0,hent⟩:=Z8 _ _ _ _ hr
 have hnx:=B1e hr
 have hlen:Es.length=ops.size:=by rw [hlen0,D9F]
 have hback:=A2S _ _ hcb
 have hopl:∀ j:Nat,ops.toList[j]? = ops[j]? := fun j=>Array.getElem?_toList
 have fin:∀ (D:Nat→Bool) (a:Act) (e:B6),(∀ j,j < ops.size→D j=true)→H0 T c eb (G5 D 0 (Es.map wS) (C4 σ.sl)) (G5 D 0 (Es.map wO) (B5 σ.ob of')) (fun id=>eb.U id∨(n0≤id∧id < σ.nx)∨∃ j E,D j=true∧Es[j]? = some E∧E.lo≤id∧id < E.hi) nt σ.mks a e→Q .normal a e.w:=by
  intro D a e hall hst
  refine hQ _ _ ⟨e,rfl,?_⟩
  have e1:G5 D 0 (Es.map wS) (C4 σ.sl)=C4 σ'.sl:=by
   rw [hσ,A2E,R8 (D':=fun j=>decide (j < 0+Es.length)) _ _ _ (fun q hq=>by
    rw [D9C] at hq
    rw [Nat.zero_add,hall q (by omega)];simp;omega),M8,List.take_of_length_le (by simp)]
  have e2:G5 D 0 (Es.map wO) (B5 σ.ob of')=B5 σ'.ob of':=by
   rw [hσ,A2F,R8 (D':=fun j=>decide (j < 0+Es.length)) _ _ _ (fun q hq=>by
    rw [D9C] at hq
    rw [Nat.zero_add,hall q (by omega)];simp;omega),M8,List.take_of_length_le (by simp)]
  rw [e1,e2] at hst
  refine ⟨hst.os,hst.le,fun id A4=>?_,hst.sl,by rw [hσ,B1f];exact hst.def_,hst.nt⟩
  rw [hσ]
  have hlast:=hnx Es.length
  rw [List.take_length] at hlast
  rcases hst.U id A4 with h1 | h1 | ⟨j,E,-,hE,hid',hid2⟩
  ·exact .inl h1
  ·exact .inr ⟨h1.1,Nat.lt_of_lt_of_le h1.2 hlast.1⟩
  ·obtain ⟨q1,q2,q3⟩:=hlast.2 j E hE
   have:=q3 (List.getElem?_eq_some_iff.1 hE).1
   have q4:=((hnx j).1)
   exact .inr ⟨by omega,by omega⟩
 have ready_nil:∀ (listed:Array Bool) (D:Nat→Bool),listed.size=ops.size→(∀ j,j < ops.size→D j=listed.getD j false)→Region.ready .any ops listed=[]→∀ j,j < ops.size→D j=true:=by
  intro listed D hsz hD hnil j
  induction j using Nat.strongRecOn with
  | ind j ih =>
   intro hj
   cases hDj:D j with
   | true=>rfl
   | false =>
    have hmem:j∈Region.ready .any ops listed:=by
     rw [mem_ready]
     refine ⟨?_,ops[j],Array.getElem?_eq_getElem hj,fun e he hb=>?_⟩
     ·rw [A1x (by rw [hsz];exact hj),← hD j hj];exact hDj
     ·have hlt:=hback j ops[j] (by rw [hopl];exact Array.getElem?_eq_getElem hj) e he hb
      rw [Nat.zero_add] at hlt
      rw [← hD _ (by omega)]
      exact ih _ hlt (by omega)
    rw [hnil] at hmem;cases hmem
 intro fuel
 induction fuel with
 | zero =>
  intro listed D a e hsz hD hDout hleft hdown hst
  have hall:∀ j,j < ops.size→D j=true:=by
   intro j hj
   cases hDj:D j with
   | true=>rfl
   | false=>have:=A5d hj hDj;omega
  refine ⟨?_,fin D a e hall hst⟩
  cases hrd:Region.ready .any ops listed with
  | nil=>rfl
  | cons i r =>
   have hi:i∈Region.ready .any ops listed:=by rw [hrd];simp
   rw [mem_ready] at hi
   obtain ⟨h0,o,ho,-⟩:=hi
   have hlt:=(Array.getElem?_eq_some_iff.1 ho).1
   have:=hD i hlt
   rw [hall i hlt,← A1x (by rw [hsz];exact hlt),h0] at this
   cases this
 | succ fuel ih =>
  intro listed D a e hsz hD hDout hleft hdown hst
  refine ⟨fun hnil=>fin D a e (ready_nil listed D hsz hD hnil) hst,fun i hi=>?_⟩
  rw [mem_ready] at hi
  obtain ⟨h0,o,ho,hedges⟩:=hi
  have hlt:=(Array.getElem?_eq_some_iff.1 ho).1
  have hDi:D i=false:=by
   rw [hD i hlt,← A1x (by rw [hsz];exact hlt)];exact h0
  have hpreds:∀ e∈o.after,Region.binds .any e=true→D e.on=true:=fun e he hb=>by
   have hl:=hback i o (by rw [hopl];exact ho) e he hb
   rw [hD _ (by omega)];exact hedges e he hb
  obtain ⟨E,hE,hentE,hleE⟩:=hent i o (by rw [hopl];exact ho)
  obtain ⟨k1,k2,k3,k4⟩:=U2 hentE
  have hG:=A3e (D:=D) (G:=fun j=>∀ o,ops[j]? = some o→∀ e∈o.after,Region.binds .any e=true→D e.on=true) (fun j hj o ho=>hdown j o hj ho) ops.toList []
   (fun j _ p hp=>by simp at hp) (fun q o' hq hGq=>hGq o' (by simpa using hq))
  have hord:∀ q A,Es[q]? = some A→W9 A E=true→q≠i→D q=decide (q < i):=by
   intro q A hA hcf hqi
   rcases Nat.lt_or_gt_of_ne hqi with hlt' | hgt
   ·have:=hchk i q A E hlt' hE hA hcf
    rw [hG i (fun o' ho'=>by rw [ho] at ho';cases ho';exact hpreds) q this];simp [hlt']
   ·cases hDq:D q with
    | false=>simp;omega
    | true =>
     have:=hchk q i E A hgt hA hE (by rw [A2G];exact hcf)
     have hq:q < ops.size:=by rw [← hlen];exact (List.getElem?_eq_some_iff.1 hA).1
     have:=hG q (fun o' ho'=>hdown q o' hDq ho') i this
     rw [hDi] at this;cases this
  have hreadS:∀ t∈E.rs,G5 D 0 (Es.map wS) (C4 σ.sl) t=C4 ((Es.take i).foldl St.app σ).sl t:=by
   intro t ht
   rw [A2E,List.map_take,← M8 _ 0]
   refine A1C _ 0 _ _ rfl (fun q l hq htl=>?_)
   rw [List.getElem?_map,Option.map_eq_some_iff] at hq
   obtain ⟨A,hA,rfl⟩:=hq
   rw [Nat.zero_add,Nat.zero_add]
   by_cases hqi:q=i
   ·subst hqi;rw [hDi];simp
   ·refine hord q A hA ?_ hqi
    cases hcf:W9 A E with
    | true=>rfl
    | false=>exact absurd htl (B4g hcf t ht)
  have hreadO:∀ t∈E.ro,G5 D 0 (Es.map wO) (B5 σ.ob of') t=B5 ((Es.take i).foldl St.app σ).ob of' t:=by
   intro t ht
   rw [A2F,List.map_take,← M8 _ 0]
   refine A1C _ 0 _ _ rfl (fun q l hq htl=>?_)
   rw [List.getElem?_map,Option.map_eq_some_iff] at hq
   obtain ⟨A,hA,rfl⟩:=hq
   rw [Nat.zero_add,Nat.zero_add]
   by_cases hqi:q=i
   ·subst hqi;rw [hDi];simp
   ·refine hord q A hA ?_ hqi
    cases hcf:W9 A E with
    | true=>rfl
    | false=>exact absurd htl (B4i hcf t ht)
  have hlater:∀ q A,i < q→Es[q]? = some A→D q=true→W9 E A=false:=by
   intro q A hq hA hDq
   cases hcf:W9 E A with
   | false=>rfl
   | true =>
    have:=hord q A hA (by rw [A2G];exact hcf) (by omega)
    rw [hDq] at this;simp at this;omega
  have hagree:∀ id∈E.ro,B5 ((Es.take i).foldl St.app σ).ob of' id=B5 ((Es.take i).foldl St.app σ).ob of id:=N8 hfit.rd hleE.1
  refine A90 hT hK ho hst.os hentE (fun id A4=>(hreadO id A4).trans (hagree id A4)) (fun id h1 h2 hu=>?_) (fun t ht=>by rw [← hreadS t ht];exact hst.sl t) (fun x w' hl=>?_)
  ·have hge:=(hnx i).1
   have hhi:id < σ'.nx:=Nat.lt_of_lt_of_le h2 hleE.2
   rcases hst.U id hu with h3 | h3 | ⟨j,A,hDj,hA,hid1,hid2⟩
   ·exact hfit.fr id (by omega) hhi h3
   ·omega
   ·rcases Nat.lt_trichotomy j i with hji | hji | hji
    ·have:=((hnx i).2 j A hA).2.2 hji;omega
    ·subst hji;rw [hDi] at hDj;cases hDj
    ·have q1:=((hnx j).2 j A hA).1
     have q2:=((hnx j).2 i E hE).2.2 hji
     omega
  ·obtain ⟨e',rfl,hst'⟩:=hst.step hl (fun d hd'=>by
    have:=hd o (List.mem_of_getElem? (by rw [hopl];exact ho))
    unfold V8 at this
    rw [← k3,hd'] at this
    simpa [Nat.blt_eq] using this)
   refine ih (listed.setIfInBounds i true) (fun j=>j == i||D j) _ e' (by simp [hsz]) (fun j hj=>?_) (fun j hj=>?_) (by have:=A5d hlt hDi;omega) (fun j o' hj ho' e he hb=>?_) ?_
   ·by_cases hji:j=i
    ·subst hji;simp [Array.getD,hsz,hj]
    ·rw [getD_set_ne false (Ne.symm hji),← hD j hj];simp [hji]
   ·have:j≠i:=by omega
    simp [this,hDout j hj]
   ·simp only [Bool.or_eq_true,beq_iff_eq] at hj ⊢
    right
    rcases hj with rfl | hj
    ·rw [ho] at ho';cases ho';exact hpreds e he hb
    ·exact hdown j o' hj ho' e he hb
   ·have f1:=A0k (D:=D) (Es.map wS) 0 i (C4 σ.sl) (wS E) (by rw [List.getElem?_map,hE];rfl) (by rw [Nat.zero_add];exact hDi) (fun q l' hq hl' hDq=>by
     rw [List.getElem?_map,Option.map_eq_some_iff] at hl'
     obtain ⟨A,hA,rfl⟩:=hl'
     rw [Nat.zero_add] at hDq
     exact B4h (hlater q A hq hA hDq))
    have f2:=A0k (D:=D) (Es.map wO) 0 i (B5 σ.ob of') (wO E) (by rw [List.getElem?_map,hE];rfl) (by rw [Nat.zero_add];exact hDi) (fun q l' hq hl' hDq=>by
     rw [List.getElem?_map,Option.map_eq_some_iff] at hl'
     obtain ⟨A,hA,rfl⟩:=hl'
     rw [Nat.zero_add] at hDq
     exact B4j (hlater q A hq hA hDq))
    simp only [Nat.zero_add] at f1 f2
    rw [f1,f2]
    refine ⟨hst'.os,hst'.le,fun id A4=>?_,hst'.sl,hst'.def_,hst'.nt⟩
    rcases hst'.U id A4 with (h1 | h1 | ⟨j,A,hDj,hA,hid'⟩) | h1
    ·exact .inl h1
    ·exact .inr (.inl h1)
    ·exact .inr (.inr ⟨j,A,by simp [hDj],hA,hid'⟩)
    ·exact .inr (.inr ⟨i,E,by simp,hE,h1⟩)
variable {P:Program} {T:TT} {c:F6} {e eb:B6} {of of':Nat→Option Ob}
def C16 {α:Type} (cf:α→α→Bool) (B:α) (m:Nat):List α→Nat→Bool
 | [],_=>true
 | A::r,j=>(!(cf A B)||m.testBit j)&&C16 cf B m r (j+1)
def C17 {α:Type} (cf:α→α→Bool) (Es:List α) (ms:List Nat):Nat→List α→Bool
 | _,[]=>true
 | i,B::r=>C16 cf B (ms.getD i 0) (Es.take i) 0&&C17 cf Es ms (i+1) r
theorem B5I {α:Type} {cf:α→α→Bool} {B:α} {m:Nat}:∀ (l:List α) (j:Nat),C16 cf B m l j=true→∀ (q:Nat) A,l[q]? = some A→cf A B=true→m.testBit (j+q)=true:=by
 intro l
 induction l with
 | nil=>intro j _ q A h;simp at h
 | cons A0 r ih =>
  intro j h q A hq hc
  simp only [C16,D9z,Bool.or_eq_true,Bool.not_eq_true'] at h
  cases q with
  | zero =>
   simp only [List.getElem?_cons_zero,D9B] at hq
   subst hq
   rcases h.1 with h1 | h1
   ·rw [hc] at h1;cases h1
   ·exact h1
  | succ q=>rw [show j+(q+1)=j+1+q by omega];exact ih (j+1) h.2 q A (by simpa using hq) hc
theorem A8D {α:Type} {cf:α→α→Bool} {Es:List α} {ms:List Nat}:∀ (l:List α) (i:Nat),(∀ q:Nat,l[q]? = Es[i+q]?)→C17 cf Es ms i l=true→∀ (p q:Nat) A B,i≤p→q < p→Es[p]? = some B→Es[q]? = some A→cf A B=true→(ms.getD p 0).testBit q=true:=by
 intro l
 induction l with
 | nil =>
  intro i hl _ p q A B hip hqp hB hA _
  have:=hl (p - i)
  rw [show i+(p - i)=p by omega,hB] at this
  simp at this
 | cons B0 r ih =>
  intro i hl h p q A B hip hqp hB hA hc
  simp only [C17,D9z] at h
  by_cases hpi:p=i
  ·subst hpi
   have h0:=hl 0
   rw [Nat.add_zero,hB,List.getElem?_cons_zero,D9B] at h0
   subst h0
   have:=B5I (Es.take p) 0 h.1 q A (by rw [List.getElem?_take_of_lt hqp];exact hA) hc
   rwa [Nat.zero_add] at this
  ·exact ih (i+1) (fun q=>by have:=hl (q+1);simpa [Nat.add_assoc,Nat.add_comm 1 q] using this) h.2 p q A B (by omega) hqp hB hA hc
def B86 (ops:Array Oper) (x y:Oper):Bool:=B5G x.dst (y.looksAt ops)||B5G y.dst (x.looksAt ops)||A8C x.dst y.dst
def A2T (nt:Nat) (ops:Array Oper):Bool:=ops.toList.all (V8 nt)&&A0Q 0 ops.toList&&C17 (B86 ops) ops.toList (Q6 ops.toList []) 0 ops.toList
def B27 (ms:List Nat) (i j:Nat):Bool:=bif Nat.blt i j then (ms.getD j 0).testBit i else (ms.getD i 0).testBit j
def C18 (wo:List (Nat×Ob)) (i:Nat) (ms:List Nat):Nat→List J9→Bool
 | _,[]=>true
 | j,B::r=>(Nat.beq i j||!(A9L wo B)||B27 ms i j)&&C18 wo i ms (j+1) r
def A1T (ms:List Nat) (Es:List J9):Nat→List J9→Bool
 | _,[]=>true
 | i,E::r=>(match E.wo with
  | []=>true
  | q::l=>C18 (q::l) i ms 0 Es)&&A1T ms Es (i+1) r
theorem B5J {wo:List (Nat×Ob)} {i:Nat} {ms:List Nat}:∀ (l:List J9) (j:Nat),C18 wo i ms j l=true→∀ (q:Nat) B,l[q]? = some B→A9L wo B=true→i≠j+q→B27 ms i (j+q)=true:=by
 intro l
 induction l with
 | nil=>intro j _ q B h;simp at h
 | cons A0 r ih =>
  intro j h q B hq hc hne
  simp only [C18,D9z,Bool.or_eq_true,Bool.not_eq_true'] at h
  cases q with
  | zero =>
   simp only [List.getElem?_cons_zero,D9B] at hq
   subst hq
   rcases h.1 with (h1 | h1) | h1
   ·exact absurd (D9y h1) hne
   ·rw [hc] at h1;cases h1
   ·exact h1
  | succ q=>rw [show j+(q+1)=j+1+q by omega];exact ih (j+1) h.2 q B (by simpa using hq) hc (by omega)
theorem A2H {Es:List J9} {ms:List Nat}:∀ (l:List J9) (i:Nat),(∀ q:Nat,l[q]? = Es[i+q]?)→A1T ms Es i l=true→∀ (p q:Nat) A B,i≤p→p≠q→Es[p]? = some A→Es[q]? = some B→A9L A.wo B=true→B27 ms p q=true:=by
 intro l
 induction l with
 | nil =>
  intro i hl _ p q A B hip hpq hA hB _
  have:=hl (p - i)
  rw [show i+(p - i)=p by omega,hA] at this
  simp at this
 | cons A0 r ih =>
  intro i hl h p q A B hip hpq hA hB hc
  simp only [A1T,D9z] at h
  by_cases hpi:p=i
  ·subst hpi
   have h0:=hl 0
   rw [Nat.add_zero,hA,List.getElem?_cons_zero,D9B] at h0
   subst h0
   have h1:=h.1
   cases hw:A0.wo with
   | nil=>rw [hw] at hc;simp [A9L] at hc
   | cons x y =>
    rw [hw] at h1 hc
    have:=B5J Es 0 h1 q B hB hc (by omega)
    rwa [Nat.zero_add] at this
  ·exact ih (i+1) (fun q=>by have:=hl (q+1);simpa [Nat.add_assoc,Nat.add_comm 1 q] using this) h.2 p q A B (by omega) hpq hA hB hc
theorem B5K {rd:Option Nat} {m:Nat} (hm:P.follows .mixedOrders=true) (hT:H2 T P) {K:KS} (hK:KOK P T K) {ops:Array Oper} {Q:Exit→Act→World→Prop} {n0 nt:Nat} {σ σ':St} {Es:List J9} {a:Act} {w:World} (hs1:A2T nt ops=true) (hr:F2 T K ops of ops.toList σ=some (Es,σ')) (hs2:A1T (Q6 ops.toList []) Es 0 Es=true)
  (hn:n0≤σ.nx) (hfit:A0d of of' eb n0 σ') (hs:X1 T c eb of' n0 nt σ a w) (hQ:∀ a' w',X1 T c eb of' n0 nt σ' a' w'→Q .normal a' w'):wpAnyIn (WF rd) m P .any ops Q ops.size (Array.replicate ops.size false) a { w with drawn:=w.drawn+1 }:=by
 simp only [A2T,D9z] at hs1
 obtain ⟨⟨hd,hb⟩,hsl⟩:=hs1
 obtain ⟨hσ,hlen0,hent⟩:=Z8 _ _ _ _ hr
 have hord:∀ (p q:Nat) (A B:J9),q < p→Es[p]? = some B→Es[q]? = some A→W9 A B=true→((Q6 ops.toList []).getD p 0).testBit q=true:=by
  intro p q A B hqp hB hA hc
  have hp':p < ops.toList.length:=by rw [← hlen0];exact (List.getElem?_eq_some_iff.1 hB).1
  have hq':q < ops.toList.length:=by omega
  obtain ⟨A',gA,kA,_⟩:=hent q ops.toList[q] (D9L hq')
  obtain ⟨B',gB,kB,_⟩:=hent p ops.toList[p] (D9L hp')
  rw [hA] at gA;cases gA
  rw [hB] at gB;cases gB
  obtain ⟨_,_,a3,a4⟩:=U2 kA
  obtain ⟨_,_,b3,b4⟩:=U2 kB
  unfold W9 at hc
  rw [Bool.or_eq_true,Bool.or_eq_true] at hc
  rcases hc with (hc | hc) | hc
  ·refine A8D ops.toList 0 (fun q=>by rw [Nat.zero_add]) hsl p q _ _ (Nat.zero_le _) hqp (D9L hp') (D9L hq') ?_
   unfold B86
   rw [← a3,← b3,← a4,← b4];exact hc
  ·have:=A2H Es 0 (fun q=>by rw [Nat.zero_add]) hs2 q p A B (Nat.zero_le _) (by omega) hA hB hc
   unfold B27 at this
   rw [show Nat.blt q p=true from by simpa [Nat.blt_eq] using hqp] at this
   exact this
  ·have:=A2H Es 0 (fun q=>by rw [Nat.zero_add]) hs2 p q B A (Nat.zero_le _) (by omega) hB hA hc
   unfold B27 at this
   rw [show Nat.blt p q=false from by rw [← Bool.not_eq_true,Nat.blt_eq];omega] at this
   exact this
 obtain ⟨e,rfl,hst⟩:=hs
 obtain ⟨h1,h2⟩:=hst.os.same_heap (w':={ e.w with drawn:=e.w.drawn+1 }) rfl rfl rfl rfl
 refine B85 hT hK (List.all_eq_true.1 hd) hr hn hfit hb hord hQ ops.size (Array.replicate ops.size false) (fun _=>false) a { e with w:={ e.w with drawn:=e.w.drawn+1 } } (by simp) (fun j hj=>?_) (fun _ _=>rfl) ?_ (fun j o hj=>by cases hj) ?_
 ·simp [Array.getD,hj]
 ·unfold left
  have:=List.length_filter_le (fun j=>!(fun _=>false:Nat→Bool) j) (List.range ops.size)
  rwa [List.length_range] at this
 ·rw [A0D _ 0 _ (fun _ _=>rfl),A0D _ 0 _ (fun _ _=>rfl)]
  exact ⟨h1,hst.le.trans h2,fun id A4=>(hst.U id A4).imp (fun q=>q) .inl,fun t=>(hst.sl t).mono h2,hst.def_.mono h2,hst.nt⟩
theorem B1g {rd:Option Nat} {m:Nat} (hm:P.follows .mixedOrders=true) (hT:H2 T P) {K:KS} (hK:KOK P T K) {id:Nat} {ops:Array Oper} {Q:Exit→Act→World→Prop} {n0 nt:Nat} {σ σ':St} {Es:List J9} {a:Act} {w:World} (hs1:A2T nt ops=true) (hr:F2 T K ops of ops.toList σ=some (Es,σ')) (hs2:A1T (Q6 ops.toList []) Es 0 Es=true)
  (hn:n0≤σ.nx) (hfit:A0d of of' eb n0 σ') (hs:X1 T c eb of' n0 nt σ a w) (hQ:∀ a' w',X1 T c eb of' n0 nt σ' a' w'→Q .normal a' w'):(Code.region id ops true).wpIn (WF rd) m P Q a w:=wpIn_region_any hm (B5K hm hT hK hs1 hr hs2 hn hfit hs hQ)
def B1h (f:Nat→Option Ob):List (Nat×Ob)→List Nat
 | []=>[]
 | (id,o)::r=>bif A6R o then (match f id with
  | some o0=>bif A6R o0 then B1h f r else id::B1h f r
  | none=>B1h f r) else B1h f r
def B5L (f:Nat→Option Ob):List J9→List Nat
 | []=>[]
 | E::r=>B1h f E.wo++B5L f r
def St.pre (of:Nat→Option Ob) (σ:St) (l:List Nat):St:={ σ with ob:=Z0 σ.ob (shW (B5 σ.ob of) l),rd:=W0 σ.ob l σ.rd }
theorem St.pre_le (σ:St) (l:List Nat):σ.le (σ.pre of l):=⟨L4 _ _ _,Nat.le_refl _⟩
theorem B5M {f g:Nat→Option Ob}:∀ l:List Nat,(∀ id∈l,f id=g id)→shW f l=shW g l:=by
 intro l
 induction l with
 | nil=>intro _;rfl
 | cons k r ih =>
  intro h
  simp only [shW]
  rw [h k (List.mem_cons_self ..),ih (fun id A4=>h id (List.mem_cons_of_mem _ A4))]
theorem X1.pre {n0 nt:Nat} {σ:St} {a:Act} {w:World} (h:X1 T c eb of' n0 nt σ a w) {l:List Nat} (ho:∀ id∈(σ.pre of l).rd,of' id=of id):X1 T c eb of' n0 nt (σ.pre of l) a w:=by
 obtain ⟨e,rfl,hst⟩:=h
 have hag:∀ id∈l,B5 σ.ob of' id=B5 σ.ob of id:=N8 (ob:=σ.ob) (l:=σ.rd) ho (fun _ h=>h)
 refine ⟨e,rfl,?_,hst.le,hst.U,hst.sl,hst.def_,hst.nt⟩
 show A8 T c e (B5 (Z0 σ.ob (shW (B5 σ.ob of) l)) of')
 rw [X3,← B5M l hag]
 exact hst.os.weak (B9w l).1
abbrev A4w:=Code→Option ((Nat→Option Ob)→St→Option (Exit×St))
def A2U:List (Nat×A)→List Nat→List Nat
 | [],ks=>ks
 | (k,_)::r,ks=>bif mem k ks then A2U r ks else A2U r (k::ks)
def A0Y (l:List (Nat×A)):List Nat→List (Nat×A)
 | []=>[]
 | k::r=>(k,C4 l k)::A0Y l r
def St.tidy (σ:St) (ks:List Nat):St:={ σ with sl:=A0Y σ.sl ks }
theorem A8E (l:List (Nat×A)):∀ (ks:List Nat) (t:Nat),C4 (A0Y l ks) t=.x∨C4 (A0Y l ks) t=C4 l t:=by
 intro ks
 induction ks with
 | nil=>intro t;exact .inl rfl
 | cons k r ih =>
  intro t
  rw [A0Y,E9]
  by_cases h:t=k
  ·subst h;rw [upd_same];exact .inr rfl
  ·rw [A2 _ _ h];exact ih t
theorem X1.tidy {n0 nt:Nat} {σ:St} {a:Act} {w:World} (h:X1 T c eb of n0 nt σ a w) (ks:List Nat):X1 T c eb of n0 nt (σ.tidy ks) a w:=by
 obtain ⟨e,rfl,hst⟩:=h
 refine ⟨e,rfl,hst.os,hst.le,hst.U,fun t=>?_,hst.def_,hst.nt⟩
 rcases A8E σ.sl ks t with h | h
 ·show B9 T e (C4 (A0Y σ.sl ks) t) _
  rw [h];trivial
 ·show B9 T e (C4 (A0Y σ.sl ks) t) _
  rw [h];exact hst.sl t
theorem A8.writeG (h:A8 T c e of) {id:Nat} {o o':Ob} (ho:of id=some o) {b q:Nat} (hι:e.ι id=some (b,q)) {g g':Go.Obj} (h0:e.w.heap[b]? = some g) (hg:∀ cs t fz,g≠.cells cs t fz) (hg':∀ cs t fz,g'≠.cells cs t fz) {w':World} (hw:w'={ e.w with heap:=e.w.heap.setIfInBounds b g' })
  (hok:e.le { e with w:=w' }→w'.heap[b]? = some g'→OK T { e with w:=w' } id o'):A8 T c { e with w:=w' } (D9 of id (some o'))∧e.le { e with w:=w' }:=by
 have hlt:b < e.w.heap.size:=(Array.getElem?_eq_some_iff.1 h0).1
 have h1:w'.heap[b]? = some g':=by rw [hw];simp [hlt]
 have hne:∀ k,k≠b→w'.heap[k]? = e.w.heap[k]? := fun k hk=>by rw [hw];simp [Ne.symm hk]
 have hsz:w'.heap.size=e.w.heap.size:=by rw [hw];simp
 have hln:∀ k,R0 w' k=R0 e.w k:=fun k=>by
  by_cases hk':k=b
  ·subst hk'
   unfold R0
   rw [h0,h1]
   cases g<;>cases g'<;>first | rfl | exact absurd rfl (hg _ _ _) | exact absurd rfl (hg' _ _ _)
  ·exact D0 (hne _ hk')
 have hle:e.le { e with w:=w' }:=by
  refine ⟨fun k i hs=>⟨hs,fun x hx=>?_⟩,fun _ hu=>hu,fun j hu _=>⟨rfl,rfl,fun k q' hk=>hln k⟩,fun _ _ h=>h,fun _ _=>Nat.le_refl _,fun _ _=>rfl,by show _≤w'.heap.size;omega,fun k _=>hln k⟩
  by_cases hk:k=b
  ·subst hk
   exfalso
   unfold World.cell? at hx
   rw [h0] at hx
   cases g<;>first | (exact absurd rfl (hg _ _ _)) | (simp at hx;done)
  ·rw [← hx];exact E1 (hne _ hk)
 exact ⟨h.turn ho hle (fun _ _=>rfl) (fun _ _=>rfl) (fun _ hu=>hu) (fun k _ hk=>hne k (fun hkb=>hk q (by rw [hkb];exact hι))) (by show _≤w'.heap.size;omega) (fun _ _ hs=>.inl hs) (fun k q' hk=>.inl ⟨q',hk⟩) (by rw [hw]) (by rw [hw]) (by rw [hw]) (hok hle h1),hle⟩
theorem Q7 {w:World} {r:Nat} {o:Go.Obj} (o':Go.Obj) (hb:w.heap[r]? = some o) (hg:∀ cs t fz,o≠.cells cs t fz:=by intro _ _ _ h;cases h):(setObj r o').run P w=.ok () { w with heap:=w.heap.setIfInBounds r o' }:=by
 cases o<;>first | exact absurd rfl (hg _ _ _) | simp [setObj,Sem.run,hb]
theorem A0e {w:World} {r:Nat} {o:Go.Obj} (hb:w.heap[r]? = some o) (hg:∀ cs t fz,o≠.cells cs t fz:=by intro _ _ _ h;cases h):(getObj r).run P w=.ok o w:=by
 cases o<;>first | exact absurd rfl (hg _ _ _) | simp [getObj,Sem.run,hb]
theorem B28 {w:World} (o:Go.Obj):(newObj o).run P w=.ok w.heap.size (w.alloc o):=by
 simp [newObj,Sem.run]
def A4N (l:List (Nat×A)):List Nat→List (Nat×A)
 | []=>[]
 | k::r=>match C4 l k with
  | .t _=>A4N l r
  | v=>(k,v)::A4N l r
theorem B5N (l:List (Nat×A)):∀ (ks:List Nat),∀ p∈A4N l ks,p.2=C4 l p.1∧∀ q,p.2≠.t q:=by
 intro ks
 induction ks with
 | nil=>intro p h;cases h
 | cons k r ih =>
  intro p h
  simp only [A4N] at h
  split at h
  ·exact ih p h
  ·rename_i hne
   rcases List.mem_cons.1 h with rfl | h
   ·exact ⟨rfl,fun q hq=>hne q hq⟩
   ·exact ih p h
def A6v (T:TT) (eb:B6) (of':Nat→Option Ob):Prop:=∀ id o,of' id=some o→OK T eb id o
def A1Z (P:Program) (T:TT) (nt n0:Nat) (of:Nat→Option Ob) (code:Code) (σ:St) (ex:Exit) (σ':St):Prop :=
 σ.le σ'∧∀ (m:Nat) (of':Nat→Option Ob) (c:F6) (eb:B6) (a:Act) (w:World),n0≤σ.nx→A0d of of' eb n0 σ'→A6v T eb of'→X1 T c eb of' n0 nt σ a w→code.wpIn (WF c.rd) m P (fun e a' w'=>e=ex∧X1 T c eb of' n0 nt σ' a' w') a w
def A9N:LoopState→Bool
 | .busy=>false
 | _=>true
def B1i:Option Code→Option Exit
 | none=>some .normal
 | some .ret=>some .ret
 | some (.exit k)=>some (.exit k)
 | _=>none
def A4x (T:TT) (K:KS) (nt:Nat) (of:Nat→Option Ob) (g:Operand) (ps:Array Nat) (asg body:Code) (σ:St):Option (Exit×St) :=
 match σ.mks,M4 (C4 σ.sl) g with
 | some l,.f f cap =>
  if K.ord f&&cap.all (U1 T) then
   (fun (ob1:Tr)=>match K.f f (.y (σ.nx+1)::cap) (B5 ob1 of) (σ.nx+2) with
   | some out=>if Nat.ble (σ.nx+2) out.nx then
     (fun (ob2:Tr)=>match ob2.get (σ.nx+1) with
     | some (.lp (some r))=>match A9N r.st,B1i r.pend with
      | true,some ex=>some (ex,⟨σ.sl,ob2.set (σ.nx+1) (.lp (some { r with st:=.exhausted })),W0 ob1 out.ro σ.rd,out.nx,some (σ.nx::l)⟩)
      | _,_=>none
     | _=>none) (Z0 ob1 out.wo) else none
   | none=>none) ((σ.ob.set σ.nx (.lp none)).set (σ.nx+1) (.lp (some ⟨nt,A4N σ.sl (A2U σ.sl []),ps,asg,body,.ready,none⟩)))
  else none
 | _,_=>none
theorem B5O {v:A} {x:Value} (h:B9 T e v x) (hv:∀ l,v≠.t l):F0 T e v x:=by
 cases v with
 | t l=>exact absurd rfl (hv l)
 | _=>exact h
theorem A0Z {ob:Tr} {of:Nat→Option Ob} {id:Nat} {o:Ob} (h:ob.get id=some o):B5 ob of id=some o:=by
 unfold B5;rw [h]
theorem B5P {K:KS} (hK:KOK P T K) {nt n0:Nat} {g:Operand} {ps:Array Nat} {asg body:Code} {σ:St} {ex:Exit} {σ':St} (hr:A4x T K nt of g ps asg body σ=some (ex,σ')):A1Z P T nt n0 of (.rangeFunc g ps asg body) σ ex σ':=by
 unfold A4x at hr
 split at hr<;>try (cases hr;done)
 rename_i l f cap hmk hg
 split at hr<;>try (cases hr;done)
 rename_i hcc
 simp only [D9z] at hcc
 obtain ⟨hord,hcap⟩:=hcc
 generalize hlr:(⟨nt,A4N σ.sl (A2U σ.sl []),ps,asg,body,.ready,none⟩:LR)=lr at hr
 generalize hob1:(σ.ob.set σ.nx (.lp none)).set (σ.nx+1) (.lp (some lr))=ob1 at hr
 simp only at hr
 split at hr<;>try (cases hr;done)
 rename_i out hout
 split at hr<;>try (cases hr;done)
 rename_i hnx
 have hnx:=D9E hnx
 split at hr<;>try (cases hr;done)
 rename_i r hget
 split at hr<;>try (cases hr;done)
 rename_i ex' hbusy hjump
 simp only [D9B,Prod.mk.injEq] at hr
 obtain ⟨rfl,rfl⟩:=hr
 refine ⟨⟨L4 _ _ _,by show σ.nx≤out.nx;omega⟩,fun m of' c eb a w hn hfit hbs hs=>?_⟩
 obtain ⟨e,rfl,hst⟩:=hs
 have hdef:=hst.def_
 rw [hmk] at hdef
 obtain ⟨hrd,hml⟩:=hdef
 have hnu:∀ id,σ.nx≤id→id < out.nx→¬ e.U id:=fun id h1 h2 hu=>by
  rcases hst.U id hu with h3 | h3
  ·exact hfit.fr id (by omega) h2 h3
  ·omega
 have hu1:¬ e.U σ.nx:=hnu _ (Nat.le_refl _) (by omega)
 let e1:=e.newM σ.nx (.deferred (some []))
 have ok1:OK T e1 σ.nx (.lp none):=⟨.inl rfl,upd_same _ _ _,e.w.heap.size,upd_same _ _ _,G7 _ _⟩
 have os1:A8 T c e1 (D9 (B5 σ.ob of') σ.nx (some (.lp none))):=hst.os.newM hu1 ok1
 have le1:e.le e1:=hst.os.le_newM hu1 _
 have hu2:¬ e1.U (σ.nx+1):=by
  rintro (h | h)
  ·omega
  ·exact hnu _ (by omega) (by omega) h
 have hsz1:e1.w.heap.size=e.w.heap.size+1:=E5 _ _
 refine wpIn_rangeFunc (fun fn _=>?_)
 let rec_:Loop:={ state:=.ready,pending:=none,fn:=fn,tmps:=a.tmps,params:=ps,assign:=asg,body:=body,defers:=e.w.heap.size }
 let e2:=e1.newM (σ.nx+1) (.loop rec_)
 have le2:e1.le e2:=os1.le_newM hu2 _
 have le02:=le1.trans le2
 have ok2:OK T e2 (σ.nx+1) (.lp (some lr)):=by
  refine ⟨.inl rfl,upd_same _ _ _,e1.w.heap.size,a.tmps,e.w.heap.size,fn,upd_same _ _ _,?_,?_,fun p hp=>?_⟩
  ·rw [← hlr];exact G7 _ _
  ·rw [← hlr];exact hst.nt
  ·rw [← hlr] at hp
   obtain ⟨h1,h2⟩:=B5N _ _ p hp
   refine B5O ?_ h2
   rw [h1]
   exact (hst.sl p.1).mono le02
 have os2:A8 T c e2 (B5 ob1 of'):=by
  rw [← hob1,A1k,A1k]
  exact os1.newM hu2 ok2
 have ι2:e2.ι (σ.nx+1)=some (e.w.heap.size+1,0):=by rw [← hsz1];exact upd_same _ _ _
 have hgv:=A5o (T:=T) (e:=e) (sl:=C4 σ.sl) (a:=a) (x:=g) (fun t _=>hst.sl t)
 rw [hg] at hgv
 obtain ⟨vs,hv,hvs⟩:=A2r hgv (B9x hcap)
 have hcaps:=B3g (hvs.mono le02) hcap
 have hent:(Instr.enterLoop fn a.tmps ps asg body c.rd).run P e.w=.ok (e.w.heap.size+1,[{ target:=.collected e.w.heap.size,args:=#[] }]) e2.w:=by
  rw [hrd]
  simp only [Instr.enterLoop,Sem.run_bind,B28,Result.andThen_ok,Sem.run_pure]
  rw [← hsz1]
  rfl
 have hyr:B9 T e2 (.y (σ.nx+1)) (.func (.yield (e.w.heap.size+1)) #[] #[]):=RA.r ⟨e.w.heap.size+1,.inl rfl,upd_same _ _ _,ι2,rfl⟩ rfl .nil
 have hdoes:=hK.f f c e2 (B5 ob1 of) (B5 ob1 of') (.y (σ.nx+1)::cap) (#[.func (.yield (e.w.heap.size+1)) #[] #[]]++vs.toArray) (σ.nx+2) out os2 hout
  (N8 hfit.rd (fun id A4=>A4)) (fun id h1 h2=>by
   rintro (h | h | h)
   ·omega
   ·omega
   ·exact hnu id (by omega) h2 h) (by simpa using Q1.cons hyr hcaps)
 have hen:=hK.ord f hord (#[.func (.yield (e.w.heap.size+1)) #[] #[]]++vs.toArray) e2.w
 have hcalls:Calls P f (#[.func (.yield (e.w.heap.size+1)) #[] #[]]++vs.toArray) e2.w fun en w'=>∃ x,en=.returned x∧P7 T c e2 (B5 ob1 of') (σ.nx+2) out x w':=by
  rcases hdoes with ⟨x,w',h1,_⟩ | ⟨w',h1,_⟩ | ⟨f',args,w1,h1,h2⟩ | ⟨_,_,_,_,_,w1,h1,_⟩
  ·rw [hen] at h1;cases h1
  ·rw [hen] at h1;cases h1
  ·rw [hen] at h1;cases h1;exact h2
  ·rw [hen] at h1;cases h1
 refine ⟨e.w.heap.size+1,[{ target:=.collected e.w.heap.size,args:=#[] }],e2.w,{ target:=.fn (.func f) vs.toArray,args:=#[.func (.yield (e.w.heap.size+1)) #[] #[]] },e2.w,f,_,e2.w,hent,?_,fun _ _=>trivial,?_,fun h=>(by cases h),CallsIn.mono (A5q hcalls) fun en w3 hw3=>?_⟩
 ·have hcst:∀ v,a.eval (.const v)=v:=fun _=>rfl
  simp [resolve,rangeCall,hv,hcst,Deferred.ofValue]
 ·simpa [Deferred.ofValue,invoke] using hen
 ·obtain ⟨x,rfl,e3,rfl,os3,le3,u3,_⟩:=hw3
  have hob2:put (B5 ob1 of') out.wo=B5 (Z0 ob1 out.wo) of':=(X3 _ _ _).symm
  rw [hob2] at os3
  obtain ⟨k1,k2,b,tm,df,fn',k3,k4,k5,k6⟩:=os3.ok _ _ (A0Z hget)
  have hι3:e3.ι (σ.nx+1)=some (e.w.heap.size+1,0):=by
   have:=(le3.obj (σ.nx+1) (.inl rfl) (k2.trans (upd_same _ _ _).symm)).1
   rw [this];exact ι2
  rw [hι3] at k3
  cases k3
  have hnb:r.st≠.busy:=by intro h;rw [h] at hbusy;cases hbusy
  let r4:Loop:={ state:=.exhausted,pending:=r.pend,fn:=fn',tmps:=tm,params:=r.ps,assign:=r.asg,body:=r.body,defers:=df }
  let w4:World:={ e3.w with heap:=e3.w.heap.setIfInBounds (e.w.heap.size+1) (.loop r4) }
  obtain ⟨os4,le4⟩:=os3.writeG (o':=.lp (some { r with st:=.exhausted })) (A0Z hget) hι3 k4 (fun _ _ _ h=>by cases h) (g':=.loop r4) (fun _ _ _ h=>by cases h) (w':=w4) rfl
   (fun hle hh=>⟨k1,k2,e.w.heap.size+1,tm,df,fn',hι3,hh,k5,fun p hp=>(k6 p hp).mono hle⟩)
  have hend:(Instr.endLoop (e.w.heap.size+1)).run P e3.w=.ok r.pend w4:=by
   simp only [Instr.endLoop,Instr.getLoop,Sem.run_bind,A0e k4,Result.andThen_ok,Sem.run_pure,Q7 _ k4]
   have:(r.st == LoopState.busy)=false:=by
    cases hrs:r.st<;>first | rfl | exact absurd hrs hnb
   simp [this,w4,r4,Q7 _ k4]
  have hle04:e.le { e3 with w:=w4 }:=(le02.trans le3).trans le4
  have hsim:X1 T c eb of' n0 nt ⟨σ.sl,(Z0 ob1 out.wo).set (σ.nx+1) (.lp (some { r with st:=.exhausted })),W0 ob1 out.ro σ.rd,out.nx,some (σ.nx::l)⟩ { a with defers:=[{ target:=.collected e.w.heap.size,args:=#[] }]++a.defers } w4:=by
   refine ⟨{ e3 with w:=w4 },rfl,?_,hst.le.trans hle04,fun id A4=>?_,fun t=>(hst.sl t).mono hle04,?_,hst.nt⟩
   ·rw [A1k];exact os4
   ·rcases u3 id A4 with (h | h | h) | h
    ·subst h;exact .inr ⟨by omega,by show _ < out.nx;omega⟩
    ·subst h;exact .inr ⟨by omega,by show _ < out.nx;omega⟩
    ·rcases hst.U id h with h | h
     ·exact .inl h
     ·exact .inr ⟨h.1,by show _ < out.nx;omega⟩
    ·exact .inr ⟨by omega,h.2⟩
   ·refine ⟨hrd,.cons ?_ ?_ ?_ (hml.mono hle04)⟩
    ·exact le4.use _ (le3.use _ (.inr (.inl rfl)))
    ·have:e2.bn σ.nx=0:=by
      show D9 (D9 e.bn σ.nx 0) (σ.nx+1) 0 σ.nx=0
      rw [A2 _ _ (by omega),upd_same]
     exact le3.box _ (.inr (.inl rfl)) this
    ·have h0:e2.bn σ.nx=0:=by
      show D9 (D9 e.bn σ.nx 0) (σ.nx+1) 0 σ.nx=0
      rw [A2 _ _ (by omega),upd_same]
     have h1:=le3.box _ (.inr (.inl rfl)) h0
     have h2:=(le3.obj σ.nx (.inr (.inl rfl)) (h1.trans h0.symm)).1
     show e3.ι σ.nx=_
     rw [h2]
     show D9 (D9 e.ι σ.nx (some (e.w.heap.size,0))) (σ.nx+1) _ σ.nx=_
     rw [A2 _ _ (by omega),upd_same]
  refine ⟨r.pend,w4,hend,?_⟩
  generalize (⟨σ.sl,(Z0 ob1 out.wo).set (σ.nx+1) (.lp (some { r with st:=.exhausted })),W0 ob1 out.ro σ.rd,out.nx,some (σ.nx::l)⟩:St)=σ9 at hsim ⊢
  generalize r.pend=pd at hjump ⊢
  cases pd with
  | none =>
   simp only [B1i,D9B] at hjump
   exact ⟨hjump,hsim⟩
  | some cd =>
   cases cd<;>simp only [B1i,D9B] at hjump<;>try (cases hjump;done)
   ·subst hjump
    exact wpIn_exit (Q:=fun e a' w'=>e=.exit _∧X1 T c eb of' n0 nt σ9 a' w') ⟨rfl,hsim⟩
   ·subst hjump
    exact wpIn_ret (Q:=fun e a' w'=>e=.ret∧X1 T c eb of' n0 nt σ9 a' w') ⟨rfl,hsim⟩
def A2m (ks:List Nat) (f:St→Option (Exit×St)):Nat→St→Option (Exit×St)
 | 0,_=>none
 | n+1,σ=>match f (σ.tidy ks) with
  | some (.normal,σ1)=>A2m ks f n σ1
  | r=>r
def H5 (T:TT) (K:KS) (Lo:A4w) (fu nt:Nat) (of:Nat→Option Ob):Code→St→Option (Exit×St)
 | .skip,σ=>some (.normal,σ)
 | .ret,σ=>some (.ret,σ)
 | .exit id,σ=>some (.exit id,σ)
 | .region _ ops draw,σ =>
  match draw with
  | false=>if ops.toList.all (V8 nt) then (match F2 T K ops of ops.toList σ with
   | some (_,σ')=>some (.normal,σ')
   | none=>none) else none
  | true=>if A2T nt ops then (match F2 T K ops of ops.toList σ with
   | some (Es,σ')=>if A1T (Q6 ops.toList []) Es 0 Es then some (.normal,σ') else
    (match F2 T K ops of ops.toList (σ.pre of (B5L (B5 σ.ob of) Es)) with
    | some (Es2,σ2)=>if A1T (Q6 ops.toList []) Es2 0 Es2 then some (.normal,σ2) else none
    | none=>none)
   | none=>none) else none
 | .seq x y,σ =>
  match H5 T K Lo fu nt of x σ with
  | some (.normal,σ1)=>H5 T K Lo fu nt of y σ1
  | r=>r
 | .cond q x y,σ =>
  match M4 (C4 σ.sl) q with
  | .b true=>H5 T K Lo fu nt of x σ
  | .b false=>H5 T K Lo fu nt of y σ
  | _=>none
 | .block id body,σ =>
  match H5 T K Lo fu nt of body σ with
  | some (.exit id',σ')=>some (if Nat.beq id' id then .normal else .exit id',σ')
  | r=>r
 | .loop body,σ =>
  match Lo body with
  | some s=>s of σ
  | none=>A2m (A2U σ.sl []) (fun σ=>H5 T K Lo fu nt of body σ) fu σ
 | .rangeFunc g ps asg body,σ=>A4x T K nt of g ps asg body σ
 | _,_=>none
def M2 (P:Program) (T:TT) (nt n0:Nat) (Lo:A4w):Code→Prop
 | .seq x y=>M2 P T nt n0 Lo x∧M2 P T nt n0 Lo y
 | .cond _ x y=>M2 P T nt n0 Lo x∧M2 P T nt n0 Lo y
 | .block _ b=>M2 P T nt n0 Lo b
 | .loop b=>(∀ s,Lo b=some s→∀ of σ ex σ',s of σ=some (ex,σ')→A1Z P T nt n0 of (.loop b) σ ex σ')∧M2 P T nt n0 Lo b
 | _=>True
theorem D2 {nt n0:Nat}:∀ code,M2 P T nt n0 (fun _=>none) code:=by
 intro code
 induction code with
 | seq x y ihx ihy=>exact ⟨ihx,ihy⟩
 | cond q x y ihx ihy=>exact ⟨ihx,ihy⟩
 | block id b ih=>exact ih
 | loop b ih=>exact ⟨fun s h=>(by cases h),ih⟩
 | _=>trivial
theorem X1.cond {n0 nt:Nat} {σ:St} {a:Act} {w:World} (h:X1 T c eb of n0 nt σ a w) {q:Operand} {t:Bool} (hq:M4 (C4 σ.sl) q=.b t):a.eval q=.bool t:=by
 obtain ⟨e,rfl,hst⟩:=h
 have:=A5o (T:=T) (e:=e) (sl:=C4 σ.sl) (a:=a) (x:=q) (fun t _=>hst.sl t)
 rw [hq] at this
 exact A0v this
theorem B5Q {nt n0:Nat} {ks:List Nat} {body:Code} {f:St→Option (Exit×St)} (hf:∀ σ ex σ',f σ=some (ex,σ')→A1Z P T nt n0 of body σ ex σ'):∀ (n:Nat) (σ:St) (ex:Exit) (σ':St),A2m ks f n σ=some (ex,σ') →
  σ.le σ'∧∀ (m:Nat) (of':Nat→Option Ob) (c:F6) (eb:B6) (a:Act) (w:World),n0≤σ.nx→A0d of of' eb n0 σ'→A6v T eb of'→X1 T c eb of' n0 nt σ a w→Code.roundsIn (WF c.rd) m P body (fun e a' w'=>e=ex∧X1 T c eb of' n0 nt σ' a' w') n a w:=by
 intro n
 induction n with
 | zero=>intro σ ex σ' h;cases h
 | succ n ih =>
  intro σ ex σ' h
  simp only [A2m] at h
  split at h
  ·rename_i σ1 hx
   obtain ⟨l1,k1⟩:=hf _ _ _ hx
   obtain ⟨l2,k2⟩:=ih _ _ _ h
   refine ⟨St.le.trans l1 l2,fun m of' c eb a w hn hfit hbs hs=>?_⟩
   refine H9 ?_ (k1 m of' c eb a w hn (hfit.mono l2) hbs (hs.tidy ks))
   rintro e' a' w' ⟨rfl,hs'⟩
   exact k2 m of' c eb a' w' (Nat.le_trans hn l1.2) hfit hbs hs'
  ·rename_i r0 hne
   obtain ⟨l1,k1⟩:=hf _ _ _ h
   refine ⟨l1,fun m of' c eb a w hn hfit hbs hs=>?_⟩
   have hex:ex≠.normal:=by
    intro he;subst he;exact hne _ h
   refine H9 ?_ (k1 m of' c eb a w hn hfit hbs (hs.tidy ks))
   rintro e' a' w' ⟨rfl,hs'⟩
   cases e' with
   | normal=>exact absurd rfl hex
   | _=>exact ⟨rfl,hs'⟩
theorem A00 (hm:P.follows .mixedOrders=true) (hT:H2 T P) {K:KS} (hK:KOK P T K) {Lo:A4w} {fu nt n0:Nat}:∀ (code:Code),M2 P T nt n0 Lo code→∀ (σ:St) (ex:Exit) (σ':St),H5 T K Lo fu nt of code σ=some (ex,σ')→A1Z P T nt n0 of code σ ex σ':=by
 intro code
 induction code with
 | skip =>
  intro _ σ ex σ' h
  simp only [H5,D9B,Prod.mk.injEq] at h
  obtain ⟨rfl,rfl⟩:=h
  exact ⟨St.le.refl _,fun m of' c eb a w _ _ _ hs=>wpIn_skip ⟨rfl,hs⟩⟩
 | ret =>
  intro _ σ ex σ' h
  simp only [H5,D9B,Prod.mk.injEq] at h
  obtain ⟨rfl,rfl⟩:=h
  exact ⟨St.le.refl _,fun m of' c eb a w _ _ _ hs=>wpIn_ret ⟨rfl,hs⟩⟩
 | exit id =>
  intro _ σ ex σ' h
  simp only [H5,D9B,Prod.mk.injEq] at h
  obtain ⟨rfl,rfl⟩:=h
  exact ⟨St.le.refl _,fun m of' c eb a w _ _ _ hs=>wpIn_exit ⟨rfl,hs⟩⟩
 | region id ops draw =>
  intro _ σ ex σ' h
  simp only [H5] at h
  cases draw with
  | false =>
   simp only at h
   split at h<;>try (cases h;done)
   rename_i hd
   split at h<;>try (cases h;done)
   rename_i Es σ2 hr
   simp only [D9B,Prod.mk.injEq] at h
   obtain ⟨rfl,rfl⟩:=h
   exact ⟨T3 _ _ _ _ hr,fun m of' c eb a w hn hfit hbs hs=>B84 hT hK hd hr hn hfit hs (fun a' w' h'=>⟨rfl,h'⟩)⟩
  | true =>
   simp only at h
   split at h<;>try (cases h;done)
   rename_i hd
   split at h<;>try (cases h;done)
   rename_i Es σ2 hr
   split at h
   ·rename_i hdy
    simp only [D9B,Prod.mk.injEq] at h
    obtain ⟨rfl,rfl⟩:=h
    exact ⟨T3 _ _ _ _ hr,fun m of' c eb a w hn hfit hbs hs=>B1g hm hT hK hd hr hdy hn hfit hs (fun a' w' h'=>⟨rfl,h'⟩)⟩
   ·split at h<;>try (cases h;done)
    rename_i Es2 σ3 hr2
    split at h<;>try (cases h;done)
    rename_i hdy
    simp only [D9B,Prod.mk.injEq] at h
    obtain ⟨rfl,rfl⟩:=h
    have l2:=T3 _ _ _ _ hr2
    exact ⟨(St.pre_le _ _).trans l2,fun m of' c eb a w hn hfit hbs hs=>B1g hm hT hK hd hr2 hdy hn hfit (hs.pre (fun id A4=>hfit.rd id (l2.1 id A4))) (fun a' w' h'=>⟨rfl,h'⟩)⟩
 | seq x y ihx ihy =>
  intro hl σ ex σ' h
  simp only [H5] at h
  split at h
  ·rename_i σ1 hx
   obtain ⟨l1,k1⟩:=ihx hl.1 _ _ _ hx
   obtain ⟨l2,k2⟩:=ihy hl.2 _ _ _ h
   refine ⟨l1.trans l2,fun m of' c eb a w hn hfit hbs hs=>wpIn_seq (H9 ?_ (k1 m of' c eb a w hn (hfit.mono l2) hbs hs))⟩
   rintro e' a' w' ⟨rfl,hs'⟩
   exact k2 m of' c eb a' w' (Nat.le_trans hn l1.2) hfit hbs hs'
  ·rename_i r0 hne
   obtain ⟨l1,k1⟩:=ihx hl.1 _ _ _ h
   have hex:ex≠.normal:=by intro he;subst he;exact hne _ h
   refine ⟨l1,fun m of' c eb a w hn hfit hbs hs=>wpIn_seq (H9 ?_ (k1 m of' c eb a w hn hfit hbs hs))⟩
   rintro e' a' w' ⟨rfl,hs'⟩
   cases e' with
   | normal=>exact absurd rfl hex
   | _=>exact ⟨rfl,hs'⟩
 | cond q x y ihx ihy =>
  intro hl σ ex σ' h
  simp only [H5] at h
  split at h<;>try (cases h;done)
  ·rename_i hq
   obtain ⟨l1,k1⟩:=ihx hl.1 _ _ _ h
   exact ⟨l1,fun m of' c eb a w hn hfit hbs hs=>wpIn_cond (hs.cond hq) (k1 m of' c eb a w hn hfit hbs hs)⟩
  ·rename_i hq
   obtain ⟨l1,k1⟩:=ihy hl.2 _ _ _ h
   exact ⟨l1,fun m of' c eb a w hn hfit hbs hs=>wpIn_cond (hs.cond hq) (k1 m of' c eb a w hn hfit hbs hs)⟩
 | block id body ih =>
  intro hl σ ex σ' h
  simp only [H5] at h
  split at h
  ·rename_i id' σ1 hb
   obtain ⟨l1,k1⟩:=ih hl _ _ _ hb
   injection h with h;injection h with h1 h2
   subst h2
   refine ⟨l1,fun m of' c eb a w hn hfit hbs hs=>wpIn_block (H9 ?_ (k1 m of' c eb a w hn hfit hbs hs))⟩
   rintro e' a' w' ⟨rfl,hs'⟩
   by_cases A4:id'=id
   ·subst A4
    rw [if_pos (Nat.beq_refl _)] at h1
    subst h1
    simp only [Exit.inBlock,if_true]
    exact ⟨trivial,hs'⟩
   ·rw [if_neg (fun q=>A4 (D9y q))] at h1
    subst h1
    simp only [Exit.inBlock,if_neg A4]
    exact ⟨trivial,hs'⟩
  ·rename_i r0 hne
   obtain ⟨l1,k1⟩:=ih hl _ _ _ h
   have hex:∀ id',ex≠.exit id':=by intro id' he;subst he;exact hne _ _ h
   refine ⟨l1,fun m of' c eb a w hn hfit hbs hs=>wpIn_block (H9 ?_ (k1 m of' c eb a w hn hfit hbs hs))⟩
   rintro e' a' w' ⟨rfl,hs'⟩
   cases e' with
   | exit id'=>exact absurd rfl (hex id')
   | _=>exact ⟨rfl,hs'⟩
 | loop body ih =>
  intro hl σ ex σ' h
  simp only [H5] at h
  split at h
  ·rename_i s hs
   exact hl.1 s hs of σ ex σ' h
  ·obtain ⟨l1,k1⟩:=B5Q (fun σ ex σ' h=>ih hl.2 σ ex σ' h) fu σ ex σ' h
   exact ⟨l1,fun m of' c eb a w hn hfit hbs hs=>wpIn_loop_rounds fu (k1 m of' c eb a w hn hfit hbs hs)⟩
 | rangeFunc g ps asg body _ _ =>
  intro _ σ ex σ' h
  simp only [H5] at h
  exact B5P hK h
 | _=>intro _ σ ex σ' h;simp only [H5] at h;cases h
variable {P:Program} {T:TT} {c:F6} {e eb:B6} {of of':Nat→Option Ob}
def A4y (T:TT) (sl:Nat→A) (of:Nat→Option Ob):ResultVar→Option (A×List Nat)
 | .tmp t=>match sl t with
  | .t _=>none
  | v=>some (v,[])
 | .cell a t=>match T t,sl a with
  | some te,.p id _ path=>match of id with
   | some (.box _ b _)=>match atA T b path with
    | some a1=>match M0 T t a1 with
     | some a2=>some (norm T a2,[id])
     | none=>none
    | none=>none
   | _=>none
  | _,_=>none
def A01 (T:TT) (sl:Nat→A) (of:Nat→Option Ob):List ResultVar→Option (List A×List Nat)
 | []=>some ([],[])
 | r::rs=>match A4y T sl of r with
  | some (v,p)=>match A01 T sl of rs with
   | some (l,q)=>some (v::l,p++q)
   | none=>none
  | none=>none
def A13 (T:TT) (sl:Nat→A) (of:Nat→Option Ob) (rs:List ResultVar):Option (A×List Nat) :=
 match A01 T sl of rs with
 | some (l,p)=>match l with
  | [v]=>some (v,p)
  | l=>some (.t l,p)
 | none=>none
def A9O (tmps:Array Value):ResultVar→Sem Value
 | .tmp t=>pure (tmps.getD t undef)
 | .cell a t=>do loadVar t (← asAddr (tmps.getD a undef))
theorem A6w (fn:Func) (tmps:Array Value):results fn tmps=(do let vs ← fn.results.mapM (A9O tmps);pure (if h:vs.size=1 then vs[0] else .tuple vs)):=by
 unfold results
 congr 2
theorem B87 {t:Nat} {a b:A} (h:M0 T t a=some b):∀ l,norm T b≠.t l:=by
 intro l hl
 cases b with
 | v t' y=>simp only [norm,mkA] at hl;repeat' split at hl
           all_goals cases hl
 | t l' =>
  have:=A4X h
  simp [C7] at this
 | _=>cases hl
theorem B5R (hT:H2 T P) {U:Nat→Prop} {nt:Nat} {mk:Option (List Nat)} {sl:Nat→A} {a:Act} (h:H0 T c eb sl of' U nt mk a e) {r:ResultVar} {v:A} {ro:List Nat} (hr:A4y T sl of r=some (v,ro)) (ho:∀ id∈ro,of' id=of id) :
  ∃ x,(A9O a.tmps r).run P e.w=.ok x e.w∧B9 T e v x∧∀ l,v≠.t l:=by
 cases r with
 | tmp t =>
  simp only [A4y] at hr
  split at hr<;>try (cases hr;done)
  rename_i hne
  simp only [D9B,Prod.mk.injEq] at hr
  obtain ⟨rfl,-⟩:=hr
  exact ⟨_,rfl,h.sl t,hne⟩
 | cell ad t =>
  simp only [A4y] at hr
  split at hr<;>try (cases hr;done)
  rename_i te id t' path hte hsl
  split at hr<;>try (cases hr;done)
  rename_i t0 b sh hof
  split at hr<;>try (cases hr;done)
  rename_i a1 h1
  split at hr<;>try (cases hr;done)
  rename_i a2 h2
  simp only [D9B,Prod.mk.injEq] at hr
  obtain ⟨rfl,rfl⟩:=hr
  have hx:=h.sl ad
  rw [hsl] at hx
  obtain ⟨u1,u2,u3,u4,bb,cs,ty,fz,g1,g2,g3,g4,g5,g6⟩:=X7 h.os ((ho id (by simp)).trans hof)
  obtain ⟨b',off,_,_,k1,k2,hv⟩:=L5 hx
  rw [g1] at k1;cases k1
  rw [u3] at k2
  obtain ⟨pre,d,post,q1,q2,q3,q4,q5⟩:=Z2 path g5 u4 k2 h1
  obtain ⟨r1,r2⟩:=A35 q4 h2
  obtain ⟨x,y1,y2⟩:=run_load (P:=P) hT hte r1 r2 (ad:=⟨bb,off,none⟩) (fun j y hj=>by
   rw [D1,F4 g2,q1,← q2];exact N0 hj)
  exact ⟨x,by simp only [A9O,hv,asAddr];exact y1,U0 hte y2 r2,B87 h2⟩
theorem A6x (hT:H2 T P) {U:Nat→Prop} {nt:Nat} {mk:Option (List Nat)} {sl:Nat→A} {a:Act} (h:H0 T c eb sl of' U nt mk a e):∀ (rs:List ResultVar) (l:List A) (ro:List Nat),A01 T sl of rs=some (l,ro)→(∀ id∈ro,of' id=of id) →
  ∃ xs,(rs.mapM (A9O a.tmps)).run P e.w=.ok xs e.w∧Q1 T e l xs∧∀ v∈l,∀ m,v≠.t m:=by
 intro rs
 induction rs with
 | nil =>
  intro l p hr _
  simp only [A01,D9B,Prod.mk.injEq] at hr
  obtain ⟨rfl,-⟩:=hr
  exact ⟨[],by simp,.nil,fun v hv=>by cases hv⟩
 | cons r rs ih =>
  intro l p hr ho
  simp only [A01] at hr
  split at hr<;>try (cases hr;done)
  rename_i v p1 h1
  split at hr<;>try (cases hr;done)
  rename_i l1 q1 h2
  simp only [D9B,Prod.mk.injEq] at hr
  obtain ⟨rfl,rfl⟩:=hr
  obtain ⟨x,g1,g4,g5⟩:=B5R hT h h1 (fun id A4=>ho id (by simp [A4]))
  obtain ⟨xs,k1,k4,k5⟩:=ih _ _ h2 (fun id A4=>ho id (by simp [A4]))
  refine ⟨x::xs,by simp [List.mapM_cons,g1,k1],.cons g4 k4,fun u hu=>?_⟩
  rcases List.mem_cons.1 hu with rfl | hu
  ·exact g5
  ·exact k5 u hu
theorem A5e {v:A} {x:Value} (h:B9 T e v x) (hv:∀ l,v≠.t l):F0 T e v x:=by
 cases v with
 | t l=>exact absurd rfl (hv l)
 | _=>exact h
theorem A9P (hT:H2 T P) {U:Nat→Prop} {nt:Nat} {mk:Option (List Nat)} {sl:Nat→A} {a:Act} (fn:Func) (h:H0 T c eb sl of' U nt mk a e) {v:A} {ro:List Nat} (hr:A13 T sl of fn.results.toList=some (v,ro)) (ho:∀ id∈ro,of' id=of id) :
  ∃ x,(results fn a.tmps).run P e.w=.ok x e.w∧B9 T e v x:=by
 unfold A13 at hr
 split at hr<;>try (cases hr;done)
 rename_i l p hm
 split at hr
 ·rename_i v'
  simp only [D9B,Prod.mk.injEq] at hr
  obtain ⟨rfl,rfl⟩:=hr
  obtain ⟨xs,h1,h4,h5⟩:=A6x hT h _ _ _ hm ho
  cases h4 with
  | @cons _ x _ s hx hs =>
  cases hs
  refine ⟨x,?_,hx⟩
  rw [A6w]
  simp [Array.mapM_eq_mapM_toList,h1]
 ·rename_i hne
  simp only [D9B,Prod.mk.injEq] at hr
  obtain ⟨rfl,rfl⟩:=hr
  obtain ⟨xs,h1,h4,h5⟩:=A6x hT h _ _ _ hm ho
  obtain ⟨g1,g2⟩:=h4.get
  have hl1:l.length≠1:=by
   intro hl
   obtain ⟨v,rfl⟩:=List.length_eq_one_iff.1 hl
   exact hne v rfl
  refine ⟨.tuple xs.toArray,?_,⟨xs.toArray,rfl,by simpa using g1,fun i v x hv hx=>A5e (g2 i v x hv (by simpa using hx)) (h5 v (List.mem_of_getElem? hv))⟩⟩
  rw [A6w]
  have hx1:¬ xs.length=1:=by omega
  simp [Array.mapM_eq_mapM_toList,h1,hx1]
mutual
def B88 (n:Nat):A→Bool
 | .p id _ _=>Nat.ble n id
 | .e id _ _ _ _=>Nat.ble n id
 | .o id _=>Nat.ble n id
 | .w id _ _ _=>Nat.ble n id
 | .a id _ _ _ _=>Nat.ble n id
 | .m id=>Nat.ble n id
 | .y id=>Nat.ble n id
 | .f _ l=>B4k n l
 | .g _ l=>B4k n l
 | .t l=>B4k n l
 | _=>false
def B4k (n:Nat):List A→Bool
 | []=>false
 | a::r=>B88 n a||B4k n r
end
def D9b (n:Nat):Ob→Bool
 | .box _ a _=>B88 n a
 | .row _ _ _ _ _=>false
 | .map _ _ es=>es.any fun p=>B88 n p.2
 | .vm _ _ _=>false
 | .sm _ _ _ _ _=>false
 | .lp (some r)=>r.sl.any fun p=>B88 n p.2
 | .lp none=>false
 | .it (some m)=>Nat.ble n m
 | .it none=>false
def C8z (n:Nat) (v:A) (l:List (Nat×Ob)):Bool:=B88 n v||l.any fun p=>Nat.blt p.1 n&&D9b n p.2
def A0p (n:Nat) (v:A) (σ:St) (ro:List Nat):J7 :=
 match σ.ob.toL fun j=>j with
 | []=>⟨v,[],W0 σ.ob ro σ.rd,σ.nx⟩
 | l=>⟨v,bif C8z n v l then l else l.filter fun p=>Nat.blt p.1 n||Nat.ble σ.nx p.1,W0 σ.ob ro σ.rd,σ.nx⟩
def A1U:Nat→List A→List (Nat×A)
 | _,[]=>[]
 | k,v::r=>(k,v)::A1U (k+1) r
def A60:Exit→Bool
 | .ret | .normal=>true
 | _=>false
def U9 (ms:List Nat) (f:Nat→Option Ob):Nat→Option Ob:=fun j=>if mem j ms then none else f j
def A4z (n h:Nat) (f:Nat→Option Ob):List Nat→Bool
 | []=>true
 | id::r=>(match f id with
  | some (.lp none)=>true
  | _=>false)&&Nat.ble n id&&Nat.blt id h&&!mem id r&&A4z n h f r
def A0i (ms:List Nat) (f:J7):J7 :=
 match ms with
 | []=>f
 | _=>{ f with wo:=f.wo.filter fun p=>!mem p.1 ms }
def A3S (P:Program) (T:TT) (K:KS) (Lo:Nat→A4w) (fu f:Nat):E7:=fun args of nx =>
 match P.funcs[f]? with
 | some fn=>match fn.body with
  | some code=>if !(fn.name == "runtime.NumGoroutine")&&Nat.ble args.length fn.ntmps then
    (match H5 T K (Lo nx) fu fn.ntmps of code ⟨A1U 0 args,.e,[],nx,some []⟩ with
    | some (ex,σ)=>if A60 ex then
      (match σ.mks with
      | some ms=>if A4z nx σ.nx σ.ob.get ms then
       (match A13 T (C4 σ.sl) (B5 σ.ob of) fn.results.toList with
       | some (v,ro)=>some (A0i ms (A0p nx v σ ro))
       | none=>none) else none
      | none=>none) else none
    | none=>none) else none
  | none=>none
 | none=>none
theorem A4A:∀ (l:List A) (k t:Nat),C4 (A1U k l) t=if t < k then .x else l.getD (t - k) .x:=by
 intro l
 induction l with
 | nil=>intro k t;simp [A1U,C4]
 | cons v r ih =>
  intro k t
  rw [A1U,E9,D9]
  by_cases h:t=k
  ·subst h;simp
  ·rw [if_neg h,ih (k+1) t]
   by_cases hlt:t < k
   ·rw [if_pos (by omega),if_pos hlt]
   ·rw [if_neg (by omega),if_neg hlt,show t - k=t - (k+1)+1 by omega]
    simp
theorem A3f (keep:Nat→Bool):∀ (l:List (Nat×Ob)) (f g:Nat→Option Ob) (id:Nat),f id=g id→put f (l.filter fun p=>keep p.1) id=if keep id then put g l id else f id:=by
 intro l
 induction l with
 | nil=>intro f g id h;simp only [List.filter_nil,put];split;exact h;rfl
 | cons p r ih =>
  intro f g id h
  obtain ⟨k,o⟩:=p
  by_cases hk:keep k=true
  ·rw [List.filter_cons_of_pos (by exact hk)]
   simp only [put]
   by_cases A4:id=k
   ·subst A4
    rw [ih _ (D9 g id (some o)) id (by rw [upd_same,upd_same]),if_pos hk,if_pos hk]
   ·rw [ih _ (D9 g k (some o)) id (by rw [A2 _ _ A4,A2 _ _ A4];exact h),A2 _ _ A4]
  ·rw [List.filter_cons_of_neg (by exact hk)]
   simp only [put]
   by_cases A4:id=k
   ·subst A4
    rw [ih f f id rfl,if_neg hk,if_neg hk]
   ·exact ih f _ id (by rw [A2 _ _ A4];exact h)
theorem A8.sub {of2:Nat→Option Ob} (h:A8 T c e of) (hs:∀ id o,of2 id=some o→of id=some o):A8 T c e of2:=by
 have hs':∀ id,(of2 id).isSome→(of id).isSome:=fun id h=>by
  obtain ⟨o,ho⟩:=D9D.1 h
  rw [hs _ _ ho];rfl
 exact ⟨fun id o ho=>h.ok id o (hs _ _ ho),fun i j b o b' o' hi hj=>h.sep i j b o b' o' (hs' _ hi) (hs' _ hj),fun i b o hi=>h.own i b o (hs' _ hi),h.lt,h.slt,h.s0,h.snew,h.os,h.tape,h.output,h.size,h.block,h.g.mono (fun _ _ q=>q) rfl (fun _ q=>q) (Nat.le_refl _) (fun j b o hj hb=>.inl ⟨j,o,hs' j hj,hb⟩)⟩
theorem A0z (n:Nat) (v:A) (σ:St) (ro:List Nat):(A0p n v σ ro).val=v∧(A0p n v σ ro).ro=W0 σ.ob ro σ.rd∧(A0p n v σ ro).nx=σ.nx ∧
  ((A0p n v σ ro).wo=(σ.ob.toL fun j=>j)∨(A0p n v σ ro).wo=(σ.ob.toL fun j=>j).filter fun p=>Nat.blt p.1 n||Nat.ble σ.nx p.1):=by
 unfold A0p
 split
 ·rename_i h;rw [h];exact ⟨rfl,rfl,rfl,.inl rfl⟩
 ·cases C8z n v (σ.ob.toL fun j=>j)
  ·exact ⟨rfl,rfl,rfl,.inr rfl⟩
  ·exact ⟨rfl,rfl,rfl,.inl rfl⟩
theorem A3T {n:Nat} {v:A} {σ:St} {ro:List Nat} (hb:A6v T e of') (hf:∀ id,n≤id→id < σ.nx→¬ e.U id):∀ id o,put of' (A0p n v σ ro).wo id=some o→B5 σ.ob of' id=some o:=by
 intro id o ho
 obtain ⟨o1,o2,o3,o4⟩:=A0z n v σ ro
 rcases o4 with h4 | h4
 ·rw [h4,A0C] at ho;exact ho
 ·rw [h4,A3f (fun k=>Nat.blt k n||Nat.ble σ.nx k) _ of' of' id rfl] at ho
  split at ho
  ·rw [A0C] at ho;exact ho
  ·rename_i hk
   simp only [Bool.or_eq_true,Nat.blt_eq,Nat.ble_eq,not_or,Nat.not_lt,Nat.not_le] at hk
   exact absurd (hb _ _ ho).use (hf id hk.1 hk.2)
theorem A4B {n h:Nat} {f:Nat→Option Ob}:∀ (ms:List Nat),A4z n h f ms=true→(∀ id∈ms,f id=some (.lp none)∧n≤id∧id < h)∧ms.Nodup:=by
 intro ms
 induction ms with
 | nil=>intro _;exact ⟨fun _ h=>(by cases h),.nil⟩
 | cons id r ih =>
  intro hm
  simp only [A4z,D9z,Bool.not_eq_true'] at hm
  obtain ⟨⟨⟨⟨h1,h2⟩,h3⟩,h4⟩,h5⟩:=hm
  obtain ⟨i1,i2⟩:=ih h5
  refine ⟨fun j hj=>?_,List.nodup_cons.2 ⟨fun q=>(by rw [mem_iff.2 q] at h4;cases h4),i2⟩⟩
  rcases List.mem_cons.1 hj with rfl | hj
  ·refine ⟨?_,D9E h2,by simpa [Nat.blt_eq] using h3⟩
   split at h1<;>first | assumption | cases h1
  ·exact i1 j hj
theorem B5S (f:Nat→Option Ob):U9 [] f=f:=by
 funext j;simp [U9,mem]
theorem B29 {id:Nat} {r:List Nat} {f:Nat→Option Ob}:U9 r (fun j=>if j=id then none else f j)=U9 (id::r) f:=by
 funext j
 simp only [U9,mem]
 by_cases h:j=id
 ·subst h;simp
 ·have:Nat.beq id j=false:=by
   rw [← Bool.not_eq_true];intro q;exact h (D9y q).symm
  simp [h,this]
theorem A1V (ms:List Nat) (f:J7):(A0i ms f).val=f.val∧(A0i ms f).ro=f.ro∧(A0i ms f).nx=f.nx∧∀ (of:Nat→Option Ob) id o,put of (A0i ms f).wo id=some o→(id∈ms∧of id=some o)∨(id ∉ ms∧put of f.wo id=some o):=by
 cases ms with
 | nil=>exact ⟨rfl,rfl,rfl,fun of id o h=>.inr ⟨by simp,h⟩⟩
 | cons m r =>
  refine ⟨rfl,rfl,rfl,fun of id o h=>?_⟩
  have h:put of (f.wo.filter fun p=>!mem p.1 (m::r)) id=some o:=h
  rw [A3f (fun k=>!mem k (m::r)) _ of of id rfl] at h
  by_cases hm:mem id (m::r)=true
  ·rw [hm] at h
   exact .inl ⟨mem_iff.1 hm,by simpa using h⟩
  ·rw [Bool.not_eq_true] at hm
   rw [hm] at h
   exact .inr ⟨fun q=>(by rw [mem_iff.2 q] at hm;cases hm),by simpa using h⟩
theorem A8.aside (h:A8 T c e of) {b:Nat} (hown:c.w0.heap.size≤b∨c.M b) (hno:∀ id q,(of id).isSome→e.ι id≠some (b,q)) (hnG:∀ a,¬ e.G a b) {g g':Go.Obj} (h0:e.w.heap[b]? = some g) (hg:∀ cs t fz,g≠.cells cs t fz) (hg':∀ cs t fz,g'≠.cells cs t fz) {w':World} (hw:w'={ e.w with heap:=e.w.heap.setIfInBounds b g' }) :
  A8 T c { e with w:=w' } of∧e.le { e with w:=w' }:=by
 have hlt:b < e.w.heap.size:=(Array.getElem?_eq_some_iff.1 h0).1
 have h1:w'.heap[b]? = some g':=by rw [hw];simp [hlt]
 have hne:∀ k,k≠b→w'.heap[k]? = e.w.heap[k]? := fun k hk=>by rw [hw];simp [Ne.symm hk]
 have hsz:w'.heap.size=e.w.heap.size:=by rw [hw];simp
 have hln:∀ k,R0 w' k=R0 e.w k:=fun k=>by
  by_cases hk':k=b
  ·subst hk'
   unfold R0
   rw [h0,h1]
   cases g<;>cases g'<;>first | rfl | exact absurd rfl (hg _ _ _) | exact absurd rfl (hg' _ _ _)
  ·exact D0 (hne _ hk')
 have hle:e.le { e with w:=w' }:=by
  refine ⟨fun k i hs=>⟨hs,fun x hx=>?_⟩,fun _ hu=>hu,fun j hu _=>⟨rfl,rfl,fun k q' hk=>hln k⟩,fun _ _ h=>h,fun _ _=>Nat.le_refl _,fun _ _=>rfl,by show _≤w'.heap.size;omega,fun k _=>hln k⟩
  by_cases hk:k=b
  ·subst hk
   exfalso
   unfold World.cell? at hx
   rw [h0] at hx
   cases g<;>first | (exact absurd rfl (hg _ _ _)) | (simp at hx;done)
  ·rw [← hx];exact E1 (hne _ hk)
 refine ⟨⟨fun id o ho=>(h.ok id o ho).keep hle rfl (fun k q hk=>hne k (fun hkb=>hno id q (by rw [ho];rfl) (by rw [← hkb];exact hk))) (fun _ _ _ _ hs=>hs) (fun a o' k _ hG=>⟨hG,hne k (fun hkb=>hnG a (hkb ▸ hG)),fun i hs=>hs⟩),h.sep,h.own,fun id k q hu hk=>by show k < w'.heap.size;rw [hsz];exact h.lt id k q hu hk,fun k i hs=>by show k < w'.heap.size;rw [hsz];exact h.slt k i hs,h.s0,h.snew,by show w'.os=_;rw [hw];exact h.os,by show w'.tape=_;rw [hw];exact h.tape,by show w'.output=_;rw [hw];exact h.output,by show _≤w'.heap.size;rw [hsz];exact h.size,fun k hk hm=>?_,h.g.mono (fun _ _ q=>q) rfl (fun _ q=>q) (by show _≤w'.heap.size;omega) (fun j b o hj hb=>.inl ⟨j,o,hj,hb⟩)⟩,hle⟩
 show w'.heap[k]? = _
 rw [hne k (fun hkb=>by subst hkb;rcases hown with h' | h';omega;exact hm h')]
 exact h.block k hk hm
theorem A1W {n:Nat} {fn:Func} {tmps:Array Value} {R:Ending→World→Prop}:∀ (ms:List Nat) (ds:List Deferred) (e:B6) (f:Nat→Option Ob),X4 e ms ds→(∀ id∈ms,f id=some (.lp none))→ms.Nodup→A8 T c e f →
  (∀ e',e.le e'→(∀ id,e'.U id→e.U id)→A8 T c e' (U9 ms f)→∃ v,(results fn tmps).run P e'.w=.ok v e'.w∧R (.returned v) e'.w)→LeavesInM (WF none) n P fn tmps R ds .returning e.w:=by
 intro ms
 induction ms with
 | nil =>
  intro ds e f hm _ _ hos h
  cases hm
  rw [LeavesInM,LeavesIn]
  exact h e (B6.le.refl e) (fun _ q=>q) (by rw [B5S];exact hos)
 | cons id r ih =>
  intro ds e f hm hn hd hos h
  cases hm with
  | @cons _ b _ ds' h1 h2 h3 h4 =>
  obtain ⟨g1,g2,b',g3,g4⟩:=hos.ok id _ (hn id (by simp))
  rw [h3] at g3;cases g3
  obtain ⟨d1,d2⟩:=List.nodup_cons.1 hd
  let f':Nat→Option Ob:=fun j=>if j=id then none else f j
  have hsub:∀ j o,f' j=some o→f j=some o:=fun j o hj=>by
   by_cases hj':j=id
   ·simp [f',hj'] at hj
   ·simpa [f',hj'] using hj
  have os1:A8 T c e f':=hos.sub hsub
  let w':World:={ e.w with heap:=e.w.heap.setIfInBounds b (.deferred none) }
  obtain ⟨os2,le2⟩:=os1.aside (b:=b) (hos.own id b 0 (by rw [hn id (by simp)];rfl) h3) (fun j q hj hι=>by
   have hj':j≠id:=by intro q';subst q';simp [f'] at hj
   have hjs:(f j).isSome:=by simpa [f',hj'] using hj
   exact absurd rfl (hos.sep j id b q b 0 hjs (by rw [hn id (by simp)];rfl) hι h3 hj')) (fun a hG=>hos.g.sep a b hG id b 0 (by rw [hn id (by simp)];rfl) h3 rfl) g4 (fun _ _ _ h=>by cases h) (g':=.deferred none) (fun _ _ _ h=>by cases h) (w':=w') rfl
  rw [LeavesInM]
  refine ⟨by simp,.inl ⟨b,w',rfl,?_,?_⟩⟩
  ·simp [Instr.takeDeferred,A0e g4,Q7 _ g4,w']
  ·refine ih ds' { e with w:=w' } f' (h4.mono le2) (fun j hj=>?_) d2 os2 (fun e' hle hu hos'=>?_)
   ·have:j≠id:=by intro q;subst q;exact d1 hj
    simp only [f',if_neg this]
    exact hn j (by simp [hj])
   ·exact h e' (le2.trans hle) hu (by rw [← B29];exact hos')
theorem A61 {sl:Nat→A} {f g:Nat→Option Ob} (hfg:∀ id t b sh,f id=some (.box t b sh)→g id=some (.box t b sh)):∀ (rs:List ResultVar) (x:List A×List Nat),A01 T sl f rs=some x→A01 T sl g rs=some x:=by
 intro rs
 induction rs with
 | nil=>intro x h;exact h
 | cons r rs ih =>
  intro x hr
  simp only [A01] at hr ⊢
  split at hr<;>try (cases hr;done)
  rename_i v p1 h1
  split at hr<;>try (cases hr;done)
  rename_i l1 q1 h2
  have k1:A4y T sl g r=some (v,p1):=by
   cases r with
   | tmp t=>exact h1
   | cell ad t =>
    simp only [A4y] at h1 ⊢
    split at h1<;>try (cases h1;done)
    rename_i te id t' path hte hsl
    split at h1<;>try (cases h1;done)
    rename_i hof
    rw [hfg _ _ _ _ hof]
    exact h1
  rw [k1,ih _ h2]
  exact hr
theorem A3g {sl:Nat→A} {f g:Nat→Option Ob} (hfg:∀ id t b sh,f id=some (.box t b sh)→g id=some (.box t b sh)) {rs:List ResultVar} {x:A×List Nat} (h:A13 T sl f rs=some x):A13 T sl g rs=some x:=by
 unfold A13 at h ⊢
 split at h<;>try (cases h;done)
 rename_i l p hm
 rw [A61 hfg _ _ hm]
 exact h
theorem B4l (hm:P.follows .mixedOrders=true) (hT:H2 T P) {K:KS} (hK:KOK P T K) {Lo:Nat→A4w} {fu f:Nat} (hL:∀ n0 fn code,P.funcs[f]? = some fn→fn.body=some code→M2 P T fn.ntmps n0 (Lo n0) code):B2 P T f (A3S P T K Lo fu f):=by
 intro c e of of' args vals nx out hos hr hro hu hvals
 unfold A3S at hr
 split at hr<;>try (cases hr;done)
 rename_i fn hf
 split at hr<;>try (cases hr;done)
 rename_i code hb
 split at hr<;>try (cases hr;done)
 rename_i hcc
 simp only [D9z,Bool.not_eq_true'] at hcc
 obtain ⟨hn,hargs⟩:=hcc
 have hargs:=D9E hargs
 split at hr<;>try (cases hr;done)
 rename_i ex σ hx
 split at hr<;>try (cases hr;done)
 rename_i hend
 split at hr<;>try (cases hr;done)
 rename_i ms hmk
 split at hr<;>try (cases hr;done)
 rename_i hmb
 obtain ⟨hms,hnd⟩:=A4B _ hmb
 split at hr<;>try (cases hr;done)
 rename_i v ro hres
 injection hr with hr
 obtain ⟨q1,q2,q3,q4⟩:=A1V ms (A0p nx v σ ro)
 obtain ⟨o1,o2,o3,o4⟩:=A0z nx v σ ro
 rw [hr] at q1 q2 q3 q4
 have o1:=q1.trans o1
 have o2:=q2.trans o2
 have o3:=q3.trans o3
 have hcall:(callFunc f vals).run P e.w=.ok (.enter f vals) e.w:=by
  have hn':¬ fn.name="runtime.NumGoroutine":=by simpa using hn
  simp [callFunc,hf,hn',hb]
 refine .inr (.inr (.inl ⟨f,vals,e.w,hcall,?_⟩))
 refine (callsIn_wide (n:=0)).1 (callsIn_of_wp_marks (F:=WF none) hf hb trivial ?_ rfl)
 have hlen:=hvals.get.1
 rw [D9F] at hlen
 have hsim:X1 T { c with rd:=none } e of' nx fn.ntmps ⟨A1U 0 args,.e,[],nx,some []⟩ { tmps:=vals++Array.replicate (fn.ntmps - vals.size) undef,defers:=[] } e.w:=by
  refine ⟨e,rfl,?_,B6.le.refl e,fun id A4=>.inl A4,fun t=>?_,⟨rfl,.nil⟩,by simp;omega⟩
  ·have:B5 Tr.e of'=of':=by funext id;unfold B5;rw [Tr.get_e]
   rw [this];exact hos.ctx none
  ·show B9 T e (C4 (A1U 0 args) t) _
   rw [A4A,if_neg (by omega),Nat.sub_zero]
   by_cases ht:t < args.length
   ·have h1:args[t]? = some args[t]:=D9L ht
    have h2:vals.toList[t]? = some vals[t]:=by rw [Array.getElem?_toList];exact Array.getElem?_eq_getElem (by omega)
    have:=hvals.get.2 t _ _ h1 h2
    have e1:args.getD t .x=args[t]:=by simp [List.getD,h1]
    have e2:(vals++Array.replicate (fn.ntmps - vals.size) undef).getD t undef=vals[t]:=by
     have:t < vals.size:=by omega
     simp [Array.getD,Array.getElem_append_left this]
     omega
    rw [e1]
    show B9 T e _ ((vals++Array.replicate (fn.ntmps - vals.size) undef).getD t undef)
    rw [e2];exact this
   ·rw [show args.getD t .x=.x by simp [List.getD,List.getElem?_eq_none (by omega:args.length≤t)]]
    trivial
 obtain ⟨l1,k1⟩:=A00 (of:=of) (n0:=nx) hm hT hK code (hL nx fn code hf hb) _ _ _ hx
 have hfit:A0d of of' e nx σ:=⟨fun id A4=>hro id (by rw [o2];exact L4 _ _ _ _ A4),fun id h1 h2=>hu id h1 (by rw [o3];exact h2)⟩
 refine H9 ?_ (k1 0 of' { c with rd:=none } e _ _ (Nat.le_refl _) hfit hos.ok hsim)
 rintro ex' a w ⟨rfl,e',rfl,hst⟩
 have hmarks:=hst.def_
 rw [hmk] at hmarks
 have hms':∀ id∈ms,B5 σ.ob of' id=some (.lp none):=fun id A4=>A0Z (hms id A4).1
 have fin:LeavesInM (WF none) 0 P fn a.tmps (fun en w'=>∃ x,en=.returned x∧P7 T c e of' nx out x w') a.defers .returning e'.w:=by
  refine A1W ms a.defers e' (B5 σ.ob of') hmarks.2 hms' hnd hst.os (fun e2 hle hu2 hos2=>?_)
  have hst2:H0 T { c with rd:=none } e (C4 σ.sl) (U9 ms (B5 σ.ob of')) (fun id=>e.U id∨(nx≤id∧id < σ.nx)) fn.ntmps σ.mks a e2 :=
   ⟨hos2,hst.le.trans hle,fun id A4=>hst.U id (hu2 id A4),fun t=>(hst.sl t).mono hle,hst.def_.mono hle,hst.nt⟩
  have hres2:A13 T (C4 σ.sl) (U9 ms (B5 σ.ob of)) fn.results.toList=some (v,ro):=by
   refine A3g (fun id t b sh A4=>?_) hres
   unfold U9
   have:mem id ms=false:=by
    rw [← Bool.not_eq_true];intro q
    rw [A0Z (of:=of) (hms id (mem_iff.1 q)).1] at A4;cases A4
   rw [this];exact A4
  have hagree:=N8 (ob:=σ.ob) (rd:=out.ro) (ro:=ro) (l:=σ.rd) (of:=of) (of':=of') (fun id A4=>hro id A4) (by rw [o2];exact fun _ h=>h)
  obtain ⟨x,g1,g2⟩:=A9P hT fn hst2 hres2 (fun id A4=>by
   unfold U9
   rw [hagree id A4])
  refine ⟨x,g1,x,rfl,e2,rfl,?_,hst2.le,fun id A4=>by rw [o3];exact hst2.U id A4,by rw [o1];exact g2⟩
  refine (hos2.unctx).sub (fun id o ho=>?_)
  rcases q4 of' id o ho with ⟨h1,h2⟩ | ⟨h1,h2⟩
  ·obtain ⟨_,h3,h4⟩:=hms id h1
   exact absurd (hos.ok _ _ h2).use (hfit.fr id h3 h4)
  ·have:=A3T (of':=of') hos.ok hfit.fr id o h2
   unfold U9
   have hm':mem id ms=false:=by
    rw [← Bool.not_eq_true];intro q;exact h1 (mem_iff.1 q)
   rw [hm'];exact this
 cases ex' with
 | ret=>exact fin
 | normal=>exact fin
 | _=>cases hend
def A9Q:List Nat→List A→List (Nat×A)→List (Nat×A)
 | p::ps,a::as0,sl=>A9Q ps as0 ((p,a)::sl)
 | _,_,sl=>sl
def exJ:Exit→Option (Option Code)
 | .normal=>some none
 | .ret=>some (some .ret)
 | .exit k=>some (some (.exit k))
 | _=>none
def lpE (ok:LoopState→Bool) (q:Option Ob):Option LR :=
 match q with
 | some (.lp (some r))=>bif ok r.st then some r else none
 | _=>none
def W7:LoopState→Bool
 | .ready=>true
 | _=>false
def setLp (σ:St) (id:Nat) (r:LR):St:={ σ with ob:=σ.ob.set id (.lp (some r)),rd:=W0 σ.ob [id] σ.rd }
def C19 (id:Nat) (nx:Nat) (of:Nat→Option Ob) (q:Option (Exit×St)):Option J7 :=
 match q with
 | some (ex,σ2)=>match lpE (fun _=>true) (B5 σ2.ob of id),exJ ex with
  | some r2,some j=>some (A0p nx (.b j.isNone) (setLp σ2 id { r2 with st:=bif j.isNone then .ready else .done,pend:=j }) [])
  | _,_=>none
 | none=>none
def A0R (T:TT) (K:KS) (fu id:Nat):E7:=fun args of nx =>
 match lpE W7 (of id) with
 | some r=>if Nat.beq args.length r.ps.size&&r.ps.toList.all (fun p=>Nat.blt p r.nt) then
   (match H5 T K (fun _=>none) fu r.nt of r.asg ⟨A9Q r.ps.toList args r.sl,.e,[id],nx,none⟩ with
   | some (.normal,σ1)=>match lpE W7 (B5 σ1.ob of id) with
    | some r1=>C19 id nx of (H5 T K (fun _=>none) fu r.nt of r.body (setLp σ1 id { r1 with st:=.busy }))
    | none=>none
   | _=>none) else none
 | none=>none
theorem A6y {ok:LoopState→Bool} {q:Option Ob} {r:LR} (h:lpE ok q=some r):q=some (.lp (some r))∧ok r.st=true:=by
 unfold lpE at h
 split at h<;>try (cases h;done)
 rename_i r'
 cases hk:ok r'.st<;>rw [hk] at h
 ·cases h
 ·simp only [cond_true,D9B] at h;subst h;exact ⟨rfl,hk⟩
theorem B89 (l:List (Nat×A)) (t:Nat):C4 l t=.x∨∃ p∈l,p.1=t∧p.2=C4 l t:=by
 induction l with
 | nil=>exact .inl rfl
 | cons p r ih =>
  obtain ⟨k,v⟩:=p
  rw [E9]
  by_cases h:t=k
  ·subst h;rw [upd_same];exact .inr ⟨(t,v),by simp,rfl,rfl⟩
  ·rw [A2 _ _ h]
   rcases ih with ih | ⟨q,h1,h2,h3⟩
   ·exact .inl ih
   ·exact .inr ⟨q,by simp [h1],h2,h3⟩
theorem B9a {e:B6} {v:A} {x:Value} (h:F0 T e v x):B9 T e v x:=by
 cases v with
 | t l=>exact h.elim
 | _=>exact h
theorem C2a {nt:Nat}:∀ (ps:List Nat) (args:List A) (vals:List Value) (sl:List (Nat×A)) (tm:Array Value),Q1 T e args vals→args.length=ps.length→(∀ p∈ps,p < nt)→tm.size=nt→(∀ t,B9 T e (C4 sl t) (tm.getD t undef)) →
  ((ps.zip vals).foldl (fun tmps (t,a)=>tmps.setIfInBounds t a) tm).size=nt∧∀ t,B9 T e (C4 (A9Q ps args sl) t) (((ps.zip vals).foldl (fun tmps (t,a)=>tmps.setIfInBounds t a) tm).getD t undef):=by
 intro ps
 induction ps with
 | nil =>
  intro args vals sl tm _ _ _ h1 h2
  cases args<;>exact ⟨h1,h2⟩
 | cons p ps ih =>
  intro args vals sl tm hr hl hp h1 h2
  cases hr with
  | nil=>simp at hl
  | @cons v x r s hv hrs =>
   simp only [List.zip_cons_cons,List.foldl_cons,A9Q]
   refine ih _ _ _ _ hrs (by simpa using hl) (fun q hq=>hp q (by simp [hq])) (by simpa using h1) (fun t=>?_)
   rw [E9]
   by_cases ht:t=p
   ·subst ht
    have:=hp t (by simp)
    rw [upd_same,show (tm.setIfInBounds t x).getD t undef=x by simp [h1,this]]
    exact hv
   ·rw [A2 _ _ ht,show (tm.setIfInBounds p x).getD t undef=tm.getD t undef by simp [Array.getElem?_setIfInBounds_ne (Ne.symm ht)]]
    exact h2 t
theorem H0.setLp {nt id:Nat} {n0:Nat} {σ:St} {a:Act} {mk:Option (List Nat)} (h:H0 T c eb (C4 σ.sl) (B5 σ.ob of') (fun id=>eb.U id∨(n0≤id∧id < σ.nx)) nt mk a e) {r r':LR} (hr:B5 σ.ob of' id=some (.lp (some r))) {b:Nat} (hb:e.ι id=some (b,0))
  (hs:r'.nt=r.nt∧r'.sl=r.sl∧r'.ps=r.ps∧r'.asg=r.asg∧r'.body=r.body) :
  ∃ lr:Loop,e.w.heap[b]? = some (.loop lr)∧lr.state=r.st∧lr.pending=r.pend∧∀ w',w'={ e.w with heap:=e.w.heap.setIfInBounds b (.loop { lr with state:=r'.st,pending:=r'.pend }) } →
   H0 T c eb (C4 (Go.Vm.setLp σ id r').sl) (B5 (Go.Vm.setLp σ id r').ob of') (fun k=>eb.U k∨(n0≤k∧k < (Go.Vm.setLp σ id r').nx)) nt mk a { e with w:=w' }:=by
 obtain ⟨k1,k2,b',tm,df,fn,k3,k4,k5,k6⟩:=h.os.ok _ _ hr
 rw [hb] at k3;cases k3
 refine ⟨_,k4,rfl,rfl,fun w' hw=>?_⟩
 obtain ⟨os4,le4⟩:=h.os.writeG (o':=.lp (some r')) hr hb k4 (fun _ _ _ h=>by cases h) (g':=.loop { state:=r'.st,pending:=r'.pend,fn:=fn,tmps:=tm,params:=r.ps,assign:=r.asg,body:=r.body,defers:=df }) (fun _ _ _ h=>by cases h) (w':=w') hw
   (fun hle hh=>⟨k1,k2,b,tm,df,fn,hb,by rw [hs.2.2.1,hs.2.2.2.1,hs.2.2.2.2];exact hh,by rw [hs.1];exact k5,fun p hp=>(k6 p (by rw [← hs.2.1];exact hp)).mono hle⟩)
 refine ⟨?_,h.le.trans le4,h.U,fun t=>(h.sl t).mono le4,h.def_.mono le4,h.nt⟩
 show A8 T c _ (B5 (σ.ob.set id (.lp (some r'))) of')
 rw [A1k];exact os4
theorem A2n {w:World} {b:Nat} {lr:Loop} (h:w.heap[b]? = some (.loop lr)):(Instr.getLoop b).run P w=.ok lr w:=by
 simp [Instr.getLoop,A0e h]
theorem A8F (hm:P.follows .mixedOrders=true) (hT:H2 T P) {K:KS} (hK:KOK P T K) {fu id:Nat}:YOK P T id (A0R T K fu id):=by
 intro c e of of' args vals nx out b hos hr hro hu hvals hU hbn hι
 unfold A0R at hr
 split at hr<;>try (cases hr;done)
 rename_i r hofid
 obtain ⟨hofid,hrdy⟩:=A6y hofid
 split at hr<;>try (cases hr;done)
 rename_i hcc
 simp only [D9z] at hcc
 obtain ⟨hc1,hc2⟩:=hcc
 have hc1:=D9y hc1
 have hc2:∀ p∈r.ps.toList,p < r.nt:=fun p hp=>by simpa [Nat.blt_eq] using List.all_eq_true.1 hc2 p hp
 split at hr<;>try (cases hr;done)
 rename_i σ1 hx1
 split at hr<;>try (cases hr;done)
 rename_i r1 hr1
 obtain ⟨hr1,hrdy1⟩:=A6y hr1
 unfold C19 at hr
 split at hr<;>try (cases hr;done)
 rename_i ex σ2 hx2
 split at hr<;>try (cases hr;done)
 rename_i r2 j hr2 hj
 obtain ⟨hr2,-⟩:=A6y hr2
 generalize hr3:({ r2 with st:=bif j.isNone then .ready else .done,pend:=j }:LR)=r3 at hr
 generalize hσ3:setLp σ2 id r3=σ3 at hr
 injection hr with hr
 obtain ⟨o1,o2,o3,-⟩:=A0z nx (.b j.isNone) σ3 []
 rw [hr] at o1 o2 o3
 obtain ⟨l1,k1⟩:=A00 (of:=of) (n0:=nx) hm hT hK r.asg (D2 _) _ _ _ hx1
 obtain ⟨l2,k2⟩:=A00 (of:=of) (n0:=nx) hm hT hK r.body (D2 _) _ _ _ hx2
 have l3:σ2.le σ3:=by rw [← hσ3];exact ⟨L4 _ _ _,Nat.le_refl _⟩
 have l12:σ1.le (setLp σ1 id { r1 with st:=.busy }):=⟨L4 _ _ _,Nat.le_refl _⟩
 have hfit3:A0d of of' e nx σ3:=⟨fun k hk=>hro k (by rw [o2];exact hk),fun k h1 h2=>hu k h1 (by rw [o3];exact h2)⟩
 have hfit2:A0d of of' e nx σ2:=hfit3.mono l3
 have hfit1':A0d of of' e nx (setLp σ1 id { r1 with st:=.busy }):=hfit2.mono l2
 have hfit1:A0d of of' e nx σ1:=hfit1'.mono l12
 have hid':of' id=of id:=hfit1.rd id (l1.1 id (by simp))
 have hov:∀ (σ:St),B5 σ.ob of' id=B5 σ.ob of id:=fun σ=>by
  unfold B5;rw [hid']
 obtain ⟨g1,g2,b',tm,df,fn,g3,g4,g5,g6⟩:=hos.ok id _ (hid'.trans hofid)
 rw [hι] at g3;cases g3
 have hlen:=hvals.get.1
 rw [D9F] at hlen
 have hsz:vals.size=r.ps.size:=by omega
 obtain ⟨a1,a2⟩:=C2a r.ps.toList args vals.toList r.sl tm hvals (by rw [D9F];exact hc1) hc2 g5 (fun t=>by
  rcases B89 r.sl t with h | ⟨p,h1,h2,h3⟩
  ·rw [h];trivial
  ·subst h2;rw [← h3];exact B9a (g6 p h1))
 generalize htm:(r.ps.toList.zip vals.toList).foldl (fun tmps (t,a)=>tmps.setIfInBounds t a) tm=tm1 at a1 a2
 have hyield:(Instr.yield b vals).run P e.w=.ok (.round b fn tm1 r.asg r.body) e.w:=by
  have hz:(r.ps.zip vals).foldl (fun tmps (t,a)=>tmps.setIfInBounds t a) tm=tm1:=by
   rw [← htm,← Array.toList_zip,Array.foldl_toList]
  simpa [Instr.yield,A2n g4,hsz] using hz
 refine .inr (.inr (.inr ⟨b,fn,tm1,r.asg,r.body,e.w,hyield,?_⟩))
 refine roundIn_of_wpIn trivial ?_
 show r.asg.wpIn (WF (some b)) 0 P _ { tmps:=tm1,defers:=[] } e.w
 have hsim:X1 T { c with rd:=some b } e of' nx r.nt ⟨A9Q r.ps.toList args r.sl,.e,[id],nx,none⟩ { tmps:=tm1,defers:=[] } e.w:=by
  refine ⟨e,rfl,?_,B6.le.refl e,fun id A4=>.inl A4,a2,rfl,a1⟩
  have:B5 Tr.e of'=of':=by funext id;unfold B5;rw [Tr.get_e]
  rw [this];exact hos.ctx _
 refine H9 ?_ (k1 0 of' { c with rd:=some b } e _ _ (Nat.le_refl _) hfit1 hos.ok hsim)
 rintro ex1 ac1 w1 ⟨rfl,e1,rfl,hst1⟩
 have hι1:∀ e1:B6,e.le e1→e1.ι id=some (b,0):=fun e1 hle=>by
  have h0:=hle.box _ hU hbn
  rw [(hle.obj _ hU (h0.trans hbn.symm)).1];exact hι
 obtain ⟨lr1,m1,m2,m3,m4⟩:=hst1.setLp (r':={ r1 with st:=.busy }) ((hov σ1).trans hr1) (hι1 e1 hst1.le) ⟨rfl,rfl,rfl,rfl,rfl⟩
 have hst1':=m4 _ rfl
 show ∃ w₂,(Instr.beginRound b).run P e1.w=.ok () w₂∧_
 refine ⟨{ e1.w with heap:=e1.w.heap.setIfInBounds b (.loop { lr1 with state:=.busy,pending:=r1.pend }) },?_,?_⟩
 ·have hst:lr1.state=.ready:=by
   rw [m2]
   cases hh:r1.st<;>rw [hh] at hrdy1<;>first | rfl | cases hrdy1
  simp [Instr.beginRound,A2n m1,Q7 _ m1,hst,m3]
 ·show r.body.wpIn (WF (some b)) 0 P _ ac1 _
  refine H9 ?_ (k2 0 of' { c with rd:=some b } e ac1 _ l1.2 hfit2 hos.ok ⟨_,rfl,hst1'⟩)
  rintro ex2 ac2 w2 ⟨rfl,e2,rfl,hst2⟩
  obtain ⟨lr2,n1,n2,n3,n4⟩:=hst2.setLp (r':=r3) ((hov σ2).trans hr2) (hι1 e2 hst2.le) (by subst hr3;exact ⟨rfl,rfl,rfl,rfl,rfl⟩)
  have hst3:=n4 _ rfl
  have hend:(Instr.endRound b j).run P e2.w=.ok (.bool j.isNone) { e2.w with heap:=e2.w.heap.setIfInBounds b (.loop { lr2 with state:=r3.st,pending:=r3.pend }) }:=by
   subst hr3
   cases j<;>simp [Instr.endRound,A2n n1,Q7 _ n1]
  have hleft:∃ x,Ending.returned (.bool j.isNone)=.returned x∧P7 T c e of' nx out x { e2.w with heap:=e2.w.heap.setIfInBounds b (.loop { lr2 with state:=r3.st,pending:=r3.pend }) }:=by
   refine ⟨_,rfl,_,rfl,?_,hst3.le,fun k hk=>?_,?_⟩
   ·rw [hσ3] at hst3
    refine (hst3.os.unctx).sub (fun k o ho=>?_)
    rw [← hr] at ho
    exact A3T (of':=of') hos.ok hfit3.fr k o ho
   ·rw [o3]
    have:=hst3.U k hk
    rw [hσ3] at this;exact this
   ·rw [o1];exact RA.b .nil
  cases ex2 with
  | normal=>cases hj;exact ⟨_,_,hend,hleft⟩
  | ret=>cases hj;exact ⟨_,_,hend,hleft⟩
  | exit k=>cases hj;exact ⟨_,_,hend,hleft⟩
  | _=>cases hj
def A3h (P:Program) (f:Nat):Bool :=
 match P.funcs[f]? with
 | some fn=>fn.body.isSome&&!(fn.name == "runtime.NumGoroutine")
 | none=>false
theorem A8G {f:Nat} (h:A3h P f=true) (vals:Array Value) (w:World):(callFunc f vals).run P w=.ok (.enter f vals) w:=by
 unfold A3h at h
 split at h<;>try (cases h;done)
 rename_i fn hf
 simp only [D9z,Bool.not_eq_true'] at h
 have hn':¬ fn.name="runtime.NumGoroutine":=by simpa using h.2
 obtain ⟨cd,hb⟩:=D9D.1 h.1
 simp [callFunc,hf,hn',hb]
def A9R (P:Program) (T:TT) (C:Nat→Option E7) (L:Nat→Nat→A4w) (fu:Nat):Nat→KS
 | 0=>⟨fun _ _ _ _=>none,fun _ _ _ _=>none,fun _=>false⟩
 | d+1=>⟨fun f=>match C f with
  | some s=>s
  | none=>A3S P T (A9R P T C L fu d) (L f) fu f,fun id=>A0R T (A9R P T C L fu d) fu id,A3h P⟩
def B3a (P:Program) (T:TT) (C:Nat→Option E7) (L:Nat→Nat→A4w) (fu d f:Nat):E7:=(A9R P T C L fu d).f f
theorem C2b (hm:P.follows .mixedOrders=true) (hT:H2 T P) {C:Nat→Option E7} (hC:∀ f s,C f=some s→B2 P T f s) {L:Nat→Nat→A4w} (hL:∀ f n0 fn code,P.funcs[f]? = some fn→fn.body=some code→M2 P T fn.ntmps n0 (L f n0) code) {fu:Nat}:∀ d,KOK P T (A9R P T C L fu d):=by
 intro d
 induction d with
 | zero=>exact ⟨fun f c e of of' args vals nx out _ h=>(by cases h),fun id c e of of' args vals nx out b _ h=>(by cases h),fun f h=>(by cases h)⟩
 | succ d ih =>
  refine ⟨fun f=>?_,fun id=>A8F hm hT ih,fun f h=>A8G h⟩
  show B2 P T f (match C f with
   | some s=>s
   | none=>A3S P T (A9R P T C L fu d) (L f) fu f)
  split
  ·rename_i s hs;exact hC f s hs
  ·exact B4l hm hT ih (hL f)
theorem B5T (hm:P.follows .mixedOrders=true) (hT:H2 T P) {C:Nat→Option E7} (hC:∀ f s,C f=some s→B2 P T f s) {L:Nat→Nat→A4w} (hL:∀ f n0 fn code,P.funcs[f]? = some fn→fn.body=some code→M2 P T fn.ntmps n0 (L f n0) code) {fu:Nat} (d f:Nat):B2 P T f (B3a P T C L fu d f):=(C2b hm hT hC hL d).f f
variable {P:Program} {T:TT} {c:F6} {e eb:B6} {of of':Nat→Option Ob}
def A6z (T:TT):TK→TypeDesc→Bool
 | .int k,.int k'=>A34 k k'
 | .bool,.bool=>true
 | .str,.string=>true
 | .ptr e,.pointer e'=>Nat.beq e e'
 | .slice e,.slice e'=>Nat.beq e e'
 | .arr n e,.array n' e'=>Nat.beq n n'&&Nat.beq e e'
 | .struct fs,.struct gs=>B1S (gs.toList.map (·.type)) fs&&offB T fs 0 gs.toList
 | .map k e,.map k' e'=>Nat.beq k k'&&Nat.beq e e'
 | .func,.func _ _ _=>true
 | .other,.struct _=>false
 | .other,.array _ _=>false
 | .other,_=>true
 | _,_=>false
where
 offB (T:TT):List Nat→Nat→List Field→Bool
 | f::fs,off,g::gs=>Nat.beq g.offset off&&offB T fs (off+C2 T f) gs
 | [],_,[]=>true
 | _,_,_=>false
theorem B5U:∀ (fs:List Nat) (off:Nat) (gs:List Field),A6z.offB T fs off gs=true→∀ (j:Nat) g,gs[j]? = some g→g.offset=off+szs T (fs.take j):=by
 intro fs
 induction fs with
 | nil =>
  intro off gs h j g hg
  cases gs with
  | nil=>simp at hg
  | cons g gs=>simp [A6z.offB] at h
 | cons f fs ih =>
  intro off gs h j g hg
  cases gs with
  | nil=>simp [A6z.offB] at h
  | cons g0 gs =>
   simp only [A6z.offB,D9z] at h
   cases j with
   | zero=>simp only [List.getElem?_cons_zero,D9B] at hg;subst hg;simp [szs,D9y h.1]
   | succ j=>have:=ih _ _ h.2 j g (by simpa using hg);rw [this,List.take_succ_cons,szs];omega
theorem B3b {k:TK} {d:TypeDesc} (h:A6z T k d=true):k.fits T d:=by
 cases k<;>cases d<;>simp only [A6z,TK.fits] at h ⊢<;>first | (cases h;done) | trivial | skip
 ·exact A1H h
 ·exact D9y h
 ·exact D9y h
 ·simp only [D9z] at h;exact ⟨D9y h.1,D9y h.2⟩
 ·simp only [D9z] at h
  refine ⟨B3K h.1,fun j g hg=>?_⟩
  have:=B5U _ _ _ h.2 j g (by simpa using hg)
  simpa using this
 ·simp only [D9z] at h;exact ⟨D9y h.1,D9y h.2⟩
 all_goals (constructor<;>intro _<;>intros<;>first | (intro q;cases q;done) | skip)
def rvB (T:TT):Nat→List Nat→List V→List Value→Bool
 | 0,_,_,_=>false
 | _+1,[],[],[]=>true
 | f+1,t::ts,x::xs,cs=>match C3 T t,x,cs with
  | some (.int k),.i n,.int k' m::r=>A34 k k'&&ieq n m&&B1p k n&&Nat.beq (C2 T t) 1&&rvB T f ts xs r
  | some .bool,.b q,.bool q'::r=>(q == q')&&Nat.beq (C2 T t) 1&&rvB T f ts xs r
  | some .str,.s l,.string s::r=>Nat.beq l.length 0&&Nat.beq s.data.toList.length 0&&Nat.beq (C2 T t) 1&&rvB T f ts xs r
  | some (.ptr _),.n,.pointer none::r=>Nat.beq (C2 T t) 1&&rvB T f ts xs r
  | some (.slice _),.n,.slice none 0 0::r=>Nat.beq (C2 T t) 1&&rvB T f ts xs r
  | some (.map _ _),.n,.map none::r=>Nat.beq (C2 T t) 1&&rvB T f ts xs r
  | some .func,.n,.nilFunc::r=>Nat.beq (C2 T t) 1&&rvB T f ts xs r
  | some (.arr n el),.l ys,cs=>Nat.ble (C2 T t) cs.length&&rvB T f (List.replicate n el) ys (cs.take (C2 T t))&&rvB T f ts xs (cs.drop (C2 T t))
  | some (.struct fs),.l ys,cs=>Nat.ble (C2 T t) cs.length&&rvB T f fs ys (cs.take (C2 T t))&&rvB T f ts xs (cs.drop (C2 T t))
  | _,_,_=>false
 | _+1,_,_,_=>false
theorem B9b (e:B6):∀ (f:Nat) (ts:List Nat) (xs:List V) (cs:List Value),rvB T f ts xs cs=true→RV T e ts xs cs:=by
 intro f
 induction f with
 | zero=>intro ts xs cs h;cases h
 | succ f ih =>
  intro ts xs cs h
  cases ts with
  | nil =>
   cases xs with
   | nil=>cases cs with
    | nil=>exact .nil
    | cons c cs=>simp [rvB] at h
   | cons x xs=>cases cs<;>simp [rvB] at h
  | cons t ts =>
   cases xs with
   | nil=>cases cs<;>simp [rvB] at h
   | cons x xs =>
    simp only [rvB] at h
    split at h<;>try (cases h;done)
    all_goals simp only [D9z] at h
    ·rename_i hk
     obtain ⟨⟨⟨⟨h1,h2⟩,h3⟩,h4⟩,h5⟩:=h
     have:=A1H h1;subst this
     have:=Y4.1 h2;subst this
     exact .int hk (D9y h4) (A5i h3) (ih _ _ _ h5)
    ·rename_i hk
     obtain ⟨⟨h1,h2⟩,h3⟩:=h
     have h1:=eq_of_beq h1
     subst h1
     exact .bool hk (D9y h2) (ih _ _ _ h3)
    ·rename_i l s r hk
     obtain ⟨⟨⟨h1,h2⟩,h3⟩,h4⟩:=h
     have e1:l=[]:=List.eq_nil_of_length_eq_zero (D9y h1)
     have e2:txt s=[]:=by unfold txt;rw [List.eq_nil_of_length_eq_zero (D9y h2)];rfl
     rw [e1,← e2]
     exact .str hk (D9y h3) (ih _ _ _ h4)
    ·rename_i hk;exact .ptr hk (D9y h.1) (ih _ _ _ h.2)
    ·rename_i hk;exact .nils hk (D9y h.1) (ih _ _ _ h.2)
    ·rename_i hk;exact .map hk (D9y h.1) (ih _ _ _ h.2)
    ·rename_i hk;exact .func hk (D9y h.1) (ih _ _ _ h.2)
    ·rename_i n el ys hk
     obtain ⟨⟨h1,h2⟩,h3⟩:=h
     have hl:=D9E h1
     have:=RV.arr hk (by rw [List.length_take];omega) (ih _ _ _ h2) (ih _ _ _ h3)
     rwa [List.take_append_drop] at this
    ·rename_i fs ys hk
     obtain ⟨⟨h1,h2⟩,h3⟩:=h
     have hl:=D9E h1
     have:=RV.struct hk (by rw [List.length_take];omega) (ih _ _ _ h2) (ih _ _ _ h3)
     rwa [List.take_append_drop] at this
def D3G:Value→Bool
 | .agg _=>true
 | _=>false
def eqB (P:Program) (t:Nat) (d:TypeDesc):Bool :=
 !(P.eqGuardType P.depth t)&&!(P.stoodInHeld t)&&(match d with | .struct gs=>gs.toList.all fun f=>f.name != "_" | _=>true)
def teB (P:Program) (T:TT) (t:Nat) (te:TE):Bool :=
 match P.info? t,P.underlying t with
 | some i,some d=>match i.zero with
  | some z=>Nat.beq i.size te.size&&Nat.beq i.bytes te.bytes&&A6z T te.k d&&(rvB T 1000 [t] [te.zero] z.cells.toList||!(TK.notOther te.k))&&(te.k.agg == D3G z)&&(!te.eq||eqB P t d)
  | none=>false
 | _,_=>false
theorem B9c {t:Nat} {te:TE} (h:teB P T t te=true):A1m P T t te:=by
 unfold teB at h
 split at h<;>try (cases h;done)
 rename_i i d h1 h2
 split at h<;>try (cases h;done)
 rename_i z h3
 simp only [D9z] at h
 obtain ⟨⟨⟨⟨⟨a1,a2⟩,a3⟩,a4⟩,a5⟩,a6⟩:=h
 refine ⟨⟨i,d,z,h1,h2,D9y a1,D9y a2,B3b a3,h3,?_,?_⟩,fun he=>?_⟩
 ·rw [Bool.or_eq_true] at a4
  rcases a4 with a4 | a4
  ·exact .inl fun e=>B9b e _ _ _ _ a4
  ·right;cases hk:te.k<;>rw [hk] at a4<;>first | rfl | (cases a4;done)
 ·have a5':te.k.agg=D3G z:=by simpa using a5
  rw [a5']
  cases z<;>simp [D3G]
 ·rw [he] at a6
  simp only [Bool.not_true,Bool.false_or,eqB,D9z,Bool.not_eq_true'] at a6
  obtain ⟨⟨b1,b2⟩,b3⟩:=a6
  refine ⟨b1,b2,fun gs hg f hf=>?_⟩
  rw [h2] at hg
  injection hg with hg;subst hg
  simpa using List.all_eq_true.1 b3 f hf
def B5V:List (Nat×TE)→TT
 | [],_=>none
 | (k,v)::r,t=>bif Nat.beq k t then some v else B5V r t
theorem B9d:∀ (l:List (Nat×TE)) (t:Nat) (te:TE),B5V l t=some te→(t,te)∈l:=by
 intro l
 induction l with
 | nil=>intro t te h;cases h
 | cons p r ih =>
  intro t te h
  obtain ⟨k,v⟩:=p
  simp only [B5V] at h
  cases hk:Nat.beq k t with
  | true=>rw [hk] at h;have:=D9y hk;subst this;injection h with h;subst h;simp
  | false=>rw [hk] at h;exact List.mem_cons_of_mem _ (ih _ _ h)
theorem tok {l:List (Nat×TE)} (h:(l.all fun p=>teB P (B5V l) p.1 p.2)=true):H2 (B5V l) P:=fun t te ht=>B9c (List.all_eq_true.1 h (t,te) (B9d l t te ht))
def T4 (w:World):B6:={ w:=w,ι:=fun _=>none,S:=fun b _=>b < w.heap.size,bn:=fun _=>0,U:=fun _=>False,ty:=fun _=>0,ln:=fun _=>0,G:=fun _ _=>False }
def C8A (w:World):F6:={ w0:=w,M:=fun _=>False,S0:=fun b _=>b < w.heap.size }
theorem B9e (w:World):A8 T (C8A w) (T4 w) (fun _=>none) :=
 ⟨fun _ _ h=>(by cases h),fun _ _ _ _ _ _ h=>(by cases h),fun _ _ _ h=>(by cases h),fun _ _ _ h=>False.elim h,fun _ _ h=>h,fun _ _ h=>h,fun _ _ h=>.inl h,rfl,rfl,rfl,Nat.le_refl _,fun _ _ _=>rfl,⟨fun _ _ h=>h.elim,fun _ _ _ h=>h.elim,fun _ _ h=>h.elim,fun _ _ h=>h.elim⟩⟩
def B4m (w w':World):Prop:=w'.os=w.os∧w'.output=w.output∧w.heap.size≤w'.heap.size∧∀ i,i < w.heap.size→w'.heap[i]? = w.heap[i]?
theorem B4m.kept {w w':World} (h:B4m w w') (may:MemPlace→Prop):w.keptBut w' may:=by
 refine ⟨h.1,h.2.1,fun i hi=>?_⟩
 rw [h.2.2.2 i hi]
 cases hw:w.heap[i]? with
 | none=>rfl
 | some o =>
  cases o with
  | cells c t fr=>exact ⟨rfl,rfl,rfl,fun _ _=>rfl⟩
  | map es clock=>exact .inr ⟨rfl,rfl⟩
  | _=>rfl
def D3H (b:Bool) (o:Option J7):Bool :=
 match o with
 | some f=>match f.val with
  | .b q=>q == b
  | _=>false
 | none=>false
theorem A9S {f:FuncId} {fn:Func} {code:Code} {args:List A} {b:Bool} {s:E7} (hf:P.funcs[f]? = some fn) (hb:fn.body=some code) (hn:(fn.name == "runtime.NumGoroutine")=false)
  (h:B2 P T f s) (ha:D3H b (s args (fun _=>none) 0)=true) {w:World} {vals:Array Value} (hv:Q1 T (T4 w) args vals.toList):Calls P f vals w fun en w'=>en=.returned (.bool b)∧B4m w w':=by
 have hcall:(callFunc f vals).run P w=.ok (.enter f vals) w:=by
  have hn':¬ fn.name="runtime.NumGoroutine":=by simpa using hn
  simp [callFunc,hf,hn',hb]
 unfold D3H at ha
 split at ha<;>try (cases ha;done)
 rename_i out hout
 split at ha<;>try (cases ha;done)
 rename_i q hval
 have hq:q=b:=by simpa using ha
 subst hq
 have:=h (C8A w) (T4 w) (fun _=>none) (fun _=>none) args vals 0 _ (B9e w) hout (fun _ _=>rfl) (fun _ _ _ h=>h) hv
 unfold C8 at this
 rcases this with ⟨x,w',g1,g2⟩ | ⟨w',g1,g2⟩ | ⟨f',args',w1,g1,g2⟩ | ⟨_,_,_,_,_,w1,g1,g2⟩
 ·rw [show (T4 w).w=w from rfl,hcall] at g1;cases g1
 ·rw [show (T4 w).w=w from rfl,hcall] at g1;cases g1
 ·rw [show (T4 w).w=w from rfl,hcall] at g1
  cases g1
  refine g2.mono fun en w' ⟨x,h1,e',h2,h3,h4,h5,h6⟩=>?_
  subst h2
  rw [hval] at h6
  have hx:=A0v h6
  subst hx
  exact ⟨h1,h3.os,h3.output,h3.size,fun i hi=>h3.block i hi (fun h=>h)⟩
 ·rw [show (T4 w).w=w from rfl,hcall] at g1;cases g1
variable {P:Program} {T:TT} {c:F6} {e eb:B6} {of of':Nat→Option Ob}
theorem A8H {f:FuncId} {s:E7} (h:∀ (e:B6) (args:List A) (of:Nat→Option Ob) (nx:Nat) (out:J7) (vals:List Value),s args of nx=some out→Q1 T e args vals→∃ v,out=.pv nx v []∧∀ w,∃ x,(callFunc f vals.toArray).run P w=.ok (.value x) w∧B9 T e v x):B2 P T f s:=by
 intro c e of of' as0 vals nx out hos hs hro hu hvals
 obtain ⟨v,rfl,hx⟩:=h e _ _ _ _ _ hs hvals
 obtain ⟨x,hx,hr⟩:=hx e.w
 exact H6 (.inl ⟨x,e.w,by simpa using hx,B1 hos hr⟩)
def A6A:Array Value→Sem Value:=fun args=>do
 let (x,y,b) ← Extern.MathBitsCarry.three "Sub64" args
 pure (Extern.MathBitsCarry.pair ((x+Extern.MathBitsCarry.m64 - y - b) % Extern.MathBitsCarry.m64) (if x < y+b then 1 else 0))
theorem B5W (x y b:Nat) (hb:b≤1) (w:World) :
  (A6A #[.int .u64 x,.int .u64 y,.int .u64 b]).run P w =
   .ok (.tuple #[.int .u64 (((x+18446744073709551616 - y - b) % 18446744073709551616:Nat):Int),.int .u64 ((if x < y+b then 1 else 0:Nat):Int)]) w:=by
 have:b=0∨b=1:=by omega
 rcases this with rfl | rfl<;>rfl
def A9T:E7:=fun args of nx =>
 match args with
 | [.i .u64 x,.i .u64 y,.i .u64 c]=>if M6 0 c&&M6 c 1 then some (.pv nx (.t [.i .u64 ((x+y+c) % 18446744073709551616),.i .u64 ((x+y+c) / 18446744073709551616)]) []) else none
 | _=>none
def A6B:E7:=fun args of nx =>
 match args with
 | [.i .u64 x,.i .u64 y,.i .u64 c]=>if M6 0 c&&M6 c 1 then some (.pv nx (.t [.i .u64 ((x - y - c) % 18446744073709551616),.i .u64 (bif H8 x (y+c) then 1 else 0)]) []) else none
 | _=>none
theorem C8B {a b d:A} {vals:List Value} (h:Q1 T e [a,b,d] vals):∃ x y z,vals=[x,y,z]∧B9 T e a x∧B9 T e b y∧B9 T e d z:=by
 cases h with | cons h1 h=>cases h with | cons h2 h=>cases h with | cons h3 h =>
 cases h
 exact ⟨_,_,_,rfl,h1,h2,h3⟩
theorem B9f {a b:A} {x y:Value} (ha:F0 T e a x) (hb:F0 T e b y):B9 T e (.t [a,b]) (.tuple #[x,y]):=by
 refine ⟨#[x,y],rfl,rfl,fun i v z hv hz=>?_⟩
 match i,hv,hz with
 | 0,hv,hz=>simp at hv hz;subst hv;subst hz;exact ha
 | 1,hv,hz=>simp at hv hz;subst hv;subst hz;exact hb
 | i+2,hv,hz=>simp at hv
theorem B3c {f:FuncId} {fn:Func} (hf:P.funcs[f]? = some fn) (hname:(fn.name == "runtime.NumGoroutine")=false) (hb:fn.body.isNone=true) (hn:Extern.findNext fn=none) (he:Extern.find fn=some add64Entry):B2 P T f A9T:=by
 refine A8H fun e args of nx out vals hs hv=>?_
 unfold A9T at hs
 split at hs<;>try (cases hs;done)
 rename_i x y c
 split at hs<;>try (cases hs;done)
 rename_i hc
 simp only [D9z,N9] at hc
 injection hs with hs;subst hs
 obtain ⟨a,b,d,rfl,h1,h2,h3⟩:=C8B hv
 have r1:=T2 h1
 have r2:=T2 h2
 simp only [inR,lo,hi] at r1 r2
 rw [D3 h1,D3 h2,D3 h3]
 refine ⟨_,rfl,fun w=>⟨_,?_,B9f (L8 ?_) (L8 ?_)⟩⟩
 ·rw [run_callFunc_extern hf hname hb hn he]
  rw [run_add64 x y c r1.1 r2.1 hc.1 hc.2]
  rfl
 ·constructor<;>simp only [lo,hi]<;>omega
 ·constructor<;>simp only [lo,hi]<;>omega
theorem B1j {f:FuncId} {fn:Func} (hf:P.funcs[f]? = some fn) (hname:(fn.name == "runtime.NumGoroutine")=false) (hb:fn.body.isNone=true) (hn:Extern.findNext fn=none) (he:Extern.find fn=some A6A):B2 P T f A6B:=by
 refine A8H fun e args of nx out vals hs hv=>?_
 unfold A6B at hs
 split at hs<;>try (cases hs;done)
 rename_i x y c
 split at hs<;>try (cases hs;done)
 rename_i hc
 simp only [D9z,N9] at hc
 injection hs with hs;subst hs
 obtain ⟨a,b,d,rfl,h1,h2,h3⟩:=C8B hv
 have r1:=T2 h1
 have r2:=T2 h2
 simp only [inR,lo,hi] at r1 r2
 rw [D3 h1,D3 h2,D3 h3]
 have e2:(bif H8 x (y+c) then (1:Int) else 0)=if x < y+c then 1 else 0:=by
  by_cases hlt:x < y+c
  ·rw [K6.2 hlt,if_pos hlt];rfl
  ·have:H8 x (y+c)=false:=by rw [← Bool.not_eq_true,K6];exact hlt
   rw [this,if_neg hlt];rfl
 refine ⟨_,rfl,fun w=>?_⟩
 obtain ⟨x,rfl⟩:=Int.eq_ofNat_of_zero_le r1.1
 obtain ⟨y,rfl⟩:=Int.eq_ofNat_of_zero_le r2.1
 obtain ⟨c,rfl⟩:=Int.eq_ofNat_of_zero_le hc.1
 have e1:(((x+18446744073709551616 - y - c) % 18446744073709551616:Nat):Int)=((x:Int) - y - c) % 18446744073709551616:=by omega
 have e3:(((if x < y+c then 1 else 0:Nat)):Int)=if (x:Int) < y+c then 1 else 0:=by
  by_cases hlt:x < y+c
  ·rw [if_pos hlt,if_pos (by omega)];rfl
  ·rw [if_neg hlt,if_neg (by omega)];rfl
 refine ⟨_,?_,B9f (L8 (n:=((x:Int) - y - c) % 18446744073709551616) ?_) (L8 (n:=bif H8 (x:Int) (y+c) then (1:Int) else 0) ?_)⟩
 ·rw [run_callFunc_extern hf hname hb hn he]
  rw [B5W x y c (by omega),e2,e1,e3]
  rfl
 ·constructor<;>simp only [lo,hi]<;>omega
 ·rw [e2];split<;>constructor<;>simp [lo,hi]
end Go.Vm
end