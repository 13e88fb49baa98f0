/- What the operations of a program do, shown once for all programs; and numbers. -/
import Derived.Test.YtffgbjbmojdeeaaGreatDoorVm5
import Derived.LoopN
import Derived.RangeFuncLeaves
import Derived.OpenShut
import Derived.WalkKit
import Derived.ProofKit
import Derived.KernelRfl
import Derived.Laws.Externs
set_option linter.constructorNameAsVariable false
set_option linter.unusedVariables false
set_option linter.unusedSimpArgs false
set_option linter.unnecessarySimpa false
noncomputable section
namespace Go.Vm
open Go.RowKit
variable {P:Program} {T:TT} {c:F1} {e eb:A8} {of of':Nat→Option Ob}
def wS (E:N2):List (Nat×A) :=
 match E.dst with
 | some d=>[(d,E.val)]
 | none=>[]
def wO (E:N2):List (Nat×Option Ob):=E.wo.map fun p=>(p.1,some p.2)
def A03 {α:Type} (n:Nat) (k:Nat→α):α:=Nat.rec (k 0) (fun m _=>k (Nat.succ m)) n
theorem T4 {α:Type} (n:Nat) (k:Nat→α):A03 n k=k n:=by cases n<;>rfl
def B6y {α:Type} (i:Int) (k:Int→α):α :=
 match i with
 | .ofNat n=>A03 n fun n=>k (.ofNat n)
 | .negSucc n=>A03 n fun n=>k (.negSucc n)
theorem A6B {α:Type} (i:Int) (k:Int→α):B6y i k=k i:=by
 cases i with
 | ofNat n=>exact T4 n fun n=>k (.ofNat n)
 | negSucc n=>exact T4 n fun n=>k (.negSucc n)
def B9P {α:Type} (a:A) (k:A→α):α :=
 match a with
 | .i kd n=>B6y n fun n=>k (.i kd n)
 | .b q=>match q with
  | true=>k (.b true)
  | false=>k (.b false)
 | a=>k a
theorem B0A {α:Type} (a:A) (k:A→α):B9P a k=k a:=by
 cases a with
 | i kd n=>exact A6B n fun n=>k (.i kd n)
 | b q=>cases q<;>rfl
 | _=>rfl
def B9Q {α β:Type} (l:List β) (k:List β→α):α :=
 match l with
 | []=>k []
 | a::r=>k (a::r)
theorem B0B {α β:Type} (l:List β) (k:List β→α):B9Q l k=k l:=by cases l<;>rfl
def St.app (σ:St) (E:N2):St :=
 {sl:=match E.dst with | some d=>(d,E.val)::σ.sl | none=>σ.sl,ob:=A0b σ.ob E.wo,rd:=Y0 σ.ob E.ro σ.rd,nx:=E.hi,mks:=σ.mks }
theorem B37:∀ (l:List (Nat×Ob)) (f:Nat→Option Ob),put f l=wr f (l.map fun p=>(p.1,some p.2)):=by
 intro l
 induction l with
 | nil=>intro f;rfl
 | cons p r ih=>intro f;exact ih _
theorem A7Z (σ:St) (E:N2):D5 (σ.app E).sl=wr (D5 σ.sl) (wS E):=by
 unfold St.app wS
 cases E.dst with
 | none=>rfl
 | some d=>exact P0 _ _ _
theorem A70 (σ:St) (E:N2) (of:Nat→Option Ob):B7 (σ.app E).ob of=wr (B7 σ.ob of) (wO E):=by
 show B7 (A0b σ.ob E.wo) of=_
 rw [A0C,B37];rfl
theorem V0.step {sl:Nat→A} {U:Nat→Prop} {nt:Nat} {mk:Option (List Nat)} {a:Act} (h:V0 T c eb sl of U nt mk a e) {E:N2} {x:Value} {w':World} (hl:W2 T c e of E.lo ⟨E.val,E.wo,E.ro,E.hi⟩ x w') (hd:∀ d,E.dst=some d→d < nt) :
  ∃ e',e'.w=w'∧V0 T c eb (wr sl (wS E)) (wr of (wO E)) (fun id=>U id∨(E.lo≤id∧id < E.hi)) nt mk (a.put E.dst x) e':=by
 obtain ⟨e',q1,q2,q3,q4,q5⟩:=hl
 refine ⟨e',q1,?_⟩
 have q2':A5 T c e' (wr of (wO E)):=by
  have q2:A5 T c e' (put of E.wo):=q2
  rw [B37] at q2;exact q2
 refine ⟨q2',h.le.trans q3,fun id A7=>(q4 id A7).imp (h.U id) (fun q=>q),fun t=>?_,?_,?_⟩
 ·unfold wS
  cases hdst:E.dst with
  | none=>exact (h.sl t).mono q3
  | some d =>
   have hdl:d < a.tmps.size:=by rw [h.nt];exact hd d hdst
   show B3 T e' (D3 sl d E.val t) ((a.tmps.setIfInBounds d x).getD t undef)
   by_cases ht:t=d
   ·subst ht
    rw [upd_same]
    have:(a.tmps.setIfInBounds t x).getD t undef=x:=by simp [hdl]
    rw [this];exact q5
   ·rw [A3 _ _ ht]
    have:(a.tmps.setIfInBounds d x).getD t undef=a.tmps.getD t undef:=by simp [Array.getElem?_setIfInBounds_ne (Ne.symm ht)]
    rw [this];exact (h.sl t).mono q3
 ·cases E.dst<;>exact h.def_.mono q3
 ·cases E.dst with
  | none=>exact h.nt
  | some d=>show (a.tmps.setIfInBounds d x).size=nt;rw [Array.size_setIfInBounds];exact h.nt
def A1M (nt:Nat) (o:Oper):Bool :=
 match o.dst with
 | some d=>Nat.blt d nt
 | none=>true
def E9 (T:TT) (K:KS) (ops:Array Oper) (of:Nat→Option Ob):List Oper→St→Option (List N2×St)
 | [],σ=>some ([],σ)
 | o::r,σ =>
  match X0 T K ops (D5 σ.sl) (B7 σ.ob of) σ.nx o with
  | some E=>B9P E.val fun v=>A03 E.hi fun h=>B9Q (Y0 σ.ob E.ro σ.rd) fun rd =>
   match E9 T K ops of r { sl:=match E.dst with | some d=>(d,v)::σ.sl | none=>σ.sl,ob:=A0b σ.ob E.wo,rd:=rd,nx:=h,mks:=σ.mks } with
   | some (Es,σ')=>some ({ E with val:=v,hi:=h }::Es,σ')
   | none=>none
  | none=>none
theorem W0 {K:KS} {ops:Array Oper} {of:Nat→Option Ob} {o:Oper} {r:List Oper} {σ:St}:E9 T K ops of (o::r) σ =
  match X0 T K ops (D5 σ.sl) (B7 σ.ob of) σ.nx o with
  | some E=>(match E9 T K ops of r (σ.app E) with
   | some (Es,σ')=>some (E::Es,σ')
   | none=>none)
  | none=>none:=by
 simp only [E9,B0A,T4,B0B]
 rfl
structure A1J (of of':Nat→Option Ob) (eb:A8) (n0:Nat) (σ:St):Prop where
 rd:∀ id∈σ.rd,of' id=of id
 fr:∀ id,n0≤id→id < σ.nx→¬ eb.U id
def St.le (σ σ':St):Prop:=(∀ id∈σ.rd,id∈σ'.rd)∧σ.nx≤σ'.nx
theorem St.le.refl (σ:St):σ.le σ:=⟨fun _ h=>h,Nat.le_refl _⟩
theorem St.le.trans {a b c:St} (h:a.le b) (k:b.le c):a.le c:=⟨fun id A7=>k.1 id (h.1 id A7),Nat.le_trans h.2 k.2⟩
theorem A1J.mono {eb:A8} {n0:Nat} {σ σ':St} (h:A1J of of' eb n0 σ') (hle:σ.le σ'):A1J of of' eb n0 σ:=⟨fun id A7=>h.rd id (hle.1 id A7),fun id h1 h2=>h.fr id h1 (Nat.lt_of_lt_of_le h2 hle.2)⟩
theorem B9R {K:KS} {ops:Array Oper} {sl:Nat→A} {o:Oper} {E:N2} {σ:St} (hr:X0 T K ops sl of σ.nx o=some E):σ.le (σ.app E):=⟨S9 _ _ _,(A0c hr).2.1⟩
theorem A0x {K:KS} {ops:Array Oper}:∀ (l:List Oper) (σ σ':St) (Es:List N2),E9 T K ops of l σ=some (Es,σ')→σ.le σ':=by
 intro l
 induction l with
 | nil=>intro σ σ' Es h;simp only [E9,C3q,Prod.mk.injEq] at h;rw [h.2];exact St.le.refl _
 | cons o r ih =>
  intro σ σ' Es h
  rw [W0] at h
  split at h<;>try (cases h;done)
  rename_i E hE
  split at h<;>try (cases h;done)
  rename_i Es' σ2 hrec
  simp only [C3q,Prod.mk.injEq] at h
  obtain ⟨-,rfl⟩:=h
  exact (B9R hE).trans (ih _ _ _ hrec)
theorem Z2 {ob:Tr} {rd ro:List Nat} {l:List Nat} (h:∀ id∈rd,of' id=of id) (hm:∀ id∈Y0 ob ro l,id∈rd):∀ id∈ro,B7 ob of' id=B7 ob of id:=by
 intro id A7
 unfold B7
 rcases B4H ob ro l id A7 with ⟨o,ho⟩ | h'
 ·rw [ho]
 ·cases ob.get id with
  | some o=>rfl
  | none=>exact h id (hm id h')
theorem B38 {rd:Option Nat} {m:Nat} (hT:F4 T P) {K:KS} (hK:KOK P T K) {ops:Array Oper} {Q:Exit→Act→World→Prop} {n0 nt:Nat}:∀ (l:List Oper) (k:Nat) (σ σ':St) (Es:List N2) (a:Act) (w:World),(∀ j,l[j]? = ops[k+j]? ∨ l.length≤j)→(∀ o∈l,A1M nt o=true) →
  E9 T K ops of l σ=some (Es,σ')→n0≤σ.nx→A1J of of' eb n0 σ'→Sim T c eb of' n0 nt σ a w→(∀ a' w',Sim T c eb of' n0 nt σ' a' w'→Q .normal a' w')→wpOpsIn (WF rd) m P ops Q (List.range' k l.length) a w:=by
 intro l
 induction l with
 | nil =>
  intro k σ σ' Es a w _ _ hr _ _ hs hQ
  simp only [E9,C3q,Prod.mk.injEq] at hr
  obtain ⟨-,rfl⟩:=hr
  exact hQ a w hs
 | cons o r ih =>
  intro k σ σ' Es a w hl hd hr hn hfit hs hQ
  have h0:ops[k]? = some o:=by
   rcases hl 0 with h | h
   ·simpa using h.symm
   ·simp at h
  rw [W0] at hr
  split at hr<;>try (cases hr;done)
  rename_i E hE
  split at hr<;>try (cases hr;done)
  rename_i Es' σ2 hrec
  simp only [C3q,Prod.mk.injEq] at hr
  obtain ⟨rfl,rfl⟩:=hr
  have hle:=A0x _ _ _ _ hrec
  obtain ⟨k1,k2,k3,k4⟩:=A0c hE
  obtain ⟨e,rfl,hst⟩:=hs
  rw [C3v,List.range'_succ,wpOpsIn_cons]
  refine A8e hT hK h0 hst.os hE (Z2 hfit.rd hle.1) (fun id h1 h2 hu=>?_) (fun t _=>hst.sl t) (fun x w' hl'=>?_)
  ·rcases hst.U id hu with h3 | h3
   ·exact hfit.fr id (by omega) (Nat.lt_of_lt_of_le h2 hle.2) h3
   ·omega
  ·obtain ⟨e',rfl,hst'⟩:=hst.step hl' (fun d hd'=>by
    have:=hd o (by simp)
    unfold A1M at this
    rw [← k3,hd'] at this
    simpa [Nat.blt_eq] using this)
   refine ih (k+1) (σ.app E) _ _ _ _ (fun j=>?_) (fun o' ho'=>hd o' (by simp [ho'])) hrec (Nat.le_trans hn k2) hfit ⟨e',rfl,?_⟩ hQ
   ·rcases hl (j+1) with h | h
    ·left;simpa [Nat.add_assoc,Nat.add_comm 1 j] using h
    ·right;simp at h;omega
   ·rw [A7Z,A70]
    refine ⟨hst'.os,hst'.le,fun id A7=>?_,hst'.sl,hst'.def_,hst'.nt⟩
    rcases hst'.U id A7 with (h1 | h1) | h1
    ·exact .inl h1
    ·exact .inr ⟨h1.1,Nat.lt_of_lt_of_le h1.2 k2⟩
    ·exact .inr ⟨by omega,h1.2⟩
theorem B39 {rd:Option Nat} {m:Nat} (hT:F4 T P) {K:KS} (hK:KOK P T K) {id:Nat} {ops:Array Oper} {Q:Exit→Act→World→Prop} {n0 nt:Nat} {σ σ':St} {Es:List N2} {a:Act} {w:World} (hd:ops.toList.all (A1M nt)=true) (hr:E9 T K ops of ops.toList σ=some (Es,σ')) (hn:n0≤σ.nx) (hfit:A1J of of' eb n0 σ')
  (hs:Sim T c eb of' n0 nt σ a w) (hQ:∀ a' w',Sim T c eb of' n0 nt σ' a' w'→Q .normal a' w'):(Code.region id ops false).wpIn (WF rd) m P Q a w:=by
 refine wpIn_region ?_
 have:=B38 (rd:=rd) (m:=m) hT hK (Q:=Q) ops.toList 0 σ σ' Es a w (fun j=>.inl (by simp)) (List.all_eq_true.1 hd) hr hn hfit hs hQ
 rwa [C3u,← List.range_eq_range'] at this
variable {P:Program} {T:TT} {c:F1} {e eb:A8} {of of':Nat→Option Ob}
def B6z (o:Oper) (acc:List Nat):Nat:=o.after.toList.foldl (fun s e=>if Region.binds .any e then s ||| 2 ^ e.on ||| acc.getD e.on 0 else s) 0
def T5:List Oper→List Nat→List Nat
 | [],acc=>acc
 | o::r,acc=>T5 r (acc++[B6z o acc])
def B1H (t:Option Nat) (l:List Nat):Bool :=
 match t with
 | some d=>mem d l
 | none=>false
def A6C (l:List (Nat×Ob)) (E:N2):Bool:=l.any fun p=>mem p.1 E.ro||mem p.1 (E.wo.map (·.1))
def A5P (a b:Option Nat):Bool :=
 match a,b with
 | some x,some y=>Nat.beq x y
 | _,_=>false
def A0Q (A B:N2):Bool:=B1H A.dst B.rs||B1H B.dst A.rs||A5P A.dst B.dst||A6C A.wo B||A6C B.wo A
def A08:Nat→List Oper→Bool
 | _,[]=>true
 | i,o::r=>o.after.toList.all (fun e=>!(Region.binds .any e)||Nat.blt e.on i)&&A08 (i+1) r
theorem A46:∀ (l:List Oper) (i:Nat),A08 i l=true→∀ q o,l[q]? = some o→∀ e∈o.after,Region.binds .any e=true→e.on < i+q:=by
 intro l
 induction l with
 | nil=>intro i _ q o h;simp at h
 | cons o0 r ih =>
  intro i h q o hq e he hb
  simp only [A08,C3o,List.all_eq_true,Bool.or_eq_true,Bool.not_eq_true'] at h
  cases q with
  | zero =>
   simp only [List.getElem?_cons_zero,C3q] at hq
   subst hq
   rcases h.1 e (Array.mem_toList_iff.2 he) with h1 | h1
   ·rw [hb] at h1;cases h1
   ·simpa [Nat.blt_eq] using h1
  | succ q=>rw [show i+(q+1)=i+1+q by omega];exact ih (i+1) h.2 q o (by simpa using hq) e he hb
theorem B1I {D:Nat→Bool} {G:Nat→Prop} (hDG:∀ j,D j=true→G j) {acc:List Nat} (hacc:∀ j,G j→∀ p,(acc.getD j 0).testBit p=true→D p=true) {o:Oper} (ho:∀ e∈o.after,Region.binds .any e=true→D e.on=true) :
  ∀ p,(B6z o acc).testBit p=true→D p=true:=by
 unfold B6z
 have key:∀ (l:List Edge) (s:Nat),(∀ e∈l,Region.binds .any e=true→D e.on=true)→(∀ p,s.testBit p=true→D p=true) →
   ∀ p,(l.foldl (fun s e=>if Region.binds .any e then s ||| 2 ^ e.on ||| acc.getD e.on 0 else s) s).testBit p=true→D p=true:=by
  intro l
  induction l with
  | nil=>intro s _ hs p h;exact hs p h
  | cons e r ih =>
   intro s hl hs p h
   simp only [List.foldl_cons] at h
   refine ih _ (fun e' he'=>hl e' (by simp [he'])) ?_ p h
   intro p hp
   split at hp
   ·rename_i hb
    have hD:=hl e (by simp) hb
    rw [Nat.testBit_or,Nat.testBit_or,Bool.or_eq_true,Bool.or_eq_true,Nat.testBit_two_pow] at hp
    rcases hp with (hp | hp) | hp
    ·exact hs p hp
    ·have:e.on=p:=by simpa using hp
     rw [← this];exact hD
    ·exact hacc _ (hDG _ hD) p hp
   ·exact hs p hp
 exact key o.after.toList 0 (fun e he=>ho e (Array.mem_toList_iff.1 he)) (fun p hp=>by simp at hp)
theorem A9w {D:Nat→Bool} {G:Nat→Prop} (hDG:∀ j,D j=true→G j):∀ (l:List Oper) (acc:List Nat),(∀ j,G j→∀ p,(acc.getD j 0).testBit p=true→D p=true) →
  (∀ q o,l[q]? = some o→G (acc.length+q)→∀ e∈o.after,Region.binds .any e=true→D e.on=true) →
  ∀ j,G j→∀ p,((T5 l acc).getD j 0).testBit p=true→D p=true:=by
 intro l
 induction l with
 | nil=>intro acc hacc _;exact hacc
 | cons o r ih =>
  intro acc hacc h
  refine ih (acc++[B6z o acc]) (fun j hj p hp=>?_) (fun q o' hq=>by have:=h (q+1) o' (by simpa using hq);rwa [C3p,C3w,show acc.length+1+q=acc.length+(q+1) by omega])
  rcases Nat.lt_trichotomy j acc.length with hlt | heq | hgt
  ·exact hacc j hj p (by rw [List.getD_eq_getElem?_getD,List.getElem?_append_left hlt,← List.getD_eq_getElem?_getD] at hp;exact hp)
  ·subst heq
   rw [List.getD_eq_getElem?_getD,List.getElem?_append_right (Nat.le_refl _),Nat.sub_self] at hp
   exact B1I hDG hacc (h 0 o rfl (by simpa using hj)) p (by simpa using hp)
  ·rw [List.getD_eq_getElem?_getD,List.getElem?_eq_none (by simp;omega)] at hp
   simp at hp
theorem A09 {K:KS} {ops:Array Oper}:∀ (l:List Oper) (σ σ':St) (Es:List N2),E9 T K ops of l σ=some (Es,σ') →
  σ'=Es.foldl St.app σ∧Es.length=l.length∧∀ (p:Nat) o,l[p]? = some o→∃ E,Es[p]? = some E∧X0 T K ops (D5 ((Es.take p).foldl St.app σ).sl) (B7 ((Es.take p).foldl St.app σ).ob of) ((Es.take p).foldl St.app σ).nx o=some E∧(((Es.take p).foldl St.app σ).app E).le σ':=by
 intro l
 induction l with
 | nil =>
  intro σ σ' Es h
  simp only [E9,C3q,Prod.mk.injEq] at h
  obtain ⟨rfl,rfl⟩:=h
  exact ⟨rfl,rfl,fun p o h=>by simp at h⟩
 | cons o r ih =>
  intro σ σ' Es h
  rw [W0] at h
  split at h<;>try (cases h;done)
  rename_i E hE
  split at h<;>try (cases h;done)
  rename_i Es' σ2 hrec
  simp only [C3q,Prod.mk.injEq] at h
  obtain ⟨rfl,rfl⟩:=h
  obtain ⟨h1,h2,h3⟩:=ih _ _ _ hrec
  refine ⟨h1,by simp [h2],fun p o' hp=>?_⟩
  cases p with
  | zero =>
   simp only [List.getElem?_cons_zero,C3q] at hp
   subst hp
   exact ⟨E,rfl,hE,A0x _ _ _ _ hrec⟩
  | succ p=>simpa using h3 p o' (by simpa using hp)
theorem A5Q:∀ (Es:List N2) (σ:St),D5 (Es.foldl St.app σ).sl=(Es.map wS).foldl wr (D5 σ.sl):=by
 intro Es
 induction Es with
 | nil=>intro σ;rfl
 | cons E r ih=>intro σ;simp only [List.foldl_cons,List.map_cons];rw [ih,A7Z]
theorem A5R (of:Nat→Option Ob):∀ (Es:List N2) (σ:St),B7 (Es.foldl St.app σ).ob of=(Es.map wO).foldl wr (B7 σ.ob of):=by
 intro Es
 induction Es with
 | nil=>intro σ;rfl
 | cons E r ih=>intro σ;simp only [List.foldl_cons,List.map_cons];rw [ih,A70]
theorem B4a {K:KS} {ops:Array Oper} {l:List Oper} {σ σ':St} {Es:List N2} (h:E9 T K ops of l σ=some (Es,σ')):∀ (p:Nat),σ.nx≤((Es.take p).foldl St.app σ).nx∧∀ q E,Es[q]? = some E→((Es.take q).foldl St.app σ).nx=E.lo∧E.lo≤E.hi∧(q < p→E.hi≤((Es.take p).foldl St.app σ).nx):=by
 obtain ⟨h1,h2,h3⟩:=A09 _ _ _ _ h
 have one:∀ q E,Es[q]? = some E→((Es.take q).foldl St.app σ).nx=E.lo∧E.lo≤E.hi∧((Es.take (q+1)).foldl St.app σ).nx=E.hi:=by
  intro q E hE
  have hq:q < l.length:=by rw [← h2];exact (List.getElem?_eq_some_iff.1 hE).1
  obtain ⟨E',g1,g2,g3⟩:=h3 q l[q] (C3A hq)
  rw [hE] at g1;cases g1
  obtain ⟨k1,k2,_⟩:=A0c g2
  refine ⟨k1.symm,by omega,?_⟩
  obtain ⟨hlt,hEq⟩:=List.getElem?_eq_some_iff.1 hE
  rw [List.take_succ_eq_append_getElem hlt,List.foldl_append,hEq]
  rfl
 have mono:∀ p,((Es.take p).foldl St.app σ).nx≤((Es.take (p+1)).foldl St.app σ).nx:=by
  intro p
  cases hp:Es[p]? with
  | none =>
   have:=List.getElem?_eq_none_iff.1 hp
   rw [List.take_of_length_le this,List.take_of_length_le (by omega)]
   exact Nat.le_refl _
  | some E=>obtain ⟨a,b,d⟩:=one p E hp;omega
 have monos:∀ d p,((Es.take p).foldl St.app σ).nx≤((Es.take (p+d)).foldl St.app σ).nx:=by
  intro d
  induction d with
  | zero=>intro p;exact Nat.le_refl _
  | succ d ih=>intro p;exact Nat.le_trans (ih p) (mono (p+d))
 intro p
 refine ⟨?_,fun q E hE=>?_⟩
 ·have:=monos p 0
  rw [Nat.zero_add] at this
  exact this
 ·obtain ⟨a,b,d⟩:=one q E hE
  refine ⟨a,b,fun hqp=>?_⟩
  have:=monos (p - (q+1)) (q+1)
  rw [show q+1+(p - (q+1))=p by omega] at this
  omega
variable {P:Program} {T:TT} {c:F1} {e eb:A8} {of of':Nat→Option Ob}
theorem A5S (A B:N2):A0Q A B=A0Q B A:=by
 unfold A0Q
 have:A5P A.dst B.dst=A5P B.dst A.dst:=by
  unfold A5P
  cases A.dst<;>cases B.dst<;>first | rfl | skip
  rename_i x y
  rw [Bool.eq_iff_iff]
  show (Nat.beq x y=true)↔(Nat.beq y x=true)
  rw [Nat.beq_eq,Nat.beq_eq]
  exact eq_comm
 rw [this,Bool.or_comm (B1H A.dst B.rs),Bool.or_right_comm (_||_) (A6C A.wo B)]
theorem B6A {A B:N2} (h:A0Q A B=false):∀ t∈B.rs,t ∉ V1 (wS A):=by
 intro t ht hk
 simp only [A0Q,Bool.or_eq_false_iff] at h
 have h1:=h.1.1.1.1
 unfold wS at hk
 unfold B1H at h1
 cases hd:A.dst with
 | none=>rw [hd] at hk;simp [V1] at hk
 | some d =>
  rw [hd] at hk h1
  simp only [V1,List.map_cons,List.map_nil,List.mem_singleton] at hk
  subst hk
  simp only [] at h1
  rw [mem_iff.2 ht] at h1;cases h1
theorem B6B {A B:N2} (h:A0Q A B=false):∀ t,t∈V1 (wS A)→t ∉ V1 (wS B):=by
 intro t hA hB
 simp only [A0Q,Bool.or_eq_false_iff] at h
 have h1:=h.1.1.2
 unfold wS at hA hB
 unfold A5P at h1
 cases hd:A.dst with
 | none=>rw [hd] at hA;simp [V1] at hA
 | some d =>
  cases hd':B.dst with
  | none=>rw [hd'] at hB;simp [V1] at hB
  | some d' =>
   rw [hd] at hA h1
   rw [hd'] at hB h1
   simp only [V1,List.map_cons,List.map_nil,List.mem_singleton] at hA hB
   subst hA;subst hB
   simp at h1
theorem A6D (A:N2) (t:Nat):t∈V1 (wO A)↔∃ p∈A.wo,p.1=t:=by
 simp [V1,wO]
theorem B6C {A B:N2} (h:A0Q A B=false):∀ t∈B.ro,t ∉ V1 (wO A):=by
 intro t ht hk
 simp only [A0Q,Bool.or_eq_false_iff] at h
 have h1:=h.1.2
 obtain ⟨p,hp,rfl⟩:=(A6D A t).1 hk
 unfold A6C at h1
 rw [List.any_eq_false] at h1
 have:=h1 p hp
 simp only [Bool.or_eq_true,mem_iff,not_or] at this
 exact this.1 ht
theorem B6D {A B:N2} (h:A0Q A B=false):∀ t,t∈V1 (wO A)→t ∉ V1 (wO B):=by
 intro t hA hB
 simp only [A0Q,Bool.or_eq_false_iff] at h
 have h1:=h.1.2
 obtain ⟨p,hp,rfl⟩:=(A6D A t).1 hA
 obtain ⟨q,hq,hqp⟩:=(A6D B p.1).1 hB
 unfold A6C at h1
 rw [List.any_eq_false] at h1
 have:=h1 p hp
 simp only [Bool.or_eq_true,mem_iff,not_or] at this
 exact this.2 (List.mem_map.2 ⟨q,hq,hqp⟩)
def left (D:Nat→Bool) (n:Nat):Nat:=((List.range n).filter fun j=>!D j).length
theorem B0C {D:Nat→Bool} {n i:Nat} (hi:i < n) (hD:D i=false):left (fun j=>j == i||D j) n < left D n:=by
 unfold left
 have key:∀ (l:List Nat),(l.filter fun j=>!(j == i||D j)).length≤(l.filter fun j=>!D j).length∧(i∈l→(l.filter fun j=>!(j == i||D j)).length < (l.filter fun j=>!D j).length):=by
  intro l
  induction l with
  | nil=>simp
  | cons k r ih =>
   by_cases hk:k=i
   ·subst hk
    simp only [beq_self_eq_true,Bool.true_or,Bool.not_true,Bool.false_eq_true,not_false_eq_true,List.filter_cons_of_neg,hD,Bool.not_false,List.filter_cons_of_pos,C3v]
    refine ⟨by omega,fun _=>by omega⟩
   ·have hb:(k == i)=false:=by simpa using hk
    cases hDk:D k
    ·simp only [List.filter_cons,hb,hDk,Bool.false_or,Bool.not_false,if_true,C3v]
     refine ⟨by omega,fun h=>?_⟩
     rcases List.mem_cons.1 h with h | h
     ·exact absurd h.symm hk
     ·have:=ih.2 h;omega
    ·simp only [List.filter_cons,hb,hDk,Bool.or_true,Bool.not_true,Bool.false_eq_true,if_false]
     refine ⟨ih.1,fun h=>?_⟩
     rcases List.mem_cons.1 h with h | h
     ·exact absurd h.symm hk
     ·exact ih.2 h
 exact (key _).2 (List.mem_range.2 hi)
theorem A4h {listed:Array Bool} {i:Nat} (h:i < listed.size):listed.getD i true=listed.getD i false:=by simp [h]
theorem B4b:∀ (Es:List N2) (σ:St),(Es.foldl St.app σ).mks=σ.mks:=by
 intro Es
 induction Es with
 | nil=>intro σ;rfl
 | cons E r ih=>intro σ;exact ih _
theorem B4c {rd:Option Nat} {m:Nat} (hT:F4 T P) {K:KS} (hK:KOK P T K) {ops:Array Oper} {Q:Exit→Act→World→Prop} {n0 nt:Nat} {σ σ':St} {Es:List N2} (hd:∀ o∈ops.toList,A1M nt o=true) (hr:E9 T K ops of ops.toList σ=some (Es,σ')) (hn:n0≤σ.nx) (hfit:A1J of of' eb n0 σ') (hcb:A08 0 ops.toList=true) (hchk:∀ (p q:Nat) (A B:N2),q < p→Es[p]? = some B→Es[q]? = some A→A0Q A B=true→((T5 ops.toList []).getD p 0).testBit q=true)
  (hQ:∀ a' w',Sim T c eb of' n0 nt σ' a' w'→Q .normal a' w'):∀ (fuel:Nat) (listed:Array Bool) (D:Nat→Bool) (a:Act) (e:A8),listed.size=ops.size→(∀ j,j < ops.size→D j=listed.getD j false)→(∀ j,ops.size≤j→D j=false)→left D ops.size≤fuel →
   (∀ j o,D j=true→ops[j]? = some o→∀ e∈o.after,Region.binds .any e=true→D e.on=true) →
   V0 T c eb (M1 D 0 (Es.map wS) (D5 σ.sl)) (M1 D 0 (Es.map wO) (B7 σ.ob of')) (fun id=>eb.U id∨(n0≤id∧id < σ.nx)∨∃ j E,D j=true∧Es[j]? = some E∧E.lo≤id∧id < E.hi) nt σ.mks a e →
   wpAnyIn (WF rd) m P .any ops Q fuel listed a e.w:=by
 obtain ⟨hσ,hlen0,hent⟩:=A09 _ _ _ _ hr
 have hnx:=B4a hr
 have hlen:Es.length=ops.size:=by rw [hlen0,C3u]
 have hback:=A46 _ _ hcb
 have hopl:∀ j:Nat,ops.toList[j]? = ops[j]? := fun j=>Array.getElem?_toList
 have fin:∀ (D:Nat→Bool) (a:Act) (e:A8),(∀ j,j < ops.size→D j=true)→V0 T c eb (M1 D 0 (Es.map wS) (D5 σ.sl)) (M1 D 0 (Es.map wO) (B7 σ.ob of')) (fun id=>eb.U id∨(n0≤id∧id < σ.nx)∨∃ j E,D j=true∧Es[j]? = some E∧E.lo≤id∧id < E.hi) nt σ.mks a e→Q .normal a e.w:=by
  intro D a e hall hst
  refine hQ _ _ ⟨e,rfl,?_⟩
  have e1:M1 D 0 (Es.map wS) (D5 σ.sl)=D5 σ'.sl:=by
   rw [hσ,A5Q,W3 (D':=fun j=>decide (j < 0+Es.length)) _ _ _ (fun q hq=>by
    rw [C3r] at hq
    rw [Nat.zero_add,hall q (by omega)];simp;omega),Y1,List.take_of_length_le (by simp)]
  have e2:M1 D 0 (Es.map wO) (B7 σ.ob of')=B7 σ'.ob of':=by
   rw [hσ,A5R,W3 (D':=fun j=>decide (j < 0+Es.length)) _ _ _ (fun q hq=>by
    rw [C3r] at hq
    rw [Nat.zero_add,hall q (by omega)];simp;omega),Y1,List.take_of_length_le (by simp)]
  rw [e1,e2] at hst
  refine ⟨hst.os,hst.le,fun id A7=>?_,hst.sl,by rw [hσ,B4b];exact hst.def_,hst.nt⟩
  rw [hσ]
  have hlast:=hnx Es.length
  rw [List.take_length] at hlast
  rcases hst.U id A7 with h1 | h1 | ⟨j,E,-,hE,hid',hid2⟩
  ·exact .inl h1
  ·exact .inr ⟨h1.1,Nat.lt_of_lt_of_le h1.2 hlast.1⟩
  ·obtain ⟨q1,q2,q3⟩:=hlast.2 j E hE
   have:=q3 (List.getElem?_eq_some_iff.1 hE).1
   have q4:=((hnx j).1)
   exact .inr ⟨by omega,by omega⟩
 have ready_nil:∀ (listed:Array Bool) (D:Nat→Bool),listed.size=ops.size→(∀ j,j < ops.size→D j=listed.getD j false)→Region.ready .any ops listed=[]→∀ j,j < ops.size→D j=true:=by
  intro listed D hsz hD hnil j
  induction j using Nat.strongRecOn with
  | ind j ih =>
   intro hj
   cases hDj:D j with
   | true=>rfl
   | false =>
    have hmem:j∈Region.ready .any ops listed:=by
     rw [mem_ready]
     refine ⟨?_,ops[j],Array.getElem?_eq_getElem hj,fun e he hb=>?_⟩
     ·rw [A4h (by rw [hsz];exact hj),← hD j hj];exact hDj
     ·have hlt:=hback j ops[j] (by rw [hopl];exact Array.getElem?_eq_getElem hj) e he hb
      rw [Nat.zero_add] at hlt
      rw [← hD _ (by omega)]
      exact ih _ hlt (by omega)
    rw [hnil] at hmem;cases hmem
 intro fuel
 induction fuel with
 | zero =>
  intro listed D a e hsz hD hDout hleft hdown hst
  have hall:∀ j,j < ops.size→D j=true:=by
   intro j hj
   cases hDj:D j with
   | true=>rfl
   | false=>have:=B0C hj hDj;omega
  refine ⟨?_,fin D a e hall hst⟩
  cases hrd:Region.ready .any ops listed with
  | nil=>rfl
  | cons i r =>
   have hi:i∈Region.ready .any ops listed:=by rw [hrd];simp
   rw [mem_ready] at hi
   obtain ⟨h0,o,ho,-⟩:=hi
   have hlt:=(Array.getElem?_eq_some_iff.1 ho).1
   have:=hD i hlt
   rw [hall i hlt,← A4h (by rw [hsz];exact hlt),h0] at this
   cases this
 | succ fuel ih =>
  intro listed D a e hsz hD hDout hleft hdown hst
  refine ⟨fun hnil=>fin D a e (ready_nil listed D hsz hD hnil) hst,fun i hi=>?_⟩
  rw [mem_ready] at hi
  obtain ⟨h0,o,ho,hedges⟩:=hi
  have hlt:=(Array.getElem?_eq_some_iff.1 ho).1
  have hDi:D i=false:=by
   rw [hD i hlt,← A4h (by rw [hsz];exact hlt)];exact h0
  have hpreds:∀ e∈o.after,Region.binds .any e=true→D e.on=true:=fun e he hb=>by
   have hl:=hback i o (by rw [hopl];exact ho) e he hb
   rw [hD _ (by omega)];exact hedges e he hb
  obtain ⟨E,hE,hentE,hleE⟩:=hent i o (by rw [hopl];exact ho)
  obtain ⟨k1,k2,k3,k4⟩:=A0c hentE
  have hG:=A9w (D:=D) (G:=fun j=>∀ o,ops[j]? = some o→∀ e∈o.after,Region.binds .any e=true→D e.on=true) (fun j hj o ho=>hdown j o hj ho) ops.toList []
   (fun j _ p hp=>by simp at hp) (fun q o' hq hGq=>hGq o' (by simpa using hq))
  have hord:∀ q A,Es[q]? = some A→A0Q A E=true→q≠i→D q=decide (q < i):=by
   intro q A hA hcf hqi
   rcases Nat.lt_or_gt_of_ne hqi with hlt' | hgt
   ·have:=hchk i q A E hlt' hE hA hcf
    rw [hG i (fun o' ho'=>by rw [ho] at ho';cases ho';exact hpreds) q this];simp [hlt']
   ·cases hDq:D q with
    | false=>simp;omega
    | true =>
     have:=hchk q i E A hgt hA hE (by rw [A5S];exact hcf)
     have hq:q < ops.size:=by rw [← hlen];exact (List.getElem?_eq_some_iff.1 hA).1
     have:=hG q (fun o' ho'=>hdown q o' hDq ho') i this
     rw [hDi] at this;cases this
  have hreadS:∀ t∈E.rs,M1 D 0 (Es.map wS) (D5 σ.sl) t=D5 ((Es.take i).foldl St.app σ).sl t:=by
   intro t ht
   rw [A5Q,List.map_take,← Y1 _ 0]
   refine A4E _ 0 _ _ rfl (fun q l hq htl=>?_)
   rw [List.getElem?_map,Option.map_eq_some_iff] at hq
   obtain ⟨A,hA,rfl⟩:=hq
   rw [Nat.zero_add,Nat.zero_add]
   by_cases hqi:q=i
   ·subst hqi;rw [hDi];simp
   ·refine hord q A hA ?_ hqi
    cases hcf:A0Q A E with
    | true=>rfl
    | false=>exact absurd htl (B6A hcf t ht)
  have hreadO:∀ t∈E.ro,M1 D 0 (Es.map wO) (B7 σ.ob of') t=B7 ((Es.take i).foldl St.app σ).ob of' t:=by
   intro t ht
   rw [A5R,List.map_take,← Y1 _ 0]
   refine A4E _ 0 _ _ rfl (fun q l hq htl=>?_)
   rw [List.getElem?_map,Option.map_eq_some_iff] at hq
   obtain ⟨A,hA,rfl⟩:=hq
   rw [Nat.zero_add,Nat.zero_add]
   by_cases hqi:q=i
   ·subst hqi;rw [hDi];simp
   ·refine hord q A hA ?_ hqi
    cases hcf:A0Q A E with
    | true=>rfl
    | false=>exact absurd htl (B6C hcf t ht)
  have hlater:∀ q A,i < q→Es[q]? = some A→D q=true→A0Q E A=false:=by
   intro q A hq hA hDq
   cases hcf:A0Q E A with
   | false=>rfl
   | true =>
    have:=hord q A hA (by rw [A5S];exact hcf) (by omega)
    rw [hDq] at this;simp at this;omega
  have hagree:∀ id∈E.ro,B7 ((Es.take i).foldl St.app σ).ob of' id=B7 ((Es.take i).foldl St.app σ).ob of id:=Z2 hfit.rd hleE.1
  refine A8e hT hK ho hst.os hentE (fun id A7=>(hreadO id A7).trans (hagree id A7)) (fun id h1 h2 hu=>?_) (fun t ht=>by rw [← hreadS t ht];exact hst.sl t) (fun x w' hl=>?_)
  ·have hge:=(hnx i).1
   have hhi:id < σ'.nx:=Nat.lt_of_lt_of_le h2 hleE.2
   rcases hst.U id hu with h3 | h3 | ⟨j,A,hDj,hA,hid1,hid2⟩
   ·exact hfit.fr id (by omega) hhi h3
   ·omega
   ·rcases Nat.lt_trichotomy j i with hji | hji | hji
    ·have:=((hnx i).2 j A hA).2.2 hji;omega
    ·subst hji;rw [hDi] at hDj;cases hDj
    ·have q1:=((hnx j).2 j A hA).1
     have q2:=((hnx j).2 i E hE).2.2 hji
     omega
  ·obtain ⟨e',rfl,hst'⟩:=hst.step hl (fun d hd'=>by
    have:=hd o (List.mem_of_getElem? (by rw [hopl];exact ho))
    unfold A1M at this
    rw [← k3,hd'] at this
    simpa [Nat.blt_eq] using this)
   refine ih (listed.setIfInBounds i true) (fun j=>j == i||D j) _ e' (by simp [hsz]) (fun j hj=>?_) (fun j hj=>?_) (by have:=B0C hlt hDi;omega) (fun j o' hj ho' e he hb=>?_) ?_
   ·by_cases hji:j=i
    ·subst hji;simp [Array.getD,hsz,hj]
    ·rw [getD_set_ne false (Ne.symm hji),← hD j hj];simp [hji]
   ·have:j≠i:=by omega
    simp [this,hDout j hj]
   ·simp only [Bool.or_eq_true,beq_iff_eq] at hj ⊢
    right
    rcases hj with rfl | hj
    ·rw [ho] at ho';cases ho';exact hpreds e he hb
    ·exact hdown j o' hj ho' e he hb
   ·have f1:=A2w (D:=D) (Es.map wS) 0 i (D5 σ.sl) (wS E) (by rw [List.getElem?_map,hE];rfl) (by rw [Nat.zero_add];exact hDi) (fun q l' hq hl' hDq=>by
     rw [List.getElem?_map,Option.map_eq_some_iff] at hl'
     obtain ⟨A,hA,rfl⟩:=hl'
     rw [Nat.zero_add] at hDq
     exact B6B (hlater q A hq hA hDq))
    have f2:=A2w (D:=D) (Es.map wO) 0 i (B7 σ.ob of') (wO E) (by rw [List.getElem?_map,hE];rfl) (by rw [Nat.zero_add];exact hDi) (fun q l' hq hl' hDq=>by
     rw [List.getElem?_map,Option.map_eq_some_iff] at hl'
     obtain ⟨A,hA,rfl⟩:=hl'
     rw [Nat.zero_add] at hDq
     exact B6D (hlater q A hq hA hDq))
    simp only [Nat.zero_add] at f1 f2
    rw [f1,f2]
    refine ⟨hst'.os,hst'.le,fun id A7=>?_,hst'.sl,hst'.def_,hst'.nt⟩
    rcases hst'.U id A7 with (h1 | h1 | ⟨j,A,hDj,hA,hid'⟩) | h1
    ·exact .inl h1
    ·exact .inr (.inl h1)
    ·exact .inr (.inr ⟨j,A,by simp [hDj],hA,hid'⟩)
    ·exact .inr (.inr ⟨i,E,by simp,hE,h1⟩)
variable {P:Program} {T:TT} {c:F1} {e eb:A8} {of of':Nat→Option Ob}
def B6E {α:Type} (cf:α→α→Bool) (B:α) (m:Nat):List α→Nat→Bool
 | [],_=>true
 | A::r,j=>(!(cf A B)||m.testBit j)&&B6E cf B m r (j+1)
def B6F {α:Type} (cf:α→α→Bool) (Es:List α) (ms:List Nat):Nat→List α→Bool
 | _,[]=>true
 | i,B::r=>B6E cf B (ms.getD i 0) (Es.take i) 0&&B6F cf Es ms (i+1) r
theorem B1J {α:Type} {cf:α→α→Bool} {B:α} {m:Nat}:∀ (l:List α) (j:Nat),B6E cf B m l j=true→∀ (q:Nat) A,l[q]? = some A→cf A B=true→m.testBit (j+q)=true:=by
 intro l
 induction l with
 | nil=>intro j _ q A h;simp at h
 | cons A0 r ih =>
  intro j h q A hq hc
  simp only [B6E,C3o,Bool.or_eq_true,Bool.not_eq_true'] at h
  cases q with
  | zero =>
   simp only [List.getElem?_cons_zero,C3q] at hq
   subst hq
   rcases h.1 with h1 | h1
   ·rw [hc] at h1;cases h1
   ·exact h1
  | succ q=>rw [show j+(q+1)=j+1+q by omega];exact ih (j+1) h.2 q A (by simpa using hq) hc
theorem B1K {α:Type} {cf:α→α→Bool} {Es:List α} {ms:List Nat}:∀ (l:List α) (i:Nat),(∀ q:Nat,l[q]? = Es[i+q]?)→B6F cf Es ms i l=true→∀ (p q:Nat) A B,i≤p→q < p→Es[p]? = some B→Es[q]? = some A→cf A B=true→(ms.getD p 0).testBit q=true:=by
 intro l
 induction l with
 | nil =>
  intro i hl _ p q A B hip hqp hB hA _
  have:=hl (p - i)
  rw [show i+(p - i)=p by omega,hB] at this
  simp at this
 | cons B0 r ih =>
  intro i hl h p q A B hip hqp hB hA hc
  simp only [B6F,C3o] at h
  by_cases hpi:p=i
  ·subst hpi
   have h0:=hl 0
   rw [Nat.add_zero,hB,List.getElem?_cons_zero,C3q] at h0
   subst h0
   have:=B1J (Es.take p) 0 h.1 q A (by rw [List.getElem?_take_of_lt hqp];exact hA) hc
   rwa [Nat.zero_add] at this
  ·exact ih (i+1) (fun q=>by have:=hl (q+1);simpa [Nat.add_assoc,Nat.add_comm 1 q] using this) h.2 p q A B (by omega) hqp hB hA hc
def B8p (ops:Array Oper) (x y:Oper):Bool:=B1H x.dst (y.looksAt ops)||B1H y.dst (x.looksAt ops)||A5P x.dst y.dst
def A4i (nt:Nat) (ops:Array Oper):Bool:=ops.toList.all (A1M nt)&&A08 0 ops.toList&&B6F (B8p ops) ops.toList (T5 ops.toList []) 0 ops.toList
def B4d (ms:List Nat) (i j:Nat):Bool:=bif Nat.blt i j then (ms.getD j 0).testBit i else (ms.getD i 0).testBit j
def B6G (wo:List (Nat×Ob)) (i:Nat) (ms:List Nat):Nat→List N2→Bool
 | _,[]=>true
 | j,B::r=>(Nat.beq i j||!(A6C wo B)||B4d ms i j)&&B6G wo i ms (j+1) r
def A1a (ms:List Nat) (Es:List N2):Nat→List N2→Bool
 | _,[]=>true
 | i,E::r=>(match E.wo with
  | []=>true
  | q::l=>B6G (q::l) i ms 0 Es)&&A1a ms Es (i+1) r
theorem B1L {wo:List (Nat×Ob)} {i:Nat} {ms:List Nat}:∀ (l:List N2) (j:Nat),B6G wo i ms j l=true→∀ (q:Nat) B,l[q]? = some B→A6C wo B=true→i≠j+q→B4d ms i (j+q)=true:=by
 intro l
 induction l with
 | nil=>intro j _ q B h;simp at h
 | cons A0 r ih =>
  intro j h q B hq hc hne
  simp only [B6G,C3o,Bool.or_eq_true,Bool.not_eq_true'] at h
  cases q with
  | zero =>
   simp only [List.getElem?_cons_zero,C3q] at hq
   subst hq
   rcases h.1 with (h1 | h1) | h1
   ·exact absurd (C3n h1) hne
   ·rw [hc] at h1;cases h1
   ·exact h1
  | succ q=>rw [show j+(q+1)=j+1+q by omega];exact ih (j+1) h.2 q B (by simpa using hq) hc (by omega)
theorem A5T {Es:List N2} {ms:List Nat}:∀ (l:List N2) (i:Nat),(∀ q:Nat,l[q]? = Es[i+q]?)→A1a ms Es i l=true→∀ (p q:Nat) A B,i≤p→p≠q→Es[p]? = some A→Es[q]? = some B→A6C A.wo B=true→B4d ms p q=true:=by
 intro l
 induction l with
 | nil =>
  intro i hl _ p q A B hip hpq hA hB _
  have:=hl (p - i)
  rw [show i+(p - i)=p by omega,hA] at this
  simp at this
 | cons A0 r ih =>
  intro i hl h p q A B hip hpq hA hB hc
  simp only [A1a,C3o] at h
  by_cases hpi:p=i
  ·subst hpi
   have h0:=hl 0
   rw [Nat.add_zero,hA,List.getElem?_cons_zero,C3q] at h0
   subst h0
   have h1:=h.1
   cases hw:A0.wo with
   | nil=>rw [hw] at hc;simp [A6C] at hc
   | cons x y =>
    rw [hw] at h1 hc
    have:=B1L Es 0 h1 q B hB hc (by omega)
    rwa [Nat.zero_add] at this
  ·exact ih (i+1) (fun q=>by have:=hl (q+1);simpa [Nat.add_assoc,Nat.add_comm 1 q] using this) h.2 p q A B (by omega) hpq hA hB hc
theorem B1M {rd:Option Nat} {m:Nat} (hm:P.follows .mixedOrders=true) (hT:F4 T P) {K:KS} (hK:KOK P T K) {ops:Array Oper} {Q:Exit→Act→World→Prop} {n0 nt:Nat} {σ σ':St} {Es:List N2} {a:Act} {w:World} (hs1:A4i nt ops=true) (hr:E9 T K ops of ops.toList σ=some (Es,σ')) (hs2:A1a (T5 ops.toList []) Es 0 Es=true)
  (hn:n0≤σ.nx) (hfit:A1J of of' eb n0 σ') (hs:Sim T c eb of' n0 nt σ a w) (hQ:∀ a' w',Sim T c eb of' n0 nt σ' a' w'→Q .normal a' w'):wpAnyIn (WF rd) m P .any ops Q ops.size (Array.replicate ops.size false) a { w with drawn:=w.drawn+1 }:=by
 simp only [A4i,C3o] at hs1
 obtain ⟨⟨hd,hb⟩,hsl⟩:=hs1
 obtain ⟨hσ,hlen0,hent⟩:=A09 _ _ _ _ hr
 have hord:∀ (p q:Nat) (A B:N2),q < p→Es[p]? = some B→Es[q]? = some A→A0Q A B=true→((T5 ops.toList []).getD p 0).testBit q=true:=by
  intro p q A B hqp hB hA hc
  have hp':p < ops.toList.length:=by rw [← hlen0];exact (List.getElem?_eq_some_iff.1 hB).1
  have hq':q < ops.toList.length:=by omega
  obtain ⟨A',gA,kA,_⟩:=hent q ops.toList[q] (C3A hq')
  obtain ⟨B',gB,kB,_⟩:=hent p ops.toList[p] (C3A hp')
  rw [hA] at gA;cases gA
  rw [hB] at gB;cases gB
  obtain ⟨_,_,a3,a4⟩:=A0c kA
  obtain ⟨_,_,b3,b4⟩:=A0c kB
  unfold A0Q at hc
  rw [Bool.or_eq_true,Bool.or_eq_true] at hc
  rcases hc with (hc | hc) | hc
  ·refine B1K ops.toList 0 (fun q=>by rw [Nat.zero_add]) hsl p q _ _ (Nat.zero_le _) hqp (C3A hp') (C3A hq') ?_
   unfold B8p
   rw [← a3,← b3,← a4,← b4];exact hc
  ·have:=A5T Es 0 (fun q=>by rw [Nat.zero_add]) hs2 q p A B (Nat.zero_le _) (by omega) hA hB hc
   unfold B4d at this
   rw [show Nat.blt q p=true from by simpa [Nat.blt_eq] using hqp] at this
   exact this
  ·have:=A5T Es 0 (fun q=>by rw [Nat.zero_add]) hs2 p q B A (Nat.zero_le _) (by omega) hB hA hc
   unfold B4d at this
   rw [show Nat.blt p q=false from by rw [← Bool.not_eq_true,Nat.blt_eq];omega] at this
   exact this
 obtain ⟨e,rfl,hst⟩:=hs
 obtain ⟨h1,h2⟩:=hst.os.same_heap (w':={ e.w with drawn:=e.w.drawn+1 }) rfl rfl rfl rfl
 refine B4c hT hK (List.all_eq_true.1 hd) hr hn hfit hb hord hQ ops.size (Array.replicate ops.size false) (fun _=>false) a { e with w:={ e.w with drawn:=e.w.drawn+1 } } (by simp) (fun j hj=>?_) (fun _ _=>rfl) ?_ (fun j o hj=>by cases hj) ?_
 ·simp [Array.getD,hj]
 ·unfold left
  have:=List.length_filter_le (fun j=>!(fun _=>false:Nat→Bool) j) (List.range ops.size)
  rwa [List.length_range] at this
 ·rw [A13 _ 0 _ (fun _ _=>rfl),A13 _ 0 _ (fun _ _=>rfl)]
  exact ⟨h1,hst.le.trans h2,fun id A7=>(hst.U id A7).imp (fun q=>q) .inl,fun t=>(hst.sl t).mono h2,hst.def_.mono h2,hst.nt⟩
theorem A71 {rd:Option Nat} {m:Nat} (hm:P.follows .mixedOrders=true) (hT:F4 T P) {K:KS} (hK:KOK P T K) {id:Nat} {ops:Array Oper} {Q:Exit→Act→World→Prop} {n0 nt:Nat} {σ σ':St} {Es:List N2} {a:Act} {w:World} (hs1:A4i nt ops=true) (hr:E9 T K ops of ops.toList σ=some (Es,σ')) (hs2:A1a (T5 ops.toList []) Es 0 Es=true)
  (hn:n0≤σ.nx) (hfit:A1J of of' eb n0 σ') (hs:Sim T c eb of' n0 nt σ a w) (hQ:∀ a' w',Sim T c eb of' n0 nt σ' a' w'→Q .normal a' w'):(Code.region id ops true).wpIn (WF rd) m P Q a w:=wpIn_region_any hm (B1M hm hT hK hs1 hr hs2 hn hfit hs hQ)
def A72 (f:Nat→Option Ob):List (Nat×Ob)→List Nat
 | []=>[]
 | (id,o)::r=>bif A4Z o then (match f id with
  | some o0=>bif A4Z o0 then A72 f r else id::A72 f r
  | none=>A72 f r) else A72 f r
def B1N (f:Nat→Option Ob):List N2→List Nat
 | []=>[]
 | E::r=>A72 f E.wo++B1N f r
def St.pre (of:Nat→Option Ob) (σ:St) (l:List Nat):St:={ σ with ob:=A0b σ.ob (shW (B7 σ.ob of) l),rd:=Y0 σ.ob l σ.rd }
theorem St.pre_le (σ:St) (l:List Nat):σ.le (σ.pre of l):=⟨S9 _ _ _,Nat.le_refl _⟩
theorem B1O {f g:Nat→Option Ob}:∀ l:List Nat,(∀ id∈l,f id=g id)→shW f l=shW g l:=by
 intro l
 induction l with
 | nil=>intro _;rfl
 | cons k r ih =>
  intro h
  simp only [shW]
  rw [h k (List.mem_cons_self ..),ih (fun id A7=>h id (List.mem_cons_of_mem _ A7))]
theorem Sim.pre {n0 nt:Nat} {σ:St} {a:Act} {w:World} (h:Sim T c eb of' n0 nt σ a w) {l:List Nat} (ho:∀ id∈(σ.pre of l).rd,of' id=of id):Sim T c eb of' n0 nt (σ.pre of l) a w:=by
 obtain ⟨e,rfl,hst⟩:=h
 have hag:∀ id∈l,B7 σ.ob of' id=B7 σ.ob of id:=Z2 (ob:=σ.ob) (l:=σ.rd) ho (fun _ h=>h)
 refine ⟨e,rfl,?_,hst.le,hst.U,hst.sl,hst.def_,hst.nt⟩
 show A5 T c e (B7 (A0b σ.ob (shW (B7 σ.ob of) l)) of')
 rw [A0C,← B1O l hag]
 exact hst.os.weak (B6X l).1
abbrev A4j:=Code→Option ((Nat→Option Ob)→St→Option (Exit×St))
def A1N:List (Nat×A)→List Nat→List Nat
 | [],ks=>ks
 | (k,_)::r,ks=>bif mem k ks then A1N r ks else A1N r (k::ks)
def A0j (l:List (Nat×A)):List Nat→List (Nat×A)
 | []=>[]
 | k::r=>(k,D5 l k)::A0j l r
def St.tidy (σ:St) (ks:List Nat):St:={ σ with sl:=A0j σ.sl ks }
theorem A5U (l:List (Nat×A)):∀ (ks:List Nat) (t:Nat),D5 (A0j l ks) t=.x∨D5 (A0j l ks) t=D5 l t:=by
 intro ks
 induction ks with
 | nil=>intro t;exact .inl rfl
 | cons k r ih =>
  intro t
  rw [A0j,P0]
  by_cases h:t=k
  ·subst h;rw [upd_same];exact .inr rfl
  ·rw [A3 _ _ h];exact ih t
theorem Sim.tidy {n0 nt:Nat} {σ:St} {a:Act} {w:World} (h:Sim T c eb of n0 nt σ a w) (ks:List Nat):Sim T c eb of n0 nt (σ.tidy ks) a w:=by
 obtain ⟨e,rfl,hst⟩:=h
 refine ⟨e,rfl,hst.os,hst.le,hst.U,fun t=>?_,hst.def_,hst.nt⟩
 rcases A5U σ.sl ks t with h | h
 ·show B3 T e (D5 (A0j σ.sl ks) t) _
  rw [h];trivial
 ·show B3 T e (D5 (A0j σ.sl ks) t) _
  rw [h];exact hst.sl t
theorem A5.writeG (h:A5 T c e of) {id:Nat} {o o':Ob} (ho:of id=some o) {b q:Nat} (hι:e.ι id=some (b,q)) {g g':Go.Obj} (h0:e.w.heap[b]? = some g) (hg:∀ cs t fz,g≠.cells cs t fz) (hg':∀ cs t fz,g'≠.cells cs t fz) {w':World} (hw:w'={ e.w with heap:=e.w.heap.setIfInBounds b g' })
  (hok:e.le { e with w:=w' }→w'.heap[b]? = some g'→OK T { e with w:=w' } id o'):A5 T c { e with w:=w' } (D3 of id (some o'))∧e.le { e with w:=w' }:=by
 have hlt:b < e.w.heap.size:=(Array.getElem?_eq_some_iff.1 h0).1
 have h1:w'.heap[b]? = some g':=by rw [hw];simp [hlt]
 have hne:∀ k,k≠b→w'.heap[k]? = e.w.heap[k]? := fun k hk=>by rw [hw];simp [Ne.symm hk]
 have hsz:w'.heap.size=e.w.heap.size:=by rw [hw];simp
 have hln:∀ k,L3 w' k=L3 e.w k:=fun k=>by
  by_cases hk':k=b
  ·subst hk'
   unfold L3
   rw [h0,h1]
   cases g<;>cases g'<;>first | rfl | exact absurd rfl (hg _ _ _) | exact absurd rfl (hg' _ _ _)
  ·exact C3 (hne _ hk')
 have hle:e.le { e with w:=w' }:=by
  refine ⟨fun k i hs=>⟨hs,fun x hx=>?_⟩,fun _ hu=>hu,fun j hu _=>⟨rfl,rfl,fun k q' hk=>hln k⟩,fun _ _ h=>h,fun _ _=>Nat.le_refl _,fun _ _=>rfl,by show _≤w'.heap.size;omega,fun k _=>hln k⟩
  by_cases hk:k=b
  ·subst hk
   exfalso
   unfold World.cell? at hx
   rw [h0] at hx
   cases g<;>first | (exact absurd rfl (hg _ _ _)) | (simp at hx;done)
  ·rw [← hx];exact C9 (hne _ hk)
 exact ⟨h.turn ho hle (fun _ _=>rfl) (fun _ _=>rfl) (fun _ hu=>hu) (fun k _ hk=>hne k (fun hkb=>hk q (by rw [hkb];exact hι))) (by show _≤w'.heap.size;omega) (fun _ _ hs=>.inl hs) (fun k q' hk=>.inl ⟨q',hk⟩) (by rw [hw]) (by rw [hw]) (by rw [hw]) (hok hle h1),hle⟩
theorem N0 {w:World} {r:Nat} {o:Go.Obj} (o':Go.Obj) (hb:w.heap[r]? = some o) (hg:∀ cs t fz,o≠.cells cs t fz:=by intro _ _ _ h;cases h):(setObj r o').run P w=.ok () { w with heap:=w.heap.setIfInBounds r o' }:=by
 cases o<;>first | exact absurd rfl (hg _ _ _) | simp [setObj,Sem.run,hb]
theorem W7 {w:World} {r:Nat} {o:Go.Obj} (hb:w.heap[r]? = some o) (hg:∀ cs t fz,o≠.cells cs t fz:=by intro _ _ _ h;cases h):(getObj r).run P w=.ok o w:=by
 cases o<;>first | exact absurd rfl (hg _ _ _) | simp [getObj,Sem.run,hb]
theorem A9x {w:World} (o:Go.Obj):(newObj o).run P w=.ok w.heap.size (w.alloc o):=by
 simp [newObj,Sem.run]
def A3e (l:List (Nat×A)):List Nat→List (Nat×A)
 | []=>[]
 | k::r=>match D5 l k with
  | .t _=>A3e l r
  | v=>(k,v)::A3e l r
theorem B1P (l:List (Nat×A)):∀ (ks:List Nat),∀ p∈A3e l ks,p.2=D5 l p.1∧∀ q,p.2≠.t q:=by
 intro ks
 induction ks with
 | nil=>intro p h;cases h
 | cons k r ih =>
  intro p h
  simp only [A3e] at h
  split at h
  ·exact ih p h
  ·rename_i hne
   rcases List.mem_cons.1 h with rfl | h
   ·exact ⟨rfl,fun q hq=>hne q hq⟩
   ·exact ih p h
def A6E (T:TT) (eb:A8) (of':Nat→Option Ob):Prop:=∀ id o,of' id=some o→OK T eb id o
def A2n (P:Program) (T:TT) (nt n0:Nat) (of:Nat→Option Ob) (code:Code) (σ:St) (ex:Exit) (σ':St):Prop :=
 σ.le σ'∧∀ (m:Nat) (of':Nat→Option Ob) (c:F1) (eb:A8) (a:Act) (w:World),n0≤σ.nx→A1J of of' eb n0 σ'→A6E T eb of'→Sim T c eb of' n0 nt σ a w→code.wpIn (WF c.rd) m P (fun e a' w'=>e=ex∧Sim T c eb of' n0 nt σ' a' w') a w
def A6F:LoopState→Bool
 | .busy=>false
 | _=>true
def A73:Option Code→Option Exit
 | none=>some .normal
 | some .ret=>some .ret
 | some (.exit k)=>some (.exit k)
 | _=>none
def A2S (T:TT) (K:KS) (nt:Nat) (of:Nat→Option Ob) (g:Operand) (ps:Array Nat) (asg body:Code) (σ:St):Option (Exit×St) :=
 match σ.mks,J9 (D5 σ.sl) g with
 | some l,.f f cap =>
  if K.ord f&&cap.all (R7 T) then
   (fun (ob1:Tr)=>match K.f f (.y (σ.nx+1)::cap) (B7 ob1 of) (σ.nx+2) with
   | some out=>if Nat.ble (σ.nx+2) out.nx then
     (fun (ob2:Tr)=>match ob2.get (σ.nx+1) with
     | some (.lp (some r))=>match A6F r.st,A73 r.pend with
      | true,some ex=>some (ex,⟨σ.sl,ob2.set (σ.nx+1) (.lp (some { r with st:=.exhausted })),Y0 ob1 out.ro σ.rd,out.nx,some (σ.nx::l)⟩)
      | _,_=>none
     | _=>none) (A0b ob1 out.wo) else none
   | none=>none) ((σ.ob.set σ.nx (.lp none)).set (σ.nx+1) (.lp (some ⟨nt,A3e σ.sl (A1N σ.sl []),ps,asg,body,.ready,none⟩)))
  else none
 | _,_=>none
theorem B1Q {v:A} {x:Value} (h:B3 T e v x) (hv:∀ l,v≠.t l):E2 T e v x:=by
 cases v with
 | t l=>exact absurd rfl (hv l)
 | _=>exact h
theorem A3F {ob:Tr} {of:Nat→Option Ob} {id:Nat} {o:Ob} (h:ob.get id=some o):B7 ob of id=some o:=by
 unfold B7;rw [h]
theorem B1R {K:KS} (hK:KOK P T K) {nt n0:Nat} {g:Operand} {ps:Array Nat} {asg body:Code} {σ:St} {ex:Exit} {σ':St} (hr:A2S T K nt of g ps asg body σ=some (ex,σ')):A2n P T nt n0 of (.rangeFunc g ps asg body) σ ex σ':=by
 unfold A2S at hr
 split at hr<;>try (cases hr;done)
 rename_i l f cap hmk hg
 split at hr<;>try (cases hr;done)
 rename_i hcc
 simp only [C3o] at hcc
 obtain ⟨hord,hcap⟩:=hcc
 generalize hlr:(⟨nt,A3e σ.sl (A1N σ.sl []),ps,asg,body,.ready,none⟩:LR)=lr at hr
 generalize hob1:(σ.ob.set σ.nx (.lp none)).set (σ.nx+1) (.lp (some lr))=ob1 at hr
 simp only at hr
 split at hr<;>try (cases hr;done)
 rename_i out hout
 split at hr<;>try (cases hr;done)
 rename_i hnx
 have hnx:=C3t hnx
 split at hr<;>try (cases hr;done)
 rename_i r hget
 split at hr<;>try (cases hr;done)
 rename_i ex' hbusy hjump
 simp only [C3q,Prod.mk.injEq] at hr
 obtain ⟨rfl,rfl⟩:=hr
 refine ⟨⟨S9 _ _ _,by show σ.nx≤out.nx;omega⟩,fun m of' c eb a w hn hfit hbs hs=>?_⟩
 obtain ⟨e,rfl,hst⟩:=hs
 have hdef:=hst.def_
 rw [hmk] at hdef
 obtain ⟨hrd,hml⟩:=hdef
 have hnu:∀ id,σ.nx≤id→id < out.nx→¬ e.U id:=fun id h1 h2 hu=>by
  rcases hst.U id hu with h3 | h3
  ·exact hfit.fr id (by omega) h2 h3
  ·omega
 have hu1:¬ e.U σ.nx:=hnu _ (Nat.le_refl _) (by omega)
 let e1:=e.newM σ.nx (.deferred (some []))
 have ok1:OK T e1 σ.nx (.lp none):=⟨.inl rfl,upd_same _ _ _,e.w.heap.size,upd_same _ _ _,J2 _ _⟩
 have os1:A5 T c e1 (D3 (B7 σ.ob of') σ.nx (some (.lp none))):=hst.os.newM hu1 ok1
 have le1:e.le e1:=hst.os.le_newM hu1 _
 have hu2:¬ e1.U (σ.nx+1):=by
  rintro (h | h)
  ·omega
  ·exact hnu _ (by omega) (by omega) h
 have hsz1:e1.w.heap.size=e.w.heap.size+1:=C6 _ _
 refine wpIn_rangeFunc (fun fn _=>?_)
 let rec_:Loop:={ state:=.ready,pending:=none,fn:=fn,tmps:=a.tmps,params:=ps,assign:=asg,body:=body,defers:=e.w.heap.size }
 let e2:=e1.newM (σ.nx+1) (.loop rec_)
 have le2:e1.le e2:=os1.le_newM hu2 _
 have le02:=le1.trans le2
 have ok2:OK T e2 (σ.nx+1) (.lp (some lr)):=by
  refine ⟨.inl rfl,upd_same _ _ _,e1.w.heap.size,a.tmps,e.w.heap.size,fn,upd_same _ _ _,?_,?_,fun p hp=>?_⟩
  ·rw [← hlr];exact J2 _ _
  ·rw [← hlr];exact hst.nt
  ·rw [← hlr] at hp
   obtain ⟨h1,h2⟩:=B1P _ _ p hp
   refine B1Q ?_ h2
   rw [h1]
   exact (hst.sl p.1).mono le02
 have os2:A5 T c e2 (B7 ob1 of'):=by
  rw [← hob1,A1i,A1i]
  exact os1.newM hu2 ok2
 have ι2:e2.ι (σ.nx+1)=some (e.w.heap.size+1,0):=by rw [← hsz1];exact upd_same _ _ _
 have hgv:=A9H (T:=T) (e:=e) (sl:=D5 σ.sl) (a:=a) (x:=g) (fun t _=>hst.sl t)
 rw [hg] at hgv
 obtain ⟨vs,hv,hvs⟩:=A57 hgv (B6Y hcap)
 have hcaps:=B0K (hvs.mono le02) hcap
 have hent:(Instr.enterLoop fn a.tmps ps asg body c.rd).run P e.w=.ok (e.w.heap.size+1,[{ target:=.collected e.w.heap.size,args:=#[] }]) e2.w:=by
  rw [hrd]
  simp only [Instr.enterLoop,Sem.run_bind,A9x,Result.andThen_ok,Sem.run_pure]
  rw [← hsz1]
  rfl
 have hyr:B3 T e2 (.y (σ.nx+1)) (.func (.yield (e.w.heap.size+1)) #[] #[]):=RA.r ⟨e.w.heap.size+1,.inl rfl,upd_same _ _ _,ι2,rfl⟩ rfl .nil
 have hdoes:=hK.f f c e2 (B7 ob1 of) (B7 ob1 of') (.y (σ.nx+1)::cap) (#[.func (.yield (e.w.heap.size+1)) #[] #[]]++vs.toArray) (σ.nx+2) out os2 hout
  (Z2 hfit.rd (fun id A7=>A7)) (fun id h1 h2=>by
   rintro (h | h | h)
   ·omega
   ·omega
   ·exact hnu id (by omega) h2 h) (by simpa using P3.cons hyr hcaps)
 have hen:=hK.ord f hord (#[.func (.yield (e.w.heap.size+1)) #[] #[]]++vs.toArray) e2.w
 have hcalls:Calls P f (#[.func (.yield (e.w.heap.size+1)) #[] #[]]++vs.toArray) e2.w fun en w'=>∃ x,en=.returned x∧W2 T c e2 (B7 ob1 of') (σ.nx+2) out x w':=by
  rcases hdoes with ⟨x,w',h1,_⟩ | ⟨w',h1,_⟩ | ⟨f',args,w1,h1,h2⟩ | ⟨_,_,_,_,_,w1,h1,_⟩
  ·rw [hen] at h1;cases h1
  ·rw [hen] at h1;cases h1
  ·rw [hen] at h1;cases h1;exact h2
  ·rw [hen] at h1;cases h1
 refine ⟨e.w.heap.size+1,[{ target:=.collected e.w.heap.size,args:=#[] }],e2.w,{ target:=.fn (.func f) vs.toArray,args:=#[.func (.yield (e.w.heap.size+1)) #[] #[]] },e2.w,f,_,e2.w,hent,?_,fun _ _=>trivial,?_,fun h=>(by cases h),CallsIn.mono (A4C hcalls) fun en w3 hw3=>?_⟩
 ·have hcst:∀ v,a.eval (.const v)=v:=fun _=>rfl
  simp [resolve,rangeCall,hv,hcst,Deferred.ofValue]
 ·simpa [Deferred.ofValue,invoke] using hen
 ·obtain ⟨x,rfl,e3,rfl,os3,le3,u3,_⟩:=hw3
  have hob2:put (B7 ob1 of') out.wo=B7 (A0b ob1 out.wo) of':=(A0C _ _ _).symm
  rw [hob2] at os3
  obtain ⟨k1,k2,b,tm,df,fn',k3,k4,k5,k6⟩:=os3.ok _ _ (A3F hget)
  have hι3:e3.ι (σ.nx+1)=some (e.w.heap.size+1,0):=by
   have:=(le3.obj (σ.nx+1) (.inl rfl) (k2.trans (upd_same _ _ _).symm)).1
   rw [this];exact ι2
  rw [hι3] at k3
  cases k3
  have hnb:r.st≠.busy:=by intro h;rw [h] at hbusy;cases hbusy
  let r4:Loop:={ state:=.exhausted,pending:=r.pend,fn:=fn',tmps:=tm,params:=r.ps,assign:=r.asg,body:=r.body,defers:=df }
  let w4:World:={ e3.w with heap:=e3.w.heap.setIfInBounds (e.w.heap.size+1) (.loop r4) }
  obtain ⟨os4,le4⟩:=os3.writeG (o':=.lp (some { r with st:=.exhausted })) (A3F hget) hι3 k4 (fun _ _ _ h=>by cases h) (g':=.loop r4) (fun _ _ _ h=>by cases h) (w':=w4) rfl
   (fun hle hh=>⟨k1,k2,e.w.heap.size+1,tm,df,fn',hι3,hh,k5,fun p hp=>(k6 p hp).mono hle⟩)
  have hend:(Instr.endLoop (e.w.heap.size+1)).run P e3.w=.ok r.pend w4:=by
   simp only [Instr.endLoop,Instr.getLoop,Sem.run_bind,W7 k4,Result.andThen_ok,Sem.run_pure,N0 _ k4]
   have:(r.st == LoopState.busy)=false:=by
    cases hrs:r.st<;>first | rfl | exact absurd hrs hnb
   simp [this,w4,r4,N0 _ k4]
  have hle04:e.le { e3 with w:=w4 }:=(le02.trans le3).trans le4
  have hsim:Sim T c eb of' n0 nt ⟨σ.sl,(A0b ob1 out.wo).set (σ.nx+1) (.lp (some { r with st:=.exhausted })),Y0 ob1 out.ro σ.rd,out.nx,some (σ.nx::l)⟩ { a with defers:=[{ target:=.collected e.w.heap.size,args:=#[] }]++a.defers } w4:=by
   refine ⟨{ e3 with w:=w4 },rfl,?_,hst.le.trans hle04,fun id A7=>?_,fun t=>(hst.sl t).mono hle04,?_,hst.nt⟩
   ·rw [A1i];exact os4
   ·rcases u3 id A7 with (h | h | h) | h
    ·subst h;exact .inr ⟨by omega,by show _ < out.nx;omega⟩
    ·subst h;exact .inr ⟨by omega,by show _ < out.nx;omega⟩
    ·rcases hst.U id h with h | h
     ·exact .inl h
     ·exact .inr ⟨h.1,by show _ < out.nx;omega⟩
    ·exact .inr ⟨by omega,h.2⟩
   ·refine ⟨hrd,.cons ?_ ?_ ?_ (hml.mono hle04)⟩
    ·exact le4.use _ (le3.use _ (.inr (.inl rfl)))
    ·have:e2.bn σ.nx=0:=by
      show D3 (D3 e.bn σ.nx 0) (σ.nx+1) 0 σ.nx=0
      rw [A3 _ _ (by omega),upd_same]
     exact le3.box _ (.inr (.inl rfl)) this
    ·have h0:e2.bn σ.nx=0:=by
      show D3 (D3 e.bn σ.nx 0) (σ.nx+1) 0 σ.nx=0
      rw [A3 _ _ (by omega),upd_same]
     have h1:=le3.box _ (.inr (.inl rfl)) h0
     have h2:=(le3.obj σ.nx (.inr (.inl rfl)) (h1.trans h0.symm)).1
     show e3.ι σ.nx=_
     rw [h2]
     show D3 (D3 e.ι σ.nx (some (e.w.heap.size,0))) (σ.nx+1) _ σ.nx=_
     rw [A3 _ _ (by omega),upd_same]
  refine ⟨r.pend,w4,hend,?_⟩
  generalize (⟨σ.sl,(A0b ob1 out.wo).set (σ.nx+1) (.lp (some { r with st:=.exhausted })),Y0 ob1 out.ro σ.rd,out.nx,some (σ.nx::l)⟩:St)=σ9 at hsim ⊢
  generalize r.pend=pd at hjump ⊢
  cases pd with
  | none =>
   simp only [A73,C3q] at hjump
   exact ⟨hjump,hsim⟩
  | some cd =>
   cases cd<;>simp only [A73,C3q] at hjump<;>try (cases hjump;done)
   ·subst hjump
    exact wpIn_exit (Q:=fun e a' w'=>e=.exit _∧Sim T c eb of' n0 nt σ9 a' w') ⟨rfl,hsim⟩
   ·subst hjump
    exact wpIn_ret (Q:=fun e a' w'=>e=.ret∧Sim T c eb of' n0 nt σ9 a' w') ⟨rfl,hsim⟩
def A1b (ks:List Nat) (f:St→Option (Exit×St)):Nat→St→Option (Exit×St)
 | 0,_=>none
 | n+1,σ=>match f (σ.tidy ks) with
  | some (.normal,σ1)=>A1b ks f n σ1
  | r=>r
def G1 (T:TT) (K:KS) (Lo:A4j) (fu nt:Nat) (of:Nat→Option Ob):Code→St→Option (Exit×St)
 | .skip,σ=>some (.normal,σ)
 | .ret,σ=>some (.ret,σ)
 | .exit id,σ=>some (.exit id,σ)
 | .region _ ops draw,σ =>
  match draw with
  | false=>if ops.toList.all (A1M nt) then (match E9 T K ops of ops.toList σ with
   | some (_,σ')=>some (.normal,σ')
   | none=>none) else none
  | true=>if A4i nt ops then (match E9 T K ops of ops.toList σ with
   | some (Es,σ')=>if A1a (T5 ops.toList []) Es 0 Es then some (.normal,σ') else
    (match E9 T K ops of ops.toList (σ.pre of (B1N (B7 σ.ob of) Es)) with
    | some (Es2,σ2)=>if A1a (T5 ops.toList []) Es2 0 Es2 then some (.normal,σ2) else none
    | none=>none)
   | none=>none) else none
 | .seq x y,σ =>
  match G1 T K Lo fu nt of x σ with
  | some (.normal,σ1)=>G1 T K Lo fu nt of y σ1
  | r=>r
 | .cond q x y,σ =>
  match J9 (D5 σ.sl) q with
  | .b true=>G1 T K Lo fu nt of x σ
  | .b false=>G1 T K Lo fu nt of y σ
  | _=>none
 | .block id body,σ =>
  match G1 T K Lo fu nt of body σ with
  | some (.exit id',σ')=>some (if Nat.beq id' id then .normal else .exit id',σ')
  | r=>r
 | .loop body,σ =>
  match Lo body with
  | some s=>s of σ
  | none=>A1b (A1N σ.sl []) (fun σ=>G1 T K Lo fu nt of body σ) fu σ
 | .rangeFunc g ps asg body,σ=>A2S T K nt of g ps asg body σ
 | _,_=>none
def K8 (P:Program) (T:TT) (nt n0:Nat) (Lo:A4j):Code→Prop
 | .seq x y=>K8 P T nt n0 Lo x∧K8 P T nt n0 Lo y
 | .cond _ x y=>K8 P T nt n0 Lo x∧K8 P T nt n0 Lo y
 | .block _ b=>K8 P T nt n0 Lo b
 | .loop b=>(∀ s,Lo b=some s→∀ of σ ex σ',s of σ=some (ex,σ')→A2n P T nt n0 of (.loop b) σ ex σ')∧K8 P T nt n0 Lo b
 | _=>True
theorem D7 {nt n0:Nat}:∀ code,K8 P T nt n0 (fun _=>none) code:=by
 intro code
 induction code with
 | seq x y ihx ihy=>exact ⟨ihx,ihy⟩
 | cond q x y ihx ihy=>exact ⟨ihx,ihy⟩
 | block id b ih=>exact ih
 | loop b ih=>exact ⟨fun s h=>(by cases h),ih⟩
 | _=>trivial
theorem Sim.cond {n0 nt:Nat} {σ:St} {a:Act} {w:World} (h:Sim T c eb of n0 nt σ a w) {q:Operand} {t:Bool} (hq:J9 (D5 σ.sl) q=.b t):a.eval q=.bool t:=by
 obtain ⟨e,rfl,hst⟩:=h
 have:=A9H (T:=T) (e:=e) (sl:=D5 σ.sl) (a:=a) (x:=q) (fun t _=>hst.sl t)
 rw [hq] at this
 exact Y4 this
theorem B1S {nt n0:Nat} {ks:List Nat} {body:Code} {f:St→Option (Exit×St)} (hf:∀ σ ex σ',f σ=some (ex,σ')→A2n P T nt n0 of body σ ex σ'):∀ (n:Nat) (σ:St) (ex:Exit) (σ':St),A1b ks f n σ=some (ex,σ') →
  σ.le σ'∧∀ (m:Nat) (of':Nat→Option Ob) (c:F1) (eb:A8) (a:Act) (w:World),n0≤σ.nx→A1J of of' eb n0 σ'→A6E T eb of'→Sim T c eb of' n0 nt σ a w→Code.roundsIn (WF c.rd) m P body (fun e a' w'=>e=ex∧Sim T c eb of' n0 nt σ' a' w') n a w:=by
 intro n
 induction n with
 | zero=>intro σ ex σ' h;cases h
 | succ n ih =>
  intro σ ex σ' h
  simp only [A1b] at h
  split at h
  ·rename_i σ1 hx
   obtain ⟨l1,k1⟩:=hf _ _ _ hx
   obtain ⟨l2,k2⟩:=ih _ _ _ h
   refine ⟨St.le.trans l1 l2,fun m of' c eb a w hn hfit hbs hs=>?_⟩
   refine Q2 ?_ (k1 m of' c eb a w hn (hfit.mono l2) hbs (hs.tidy ks))
   rintro e' a' w' ⟨rfl,hs'⟩
   exact k2 m of' c eb a' w' (Nat.le_trans hn l1.2) hfit hbs hs'
  ·rename_i r0 hne
   obtain ⟨l1,k1⟩:=hf _ _ _ h
   refine ⟨l1,fun m of' c eb a w hn hfit hbs hs=>?_⟩
   have hex:ex≠.normal:=by
    intro he;subst he;exact hne _ h
   refine Q2 ?_ (k1 m of' c eb a w hn hfit hbs (hs.tidy ks))
   rintro e' a' w' ⟨rfl,hs'⟩
   cases e' with
   | normal=>exact absurd rfl hex
   | _=>exact ⟨rfl,hs'⟩
theorem A3G (hm:P.follows .mixedOrders=true) (hT:F4 T P) {K:KS} (hK:KOK P T K) {Lo:A4j} {fu nt n0:Nat}:∀ (code:Code),K8 P T nt n0 Lo code→∀ (σ:St) (ex:Exit) (σ':St),G1 T K Lo fu nt of code σ=some (ex,σ')→A2n P T nt n0 of code σ ex σ':=by
 intro code
 induction code with
 | skip =>
  intro _ σ ex σ' h
  simp only [G1,C3q,Prod.mk.injEq] at h
  obtain ⟨rfl,rfl⟩:=h
  exact ⟨St.le.refl _,fun m of' c eb a w _ _ _ hs=>wpIn_skip ⟨rfl,hs⟩⟩
 | ret =>
  intro _ σ ex σ' h
  simp only [G1,C3q,Prod.mk.injEq] at h
  obtain ⟨rfl,rfl⟩:=h
  exact ⟨St.le.refl _,fun m of' c eb a w _ _ _ hs=>wpIn_ret ⟨rfl,hs⟩⟩
 | exit id =>
  intro _ σ ex σ' h
  simp only [G1,C3q,Prod.mk.injEq] at h
  obtain ⟨rfl,rfl⟩:=h
  exact ⟨St.le.refl _,fun m of' c eb a w _ _ _ hs=>wpIn_exit ⟨rfl,hs⟩⟩
 | region id ops draw =>
  intro _ σ ex σ' h
  simp only [G1] at h
  cases draw with
  | false =>
   simp only at h
   split at h<;>try (cases h;done)
   rename_i hd
   split at h<;>try (cases h;done)
   rename_i Es σ2 hr
   simp only [C3q,Prod.mk.injEq] at h
   obtain ⟨rfl,rfl⟩:=h
   exact ⟨A0x _ _ _ _ hr,fun m of' c eb a w hn hfit hbs hs=>B39 hT hK hd hr hn hfit hs (fun a' w' h'=>⟨rfl,h'⟩)⟩
  | true =>
   simp only at h
   split at h<;>try (cases h;done)
   rename_i hd
   split at h<;>try (cases h;done)
   rename_i Es σ2 hr
   split at h
   ·rename_i hdy
    simp only [C3q,Prod.mk.injEq] at h
    obtain ⟨rfl,rfl⟩:=h
    exact ⟨A0x _ _ _ _ hr,fun m of' c eb a w hn hfit hbs hs=>A71 hm hT hK hd hr hdy hn hfit hs (fun a' w' h'=>⟨rfl,h'⟩)⟩
   ·split at h<;>try (cases h;done)
    rename_i Es2 σ3 hr2
    split at h<;>try (cases h;done)
    rename_i hdy
    simp only [C3q,Prod.mk.injEq] at h
    obtain ⟨rfl,rfl⟩:=h
    have l2:=A0x _ _ _ _ hr2
    exact ⟨(St.pre_le _ _).trans l2,fun m of' c eb a w hn hfit hbs hs=>A71 hm hT hK hd hr2 hdy hn hfit (hs.pre (fun id A7=>hfit.rd id (l2.1 id A7))) (fun a' w' h'=>⟨rfl,h'⟩)⟩
 | seq x y ihx ihy =>
  intro hl σ ex σ' h
  simp only [G1] at h
  split at h
  ·rename_i σ1 hx
   obtain ⟨l1,k1⟩:=ihx hl.1 _ _ _ hx
   obtain ⟨l2,k2⟩:=ihy hl.2 _ _ _ h
   refine ⟨l1.trans l2,fun m of' c eb a w hn hfit hbs hs=>wpIn_seq (Q2 ?_ (k1 m of' c eb a w hn (hfit.mono l2) hbs hs))⟩
   rintro e' a' w' ⟨rfl,hs'⟩
   exact k2 m of' c eb a' w' (Nat.le_trans hn l1.2) hfit hbs hs'
  ·rename_i r0 hne
   obtain ⟨l1,k1⟩:=ihx hl.1 _ _ _ h
   have hex:ex≠.normal:=by intro he;subst he;exact hne _ h
   refine ⟨l1,fun m of' c eb a w hn hfit hbs hs=>wpIn_seq (Q2 ?_ (k1 m of' c eb a w hn hfit hbs hs))⟩
   rintro e' a' w' ⟨rfl,hs'⟩
   cases e' with
   | normal=>exact absurd rfl hex
   | _=>exact ⟨rfl,hs'⟩
 | cond q x y ihx ihy =>
  intro hl σ ex σ' h
  simp only [G1] at h
  split at h<;>try (cases h;done)
  ·rename_i hq
   obtain ⟨l1,k1⟩:=ihx hl.1 _ _ _ h
   exact ⟨l1,fun m of' c eb a w hn hfit hbs hs=>wpIn_cond (hs.cond hq) (k1 m of' c eb a w hn hfit hbs hs)⟩
  ·rename_i hq
   obtain ⟨l1,k1⟩:=ihy hl.2 _ _ _ h
   exact ⟨l1,fun m of' c eb a w hn hfit hbs hs=>wpIn_cond (hs.cond hq) (k1 m of' c eb a w hn hfit hbs hs)⟩
 | block id body ih =>
  intro hl σ ex σ' h
  simp only [G1] at h
  split at h
  ·rename_i id' σ1 hb
   obtain ⟨l1,k1⟩:=ih hl _ _ _ hb
   injection h with h;injection h with h1 h2
   subst h2
   refine ⟨l1,fun m of' c eb a w hn hfit hbs hs=>wpIn_block (Q2 ?_ (k1 m of' c eb a w hn hfit hbs hs))⟩
   rintro e' a' w' ⟨rfl,hs'⟩
   by_cases A7:id'=id
   ·subst A7
    rw [if_pos (Nat.beq_refl _)] at h1
    subst h1
    simp only [Exit.inBlock,if_true]
    exact ⟨trivial,hs'⟩
   ·rw [if_neg (fun q=>A7 (C3n q))] at h1
    subst h1
    simp only [Exit.inBlock,if_neg A7]
    exact ⟨trivial,hs'⟩
  ·rename_i r0 hne
   obtain ⟨l1,k1⟩:=ih hl _ _ _ h
   have hex:∀ id',ex≠.exit id':=by intro id' he;subst he;exact hne _ _ h
   refine ⟨l1,fun m of' c eb a w hn hfit hbs hs=>wpIn_block (Q2 ?_ (k1 m of' c eb a w hn hfit hbs hs))⟩
   rintro e' a' w' ⟨rfl,hs'⟩
   cases e' with
   | exit id'=>exact absurd rfl (hex id')
   | _=>exact ⟨rfl,hs'⟩
 | loop body ih =>
  intro hl σ ex σ' h
  simp only [G1] at h
  split at h
  ·rename_i s hs
   exact hl.1 s hs of σ ex σ' h
  ·obtain ⟨l1,k1⟩:=B1S (fun σ ex σ' h=>ih hl.2 σ ex σ' h) fu σ ex σ' h
   exact ⟨l1,fun m of' c eb a w hn hfit hbs hs=>wpIn_loop_rounds fu (k1 m of' c eb a w hn hfit hbs hs)⟩
 | rangeFunc g ps asg body _ _ =>
  intro _ σ ex σ' h
  simp only [G1] at h
  exact B1R hK h
 | _=>intro _ σ ex σ' h;simp only [G1] at h;cases h
variable {P:Program} {T:TT} {c:F1} {e eb:A8} {of of':Nat→Option Ob}
def A2T (T:TT) (sl:Nat→A) (of:Nat→Option Ob):ResultVar→Option (A×List Nat)
 | .tmp t=>match sl t with
  | .t _=>none
  | v=>some (v,[])
 | .cell a t=>match T t,sl a with
  | some te,.p id _ path=>match of id with
   | some (.box _ b _)=>match atA T b path with
    | some a1=>match H7 T t a1 with
     | some a2=>some (norm T a2,[id])
     | none=>none
    | none=>none
   | _=>none
  | _,_=>none
def A0k (T:TT) (sl:Nat→A) (of:Nat→Option Ob):List ResultVar→Option (List A×List Nat)
 | []=>some ([],[])
 | r::rs=>match A2T T sl of r with
  | some (v,p)=>match A0k T sl of rs with
   | some (l,q)=>some (v::l,p++q)
   | none=>none
  | none=>none
def A4k (T:TT) (sl:Nat→A) (of:Nat→Option Ob) (rs:List ResultVar):Option (A×List Nat) :=
 match A0k T sl of rs with
 | some (l,p)=>match l with
  | [v]=>some (v,p)
  | l=>some (.t l,p)
 | none=>none
def A6G (tmps:Array Value):ResultVar→Sem Value
 | .tmp t=>pure (tmps.getD t undef)
 | .cell a t=>do loadVar t (← asAddr (tmps.getD a undef))
theorem A4l (fn:Func) (tmps:Array Value):results fn tmps=(do let vs ← fn.results.mapM (A6G tmps);pure (if h:vs.size=1 then vs[0] else .tuple vs)):=by
 unfold results
 congr 2
theorem B4e {t:Nat} {a b:A} (h:H7 T t a=some b):∀ l,norm T b≠.t l:=by
 intro l hl
 cases b with
 | v t' y=>simp only [norm,mkA] at hl;repeat' split at hl
           all_goals cases hl
 | t l' =>
  have:=A3K h
  simp [B6] at this
 | _=>cases hl
theorem B1T (hT:F4 T P) {U:Nat→Prop} {nt:Nat} {mk:Option (List Nat)} {sl:Nat→A} {a:Act} (h:V0 T c eb sl of' U nt mk a e) {r:ResultVar} {v:A} {ro:List Nat} (hr:A2T T sl of r=some (v,ro)) (ho:∀ id∈ro,of' id=of id) :
  ∃ x,(A6G a.tmps r).run P e.w=.ok x e.w∧B3 T e v x∧∀ l,v≠.t l:=by
 cases r with
 | tmp t =>
  simp only [A2T] at hr
  split at hr<;>try (cases hr;done)
  rename_i hne
  simp only [C3q,Prod.mk.injEq] at hr
  obtain ⟨rfl,-⟩:=hr
  exact ⟨_,rfl,h.sl t,hne⟩
 | cell ad t =>
  simp only [A2T] at hr
  split at hr<;>try (cases hr;done)
  rename_i te id t' path hte hsl
  split at hr<;>try (cases hr;done)
  rename_i t0 b sh hof
  split at hr<;>try (cases hr;done)
  rename_i a1 h1
  split at hr<;>try (cases hr;done)
  rename_i a2 h2
  simp only [C3q,Prod.mk.injEq] at hr
  obtain ⟨rfl,rfl⟩:=hr
  have hx:=h.sl ad
  rw [hsl] at hx
  obtain ⟨u1,u2,u3,u4,bb,cs,ty,fz,g1,g2,g3,g4,g5,g6⟩:=Q8 h.os ((ho id (by simp)).trans hof)
  obtain ⟨b',off,_,_,k1,k2,hv⟩:=F6 hx
  rw [g1] at k1;cases k1
  rw [u3] at k2
  obtain ⟨pre,d,post,q1,q2,q3,q4,q5⟩:=R6 path g5 u4 k2 h1
  obtain ⟨r1,r2⟩:=A2X q4 h2
  obtain ⟨x,y1,y2⟩:=run_load (P:=P) hT hte r1 r2 (ad:=⟨bb,off,none⟩) (fun j y hj=>by
   rw [C2,D6 g2,q1,← q2];exact J7 hj)
  exact ⟨x,by simp only [A6G,hv,asAddr];exact y1,W5 hte y2 r2,B4e h2⟩
theorem A4m (hT:F4 T P) {U:Nat→Prop} {nt:Nat} {mk:Option (List Nat)} {sl:Nat→A} {a:Act} (h:V0 T c eb sl of' U nt mk a e):∀ (rs:List ResultVar) (l:List A) (ro:List Nat),A0k T sl of rs=some (l,ro)→(∀ id∈ro,of' id=of id) →
  ∃ xs,(rs.mapM (A6G a.tmps)).run P e.w=.ok xs e.w∧P3 T e l xs∧∀ v∈l,∀ m,v≠.t m:=by
 intro rs
 induction rs with
 | nil =>
  intro l p hr _
  simp only [A0k,C3q,Prod.mk.injEq] at hr
  obtain ⟨rfl,-⟩:=hr
  exact ⟨[],by simp,.nil,fun v hv=>by cases hv⟩
 | cons r rs ih =>
  intro l p hr ho
  simp only [A0k] at hr
  split at hr<;>try (cases hr;done)
  rename_i v p1 h1
  split at hr<;>try (cases hr;done)
  rename_i l1 q1 h2
  simp only [C3q,Prod.mk.injEq] at hr
  obtain ⟨rfl,rfl⟩:=hr
  obtain ⟨x,g1,g4,g5⟩:=B1T hT h h1 (fun id A7=>ho id (by simp [A7]))
  obtain ⟨xs,k1,k4,k5⟩:=ih _ _ h2 (fun id A7=>ho id (by simp [A7]))
  refine ⟨x::xs,by simp [List.mapM_cons,g1,k1],.cons g4 k4,fun u hu=>?_⟩
  rcases List.mem_cons.1 hu with rfl | hu
  ·exact g5
  ·exact k5 u hu
theorem B0D {v:A} {x:Value} (h:B3 T e v x) (hv:∀ l,v≠.t l):E2 T e v x:=by
 cases v with
 | t l=>exact absurd rfl (hv l)
 | _=>exact h
theorem B6H (hT:F4 T P) {U:Nat→Prop} {nt:Nat} {mk:Option (List Nat)} {sl:Nat→A} {a:Act} (fn:Func) (h:V0 T c eb sl of' U nt mk a e) {v:A} {ro:List Nat} (hr:A4k T sl of fn.results.toList=some (v,ro)) (ho:∀ id∈ro,of' id=of id) :
  ∃ x,(results fn a.tmps).run P e.w=.ok x e.w∧B3 T e v x:=by
 unfold A4k at hr
 split at hr<;>try (cases hr;done)
 rename_i l p hm
 split at hr
 ·rename_i v'
  simp only [C3q,Prod.mk.injEq] at hr
  obtain ⟨rfl,rfl⟩:=hr
  obtain ⟨xs,h1,h4,h5⟩:=A4m hT h _ _ _ hm ho
  cases h4 with
  | @cons _ x _ s hx hs =>
  cases hs
  refine ⟨x,?_,hx⟩
  rw [A4l]
  simp [Array.mapM_eq_mapM_toList,h1]
 ·rename_i hne
  simp only [C3q,Prod.mk.injEq] at hr
  obtain ⟨rfl,rfl⟩:=hr
  obtain ⟨xs,h1,h4,h5⟩:=A4m hT h _ _ _ hm ho
  obtain ⟨g1,g2⟩:=h4.get
  have hl1:l.length≠1:=by
   intro hl
   obtain ⟨v,rfl⟩:=List.length_eq_one_iff.1 hl
   exact hne v rfl
  refine ⟨.tuple xs.toArray,?_,⟨xs.toArray,rfl,by simpa using g1,fun i v x hv hx=>B0D (g2 i v x hv (by simpa using hx)) (h5 v (List.mem_of_getElem? hv))⟩⟩
  rw [A4l]
  have hx1:¬ xs.length=1:=by omega
  simp [Array.mapM_eq_mapM_toList,h1,hx1]
mutual
def B4f (n:Nat):A→Bool
 | .p id _ _=>Nat.ble n id
 | .e id _ _ _ _=>Nat.ble n id
 | .o id _=>Nat.ble n id
 | .w id _ _ _=>Nat.ble n id
 | .a id _ _ _ _=>Nat.ble n id
 | .m id=>Nat.ble n id
 | .y id=>Nat.ble n id
 | .f _ l=>B0E n l
 | .g _ l=>B0E n l
 | .t l=>B0E n l
 | _=>false
def B0E (n:Nat):List A→Bool
 | []=>false
 | a::r=>B4f n a||B0E n r
end
def C2N (n:Nat):Ob→Bool
 | .box _ a _=>B4f n a
 | .row _ _ _ _ _=>false
 | .map _ _ es=>es.any fun p=>B4f n p.2
 | .vm _ _ _=>false
 | .sm _ _ _ _ _=>false
 | .lp (some r)=>r.sl.any fun p=>B4f n p.2
 | .lp none=>false
 | .it (some m)=>Nat.ble n m
 | .it none=>false
def B8q (n:Nat) (v:A) (l:List (Nat×Ob)):Bool:=B4f n v||l.any fun p=>Nat.blt p.1 n&&C2N n p.2
def A3n (n:Nat) (v:A) (σ:St) (ro:List Nat):M8 :=
 match σ.ob.toL fun j=>j with
 | []=>⟨v,[],Y0 σ.ob ro σ.rd,σ.nx⟩
 | l=>⟨v,bif B8q n v l then l else l.filter fun p=>Nat.blt p.1 n||Nat.ble σ.nx p.1,Y0 σ.ob ro σ.rd,σ.nx⟩
def A4n:Nat→List A→List (Nat×A)
 | _,[]=>[]
 | k,v::r=>(k,v)::A4n (k+1) r
def B4g:Exit→Bool
 | .ret | .normal=>true
 | _=>false
def A1c (ms:List Nat) (f:Nat→Option Ob):Nat→Option Ob:=fun j=>if mem j ms then none else f j
def A74 (n h:Nat) (f:Nat→Option Ob):List Nat→Bool
 | []=>true
 | id::r=>(match f id with
  | some (.lp none)=>true
  | _=>false)&&Nat.ble n id&&Nat.blt id h&&!mem id r&&A74 n h f r
def A4o (ms:List Nat) (f:M8):M8 :=
 match ms with
 | []=>f
 | _=>{ f with wo:=f.wo.filter fun p=>!mem p.1 ms }
def A2o (P:Program) (T:TT) (K:KS) (Lo:Nat→A4j) (fu f:Nat):N9:=fun args of nx =>
 match P.funcs[f]? with
 | some fn=>match fn.body with
  | some code=>if !(fn.name == "runtime.NumGoroutine")&&Nat.ble args.length fn.ntmps then
    (match G1 T K (Lo nx) fu fn.ntmps of code ⟨A4n 0 args,.e,[],nx,some []⟩ with
    | some (ex,σ)=>if B4g ex then
      (match σ.mks with
      | some ms=>if A74 nx σ.nx σ.ob.get ms then
       (match A4k T (D5 σ.sl) (B7 σ.ob of) fn.results.toList with
       | some (v,ro)=>some (A4o ms (A3n nx v σ ro))
       | none=>none) else none
      | none=>none) else none
    | none=>none) else none
  | none=>none
 | none=>none
theorem B1U:∀ (l:List A) (k t:Nat),D5 (A4n k l) t=if t < k then .x else l.getD (t - k) .x:=by
 intro l
 induction l with
 | nil=>intro k t;simp [A4n,D5]
 | cons v r ih =>
  intro k t
  rw [A4n,P0,D3]
  by_cases h:t=k
  ·subst h;simp
  ·rw [if_neg h,ih (k+1) t]
   by_cases hlt:t < k
   ·rw [if_pos (by omega),if_pos hlt]
   ·rw [if_neg (by omega),if_neg hlt,show t - k=t - (k+1)+1 by omega]
    simp
theorem A4p (keep:Nat→Bool):∀ (l:List (Nat×Ob)) (f g:Nat→Option Ob) (id:Nat),f id=g id→put f (l.filter fun p=>keep p.1) id=if keep id then put g l id else f id:=by
 intro l
 induction l with
 | nil=>intro f g id h;simp only [List.filter_nil,put];split;exact h;rfl
 | cons p r ih =>
  intro f g id h
  obtain ⟨k,o⟩:=p
  by_cases hk:keep k=true
  ·rw [List.filter_cons_of_pos (by exact hk)]
   simp only [put]
   by_cases A7:id=k
   ·subst A7
    rw [ih _ (D3 g id (some o)) id (by rw [upd_same,upd_same]),if_pos hk,if_pos hk]
   ·rw [ih _ (D3 g k (some o)) id (by rw [A3 _ _ A7,A3 _ _ A7];exact h),A3 _ _ A7]
  ·rw [List.filter_cons_of_neg (by exact hk)]
   simp only [put]
   by_cases A7:id=k
   ·subst A7
    rw [ih f f id rfl,if_neg hk,if_neg hk]
   ·exact ih f _ id (by rw [A3 _ _ A7];exact h)
theorem A5.sub {of2:Nat→Option Ob} (h:A5 T c e of) (hs:∀ id o,of2 id=some o→of id=some o):A5 T c e of2:=by
 have hs':∀ id,(of2 id).isSome→(of id).isSome:=fun id h=>by
  obtain ⟨o,ho⟩:=C3s.1 h
  rw [hs _ _ ho];rfl
 exact ⟨fun id o ho=>h.ok id o (hs _ _ ho),fun i j b o b' o' hi hj=>h.sep i j b o b' o' (hs' _ hi) (hs' _ hj),fun i b o hi=>h.own i b o (hs' _ hi),h.lt,h.slt,h.s0,h.snew,h.os,h.tape,h.output,h.size,h.block,h.g.mono (fun _ _ q=>q) rfl (fun _ q=>q) (Nat.le_refl _) (fun j b o hj hb=>.inl ⟨j,o,hs' j hj,hb⟩)⟩
theorem A2U (n:Nat) (v:A) (σ:St) (ro:List Nat):(A3n n v σ ro).val=v∧(A3n n v σ ro).ro=Y0 σ.ob ro σ.rd∧(A3n n v σ ro).nx=σ.nx ∧
  ((A3n n v σ ro).wo=(σ.ob.toL fun j=>j)∨(A3n n v σ ro).wo=(σ.ob.toL fun j=>j).filter fun p=>Nat.blt p.1 n||Nat.ble σ.nx p.1):=by
 unfold A3n
 split
 ·rename_i h;rw [h];exact ⟨rfl,rfl,rfl,.inl rfl⟩
 ·cases B8q n v (σ.ob.toL fun j=>j)
  ·exact ⟨rfl,rfl,rfl,.inr rfl⟩
  ·exact ⟨rfl,rfl,rfl,.inl rfl⟩
theorem A75 {n:Nat} {v:A} {σ:St} {ro:List Nat} (hb:A6E T e of') (hf:∀ id,n≤id→id < σ.nx→¬ e.U id):∀ id o,put of' (A3n n v σ ro).wo id=some o→B7 σ.ob of' id=some o:=by
 intro id o ho
 obtain ⟨o1,o2,o3,o4⟩:=A2U n v σ ro
 rcases o4 with h4 | h4
 ·rw [h4,A0Y] at ho;exact ho
 ·rw [h4,A4p (fun k=>Nat.blt k n||Nat.ble σ.nx k) _ of' of' id rfl] at ho
  split at ho
  ·rw [A0Y] at ho;exact ho
  ·rename_i hk
   simp only [Bool.or_eq_true,Nat.blt_eq,Nat.ble_eq,not_or,Nat.not_lt,Nat.not_le] at hk
   exact absurd (hb _ _ ho).use (hf id hk.1 hk.2)
theorem B1V {n h:Nat} {f:Nat→Option Ob}:∀ (ms:List Nat),A74 n h f ms=true→(∀ id∈ms,f id=some (.lp none)∧n≤id∧id < h)∧ms.Nodup:=by
 intro ms
 induction ms with
 | nil=>intro _;exact ⟨fun _ h=>(by cases h),.nil⟩
 | cons id r ih =>
  intro hm
  simp only [A74,C3o,Bool.not_eq_true'] at hm
  obtain ⟨⟨⟨⟨h1,h2⟩,h3⟩,h4⟩,h5⟩:=hm
  obtain ⟨i1,i2⟩:=ih h5
  refine ⟨fun j hj=>?_,List.nodup_cons.2 ⟨fun q=>(by rw [mem_iff.2 q] at h4;cases h4),i2⟩⟩
  rcases List.mem_cons.1 hj with rfl | hj
  ·refine ⟨?_,C3t h2,by simpa [Nat.blt_eq] using h3⟩
   split at h1<;>first | assumption | cases h1
  ·exact i1 j hj
theorem B1W (f:Nat→Option Ob):A1c [] f=f:=by
 funext j;simp [A1c,mem]
theorem A9y {id:Nat} {r:List Nat} {f:Nat→Option Ob}:A1c r (fun j=>if j=id then none else f j)=A1c (id::r) f:=by
 funext j
 simp only [A1c,mem]
 by_cases h:j=id
 ·subst h;simp
 ·have:Nat.beq id j=false:=by
   rw [← Bool.not_eq_true];intro q;exact h (C3n q).symm
  simp [h,this]
theorem A9z (ms:List Nat) (f:M8):(A4o ms f).val=f.val∧(A4o ms f).ro=f.ro∧(A4o ms f).nx=f.nx∧∀ (of:Nat→Option Ob) id o,put of (A4o ms f).wo id=some o→(id∈ms∧of id=some o)∨(id ∉ ms∧put of f.wo id=some o):=by
 cases ms with
 | nil=>exact ⟨rfl,rfl,rfl,fun of id o h=>.inr ⟨by simp,h⟩⟩
 | cons m r =>
  refine ⟨rfl,rfl,rfl,fun of id o h=>?_⟩
  have h:put of (f.wo.filter fun p=>!mem p.1 (m::r)) id=some o:=h
  rw [A4p (fun k=>!mem k (m::r)) _ of of id rfl] at h
  by_cases hm:mem id (m::r)=true
  ·rw [hm] at h
   exact .inl ⟨mem_iff.1 hm,by simpa using h⟩
  ·rw [Bool.not_eq_true] at hm
   rw [hm] at h
   exact .inr ⟨fun q=>(by rw [mem_iff.2 q] at hm;cases hm),by simpa using h⟩
theorem A5.aside (h:A5 T c e of) {b:Nat} (hown:c.w0.heap.size≤b∨c.M b) (hno:∀ id q,(of id).isSome→e.ι id≠some (b,q)) (hnG:∀ a,¬ e.G a b) {g g':Go.Obj} (h0:e.w.heap[b]? = some g) (hg:∀ cs t fz,g≠.cells cs t fz) (hg':∀ cs t fz,g'≠.cells cs t fz) {w':World} (hw:w'={ e.w with heap:=e.w.heap.setIfInBounds b g' }) :
  A5 T c { e with w:=w' } of∧e.le { e with w:=w' }:=by
 have hlt:b < e.w.heap.size:=(Array.getElem?_eq_some_iff.1 h0).1
 have h1:w'.heap[b]? = some g':=by rw [hw];simp [hlt]
 have hne:∀ k,k≠b→w'.heap[k]? = e.w.heap[k]? := fun k hk=>by rw [hw];simp [Ne.symm hk]
 have hsz:w'.heap.size=e.w.heap.size:=by rw [hw];simp
 have hln:∀ k,L3 w' k=L3 e.w k:=fun k=>by
  by_cases hk':k=b
  ·subst hk'
   unfold L3
   rw [h0,h1]
   cases g<;>cases g'<;>first | rfl | exact absurd rfl (hg _ _ _) | exact absurd rfl (hg' _ _ _)
  ·exact C3 (hne _ hk')
 have hle:e.le { e with w:=w' }:=by
  refine ⟨fun k i hs=>⟨hs,fun x hx=>?_⟩,fun _ hu=>hu,fun j hu _=>⟨rfl,rfl,fun k q' hk=>hln k⟩,fun _ _ h=>h,fun _ _=>Nat.le_refl _,fun _ _=>rfl,by show _≤w'.heap.size;omega,fun k _=>hln k⟩
  by_cases hk:k=b
  ·subst hk
   exfalso
   unfold World.cell? at hx
   rw [h0] at hx
   cases g<;>first | (exact absurd rfl (hg _ _ _)) | (simp at hx;done)
  ·rw [← hx];exact C9 (hne _ hk)
 refine ⟨⟨fun id o ho=>(h.ok id o ho).keep hle rfl (fun k q hk=>hne k (fun hkb=>hno id q (by rw [ho];rfl) (by rw [← hkb];exact hk))) (fun _ _ _ _ hs=>hs) (fun a o' k _ hG=>⟨hG,hne k (fun hkb=>hnG a (hkb ▸ hG)),fun i hs=>hs⟩),h.sep,h.own,fun id k q hu hk=>by show k < w'.heap.size;rw [hsz];exact h.lt id k q hu hk,fun k i hs=>by show k < w'.heap.size;rw [hsz];exact h.slt k i hs,h.s0,h.snew,by show w'.os=_;rw [hw];exact h.os,by show w'.tape=_;rw [hw];exact h.tape,by show w'.output=_;rw [hw];exact h.output,by show _≤w'.heap.size;rw [hsz];exact h.size,fun k hk hm=>?_,h.g.mono (fun _ _ q=>q) rfl (fun _ q=>q) (by show _≤w'.heap.size;omega) (fun j b o hj hb=>.inl ⟨j,o,hj,hb⟩)⟩,hle⟩
 show w'.heap[k]? = _
 rw [hne k (fun hkb=>by subst hkb;rcases hown with h' | h';omega;exact hm h')]
 exact h.block k hk hm
theorem A6H {n:Nat} {fn:Func} {tmps:Array Value} {R:Ending→World→Prop}:∀ (ms:List Nat) (ds:List Deferred) (e:A8) (f:Nat→Option Ob),U9 e ms ds→(∀ id∈ms,f id=some (.lp none))→ms.Nodup→A5 T c e f →
  (∀ e',e.le e'→(∀ id,e'.U id→e.U id)→A5 T c e' (A1c ms f)→∃ v,(results fn tmps).run P e'.w=.ok v e'.w∧R (.returned v) e'.w)→LeavesInM (WF none) n P fn tmps R ds .returning e.w:=by
 intro ms
 induction ms with
 | nil =>
  intro ds e f hm _ _ hos h
  cases hm
  rw [LeavesInM,LeavesIn]
  exact h e (A8.le.refl e) (fun _ q=>q) (by rw [B1W];exact hos)
 | cons id r ih =>
  intro ds e f hm hn hd hos h
  cases hm with
  | @cons _ b _ ds' h1 h2 h3 h4 =>
  obtain ⟨g1,g2,b',g3,g4⟩:=hos.ok id _ (hn id (by simp))
  rw [h3] at g3;cases g3
  obtain ⟨d1,d2⟩:=List.nodup_cons.1 hd
  let f':Nat→Option Ob:=fun j=>if j=id then none else f j
  have hsub:∀ j o,f' j=some o→f j=some o:=fun j o hj=>by
   by_cases hj':j=id
   ·simp [f',hj'] at hj
   ·simpa [f',hj'] using hj
  have os1:A5 T c e f':=hos.sub hsub
  let w':World:={ e.w with heap:=e.w.heap.setIfInBounds b (.deferred none) }
  obtain ⟨os2,le2⟩:=os1.aside (b:=b) (hos.own id b 0 (by rw [hn id (by simp)];rfl) h3) (fun j q hj hι=>by
   have hj':j≠id:=by intro q';subst q';simp [f'] at hj
   have hjs:(f j).isSome:=by simpa [f',hj'] using hj
   exact absurd rfl (hos.sep j id b q b 0 hjs (by rw [hn id (by simp)];rfl) hι h3 hj')) (fun a hG=>hos.g.sep a b hG id b 0 (by rw [hn id (by simp)];rfl) h3 rfl) g4 (fun _ _ _ h=>by cases h) (g':=.deferred none) (fun _ _ _ h=>by cases h) (w':=w') rfl
  rw [LeavesInM]
  refine ⟨by simp,.inl ⟨b,w',rfl,?_,?_⟩⟩
  ·simp [Instr.takeDeferred,W7 g4,N0 _ g4,w']
  ·refine ih ds' { e with w:=w' } f' (h4.mono le2) (fun j hj=>?_) d2 os2 (fun e' hle hu hos'=>?_)
   ·have:j≠id:=by intro q;subst q;exact d1 hj
    simp only [f',if_neg this]
    exact hn j (by simp [hj])
   ·exact h e' (le2.trans hle) hu (by rw [← A9y];exact hos')
theorem A47 {sl:Nat→A} {f g:Nat→Option Ob} (hfg:∀ id t b sh,f id=some (.box t b sh)→g id=some (.box t b sh)):∀ (rs:List ResultVar) (x:List A×List Nat),A0k T sl f rs=some x→A0k T sl g rs=some x:=by
 intro rs
 induction rs with
 | nil=>intro x h;exact h
 | cons r rs ih =>
  intro x hr
  simp only [A0k] at hr ⊢
  split at hr<;>try (cases hr;done)
  rename_i v p1 h1
  split at hr<;>try (cases hr;done)
  rename_i l1 q1 h2
  have k1:A2T T sl g r=some (v,p1):=by
   cases r with
   | tmp t=>exact h1
   | cell ad t =>
    simp only [A2T] at h1 ⊢
    split at h1<;>try (cases h1;done)
    rename_i te id t' path hte hsl
    split at h1<;>try (cases h1;done)
    rename_i hof
    rw [hfg _ _ _ _ hof]
    exact h1
  rw [k1,ih _ h2]
  exact hr
theorem A9A {sl:Nat→A} {f g:Nat→Option Ob} (hfg:∀ id t b sh,f id=some (.box t b sh)→g id=some (.box t b sh)) {rs:List ResultVar} {x:A×List Nat} (h:A4k T sl f rs=some x):A4k T sl g rs=some x:=by
 unfold A4k at h ⊢
 split at h<;>try (cases h;done)
 rename_i l p hm
 rw [A47 hfg _ _ hm]
 exact h
theorem B0F (hm:P.follows .mixedOrders=true) (hT:F4 T P) {K:KS} (hK:KOK P T K) {Lo:Nat→A4j} {fu f:Nat} (hL:∀ n0 fn code,P.funcs[f]? = some fn→fn.body=some code→K8 P T fn.ntmps n0 (Lo n0) code):C0 P T f (A2o P T K Lo fu f):=by
 intro c e of of' args vals nx out hos hr hro hu hvals
 unfold A2o at hr
 split at hr<;>try (cases hr;done)
 rename_i fn hf
 split at hr<;>try (cases hr;done)
 rename_i code hb
 split at hr<;>try (cases hr;done)
 rename_i hcc
 simp only [C3o,Bool.not_eq_true'] at hcc
 obtain ⟨hn,hargs⟩:=hcc
 have hargs:=C3t hargs
 split at hr<;>try (cases hr;done)
 rename_i ex σ hx
 split at hr<;>try (cases hr;done)
 rename_i hend
 split at hr<;>try (cases hr;done)
 rename_i ms hmk
 split at hr<;>try (cases hr;done)
 rename_i hmb
 obtain ⟨hms,hnd⟩:=B1V _ hmb
 split at hr<;>try (cases hr;done)
 rename_i v ro hres
 injection hr with hr
 obtain ⟨q1,q2,q3,q4⟩:=A9z ms (A3n nx v σ ro)
 obtain ⟨o1,o2,o3,o4⟩:=A2U nx v σ ro
 rw [hr] at q1 q2 q3 q4
 have o1:=q1.trans o1
 have o2:=q2.trans o2
 have o3:=q3.trans o3
 have hcall:(callFunc f vals).run P e.w=.ok (.enter f vals) e.w:=by
  have hn':¬ fn.name="runtime.NumGoroutine":=by simpa using hn
  simp [callFunc,hf,hn',hb]
 refine .inr (.inr (.inl ⟨f,vals,e.w,hcall,?_⟩))
 refine (callsIn_wide (n:=0)).1 (callsIn_of_wp_marks (F:=WF none) hf hb trivial ?_ rfl)
 have hlen:=hvals.get.1
 rw [C3u] at hlen
 have hsim:Sim T { c with rd:=none } e of' nx fn.ntmps ⟨A4n 0 args,.e,[],nx,some []⟩ { tmps:=vals++Array.replicate (fn.ntmps - vals.size) undef,defers:=[] } e.w:=by
  refine ⟨e,rfl,?_,A8.le.refl e,fun id A7=>.inl A7,fun t=>?_,⟨rfl,.nil⟩,by simp;omega⟩
  ·have:B7 Tr.e of'=of':=by funext id;unfold B7;rw [Tr.get_e]
   rw [this];exact hos.ctx none
  ·show B3 T e (D5 (A4n 0 args) t) _
   rw [B1U,if_neg (by omega),Nat.sub_zero]
   by_cases ht:t < args.length
   ·have h1:args[t]? = some args[t]:=C3A ht
    have h2:vals.toList[t]? = some vals[t]:=by rw [Array.getElem?_toList];exact Array.getElem?_eq_getElem (by omega)
    have:=hvals.get.2 t _ _ h1 h2
    have e1:args.getD t .x=args[t]:=by simp [List.getD,h1]
    have e2:(vals++Array.replicate (fn.ntmps - vals.size) undef).getD t undef=vals[t]:=by
     have:t < vals.size:=by omega
     simp [Array.getD,Array.getElem_append_left this]
     omega
    rw [e1]
    show B3 T e _ ((vals++Array.replicate (fn.ntmps - vals.size) undef).getD t undef)
    rw [e2];exact this
   ·rw [show args.getD t .x=.x by simp [List.getD,List.getElem?_eq_none (by omega:args.length≤t)]]
    trivial
 obtain ⟨l1,k1⟩:=A3G (of:=of) (n0:=nx) hm hT hK code (hL nx fn code hf hb) _ _ _ hx
 have hfit:A1J of of' e nx σ:=⟨fun id A7=>hro id (by rw [o2];exact S9 _ _ _ _ A7),fun id h1 h2=>hu id h1 (by rw [o3];exact h2)⟩
 refine Q2 ?_ (k1 0 of' { c with rd:=none } e _ _ (Nat.le_refl _) hfit hos.ok hsim)
 rintro ex' a w ⟨rfl,e',rfl,hst⟩
 have hmarks:=hst.def_
 rw [hmk] at hmarks
 have hms':∀ id∈ms,B7 σ.ob of' id=some (.lp none):=fun id A7=>A3F (hms id A7).1
 have fin:LeavesInM (WF none) 0 P fn a.tmps (fun en w'=>∃ x,en=.returned x∧W2 T c e of' nx out x w') a.defers .returning e'.w:=by
  refine A6H ms a.defers e' (B7 σ.ob of') hmarks.2 hms' hnd hst.os (fun e2 hle hu2 hos2=>?_)
  have hst2:V0 T { c with rd:=none } e (D5 σ.sl) (A1c ms (B7 σ.ob of')) (fun id=>e.U id∨(nx≤id∧id < σ.nx)) fn.ntmps σ.mks a e2 :=
   ⟨hos2,hst.le.trans hle,fun id A7=>hst.U id (hu2 id A7),fun t=>(hst.sl t).mono hle,hst.def_.mono hle,hst.nt⟩
  have hres2:A4k T (D5 σ.sl) (A1c ms (B7 σ.ob of)) fn.results.toList=some (v,ro):=by
   refine A9A (fun id t b sh A7=>?_) hres
   unfold A1c
   have:mem id ms=false:=by
    rw [← Bool.not_eq_true];intro q
    rw [A3F (of:=of) (hms id (mem_iff.1 q)).1] at A7;cases A7
   rw [this];exact A7
  have hagree:=Z2 (ob:=σ.ob) (rd:=out.ro) (ro:=ro) (l:=σ.rd) (of:=of) (of':=of') (fun id A7=>hro id A7) (by rw [o2];exact fun _ h=>h)
  obtain ⟨x,g1,g2⟩:=B6H hT fn hst2 hres2 (fun id A7=>by
   unfold A1c
   rw [hagree id A7])
  refine ⟨x,g1,x,rfl,e2,rfl,?_,hst2.le,fun id A7=>by rw [o3];exact hst2.U id A7,by rw [o1];exact g2⟩
  refine (hos2.unctx).sub (fun id o ho=>?_)
  rcases q4 of' id o ho with ⟨h1,h2⟩ | ⟨h1,h2⟩
  ·obtain ⟨_,h3,h4⟩:=hms id h1
   exact absurd (hos.ok _ _ h2).use (hfit.fr id h3 h4)
  ·have:=A75 (of':=of') hos.ok hfit.fr id o h2
   unfold A1c
   have hm':mem id ms=false:=by
    rw [← Bool.not_eq_true];intro q;exact h1 (mem_iff.1 q)
   rw [hm'];exact this
 cases ex' with
 | ret=>exact fin
 | normal=>exact fin
 | _=>cases hend
def A6I:List Nat→List A→List (Nat×A)→List (Nat×A)
 | p::ps,a::as0,sl=>A6I ps as0 ((p,a)::sl)
 | _,_,sl=>sl
def exJ:Exit→Option (Option Code)
 | .normal=>some none
 | .ret=>some (some .ret)
 | .exit k=>some (some (.exit k))
 | _=>none
def lpE (ok:LoopState→Bool) (q:Option Ob):Option LR :=
 match q with
 | some (.lp (some r))=>bif ok r.st then some r else none
 | _=>none
def T6:LoopState→Bool
 | .ready=>true
 | _=>false
def setLp (σ:St) (id:Nat) (r:LR):St:={ σ with ob:=σ.ob.set id (.lp (some r)),rd:=Y0 σ.ob [id] σ.rd }
def B6I (id:Nat) (nx:Nat) (of:Nat→Option Ob) (q:Option (Exit×St)):Option M8 :=
 match q with
 | some (ex,σ2)=>match lpE (fun _=>true) (B7 σ2.ob of id),exJ ex with
  | some r2,some j=>some (A3n nx (.b j.isNone) (setLp σ2 id { r2 with st:=bif j.isNone then .ready else .done,pend:=j }) [])
  | _,_=>none
 | none=>none
def Z3 (T:TT) (K:KS) (fu id:Nat):N9:=fun args of nx =>
 match lpE T6 (of id) with
 | some r=>if Nat.beq args.length r.ps.size&&r.ps.toList.all (fun p=>Nat.blt p r.nt) then
   (match G1 T K (fun _=>none) fu r.nt of r.asg ⟨A6I r.ps.toList args r.sl,.e,[id],nx,none⟩ with
   | some (.normal,σ1)=>match lpE T6 (B7 σ1.ob of id) with
    | some r1=>B6I id nx of (G1 T K (fun _=>none) fu r.nt of r.body (setLp σ1 id { r1 with st:=.busy }))
    | none=>none
   | _=>none) else none
 | none=>none
theorem A4q {ok:LoopState→Bool} {q:Option Ob} {r:LR} (h:lpE ok q=some r):q=some (.lp (some r))∧ok r.st=true:=by
 unfold lpE at h
 split at h<;>try (cases h;done)
 rename_i r'
 cases hk:ok r'.st<;>rw [hk] at h
 ·cases h
 ·simp only [cond_true,C3q] at h;subst h;exact ⟨rfl,hk⟩
theorem B4h (l:List (Nat×A)) (t:Nat):D5 l t=.x∨∃ p∈l,p.1=t∧p.2=D5 l t:=by
 induction l with
 | nil=>exact .inl rfl
 | cons p r ih =>
  obtain ⟨k,v⟩:=p
  rw [P0]
  by_cases h:t=k
  ·subst h;rw [upd_same];exact .inr ⟨(t,v),by simp,rfl,rfl⟩
  ·rw [A3 _ _ h]
   rcases ih with ih | ⟨q,h1,h2,h3⟩
   ·exact .inl ih
   ·exact .inr ⟨q,by simp [h1],h2,h3⟩
theorem B4i {e:A8} {v:A} {x:Value} (h:E2 T e v x):B3 T e v x:=by
 cases v with
 | t l=>exact h.elim
 | _=>exact h
theorem B6J {nt:Nat}:∀ (ps:List Nat) (args:List A) (vals:List Value) (sl:List (Nat×A)) (tm:Array Value),P3 T e args vals→args.length=ps.length→(∀ p∈ps,p < nt)→tm.size=nt→(∀ t,B3 T e (D5 sl t) (tm.getD t undef)) →
  ((ps.zip vals).foldl (fun tmps (t,a)=>tmps.setIfInBounds t a) tm).size=nt∧∀ t,B3 T e (D5 (A6I ps args sl) t) (((ps.zip vals).foldl (fun tmps (t,a)=>tmps.setIfInBounds t a) tm).getD t undef):=by
 intro ps
 induction ps with
 | nil =>
  intro args vals sl tm _ _ _ h1 h2
  cases args<;>exact ⟨h1,h2⟩
 | cons p ps ih =>
  intro args vals sl tm hr hl hp h1 h2
  cases hr with
  | nil=>simp at hl
  | @cons v x r s hv hrs =>
   simp only [List.zip_cons_cons,List.foldl_cons,A6I]
   refine ih _ _ _ _ hrs (by simpa using hl) (fun q hq=>hp q (by simp [hq])) (by simpa using h1) (fun t=>?_)
   rw [P0]
   by_cases ht:t=p
   ·subst ht
    have:=hp t (by simp)
    rw [upd_same,show (tm.setIfInBounds t x).getD t undef=x by simp [h1,this]]
    exact hv
   ·rw [A3 _ _ ht,show (tm.setIfInBounds p x).getD t undef=tm.getD t undef by simp [Array.getElem?_setIfInBounds_ne (Ne.symm ht)]]
    exact h2 t
theorem V0.setLp {nt id:Nat} {n0:Nat} {σ:St} {a:Act} {mk:Option (List Nat)} (h:V0 T c eb (D5 σ.sl) (B7 σ.ob of') (fun id=>eb.U id∨(n0≤id∧id < σ.nx)) nt mk a e) {r r':LR} (hr:B7 σ.ob of' id=some (.lp (some r))) {b:Nat} (hb:e.ι id=some (b,0))
  (hs:r'.nt=r.nt∧r'.sl=r.sl∧r'.ps=r.ps∧r'.asg=r.asg∧r'.body=r.body) :
  ∃ lr:Loop,e.w.heap[b]? = some (.loop lr)∧lr.state=r.st∧lr.pending=r.pend∧∀ w',w'={ e.w with heap:=e.w.heap.setIfInBounds b (.loop { lr with state:=r'.st,pending:=r'.pend }) } →
   V0 T c eb (D5 (Go.Vm.setLp σ id r').sl) (B7 (Go.Vm.setLp σ id r').ob of') (fun k=>eb.U k∨(n0≤k∧k < (Go.Vm.setLp σ id r').nx)) nt mk a { e with w:=w' }:=by
 obtain ⟨k1,k2,b',tm,df,fn,k3,k4,k5,k6⟩:=h.os.ok _ _ hr
 rw [hb] at k3;cases k3
 refine ⟨_,k4,rfl,rfl,fun w' hw=>?_⟩
 obtain ⟨os4,le4⟩:=h.os.writeG (o':=.lp (some r')) hr hb k4 (fun _ _ _ h=>by cases h) (g':=.loop { state:=r'.st,pending:=r'.pend,fn:=fn,tmps:=tm,params:=r.ps,assign:=r.asg,body:=r.body,defers:=df }) (fun _ _ _ h=>by cases h) (w':=w') hw
   (fun hle hh=>⟨k1,k2,b,tm,df,fn,hb,by rw [hs.2.2.1,hs.2.2.2.1,hs.2.2.2.2];exact hh,by rw [hs.1];exact k5,fun p hp=>(k6 p (by rw [← hs.2.1];exact hp)).mono hle⟩)
 refine ⟨?_,h.le.trans le4,h.U,fun t=>(h.sl t).mono le4,h.def_.mono le4,h.nt⟩
 show A5 T c _ (B7 (σ.ob.set id (.lp (some r'))) of')
 rw [A1i];exact os4
theorem A1d {w:World} {b:Nat} {lr:Loop} (h:w.heap[b]? = some (.loop lr)):(Instr.getLoop b).run P w=.ok lr w:=by
 simp [Instr.getLoop,W7 h]
theorem A5V (hm:P.follows .mixedOrders=true) (hT:F4 T P) {K:KS} (hK:KOK P T K) {fu id:Nat}:YOK P T id (Z3 T K fu id):=by
 intro c e of of' args vals nx out b hos hr hro hu hvals hU hbn hι
 unfold Z3 at hr
 split at hr<;>try (cases hr;done)
 rename_i r hofid
 obtain ⟨hofid,hrdy⟩:=A4q hofid
 split at hr<;>try (cases hr;done)
 rename_i hcc
 simp only [C3o] at hcc
 obtain ⟨hc1,hc2⟩:=hcc
 have hc1:=C3n hc1
 have hc2:∀ p∈r.ps.toList,p < r.nt:=fun p hp=>by simpa [Nat.blt_eq] using List.all_eq_true.1 hc2 p hp
 split at hr<;>try (cases hr;done)
 rename_i σ1 hx1
 split at hr<;>try (cases hr;done)
 rename_i r1 hr1
 obtain ⟨hr1,hrdy1⟩:=A4q hr1
 unfold B6I at hr
 split at hr<;>try (cases hr;done)
 rename_i ex σ2 hx2
 split at hr<;>try (cases hr;done)
 rename_i r2 j hr2 hj
 obtain ⟨hr2,-⟩:=A4q hr2
 generalize hr3:({ r2 with st:=bif j.isNone then .ready else .done,pend:=j }:LR)=r3 at hr
 generalize hσ3:setLp σ2 id r3=σ3 at hr
 injection hr with hr
 obtain ⟨o1,o2,o3,-⟩:=A2U nx (.b j.isNone) σ3 []
 rw [hr] at o1 o2 o3
 obtain ⟨l1,k1⟩:=A3G (of:=of) (n0:=nx) hm hT hK r.asg (D7 _) _ _ _ hx1
 obtain ⟨l2,k2⟩:=A3G (of:=of) (n0:=nx) hm hT hK r.body (D7 _) _ _ _ hx2
 have l3:σ2.le σ3:=by rw [← hσ3];exact ⟨S9 _ _ _,Nat.le_refl _⟩
 have l12:σ1.le (setLp σ1 id { r1 with st:=.busy }):=⟨S9 _ _ _,Nat.le_refl _⟩
 have hfit3:A1J of of' e nx σ3:=⟨fun k hk=>hro k (by rw [o2];exact hk),fun k h1 h2=>hu k h1 (by rw [o3];exact h2)⟩
 have hfit2:A1J of of' e nx σ2:=hfit3.mono l3
 have hfit1':A1J of of' e nx (setLp σ1 id { r1 with st:=.busy }):=hfit2.mono l2
 have hfit1:A1J of of' e nx σ1:=hfit1'.mono l12
 have hid':of' id=of id:=hfit1.rd id (l1.1 id (by simp))
 have hov:∀ (σ:St),B7 σ.ob of' id=B7 σ.ob of id:=fun σ=>by
  unfold B7;rw [hid']
 obtain ⟨g1,g2,b',tm,df,fn,g3,g4,g5,g6⟩:=hos.ok id _ (hid'.trans hofid)
 rw [hι] at g3;cases g3
 have hlen:=hvals.get.1
 rw [C3u] at hlen
 have hsz:vals.size=r.ps.size:=by omega
 obtain ⟨a1,a2⟩:=B6J r.ps.toList args vals.toList r.sl tm hvals (by rw [C3u];exact hc1) hc2 g5 (fun t=>by
  rcases B4h r.sl t with h | ⟨p,h1,h2,h3⟩
  ·rw [h];trivial
  ·subst h2;rw [← h3];exact B4i (g6 p h1))
 generalize htm:(r.ps.toList.zip vals.toList).foldl (fun tmps (t,a)=>tmps.setIfInBounds t a) tm=tm1 at a1 a2
 have hyield:(Instr.yield b vals).run P e.w=.ok (.round b fn tm1 r.asg r.body) e.w:=by
  have hz:(r.ps.zip vals).foldl (fun tmps (t,a)=>tmps.setIfInBounds t a) tm=tm1:=by
   rw [← htm,← Array.toList_zip,Array.foldl_toList]
  simpa [Instr.yield,A1d g4,hsz] using hz
 refine .inr (.inr (.inr ⟨b,fn,tm1,r.asg,r.body,e.w,hyield,?_⟩))
 refine roundIn_of_wpIn trivial ?_
 show r.asg.wpIn (WF (some b)) 0 P _ { tmps:=tm1,defers:=[] } e.w
 have hsim:Sim T { c with rd:=some b } e of' nx r.nt ⟨A6I r.ps.toList args r.sl,.e,[id],nx,none⟩ { tmps:=tm1,defers:=[] } e.w:=by
  refine ⟨e,rfl,?_,A8.le.refl e,fun id A7=>.inl A7,a2,rfl,a1⟩
  have:B7 Tr.e of'=of':=by funext id;unfold B7;rw [Tr.get_e]
  rw [this];exact hos.ctx _
 refine Q2 ?_ (k1 0 of' { c with rd:=some b } e _ _ (Nat.le_refl _) hfit1 hos.ok hsim)
 rintro ex1 ac1 w1 ⟨rfl,e1,rfl,hst1⟩
 have hι1:∀ e1:A8,e.le e1→e1.ι id=some (b,0):=fun e1 hle=>by
  have h0:=hle.box _ hU hbn
  rw [(hle.obj _ hU (h0.trans hbn.symm)).1];exact hι
 obtain ⟨lr1,m1,m2,m3,m4⟩:=hst1.setLp (r':={ r1 with st:=.busy }) ((hov σ1).trans hr1) (hι1 e1 hst1.le) ⟨rfl,rfl,rfl,rfl,rfl⟩
 have hst1':=m4 _ rfl
 show ∃ w₂,(Instr.beginRound b).run P e1.w=.ok () w₂∧_
 refine ⟨{ e1.w with heap:=e1.w.heap.setIfInBounds b (.loop { lr1 with state:=.busy,pending:=r1.pend }) },?_,?_⟩
 ·have hst:lr1.state=.ready:=by
   rw [m2]
   cases hh:r1.st<;>rw [hh] at hrdy1<;>first | rfl | cases hrdy1
  simp [Instr.beginRound,A1d m1,N0 _ m1,hst,m3]
 ·show r.body.wpIn (WF (some b)) 0 P _ ac1 _
  refine Q2 ?_ (k2 0 of' { c with rd:=some b } e ac1 _ l1.2 hfit2 hos.ok ⟨_,rfl,hst1'⟩)
  rintro ex2 ac2 w2 ⟨rfl,e2,rfl,hst2⟩
  obtain ⟨lr2,n1,n2,n3,n4⟩:=hst2.setLp (r':=r3) ((hov σ2).trans hr2) (hι1 e2 hst2.le) (by subst hr3;exact ⟨rfl,rfl,rfl,rfl,rfl⟩)
  have hst3:=n4 _ rfl
  have hend:(Instr.endRound b j).run P e2.w=.ok (.bool j.isNone) { e2.w with heap:=e2.w.heap.setIfInBounds b (.loop { lr2 with state:=r3.st,pending:=r3.pend }) }:=by
   subst hr3
   cases j<;>simp [Instr.endRound,A1d n1,N0 _ n1]
  have hleft:∃ x,Ending.returned (.bool j.isNone)=.returned x∧W2 T c e of' nx out x { e2.w with heap:=e2.w.heap.setIfInBounds b (.loop { lr2 with state:=r3.st,pending:=r3.pend }) }:=by
   refine ⟨_,rfl,_,rfl,?_,hst3.le,fun k hk=>?_,?_⟩
   ·rw [hσ3] at hst3
    refine (hst3.os.unctx).sub (fun k o ho=>?_)
    rw [← hr] at ho
    exact A75 (of':=of') hos.ok hfit3.fr k o ho
   ·rw [o3]
    have:=hst3.U k hk
    rw [hσ3] at this;exact this
   ·rw [o1];exact RA.b .nil
  cases ex2 with
  | normal=>cases hj;exact ⟨_,_,hend,hleft⟩
  | ret=>cases hj;exact ⟨_,_,hend,hleft⟩
  | exit k=>cases hj;exact ⟨_,_,hend,hleft⟩
  | _=>cases hj
def A1X (P:Program) (f:Nat):Bool :=
 match P.funcs[f]? with
 | some fn=>fn.body.isSome&&!(fn.name == "runtime.NumGoroutine")
 | none=>false
theorem A5W {f:Nat} (h:A1X P f=true) (vals:Array Value) (w:World):(callFunc f vals).run P w=.ok (.enter f vals) w:=by
 unfold A1X at h
 split at h<;>try (cases h;done)
 rename_i fn hf
 simp only [C3o,Bool.not_eq_true'] at h
 have hn':¬ fn.name="runtime.NumGoroutine":=by simpa using h.2
 obtain ⟨cd,hb⟩:=C3s.1 h.1
 simp [callFunc,hf,hn',hb]
def A6J (P:Program) (T:TT) (C:Nat→Option N9) (L:Nat→Nat→A4j) (fu:Nat):Nat→KS
 | 0=>⟨fun _ _ _ _=>none,fun _ _ _ _=>none,fun _=>false⟩
 | d+1=>⟨fun f=>match C f with
  | some s=>s
  | none=>A2o P T (A6J P T C L fu d) (L f) fu f,fun id=>Z3 T (A6J P T C L fu d) fu id,A1X P⟩
def A9B (P:Program) (T:TT) (C:Nat→Option N9) (L:Nat→Nat→A4j) (fu d f:Nat):N9:=(A6J P T C L fu d).f f
theorem B6K (hm:P.follows .mixedOrders=true) (hT:F4 T P) {C:Nat→Option N9} (hC:∀ f s,C f=some s→C0 P T f s) {L:Nat→Nat→A4j} (hL:∀ f n0 fn code,P.funcs[f]? = some fn→fn.body=some code→K8 P T fn.ntmps n0 (L f n0) code) {fu:Nat}:∀ d,KOK P T (A6J P T C L fu d):=by
 intro d
 induction d with
 | zero=>exact ⟨fun f c e of of' args vals nx out _ h=>(by cases h),fun id c e of of' args vals nx out b _ h=>(by cases h),fun f h=>(by cases h)⟩
 | succ d ih =>
  refine ⟨fun f=>?_,fun id=>A5V hm hT ih,fun f h=>A5W h⟩
  show C0 P T f (match C f with
   | some s=>s
   | none=>A2o P T (A6J P T C L fu d) (L f) fu f)
  split
  ·rename_i s hs;exact hC f s hs
  ·exact B0F hm hT ih (hL f)
theorem B1X (hm:P.follows .mixedOrders=true) (hT:F4 T P) {C:Nat→Option N9} (hC:∀ f s,C f=some s→C0 P T f s) {L:Nat→Nat→A4j} (hL:∀ f n0 fn code,P.funcs[f]? = some fn→fn.body=some code→K8 P T fn.ntmps n0 (L f n0) code) {fu:Nat} (d f:Nat):C0 P T f (A9B P T C L fu d f):=(B6K hm hT hC hL d).f f
variable {P:Program} {T:TT} {c:F1} {e eb:A8} {of of':Nat→Option Ob}
def A4r (T:TT):TK→TypeDesc→Bool
 | .int k,.int k'=>A2W k k'
 | .bool,.bool=>true
 | .str,.string=>true
 | .ptr e,.pointer e'=>Nat.beq e e'
 | .slice e,.slice e'=>Nat.beq e e'
 | .arr n e,.array n' e'=>Nat.beq n n'&&Nat.beq e e'
 | .struct fs,.struct gs=>A9E (gs.toList.map (·.type)) fs&&offB T fs 0 gs.toList
 | .map k e,.map k' e'=>Nat.beq k k'&&Nat.beq e e'
 | .func,.func _ _ _=>true
 | .other,.struct _=>false
 | .other,.array _ _=>false
 | .other,_=>true
 | _,_=>false
where
 offB (T:TT):List Nat→Nat→List Field→Bool
 | f::fs,off,g::gs=>Nat.beq g.offset off&&offB T fs (off+B1 T f) gs
 | [],_,[]=>true
 | _,_,_=>false
theorem B1Y:∀ (fs:List Nat) (off:Nat) (gs:List Field),A4r.offB T fs off gs=true→∀ (j:Nat) g,gs[j]? = some g→g.offset=off+szs T (fs.take j):=by
 intro fs
 induction fs with
 | nil =>
  intro off gs h j g hg
  cases gs with
  | nil=>simp at hg
  | cons g gs=>simp [A4r.offB] at h
 | cons f fs ih =>
  intro off gs h j g hg
  cases gs with
  | nil=>simp [A4r.offB] at h
  | cons g0 gs =>
   simp only [A4r.offB,C3o] at h
   cases j with
   | zero=>simp only [List.getElem?_cons_zero,C3q] at hg;subst hg;simp [szs,C3n h.1]
   | succ j=>have:=ih _ _ h.2 j g (by simpa using hg);rw [this,List.take_succ_cons,szs];omega
theorem A9C {k:TK} {d:TypeDesc} (h:A4r T k d=true):k.fits T d:=by
 cases k<;>cases d<;>simp only [A4r,TK.fits] at h ⊢<;>first | (cases h;done) | trivial | skip
 ·exact A0T h
 ·exact C3n h
 ·exact C3n h
 ·simp only [C3o] at h;exact ⟨C3n h.1,C3n h.2⟩
 ·simp only [C3o] at h
  refine ⟨B0H h.1,fun j g hg=>?_⟩
  have:=B1Y _ _ _ h.2 j g (by simpa using hg)
  simpa using this
 ·simp only [C3o] at h;exact ⟨C3n h.1,C3n h.2⟩
 all_goals (constructor<;>intro _<;>intros<;>first | (intro q;cases q;done) | skip)
def rvB (T:TT):Nat→List Nat→List V→List Value→Bool
 | 0,_,_,_=>false
 | _+1,[],[],[]=>true
 | f+1,t::ts,x::xs,cs=>match B2 T t,x,cs with
  | some (.int k),.i n,.int k' m::r=>A2W k k'&&ieq n m&&A9P k n&&Nat.beq (B1 T t) 1&&rvB T f ts xs r
  | some .bool,.b q,.bool q'::r=>(q == q')&&Nat.beq (B1 T t) 1&&rvB T f ts xs r
  | some .str,.s l,.string s::r=>Nat.beq l.length 0&&Nat.beq s.data.toList.length 0&&Nat.beq (B1 T t) 1&&rvB T f ts xs r
  | some (.ptr _),.n,.pointer none::r=>Nat.beq (B1 T t) 1&&rvB T f ts xs r
  | some (.slice _),.n,.slice none 0 0::r=>Nat.beq (B1 T t) 1&&rvB T f ts xs r
  | some (.map _ _),.n,.map none::r=>Nat.beq (B1 T t) 1&&rvB T f ts xs r
  | some .func,.n,.nilFunc::r=>Nat.beq (B1 T t) 1&&rvB T f ts xs r
  | some (.arr n el),.l ys,cs=>Nat.ble (B1 T t) cs.length&&rvB T f (List.replicate n el) ys (cs.take (B1 T t))&&rvB T f ts xs (cs.drop (B1 T t))
  | some (.struct fs),.l ys,cs=>Nat.ble (B1 T t) cs.length&&rvB T f fs ys (cs.take (B1 T t))&&rvB T f ts xs (cs.drop (B1 T t))
  | _,_,_=>false
 | _+1,_,_,_=>false
theorem B4j (e:A8):∀ (f:Nat) (ts:List Nat) (xs:List V) (cs:List Value),rvB T f ts xs cs=true→RV T e ts xs cs:=by
 intro f
 induction f with
 | zero=>intro ts xs cs h;cases h
 | succ f ih =>
  intro ts xs cs h
  cases ts with
  | nil =>
   cases xs with
   | nil=>cases cs with
    | nil=>exact .nil
    | cons c cs=>simp [rvB] at h
   | cons x xs=>cases cs<;>simp [rvB] at h
  | cons t ts =>
   cases xs with
   | nil=>cases cs<;>simp [rvB] at h
   | cons x xs =>
    simp only [rvB] at h
    split at h<;>try (cases h;done)
    all_goals simp only [C3o] at h
    ·rename_i hk
     obtain ⟨⟨⟨⟨h1,h2⟩,h3⟩,h4⟩,h5⟩:=h
     have:=A0T h1;subst this
     have:=Q9.1 h2;subst this
     exact .int hk (C3n h4) (A4I h3) (ih _ _ _ h5)
    ·rename_i hk
     obtain ⟨⟨h1,h2⟩,h3⟩:=h
     have h1:=eq_of_beq h1
     subst h1
     exact .bool hk (C3n h2) (ih _ _ _ h3)
    ·rename_i l s r hk
     obtain ⟨⟨⟨h1,h2⟩,h3⟩,h4⟩:=h
     have e1:l=[]:=List.eq_nil_of_length_eq_zero (C3n h1)
     have e2:W9 s=[]:=by unfold W9;rw [List.eq_nil_of_length_eq_zero (C3n h2)];rfl
     rw [e1,← e2]
     exact .str hk (C3n h3) (ih _ _ _ h4)
    ·rename_i hk;exact .ptr hk (C3n h.1) (ih _ _ _ h.2)
    ·rename_i hk;exact .nils hk (C3n h.1) (ih _ _ _ h.2)
    ·rename_i hk;exact .map hk (C3n h.1) (ih _ _ _ h.2)
    ·rename_i hk;exact .func hk (C3n h.1) (ih _ _ _ h.2)
    ·rename_i n el ys hk
     obtain ⟨⟨h1,h2⟩,h3⟩:=h
     have hl:=C3t h1
     have:=RV.arr hk (by rw [List.length_take];omega) (ih _ _ _ h2) (ih _ _ _ h3)
     rwa [List.take_append_drop] at this
    ·rename_i fs ys hk
     obtain ⟨⟨h1,h2⟩,h3⟩:=h
     have hl:=C3t h1
     have:=RV.struct hk (by rw [List.length_take];omega) (ih _ _ _ h2) (ih _ _ _ h3)
     rwa [List.take_append_drop] at this
def B9S:Value→Bool
 | .agg _=>true
 | _=>false
def eqB (P:Program) (t:Nat) (d:TypeDesc):Bool :=
 !(P.eqGuardType P.depth t)&&!(P.stoodInHeld t)&&(match d with | .struct gs=>gs.toList.all fun f=>f.name != "_" | _=>true)
def teB (P:Program) (T:TT) (t:Nat) (te:TE):Bool :=
 match P.info? t,P.underlying t with
 | some i,some d=>match i.zero with
  | some z=>Nat.beq i.size te.size&&Nat.beq i.bytes te.bytes&&A4r T te.k d&&(rvB T 1000 [t] [te.zero] z.cells.toList||!(TK.notOther te.k))&&(te.k.agg == B9S z)&&(!te.eq||eqB P t d)
  | none=>false
 | _,_=>false
theorem B4k {t:Nat} {te:TE} (h:teB P T t te=true):A0A P T t te:=by
 unfold teB at h
 split at h<;>try (cases h;done)
 rename_i i d h1 h2
 split at h<;>try (cases h;done)
 rename_i z h3
 simp only [C3o] at h
 obtain ⟨⟨⟨⟨⟨a1,a2⟩,a3⟩,a4⟩,a5⟩,a6⟩:=h
 refine ⟨⟨i,d,z,h1,h2,C3n a1,C3n a2,A9C a3,h3,?_,?_⟩,fun he=>?_⟩
 ·rw [Bool.or_eq_true] at a4
  rcases a4 with a4 | a4
  ·exact .inl fun e=>B4j e _ _ _ _ a4
  ·right;cases hk:te.k<;>rw [hk] at a4<;>first | rfl | (cases a4;done)
 ·have a5':te.k.agg=B9S z:=by simpa using a5
  rw [a5']
  cases z<;>simp [B9S]
 ·rw [he] at a6
  simp only [Bool.not_true,Bool.false_or,eqB,C3o,Bool.not_eq_true'] at a6
  obtain ⟨⟨b1,b2⟩,b3⟩:=a6
  refine ⟨b1,b2,fun gs hg f hf=>?_⟩
  rw [h2] at hg
  injection hg with hg;subst hg
  simpa using List.all_eq_true.1 b3 f hf
def B1Z:List (Nat×TE)→TT
 | [],_=>none
 | (k,v)::r,t=>bif Nat.beq k t then some v else B1Z r t
theorem B4l:∀ (l:List (Nat×TE)) (t:Nat) (te:TE),B1Z l t=some te→(t,te)∈l:=by
 intro l
 induction l with
 | nil=>intro t te h;cases h
 | cons p r ih =>
  intro t te h
  obtain ⟨k,v⟩:=p
  simp only [B1Z] at h
  cases hk:Nat.beq k t with
  | true=>rw [hk] at h;have:=C3n hk;subst this;injection h with h;subst h;simp
  | false=>rw [hk] at h;exact List.mem_cons_of_mem _ (ih _ _ h)
theorem tok {l:List (Nat×TE)} (h:(l.all fun p=>teB P (B1Z l) p.1 p.2)=true):F4 (B1Z l) P:=fun t te ht=>B4k (List.all_eq_true.1 h (t,te) (B4l l t te ht))
def L6 (w:World):A8:={ w:=w,ι:=fun _=>none,S:=fun b _=>b < w.heap.size,bn:=fun _=>0,U:=fun _=>False,ty:=fun _=>0,ln:=fun _=>0,G:=fun _ _=>False }
def B8r (w:World):F1:={ w0:=w,M:=fun _=>False,S0:=fun b _=>b < w.heap.size }
theorem B4m (w:World):A5 T (B8r w) (L6 w) (fun _=>none) :=
 ⟨fun _ _ h=>(by cases h),fun _ _ _ _ _ _ h=>(by cases h),fun _ _ _ h=>(by cases h),fun _ _ _ h=>False.elim h,fun _ _ h=>h,fun _ _ h=>h,fun _ _ h=>.inl h,rfl,rfl,rfl,Nat.le_refl _,fun _ _ _=>rfl,⟨fun _ _ h=>h.elim,fun _ _ _ h=>h.elim,fun _ _ h=>h.elim,fun _ _ h=>h.elim⟩⟩
def A76 (w w':World):Prop:=w'.os=w.os∧w'.output=w.output∧w.heap.size≤w'.heap.size∧∀ i,i < w.heap.size→w'.heap[i]? = w.heap[i]?
theorem A76.kept {w w':World} (h:A76 w w') (may:MemPlace→Prop):w.keptBut w' may:=by
 refine ⟨h.1,h.2.1,fun i hi=>?_⟩
 rw [h.2.2.2 i hi]
 cases hw:w.heap[i]? with
 | none=>rfl
 | some o =>
  cases o with
  | cells c t fr=>exact ⟨rfl,rfl,rfl,fun _ _=>rfl⟩
  | map es clock=>exact .inr ⟨rfl,rfl⟩
  | _=>rfl
def B4n (b:Bool) (o:Option M8):Bool :=
 match o with
 | some f=>match f.val with
  | .b q=>q == b
  | _=>false
 | none=>false
theorem A6K {f:FuncId} {fn:Func} {code:Code} {args:List A} {b:Bool} {s:N9} (hf:P.funcs[f]? = some fn) (hb:fn.body=some code) (hn:(fn.name == "runtime.NumGoroutine")=false)
  (h:C0 P T f s) (ha:B4n b (s args (fun _=>none) 0)=true) {w:World} {vals:Array Value} (hv:P3 T (L6 w) args vals.toList):Calls P f vals w fun en w'=>en=.returned (.bool b)∧A76 w w':=by
 have hcall:(callFunc f vals).run P w=.ok (.enter f vals) w:=by
  have hn':¬ fn.name="runtime.NumGoroutine":=by simpa using hn
  simp [callFunc,hf,hn',hb]
 unfold B4n at ha
 split at ha<;>try (cases ha;done)
 rename_i out hout
 split at ha<;>try (cases ha;done)
 rename_i q hval
 have hq:q=b:=by simpa using ha
 subst hq
 have:=h (B8r w) (L6 w) (fun _=>none) (fun _=>none) args vals 0 _ (B4m w) hout (fun _ _=>rfl) (fun _ _ _ h=>h) hv
 unfold B9 at this
 rcases this with ⟨x,w',g1,g2⟩ | ⟨w',g1,g2⟩ | ⟨f',args',w1,g1,g2⟩ | ⟨_,_,_,_,_,w1,g1,g2⟩
 ·rw [show (L6 w).w=w from rfl,hcall] at g1;cases g1
 ·rw [show (L6 w).w=w from rfl,hcall] at g1;cases g1
 ·rw [show (L6 w).w=w from rfl,hcall] at g1
  cases g1
  refine g2.mono fun en w' ⟨x,h1,e',h2,h3,h4,h5,h6⟩=>?_
  subst h2
  rw [hval] at h6
  have hx:=Y4 h6
  subst hx
  exact ⟨h1,h3.os,h3.output,h3.size,fun i hi=>h3.block i hi (fun h=>h)⟩
 ·rw [show (L6 w).w=w from rfl,hcall] at g1;cases g1
variable {P:Program} {T:TT} {c:F1} {e eb:A8} {of of':Nat→Option Ob}
theorem A5X {f:FuncId} {s:N9} (h:∀ (e:A8) (args:List A) (of:Nat→Option Ob) (nx:Nat) (out:M8) (vals:List Value),s args of nx=some out→P3 T e args vals→∃ v,out=.pv nx v []∧∀ w,∃ x,(callFunc f vals.toArray).run P w=.ok (.value x) w∧B3 T e v x):C0 P T f s:=by
 intro c e of of' as0 vals nx out hos hs hro hu hvals
 obtain ⟨v,rfl,hx⟩:=h e _ _ _ _ _ hs hvals
 obtain ⟨x,hx,hr⟩:=hx e.w
 exact E5 (.inl ⟨x,e.w,by simpa using hx,A4 hos hr⟩)
def A4s:Array Value→Sem Value:=fun args=>do
 let (x,y,b) ← Extern.MathBitsCarry.three "Sub64" args
 pure (Extern.MathBitsCarry.pair ((x+Extern.MathBitsCarry.m64 - y - b) % Extern.MathBitsCarry.m64) (if x < y+b then 1 else 0))
theorem B10 (x y b:Nat) (hb:b≤1) (w:World) :
  (A4s #[.int .u64 x,.int .u64 y,.int .u64 b]).run P w =
   .ok (.tuple #[.int .u64 (((x+18446744073709551616 - y - b) % 18446744073709551616:Nat):Int),.int .u64 ((if x < y+b then 1 else 0:Nat):Int)]) w:=by
 have:b=0∨b=1:=by omega
 rcases this with rfl | rfl<;>rfl
def A6L:N9:=fun args of nx =>
 match args with
 | [.i .u64 x,.i .u64 y,.i .u64 c]=>if J1 0 c&&J1 c 1 then some (.pv nx (.t [.i .u64 ((x+y+c) % 18446744073709551616),.i .u64 ((x+y+c) / 18446744073709551616)]) []) else none
 | _=>none
def A4t:N9:=fun args of nx =>
 match args with
 | [.i .u64 x,.i .u64 y,.i .u64 c]=>if J1 0 c&&J1 c 1 then some (.pv nx (.t [.i .u64 ((x - y - c) % 18446744073709551616),.i .u64 (bif E8 x (y+c) then 1 else 0)]) []) else none
 | _=>none
theorem B8s {a b d:A} {vals:List Value} (h:P3 T e [a,b,d] vals):∃ x y z,vals=[x,y,z]∧B3 T e a x∧B3 T e b y∧B3 T e d z:=by
 cases h with | cons h1 h=>cases h with | cons h2 h=>cases h with | cons h3 h =>
 cases h
 exact ⟨_,_,_,rfl,h1,h2,h3⟩
theorem B4o {a b:A} {x y:Value} (ha:E2 T e a x) (hb:E2 T e b y):B3 T e (.t [a,b]) (.tuple #[x,y]):=by
 refine ⟨#[x,y],rfl,rfl,fun i v z hv hz=>?_⟩
 match i,hv,hz with
 | 0,hv,hz=>simp at hv hz;subst hv;subst hz;exact ha
 | 1,hv,hz=>simp at hv hz;subst hv;subst hz;exact hb
 | i+2,hv,hz=>simp at hv
theorem A9D {f:FuncId} {fn:Func} (hf:P.funcs[f]? = some fn) (hname:(fn.name == "runtime.NumGoroutine")=false) (hb:fn.body.isNone=true) (hn:Extern.findNext fn=none) (he:Extern.find fn=some add64Entry):C0 P T f A6L:=by
 refine A5X fun e args of nx out vals hs hv=>?_
 unfold A6L at hs
 split at hs<;>try (cases hs;done)
 rename_i x y c
 split at hs<;>try (cases hs;done)
 rename_i hc
 simp only [C3o,K9] at hc
 injection hs with hs;subst hs
 obtain ⟨a,b,d,rfl,h1,h2,h3⟩:=B8s hv
 have r1:=L1 h1
 have r2:=L1 h2
 simp only [inR,lo,hi] at r1 r2
 rw [B8 h1,B8 h2,B8 h3]
 refine ⟨_,rfl,fun w=>⟨_,?_,B4o (G6 ?_) (G6 ?_)⟩⟩
 ·rw [run_callFunc_extern hf hname hb hn he]
  rw [run_add64 x y c r1.1 r2.1 hc.1 hc.2]
  rfl
 ·constructor<;>simp only [lo,hi]<;>omega
 ·constructor<;>simp only [lo,hi]<;>omega
theorem A77 {f:FuncId} {fn:Func} (hf:P.funcs[f]? = some fn) (hname:(fn.name == "runtime.NumGoroutine")=false) (hb:fn.body.isNone=true) (hn:Extern.findNext fn=none) (he:Extern.find fn=some A4s):C0 P T f A4t:=by
 refine A5X fun e args of nx out vals hs hv=>?_
 unfold A4t at hs
 split at hs<;>try (cases hs;done)
 rename_i x y c
 split at hs<;>try (cases hs;done)
 rename_i hc
 simp only [C3o,K9] at hc
 injection hs with hs;subst hs
 obtain ⟨a,b,d,rfl,h1,h2,h3⟩:=B8s hv
 have r1:=L1 h1
 have r2:=L1 h2
 simp only [inR,lo,hi] at r1 r2
 rw [B8 h1,B8 h2,B8 h3]
 have e2:(bif E8 x (y+c) then (1:Int) else 0)=if x < y+c then 1 else 0:=by
  by_cases hlt:x < y+c
  ·rw [H0.2 hlt,if_pos hlt];rfl
  ·have:E8 x (y+c)=false:=by rw [← Bool.not_eq_true,H0];exact hlt
   rw [this,if_neg hlt];rfl
 refine ⟨_,rfl,fun w=>?_⟩
 obtain ⟨x,rfl⟩:=Int.eq_ofNat_of_zero_le r1.1
 obtain ⟨y,rfl⟩:=Int.eq_ofNat_of_zero_le r2.1
 obtain ⟨c,rfl⟩:=Int.eq_ofNat_of_zero_le hc.1
 have e1:(((x+18446744073709551616 - y - c) % 18446744073709551616:Nat):Int)=((x:Int) - y - c) % 18446744073709551616:=by omega
 have e3:(((if x < y+c then 1 else 0:Nat)):Int)=if (x:Int) < y+c then 1 else 0:=by
  by_cases hlt:x < y+c
  ·rw [if_pos hlt,if_pos (by omega)];rfl
  ·rw [if_neg hlt,if_neg (by omega)];rfl
 refine ⟨_,?_,B4o (G6 (n:=((x:Int) - y - c) % 18446744073709551616) ?_) (G6 (n:=bif E8 (x:Int) (y+c) then (1:Int) else 0) ?_)⟩
 ·rw [run_callFunc_extern hf hname hb hn he]
  rw [B10 x y c (by omega),e2,e1,e3]
  rfl
 ·constructor<;>simp only [lo,hi]<;>omega
 ·rw [e2];split<;>constructor<;>simp [lo,hi]
end Go.Vm
end