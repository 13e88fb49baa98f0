/- What the operations of a program do, shown once for all programs; and numbers. -/
import Derived.Test.YteoeonfajlnggaaGreatVm5
import Derived.LoopN
import Derived.RangeFuncLeaves
import Derived.OpenShut
import Derived.WalkKit
import Derived.ProofKit
import Derived.KernelRfl
import Derived.Laws.Externs
set_option linter.constructorNameAsVariable false
set_option linter.unusedVariables false
set_option linter.unusedSimpArgs false
noncomputable section
namespace Go.Vm
open Go.RowKit
variable {P:Program} {T:TT} {c:J8} {e eb:B4} {of of':Nat→Option Ob}
theorem B0g (A B:Z6):A2q A B=A2q B A:=by
 unfold A2q
 have:A9p A.dst B.dst=A9p B.dst A.dst:=by
  unfold A9p
  cases A.dst<;>cases B.dst<;>first | rfl | skip
  rename_i x y
  rw [Bool.eq_iff_iff]
  show (Nat.beq x y=true)↔(Nat.beq y x=true)
  rw [Nat.beq_eq,Nat.beq_eq]
  exact eq_comm
 rw [this,Bool.or_comm (B8c A.dst B.rs),Bool.or_right_comm (_||_) (B0I A.wo B)]
theorem C8S {A B:Z6} (h:A2q A B=false):∀ t∈B.rs,t ∉ keys (wS A):=by
 intro t ht hk
 simp only [A2q,Bool.or_eq_false_iff] at h
 have h1:=h.1.1.1.1
 unfold wS at hk
 unfold B8c at h1
 cases hd:A.dst with
 | none=>rw [hd] at hk;simp [keys] at hk
 | some d =>
  rw [hd] at hk h1
  simp only [keys,List.map_cons,List.map_nil,List.mem_singleton] at hk
  subst hk
  simp only [] at h1
  rw [mem_iff.2 ht] at h1;cases h1
theorem C8T {A B:Z6} (h:A2q A B=false):∀ t,t∈keys (wS A)→t ∉ keys (wS B):=by
 intro t hA hB
 simp only [A2q,Bool.or_eq_false_iff] at h
 have h1:=h.1.1.2
 unfold wS at hA hB
 unfold A9p at h1
 cases hd:A.dst with
 | none=>rw [hd] at hA;simp [keys] at hA
 | some d =>
  cases hd':B.dst with
  | none=>rw [hd'] at hB;simp [keys] at hB
  | some d' =>
   rw [hd] at hA h1
   rw [hd'] at hB h1
   simp only [keys,List.map_cons,List.map_nil,List.mem_singleton] at hA hB
   subst hA;subst hB
   simp at h1
theorem B1W (A:Z6) (t:Nat):t∈keys (wO A)↔∃ p∈A.wo,p.1=t:=by
 simp [keys,wO]
theorem C8U {A B:Z6} (h:A2q A B=false):∀ t∈B.ro,t ∉ keys (wO A):=by
 intro t ht hk
 simp only [A2q,Bool.or_eq_false_iff] at h
 have h1:=h.1.2
 obtain ⟨p,hp,rfl⟩:=(B1W A t).1 hk
 unfold B0I at h1
 rw [List.any_eq_false] at h1
 have:=h1 p hp
 simp only [Bool.or_eq_true,mem_iff,not_or] at this
 exact this.1 ht
theorem C8V {A B:Z6} (h:A2q A B=false):∀ t,t∈keys (wO A)→t ∉ keys (wO B):=by
 intro t hA hB
 simp only [A2q,Bool.or_eq_false_iff] at h
 have h1:=h.1.2
 obtain ⟨p,hp,rfl⟩:=(B1W A t).1 hA
 obtain ⟨q,hq,hqp⟩:=(B1W B p.1).1 hB
 unfold B0I at h1
 rw [List.any_eq_false] at h1
 have:=h1 p hp
 simp only [Bool.or_eq_true,mem_iff,not_or] at this
 exact this.2 (List.mem_map.2 ⟨q,hq,hqp⟩)
def left (D:Nat→Bool) (n:Nat):Nat:=((List.range n).filter fun j=>!D j).length
theorem B7y {D:Nat→Bool} {n i:Nat} (hi:i < n) (hD:D i=false):left (fun j=>j == i||D j) n < left D n:=by
 unfold left
 have key:∀ (l:List Nat),(l.filter fun j=>!(j == i||D j)).length≤(l.filter fun j=>!D j).length∧(i∈l→(l.filter fun j=>!(j == i||D j)).length < (l.filter fun j=>!D j).length):=by
  intro l
  induction l with
  | nil=>simp
  | cons k r ih =>
   by_cases hk:k=i
   ·subst hk
    simp only [beq_self_eq_true,Bool.true_or,Bool.not_true,Bool.false_eq_true,not_false_eq_true,List.filter_cons_of_neg,hD,Bool.not_false,List.filter_cons_of_pos,D52]
    refine ⟨by omega,fun _=>by omega⟩
   ·have hb:(k == i)=false:=by simpa using hk
    cases hDk:D k
    ·simp only [List.filter_cons,hb,hDk,Bool.false_or,Bool.not_false,if_true,D52]
     refine ⟨by omega,fun h=>?_⟩
     rcases List.mem_cons.1 h with h | h
     ·exact absurd h.symm hk
     ·have:=ih.2 h;omega
    ·simp only [List.filter_cons,hb,hDk,Bool.or_true,Bool.not_true,Bool.false_eq_true,if_false]
     refine ⟨ih.1,fun h=>?_⟩
     rcases List.mem_cons.1 h with h | h
     ·exact absurd h.symm hk
     ·exact ih.2 h
 exact (key _).2 (List.mem_range.2 hi)
theorem A78 {listed:Array Bool} {i:Nat} (h:i < listed.size):listed.getD i true=listed.getD i false:=by simp [h]
theorem C4N:∀ (Es:List Z6) (σ:St),(Es.foldl St.app σ).mks=σ.mks:=by
 intro Es
 induction Es with
 | nil=>intro σ;rfl
 | cons E r ih=>intro σ;exact ih _
theorem C4O {rd:Option Nat} {m:Nat} (hT:L8 T P) {K:KS} (hK:X9 P T K) {ops:Array Oper} {Q:Exit→Act→World→Prop} {n0 nt:Nat} {σ σ':St} {Es:List Z6} (hd:∀ o∈ops.toList,A4b nt o=true) (hr:P8 T K ops of ops.toList σ=some (Es,σ')) (hn:n0≤σ.nx) (hfit:A2U of of' eb n0 σ') (hcb:A2V 0 ops.toList=true) (hchk:∀ (p q:Nat) (A B:Z6),q < p→Es[p]? = some B→Es[q]? = some A→A2q A B=true→((A2K ops.toList []).getD p 0).testBit q=true)
  (hQ:∀ a' w',Sim T c eb of' n0 nt σ' a' w'→Q .normal a' w'):∀ (fuel:Nat) (listed:Array Bool) (D:Nat→Bool) (a:Act) (e:B4),listed.size=ops.size→(∀ j,j < ops.size→D j=listed.getD j false)→(∀ j,ops.size≤j→D j=false)→left D ops.size≤fuel →
   (∀ j o,D j=true→ops[j]? = some o→∀ e∈o.after,Region.binds .any e=true→D e.on=true) →
   Y8 T c eb (S1 D 0 (Es.map wS) (F1 σ.sl)) (S1 D 0 (Es.map wO) (C1 σ.ob of')) (fun id=>eb.U id∨(n0≤id∧id < σ.nx)∨∃ j E,D j=true∧Es[j]? = some E∧E.lo≤id∧id < E.hi) nt σ.mks a e →
   wpAnyIn (WF rd) m P .any ops Q fuel listed a e.w:=by
 obtain ⟨hσ,hlen0,hent⟩:=A2W _ _ _ _ hr
 have hnx:=C0B hr
 have hlen:Es.length=ops.size:=by rw [hlen0,D51]
 have hback:=A8O _ _ hcb
 have hopl:∀ j:Nat,ops.toList[j]? = ops[j]? := fun j=>Array.getElem?_toList
 have fin:∀ (D:Nat→Bool) (a:Act) (e:B4),(∀ j,j < ops.size→D j=true)→Y8 T c eb (S1 D 0 (Es.map wS) (F1 σ.sl)) (S1 D 0 (Es.map wO) (C1 σ.ob of')) (fun id=>eb.U id∨(n0≤id∧id < σ.nx)∨∃ j E,D j=true∧Es[j]? = some E∧E.lo≤id∧id < E.hi) nt σ.mks a e→Q .normal a e.w:=by
  intro D a e hall hst
  refine hQ _ _ ⟨e,rfl,?_⟩
  have e1:S1 D 0 (Es.map wS) (F1 σ.sl)=F1 σ'.sl:=by
   rw [hσ,A9q,A0t (D':=fun j=>decide (j < 0+Es.length)) _ _ _ (fun q hq=>by
    rw [D5Y] at hq
    rw [Nat.zero_add,hall q (by omega)];simp;omega),A0M,List.take_of_length_le (by simp)]
  have e2:S1 D 0 (Es.map wO) (C1 σ.ob of')=C1 σ'.ob of':=by
   rw [hσ,A9r,A0t (D':=fun j=>decide (j < 0+Es.length)) _ _ _ (fun q hq=>by
    rw [D5Y] at hq
    rw [Nat.zero_add,hall q (by omega)];simp;omega),A0M,List.take_of_length_le (by simp)]
  rw [e1,e2] at hst
  refine ⟨hst.os,hst.le,fun id A3=>?_,hst.sl,by rw [hσ,C4N];exact hst.def_,hst.nt⟩
  rw [hσ]
  have hlast:=hnx Es.length
  rw [List.take_length] at hlast
  rcases hst.U id A3 with h1 | h1 | ⟨j,E,-,hE,hid',hid2⟩
  ·exact .inl h1
  ·exact .inr ⟨h1.1,Nat.lt_of_lt_of_le h1.2 hlast.1⟩
  ·obtain ⟨q1,q2,q3⟩:=hlast.2 j E hE
   have:=q3 (List.getElem?_eq_some_iff.1 hE).1
   have q4:=((hnx j).1)
   exact .inr ⟨by omega,by omega⟩
 have ready_nil:∀ (listed:Array Bool) (D:Nat→Bool),listed.size=ops.size→(∀ j,j < ops.size→D j=listed.getD j false)→Region.ready .any ops listed=[]→∀ j,j < ops.size→D j=true:=by
  intro listed D hsz hD hnil j
  induction j using Nat.strongRecOn with
  | ind j ih =>
   intro hj
   cases hDj:D j with
   | true=>rfl
   | false =>
    have hmem:j∈Region.ready .any ops listed:=by
     rw [mem_ready]
     refine ⟨?_,ops[j],Array.getElem?_eq_getElem hj,fun e he hb=>?_⟩
     ·rw [A78 (by rw [hsz];exact hj),← hD j hj];exact hDj
     ·have hlt:=hback j ops[j] (by rw [hopl];exact Array.getElem?_eq_getElem hj) e he hb
      rw [Nat.zero_add] at hlt
      rw [← hD _ (by omega)]
      exact ih _ hlt (by omega)
    rw [hnil] at hmem;cases hmem
 intro fuel
 induction fuel with
 | zero =>
  intro listed D a e hsz hD hDout hleft hdown hst
  have hall:∀ j,j < ops.size→D j=true:=by
   intro j hj
   cases hDj:D j with
   | true=>rfl
   | false=>have:=B7y hj hDj;omega
  refine ⟨?_,fin D a e hall hst⟩
  cases hrd:Region.ready .any ops listed with
  | nil=>rfl
  | cons i r =>
   have hi:i∈Region.ready .any ops listed:=by rw [hrd];simp
   rw [mem_ready] at hi
   obtain ⟨h0,o,ho,-⟩:=hi
   have hlt:=(Array.getElem?_eq_some_iff.1 ho).1
   have:=hD i hlt
   rw [hall i hlt,← A78 (by rw [hsz];exact hlt),h0] at this
   cases this
 | succ fuel ih =>
  intro listed D a e hsz hD hDout hleft hdown hst
  refine ⟨fun hnil=>fin D a e (ready_nil listed D hsz hD hnil) hst,fun i hi=>?_⟩
  rw [mem_ready] at hi
  obtain ⟨h0,o,ho,hedges⟩:=hi
  have hlt:=(Array.getElem?_eq_some_iff.1 ho).1
  have hDi:D i=false:=by
   rw [hD i hlt,← A78 (by rw [hsz];exact hlt)];exact h0
  have hpreds:∀ e∈o.after,Region.binds .any e=true→D e.on=true:=fun e he hb=>by
   have hl:=hback i o (by rw [hopl];exact ho) e he hb
   rw [hD _ (by omega)];exact hedges e he hb
  obtain ⟨E,hE,hentE,hleE⟩:=hent i o (by rw [hopl];exact ho)
  obtain ⟨k1,k2,k3,k4⟩:=A1U hentE
  have hG:=B4m (D:=D) (G:=fun j=>∀ o,ops[j]? = some o→∀ e∈o.after,Region.binds .any e=true→D e.on=true) (fun j hj o ho=>hdown j o hj ho) ops.toList []
   (fun j _ p hp=>by simp at hp) (fun q o' hq hGq=>hGq o' (by simpa using hq))
  have hord:∀ q A,Es[q]? = some A→A2q A E=true→q≠i→D q=decide (q < i):=by
   intro q A hA hcf hqi
   rcases Nat.lt_or_gt_of_ne hqi with hlt' | hgt
   ·have:=hchk i q A E hlt' hE hA hcf
    rw [hG i (fun o' ho'=>by rw [ho] at ho';cases ho';exact hpreds) q this];simp [hlt']
   ·cases hDq:D q with
    | false=>simp;omega
    | true =>
     have:=hchk q i E A hgt hA hE (by rw [B0g];exact hcf)
     have hq:q < ops.size:=by rw [← hlen];exact (List.getElem?_eq_some_iff.1 hA).1
     have:=hG q (fun o' ho'=>hdown q o' hDq ho') i this
     rw [hDi] at this;cases this
  have hreadS:∀ t∈E.rs,S1 D 0 (Es.map wS) (F1 σ.sl) t=F1 ((Es.take i).foldl St.app σ).sl t:=by
   intro t ht
   rw [A9q,List.map_take,← A0M _ 0]
   refine A6Y _ 0 _ _ rfl (fun q l hq htl=>?_)
   rw [List.getElem?_map,Option.map_eq_some_iff] at hq
   obtain ⟨A,hA,rfl⟩:=hq
   rw [Nat.zero_add,Nat.zero_add]
   by_cases hqi:q=i
   ·subst hqi;rw [hDi];simp
   ·refine hord q A hA ?_ hqi
    cases hcf:A2q A E with
    | true=>rfl
    | false=>exact absurd htl (C8S hcf t ht)
  have hreadO:∀ t∈E.ro,S1 D 0 (Es.map wO) (C1 σ.ob of') t=C1 ((Es.take i).foldl St.app σ).ob of' t:=by
   intro t ht
   rw [A9r,List.map_take,← A0M _ 0]
   refine A6Y _ 0 _ _ rfl (fun q l hq htl=>?_)
   rw [List.getElem?_map,Option.map_eq_some_iff] at hq
   obtain ⟨A,hA,rfl⟩:=hq
   rw [Nat.zero_add,Nat.zero_add]
   by_cases hqi:q=i
   ·subst hqi;rw [hDi];simp
   ·refine hord q A hA ?_ hqi
    cases hcf:A2q A E with
    | true=>rfl
    | false=>exact absurd htl (C8U hcf t ht)
  have hlater:∀ q A,i < q→Es[q]? = some A→D q=true→A2q E A=false:=by
   intro q A hq hA hDq
   cases hcf:A2q E A with
   | false=>rfl
   | true =>
    have:=hord q A hA (by rw [B0g];exact hcf) (by omega)
    rw [hDq] at this;simp at this;omega
  have hagree:∀ id∈E.ro,C1 ((Es.take i).foldl St.app σ).ob of' id=C1 ((Es.take i).foldl St.app σ).ob of id:=A0d hfit.rd hleE.1
  refine B2u hT hK ho hst.os hentE (fun id A3=>(hreadO id A3).trans (hagree id A3)) (fun id h1 h2 hu=>?_) (fun t ht=>by rw [← hreadS t ht];exact hst.sl t) (fun x w' hl=>?_)
  ·have hge:=(hnx i).1
   have hhi:id < σ'.nx:=Nat.lt_of_lt_of_le h2 hleE.2
   rcases hst.U id hu with h3 | h3 | ⟨j,A,hDj,hA,hid1,hid2⟩
   ·exact hfit.fr id (by omega) hhi h3
   ·omega
   ·rcases Nat.lt_trichotomy j i with hji | hji | hji
    ·have:=((hnx i).2 j A hA).2.2 hji;omega
    ·subst hji;rw [hDi] at hDj;cases hDj
    ·have q1:=((hnx j).2 j A hA).1
     have q2:=((hnx j).2 i E hE).2.2 hji
     omega
  ·obtain ⟨e',rfl,hst'⟩:=hst.step hl (fun d hd'=>by
    have:=hd o (List.mem_of_getElem? (by rw [hopl];exact ho))
    unfold A4b at this
    rw [← k3,hd'] at this
    simpa [Nat.blt_eq] using this)
   refine ih (listed.setIfInBounds i true) (fun j=>j == i||D j) _ e' (by simp [hsz]) (fun j hj=>?_) (fun j hj=>?_) (by have:=B7y hlt hDi;omega) (fun j o' hj ho' e he hb=>?_) ?_
   ·by_cases hji:j=i
    ·subst hji;simp [Array.getD,hsz,hj]
    ·rw [getD_set_ne false (Ne.symm hji),← hD j hj];simp [hji]
   ·have:j≠i:=by omega
    simp [this,hDout j hj]
   ·simp only [Bool.or_eq_true,beq_iff_eq] at hj ⊢
    right
    rcases hj with rfl | hj
    ·rw [ho] at ho';cases ho';exact hpreds e he hb
    ·exact hdown j o' hj ho' e he hb
   ·have f1:=A4a (D:=D) (Es.map wS) 0 i (F1 σ.sl) (wS E) (by rw [List.getElem?_map,hE];rfl) (by rw [Nat.zero_add];exact hDi) (fun q l' hq hl' hDq=>by
     rw [List.getElem?_map,Option.map_eq_some_iff] at hl'
     obtain ⟨A,hA,rfl⟩:=hl'
     rw [Nat.zero_add] at hDq
     exact C8T (hlater q A hq hA hDq))
    have f2:=A4a (D:=D) (Es.map wO) 0 i (C1 σ.ob of') (wO E) (by rw [List.getElem?_map,hE];rfl) (by rw [Nat.zero_add];exact hDi) (fun q l' hq hl' hDq=>by
     rw [List.getElem?_map,Option.map_eq_some_iff] at hl'
     obtain ⟨A,hA,rfl⟩:=hl'
     rw [Nat.zero_add] at hDq
     exact C8V (hlater q A hq hA hDq))
    simp only [Nat.zero_add] at f1 f2
    rw [f1,f2]
    refine ⟨hst'.os,hst'.le,fun id A3=>?_,hst'.sl,hst'.def_,hst'.nt⟩
    rcases hst'.U id A3 with (h1 | h1 | ⟨j,A,hDj,hA,hid'⟩) | h1
    ·exact .inl h1
    ·exact .inr (.inl h1)
    ·exact .inr (.inr ⟨j,A,by simp [hDj],hA,hid'⟩)
    ·exact .inr (.inr ⟨i,E,by simp,hE,h1⟩)
variable {P:Program} {T:TT} {c:J8} {e eb:B4} {of of':Nat→Option Ob}
def C8W {α:Type} (cf:α→α→Bool) (B:α) (m:Nat):List α→Nat→Bool
 | [],_=>true
 | A::r,j=>(!(cf A B)||m.testBit j)&&C8W cf B m r (j+1)
def C8X {α:Type} (cf:α→α→Bool) (Es:List α) (ms:List Nat):Nat→List α→Bool
 | _,[]=>true
 | i,B::r=>C8W cf B (ms.getD i 0) (Es.take i) 0&&C8X cf Es ms (i+1) r
theorem B9k {α:Type} {cf:α→α→Bool} {B:α} {m:Nat}:∀ (l:List α) (j:Nat),C8W cf B m l j=true→∀ (q:Nat) A,l[q]? = some A→cf A B=true→m.testBit (j+q)=true:=by
 intro l
 induction l with
 | nil=>intro j _ q A h;simp at h
 | cons A0 r ih =>
  intro j h q A hq hc
  simp only [C8W,D5V,Bool.or_eq_true,Bool.not_eq_true'] at h
  cases q with
  | zero =>
   simp only [List.getElem?_cons_zero,D5X] at hq
   subst hq
   rcases h.1 with h1 | h1
   ·rw [hc] at h1;cases h1
   ·exact h1
  | succ q=>rw [show j+(q+1)=j+1+q by omega];exact ih (j+1) h.2 q A (by simpa using hq) hc
theorem B9l {α:Type} {cf:α→α→Bool} {Es:List α} {ms:List Nat}:∀ (l:List α) (i:Nat),(∀ q:Nat,l[q]? = Es[i+q]?)→C8X cf Es ms i l=true→∀ (p q:Nat) A B,i≤p→q < p→Es[p]? = some B→Es[q]? = some A→cf A B=true→(ms.getD p 0).testBit q=true:=by
 intro l
 induction l with
 | nil =>
  intro i hl _ p q A B hip hqp hB hA _
  have:=hl (p - i)
  rw [show i+(p - i)=p by omega,hB] at this
  simp at this
 | cons B0 r ih =>
  intro i hl h p q A B hip hqp hB hA hc
  simp only [C8X,D5V] at h
  by_cases hpi:p=i
  ·subst hpi
   have h0:=hl 0
   rw [Nat.add_zero,hB,List.getElem?_cons_zero,D5X] at h0
   subst h0
   have:=B9k (Es.take p) 0 h.1 q A (by rw [List.getElem?_take_of_lt hqp];exact hA) hc
   rwa [Nat.zero_add] at this
  ·exact ih (i+1) (fun q=>by have:=hl (q+1);simpa [Nat.add_assoc,Nat.add_comm 1 q] using this) h.2 p q A B (by omega) hqp hB hA hc
def D0K (ops:Array Oper) (x y:Oper):Bool:=B8c x.dst (y.looksAt ops)||B8c y.dst (x.looksAt ops)||A9p x.dst y.dst
def B3t (nt:Nat) (ops:Array Oper):Bool:=ops.toList.all (A4b nt)&&A2V 0 ops.toList&&C8X (D0K ops) ops.toList (A2K ops.toList []) 0 ops.toList
def C4P (ms:List Nat) (i j:Nat):Bool:=bif Nat.blt i j then (ms.getD j 0).testBit i else (ms.getD i 0).testBit j
def C8Y (wo:List (Nat×Ob)) (i:Nat) (ms:List Nat):Nat→List Z6→Bool
 | _,[]=>true
 | j,B::r=>(Nat.beq i j||!(B0I wo B)||C4P ms i j)&&C8Y wo i ms (j+1) r
def A84 (ms:List Nat) (Es:List Z6):Nat→List Z6→Bool
 | _,[]=>true
 | i,E::r=>(match E.wo with
  | []=>true
  | q::l=>C8Y (q::l) i ms 0 Es)&&A84 ms Es (i+1) r
theorem B9m {wo:List (Nat×Ob)} {i:Nat} {ms:List Nat}:∀ (l:List Z6) (j:Nat),C8Y wo i ms j l=true→∀ (q:Nat) B,l[q]? = some B→B0I wo B=true→i≠j+q→C4P ms i (j+q)=true:=by
 intro l
 induction l with
 | nil=>intro j _ q B h;simp at h
 | cons A0 r ih =>
  intro j h q B hq hc hne
  simp only [C8Y,D5V,Bool.or_eq_true,Bool.not_eq_true'] at h
  cases q with
  | zero =>
   simp only [List.getElem?_cons_zero,D5X] at hq
   subst hq
   rcases h.1 with (h1 | h1) | h1
   ·exact absurd (D5U h1) hne
   ·rw [hc] at h1;cases h1
   ·exact h1
  | succ q=>rw [show j+(q+1)=j+1+q by omega];exact ih (j+1) h.2 q B (by simpa using hq) hc (by omega)
theorem B0h {Es:List Z6} {ms:List Nat}:∀ (l:List Z6) (i:Nat),(∀ q:Nat,l[q]? = Es[i+q]?)→A84 ms Es i l=true→∀ (p q:Nat) A B,i≤p→p≠q→Es[p]? = some A→Es[q]? = some B→B0I A.wo B=true→C4P ms p q=true:=by
 intro l
 induction l with
 | nil =>
  intro i hl _ p q A B hip hpq hA hB _
  have:=hl (p - i)
  rw [show i+(p - i)=p by omega,hA] at this
  simp at this
 | cons A0 r ih =>
  intro i hl h p q A B hip hpq hA hB hc
  simp only [A84,D5V] at h
  by_cases hpi:p=i
  ·subst hpi
   have h0:=hl 0
   rw [Nat.add_zero,hA,List.getElem?_cons_zero,D5X] at h0
   subst h0
   have h1:=h.1
   cases hw:A0.wo with
   | nil=>rw [hw] at hc;simp [B0I] at hc
   | cons x y =>
    rw [hw] at h1 hc
    have:=B9m Es 0 h1 q B hB hc (by omega)
    rwa [Nat.zero_add] at this
  ·exact ih (i+1) (fun q=>by have:=hl (q+1);simpa [Nat.add_assoc,Nat.add_comm 1 q] using this) h.2 p q A B (by omega) hpq hA hB hc
theorem B3u {rd:Option Nat} {m:Nat} (hm:P.follows .mixedOrders=true) (hT:L8 T P) {K:KS} (hK:X9 P T K) {id:Nat} {ops:Array Oper} {Q:Exit→Act→World→Prop} {n0 nt:Nat} {σ σ':St} {Es:List Z6} {a:Act} {w:World} (hs1:B3t nt ops=true) (hr:P8 T K ops of ops.toList σ=some (Es,σ')) (hs2:A84 (A2K ops.toList []) Es 0 Es=true)
  (hn:n0≤σ.nx) (hfit:A2U of of' eb n0 σ') (hs:Sim T c eb of' n0 nt σ a w) (hQ:∀ a' w',Sim T c eb of' n0 nt σ' a' w'→Q .normal a' w'):(Code.region id ops true).wpIn (WF rd) m P Q a w:=by
 simp only [B3t,D5V] at hs1
 obtain ⟨⟨hd,hb⟩,hsl⟩:=hs1
 obtain ⟨hσ,hlen0,hent⟩:=A2W _ _ _ _ hr
 have hord:∀ (p q:Nat) (A B:Z6),q < p→Es[p]? = some B→Es[q]? = some A→A2q A B=true→((A2K ops.toList []).getD p 0).testBit q=true:=by
  intro p q A B hqp hB hA hc
  have hp':p < ops.toList.length:=by rw [← hlen0];exact (List.getElem?_eq_some_iff.1 hB).1
  have hq':q < ops.toList.length:=by omega
  obtain ⟨A',gA,kA,_⟩:=hent q ops.toList[q] (D57 hq')
  obtain ⟨B',gB,kB,_⟩:=hent p ops.toList[p] (D57 hp')
  rw [hA] at gA;cases gA
  rw [hB] at gB;cases gB
  obtain ⟨_,_,a3,a4⟩:=A1U kA
  obtain ⟨_,_,b3,b4⟩:=A1U kB
  unfold A2q at hc
  rw [Bool.or_eq_true,Bool.or_eq_true] at hc
  rcases hc with (hc | hc) | hc
  ·refine B9l ops.toList 0 (fun q=>by rw [Nat.zero_add]) hsl p q _ _ (Nat.zero_le _) hqp (D57 hp') (D57 hq') ?_
   unfold D0K
   rw [← a3,← b3,← a4,← b4];exact hc
  ·have:=B0h Es 0 (fun q=>by rw [Nat.zero_add]) hs2 q p A B (Nat.zero_le _) (by omega) hA hB hc
   unfold C4P at this
   rw [show Nat.blt q p=true from by simpa [Nat.blt_eq] using hqp] at this
   exact this
  ·have:=B0h Es 0 (fun q=>by rw [Nat.zero_add]) hs2 p q B A (Nat.zero_le _) (by omega) hB hA hc
   unfold C4P at this
   rw [show Nat.blt p q=false from by rw [← Bool.not_eq_true,Nat.blt_eq];omega] at this
   exact this
 obtain ⟨e,rfl,hst⟩:=hs
 refine wpIn_region_any hm ?_
 obtain ⟨h1,h2⟩:=hst.os.same_heap (w':={ e.w with drawn:=e.w.drawn+1 }) rfl rfl rfl rfl
 refine C4O hT hK (List.all_eq_true.1 hd) hr hn hfit hb hord hQ ops.size (Array.replicate ops.size false) (fun _=>false) a { e with w:={ e.w with drawn:=e.w.drawn+1 } } (by simp) (fun j hj=>?_) (fun _ _=>rfl) ?_ (fun j o hj=>by cases hj) ?_
 ·simp [Array.getD,hj]
 ·unfold left
  have:=List.length_filter_le (fun j=>!(fun _=>false:Nat→Bool) j) (List.range ops.size)
  rwa [List.length_range] at this
 ·rw [A3P _ 0 _ (fun _ _=>rfl),A3P _ 0 _ (fun _ _=>rfl)]
  exact ⟨h1,hst.le.trans h2,fun id A3=>(hst.U id A3).imp (fun q=>q) .inl,fun t=>(hst.sl t).mono h2,hst.def_.mono h2,hst.nt⟩
def B3v (f:Nat→Option Ob):List (Nat×Ob)→List Nat
 | []=>[]
 | (id,o)::r=>bif A89 o then (match f id with
  | some o0=>bif A89 o0 then B3v f r else id::B3v f r
  | none=>B3v f r) else B3v f r
def C8Z (f:Nat→Option Ob):List Z6→List Nat
 | []=>[]
 | E::r=>B3v f E.wo++C8Z f r
def St.pre (of:Nat→Option Ob) (σ:St) (l:List Nat):St:={ σ with ob:=A1p σ.ob (shW (C1 σ.ob of) l),rd:=A1D σ.ob l σ.rd }
theorem St.pre_le (σ:St) (l:List Nat):σ.le (σ.pre of l):=⟨T8 _ _ _,Nat.le_refl _⟩
theorem B9n {f g:Nat→Option Ob}:∀ l:List Nat,(∀ id∈l,f id=g id)→shW f l=shW g l:=by
 intro l
 induction l with
 | nil=>intro _;rfl
 | cons k r ih =>
  intro h
  simp only [shW]
  rw [h k (List.mem_cons_self ..),ih (fun id A3=>h id (List.mem_cons_of_mem _ A3))]
theorem Sim.pre {n0 nt:Nat} {σ:St} {a:Act} {w:World} (h:Sim T c eb of' n0 nt σ a w) {l:List Nat} (ho:∀ id∈(σ.pre of l).rd,of' id=of id):Sim T c eb of' n0 nt (σ.pre of l) a w:=by
 obtain ⟨e,rfl,hst⟩:=h
 have hag:∀ id∈l,C1 σ.ob of' id=C1 σ.ob of id:=A0d (ob:=σ.ob) (l:=σ.rd) ho (fun _ h=>h)
 refine ⟨e,rfl,?_,hst.le,hst.U,hst.sl,hst.def_,hst.nt⟩
 show A5 T c e (C1 (A1p σ.ob (shW (C1 σ.ob of) l)) of')
 rw [A0Y,← B9n l hag]
 exact hst.os.weak (C6k l).1
abbrev A3B:=Code→Option ((Nat→Option Ob)→St→Option (Exit×St))
def A5W:List (Nat×A)→List Nat→List Nat
 | [],ks=>ks
 | (k,_)::r,ks=>bif mem k ks then A5W r ks else A5W r (k::ks)
def A1y (l:List (Nat×A)):List Nat→List (Nat×A)
 | []=>[]
 | k::r=>(k,F1 l k)::A1y l r
def St.tidy (σ:St) (ks:List Nat):St:={ σ with sl:=A1y σ.sl ks }
theorem B0i (l:List (Nat×A)):∀ (ks:List Nat) (t:Nat),F1 (A1y l ks) t=.x∨F1 (A1y l ks) t=F1 l t:=by
 intro ks
 induction ks with
 | nil=>intro t;exact .inl rfl
 | cons k r ih =>
  intro t
  rw [A1y,J3]
  by_cases h:t=k
  ·subst h;rw [upd_same];exact .inr rfl
  ·rw [upd_ne _ _ h];exact ih t
theorem Sim.tidy {n0 nt:Nat} {σ:St} {a:Act} {w:World} (h:Sim T c eb of n0 nt σ a w) (ks:List Nat):Sim T c eb of n0 nt (σ.tidy ks) a w:=by
 obtain ⟨e,rfl,hst⟩:=h
 refine ⟨e,rfl,hst.os,hst.le,hst.U,fun t=>?_,hst.def_,hst.nt⟩
 rcases B0i σ.sl ks t with h | h
 ·show C2 T e (F1 (A1y σ.sl ks) t) _
  rw [h];trivial
 ·show C2 T e (F1 (A1y σ.sl ks) t) _
  rw [h];exact hst.sl t
theorem A5.writeG (h:A5 T c e of) {id:Nat} {o o':Ob} (ho:of id=some o) {b q:Nat} (hι:e.ι id=some (b,q)) {g g':Go.Obj} (h0:e.w.heap[b]? = some g) (hg:∀ cs t fz,g≠.cells cs t fz) (hg':∀ cs t fz,g'≠.cells cs t fz) {w':World} (hw:w'={ e.w with heap:=e.w.heap.setIfInBounds b g' })
  (hok:e.le { e with w:=w' }→w'.heap[b]? = some g'→OK T { e with w:=w' } id o'):A5 T c { e with w:=w' } (F8 of id (some o'))∧e.le { e with w:=w' }:=by
 have hlt:b < e.w.heap.size:=(Array.getElem?_eq_some_iff.1 h0).1
 have h1:w'.heap[b]? = some g':=by rw [hw];simp [hlt]
 have hne:∀ k,k≠b→w'.heap[k]? = e.w.heap[k]? := fun k hk=>by rw [hw];simp [Ne.symm hk]
 have hsz:w'.heap.size=e.w.heap.size:=by rw [hw];simp
 have hln:∀ k,blen w' k=blen e.w k:=fun k=>by
  by_cases hk':k=b
  ·subst hk'
   unfold blen
   rw [h0,h1]
   cases g<;>cases g'<;>first | rfl | exact absurd rfl (hg _ _ _) | exact absurd rfl (hg' _ _ _)
  ·exact D9 (hne _ hk')
 have hle:e.le { e with w:=w' }:=by
  refine ⟨fun k i hs=>⟨hs,fun x hx=>?_⟩,fun _ hu=>hu,fun j hu _=>⟨rfl,rfl,fun k q' hk=>hln k⟩,fun _ _ h=>h,fun _ _=>Nat.le_refl _,fun _ _=>rfl,by show _≤w'.heap.size;omega,fun k _=>hln k⟩
  by_cases hk:k=b
  ·subst hk
   exfalso
   unfold World.cell? at hx
   rw [h0] at hx
   cases g<;>first | (exact absurd rfl (hg _ _ _)) | (simp at hx;done)
  ·rw [← hx];exact F7 (hne _ hk)
 exact ⟨h.turn ho hle (fun _ _=>rfl) (fun _ _=>rfl) (fun _ hu=>hu) (fun k _ hk=>hne k (fun hkb=>hk q (by rw [hkb];exact hι))) (by show _≤w'.heap.size;omega) (fun _ _ hs=>.inl hs) (fun k q' hk=>.inl ⟨q',hk⟩) (by rw [hw]) (by rw [hw]) (by rw [hw]) (hok hle h1),hle⟩
theorem T7 {w:World} {r:Nat} {o:Go.Obj} (o':Go.Obj) (hb:w.heap[r]? = some o) (hg:∀ cs t fz,o≠.cells cs t fz:=by intro _ _ _ h;cases h):(setObj r o').run P w=.ok () { w with heap:=w.heap.setIfInBounds r o' }:=by
 cases o<;>first | exact absurd rfl (hg _ _ _) | simp [setObj,Sem.run,hb]
theorem A0F {w:World} {r:Nat} {o:Go.Obj} (hb:w.heap[r]? = some o) (hg:∀ cs t fz,o≠.cells cs t fz:=by intro _ _ _ h;cases h):(getObj r).run P w=.ok o w:=by
 cases o<;>first | exact absurd rfl (hg _ _ _) | simp [getObj,Sem.run,hb]
theorem B5A {w:World} (o:Go.Obj):(newObj o).run P w=.ok w.heap.size (w.alloc o):=by
 simp [newObj,Sem.run]
def A5X (l:List (Nat×A)):List Nat→List (Nat×A)
 | []=>[]
 | k::r=>match F1 l k with
  | .t _=>A5X l r
  | v=>(k,v)::A5X l r
theorem B9o (l:List (Nat×A)):∀ (ks:List Nat),∀ p∈A5X l ks,p.2=F1 l p.1∧∀ q,p.2≠.t q:=by
 intro ks
 induction ks with
 | nil=>intro p h;cases h
 | cons k r ih =>
  intro p h
  simp only [A5X] at h
  split at h
  ·exact ih p h
  ·rename_i hne
   rcases List.mem_cons.1 h with rfl | h
   ·exact ⟨rfl,fun q hq=>hne q hq⟩
   ·exact ih p h
def A85 (T:TT) (eb:B4) (of':Nat→Option Ob):Prop:=∀ id o,of' id=some o→OK T eb id o
def A4I (P:Program) (T:TT) (nt n0:Nat) (of:Nat→Option Ob) (code:Code) (σ:St) (ex:Exit) (σ':St):Prop :=
 σ.le σ'∧∀ (m:Nat) (of':Nat→Option Ob) (c:J8) (eb:B4) (a:Act) (w:World),n0≤σ.nx→A2U of of' eb n0 σ'→A85 T eb of'→Sim T c eb of' n0 nt σ a w→code.wpIn (WF c.rd) m P (fun e a' w'=>e=ex∧Sim T c eb of' n0 nt σ' a' w') a w
def B1X:LoopState→Bool
 | .busy=>false
 | _=>true
def B3w:Option Code→Option Exit
 | none=>some .normal
 | some .ret=>some .ret
 | some (.exit k)=>some (.exit k)
 | _=>none
def A79 (T:TT) (K:KS) (nt:Nat) (of:Nat→Option Ob) (g:Operand) (ps:Array Nat) (asg body:Code) (σ:St):Option (Exit×St) :=
 match σ.mks,evO (F1 σ.sl) g with
 | some l,.f f cap =>
  if K.ord f&&cap.all (A0s T) then
   (fun (ob1:Tr)=>match K.f f (.y (σ.nx+1)::cap) (C1 ob1 of) (σ.nx+2) with
   | some out=>if Nat.ble (σ.nx+2) out.nx then
     (fun (ob2:Tr)=>match ob2.get (σ.nx+1) with
     | some (.lp (some r))=>match B1X r.st,B3w r.pend with
      | true,some ex=>some (ex,⟨σ.sl,ob2.set (σ.nx+1) (.lp (some { r with st:=.exhausted })),A1D ob1 out.ro σ.rd,out.nx,some (σ.nx::l)⟩)
      | _,_=>none
     | _=>none) (A1p ob1 out.wo) else none
   | none=>none) ((σ.ob.set σ.nx (.lp none)).set (σ.nx+1) (.lp (some ⟨nt,A5X σ.sl (A5W σ.sl []),ps,asg,body,.ready,none⟩)))
  else none
 | _,_=>none
theorem B9p {v:A} {x:Value} (h:C2 T e v x) (hv:∀ l,v≠.t l):H5 T e v x:=by
 cases v with
 | t l=>exact absurd rfl (hv l)
 | _=>exact h
theorem A3o {ob:Tr} {of:Nat→Option Ob} {id:Nat} {o:Ob} (h:ob.get id=some o):C1 ob of id=some o:=by
 unfold C1;rw [h]
theorem B9q {K:KS} (hK:X9 P T K) {nt n0:Nat} {g:Operand} {ps:Array Nat} {asg body:Code} {σ:St} {ex:Exit} {σ':St} (hr:A79 T K nt of g ps asg body σ=some (ex,σ')):A4I P T nt n0 of (.rangeFunc g ps asg body) σ ex σ':=by
 unfold A79 at hr
 split at hr<;>try (cases hr;done)
 rename_i l f cap hmk hg
 split at hr<;>try (cases hr;done)
 rename_i hcc
 simp only [D5V] at hcc
 obtain ⟨hord,hcap⟩:=hcc
 generalize hlr:(⟨nt,A5X σ.sl (A5W σ.sl []),ps,asg,body,.ready,none⟩:LR)=lr at hr
 generalize hob1:(σ.ob.set σ.nx (.lp none)).set (σ.nx+1) (.lp (some lr))=ob1 at hr
 simp only at hr
 split at hr<;>try (cases hr;done)
 rename_i out hout
 split at hr<;>try (cases hr;done)
 rename_i hnx
 have hnx:=D50 hnx
 split at hr<;>try (cases hr;done)
 rename_i r hget
 split at hr<;>try (cases hr;done)
 rename_i ex' hbusy hjump
 simp only [D5X,Prod.mk.injEq] at hr
 obtain ⟨rfl,rfl⟩:=hr
 refine ⟨⟨T8 _ _ _,by show σ.nx≤out.nx;omega⟩,fun m of' c eb a w hn hfit hbs hs=>?_⟩
 obtain ⟨e,rfl,hst⟩:=hs
 have hdef:=hst.def_
 rw [hmk] at hdef
 obtain ⟨hrd,hml⟩:=hdef
 have hnu:∀ id,σ.nx≤id→id < out.nx→¬ e.U id:=fun id h1 h2 hu=>by
  rcases hst.U id hu with h3 | h3
  ·exact hfit.fr id (by omega) h2 h3
  ·omega
 have hu1:¬ e.U σ.nx:=hnu _ (Nat.le_refl _) (by omega)
 let e1:=e.newM σ.nx (.deferred (some []))
 have ok1:OK T e1 σ.nx (.lp none):=⟨.inl rfl,upd_same _ _ _,e.w.heap.size,upd_same _ _ _,Q1 _ _⟩
 have os1:A5 T c e1 (F8 (C1 σ.ob of') σ.nx (some (.lp none))):=hst.os.newM hu1 ok1
 have le1:e.le e1:=hst.os.le_newM hu1 _
 have hu2:¬ e1.U (σ.nx+1):=by
  rintro (h | h)
  ·omega
  ·exact hnu _ (by omega) (by omega) h
 have hsz1:e1.w.heap.size=e.w.heap.size+1:=G4 _ _
 refine wpIn_rangeFunc (fun fn _=>?_)
 let rec_:Loop:={ state:=.ready,pending:=none,fn:=fn,tmps:=a.tmps,params:=ps,assign:=asg,body:=body,defers:=e.w.heap.size }
 let e2:=e1.newM (σ.nx+1) (.loop rec_)
 have le2:e1.le e2:=os1.le_newM hu2 _
 have le02:=le1.trans le2
 have ok2:OK T e2 (σ.nx+1) (.lp (some lr)):=by
  refine ⟨.inl rfl,upd_same _ _ _,e1.w.heap.size,a.tmps,e.w.heap.size,fn,upd_same _ _ _,?_,?_,fun p hp=>?_⟩
  ·rw [← hlr];exact Q1 _ _
  ·rw [← hlr];exact hst.nt
  ·rw [← hlr] at hp
   obtain ⟨h1,h2⟩:=B9o _ _ p hp
   refine B9p ?_ h2
   rw [h1]
   exact (hst.sl p.1).mono le02
 have os2:A5 T c e2 (C1 ob1 of'):=by
  rw [← hob1,X1,X1]
  exact os1.newM hu2 ok2
 have ι2:e2.ι (σ.nx+1)=some (e.w.heap.size+1,0):=by rw [← hsz1];exact upd_same _ _ _
 have hgv:=B4i (T:=T) (e:=e) (sl:=F1 σ.sl) (a:=a) (x:=g) (fun t _=>hst.sl t)
 rw [hg] at hgv
 obtain ⟨vs,hv,hvs⟩:=A2a hgv
 have hcaps:=B6E (hvs.mono le02) hcap
 have hent:(Instr.enterLoop fn a.tmps ps asg body c.rd).run P e.w=.ok (e.w.heap.size+1,[{ target:=.collected e.w.heap.size,args:=#[] }]) e2.w:=by
  rw [hrd]
  simp only [Instr.enterLoop,Sem.run_bind,B5A,Result.andThen_ok,Sem.run_pure]
  rw [← hsz1]
  rfl
 have hyr:C2 T e2 (.y (σ.nx+1)) (.func (.yield (e.w.heap.size+1)) #[] #[]):=RA.r ⟨e.w.heap.size+1,.inl rfl,upd_same _ _ _,ι2,rfl⟩ rfl .nil
 have hdoes:=hK.f f c e2 (C1 ob1 of) (C1 ob1 of') (.y (σ.nx+1)::cap) (#[.func (.yield (e.w.heap.size+1)) #[] #[]]++vs.toArray) (σ.nx+2) out os2 hout
  (A0d hfit.rd (fun id A3=>A3)) (fun id h1 h2=>by
   rintro (h | h | h)
   ·omega
   ·omega
   ·exact hnu id (by omega) h2 h) (by simpa using T2.cons hyr hcaps)
 have hen:=hK.ord f hord (#[.func (.yield (e.w.heap.size+1)) #[] #[]]++vs.toArray) e2.w
 have hcalls:Calls P f (#[.func (.yield (e.w.heap.size+1)) #[] #[]]++vs.toArray) e2.w fun en w'=>∃ x,en=.returned x∧V2 T c e2 (C1 ob1 of') (σ.nx+2) out x w':=by
  rcases hdoes with ⟨x,w',h1,_⟩ | ⟨w',h1,_⟩ | ⟨f',args,w1,h1,h2⟩ | ⟨_,_,_,_,_,w1,h1,_⟩
  ·rw [hen] at h1;cases h1
  ·rw [hen] at h1;cases h1
  ·rw [hen] at h1;cases h1;exact h2
  ·rw [hen] at h1;cases h1
 refine ⟨e.w.heap.size+1,[{ target:=.collected e.w.heap.size,args:=#[] }],e2.w,{ target:=.fn (.func f) vs.toArray,args:=#[.func (.yield (e.w.heap.size+1)) #[] #[]] },e2.w,f,_,e2.w,hent,?_,fun _ _=>trivial,?_,fun h=>(by cases h),CallsIn.mono (A6W hcalls) fun en w3 hw3=>?_⟩
 ·have hcst:∀ v,a.eval (.const v)=v:=fun _=>rfl
  simp [resolve,rangeCall,hv,hcst,Deferred.ofValue]
 ·simpa [Deferred.ofValue,invoke] using hen
 ·obtain ⟨x,rfl,e3,rfl,os3,le3,u3,_⟩:=hw3
  have hob2:put (C1 ob1 of') out.wo=C1 (A1p ob1 out.wo) of':=(A0Y _ _ _).symm
  rw [hob2] at os3
  obtain ⟨k1,k2,b,tm,df,fn',k3,k4,k5,k6⟩:=os3.ok _ _ (A3o hget)
  have hι3:e3.ι (σ.nx+1)=some (e.w.heap.size+1,0):=by
   have:=(le3.obj (σ.nx+1) (.inl rfl) (k2.trans (upd_same _ _ _).symm)).1
   rw [this];exact ι2
  rw [hι3] at k3
  cases k3
  have hnb:r.st≠.busy:=by intro h;rw [h] at hbusy;cases hbusy
  let r4:Loop:={ state:=.exhausted,pending:=r.pend,fn:=fn',tmps:=tm,params:=r.ps,assign:=r.asg,body:=r.body,defers:=df }
  let w4:World:={ e3.w with heap:=e3.w.heap.setIfInBounds (e.w.heap.size+1) (.loop r4) }
  obtain ⟨os4,le4⟩:=os3.writeG (o':=.lp (some { r with st:=.exhausted })) (A3o hget) hι3 k4 (fun _ _ _ h=>by cases h) (g':=.loop r4) (fun _ _ _ h=>by cases h) (w':=w4) rfl
   (fun hle hh=>⟨k1,k2,e.w.heap.size+1,tm,df,fn',hι3,hh,k5,fun p hp=>(k6 p hp).mono hle⟩)
  have hend:(Instr.endLoop (e.w.heap.size+1)).run P e3.w=.ok r.pend w4:=by
   simp only [Instr.endLoop,Instr.getLoop,Sem.run_bind,A0F k4,Result.andThen_ok,Sem.run_pure,T7 _ k4]
   have:(r.st == LoopState.busy)=false:=by
    cases hrs:r.st<;>first | rfl | exact absurd hrs hnb
   simp [this,w4,r4,T7 _ k4]
  have hle04:e.le { e3 with w:=w4 }:=(le02.trans le3).trans le4
  have hsim:Sim T c eb of' n0 nt ⟨σ.sl,(A1p ob1 out.wo).set (σ.nx+1) (.lp (some { r with st:=.exhausted })),A1D ob1 out.ro σ.rd,out.nx,some (σ.nx::l)⟩ { a with defers:=[{ target:=.collected e.w.heap.size,args:=#[] }]++a.defers } w4:=by
   refine ⟨{ e3 with w:=w4 },rfl,?_,hst.le.trans hle04,fun id A3=>?_,fun t=>(hst.sl t).mono hle04,?_,hst.nt⟩
   ·rw [X1];exact os4
   ·rcases u3 id A3 with (h | h | h) | h
    ·subst h;exact .inr ⟨by omega,by show _ < out.nx;omega⟩
    ·subst h;exact .inr ⟨by omega,by show _ < out.nx;omega⟩
    ·rcases hst.U id h with h | h
     ·exact .inl h
     ·exact .inr ⟨h.1,by show _ < out.nx;omega⟩
    ·exact .inr ⟨by omega,h.2⟩
   ·refine ⟨hrd,.cons ?_ ?_ ?_ (hml.mono hle04)⟩
    ·exact le4.use _ (le3.use _ (.inr (.inl rfl)))
    ·have:e2.bn σ.nx=0:=by
      show F8 (F8 e.bn σ.nx 0) (σ.nx+1) 0 σ.nx=0
      rw [upd_ne _ _ (by omega),upd_same]
     exact le3.box _ (.inr (.inl rfl)) this
    ·have h0:e2.bn σ.nx=0:=by
      show F8 (F8 e.bn σ.nx 0) (σ.nx+1) 0 σ.nx=0
      rw [upd_ne _ _ (by omega),upd_same]
     have h1:=le3.box _ (.inr (.inl rfl)) h0
     have h2:=(le3.obj σ.nx (.inr (.inl rfl)) (h1.trans h0.symm)).1
     show e3.ι σ.nx=_
     rw [h2]
     show F8 (F8 e.ι σ.nx (some (e.w.heap.size,0))) (σ.nx+1) _ σ.nx=_
     rw [upd_ne _ _ (by omega),upd_same]
  refine ⟨r.pend,w4,hend,?_⟩
  generalize (⟨σ.sl,(A1p ob1 out.wo).set (σ.nx+1) (.lp (some { r with st:=.exhausted })),A1D ob1 out.ro σ.rd,out.nx,some (σ.nx::l)⟩:St)=σ9 at hsim ⊢
  generalize r.pend=pd at hjump ⊢
  cases pd with
  | none =>
   simp only [B3w,D5X] at hjump
   exact ⟨hjump,hsim⟩
  | some cd =>
   cases cd<;>simp only [B3w,D5X] at hjump<;>try (cases hjump;done)
   ·subst hjump
    exact wpIn_exit (Q:=fun e a' w'=>e=.exit _∧Sim T c eb of' n0 nt σ9 a' w') ⟨rfl,hsim⟩
   ·subst hjump
    exact wpIn_ret (Q:=fun e a' w'=>e=.ret∧Sim T c eb of' n0 nt σ9 a' w') ⟨rfl,hsim⟩
def A5s (ks:List Nat) (f:St→Option (Exit×St)):Nat→St→Option (Exit×St)
 | 0,_=>none
 | n+1,σ=>match f (σ.tidy ks) with
  | some (.normal,σ1)=>A5s ks f n σ1
  | r=>r
def N4 (T:TT) (K:KS) (Lo:A3B) (fu nt:Nat) (of:Nat→Option Ob):Code→St→Option (Exit×St)
 | .skip,σ=>some (.normal,σ)
 | .ret,σ=>some (.ret,σ)
 | .exit id,σ=>some (.exit id,σ)
 | .region _ ops draw,σ =>
  match draw with
  | false=>if ops.toList.all (A4b nt) then (match P8 T K ops of ops.toList σ with
   | some (_,σ')=>some (.normal,σ')
   | none=>none) else none
  | true=>if B3t nt ops then (match P8 T K ops of ops.toList σ with
   | some (Es,σ')=>if A84 (A2K ops.toList []) Es 0 Es then some (.normal,σ') else
    (match P8 T K ops of ops.toList (σ.pre of (C8Z (C1 σ.ob of) Es)) with
    | some (Es2,σ2)=>if A84 (A2K ops.toList []) Es2 0 Es2 then some (.normal,σ2) else none
    | none=>none)
   | none=>none) else none
 | .seq x y,σ =>
  match N4 T K Lo fu nt of x σ with
  | some (.normal,σ1)=>N4 T K Lo fu nt of y σ1
  | r=>r
 | .cond q x y,σ =>
  match evO (F1 σ.sl) q with
  | .b true=>N4 T K Lo fu nt of x σ
  | .b false=>N4 T K Lo fu nt of y σ
  | _=>none
 | .block id body,σ =>
  match N4 T K Lo fu nt of body σ with
  | some (.exit id',σ')=>some (if Nat.beq id' id then .normal else .exit id',σ')
  | r=>r
 | .loop body,σ =>
  match Lo body with
  | some s=>s of σ
  | none=>A5s (A5W σ.sl []) (fun σ=>N4 T K Lo fu nt of body σ) fu σ
 | .rangeFunc g ps asg body,σ=>A79 T K nt of g ps asg body σ
 | _,_=>none
def L7 (P:Program) (T:TT) (nt n0:Nat) (Lo:A3B):Code→Prop
 | .seq x y=>L7 P T nt n0 Lo x∧L7 P T nt n0 Lo y
 | .cond _ x y=>L7 P T nt n0 Lo x∧L7 P T nt n0 Lo y
 | .block _ b=>L7 P T nt n0 Lo b
 | .loop b=>(∀ s,Lo b=some s→∀ of σ ex σ',s of σ=some (ex,σ')→A4I P T nt n0 of (.loop b) σ ex σ')∧L7 P T nt n0 Lo b
 | _=>True
theorem A4 {nt n0:Nat}:∀ code,L7 P T nt n0 (fun _=>none) code:=by
 intro code
 induction code with
 | seq x y ihx ihy=>exact ⟨ihx,ihy⟩
 | cond q x y ihx ihy=>exact ⟨ihx,ihy⟩
 | block id b ih=>exact ih
 | loop b ih=>exact ⟨fun s h=>(by cases h),ih⟩
 | _=>trivial
theorem Sim.cond {n0 nt:Nat} {σ:St} {a:Act} {w:World} (h:Sim T c eb of n0 nt σ a w) {q:Operand} {t:Bool} (hq:evO (F1 σ.sl) q=.b t):a.eval q=.bool t:=by
 obtain ⟨e,rfl,hst⟩:=h
 have:=B4i (T:=T) (e:=e) (sl:=F1 σ.sl) (a:=a) (x:=q) (fun t _=>hst.sl t)
 rw [hq] at this
 exact A0n this
theorem B9r {nt n0:Nat} {ks:List Nat} {body:Code} {f:St→Option (Exit×St)} (hf:∀ σ ex σ',f σ=some (ex,σ')→A4I P T nt n0 of body σ ex σ'):∀ (n:Nat) (σ:St) (ex:Exit) (σ':St),A5s ks f n σ=some (ex,σ') →
  σ.le σ'∧∀ (m:Nat) (of':Nat→Option Ob) (c:J8) (eb:B4) (a:Act) (w:World),n0≤σ.nx→A2U of of' eb n0 σ'→A85 T eb of'→Sim T c eb of' n0 nt σ a w→Code.roundsIn (WF c.rd) m P body (fun e a' w'=>e=ex∧Sim T c eb of' n0 nt σ' a' w') n a w:=by
 intro n
 induction n with
 | zero=>intro σ ex σ' h;cases h
 | succ n ih =>
  intro σ ex σ' h
  simp only [A5s] at h
  split at h
  ·rename_i σ1 hx
   obtain ⟨l1,k1⟩:=hf _ _ _ hx
   obtain ⟨l2,k2⟩:=ih _ _ _ h
   refine ⟨St.le.trans l1 l2,fun m of' c eb a w hn hfit hbs hs=>?_⟩
   refine T4 ?_ (k1 m of' c eb a w hn (hfit.mono l2) hbs (hs.tidy ks))
   rintro e' a' w' ⟨rfl,hs'⟩
   exact k2 m of' c eb a' w' (Nat.le_trans hn l1.2) hfit hbs hs'
  ·rename_i r0 hne
   obtain ⟨l1,k1⟩:=hf _ _ _ h
   refine ⟨l1,fun m of' c eb a w hn hfit hbs hs=>?_⟩
   have hex:ex≠.normal:=by
    intro he;subst he;exact hne _ h
   refine T4 ?_ (k1 m of' c eb a w hn hfit hbs (hs.tidy ks))
   rintro e' a' w' ⟨rfl,hs'⟩
   cases e' with
   | normal=>exact absurd rfl hex
   | _=>exact ⟨rfl,hs'⟩
theorem A0T (hm:P.follows .mixedOrders=true) (hT:L8 T P) {K:KS} (hK:X9 P T K) {Lo:A3B} {fu nt n0:Nat}:∀ (code:Code),L7 P T nt n0 Lo code→∀ (σ:St) (ex:Exit) (σ':St),N4 T K Lo fu nt of code σ=some (ex,σ')→A4I P T nt n0 of code σ ex σ':=by
 intro code
 induction code with
 | skip =>
  intro _ σ ex σ' h
  simp only [N4,D5X,Prod.mk.injEq] at h
  obtain ⟨rfl,rfl⟩:=h
  exact ⟨St.le.refl _,fun m of' c eb a w _ _ _ hs=>wpIn_skip ⟨rfl,hs⟩⟩
 | ret =>
  intro _ σ ex σ' h
  simp only [N4,D5X,Prod.mk.injEq] at h
  obtain ⟨rfl,rfl⟩:=h
  exact ⟨St.le.refl _,fun m of' c eb a w _ _ _ hs=>wpIn_ret ⟨rfl,hs⟩⟩
 | exit id =>
  intro _ σ ex σ' h
  simp only [N4,D5X,Prod.mk.injEq] at h
  obtain ⟨rfl,rfl⟩:=h
  exact ⟨St.le.refl _,fun m of' c eb a w _ _ _ hs=>wpIn_exit ⟨rfl,hs⟩⟩
 | region id ops draw =>
  intro _ σ ex σ' h
  simp only [N4] at h
  cases draw with
  | false =>
   simp only at h
   split at h<;>try (cases h;done)
   rename_i hd
   split at h<;>try (cases h;done)
   rename_i Es σ2 hr
   simp only [D5X,Prod.mk.injEq] at h
   obtain ⟨rfl,rfl⟩:=h
   exact ⟨A1V _ _ _ _ hr,fun m of' c eb a w hn hfit hbs hs=>C0A hT hK hd hr hn hfit hs (fun a' w' h'=>⟨rfl,h'⟩)⟩
  | true =>
   simp only at h
   split at h<;>try (cases h;done)
   rename_i hd
   split at h<;>try (cases h;done)
   rename_i Es σ2 hr
   split at h
   ·rename_i hdy
    simp only [D5X,Prod.mk.injEq] at h
    obtain ⟨rfl,rfl⟩:=h
    exact ⟨A1V _ _ _ _ hr,fun m of' c eb a w hn hfit hbs hs=>B3u hm hT hK hd hr hdy hn hfit hs (fun a' w' h'=>⟨rfl,h'⟩)⟩
   ·split at h<;>try (cases h;done)
    rename_i Es2 σ3 hr2
    split at h<;>try (cases h;done)
    rename_i hdy
    simp only [D5X,Prod.mk.injEq] at h
    obtain ⟨rfl,rfl⟩:=h
    have l2:=A1V _ _ _ _ hr2
    exact ⟨(St.pre_le _ _).trans l2,fun m of' c eb a w hn hfit hbs hs=>B3u hm hT hK hd hr2 hdy hn hfit (hs.pre (fun id A3=>hfit.rd id (l2.1 id A3))) (fun a' w' h'=>⟨rfl,h'⟩)⟩
 | seq x y ihx ihy =>
  intro hl σ ex σ' h
  simp only [N4] at h
  split at h
  ·rename_i σ1 hx
   obtain ⟨l1,k1⟩:=ihx hl.1 _ _ _ hx
   obtain ⟨l2,k2⟩:=ihy hl.2 _ _ _ h
   refine ⟨l1.trans l2,fun m of' c eb a w hn hfit hbs hs=>wpIn_seq (T4 ?_ (k1 m of' c eb a w hn (hfit.mono l2) hbs hs))⟩
   rintro e' a' w' ⟨rfl,hs'⟩
   exact k2 m of' c eb a' w' (Nat.le_trans hn l1.2) hfit hbs hs'
  ·rename_i r0 hne
   obtain ⟨l1,k1⟩:=ihx hl.1 _ _ _ h
   have hex:ex≠.normal:=by intro he;subst he;exact hne _ h
   refine ⟨l1,fun m of' c eb a w hn hfit hbs hs=>wpIn_seq (T4 ?_ (k1 m of' c eb a w hn hfit hbs hs))⟩
   rintro e' a' w' ⟨rfl,hs'⟩
   cases e' with
   | normal=>exact absurd rfl hex
   | _=>exact ⟨rfl,hs'⟩
 | cond q x y ihx ihy =>
  intro hl σ ex σ' h
  simp only [N4] at h
  split at h<;>try (cases h;done)
  ·rename_i hq
   obtain ⟨l1,k1⟩:=ihx hl.1 _ _ _ h
   exact ⟨l1,fun m of' c eb a w hn hfit hbs hs=>wpIn_cond (hs.cond hq) (k1 m of' c eb a w hn hfit hbs hs)⟩
  ·rename_i hq
   obtain ⟨l1,k1⟩:=ihy hl.2 _ _ _ h
   exact ⟨l1,fun m of' c eb a w hn hfit hbs hs=>wpIn_cond (hs.cond hq) (k1 m of' c eb a w hn hfit hbs hs)⟩
 | block id body ih =>
  intro hl σ ex σ' h
  simp only [N4] at h
  split at h
  ·rename_i id' σ1 hb
   obtain ⟨l1,k1⟩:=ih hl _ _ _ hb
   injection h with h;injection h with h1 h2
   subst h2
   refine ⟨l1,fun m of' c eb a w hn hfit hbs hs=>wpIn_block (T4 ?_ (k1 m of' c eb a w hn hfit hbs hs))⟩
   rintro e' a' w' ⟨rfl,hs'⟩
   by_cases A3:id'=id
   ·subst A3
    rw [if_pos (Nat.beq_refl _)] at h1
    subst h1
    simp only [Exit.inBlock,if_true]
    exact ⟨trivial,hs'⟩
   ·rw [if_neg (fun q=>A3 (D5U q))] at h1
    subst h1
    simp only [Exit.inBlock,if_neg A3]
    exact ⟨trivial,hs'⟩
  ·rename_i r0 hne
   obtain ⟨l1,k1⟩:=ih hl _ _ _ h
   have hex:∀ id',ex≠.exit id':=by intro id' he;subst he;exact hne _ _ h
   refine ⟨l1,fun m of' c eb a w hn hfit hbs hs=>wpIn_block (T4 ?_ (k1 m of' c eb a w hn hfit hbs hs))⟩
   rintro e' a' w' ⟨rfl,hs'⟩
   cases e' with
   | exit id'=>exact absurd rfl (hex id')
   | _=>exact ⟨rfl,hs'⟩
 | loop body ih =>
  intro hl σ ex σ' h
  simp only [N4] at h
  split at h
  ·rename_i s hs
   exact hl.1 s hs of σ ex σ' h
  ·obtain ⟨l1,k1⟩:=B9r (fun σ ex σ' h=>ih hl.2 σ ex σ' h) fu σ ex σ' h
   exact ⟨l1,fun m of' c eb a w hn hfit hbs hs=>wpIn_loop_rounds fu (k1 m of' c eb a w hn hfit hbs hs)⟩
 | rangeFunc g ps asg body _ _ =>
  intro _ σ ex σ' h
  simp only [N4] at h
  exact B9q hK h
 | _=>intro _ σ ex σ' h;simp only [N4] at h;cases h
variable {P:Program} {T:TT} {c:J8} {e eb:B4} {of of':Nat→Option Ob}
def A5t (T:TT) (sl:Nat→A) (of:Nat→Option Ob):ResultVar→Option (A×List Nat)
 | .tmp t=>match sl t with
  | .t _=>none
  | v=>some (v,[])
 | .cell a t=>match T t,sl a with
  | some te,.p id _ path=>match of id with
   | some (.box _ b _)=>match atA T b path with
    | some a1=>match V0 T t a1 with
     | some a2=>some (norm T a2,[id])
     | none=>none
    | none=>none
   | _=>none
  | _,_=>none
def A1z (T:TT) (sl:Nat→A) (of:Nat→Option Ob):List ResultVar→Option (List A×List Nat)
 | []=>some ([],[])
 | r::rs=>match A5t T sl of r with
  | some (v,p)=>match A1z T sl of rs with
   | some (l,q)=>some (v::l,p++q)
   | none=>none
  | none=>none
def A5u (T:TT) (sl:Nat→A) (of:Nat→Option Ob) (rs:List ResultVar):Option (A×List Nat) :=
 match A1z T sl of rs with
 | some (l,p)=>match l with
  | [v]=>some (v,p)
  | l=>some (.t l,p)
 | none=>none
def B1Y (tmps:Array Value):ResultVar→Sem Value
 | .tmp t=>pure (tmps.getD t undef)
 | .cell a t=>do loadVar t (← asAddr (tmps.getD a undef))
theorem A8a (fn:Func) (tmps:Array Value):results fn tmps=(do let vs ← fn.results.mapM (B1Y tmps);pure (if h:vs.size=1 then vs[0] else .tuple vs)):=by
 unfold results
 congr 2
theorem C4Q {t:Nat} {a b:A} (h:V0 T t a=some b):∀ l,norm T b≠.t l:=by
 intro l hl
 cases b with
 | v t' y=>simp only [norm,mkA] at hl;repeat' split at hl
           all_goals cases hl
 | t l' =>
  have:=A6D h
  simp [D2] at this
 | _=>cases hl
theorem B9s (hT:L8 T P) {U:Nat→Prop} {nt:Nat} {mk:Option (List Nat)} {sl:Nat→A} {a:Act} (h:Y8 T c eb sl of' U nt mk a e) {r:ResultVar} {v:A} {ro:List Nat} (hr:A5t T sl of r=some (v,ro)) (ho:∀ id∈ro,of' id=of id) :
  ∃ x,(B1Y a.tmps r).run P e.w=.ok x e.w∧C2 T e v x∧∀ l,v≠.t l:=by
 cases r with
 | tmp t =>
  simp only [A5t] at hr
  split at hr<;>try (cases hr;done)
  rename_i hne
  simp only [D5X,Prod.mk.injEq] at hr
  obtain ⟨rfl,-⟩:=hr
  exact ⟨_,rfl,h.sl t,hne⟩
 | cell ad t =>
  simp only [A5t] at hr
  split at hr<;>try (cases hr;done)
  rename_i te id t' path hte hsl
  split at hr<;>try (cases hr;done)
  rename_i t0 b sh hof
  split at hr<;>try (cases hr;done)
  rename_i a1 h1
  split at hr<;>try (cases hr;done)
  rename_i a2 h2
  simp only [D5X,Prod.mk.injEq] at hr
  obtain ⟨rfl,rfl⟩:=hr
  have hx:=h.sl ad
  rw [hsl] at hx
  obtain ⟨u1,u2,u3,u4,bb,cs,ty,fz,g1,g2,g3,g4,g5,g6⟩:=A0g h.os ((ho id (by simp)).trans hof)
  obtain ⟨b',off,_,_,k1,k2,hv⟩:=Q2 hx
  rw [g1] at k1;cases k1
  rw [u3] at k2
  obtain ⟨pre,d,post,q1,q2,q3,q4,q5⟩:=A0u path g5 u4 k2 h1
  obtain ⟨r1,r2⟩:=A7u q4 h2
  obtain ⟨x,y1,y2⟩:=run_load (P:=P) hT hte r1 r2 (ad:=⟨bb,off,none⟩) (fun j y hj=>by
   rw [E4,J6 g2,q1,← q2];exact R9 hj)
  exact ⟨x,by simp only [B1Y,hv,asAddr];exact y1,A1k hte y2 r2,C4Q h2⟩
theorem A8b (hT:L8 T P) {U:Nat→Prop} {nt:Nat} {mk:Option (List Nat)} {sl:Nat→A} {a:Act} (h:Y8 T c eb sl of' U nt mk a e):∀ (rs:List ResultVar) (l:List A) (ro:List Nat),A1z T sl of rs=some (l,ro)→(∀ id∈ro,of' id=of id) →
  ∃ xs,(rs.mapM (B1Y a.tmps)).run P e.w=.ok xs e.w∧T2 T e l xs∧∀ v∈l,∀ m,v≠.t m:=by
 intro rs
 induction rs with
 | nil =>
  intro l p hr _
  simp only [A1z,D5X,Prod.mk.injEq] at hr
  obtain ⟨rfl,-⟩:=hr
  exact ⟨[],by simp,.nil,fun v hv=>by cases hv⟩
 | cons r rs ih =>
  intro l p hr ho
  simp only [A1z] at hr
  split at hr<;>try (cases hr;done)
  rename_i v p1 h1
  split at hr<;>try (cases hr;done)
  rename_i l1 q1 h2
  simp only [D5X,Prod.mk.injEq] at hr
  obtain ⟨rfl,rfl⟩:=hr
  obtain ⟨x,g1,g4,g5⟩:=B9s hT h h1 (fun id A3=>ho id (by simp [A3]))
  obtain ⟨xs,k1,k4,k5⟩:=ih _ _ h2 (fun id A3=>ho id (by simp [A3]))
  refine ⟨x::xs,by simp [List.mapM_cons,g1,k1],.cons g4 k4,fun u hu=>?_⟩
  rcases List.mem_cons.1 hu with rfl | hu
  ·exact g5
  ·exact k5 u hu
theorem A6E {v:A} {x:Value} (h:C2 T e v x) (hv:∀ l,v≠.t l):H5 T e v x:=by
 cases v with
 | t l=>exact absurd rfl (hv l)
 | _=>exact h
theorem B7z (hT:L8 T P) {U:Nat→Prop} {nt:Nat} {mk:Option (List Nat)} {sl:Nat→A} {a:Act} (fn:Func) (h:Y8 T c eb sl of' U nt mk a e) {v:A} {ro:List Nat} (hr:A5u T sl of fn.results.toList=some (v,ro)) (ho:∀ id∈ro,of' id=of id) :
  ∃ x,(results fn a.tmps).run P e.w=.ok x e.w∧C2 T e v x:=by
 unfold A5u at hr
 split at hr<;>try (cases hr;done)
 rename_i l p hm
 split at hr
 ·rename_i v'
  simp only [D5X,Prod.mk.injEq] at hr
  obtain ⟨rfl,rfl⟩:=hr
  obtain ⟨xs,h1,h4,h5⟩:=A8b hT h _ _ _ hm ho
  cases h4 with
  | @cons _ x _ s hx hs =>
  cases hs
  refine ⟨x,?_,hx⟩
  rw [A8a]
  simp [Array.mapM_eq_mapM_toList,h1]
 ·rename_i hne
  simp only [D5X,Prod.mk.injEq] at hr
  obtain ⟨rfl,rfl⟩:=hr
  obtain ⟨xs,h1,h4,h5⟩:=A8b hT h _ _ _ hm ho
  obtain ⟨g1,g2⟩:=h4.get
  have hl1:l.length≠1:=by
   intro hl
   obtain ⟨v,rfl⟩:=List.length_eq_one_iff.1 hl
   exact hne v rfl
  refine ⟨.tuple xs.toArray,?_,⟨xs.toArray,rfl,by simpa using g1,fun i v x hv hx=>A6E (g2 i v x hv (by simpa using hx)) (h5 v (List.mem_of_getElem? hv))⟩⟩
  rw [A8a]
  have hx1:¬ xs.length=1:=by omega
  simp [Array.mapM_eq_mapM_toList,h1,hx1]
mutual
def C4R (n:Nat):A→Bool
 | .p id _ _=>Nat.ble n id
 | .e id _ _ _ _=>Nat.ble n id
 | .o id _=>Nat.ble n id
 | .w id _ _ _=>Nat.ble n id
 | .a id _ _ _ _=>Nat.ble n id
 | .m id=>Nat.ble n id
 | .y id=>Nat.ble n id
 | .f _ l=>B7A n l
 | .g _ l=>B7A n l
 | .t l=>B7A n l
 | _=>false
def B7A (n:Nat):List A→Bool
 | []=>false
 | a::r=>C4R n a||B7A n r
end
def D4t (n:Nat):Ob→Bool
 | .box _ a _=>C4R n a
 | .row _ _ _ _ _=>false
 | .map _ _ es=>es.any fun p=>C4R n p.2
 | .vm _ _ _=>false
 | .sm _ _ _ _ _=>false
 | .lp (some r)=>r.sl.any fun p=>C4R n p.2
 | .lp none=>false
 | .it (some m)=>Nat.ble n m
 | .it none=>false
def D0L (n:Nat) (v:A) (l:List (Nat×Ob)):Bool:=C4R n v||l.any fun p=>Nat.blt p.1 n&&D4t n p.2
def A4J (n:Nat) (v:A) (σ:St) (ro:List Nat):H9 :=
 match σ.ob.toL fun j=>j with
 | []=>⟨v,[],A1D σ.ob ro σ.rd,σ.nx⟩
 | l=>⟨v,bif D0L n v l then l else l.filter fun p=>Nat.blt p.1 n||Nat.ble σ.nx p.1,A1D σ.ob ro σ.rd,σ.nx⟩
def A3C:Nat→List A→List (Nat×A)
 | _,[]=>[]
 | k,v::r=>(k,v)::A3C (k+1) r
def B9t:Exit→Bool
 | .ret | .normal=>true
 | _=>false
def A0J (ms:List Nat) (f:Nat→Option Ob):Nat→Option Ob:=fun j=>if mem j ms then none else f j
def B1Z (n h:Nat) (f:Nat→Option Ob):List Nat→Bool
 | []=>true
 | id::r=>(match f id with
  | some (.lp none)=>true
  | _=>false)&&Nat.ble n id&&Nat.blt id h&&!mem id r&&B1Z n h f r
def A5Y (ms:List Nat) (f:H9):H9 :=
 match ms with
 | []=>f
 | _=>{ f with wo:=f.wo.filter fun p=>!mem p.1 ms }
def A86 (P:Program) (T:TT) (K:KS) (Lo:Nat→A3B) (fu f:Nat):Sym:=fun args of nx =>
 match P.funcs[f]? with
 | some fn=>match fn.body with
  | some code=>if !(fn.name == "runtime.NumGoroutine")&&Nat.ble args.length fn.ntmps then
    (match N4 T K (Lo nx) fu fn.ntmps of code ⟨A3C 0 args,.e,[],nx,some []⟩ with
    | some (ex,σ)=>if B9t ex then
      (match σ.mks with
      | some ms=>if B1Z nx σ.nx σ.ob.get ms then
       (match A5u T (F1 σ.sl) (C1 σ.ob of) fn.results.toList with
       | some (v,ro)=>some (A5Y ms (A4J nx v σ ro))
       | none=>none) else none
      | none=>none) else none
    | none=>none) else none
  | none=>none
 | none=>none
theorem B0j:∀ (l:List A) (k t:Nat),F1 (A3C k l) t=if t < k then .x else l.getD (t - k) .x:=by
 intro l
 induction l with
 | nil=>intro k t;simp [A3C,F1]
 | cons v r ih =>
  intro k t
  rw [A3C,J3,F8]
  by_cases h:t=k
  ·subst h;simp
  ·rw [if_neg h,ih (k+1) t]
   by_cases hlt:t < k
   ·rw [if_pos (by omega),if_pos hlt]
   ·rw [if_neg (by omega),if_neg hlt,show t - k=t - (k+1)+1 by omega]
    simp
theorem A8c (keep:Nat→Bool):∀ (l:List (Nat×Ob)) (f g:Nat→Option Ob) (id:Nat),f id=g id→put f (l.filter fun p=>keep p.1) id=if keep id then put g l id else f id:=by
 intro l
 induction l with
 | nil=>intro f g id h;simp only [List.filter_nil,put];split;exact h;rfl
 | cons p r ih =>
  intro f g id h
  obtain ⟨k,o⟩:=p
  by_cases hk:keep k=true
  ·rw [List.filter_cons_of_pos (by exact hk)]
   simp only [put]
   by_cases A3:id=k
   ·subst A3
    rw [ih _ (F8 g id (some o)) id (by rw [upd_same,upd_same]),if_pos hk,if_pos hk]
   ·rw [ih _ (F8 g k (some o)) id (by rw [upd_ne _ _ A3,upd_ne _ _ A3];exact h),upd_ne _ _ A3]
  ·rw [List.filter_cons_of_neg (by exact hk)]
   simp only [put]
   by_cases A3:id=k
   ·subst A3
    rw [ih f f id rfl,if_neg hk,if_neg hk]
   ·exact ih f _ id (by rw [upd_ne _ _ A3];exact h)
theorem A5.sub {of2:Nat→Option Ob} (h:A5 T c e of) (hs:∀ id o,of2 id=some o→of id=some o):A5 T c e of2:=by
 have hs':∀ id,(of2 id).isSome→(of id).isSome:=fun id h=>by
  obtain ⟨o,ho⟩:=D5Z.1 h
  rw [hs _ _ ho];rfl
 exact ⟨fun id o ho=>h.ok id o (hs _ _ ho),fun i j b o b' o' hi hj=>h.sep i j b o b' o' (hs' _ hi) (hs' _ hj),fun i b o hi=>h.own i b o (hs' _ hi),h.lt,h.slt,h.s0,h.snew,h.os,h.tape,h.output,h.size,h.block,h.g.mono (fun _ _ q=>q) rfl (fun _ q=>q) (Nat.le_refl _) (fun j b o hj hb=>.inl ⟨j,o,hs' j hj,hb⟩)⟩
theorem A3p (n:Nat) (v:A) (σ:St) (ro:List Nat):(A4J n v σ ro).val=v∧(A4J n v σ ro).ro=A1D σ.ob ro σ.rd∧(A4J n v σ ro).nx=σ.nx ∧
  ((A4J n v σ ro).wo=(σ.ob.toL fun j=>j)∨(A4J n v σ ro).wo=(σ.ob.toL fun j=>j).filter fun p=>Nat.blt p.1 n||Nat.ble σ.nx p.1):=by
 unfold A4J
 split
 ·rename_i h;rw [h];exact ⟨rfl,rfl,rfl,.inl rfl⟩
 ·cases D0L n v (σ.ob.toL fun j=>j)
  ·exact ⟨rfl,rfl,rfl,.inr rfl⟩
  ·exact ⟨rfl,rfl,rfl,.inl rfl⟩
theorem A8d {n:Nat} {v:A} {σ:St} {ro:List Nat} (hb:A85 T e of') (hf:∀ id,n≤id→id < σ.nx→¬ e.U id):∀ id o,put of' (A4J n v σ ro).wo id=some o→C1 σ.ob of' id=some o:=by
 intro id o ho
 obtain ⟨o1,o2,o3,o4⟩:=A3p n v σ ro
 rcases o4 with h4 | h4
 ·rw [h4,A2p] at ho;exact ho
 ·rw [h4,A8c (fun k=>Nat.blt k n||Nat.ble σ.nx k) _ of' of' id rfl] at ho
  split at ho
  ·rw [A2p] at ho;exact ho
  ·rename_i hk
   simp only [Bool.or_eq_true,Nat.blt_eq,Nat.ble_eq,not_or,Nat.not_lt,Nat.not_le] at hk
   exact absurd (hb _ _ ho).use (hf id hk.1 hk.2)
theorem B0k {n h:Nat} {f:Nat→Option Ob}:∀ (ms:List Nat),B1Z n h f ms=true→(∀ id∈ms,f id=some (.lp none)∧n≤id∧id < h)∧ms.Nodup:=by
 intro ms
 induction ms with
 | nil=>intro _;exact ⟨fun _ h=>(by cases h),.nil⟩
 | cons id r ih =>
  intro hm
  simp only [B1Z,D5V,Bool.not_eq_true'] at hm
  obtain ⟨⟨⟨⟨h1,h2⟩,h3⟩,h4⟩,h5⟩:=hm
  obtain ⟨i1,i2⟩:=ih h5
  refine ⟨fun j hj=>?_,List.nodup_cons.2 ⟨fun q=>(by rw [mem_iff.2 q] at h4;cases h4),i2⟩⟩
  rcases List.mem_cons.1 hj with rfl | hj
  ·refine ⟨?_,D50 h2,by simpa [Nat.blt_eq] using h3⟩
   split at h1<;>first | assumption | cases h1
  ·exact i1 j hj
theorem B9u (f:Nat→Option Ob):A0J [] f=f:=by
 funext j;simp [A0J,mem]
theorem B5B {id:Nat} {r:List Nat} {f:Nat→Option Ob}:A0J r (fun j=>if j=id then none else f j)=A0J (id::r) f:=by
 funext j
 simp only [A0J,mem]
 by_cases h:j=id
 ·subst h;simp
 ·have:Nat.beq id j=false:=by
   rw [← Bool.not_eq_true];intro q;exact h (D5U q).symm
  simp [h,this]
theorem A8e (ms:List Nat) (f:H9):(A5Y ms f).val=f.val∧(A5Y ms f).ro=f.ro∧(A5Y ms f).nx=f.nx∧∀ (of:Nat→Option Ob) id o,put of (A5Y ms f).wo id=some o→(id∈ms∧of id=some o)∨(id ∉ ms∧put of f.wo id=some o):=by
 cases ms with
 | nil=>exact ⟨rfl,rfl,rfl,fun of id o h=>.inr ⟨by simp,h⟩⟩
 | cons m r =>
  refine ⟨rfl,rfl,rfl,fun of id o h=>?_⟩
  have h:put of (f.wo.filter fun p=>!mem p.1 (m::r)) id=some o:=h
  rw [A8c (fun k=>!mem k (m::r)) _ of of id rfl] at h
  by_cases hm:mem id (m::r)=true
  ·rw [hm] at h
   exact .inl ⟨mem_iff.1 hm,by simpa using h⟩
  ·rw [Bool.not_eq_true] at hm
   rw [hm] at h
   exact .inr ⟨fun q=>(by rw [mem_iff.2 q] at hm;cases hm),by simpa using h⟩
theorem A5.aside (h:A5 T c e of) {b:Nat} (hown:c.w0.heap.size≤b∨c.M b) (hno:∀ id q,(of id).isSome→e.ι id≠some (b,q)) (hnG:∀ a,¬ e.G a b) {g g':Go.Obj} (h0:e.w.heap[b]? = some g) (hg:∀ cs t fz,g≠.cells cs t fz) (hg':∀ cs t fz,g'≠.cells cs t fz) {w':World} (hw:w'={ e.w with heap:=e.w.heap.setIfInBounds b g' }) :
  A5 T c { e with w:=w' } of∧e.le { e with w:=w' }:=by
 have hlt:b < e.w.heap.size:=(Array.getElem?_eq_some_iff.1 h0).1
 have h1:w'.heap[b]? = some g':=by rw [hw];simp [hlt]
 have hne:∀ k,k≠b→w'.heap[k]? = e.w.heap[k]? := fun k hk=>by rw [hw];simp [Ne.symm hk]
 have hsz:w'.heap.size=e.w.heap.size:=by rw [hw];simp
 have hln:∀ k,blen w' k=blen e.w k:=fun k=>by
  by_cases hk':k=b
  ·subst hk'
   unfold blen
   rw [h0,h1]
   cases g<;>cases g'<;>first | rfl | exact absurd rfl (hg _ _ _) | exact absurd rfl (hg' _ _ _)
  ·exact D9 (hne _ hk')
 have hle:e.le { e with w:=w' }:=by
  refine ⟨fun k i hs=>⟨hs,fun x hx=>?_⟩,fun _ hu=>hu,fun j hu _=>⟨rfl,rfl,fun k q' hk=>hln k⟩,fun _ _ h=>h,fun _ _=>Nat.le_refl _,fun _ _=>rfl,by show _≤w'.heap.size;omega,fun k _=>hln k⟩
  by_cases hk:k=b
  ·subst hk
   exfalso
   unfold World.cell? at hx
   rw [h0] at hx
   cases g<;>first | (exact absurd rfl (hg _ _ _)) | (simp at hx;done)
  ·rw [← hx];exact F7 (hne _ hk)
 refine ⟨⟨fun id o ho=>(h.ok id o ho).keep hle rfl (fun k q hk=>hne k (fun hkb=>hno id q (by rw [ho];rfl) (by rw [← hkb];exact hk))) (fun _ _ _ _ hs=>hs) (fun a o' k _ hG=>⟨hG,hne k (fun hkb=>hnG a (hkb ▸ hG)),fun i hs=>hs⟩),h.sep,h.own,fun id k q hu hk=>by show k < w'.heap.size;rw [hsz];exact h.lt id k q hu hk,fun k i hs=>by show k < w'.heap.size;rw [hsz];exact h.slt k i hs,h.s0,h.snew,by show w'.os=_;rw [hw];exact h.os,by show w'.tape=_;rw [hw];exact h.tape,by show w'.output=_;rw [hw];exact h.output,by show _≤w'.heap.size;rw [hsz];exact h.size,fun k hk hm=>?_,h.g.mono (fun _ _ q=>q) rfl (fun _ q=>q) (by show _≤w'.heap.size;omega) (fun j b o hj hb=>.inl ⟨j,o,hj,hb⟩)⟩,hle⟩
 show w'.heap[k]? = _
 rw [hne k (fun hkb=>by subst hkb;rcases hown with h' | h';omega;exact hm h')]
 exact h.block k hk hm
theorem A4K {n:Nat} {fn:Func} {tmps:Array Value} {R:Ending→World→Prop}:∀ (ms:List Nat) (ds:List Deferred) (e:B4) (f:Nat→Option Ob),A0c e ms ds→(∀ id∈ms,f id=some (.lp none))→ms.Nodup→A5 T c e f →
  (∀ e',e.le e'→(∀ id,e'.U id→e.U id)→A5 T c e' (A0J ms f)→∃ v,(results fn tmps).run P e'.w=.ok v e'.w∧R (.returned v) e'.w)→LeavesInM (WF none) n P fn tmps R ds .returning e.w:=by
 intro ms
 induction ms with
 | nil =>
  intro ds e f hm _ _ hos h
  cases hm
  rw [LeavesInM,LeavesIn]
  exact h e (B4.le.refl e) (fun _ q=>q) (by rw [B9u];exact hos)
 | cons id r ih =>
  intro ds e f hm hn hd hos h
  cases hm with
  | @cons _ b _ ds' h1 h2 h3 h4 =>
  obtain ⟨g1,g2,b',g3,g4⟩:=hos.ok id _ (hn id (by simp))
  rw [h3] at g3;cases g3
  obtain ⟨d1,d2⟩:=List.nodup_cons.1 hd
  let f':Nat→Option Ob:=fun j=>if j=id then none else f j
  have hsub:∀ j o,f' j=some o→f j=some o:=fun j o hj=>by
   by_cases hj':j=id
   ·simp [f',hj'] at hj
   ·simpa [f',hj'] using hj
  have os1:A5 T c e f':=hos.sub hsub
  let w':World:={ e.w with heap:=e.w.heap.setIfInBounds b (.deferred none) }
  obtain ⟨os2,le2⟩:=os1.aside (b:=b) (hos.own id b 0 (by rw [hn id (by simp)];rfl) h3) (fun j q hj hι=>by
   have hj':j≠id:=by intro q';subst q';simp [f'] at hj
   have hjs:(f j).isSome:=by simpa [f',hj'] using hj
   exact absurd rfl (hos.sep j id b q b 0 hjs (by rw [hn id (by simp)];rfl) hι h3 hj')) (fun a hG=>hos.g.sep a b hG id b 0 (by rw [hn id (by simp)];rfl) h3 rfl) g4 (fun _ _ _ h=>by cases h) (g':=.deferred none) (fun _ _ _ h=>by cases h) (w':=w') rfl
  rw [LeavesInM]
  refine ⟨by simp,.inl ⟨b,w',rfl,?_,?_⟩⟩
  ·simp [Instr.takeDeferred,A0F g4,T7 _ g4,w']
  ·refine ih ds' { e with w:=w' } f' (h4.mono le2) (fun j hj=>?_) d2 os2 (fun e' hle hu hos'=>?_)
   ·have:j≠id:=by intro q;subst q;exact d1 hj
    simp only [f',if_neg this]
    exact hn j (by simp [hj])
   ·exact h e' (le2.trans hle) hu (by rw [← B5B];exact hos')
theorem A87 {sl:Nat→A} {f g:Nat→Option Ob} (hfg:∀ id t b sh,f id=some (.box t b sh)→g id=some (.box t b sh)):∀ (rs:List ResultVar) (x:List A×List Nat),A1z T sl f rs=some x→A1z T sl g rs=some x:=by
 intro rs
 induction rs with
 | nil=>intro x h;exact h
 | cons r rs ih =>
  intro x hr
  simp only [A1z] at hr ⊢
  split at hr<;>try (cases hr;done)
  rename_i v p1 h1
  split at hr<;>try (cases hr;done)
  rename_i l1 q1 h2
  have k1:A5t T sl g r=some (v,p1):=by
   cases r with
   | tmp t=>exact h1
   | cell ad t =>
    simp only [A5t] at h1 ⊢
    split at h1<;>try (cases h1;done)
    rename_i te id t' path hte hsl
    split at h1<;>try (cases h1;done)
    rename_i hof
    rw [hfg _ _ _ _ hof]
    exact h1
  rw [k1,ih _ h2]
  exact hr
theorem A8f {sl:Nat→A} {f g:Nat→Option Ob} (hfg:∀ id t b sh,f id=some (.box t b sh)→g id=some (.box t b sh)) {rs:List ResultVar} {x:A×List Nat} (h:A5u T sl f rs=some x):A5u T sl g rs=some x:=by
 unfold A5u at h ⊢
 split at h<;>try (cases h;done)
 rename_i l p hm
 rw [A87 hfg _ _ hm]
 exact h
theorem B7B (hm:P.follows .mixedOrders=true) (hT:L8 T P) {K:KS} (hK:X9 P T K) {Lo:Nat→A3B} {fu f:Nat} (hL:∀ n0 fn code,P.funcs[f]? = some fn→fn.body=some code→L7 P T fn.ntmps n0 (Lo n0) code):J2 P T f (A86 P T K Lo fu f):=by
 intro c e of of' args vals nx out hos hr hro hu hvals
 unfold A86 at hr
 split at hr<;>try (cases hr;done)
 rename_i fn hf
 split at hr<;>try (cases hr;done)
 rename_i code hb
 split at hr<;>try (cases hr;done)
 rename_i hcc
 simp only [D5V,Bool.not_eq_true'] at hcc
 obtain ⟨hn,hargs⟩:=hcc
 have hargs:=D50 hargs
 split at hr<;>try (cases hr;done)
 rename_i ex σ hx
 split at hr<;>try (cases hr;done)
 rename_i hend
 split at hr<;>try (cases hr;done)
 rename_i ms hmk
 split at hr<;>try (cases hr;done)
 rename_i hmb
 obtain ⟨hms,hnd⟩:=B0k _ hmb
 split at hr<;>try (cases hr;done)
 rename_i v ro hres
 injection hr with hr
 obtain ⟨q1,q2,q3,q4⟩:=A8e ms (A4J nx v σ ro)
 obtain ⟨o1,o2,o3,o4⟩:=A3p nx v σ ro
 rw [hr] at q1 q2 q3 q4
 have o1:=q1.trans o1
 have o2:=q2.trans o2
 have o3:=q3.trans o3
 have hcall:(callFunc f vals).run P e.w=.ok (.enter f vals) e.w:=by
  have hn':¬ fn.name="runtime.NumGoroutine":=by simpa using hn
  simp [callFunc,hf,hn',hb]
 refine .inr (.inr (.inl ⟨f,vals,e.w,hcall,?_⟩))
 refine (callsIn_wide (n:=0)).1 (callsIn_of_wp_marks (F:=WF none) hf hb trivial ?_ rfl)
 have hlen:=hvals.get.1
 rw [D51] at hlen
 have hsim:Sim T { c with rd:=none } e of' nx fn.ntmps ⟨A3C 0 args,.e,[],nx,some []⟩ { tmps:=vals++Array.replicate (fn.ntmps - vals.size) undef,defers:=[] } e.w:=by
  refine ⟨e,rfl,?_,B4.le.refl e,fun id A3=>.inl A3,fun t=>?_,⟨rfl,.nil⟩,by simp;omega⟩
  ·have:C1 Tr.e of'=of':=by funext id;unfold C1;rw [Tr.get_e]
   rw [this];exact hos.ctx none
  ·show C2 T e (F1 (A3C 0 args) t) _
   rw [B0j,if_neg (by omega),Nat.sub_zero]
   by_cases ht:t < args.length
   ·have h1:args[t]? = some args[t]:=D57 ht
    have h2:vals.toList[t]? = some vals[t]:=by rw [Array.getElem?_toList];exact Array.getElem?_eq_getElem (by omega)
    have:=hvals.get.2 t _ _ h1 h2
    have e1:args.getD t .x=args[t]:=by simp [List.getD,h1]
    have e2:(vals++Array.replicate (fn.ntmps - vals.size) undef).getD t undef=vals[t]:=by
     have:t < vals.size:=by omega
     simp [Array.getD,Array.getElem_append_left this]
     omega
    rw [e1]
    show C2 T e _ ((vals++Array.replicate (fn.ntmps - vals.size) undef).getD t undef)
    rw [e2];exact this
   ·rw [show args.getD t .x=.x by simp [List.getD,List.getElem?_eq_none (by omega:args.length≤t)]]
    trivial
 obtain ⟨l1,k1⟩:=A0T (of:=of) (n0:=nx) hm hT hK code (hL nx fn code hf hb) _ _ _ hx
 have hfit:A2U of of' e nx σ:=⟨fun id A3=>hro id (by rw [o2];exact T8 _ _ _ _ A3),fun id h1 h2=>hu id h1 (by rw [o3];exact h2)⟩
 refine T4 ?_ (k1 0 of' { c with rd:=none } e _ _ (Nat.le_refl _) hfit hos.ok hsim)
 rintro ex' a w ⟨rfl,e',rfl,hst⟩
 have hmarks:=hst.def_
 rw [hmk] at hmarks
 have hms':∀ id∈ms,C1 σ.ob of' id=some (.lp none):=fun id A3=>A3o (hms id A3).1
 have fin:LeavesInM (WF none) 0 P fn a.tmps (fun en w'=>∃ x,en=.returned x∧V2 T c e of' nx out x w') a.defers .returning e'.w:=by
  refine A4K ms a.defers e' (C1 σ.ob of') hmarks.2 hms' hnd hst.os (fun e2 hle hu2 hos2=>?_)
  have hst2:Y8 T { c with rd:=none } e (F1 σ.sl) (A0J ms (C1 σ.ob of')) (fun id=>e.U id∨(nx≤id∧id < σ.nx)) fn.ntmps σ.mks a e2 :=
   ⟨hos2,hst.le.trans hle,fun id A3=>hst.U id (hu2 id A3),fun t=>(hst.sl t).mono hle,hst.def_.mono hle,hst.nt⟩
  have hres2:A5u T (F1 σ.sl) (A0J ms (C1 σ.ob of)) fn.results.toList=some (v,ro):=by
   refine A8f (fun id t b sh A3=>?_) hres
   unfold A0J
   have:mem id ms=false:=by
    rw [← Bool.not_eq_true];intro q
    rw [A3o (of:=of) (hms id (mem_iff.1 q)).1] at A3;cases A3
   rw [this];exact A3
  have hagree:=A0d (ob:=σ.ob) (rd:=out.ro) (ro:=ro) (l:=σ.rd) (of:=of) (of':=of') (fun id A3=>hro id A3) (by rw [o2];exact fun _ h=>h)
  obtain ⟨x,g1,g2⟩:=B7z hT fn hst2 hres2 (fun id A3=>by
   unfold A0J
   rw [hagree id A3])
  refine ⟨x,g1,x,rfl,e2,rfl,?_,hst2.le,fun id A3=>by rw [o3];exact hst2.U id A3,by rw [o1];exact g2⟩
  refine (hos2.unctx).sub (fun id o ho=>?_)
  rcases q4 of' id o ho with ⟨h1,h2⟩ | ⟨h1,h2⟩
  ·obtain ⟨_,h3,h4⟩:=hms id h1
   exact absurd (hos.ok _ _ h2).use (hfit.fr id h3 h4)
  ·have:=A8d (of':=of') hos.ok hfit.fr id o h2
   unfold A0J
   have hm':mem id ms=false:=by
    rw [← Bool.not_eq_true];intro q;exact h1 (mem_iff.1 q)
   rw [hm'];exact this
 cases ex' with
 | ret=>exact fin
 | normal=>exact fin
 | _=>cases hend
def B5C:List Nat→List A→List (Nat×A)→List (Nat×A)
 | p::ps,a::as0,sl=>B5C ps as0 ((p,a)::sl)
 | _,_,sl=>sl
def exJ:Exit→Option (Option Code)
 | .normal=>some none
 | .ret=>some (some .ret)
 | .exit k=>some (some (.exit k))
 | _=>none
def lpE (ok:LoopState→Bool) (q:Option Ob):Option LR :=
 match q with
 | some (.lp (some r))=>bif ok r.st then some r else none
 | _=>none
def A3q:LoopState→Bool
 | .ready=>true
 | _=>false
def setLp (σ:St) (id:Nat) (r:LR):St:={ σ with ob:=σ.ob.set id (.lp (some r)),rd:=A1D σ.ob [id] σ.rd }
def D2Y (id:Nat) (nx:Nat) (of:Nat→Option Ob) (q:Option (Exit×St)):Option H9 :=
 match q with
 | some (ex,σ2)=>match lpE (fun _=>true) (C1 σ2.ob of id),exJ ex with
  | some r2,some j=>some (A4J nx (.b j.isNone) (setLp σ2 id { r2 with st:=bif j.isNone then .ready else .done,pend:=j }) [])
  | _,_=>none
 | none=>none
def A3Z (T:TT) (K:KS) (fu id:Nat):Sym:=fun args of nx =>
 match lpE A3q (of id) with
 | some r=>if Nat.beq args.length r.ps.size&&r.ps.toList.all (fun p=>Nat.blt p r.nt) then
   (match N4 T K (fun _=>none) fu r.nt of r.asg ⟨B5C r.ps.toList args r.sl,.e,[id],nx,none⟩ with
   | some (.normal,σ1)=>match lpE A3q (C1 σ1.ob of id) with
    | some r1=>D2Y id nx of (N4 T K (fun _=>none) fu r.nt of r.body (setLp σ1 id { r1 with st:=.busy }))
    | none=>none
   | _=>none) else none
 | none=>none
theorem A8g {ok:LoopState→Bool} {q:Option Ob} {r:LR} (h:lpE ok q=some r):q=some (.lp (some r))∧ok r.st=true:=by
 unfold lpE at h
 split at h<;>try (cases h;done)
 rename_i r'
 cases hk:ok r'.st<;>rw [hk] at h
 ·cases h
 ·simp only [cond_true,D5X] at h;subst h;exact ⟨rfl,hk⟩
theorem C4S (l:List (Nat×A)) (t:Nat):F1 l t=.x∨∃ p∈l,p.1=t∧p.2=F1 l t:=by
 induction l with
 | nil=>exact .inl rfl
 | cons p r ih =>
  obtain ⟨k,v⟩:=p
  rw [J3]
  by_cases h:t=k
  ·subst h;rw [upd_same];exact .inr ⟨(t,v),by simp,rfl,rfl⟩
  ·rw [upd_ne _ _ h]
   rcases ih with ih | ⟨q,h1,h2,h3⟩
   ·exact .inl ih
   ·exact .inr ⟨q,by simp [h1],h2,h3⟩
theorem C4T {e:B4} {v:A} {x:Value} (h:H5 T e v x):C2 T e v x:=by
 cases v with
 | t l=>exact h.elim
 | _=>exact h
theorem C80 {nt:Nat}:∀ (ps:List Nat) (args:List A) (vals:List Value) (sl:List (Nat×A)) (tm:Array Value),T2 T e args vals→args.length=ps.length→(∀ p∈ps,p < nt)→tm.size=nt→(∀ t,C2 T e (F1 sl t) (tm.getD t undef)) →
  ((ps.zip vals).foldl (fun tmps (t,a)=>tmps.setIfInBounds t a) tm).size=nt∧∀ t,C2 T e (F1 (B5C ps args sl) t) (((ps.zip vals).foldl (fun tmps (t,a)=>tmps.setIfInBounds t a) tm).getD t undef):=by
 intro ps
 induction ps with
 | nil =>
  intro args vals sl tm _ _ _ h1 h2
  cases args<;>exact ⟨h1,h2⟩
 | cons p ps ih =>
  intro args vals sl tm hr hl hp h1 h2
  cases hr with
  | nil=>simp at hl
  | @cons v x r s hv hrs =>
   simp only [List.zip_cons_cons,List.foldl_cons,B5C]
   refine ih _ _ _ _ hrs (by simpa using hl) (fun q hq=>hp q (by simp [hq])) (by simpa using h1) (fun t=>?_)
   rw [J3]
   by_cases ht:t=p
   ·subst ht
    have:=hp t (by simp)
    rw [upd_same,show (tm.setIfInBounds t x).getD t undef=x by simp [h1,this]]
    exact hv
   ·rw [upd_ne _ _ ht,show (tm.setIfInBounds p x).getD t undef=tm.getD t undef by simp [Array.getElem?_setIfInBounds_ne (Ne.symm ht)]]
    exact h2 t
theorem Y8.setLp {nt id:Nat} {n0:Nat} {σ:St} {a:Act} {mk:Option (List Nat)} (h:Y8 T c eb (F1 σ.sl) (C1 σ.ob of') (fun id=>eb.U id∨(n0≤id∧id < σ.nx)) nt mk a e) {r r':LR} (hr:C1 σ.ob of' id=some (.lp (some r))) {b:Nat} (hb:e.ι id=some (b,0))
  (hs:r'.nt=r.nt∧r'.sl=r.sl∧r'.ps=r.ps∧r'.asg=r.asg∧r'.body=r.body) :
  ∃ lr:Loop,e.w.heap[b]? = some (.loop lr)∧lr.state=r.st∧lr.pending=r.pend∧∀ w',w'={ e.w with heap:=e.w.heap.setIfInBounds b (.loop { lr with state:=r'.st,pending:=r'.pend }) } →
   Y8 T c eb (F1 (Go.Vm.setLp σ id r').sl) (C1 (Go.Vm.setLp σ id r').ob of') (fun k=>eb.U k∨(n0≤k∧k < (Go.Vm.setLp σ id r').nx)) nt mk a { e with w:=w' }:=by
 obtain ⟨k1,k2,b',tm,df,fn,k3,k4,k5,k6⟩:=h.os.ok _ _ hr
 rw [hb] at k3;cases k3
 refine ⟨_,k4,rfl,rfl,fun w' hw=>?_⟩
 obtain ⟨os4,le4⟩:=h.os.writeG (o':=.lp (some r')) hr hb k4 (fun _ _ _ h=>by cases h) (g':=.loop { state:=r'.st,pending:=r'.pend,fn:=fn,tmps:=tm,params:=r.ps,assign:=r.asg,body:=r.body,defers:=df }) (fun _ _ _ h=>by cases h) (w':=w') hw
   (fun hle hh=>⟨k1,k2,b,tm,df,fn,hb,by rw [hs.2.2.1,hs.2.2.2.1,hs.2.2.2.2];exact hh,by rw [hs.1];exact k5,fun p hp=>(k6 p (by rw [← hs.2.1];exact hp)).mono hle⟩)
 refine ⟨?_,h.le.trans le4,h.U,fun t=>(h.sl t).mono le4,h.def_.mono le4,h.nt⟩
 show A5 T c _ (C1 (σ.ob.set id (.lp (some r'))) of')
 rw [X1];exact os4
theorem A26 {w:World} {b:Nat} {lr:Loop} (h:w.heap[b]? = some (.loop lr)):(Instr.getLoop b).run P w=.ok lr w:=by
 simp [Instr.getLoop,A0F h]
theorem B0l (hm:P.follows .mixedOrders=true) (hT:L8 T P) {K:KS} (hK:X9 P T K) {fu id:Nat}:YOK P T id (A3Z T K fu id):=by
 intro c e of of' args vals nx out b hos hr hro hu hvals hU hbn hι
 unfold A3Z at hr
 split at hr<;>try (cases hr;done)
 rename_i r hofid
 obtain ⟨hofid,hrdy⟩:=A8g hofid
 split at hr<;>try (cases hr;done)
 rename_i hcc
 simp only [D5V] at hcc
 obtain ⟨hc1,hc2⟩:=hcc
 have hc1:=D5U hc1
 have hc2:∀ p∈r.ps.toList,p < r.nt:=fun p hp=>by simpa [Nat.blt_eq] using List.all_eq_true.1 hc2 p hp
 split at hr<;>try (cases hr;done)
 rename_i σ1 hx1
 split at hr<;>try (cases hr;done)
 rename_i r1 hr1
 obtain ⟨hr1,hrdy1⟩:=A8g hr1
 unfold D2Y at hr
 split at hr<;>try (cases hr;done)
 rename_i ex σ2 hx2
 split at hr<;>try (cases hr;done)
 rename_i r2 j hr2 hj
 obtain ⟨hr2,-⟩:=A8g hr2
 generalize hr3:({ r2 with st:=bif j.isNone then .ready else .done,pend:=j }:LR)=r3 at hr
 generalize hσ3:setLp σ2 id r3=σ3 at hr
 injection hr with hr
 obtain ⟨o1,o2,o3,-⟩:=A3p nx (.b j.isNone) σ3 []
 rw [hr] at o1 o2 o3
 obtain ⟨l1,k1⟩:=A0T (of:=of) (n0:=nx) hm hT hK r.asg (A4 _) _ _ _ hx1
 obtain ⟨l2,k2⟩:=A0T (of:=of) (n0:=nx) hm hT hK r.body (A4 _) _ _ _ hx2
 have l3:σ2.le σ3:=by rw [← hσ3];exact ⟨T8 _ _ _,Nat.le_refl _⟩
 have l12:σ1.le (setLp σ1 id { r1 with st:=.busy }):=⟨T8 _ _ _,Nat.le_refl _⟩
 have hfit3:A2U of of' e nx σ3:=⟨fun k hk=>hro k (by rw [o2];exact hk),fun k h1 h2=>hu k h1 (by rw [o3];exact h2)⟩
 have hfit2:A2U of of' e nx σ2:=hfit3.mono l3
 have hfit1':A2U of of' e nx (setLp σ1 id { r1 with st:=.busy }):=hfit2.mono l2
 have hfit1:A2U of of' e nx σ1:=hfit1'.mono l12
 have hid':of' id=of id:=hfit1.rd id (l1.1 id (by simp))
 have hov:∀ (σ:St),C1 σ.ob of' id=C1 σ.ob of id:=fun σ=>by
  unfold C1;rw [hid']
 obtain ⟨g1,g2,b',tm,df,fn,g3,g4,g5,g6⟩:=hos.ok id _ (hid'.trans hofid)
 rw [hι] at g3;cases g3
 have hlen:=hvals.get.1
 rw [D51] at hlen
 have hsz:vals.size=r.ps.size:=by omega
 obtain ⟨a1,a2⟩:=C80 r.ps.toList args vals.toList r.sl tm hvals (by rw [D51];exact hc1) hc2 g5 (fun t=>by
  rcases C4S r.sl t with h | ⟨p,h1,h2,h3⟩
  ·rw [h];trivial
  ·subst h2;rw [← h3];exact C4T (g6 p h1))
 generalize htm:(r.ps.toList.zip vals.toList).foldl (fun tmps (t,a)=>tmps.setIfInBounds t a) tm=tm1 at a1 a2
 have hyield:(Instr.yield b vals).run P e.w=.ok (.round b fn tm1 r.asg r.body) e.w:=by
  have hz:(r.ps.zip vals).foldl (fun tmps (t,a)=>tmps.setIfInBounds t a) tm=tm1:=by
   rw [← htm,← Array.toList_zip,Array.foldl_toList]
  simpa [Instr.yield,A26 g4,hsz] using hz
 refine .inr (.inr (.inr ⟨b,fn,tm1,r.asg,r.body,e.w,hyield,?_⟩))
 refine roundIn_of_wpIn trivial ?_
 show r.asg.wpIn (WF (some b)) 0 P _ { tmps:=tm1,defers:=[] } e.w
 have hsim:Sim T { c with rd:=some b } e of' nx r.nt ⟨B5C r.ps.toList args r.sl,.e,[id],nx,none⟩ { tmps:=tm1,defers:=[] } e.w:=by
  refine ⟨e,rfl,?_,B4.le.refl e,fun id A3=>.inl A3,a2,rfl,a1⟩
  have:C1 Tr.e of'=of':=by funext id;unfold C1;rw [Tr.get_e]
  rw [this];exact hos.ctx _
 refine T4 ?_ (k1 0 of' { c with rd:=some b } e _ _ (Nat.le_refl _) hfit1 hos.ok hsim)
 rintro ex1 ac1 w1 ⟨rfl,e1,rfl,hst1⟩
 have hι1:∀ e1:B4,e.le e1→e1.ι id=some (b,0):=fun e1 hle=>by
  have h0:=hle.box _ hU hbn
  rw [(hle.obj _ hU (h0.trans hbn.symm)).1];exact hι
 obtain ⟨lr1,m1,m2,m3,m4⟩:=hst1.setLp (r':={ r1 with st:=.busy }) ((hov σ1).trans hr1) (hι1 e1 hst1.le) ⟨rfl,rfl,rfl,rfl,rfl⟩
 have hst1':=m4 _ rfl
 show ∃ w₂,(Instr.beginRound b).run P e1.w=.ok () w₂∧_
 refine ⟨{ e1.w with heap:=e1.w.heap.setIfInBounds b (.loop { lr1 with state:=.busy,pending:=r1.pend }) },?_,?_⟩
 ·have hst:lr1.state=.ready:=by
   rw [m2]
   cases hh:r1.st<;>rw [hh] at hrdy1<;>first | rfl | cases hrdy1
  simp [Instr.beginRound,A26 m1,T7 _ m1,hst,m3]
 ·show r.body.wpIn (WF (some b)) 0 P _ ac1 _
  refine T4 ?_ (k2 0 of' { c with rd:=some b } e ac1 _ l1.2 hfit2 hos.ok ⟨_,rfl,hst1'⟩)
  rintro ex2 ac2 w2 ⟨rfl,e2,rfl,hst2⟩
  obtain ⟨lr2,n1,n2,n3,n4⟩:=hst2.setLp (r':=r3) ((hov σ2).trans hr2) (hι1 e2 hst2.le) (by subst hr3;exact ⟨rfl,rfl,rfl,rfl,rfl⟩)
  have hst3:=n4 _ rfl
  have hend:(Instr.endRound b j).run P e2.w=.ok (.bool j.isNone) { e2.w with heap:=e2.w.heap.setIfInBounds b (.loop { lr2 with state:=r3.st,pending:=r3.pend }) }:=by
   subst hr3
   cases j<;>simp [Instr.endRound,A26 n1,T7 _ n1]
  have hleft:∃ x,Ending.returned (.bool j.isNone)=.returned x∧V2 T c e of' nx out x { e2.w with heap:=e2.w.heap.setIfInBounds b (.loop { lr2 with state:=r3.st,pending:=r3.pend }) }:=by
   refine ⟨_,rfl,_,rfl,?_,hst3.le,fun k hk=>?_,?_⟩
   ·rw [hσ3] at hst3
    refine (hst3.os.unctx).sub (fun k o ho=>?_)
    rw [← hr] at ho
    exact A8d (of':=of') hos.ok hfit3.fr k o ho
   ·rw [o3]
    have:=hst3.U k hk
    rw [hσ3] at this;exact this
   ·rw [o1];exact RA.b .nil
  cases ex2 with
  | normal=>cases hj;exact ⟨_,_,hend,hleft⟩
  | ret=>cases hj;exact ⟨_,_,hend,hleft⟩
  | exit k=>cases hj;exact ⟨_,_,hend,hleft⟩
  | _=>cases hj
def B10 (P:Program) (f:Nat):Bool :=
 match P.funcs[f]? with
 | some fn=>fn.body.isSome&&!(fn.name == "runtime.NumGoroutine")
 | none=>false
theorem B0m {f:Nat} (h:B10 P f=true) (vals:Array Value) (w:World):(callFunc f vals).run P w=.ok (.enter f vals) w:=by
 unfold B10 at h
 split at h<;>try (cases h;done)
 rename_i fn hf
 simp only [D5V,Bool.not_eq_true'] at h
 have hn':¬ fn.name="runtime.NumGoroutine":=by simpa using h.2
 obtain ⟨cd,hb⟩:=D5Z.1 h.1
 simp [callFunc,hf,hn',hb]
def C4U (P:Program) (T:TT) (C:Nat→Option Sym) (L:Nat→Nat→A3B) (fu:Nat):Nat→KS
 | 0=>⟨fun _ _ _ _=>none,fun _ _ _ _=>none,fun _=>false⟩
 | d+1=>⟨fun f=>match C f with
  | some s=>s
  | none=>A86 P T (C4U P T C L fu d) (L f) fu f,fun id=>A3Z T (C4U P T C L fu d) fu id,B10 P⟩
def C4V (P:Program) (T:TT) (C:Nat→Option Sym) (L:Nat→Nat→A3B) (fu d f:Nat):Sym:=(C4U P T C L fu d).f f
theorem C81 (hm:P.follows .mixedOrders=true) (hT:L8 T P) {C:Nat→Option Sym} (hC:∀ f s,C f=some s→J2 P T f s) {L:Nat→Nat→A3B} (hL:∀ f n0 fn code,P.funcs[f]? = some fn→fn.body=some code→L7 P T fn.ntmps n0 (L f n0) code) {fu:Nat}:∀ d,X9 P T (C4U P T C L fu d):=by
 intro d
 induction d with
 | zero=>exact ⟨fun f c e of of' args vals nx out _ h=>(by cases h),fun id c e of of' args vals nx out b _ h=>(by cases h),fun f h=>(by cases h)⟩
 | succ d ih =>
  refine ⟨fun f=>?_,fun id=>B0l hm hT ih,fun f h=>B0m h⟩
  show J2 P T f (match C f with
   | some s=>s
   | none=>A86 P T (C4U P T C L fu d) (L f) fu f)
  split
  ·rename_i s hs;exact hC f s hs
  ·exact B7B hm hT ih (hL f)
theorem B9v (hm:P.follows .mixedOrders=true) (hT:L8 T P) {C:Nat→Option Sym} (hC:∀ f s,C f=some s→J2 P T f s) {L:Nat→Nat→A3B} (hL:∀ f n0 fn code,P.funcs[f]? = some fn→fn.body=some code→L7 P T fn.ntmps n0 (L f n0) code) {fu:Nat} (d f:Nat):J2 P T f (C4V P T C L fu d f):=(C81 hm hT hC hL d).f f
variable {P:Program} {T:TT} {c:J8} {e eb:B4} {of of':Nat→Option Ob}
def A8h (T:TT):TK→TypeDesc→Bool
 | .int k,.int k'=>A8T k k'
 | .bool,.bool=>true
 | .str,.string=>true
 | .ptr e,.pointer e'=>Nat.beq e e'
 | .slice e,.slice e'=>Nat.beq e e'
 | .arr n e,.array n' e'=>Nat.beq n n'&&Nat.beq e e'
 | .struct fs,.struct gs=>B42 (gs.toList.map (·.type)) fs&&offB T fs 0 gs.toList
 | .map k e,.map k' e'=>Nat.beq k k'&&Nat.beq e e'
 | .func,.func _ _ _=>true
 | .other,.struct _=>false
 | .other,.array _ _=>false
 | .other,_=>true
 | _,_=>false
where
 offB (T:TT):List Nat→Nat→List Field→Bool
 | f::fs,off,g::gs=>Nat.beq g.offset off&&offB T fs (off+B8 T f) gs
 | [],_,[]=>true
 | _,_,_=>false
theorem B9w:∀ (fs:List Nat) (off:Nat) (gs:List Field),A8h.offB T fs off gs=true→∀ (j:Nat) g,gs[j]? = some g→g.offset=off+szs T (fs.take j):=by
 intro fs
 induction fs with
 | nil =>
  intro off gs h j g hg
  cases gs with
  | nil=>simp at hg
  | cons g gs=>simp [A8h.offB] at h
 | cons f fs ih =>
  intro off gs h j g hg
  cases gs with
  | nil=>simp [A8h.offB] at h
  | cons g0 gs =>
   simp only [A8h.offB,D5V] at h
   cases j with
   | zero=>simp only [List.getElem?_cons_zero,D5X] at hg;subst hg;simp [szs,D5U h.1]
   | succ j=>have:=ih _ _ h.2 j g (by simpa using hg);rw [this,List.take_succ_cons,szs];omega
theorem B5D {k:TK} {d:TypeDesc} (h:A8h T k d=true):k.fits T d:=by
 cases k<;>cases d<;>simp only [A8h,TK.fits] at h ⊢<;>first | (cases h;done) | trivial | skip
 ·exact A2r h
 ·exact D5U h
 ·exact D5U h
 ·simp only [D5V] at h;exact ⟨D5U h.1,D5U h.2⟩
 ·simp only [D5V] at h
  refine ⟨B61 h.1,fun j g hg=>?_⟩
  have:=B9w _ _ _ h.2 j g (by simpa using hg)
  simpa using this
 ·simp only [D5V] at h;exact ⟨D5U h.1,D5U h.2⟩
 all_goals (constructor<;>intro _<;>intros<;>first | (intro q;cases q;done) | skip)
def rvB (T:TT):Nat→List Nat→List V→List Value→Bool
 | 0,_,_,_=>false
 | _+1,[],[],[]=>true
 | f+1,t::ts,x::xs,cs=>match C5 T t,x,cs with
  | some (.int k),.i n,.int k' m::r=>A8T k k'&&Y6 n m&&B5r k n&&Nat.beq (B8 T t) 1&&rvB T f ts xs r
  | some .bool,.b q,.bool q'::r=>(q == q')&&Nat.beq (B8 T t) 1&&rvB T f ts xs r
  | some .str,.s l,.string s::r=>Nat.beq l.length 0&&Nat.beq s.data.toList.length 0&&Nat.beq (B8 T t) 1&&rvB T f ts xs r
  | some (.ptr _),.n,.pointer none::r=>Nat.beq (B8 T t) 1&&rvB T f ts xs r
  | some (.slice _),.n,.slice none 0 0::r=>Nat.beq (B8 T t) 1&&rvB T f ts xs r
  | some (.map _ _),.n,.map none::r=>Nat.beq (B8 T t) 1&&rvB T f ts xs r
  | some .func,.n,.nilFunc::r=>Nat.beq (B8 T t) 1&&rvB T f ts xs r
  | some (.arr n el),.l ys,cs=>Nat.ble (B8 T t) cs.length&&rvB T f (List.replicate n el) ys (cs.take (B8 T t))&&rvB T f ts xs (cs.drop (B8 T t))
  | some (.struct fs),.l ys,cs=>Nat.ble (B8 T t) cs.length&&rvB T f fs ys (cs.take (B8 T t))&&rvB T f ts xs (cs.drop (B8 T t))
  | _,_,_=>false
 | _+1,_,_,_=>false
theorem C4W (e:B4):∀ (f:Nat) (ts:List Nat) (xs:List V) (cs:List Value),rvB T f ts xs cs=true→RV T e ts xs cs:=by
 intro f
 induction f with
 | zero=>intro ts xs cs h;cases h
 | succ f ih =>
  intro ts xs cs h
  cases ts with
  | nil =>
   cases xs with
   | nil=>cases cs with
    | nil=>exact .nil
    | cons c cs=>simp [rvB] at h
   | cons x xs=>cases cs<;>simp [rvB] at h
  | cons t ts =>
   cases xs with
   | nil=>cases cs<;>simp [rvB] at h
   | cons x xs =>
    simp only [rvB] at h
    split at h<;>try (cases h;done)
    all_goals simp only [D5V] at h
    ·rename_i hk
     obtain ⟨⟨⟨⟨h1,h2⟩,h3⟩,h4⟩,h5⟩:=h
     have:=A2r h1;subst this
     have:=P0.1 h2;subst this
     exact .int hk (D5U h4) (A73 h3) (ih _ _ _ h5)
    ·rename_i hk
     obtain ⟨⟨h1,h2⟩,h3⟩:=h
     have h1:=eq_of_beq h1
     subst h1
     exact .bool hk (D5U h2) (ih _ _ _ h3)
    ·rename_i l s r hk
     obtain ⟨⟨⟨h1,h2⟩,h3⟩,h4⟩:=h
     have e1:l=[]:=List.eq_nil_of_length_eq_zero (D5U h1)
     have e2:txt s=[]:=by unfold txt;rw [List.eq_nil_of_length_eq_zero (D5U h2)];rfl
     rw [e1,← e2]
     exact .str hk (D5U h3) (ih _ _ _ h4)
    ·rename_i hk;exact .ptr hk (D5U h.1) (ih _ _ _ h.2)
    ·rename_i hk;exact .nils hk (D5U h.1) (ih _ _ _ h.2)
    ·rename_i hk;exact .map hk (D5U h.1) (ih _ _ _ h.2)
    ·rename_i hk;exact .func hk (D5U h.1) (ih _ _ _ h.2)
    ·rename_i n el ys hk
     obtain ⟨⟨h1,h2⟩,h3⟩:=h
     have hl:=D50 h1
     have:=RV.arr hk (by rw [List.length_take];omega) (ih _ _ _ h2) (ih _ _ _ h3)
     rwa [List.take_append_drop] at this
    ·rename_i fs ys hk
     obtain ⟨⟨h1,h2⟩,h3⟩:=h
     have hl:=D50 h1
     have:=RV.struct hk (by rw [List.length_take];omega) (ih _ _ _ h2) (ih _ _ _ h3)
     rwa [List.take_append_drop] at this
def D2Z:Value→Bool
 | .agg _=>true
 | _=>false
def eqB (P:Program) (t:Nat) (d:TypeDesc):Bool :=
 !(P.eqGuardType P.depth t)&&!(P.stoodInHeld t)&&(match d with | .struct gs=>gs.toList.all fun f=>f.name != "_" | _=>true)
def teB (P:Program) (T:TT) (t:Nat) (te:TE):Bool :=
 match P.info? t,P.underlying t with
 | some i,some d=>match i.zero with
  | some z=>Nat.beq i.size te.size&&Nat.beq i.bytes te.bytes&&A8h T te.k d&&(rvB T 1000 [t] [te.zero] z.cells.toList||!(TK.notOther te.k))&&(te.k.agg == D2Z z)&&(!te.eq||eqB P t d)
  | none=>false
 | _,_=>false
theorem C4X {t:Nat} {te:TE} (h:teB P T t te=true):A1Y P T t te:=by
 unfold teB at h
 split at h<;>try (cases h;done)
 rename_i i d h1 h2
 split at h<;>try (cases h;done)
 rename_i z h3
 simp only [D5V] at h
 obtain ⟨⟨⟨⟨⟨a1,a2⟩,a3⟩,a4⟩,a5⟩,a6⟩:=h
 refine ⟨⟨i,d,z,h1,h2,D5U a1,D5U a2,B5D a3,h3,?_,?_⟩,fun he=>?_⟩
 ·rw [Bool.or_eq_true] at a4
  rcases a4 with a4 | a4
  ·exact .inl fun e=>C4W e _ _ _ _ a4
  ·right;cases hk:te.k<;>rw [hk] at a4<;>first | rfl | (cases a4;done)
 ·have a5':te.k.agg=D2Z z:=by simpa using a5
  rw [a5']
  cases z<;>simp [D2Z]
 ·rw [he] at a6
  simp only [Bool.not_true,Bool.false_or,eqB,D5V,Bool.not_eq_true'] at a6
  obtain ⟨⟨b1,b2⟩,b3⟩:=a6
  refine ⟨b1,b2,fun gs hg f hf=>?_⟩
  rw [h2] at hg
  injection hg with hg;subst hg
  simpa using List.all_eq_true.1 b3 f hf
def B9x:List (Nat×TE)→TT
 | [],_=>none
 | (k,v)::r,t=>bif Nat.beq k t then some v else B9x r t
theorem C4Y:∀ (l:List (Nat×TE)) (t:Nat) (te:TE),B9x l t=some te→(t,te)∈l:=by
 intro l
 induction l with
 | nil=>intro t te h;cases h
 | cons p r ih =>
  intro t te h
  obtain ⟨k,v⟩:=p
  simp only [B9x] at h
  cases hk:Nat.beq k t with
  | true=>rw [hk] at h;have:=D5U hk;subst this;injection h with h;subst h;simp
  | false=>rw [hk] at h;exact List.mem_cons_of_mem _ (ih _ _ h)
theorem tok {l:List (Nat×TE)} (h:(l.all fun p=>teB P (B9x l) p.1 p.2)=true):L8 (B9x l) P:=fun t te ht=>C4X (List.all_eq_true.1 h (t,te) (C4Y l t te ht))
def base (w:World):B4:={ w:=w,ι:=fun _=>none,S:=fun b _=>b < w.heap.size,bn:=fun _=>0,U:=fun _=>False,ty:=fun _=>0,ln:=fun _=>0,G:=fun _ _=>False }
def B7C (w:World):J8:={ w0:=w,M:=fun _=>False,S0:=fun b _=>b < w.heap.size }
theorem B3x (w:World):A5 T (B7C w) (base w) (fun _=>none) :=
 ⟨fun _ _ h=>(by cases h),fun _ _ _ _ _ _ h=>(by cases h),fun _ _ _ h=>(by cases h),fun _ _ _ h=>False.elim h,fun _ _ h=>h,fun _ _ h=>h,fun _ _ h=>.inl h,rfl,rfl,rfl,Nat.le_refl _,fun _ _ _=>rfl,⟨fun _ _ h=>h.elim,fun _ _ _ h=>h.elim,fun _ _ h=>h.elim,fun _ _ h=>h.elim⟩⟩
def B0n (w w':World):Prop:=w'.os=w.os∧w'.output=w.output∧w.heap.size≤w'.heap.size∧∀ i,i < w.heap.size→w'.heap[i]? = w.heap[i]?
theorem B0n.kept {w w':World} (h:B0n w w') (may:MemPlace→Prop):w.keptBut w' may:=by
 refine ⟨h.1,h.2.1,fun i hi=>?_⟩
 rw [h.2.2.2 i hi]
 cases hw:w.heap[i]? with
 | none=>rfl
 | some o =>
  cases o with
  | cells c t fr=>exact ⟨rfl,rfl,rfl,fun _ _=>rfl⟩
  | map es clock=>exact .inr ⟨rfl,rfl⟩
  | _=>rfl
variable {P:Program} {T:TT} {c:J8} {e eb:B4} {of of':Nat→Option Ob}
theorem B0o {f:FuncId} {s:Sym} (h:∀ (e:B4) (args:List A) (of:Nat→Option Ob) (nx:Nat) (out:H9) (vals:List Value),s args of nx=some out→T2 T e args vals→∃ v,out=.pv nx v []∧∀ w,∃ x,(callFunc f vals.toArray).run P w=.ok (.value x) w∧C2 T e v x):J2 P T f s:=by
 intro c e of of' as0 vals nx out hos hs hro hu hvals
 obtain ⟨v,rfl,hx⟩:=h e _ _ _ _ _ hs hvals
 obtain ⟨x,hx,hr⟩:=hx e.w
 exact M6 (.inl ⟨x,e.w,by simpa using hx,A6 hos hr⟩)
def A8i:Array Value→Sem Value:=fun args=>do
 let (x,y,b) ← Extern.MathBitsCarry.three "Sub64" args
 pure (Extern.MathBitsCarry.pair ((x+Extern.MathBitsCarry.m64 - y - b) % Extern.MathBitsCarry.m64) (if x < y+b then 1 else 0))
theorem B9y (x y b:Nat) (hb:b≤1) (w:World) :
  (A8i #[.int .u64 x,.int .u64 y,.int .u64 b]).run P w =
   .ok (.tuple #[.int .u64 (((x+18446744073709551616 - y - b) % 18446744073709551616:Nat):Int),.int .u64 ((if x < y+b then 1 else 0:Nat):Int)]) w:=by
 have:b=0∨b=1:=by omega
 rcases this with rfl | rfl<;>rfl
def B11:Sym:=fun args of nx =>
 match args with
 | [.i .u64 x,.i .u64 y,.i .u64 c]=>if F2 0 c&&F2 c 1 then some (.pv nx (.t [.i .u64 ((x+y+c) % 18446744073709551616),.i .u64 ((x+y+c) / 18446744073709551616)]) []) else none
 | _=>none
def A8j:Sym:=fun args of nx =>
 match args with
 | [.i .u64 x,.i .u64 y,.i .u64 c]=>if F2 0 c&&F2 c 1 then some (.pv nx (.t [.i .u64 ((x - y - c) % 18446744073709551616),.i .u64 (bif D4 x (y+c) then 1 else 0)]) []) else none
 | _=>none
theorem D0M {a b d:A} {vals:List Value} (h:T2 T e [a,b,d] vals):∃ x y z,vals=[x,y,z]∧C2 T e a x∧C2 T e b y∧C2 T e d z:=by
 cases h with | cons h1 h=>cases h with | cons h2 h=>cases h with | cons h3 h =>
 cases h
 exact ⟨_,_,_,rfl,h1,h2,h3⟩
theorem C4Z {a b:A} {x y:Value} (ha:H5 T e a x) (hb:H5 T e b y):C2 T e (.t [a,b]) (.tuple #[x,y]):=by
 refine ⟨#[x,y],rfl,rfl,fun i v z hv hz=>?_⟩
 match i,hv,hz with
 | 0,hv,hz=>simp at hv hz;subst hv;subst hz;exact ha
 | 1,hv,hz=>simp at hv hz;subst hv;subst hz;exact hb
 | i+2,hv,hz=>simp at hv
theorem B5E {f:FuncId} {fn:Func} (hf:P.funcs[f]? = some fn) (hname:(fn.name == "runtime.NumGoroutine")=false) (hb:fn.body.isNone=true) (hn:Extern.findNext fn=none) (he:Extern.find fn=some add64Entry):J2 P T f B11:=by
 refine B0o fun e args of nx out vals hs hv=>?_
 unfold B11 at hs
 split at hs<;>try (cases hs;done)
 rename_i x y c
 split at hs<;>try (cases hs;done)
 rename_i hc
 simp only [D5V,D3] at hc
 injection hs with hs;subst hs
 obtain ⟨a,b,d,rfl,h1,h2,h3⟩:=D0M hv
 have r1:=W4 h1
 have r2:=W4 h2
 simp only [inR,lo,hi] at r1 r2
 rw [D6 h1,D6 h2,D6 h3]
 refine ⟨_,rfl,fun w=>⟨_,?_,C4Z (P5 ?_) (P5 ?_)⟩⟩
 ·rw [run_callFunc_extern hf hname hb hn he]
  rw [run_add64 x y c r1.1 r2.1 hc.1 hc.2]
  rfl
 ·constructor<;>simp only [lo,hi]<;>omega
 ·constructor<;>simp only [lo,hi]<;>omega
theorem B3y {f:FuncId} {fn:Func} (hf:P.funcs[f]? = some fn) (hname:(fn.name == "runtime.NumGoroutine")=false) (hb:fn.body.isNone=true) (hn:Extern.findNext fn=none) (he:Extern.find fn=some A8i):J2 P T f A8j:=by
 refine B0o fun e args of nx out vals hs hv=>?_
 unfold A8j at hs
 split at hs<;>try (cases hs;done)
 rename_i x y c
 split at hs<;>try (cases hs;done)
 rename_i hc
 simp only [D5V,D3] at hc
 injection hs with hs;subst hs
 obtain ⟨a,b,d,rfl,h1,h2,h3⟩:=D0M hv
 have r1:=W4 h1
 have r2:=W4 h2
 simp only [inR,lo,hi] at r1 r2
 rw [D6 h1,D6 h2,D6 h3]
 have e2:(bif D4 x (y+c) then (1:Int) else 0)=if x < y+c then 1 else 0:=by
  by_cases hlt:x < y+c
  ·rw [H8.2 hlt,if_pos hlt];rfl
  ·have:D4 x (y+c)=false:=by rw [← Bool.not_eq_true,H8];exact hlt
   rw [this,if_neg hlt];rfl
 refine ⟨_,rfl,fun w=>?_⟩
 obtain ⟨x,rfl⟩:=Int.eq_ofNat_of_zero_le r1.1
 obtain ⟨y,rfl⟩:=Int.eq_ofNat_of_zero_le r2.1
 obtain ⟨c,rfl⟩:=Int.eq_ofNat_of_zero_le hc.1
 have e1:(((x+18446744073709551616 - y - c) % 18446744073709551616:Nat):Int)=((x:Int) - y - c) % 18446744073709551616:=by omega
 have e3:(((if x < y+c then 1 else 0:Nat)):Int)=if (x:Int) < y+c then 1 else 0:=by
  by_cases hlt:x < y+c
  ·rw [if_pos hlt,if_pos (by omega)];rfl
  ·rw [if_neg hlt,if_neg (by omega)];rfl
 refine ⟨_,?_,C4Z (P5 (n:=((x:Int) - y - c) % 18446744073709551616) ?_) (P5 (n:=bif D4 (x:Int) (y+c) then (1:Int) else 0) ?_)⟩
 ·rw [run_callFunc_extern hf hname hb hn he]
  rw [B9y x y c (by omega),e2,e1,e3]
  rfl
 ·constructor<;>simp only [lo,hi]<;>omega
 ·rw [e2];split<;>constructor<;>simp [lo,hi]
end Go.Vm
end