/- What the operations of a program do, shown once for all programs; and numbers. -/
import Derived.Test.YteoeonfajlnggaaGreatVm5
import Derived.LoopN
import Derived.RangeFuncLeaves
import Derived.OpenShut
import Derived.WalkKit
import Derived.ProofKit
import Derived.KernelRfl
import Derived.Laws.Externs
set_option linter.constructorNameAsVariable false
set_option linter.unusedVariables false
set_option linter.unusedSimpArgs false
noncomputable section
namespace Go.Vm
open Go.RowKit
variable {P:Program} {T:TT} {c:P9} {e eb:B9} {of of':Nat→Option Ob}
theorem B0B (A B:Ent):A2p A B=A2p B A:=by
 unfold A2p
 have:A9P A.dst B.dst=A9P B.dst A.dst:=by
  unfold A9P
  cases A.dst<;>cases B.dst<;>first | rfl | skip
  rename_i x y
  rw [Bool.eq_iff_iff]
  show (Nat.beq x y=true)↔(Nat.beq y x=true)
  rw [Nat.beq_eq,Nat.beq_eq]
  exact eq_comm
 rw [this,Bool.or_comm (B22 A.dst B.rs),Bool.or_right_comm (_||_) (B02 A.wo B)]
theorem D10 {A B:Ent} (h:A2p A B=false):∀ t∈B.rs,t ∉ keys (wS A):=by
 intro t ht hk
 simp only [A2p,Bool.or_eq_false_iff] at h
 have h1:=h.1.1.1.1
 unfold wS at hk
 unfold B22 at h1
 cases hd:A.dst with
 | none=>rw [hd] at hk;simp [keys] at hk
 | some d =>
  rw [hd] at hk h1
  simp only [keys,List.map_cons,List.map_nil,List.mem_singleton] at hk
  subst hk
  simp only [] at h1
  rw [mem_iff.2 ht] at h1;cases h1
theorem D11 {A B:Ent} (h:A2p A B=false):∀ t,t∈keys (wS A)→t ∉ keys (wS B):=by
 intro t hA hB
 simp only [A2p,Bool.or_eq_false_iff] at h
 have h1:=h.1.1.2
 unfold wS at hA hB
 unfold A9P at h1
 cases hd:A.dst with
 | none=>rw [hd] at hA;simp [keys] at hA
 | some d =>
  cases hd':B.dst with
  | none=>rw [hd'] at hB;simp [keys] at hB
  | some d' =>
   rw [hd] at hA h1
   rw [hd'] at hB h1
   simp only [keys,List.map_cons,List.map_nil,List.mem_singleton] at hA hB
   subst hA;subst hB
   simp at h1
theorem B2c (A:Ent) (t:Nat):t∈keys (wO A)↔∃ p∈A.wo,p.1=t:=by
 simp [keys,wO]
theorem D12 {A B:Ent} (h:A2p A B=false):∀ t∈B.ro,t ∉ keys (wO A):=by
 intro t ht hk
 simp only [A2p,Bool.or_eq_false_iff] at h
 have h1:=h.1.2
 obtain ⟨p,hp,rfl⟩:=(B2c A t).1 hk
 unfold B02 at h1
 rw [List.any_eq_false] at h1
 have:=h1 p hp
 simp only [Bool.or_eq_true,mem_iff,not_or] at this
 exact this.1 ht
theorem D13 {A B:Ent} (h:A2p A B=false):∀ t,t∈keys (wO A)→t ∉ keys (wO B):=by
 intro t hA hB
 simp only [A2p,Bool.or_eq_false_iff] at h
 have h1:=h.1.2
 obtain ⟨p,hp,rfl⟩:=(B2c A t).1 hA
 obtain ⟨q,hq,hqp⟩:=(B2c B p.1).1 hB
 unfold B02 at h1
 rw [List.any_eq_false] at h1
 have:=h1 p hp
 simp only [Bool.or_eq_true,mem_iff,not_or] at this
 exact this.2 (List.mem_map.2 ⟨q,hq,hqp⟩)
def left (D:Nat→Bool) (n:Nat):Nat:=((List.range n).filter fun j=>!D j).length
theorem B8t {D:Nat→Bool} {n i:Nat} (hi:i < n) (hD:D i=false):left (fun j=>j == i||D j) n < left D n:=by
 unfold left
 have key:∀ (l:List Nat),(l.filter fun j=>!(j == i||D j)).length≤(l.filter fun j=>!D j).length∧(i∈l→(l.filter fun j=>!(j == i||D j)).length < (l.filter fun j=>!D j).length):=by
  intro l
  induction l with
  | nil=>simp
  | cons k r ih =>
   by_cases hk:k=i
   ·subst hk
    simp only [beq_self_eq_true,Bool.true_or,Bool.not_true,Bool.false_eq_true,not_false_eq_true,List.filter_cons_of_neg,hD,Bool.not_false,List.filter_cons_of_pos,E0z]
    refine ⟨by omega,fun _=>by omega⟩
   ·have hb:(k == i)=false:=by simpa using hk
    cases hDk:D k
    ·simp only [List.filter_cons,hb,hDk,Bool.false_or,Bool.not_false,if_true,E0z]
     refine ⟨by omega,fun h=>?_⟩
     rcases List.mem_cons.1 h with h | h
     ·exact absurd h.symm hk
     ·have:=ih.2 h;omega
    ·simp only [List.filter_cons,hb,hDk,Bool.or_true,Bool.not_true,Bool.false_eq_true,if_false]
     refine ⟨ih.1,fun h=>?_⟩
     rcases List.mem_cons.1 h with h | h
     ·exact absurd h.symm hk
     ·exact ih.2 h
 exact (key _).2 (List.mem_range.2 hi)
theorem A8q {listed:Array Bool} {i:Nat} (h:i < listed.size):listed.getD i true=listed.getD i false:=by simp [h]
theorem C6P:∀ (Es:List Ent) (σ:St),(Es.foldl St.app σ).mks=σ.mks:=by
 intro Es
 induction Es with
 | nil=>intro σ;rfl
 | cons E r ih=>intro σ;exact ih _
theorem C6Q {rd:Option Nat} {m:Nat} (hT:L8 T P) {K:KS} (hK:W6 P T K) {ops:Array Oper} {Q:Exit→Act→World→Prop} {n0 nt:Nat} {σ σ':St} {Es:List Ent} (hd:∀ o∈ops.toList,A4j nt o=true) (hr:Q3 T K ops of ops.toList σ=some (Es,σ')) (hn:n0≤σ.nx) (hfit:A3F of of' eb n0 σ') (hcb:A2W 0 ops.toList=true) (hchk:∀ (p q:Nat) (A B:Ent),q < p→Es[p]? = some B→Es[q]? = some A→A2p A B=true→((A2I ops.toList []).getD p 0).testBit q=true)
  (hQ:∀ a' w',Sim T c eb of' n0 nt σ' a' w'→Q .normal a' w'):∀ (fuel:Nat) (listed:Array Bool) (D:Nat→Bool) (a:Act) (e:B9),listed.size=ops.size→(∀ j,j < ops.size→D j=listed.getD j false)→(∀ j,ops.size≤j→D j=false)→left D ops.size≤fuel →
   (∀ j o,D j=true→ops[j]? = some o→∀ e∈o.after,Region.binds .any e=true→D e.on=true) →
   Z8 T c eb (S6 D 0 (Es.map wS) (H2 σ.sl)) (S6 D 0 (Es.map wO) (E0 σ.ob of')) (fun id=>eb.U id∨(n0≤id∧id < σ.nx)∨∃ j E,D j=true∧Es[j]? = some E∧E.lo≤id∧id < E.hi) nt σ.mks a e →
   wpAnyIn (WF rd) m P .any ops Q fuel listed a e.w:=by
 obtain ⟨hσ,hlen0,hent⟩:=A2X _ _ _ _ hr
 have hnx:=C2m hr
 have hlen:Es.length=ops.size:=by rw [hlen0,E0y]
 have hback:=A9e _ _ hcb
 have hopl:∀ j:Nat,ops.toList[j]? = ops[j]? := fun j=>Array.getElem?_toList
 have fin:∀ (D:Nat→Bool) (a:Act) (e:B9),(∀ j,j < ops.size→D j=true)→Z8 T c eb (S6 D 0 (Es.map wS) (H2 σ.sl)) (S6 D 0 (Es.map wO) (E0 σ.ob of')) (fun id=>eb.U id∨(n0≤id∧id < σ.nx)∨∃ j E,D j=true∧Es[j]? = some E∧E.lo≤id∧id < E.hi) nt σ.mks a e→Q .normal a e.w:=by
  intro D a e hall hst
  refine hQ _ _ ⟨e,rfl,?_⟩
  have e1:S6 D 0 (Es.map wS) (H2 σ.sl)=H2 σ'.sl:=by
   rw [hσ,A9Q,A0s (D':=fun j=>decide (j < 0+Es.length)) _ _ _ (fun q hq=>by
    rw [E0v] at hq
    rw [Nat.zero_add,hall q (by omega)];simp;omega),A0L,List.take_of_length_le (by simp)]
  have e2:S6 D 0 (Es.map wO) (E0 σ.ob of')=E0 σ'.ob of':=by
   rw [hσ,A9R,A0s (D':=fun j=>decide (j < 0+Es.length)) _ _ _ (fun q hq=>by
    rw [E0v] at hq
    rw [Nat.zero_add,hall q (by omega)];simp;omega),A0L,List.take_of_length_le (by simp)]
  rw [e1,e2] at hst
  refine ⟨hst.os,hst.le,fun id A2=>?_,hst.sl,by rw [hσ,C6P];exact hst.def_,hst.nt⟩
  rw [hσ]
  have hlast:=hnx Es.length
  rw [List.take_length] at hlast
  rcases hst.U id A2 with h1 | h1 | ⟨j,E,-,hE,hid',hid2⟩
  ·exact .inl h1
  ·exact .inr ⟨h1.1,Nat.lt_of_lt_of_le h1.2 hlast.1⟩
  ·obtain ⟨q1,q2,q3⟩:=hlast.2 j E hE
   have:=q3 (List.getElem?_eq_some_iff.1 hE).1
   have q4:=((hnx j).1)
   exact .inr ⟨by omega,by omega⟩
 have ready_nil:∀ (listed:Array Bool) (D:Nat→Bool),listed.size=ops.size→(∀ j,j < ops.size→D j=listed.getD j false)→Region.ready .any ops listed=[]→∀ j,j < ops.size→D j=true:=by
  intro listed D hsz hD hnil j
  induction j using Nat.strongRecOn with
  | ind j ih =>
   intro hj
   cases hDj:D j with
   | true=>rfl
   | false =>
    have hmem:j∈Region.ready .any ops listed:=by
     rw [mem_ready]
     refine ⟨?_,ops[j],Array.getElem?_eq_getElem hj,fun e he hb=>?_⟩
     ·rw [A8q (by rw [hsz];exact hj),← hD j hj];exact hDj
     ·have hlt:=hback j ops[j] (by rw [hopl];exact Array.getElem?_eq_getElem hj) e he hb
      rw [Nat.zero_add] at hlt
      rw [← hD _ (by omega)]
      exact ih _ hlt (by omega)
    rw [hnil] at hmem;cases hmem
 intro fuel
 induction fuel with
 | zero =>
  intro listed D a e hsz hD hDout hleft hdown hst
  have hall:∀ j,j < ops.size→D j=true:=by
   intro j hj
   cases hDj:D j with
   | true=>rfl
   | false=>have:=B8t hj hDj;omega
  refine ⟨?_,fin D a e hall hst⟩
  cases hrd:Region.ready .any ops listed with
  | nil=>rfl
  | cons i r =>
   have hi:i∈Region.ready .any ops listed:=by rw [hrd];simp
   rw [mem_ready] at hi
   obtain ⟨h0,o,ho,-⟩:=hi
   have hlt:=(Array.getElem?_eq_some_iff.1 ho).1
   have:=hD i hlt
   rw [hall i hlt,← A8q (by rw [hsz];exact hlt),h0] at this
   cases this
 | succ fuel ih =>
  intro listed D a e hsz hD hDout hleft hdown hst
  refine ⟨fun hnil=>fin D a e (ready_nil listed D hsz hD hnil) hst,fun i hi=>?_⟩
  rw [mem_ready] at hi
  obtain ⟨h0,o,ho,hedges⟩:=hi
  have hlt:=(Array.getElem?_eq_some_iff.1 ho).1
  have hDi:D i=false:=by
   rw [hD i hlt,← A8q (by rw [hsz];exact hlt)];exact h0
  have hpreds:∀ e∈o.after,Region.binds .any e=true→D e.on=true:=fun e he hb=>by
   have hl:=hback i o (by rw [hopl];exact ho) e he hb
   rw [hD _ (by omega)];exact hedges e he hb
  obtain ⟨E,hE,hentE,hleE⟩:=hent i o (by rw [hopl];exact ho)
  obtain ⟨k1,k2,k3,k4⟩:=A1W hentE
  have hG:=B4W (D:=D) (G:=fun j=>∀ o,ops[j]? = some o→∀ e∈o.after,Region.binds .any e=true→D e.on=true) (fun j hj o ho=>hdown j o hj ho) ops.toList []
   (fun j _ p hp=>by simp at hp) (fun q o' hq hGq=>hGq o' (by simpa using hq))
  have hord:∀ q A,Es[q]? = some A→A2p A E=true→q≠i→D q=decide (q < i):=by
   intro q A hA hcf hqi
   rcases Nat.lt_or_gt_of_ne hqi with hlt' | hgt
   ·have:=hchk i q A E hlt' hE hA hcf
    rw [hG i (fun o' ho'=>by rw [ho] at ho';cases ho';exact hpreds) q this];simp [hlt']
   ·cases hDq:D q with
    | false=>simp;omega
    | true =>
     have:=hchk q i E A hgt hA hE (by rw [B0B];exact hcf)
     have hq:q < ops.size:=by rw [← hlen];exact (List.getElem?_eq_some_iff.1 hA).1
     have:=hG q (fun o' ho'=>hdown q o' hDq ho') i this
     rw [hDi] at this;cases this
  have hreadS:∀ t∈E.rs,S6 D 0 (Es.map wS) (H2 σ.sl) t=H2 ((Es.take i).foldl St.app σ).sl t:=by
   intro t ht
   rw [A9Q,List.map_take,← A0L _ 0]
   refine A7b _ 0 _ _ rfl (fun q l hq htl=>?_)
   rw [List.getElem?_map,Option.map_eq_some_iff] at hq
   obtain ⟨A,hA,rfl⟩:=hq
   rw [Nat.zero_add,Nat.zero_add]
   by_cases hqi:q=i
   ·subst hqi;rw [hDi];simp
   ·refine hord q A hA ?_ hqi
    cases hcf:A2p A E with
    | true=>rfl
    | false=>exact absurd htl (D10 hcf t ht)
  have hreadO:∀ t∈E.ro,S6 D 0 (Es.map wO) (E0 σ.ob of') t=E0 ((Es.take i).foldl St.app σ).ob of' t:=by
   intro t ht
   rw [A9R,List.map_take,← A0L _ 0]
   refine A7b _ 0 _ _ rfl (fun q l hq htl=>?_)
   rw [List.getElem?_map,Option.map_eq_some_iff] at hq
   obtain ⟨A,hA,rfl⟩:=hq
   rw [Nat.zero_add,Nat.zero_add]
   by_cases hqi:q=i
   ·subst hqi;rw [hDi];simp
   ·refine hord q A hA ?_ hqi
    cases hcf:A2p A E with
    | true=>rfl
    | false=>exact absurd htl (D12 hcf t ht)
  have hlater:∀ q A,i < q→Es[q]? = some A→D q=true→A2p E A=false:=by
   intro q A hq hA hDq
   cases hcf:A2p E A with
   | false=>rfl
   | true =>
    have:=hord q A hA (by rw [B0B];exact hcf) (by omega)
    rw [hDq] at this;simp at this;omega
  have hagree:∀ id∈E.ro,E0 ((Es.take i).foldl St.app σ).ob of' id=E0 ((Es.take i).foldl St.app σ).ob of id:=A0i hfit.rd hleE.1
  refine B2Z hT hK ho hst.os hentE (fun id A2=>(hreadO id A2).trans (hagree id A2)) (fun id h1 h2 hu=>?_) (fun t ht=>by rw [← hreadS t ht];exact hst.sl t) (fun x w' hl=>?_)
  ·have hge:=(hnx i).1
   have hhi:id < σ'.nx:=Nat.lt_of_lt_of_le h2 hleE.2
   rcases hst.U id hu with h3 | h3 | ⟨j,A,hDj,hA,hid1,hid2⟩
   ·exact hfit.fr id (by omega) hhi h3
   ·omega
   ·rcases Nat.lt_trichotomy j i with hji | hji | hji
    ·have:=((hnx i).2 j A hA).2.2 hji;omega
    ·subst hji;rw [hDi] at hDj;cases hDj
    ·have q1:=((hnx j).2 j A hA).1
     have q2:=((hnx j).2 i E hE).2.2 hji
     omega
  ·obtain ⟨e',rfl,hst'⟩:=hst.step hl (fun d hd'=>by
    have:=hd o (List.mem_of_getElem? (by rw [hopl];exact ho))
    unfold A4j at this
    rw [← k3,hd'] at this
    simpa [Nat.blt_eq] using this)
   refine ih (listed.setIfInBounds i true) (fun j=>j == i||D j) _ e' (by simp [hsz]) (fun j hj=>?_) (fun j hj=>?_) (by have:=B8t hlt hDi;omega) (fun j o' hj ho' e he hb=>?_) ?_
   ·by_cases hji:j=i
    ·subst hji;simp [Array.getD,hsz,hj]
    ·rw [getD_set_ne false (Ne.symm hji),← hD j hj];simp [hji]
   ·have:j≠i:=by omega
    simp [this,hDout j hj]
   ·simp only [Bool.or_eq_true,beq_iff_eq] at hj ⊢
    right
    rcases hj with rfl | hj
    ·rw [ho] at ho';cases ho';exact hpreds e he hb
    ·exact hdown j o' hj ho' e he hb
   ·have f1:=A4i (D:=D) (Es.map wS) 0 i (H2 σ.sl) (wS E) (by rw [List.getElem?_map,hE];rfl) (by rw [Nat.zero_add];exact hDi) (fun q l' hq hl' hDq=>by
     rw [List.getElem?_map,Option.map_eq_some_iff] at hl'
     obtain ⟨A,hA,rfl⟩:=hl'
     rw [Nat.zero_add] at hDq
     exact D11 (hlater q A hq hA hDq))
    have f2:=A4i (D:=D) (Es.map wO) 0 i (E0 σ.ob of') (wO E) (by rw [List.getElem?_map,hE];rfl) (by rw [Nat.zero_add];exact hDi) (fun q l' hq hl' hDq=>by
     rw [List.getElem?_map,Option.map_eq_some_iff] at hl'
     obtain ⟨A,hA,rfl⟩:=hl'
     rw [Nat.zero_add] at hDq
     exact D13 (hlater q A hq hA hDq))
    simp only [Nat.zero_add] at f1 f2
    rw [f1,f2]
    refine ⟨hst'.os,hst'.le,fun id A2=>?_,hst'.sl,hst'.def_,hst'.nt⟩
    rcases hst'.U id A2 with (h1 | h1 | ⟨j,A,hDj,hA,hid'⟩) | h1
    ·exact .inl h1
    ·exact .inr (.inl h1)
    ·exact .inr (.inr ⟨j,A,by simp [hDj],hA,hid'⟩)
    ·exact .inr (.inr ⟨i,E,by simp,hE,h1⟩)
variable {P:Program} {T:TT} {c:P9} {e eb:B9} {of of':Nat→Option Ob}
def D14 {α:Type} (cf:α→α→Bool) (B:α) (m:Nat):List α→Nat→Bool
 | [],_=>true
 | A::r,j=>(!(cf A B)||m.testBit j)&&D14 cf B m r (j+1)
def D15 {α:Type} (cf:α→α→Bool) (Es:List α) (ms:List Nat):Nat→List α→Bool
 | _,[]=>true
 | i,B::r=>D14 cf B (ms.getD i 0) (Es.take i) 0&&D15 cf Es ms (i+1) r
theorem C0N {α:Type} {cf:α→α→Bool} {B:α} {m:Nat}:∀ (l:List α) (j:Nat),D14 cf B m l j=true→∀ (q:Nat) A,l[q]? = some A→cf A B=true→m.testBit (j+q)=true:=by
 intro l
 induction l with
 | nil=>intro j _ q A h;simp at h
 | cons A0 r ih =>
  intro j h q A hq hc
  simp only [D14,E0s,Bool.or_eq_true,Bool.not_eq_true'] at h
  cases q with
  | zero =>
   simp only [List.getElem?_cons_zero,E0u] at hq
   subst hq
   rcases h.1 with h1 | h1
   ·rw [hc] at h1;cases h1
   ·exact h1
  | succ q=>rw [show j+(q+1)=j+1+q by omega];exact ih (j+1) h.2 q A (by simpa using hq) hc
theorem C0O {α:Type} {cf:α→α→Bool} {Es:List α} {ms:List Nat}:∀ (l:List α) (i:Nat),(∀ q:Nat,l[q]? = Es[i+q]?)→D15 cf Es ms i l=true→∀ (p q:Nat) A B,i≤p→q < p→Es[p]? = some B→Es[q]? = some A→cf A B=true→(ms.getD p 0).testBit q=true:=by
 intro l
 induction l with
 | nil =>
  intro i hl _ p q A B hip hqp hB hA _
  have:=hl (p - i)
  rw [show i+(p - i)=p by omega,hB] at this
  simp at this
 | cons B0 r ih =>
  intro i hl h p q A B hip hqp hB hA hc
  simp only [D15,E0s] at h
  by_cases hpi:p=i
  ·subst hpi
   have h0:=hl 0
   rw [Nat.add_zero,hB,List.getElem?_cons_zero,E0u] at h0
   subst h0
   have:=C0N (Es.take p) 0 h.1 q A (by rw [List.getElem?_take_of_lt hqp];exact hA) hc
   rwa [Nat.zero_add] at this
  ·exact ih (i+1) (fun q=>by have:=hl (q+1);simpa [Nat.add_assoc,Nat.add_comm 1 q] using this) h.2 p q A B (by omega) hqp hB hA hc
def D4l (ops:Array Oper) (x y:Oper):Bool:=B22 x.dst (y.looksAt ops)||B22 y.dst (x.looksAt ops)||A9P x.dst y.dst
def B3U (nt:Nat) (ops:Array Oper):Bool:=ops.toList.all (A4j nt)&&A2W 0 ops.toList&&D15 (D4l ops) ops.toList (A2I ops.toList []) 0 ops.toList
def C6R (ms:List Nat) (i j:Nat):Bool:=bif Nat.blt i j then (ms.getD j 0).testBit i else (ms.getD i 0).testBit j
def D16 (wo:List (Nat×Ob)) (i:Nat) (ms:List Nat):Nat→List Ent→Bool
 | _,[]=>true
 | j,B::r=>(Nat.beq i j||!(B02 wo B)||C6R ms i j)&&D16 wo i ms (j+1) r
def A9u (ms:List Nat) (Es:List Ent):Nat→List Ent→Bool
 | _,[]=>true
 | i,E::r=>(match E.wo with
  | []=>true
  | q::l=>D16 (q::l) i ms 0 Es)&&A9u ms Es (i+1) r
theorem C0P {wo:List (Nat×Ob)} {i:Nat} {ms:List Nat}:∀ (l:List Ent) (j:Nat),D16 wo i ms j l=true→∀ (q:Nat) B,l[q]? = some B→B02 wo B=true→i≠j+q→C6R ms i (j+q)=true:=by
 intro l
 induction l with
 | nil=>intro j _ q B h;simp at h
 | cons A0 r ih =>
  intro j h q B hq hc hne
  simp only [D16,E0s,Bool.or_eq_true,Bool.not_eq_true'] at h
  cases q with
  | zero =>
   simp only [List.getElem?_cons_zero,E0u] at hq
   subst hq
   rcases h.1 with (h1 | h1) | h1
   ·exact absurd (E0r h1) hne
   ·rw [hc] at h1;cases h1
   ·exact h1
  | succ q=>rw [show j+(q+1)=j+1+q by omega];exact ih (j+1) h.2 q B (by simpa using hq) hc (by omega)
theorem B0C {Es:List Ent} {ms:List Nat}:∀ (l:List Ent) (i:Nat),(∀ q:Nat,l[q]? = Es[i+q]?)→A9u ms Es i l=true→∀ (p q:Nat) A B,i≤p→p≠q→Es[p]? = some A→Es[q]? = some B→B02 A.wo B=true→C6R ms p q=true:=by
 intro l
 induction l with
 | nil =>
  intro i hl _ p q A B hip hpq hA hB _
  have:=hl (p - i)
  rw [show i+(p - i)=p by omega,hA] at this
  simp at this
 | cons A0 r ih =>
  intro i hl h p q A B hip hpq hA hB hc
  simp only [A9u,E0s] at h
  by_cases hpi:p=i
  ·subst hpi
   have h0:=hl 0
   rw [Nat.add_zero,hA,List.getElem?_cons_zero,E0u] at h0
   subst h0
   have h1:=h.1
   cases hw:A0.wo with
   | nil=>rw [hw] at hc;simp [B02] at hc
   | cons x y =>
    rw [hw] at h1 hc
    have:=C0P Es 0 h1 q B hB hc (by omega)
    rwa [Nat.zero_add] at this
  ·exact ih (i+1) (fun q=>by have:=hl (q+1);simpa [Nat.add_assoc,Nat.add_comm 1 q] using this) h.2 p q A B (by omega) hpq hA hB hc
theorem B3V {rd:Option Nat} {m:Nat} (hm:P.follows .mixedOrders=true) (hT:L8 T P) {K:KS} (hK:W6 P T K) {id:Nat} {ops:Array Oper} {Q:Exit→Act→World→Prop} {n0 nt:Nat} {σ σ':St} {Es:List Ent} {a:Act} {w:World} (hs1:B3U nt ops=true) (hr:Q3 T K ops of ops.toList σ=some (Es,σ')) (hs2:A9u (A2I ops.toList []) Es 0 Es=true)
  (hn:n0≤σ.nx) (hfit:A3F of of' eb n0 σ') (hs:Sim T c eb of' n0 nt σ a w) (hQ:∀ a' w',Sim T c eb of' n0 nt σ' a' w'→Q .normal a' w'):(Code.region id ops true).wpIn (WF rd) m P Q a w:=by
 simp only [B3U,E0s] at hs1
 obtain ⟨⟨hd,hb⟩,hsl⟩:=hs1
 obtain ⟨hσ,hlen0,hent⟩:=A2X _ _ _ _ hr
 have hord:∀ (p q:Nat) (A B:Ent),q < p→Es[p]? = some B→Es[q]? = some A→A2p A B=true→((A2I ops.toList []).getD p 0).testBit q=true:=by
  intro p q A B hqp hB hA hc
  have hp':p < ops.toList.length:=by rw [← hlen0];exact (List.getElem?_eq_some_iff.1 hB).1
  have hq':q < ops.toList.length:=by omega
  obtain ⟨A',gA,kA,_⟩:=hent q ops.toList[q] (E0E hq')
  obtain ⟨B',gB,kB,_⟩:=hent p ops.toList[p] (E0E hp')
  rw [hA] at gA;cases gA
  rw [hB] at gB;cases gB
  obtain ⟨_,_,a3,a4⟩:=A1W kA
  obtain ⟨_,_,b3,b4⟩:=A1W kB
  unfold A2p at hc
  rw [Bool.or_eq_true,Bool.or_eq_true] at hc
  rcases hc with (hc | hc) | hc
  ·refine C0O ops.toList 0 (fun q=>by rw [Nat.zero_add]) hsl p q _ _ (Nat.zero_le _) hqp (E0E hp') (E0E hq') ?_
   unfold D4l
   rw [← a3,← b3,← a4,← b4];exact hc
  ·have:=B0C Es 0 (fun q=>by rw [Nat.zero_add]) hs2 q p A B (Nat.zero_le _) (by omega) hA hB hc
   unfold C6R at this
   rw [show Nat.blt q p=true from by simpa [Nat.blt_eq] using hqp] at this
   exact this
  ·have:=B0C Es 0 (fun q=>by rw [Nat.zero_add]) hs2 p q B A (Nat.zero_le _) (by omega) hB hA hc
   unfold C6R at this
   rw [show Nat.blt p q=false from by rw [← Bool.not_eq_true,Nat.blt_eq];omega] at this
   exact this
 obtain ⟨e,rfl,hst⟩:=hs
 refine wpIn_region_any hm ?_
 obtain ⟨h1,h2⟩:=hst.os.same_heap (w':={ e.w with drawn:=e.w.drawn+1 }) rfl rfl rfl rfl
 refine C6Q hT hK (List.all_eq_true.1 hd) hr hn hfit hb hord hQ ops.size (Array.replicate ops.size false) (fun _=>false) a { e with w:={ e.w with drawn:=e.w.drawn+1 } } (by simp) (fun j hj=>?_) (fun _ _=>rfl) ?_ (fun j o hj=>by cases hj) ?_
 ·simp [Array.getD,hj]
 ·unfold left
  have:=List.length_filter_le (fun j=>!(fun _=>false:Nat→Bool) j) (List.range ops.size)
  rwa [List.length_range] at this
 ·rw [A3X _ 0 _ (fun _ _=>rfl),A3X _ 0 _ (fun _ _=>rfl)]
  exact ⟨h1,hst.le.trans h2,fun id A2=>(hst.U id A2).imp (fun q=>q) .inl,fun t=>(hst.sl t).mono h2,hst.def_.mono h2,hst.nt⟩
def B3W (f:Nat→Option Ob):List (Nat×Ob)→List Nat
 | []=>[]
 | (id,o)::r=>bif A9y o then (match f id with
  | some o0=>bif A9y o0 then B3W f r else id::B3W f r
  | none=>B3W f r) else B3W f r
def D17 (f:Nat→Option Ob):List Ent→List Nat
 | []=>[]
 | E::r=>B3W f E.wo++D17 f r
def St.pre (of:Nat→Option Ob) (σ:St) (l:List Nat):St:={ σ with ob:=A1m σ.ob (shW (E0 σ.ob of) l),rd:=A1z σ.ob l σ.rd }
theorem St.pre_le (σ:St) (l:List Nat):σ.le (σ.pre of l):=⟨U7 _ _ _,Nat.le_refl _⟩
theorem C0Q {f g:Nat→Option Ob}:∀ l:List Nat,(∀ id∈l,f id=g id)→shW f l=shW g l:=by
 intro l
 induction l with
 | nil=>intro _;rfl
 | cons k r ih =>
  intro h
  simp only [shW]
  rw [h k (List.mem_cons_self ..),ih (fun id A2=>h id (List.mem_cons_of_mem _ A2))]
theorem Sim.pre {n0 nt:Nat} {σ:St} {a:Act} {w:World} (h:Sim T c eb of' n0 nt σ a w) {l:List Nat} (ho:∀ id∈(σ.pre of l).rd,of' id=of id):Sim T c eb of' n0 nt (σ.pre of l) a w:=by
 obtain ⟨e,rfl,hst⟩:=h
 have hag:∀ id∈l,E0 σ.ob of' id=E0 σ.ob of id:=A0i (ob:=σ.ob) (l:=σ.rd) ho (fun _ h=>h)
 refine ⟨e,rfl,?_,hst.le,hst.U,hst.sl,hst.def_,hst.nt⟩
 show A7 T c e (E0 (A1m σ.ob (shW (E0 σ.ob of) l)) of')
 rw [A0X,← C0Q l hag]
 exact hst.os.weak (C9o l).1
abbrev A5E:=Code→Option ((Nat→Option Ob)→St→Option (Exit×St))
def A6a:List (Nat×A)→List Nat→List Nat
 | [],ks=>ks
 | (k,_)::r,ks=>bif mem k ks then A6a r ks else A6a r (k::ks)
def A1v (l:List (Nat×A)):List Nat→List (Nat×A)
 | []=>[]
 | k::r=>(k,H2 l k)::A1v l r
def St.tidy (σ:St) (ks:List Nat):St:={ σ with sl:=A1v σ.sl ks }
theorem B0D (l:List (Nat×A)):∀ (ks:List Nat) (t:Nat),H2 (A1v l ks) t=.x∨H2 (A1v l ks) t=H2 l t:=by
 intro ks
 induction ks with
 | nil=>intro t;exact .inl rfl
 | cons k r ih =>
  intro t
  rw [A1v,U6]
  by_cases h:t=k
  ·subst h;rw [upd_same];exact .inr rfl
  ·rw [A4 _ _ h];exact ih t
theorem Sim.tidy {n0 nt:Nat} {σ:St} {a:Act} {w:World} (h:Sim T c eb of n0 nt σ a w) (ks:List Nat):Sim T c eb of n0 nt (σ.tidy ks) a w:=by
 obtain ⟨e,rfl,hst⟩:=h
 refine ⟨e,rfl,hst.os,hst.le,hst.U,fun t=>?_,hst.def_,hst.nt⟩
 rcases B0D σ.sl ks t with h | h
 ·show C6 T e (H2 (A1v σ.sl ks) t) _
  rw [h];trivial
 ·show C6 T e (H2 (A1v σ.sl ks) t) _
  rw [h];exact hst.sl t
theorem A7.writeG (h:A7 T c e of) {id:Nat} {o o':Ob} (ho:of id=some o) {b q:Nat} (hι:e.ι id=some (b,q)) {g g':Go.Obj} (h0:e.w.heap[b]? = some g) (hg:∀ cs t fz,g≠.cells cs t fz) (hg':∀ cs t fz,g'≠.cells cs t fz) {w':World} (hw:w'={ e.w with heap:=e.w.heap.setIfInBounds b g' })
  (hok:e.le { e with w:=w' }→w'.heap[b]? = some g'→OK T { e with w:=w' } id o'):A7 T c { e with w:=w' } (G3 of id (some o'))∧e.le { e with w:=w' }:=by
 have hlt:b < e.w.heap.size:=(Array.getElem?_eq_some_iff.1 h0).1
 have h1:w'.heap[b]? = some g':=by rw [hw];simp [hlt]
 have hne:∀ k,k≠b→w'.heap[k]? = e.w.heap[k]? := fun k hk=>by rw [hw];simp [Ne.symm hk]
 have hsz:w'.heap.size=e.w.heap.size:=by rw [hw];simp
 have hln:∀ k,blen w' k=blen e.w k:=fun k=>by
  by_cases hk':k=b
  ·subst hk'
   unfold blen
   rw [h0,h1]
   cases g<;>cases g'<;>first | rfl | exact absurd rfl (hg _ _ _) | exact absurd rfl (hg' _ _ _)
  ·exact E5 (hne _ hk')
 have hle:e.le { e with w:=w' }:=by
  refine ⟨fun k i hs=>⟨hs,fun x hx=>?_⟩,fun _ hu=>hu,fun j hu _=>⟨rfl,rfl,fun k q' hk=>hln k⟩,fun _ _ h=>h,fun _ _=>Nat.le_refl _,fun _ _=>rfl,by show _≤w'.heap.size;omega,fun k _=>hln k⟩
  by_cases hk:k=b
  ·subst hk
   exfalso
   unfold World.cell? at hx
   rw [h0] at hx
   cases g<;>first | (exact absurd rfl (hg _ _ _)) | (simp at hx;done)
  ·rw [← hx];exact G2 (hne _ hk)
 exact ⟨h.turn ho hle (fun _ _=>rfl) (fun _ _=>rfl) (fun _ hu=>hu) (fun k _ hk=>hne k (fun hkb=>hk q (by rw [hkb];exact hι))) (by show _≤w'.heap.size;omega) (fun _ _ hs=>.inl hs) (fun k q' hk=>.inl ⟨q',hk⟩) (by rw [hw]) (by rw [hw]) (by rw [hw]) (hok hle h1),hle⟩
theorem U5 {w:World} {r:Nat} {o:Go.Obj} (o':Go.Obj) (hb:w.heap[r]? = some o) (hg:∀ cs t fz,o≠.cells cs t fz:=by intro _ _ _ h;cases h):(setObj r o').run P w=.ok () { w with heap:=w.heap.setIfInBounds r o' }:=by
 cases o<;>first | exact absurd rfl (hg _ _ _) | simp [setObj,Sem.run,hb]
theorem A0E {w:World} {r:Nat} {o:Go.Obj} (hb:w.heap[r]? = some o) (hg:∀ cs t fz,o≠.cells cs t fz:=by intro _ _ _ h;cases h):(getObj r).run P w=.ok o w:=by
 cases o<;>first | exact absurd rfl (hg _ _ _) | simp [getObj,Sem.run,hb]
theorem B57 {w:World} (o:Go.Obj):(newObj o).run P w=.ok w.heap.size (w.alloc o):=by
 simp [newObj,Sem.run]
def A6b (l:List (Nat×A)):List Nat→List (Nat×A)
 | []=>[]
 | k::r=>match H2 l k with
  | .t _=>A6b l r
  | v=>(k,v)::A6b l r
theorem C0R (l:List (Nat×A)):∀ (ks:List Nat),∀ p∈A6b l ks,p.2=H2 l p.1∧∀ q,p.2≠.t q:=by
 intro ks
 induction ks with
 | nil=>intro p h;cases h
 | cons k r ih =>
  intro p h
  simp only [A6b] at h
  split at h
  ·exact ih p h
  ·rename_i hne
   rcases List.mem_cons.1 h with rfl | h
   ·exact ⟨rfl,fun q hq=>hne q hq⟩
   ·exact ih p h
def B2d (T:TT) (eb:B9) (of':Nat→Option Ob):Prop:=∀ id o,of' id=some o→OK T eb id o
def A4S (P:Program) (T:TT) (nt n0:Nat) (of:Nat→Option Ob) (code:Code) (σ:St) (ex:Exit) (σ':St):Prop :=
 σ.le σ'∧∀ (m:Nat) (of':Nat→Option Ob) (c:P9) (eb:B9) (a:Act) (w:World),n0≤σ.nx→A3F of of' eb n0 σ'→B2d T eb of'→Sim T c eb of' n0 nt σ a w→code.wpIn (WF c.rd) m P (fun e a' w'=>e=ex∧Sim T c eb of' n0 nt σ' a' w') a w
def B2e:LoopState→Bool
 | .busy=>false
 | _=>true
def B3X:Option Code→Option Exit
 | none=>some .normal
 | some .ret=>some .ret
 | some (.exit k)=>some (.exit k)
 | _=>none
def A8r (T:TT) (K:KS) (nt:Nat) (of:Nat→Option Ob) (g:Operand) (ps:Array Nat) (asg body:Code) (σ:St):Option (Exit×St) :=
 match σ.mks,evO (H2 σ.sl) g with
 | some l,.f f cap =>
  if K.ord f&&cap.all (A0r T) then
   (fun (ob1:Tr)=>match K.f f (.y (σ.nx+1)::cap) (E0 ob1 of) (σ.nx+2) with
   | some out=>if Nat.ble (σ.nx+2) out.nx then
     (fun (ob2:Tr)=>match ob2.get (σ.nx+1) with
     | some (.lp (some r))=>match B2e r.st,B3X r.pend with
      | true,some ex=>some (ex,⟨σ.sl,ob2.set (σ.nx+1) (.lp (some { r with st:=.exhausted })),A1z ob1 out.ro σ.rd,out.nx,some (σ.nx::l)⟩)
      | _,_=>none
     | _=>none) (A1m ob1 out.wo) else none
   | none=>none) ((σ.ob.set σ.nx (.lp none)).set (σ.nx+1) (.lp (some ⟨nt,A6b σ.sl (A6a σ.sl []),ps,asg,body,.ready,none⟩)))
  else none
 | _,_=>none
theorem C0S {v:A} {x:Value} (h:C6 T e v x) (hv:∀ l,v≠.t l):H6 T e v x:=by
 cases v with
 | t l=>exact absurd rfl (hv l)
 | _=>exact h
theorem A3w {ob:Tr} {of:Nat→Option Ob} {id:Nat} {o:Ob} (h:ob.get id=some o):E0 ob of id=some o:=by
 unfold E0;rw [h]
theorem C0T {K:KS} (hK:W6 P T K) {nt n0:Nat} {g:Operand} {ps:Array Nat} {asg body:Code} {σ:St} {ex:Exit} {σ':St} (hr:A8r T K nt of g ps asg body σ=some (ex,σ')):A4S P T nt n0 of (.rangeFunc g ps asg body) σ ex σ':=by
 unfold A8r at hr
 split at hr<;>try (cases hr;done)
 rename_i l f cap hmk hg
 split at hr<;>try (cases hr;done)
 rename_i hcc
 simp only [E0s] at hcc
 obtain ⟨hord,hcap⟩:=hcc
 generalize hlr:(⟨nt,A6b σ.sl (A6a σ.sl []),ps,asg,body,.ready,none⟩:LR)=lr at hr
 generalize hob1:(σ.ob.set σ.nx (.lp none)).set (σ.nx+1) (.lp (some lr))=ob1 at hr
 simp only at hr
 split at hr<;>try (cases hr;done)
 rename_i out hout
 split at hr<;>try (cases hr;done)
 rename_i hnx
 have hnx:=E0x hnx
 split at hr<;>try (cases hr;done)
 rename_i r hget
 split at hr<;>try (cases hr;done)
 rename_i ex' hbusy hjump
 simp only [E0u,Prod.mk.injEq] at hr
 obtain ⟨rfl,rfl⟩:=hr
 refine ⟨⟨U7 _ _ _,by show σ.nx≤out.nx;omega⟩,fun m of' c eb a w hn hfit hbs hs=>?_⟩
 obtain ⟨e,rfl,hst⟩:=hs
 have hdef:=hst.def_
 rw [hmk] at hdef
 obtain ⟨hrd,hml⟩:=hdef
 have hnu:∀ id,σ.nx≤id→id < out.nx→¬ e.U id:=fun id h1 h2 hu=>by
  rcases hst.U id hu with h3 | h3
  ·exact hfit.fr id (by omega) h2 h3
  ·omega
 have hu1:¬ e.U σ.nx:=hnu _ (Nat.le_refl _) (by omega)
 let e1:=e.newM σ.nx (.deferred (some []))
 have ok1:OK T e1 σ.nx (.lp none):=⟨.inl rfl,upd_same _ _ _,e.w.heap.size,upd_same _ _ _,Q5 _ _⟩
 have os1:A7 T c e1 (G3 (E0 σ.ob of') σ.nx (some (.lp none))):=hst.os.newM hu1 ok1
 have le1:e.le e1:=hst.os.le_newM hu1 _
 have hu2:¬ e1.U (σ.nx+1):=by
  rintro (h | h)
  ·omega
  ·exact hnu _ (by omega) (by omega) h
 have hsz1:e1.w.heap.size=e.w.heap.size+1:=G6 _ _
 refine wpIn_rangeFunc (fun fn _=>?_)
 let rec_:Loop:={ state:=.ready,pending:=none,fn:=fn,tmps:=a.tmps,params:=ps,assign:=asg,body:=body,defers:=e.w.heap.size }
 let e2:=e1.newM (σ.nx+1) (.loop rec_)
 have le2:e1.le e2:=os1.le_newM hu2 _
 have le02:=le1.trans le2
 have ok2:OK T e2 (σ.nx+1) (.lp (some lr)):=by
  refine ⟨.inl rfl,upd_same _ _ _,e1.w.heap.size,a.tmps,e.w.heap.size,fn,upd_same _ _ _,?_,?_,fun p hp=>?_⟩
  ·rw [← hlr];exact Q5 _ _
  ·rw [← hlr];exact hst.nt
  ·rw [← hlr] at hp
   obtain ⟨h1,h2⟩:=C0R _ _ p hp
   refine C0S ?_ h2
   rw [h1]
   exact (hst.sl p.1).mono le02
 have os2:A7 T c e2 (E0 ob1 of'):=by
  rw [← hob1,A1V,A1V]
  exact os1.newM hu2 ok2
 have ι2:e2.ι (σ.nx+1)=some (e.w.heap.size+1,0):=by rw [← hsz1];exact upd_same _ _ _
 have hgv:=B4T (T:=T) (e:=e) (sl:=H2 σ.sl) (a:=a) (x:=g) (fun t _=>hst.sl t)
 rw [hg] at hgv
 obtain ⟨vs,hv,hvs⟩:=A2b hgv
 have hcaps:=B7u (hvs.mono le02) hcap
 have hent:(Instr.enterLoop fn a.tmps ps asg body c.rd).run P e.w=.ok (e.w.heap.size+1,[{ target:=.collected e.w.heap.size,args:=#[] }]) e2.w:=by
  rw [hrd]
  simp only [Instr.enterLoop,Sem.run_bind,B57,Result.andThen_ok,Sem.run_pure]
  rw [← hsz1]
  rfl
 have hyr:C6 T e2 (.y (σ.nx+1)) (.func (.yield (e.w.heap.size+1)) #[] #[]):=RA.r ⟨e.w.heap.size+1,.inl rfl,upd_same _ _ _,ι2,rfl⟩ rfl .nil
 have hdoes:=hK.f f c e2 (E0 ob1 of) (E0 ob1 of') (.y (σ.nx+1)::cap) (#[.func (.yield (e.w.heap.size+1)) #[] #[]]++vs.toArray) (σ.nx+2) out os2 hout
  (A0i hfit.rd (fun id A2=>A2)) (fun id h1 h2=>by
   rintro (h | h | h)
   ·omega
   ·omega
   ·exact hnu id (by omega) h2 h) (by simpa using T7.cons hyr hcaps)
 have hen:=hK.ord f hord (#[.func (.yield (e.w.heap.size+1)) #[] #[]]++vs.toArray) e2.w
 have hcalls:Calls P f (#[.func (.yield (e.w.heap.size+1)) #[] #[]]++vs.toArray) e2.w fun en w'=>∃ x,en=.returned x∧V8 T c e2 (E0 ob1 of') (σ.nx+2) out x w':=by
  rcases hdoes with ⟨x,w',h1,_⟩ | ⟨w',h1,_⟩ | ⟨f',args,w1,h1,h2⟩ | ⟨_,_,_,_,_,w1,h1,_⟩
  ·rw [hen] at h1;cases h1
  ·rw [hen] at h1;cases h1
  ·rw [hen] at h1;cases h1;exact h2
  ·rw [hen] at h1;cases h1
 refine ⟨e.w.heap.size+1,[{ target:=.collected e.w.heap.size,args:=#[] }],e2.w,{ target:=.fn (.func f) vs.toArray,args:=#[.func (.yield (e.w.heap.size+1)) #[] #[]] },e2.w,f,_,e2.w,hent,?_,fun _ _=>trivial,?_,fun h=>(by cases h),CallsIn.mono (A69 hcalls) fun en w3 hw3=>?_⟩
 ·have hcst:∀ v,a.eval (.const v)=v:=fun _=>rfl
  simp [resolve,rangeCall,hv,hcst,Deferred.ofValue]
 ·simpa [Deferred.ofValue,invoke] using hen
 ·obtain ⟨x,rfl,e3,rfl,os3,le3,u3,_⟩:=hw3
  have hob2:put (E0 ob1 of') out.wo=E0 (A1m ob1 out.wo) of':=(A0X _ _ _).symm
  rw [hob2] at os3
  obtain ⟨k1,k2,b,tm,df,fn',k3,k4,k5,k6⟩:=os3.ok _ _ (A3w hget)
  have hι3:e3.ι (σ.nx+1)=some (e.w.heap.size+1,0):=by
   have:=(le3.obj (σ.nx+1) (.inl rfl) (k2.trans (upd_same _ _ _).symm)).1
   rw [this];exact ι2
  rw [hι3] at k3
  cases k3
  have hnb:r.st≠.busy:=by intro h;rw [h] at hbusy;cases hbusy
  let r4:Loop:={ state:=.exhausted,pending:=r.pend,fn:=fn',tmps:=tm,params:=r.ps,assign:=r.asg,body:=r.body,defers:=df }
  let w4:World:={ e3.w with heap:=e3.w.heap.setIfInBounds (e.w.heap.size+1) (.loop r4) }
  obtain ⟨os4,le4⟩:=os3.writeG (o':=.lp (some { r with st:=.exhausted })) (A3w hget) hι3 k4 (fun _ _ _ h=>by cases h) (g':=.loop r4) (fun _ _ _ h=>by cases h) (w':=w4) rfl
   (fun hle hh=>⟨k1,k2,e.w.heap.size+1,tm,df,fn',hι3,hh,k5,fun p hp=>(k6 p hp).mono hle⟩)
  have hend:(Instr.endLoop (e.w.heap.size+1)).run P e3.w=.ok r.pend w4:=by
   simp only [Instr.endLoop,Instr.getLoop,Sem.run_bind,A0E k4,Result.andThen_ok,Sem.run_pure,U5 _ k4]
   have:(r.st == LoopState.busy)=false:=by
    cases hrs:r.st<;>first | rfl | exact absurd hrs hnb
   simp [this,w4,r4,U5 _ k4]
  have hle04:e.le { e3 with w:=w4 }:=(le02.trans le3).trans le4
  have hsim:Sim T c eb of' n0 nt ⟨σ.sl,(A1m ob1 out.wo).set (σ.nx+1) (.lp (some { r with st:=.exhausted })),A1z ob1 out.ro σ.rd,out.nx,some (σ.nx::l)⟩ { a with defers:=[{ target:=.collected e.w.heap.size,args:=#[] }]++a.defers } w4:=by
   refine ⟨{ e3 with w:=w4 },rfl,?_,hst.le.trans hle04,fun id A2=>?_,fun t=>(hst.sl t).mono hle04,?_,hst.nt⟩
   ·rw [A1V];exact os4
   ·rcases u3 id A2 with (h | h | h) | h
    ·subst h;exact .inr ⟨by omega,by show _ < out.nx;omega⟩
    ·subst h;exact .inr ⟨by omega,by show _ < out.nx;omega⟩
    ·rcases hst.U id h with h | h
     ·exact .inl h
     ·exact .inr ⟨h.1,by show _ < out.nx;omega⟩
    ·exact .inr ⟨by omega,h.2⟩
   ·refine ⟨hrd,.cons ?_ ?_ ?_ (hml.mono hle04)⟩
    ·exact le4.use _ (le3.use _ (.inr (.inl rfl)))
    ·have:e2.bn σ.nx=0:=by
      show G3 (G3 e.bn σ.nx 0) (σ.nx+1) 0 σ.nx=0
      rw [A4 _ _ (by omega),upd_same]
     exact le3.box _ (.inr (.inl rfl)) this
    ·have h0:e2.bn σ.nx=0:=by
      show G3 (G3 e.bn σ.nx 0) (σ.nx+1) 0 σ.nx=0
      rw [A4 _ _ (by omega),upd_same]
     have h1:=le3.box _ (.inr (.inl rfl)) h0
     have h2:=(le3.obj σ.nx (.inr (.inl rfl)) (h1.trans h0.symm)).1
     show e3.ι σ.nx=_
     rw [h2]
     show G3 (G3 e.ι σ.nx (some (e.w.heap.size,0))) (σ.nx+1) _ σ.nx=_
     rw [A4 _ _ (by omega),upd_same]
  refine ⟨r.pend,w4,hend,?_⟩
  generalize (⟨σ.sl,(A1m ob1 out.wo).set (σ.nx+1) (.lp (some { r with st:=.exhausted })),A1z ob1 out.ro σ.rd,out.nx,some (σ.nx::l)⟩:St)=σ9 at hsim ⊢
  generalize r.pend=pd at hjump ⊢
  cases pd with
  | none =>
   simp only [B3X,E0u] at hjump
   exact ⟨hjump,hsim⟩
  | some cd =>
   cases cd<;>simp only [B3X,E0u] at hjump<;>try (cases hjump;done)
   ·subst hjump
    exact wpIn_exit (Q:=fun e a' w'=>e=.exit _∧Sim T c eb of' n0 nt σ9 a' w') ⟨rfl,hsim⟩
   ·subst hjump
    exact wpIn_ret (Q:=fun e a' w'=>e=.ret∧Sim T c eb of' n0 nt σ9 a' w') ⟨rfl,hsim⟩
def A5F (ks:List Nat) (f:St→Option (Exit×St)):Nat→St→Option (Exit×St)
 | 0,_=>none
 | n+1,σ=>match f (σ.tidy ks) with
  | some (.normal,σ1)=>A5F ks f n σ1
  | r=>r
def T3 (T:TT) (K:KS) (Lo:A5E) (fu nt:Nat) (of:Nat→Option Ob):Code→St→Option (Exit×St)
 | .skip,σ=>some (.normal,σ)
 | .ret,σ=>some (.ret,σ)
 | .exit id,σ=>some (.exit id,σ)
 | .region _ ops draw,σ =>
  match draw with
  | false=>if ops.toList.all (A4j nt) then (match Q3 T K ops of ops.toList σ with
   | some (_,σ')=>some (.normal,σ')
   | none=>none) else none
  | true=>if B3U nt ops then (match Q3 T K ops of ops.toList σ with
   | some (Es,σ')=>if A9u (A2I ops.toList []) Es 0 Es then some (.normal,σ') else
    (match Q3 T K ops of ops.toList (σ.pre of (D17 (E0 σ.ob of) Es)) with
    | some (Es2,σ2)=>if A9u (A2I ops.toList []) Es2 0 Es2 then some (.normal,σ2) else none
    | none=>none)
   | none=>none) else none
 | .seq x y,σ =>
  match T3 T K Lo fu nt of x σ with
  | some (.normal,σ1)=>T3 T K Lo fu nt of y σ1
  | r=>r
 | .cond q x y,σ =>
  match evO (H2 σ.sl) q with
  | .b true=>T3 T K Lo fu nt of x σ
  | .b false=>T3 T K Lo fu nt of y σ
  | _=>none
 | .block id body,σ =>
  match T3 T K Lo fu nt of body σ with
  | some (.exit id',σ')=>some (if Nat.beq id' id then .normal else .exit id',σ')
  | r=>r
 | .loop body,σ =>
  match Lo body with
  | some s=>s of σ
  | none=>A5F (A6a σ.sl []) (fun σ=>T3 T K Lo fu nt of body σ) fu σ
 | .rangeFunc g ps asg body,σ=>A8r T K nt of g ps asg body σ
 | _,_=>none
def Q1 (P:Program) (T:TT) (nt n0:Nat) (Lo:A5E):Code→Prop
 | .seq x y=>Q1 P T nt n0 Lo x∧Q1 P T nt n0 Lo y
 | .cond _ x y=>Q1 P T nt n0 Lo x∧Q1 P T nt n0 Lo y
 | .block _ b=>Q1 P T nt n0 Lo b
 | .loop b=>(∀ s,Lo b=some s→∀ of σ ex σ',s of σ=some (ex,σ')→A4S P T nt n0 of (.loop b) σ ex σ')∧Q1 P T nt n0 Lo b
 | _=>True
theorem A1 {nt n0:Nat}:∀ code,Q1 P T nt n0 (fun _=>none) code:=by
 intro code
 induction code with
 | seq x y ihx ihy=>exact ⟨ihx,ihy⟩
 | cond q x y ihx ihy=>exact ⟨ihx,ihy⟩
 | block id b ih=>exact ih
 | loop b ih=>exact ⟨fun s h=>(by cases h),ih⟩
 | _=>trivial
theorem Sim.cond {n0 nt:Nat} {σ:St} {a:Act} {w:World} (h:Sim T c eb of n0 nt σ a w) {q:Operand} {t:Bool} (hq:evO (H2 σ.sl) q=.b t):a.eval q=.bool t:=by
 obtain ⟨e,rfl,hst⟩:=h
 have:=B4T (T:=T) (e:=e) (sl:=H2 σ.sl) (a:=a) (x:=q) (fun t _=>hst.sl t)
 rw [hq] at this
 exact A00 this
theorem C0U {nt n0:Nat} {ks:List Nat} {body:Code} {f:St→Option (Exit×St)} (hf:∀ σ ex σ',f σ=some (ex,σ')→A4S P T nt n0 of body σ ex σ'):∀ (n:Nat) (σ:St) (ex:Exit) (σ':St),A5F ks f n σ=some (ex,σ') →
  σ.le σ'∧∀ (m:Nat) (of':Nat→Option Ob) (c:P9) (eb:B9) (a:Act) (w:World),n0≤σ.nx→A3F of of' eb n0 σ'→B2d T eb of'→Sim T c eb of' n0 nt σ a w→Code.roundsIn (WF c.rd) m P body (fun e a' w'=>e=ex∧Sim T c eb of' n0 nt σ' a' w') n a w:=by
 intro n
 induction n with
 | zero=>intro σ ex σ' h;cases h
 | succ n ih =>
  intro σ ex σ' h
  simp only [A5F] at h
  split at h
  ·rename_i σ1 hx
   obtain ⟨l1,k1⟩:=hf _ _ _ hx
   obtain ⟨l2,k2⟩:=ih _ _ _ h
   refine ⟨St.le.trans l1 l2,fun m of' c eb a w hn hfit hbs hs=>?_⟩
   refine U0 ?_ (k1 m of' c eb a w hn (hfit.mono l2) hbs (hs.tidy ks))
   rintro e' a' w' ⟨rfl,hs'⟩
   exact k2 m of' c eb a' w' (Nat.le_trans hn l1.2) hfit hbs hs'
  ·rename_i r0 hne
   obtain ⟨l1,k1⟩:=hf _ _ _ h
   refine ⟨l1,fun m of' c eb a w hn hfit hbs hs=>?_⟩
   have hex:ex≠.normal:=by
    intro he;subst he;exact hne _ h
   refine U0 ?_ (k1 m of' c eb a w hn hfit hbs (hs.tidy ks))
   rintro e' a' w' ⟨rfl,hs'⟩
   cases e' with
   | normal=>exact absurd rfl hex
   | _=>exact ⟨rfl,hs'⟩
theorem A4T (hm:P.follows .mixedOrders=true) (hT:L8 T P) {K:KS} (hK:W6 P T K) {Lo:A5E} {fu nt n0:Nat}:∀ (code:Code),Q1 P T nt n0 Lo code→∀ (σ:St) (ex:Exit) (σ':St),T3 T K Lo fu nt of code σ=some (ex,σ')→A4S P T nt n0 of code σ ex σ':=by
 intro code
 induction code with
 | skip =>
  intro _ σ ex σ' h
  simp only [T3,E0u,Prod.mk.injEq] at h
  obtain ⟨rfl,rfl⟩:=h
  exact ⟨St.le.refl _,fun m of' c eb a w _ _ _ hs=>wpIn_skip ⟨rfl,hs⟩⟩
 | ret =>
  intro _ σ ex σ' h
  simp only [T3,E0u,Prod.mk.injEq] at h
  obtain ⟨rfl,rfl⟩:=h
  exact ⟨St.le.refl _,fun m of' c eb a w _ _ _ hs=>wpIn_ret ⟨rfl,hs⟩⟩
 | exit id =>
  intro _ σ ex σ' h
  simp only [T3,E0u,Prod.mk.injEq] at h
  obtain ⟨rfl,rfl⟩:=h
  exact ⟨St.le.refl _,fun m of' c eb a w _ _ _ hs=>wpIn_exit ⟨rfl,hs⟩⟩
 | region id ops draw =>
  intro _ σ ex σ' h
  simp only [T3] at h
  cases draw with
  | false =>
   simp only at h
   split at h<;>try (cases h;done)
   rename_i hd
   split at h<;>try (cases h;done)
   rename_i Es σ2 hr
   simp only [E0u,Prod.mk.injEq] at h
   obtain ⟨rfl,rfl⟩:=h
   exact ⟨A1X _ _ _ _ hr,fun m of' c eb a w hn hfit hbs hs=>C2l hT hK hd hr hn hfit hs (fun a' w' h'=>⟨rfl,h'⟩)⟩
  | true =>
   simp only at h
   split at h<;>try (cases h;done)
   rename_i hd
   split at h<;>try (cases h;done)
   rename_i Es σ2 hr
   split at h
   ·rename_i hdy
    simp only [E0u,Prod.mk.injEq] at h
    obtain ⟨rfl,rfl⟩:=h
    exact ⟨A1X _ _ _ _ hr,fun m of' c eb a w hn hfit hbs hs=>B3V hm hT hK hd hr hdy hn hfit hs (fun a' w' h'=>⟨rfl,h'⟩)⟩
   ·split at h<;>try (cases h;done)
    rename_i Es2 σ3 hr2
    split at h<;>try (cases h;done)
    rename_i hdy
    simp only [E0u,Prod.mk.injEq] at h
    obtain ⟨rfl,rfl⟩:=h
    have l2:=A1X _ _ _ _ hr2
    exact ⟨(St.pre_le _ _).trans l2,fun m of' c eb a w hn hfit hbs hs=>B3V hm hT hK hd hr2 hdy hn hfit (hs.pre (fun id A2=>hfit.rd id (l2.1 id A2))) (fun a' w' h'=>⟨rfl,h'⟩)⟩
 | seq x y ihx ihy =>
  intro hl σ ex σ' h
  simp only [T3] at h
  split at h
  ·rename_i σ1 hx
   obtain ⟨l1,k1⟩:=ihx hl.1 _ _ _ hx
   obtain ⟨l2,k2⟩:=ihy hl.2 _ _ _ h
   refine ⟨l1.trans l2,fun m of' c eb a w hn hfit hbs hs=>wpIn_seq (U0 ?_ (k1 m of' c eb a w hn (hfit.mono l2) hbs hs))⟩
   rintro e' a' w' ⟨rfl,hs'⟩
   exact k2 m of' c eb a' w' (Nat.le_trans hn l1.2) hfit hbs hs'
  ·rename_i r0 hne
   obtain ⟨l1,k1⟩:=ihx hl.1 _ _ _ h
   have hex:ex≠.normal:=by intro he;subst he;exact hne _ h
   refine ⟨l1,fun m of' c eb a w hn hfit hbs hs=>wpIn_seq (U0 ?_ (k1 m of' c eb a w hn hfit hbs hs))⟩
   rintro e' a' w' ⟨rfl,hs'⟩
   cases e' with
   | normal=>exact absurd rfl hex
   | _=>exact ⟨rfl,hs'⟩
 | cond q x y ihx ihy =>
  intro hl σ ex σ' h
  simp only [T3] at h
  split at h<;>try (cases h;done)
  ·rename_i hq
   obtain ⟨l1,k1⟩:=ihx hl.1 _ _ _ h
   exact ⟨l1,fun m of' c eb a w hn hfit hbs hs=>wpIn_cond (hs.cond hq) (k1 m of' c eb a w hn hfit hbs hs)⟩
  ·rename_i hq
   obtain ⟨l1,k1⟩:=ihy hl.2 _ _ _ h
   exact ⟨l1,fun m of' c eb a w hn hfit hbs hs=>wpIn_cond (hs.cond hq) (k1 m of' c eb a w hn hfit hbs hs)⟩
 | block id body ih =>
  intro hl σ ex σ' h
  simp only [T3] at h
  split at h
  ·rename_i id' σ1 hb
   obtain ⟨l1,k1⟩:=ih hl _ _ _ hb
   injection h with h;injection h with h1 h2
   subst h2
   refine ⟨l1,fun m of' c eb a w hn hfit hbs hs=>wpIn_block (U0 ?_ (k1 m of' c eb a w hn hfit hbs hs))⟩
   rintro e' a' w' ⟨rfl,hs'⟩
   by_cases A2:id'=id
   ·subst A2
    rw [if_pos (Nat.beq_refl _)] at h1
    subst h1
    simp only [Exit.inBlock,if_true]
    exact ⟨trivial,hs'⟩
   ·rw [if_neg (fun q=>A2 (E0r q))] at h1
    subst h1
    simp only [Exit.inBlock,if_neg A2]
    exact ⟨trivial,hs'⟩
  ·rename_i r0 hne
   obtain ⟨l1,k1⟩:=ih hl _ _ _ h
   have hex:∀ id',ex≠.exit id':=by intro id' he;subst he;exact hne _ _ h
   refine ⟨l1,fun m of' c eb a w hn hfit hbs hs=>wpIn_block (U0 ?_ (k1 m of' c eb a w hn hfit hbs hs))⟩
   rintro e' a' w' ⟨rfl,hs'⟩
   cases e' with
   | exit id'=>exact absurd rfl (hex id')
   | _=>exact ⟨rfl,hs'⟩
 | loop body ih =>
  intro hl σ ex σ' h
  simp only [T3] at h
  split at h
  ·rename_i s hs
   exact hl.1 s hs of σ ex σ' h
  ·obtain ⟨l1,k1⟩:=C0U (fun σ ex σ' h=>ih hl.2 σ ex σ' h) fu σ ex σ' h
   exact ⟨l1,fun m of' c eb a w hn hfit hbs hs=>wpIn_loop_rounds fu (k1 m of' c eb a w hn hfit hbs hs)⟩
 | rangeFunc g ps asg body _ _ =>
  intro _ σ ex σ' h
  simp only [T3] at h
  exact C0T hK h
 | _=>intro _ σ ex σ' h;simp only [T3] at h;cases h
variable {P:Program} {T:TT} {c:P9} {e eb:B9} {of of':Nat→Option Ob}
def A5G (T:TT) (sl:Nat→A) (of:Nat→Option Ob):ResultVar→Option (A×List Nat)
 | .tmp t=>match sl t with
  | .t _=>none
  | v=>some (v,[])
 | .cell a t=>match T t,sl a with
  | some te,.p id _ path=>match of id with
   | some (.box _ b _)=>match atA T b path with
    | some a1=>match V7 T t a1 with
     | some a2=>some (norm T a2,[id])
     | none=>none
    | none=>none
   | _=>none
  | _,_=>none
def A1w (T:TT) (sl:Nat→A) (of:Nat→Option Ob):List ResultVar→Option (List A×List Nat)
 | []=>some ([],[])
 | r::rs=>match A5G T sl of r with
  | some (v,p)=>match A1w T sl of rs with
   | some (l,q)=>some (v::l,p++q)
   | none=>none
  | none=>none
def A5H (T:TT) (sl:Nat→A) (of:Nat→Option Ob) (rs:List ResultVar):Option (A×List Nat) :=
 match A1w T sl of rs with
 | some (l,p)=>match l with
  | [v]=>some (v,p)
  | l=>some (.t l,p)
 | none=>none
def B2f (tmps:Array Value):ResultVar→Sem Value
 | .tmp t=>pure (tmps.getD t undef)
 | .cell a t=>do loadVar t (← asAddr (tmps.getD a undef))
theorem A8s (fn:Func) (tmps:Array Value):results fn tmps=(do let vs ← fn.results.mapM (B2f tmps);pure (if h:vs.size=1 then vs[0] else .tuple vs)):=by
 unfold results
 congr 2
theorem C6S {t:Nat} {a b:A} (h:V7 T t a=some b):∀ l,norm T b≠.t l:=by
 intro l hl
 cases b with
 | v t' y=>simp only [norm,mkA] at hl;repeat' split at hl
           all_goals cases hl
 | t l' =>
  have:=A6R h
  simp [E1] at this
 | _=>cases hl
theorem C0V (hT:L8 T P) {U:Nat→Prop} {nt:Nat} {mk:Option (List Nat)} {sl:Nat→A} {a:Act} (h:Z8 T c eb sl of' U nt mk a e) {r:ResultVar} {v:A} {ro:List Nat} (hr:A5G T sl of r=some (v,ro)) (ho:∀ id∈ro,of' id=of id) :
  ∃ x,(B2f a.tmps r).run P e.w=.ok x e.w∧C6 T e v x∧∀ l,v≠.t l:=by
 cases r with
 | tmp t =>
  simp only [A5G] at hr
  split at hr<;>try (cases hr;done)
  rename_i hne
  simp only [E0u,Prod.mk.injEq] at hr
  obtain ⟨rfl,-⟩:=hr
  exact ⟨_,rfl,h.sl t,hne⟩
 | cell ad t =>
  simp only [A5G] at hr
  split at hr<;>try (cases hr;done)
  rename_i te id t' path hte hsl
  split at hr<;>try (cases hr;done)
  rename_i t0 b sh hof
  split at hr<;>try (cases hr;done)
  rename_i a1 h1
  split at hr<;>try (cases hr;done)
  rename_i a2 h2
  simp only [E0u,Prod.mk.injEq] at hr
  obtain ⟨rfl,rfl⟩:=hr
  have hx:=h.sl ad
  rw [hsl] at hx
  obtain ⟨u1,u2,u3,u4,bb,cs,ty,fz,g1,g2,g3,g4,g5,g6⟩:=A0l h.os ((ho id (by simp)).trans hof)
  obtain ⟨b',off,_,_,k1,k2,hv⟩:=Q6 hx
  rw [g1] at k1;cases k1
  rw [u3] at k2
  obtain ⟨pre,d,post,q1,q2,q3,q4,q5⟩:=A0t path g5 u4 k2 h1
  obtain ⟨r1,r2⟩:=A7K q4 h2
  obtain ⟨x,y1,y2⟩:=run_load (P:=P) hT hte r1 r2 (ad:=⟨bb,off,none⟩) (fun j y hj=>by
   rw [F3,J5 g2,q1,← q2];exact S5 hj)
  exact ⟨x,by simp only [B2f,hv,asAddr];exact y1,A1i hte y2 r2,C6S h2⟩
theorem A8t (hT:L8 T P) {U:Nat→Prop} {nt:Nat} {mk:Option (List Nat)} {sl:Nat→A} {a:Act} (h:Z8 T c eb sl of' U nt mk a e):∀ (rs:List ResultVar) (l:List A) (ro:List Nat),A1w T sl of rs=some (l,ro)→(∀ id∈ro,of' id=of id) →
  ∃ xs,(rs.mapM (B2f a.tmps)).run P e.w=.ok xs e.w∧T7 T e l xs∧∀ v∈l,∀ m,v≠.t m:=by
 intro rs
 induction rs with
 | nil =>
  intro l p hr _
  simp only [A1w,E0u,Prod.mk.injEq] at hr
  obtain ⟨rfl,-⟩:=hr
  exact ⟨[],by simp,.nil,fun v hv=>by cases hv⟩
 | cons r rs ih =>
  intro l p hr ho
  simp only [A1w] at hr
  split at hr<;>try (cases hr;done)
  rename_i v p1 h1
  split at hr<;>try (cases hr;done)
  rename_i l1 q1 h2
  simp only [E0u,Prod.mk.injEq] at hr
  obtain ⟨rfl,rfl⟩:=hr
  obtain ⟨x,g1,g4,g5⟩:=C0V hT h h1 (fun id A2=>ho id (by simp [A2]))
  obtain ⟨xs,k1,k4,k5⟩:=ih _ _ h2 (fun id A2=>ho id (by simp [A2]))
  refine ⟨x::xs,by simp [List.mapM_cons,g1,k1],.cons g4 k4,fun u hu=>?_⟩
  rcases List.mem_cons.1 hu with rfl | hu
  ·exact g5
  ·exact k5 u hu
theorem A6S {v:A} {x:Value} (h:C6 T e v x) (hv:∀ l,v≠.t l):H6 T e v x:=by
 cases v with
 | t l=>exact absurd rfl (hv l)
 | _=>exact h
theorem B8u (hT:L8 T P) {U:Nat→Prop} {nt:Nat} {mk:Option (List Nat)} {sl:Nat→A} {a:Act} (fn:Func) (h:Z8 T c eb sl of' U nt mk a e) {v:A} {ro:List Nat} (hr:A5H T sl of fn.results.toList=some (v,ro)) (ho:∀ id∈ro,of' id=of id) :
  ∃ x,(results fn a.tmps).run P e.w=.ok x e.w∧C6 T e v x:=by
 unfold A5H at hr
 split at hr<;>try (cases hr;done)
 rename_i l p hm
 split at hr
 ·rename_i v'
  simp only [E0u,Prod.mk.injEq] at hr
  obtain ⟨rfl,rfl⟩:=hr
  obtain ⟨xs,h1,h4,h5⟩:=A8t hT h _ _ _ hm ho
  cases h4 with
  | @cons _ x _ s hx hs =>
  cases hs
  refine ⟨x,?_,hx⟩
  rw [A8s]
  simp [Array.mapM_eq_mapM_toList,h1]
 ·rename_i hne
  simp only [E0u,Prod.mk.injEq] at hr
  obtain ⟨rfl,rfl⟩:=hr
  obtain ⟨xs,h1,h4,h5⟩:=A8t hT h _ _ _ hm ho
  obtain ⟨g1,g2⟩:=h4.get
  have hl1:l.length≠1:=by
   intro hl
   obtain ⟨v,rfl⟩:=List.length_eq_one_iff.1 hl
   exact hne v rfl
  refine ⟨.tuple xs.toArray,?_,⟨xs.toArray,rfl,by simpa using g1,fun i v x hv hx=>A6S (g2 i v x hv (by simpa using hx)) (h5 v (List.mem_of_getElem? hv))⟩⟩
  rw [A8s]
  have hx1:¬ xs.length=1:=by omega
  simp [Array.mapM_eq_mapM_toList,h1,hx1]
mutual
def C6T (n:Nat):A→Bool
 | .p id _ _=>Nat.ble n id
 | .e id _ _ _ _=>Nat.ble n id
 | .o id _=>Nat.ble n id
 | .w id _ _ _=>Nat.ble n id
 | .a id _ _ _ _=>Nat.ble n id
 | .m id=>Nat.ble n id
 | .y id=>Nat.ble n id
 | .f _ l=>B8v n l
 | .g _ l=>B8v n l
 | .t l=>B8v n l
 | _=>false
def B8v (n:Nat):List A→Bool
 | []=>false
 | a::r=>C6T n a||B8v n r
end
def D80 (n:Nat):Ob→Bool
 | .box _ a _=>C6T n a
 | .row _ _ _ _ _=>false
 | .map _ _ es=>es.any fun p=>C6T n p.2
 | .vm _ _ _=>false
 | .sm _ _ _ _ _=>false
 | .lp (some r)=>r.sl.any fun p=>C6T n p.2
 | .lp none=>false
 | .it (some m)=>Nat.ble n m
 | .it none=>false
def D4m (n:Nat) (v:A) (l:List (Nat×Ob)):Bool:=C6T n v||l.any fun p=>Nat.blt p.1 n&&D80 n p.2
def A4U (n:Nat) (v:A) (σ:St) (ro:List Nat):J2 :=
 match σ.ob.toL fun j=>j with
 | []=>⟨v,[],A1z σ.ob ro σ.rd,σ.nx⟩
 | l=>⟨v,bif D4m n v l then l else l.filter fun p=>Nat.blt p.1 n||Nat.ble σ.nx p.1,A1z σ.ob ro σ.rd,σ.nx⟩
def A4V:Nat→List A→List (Nat×A)
 | _,[]=>[]
 | k,v::r=>(k,v)::A4V (k+1) r
def C0W:Exit→Bool
 | .ret | .normal=>true
 | _=>false
def A0I (ms:List Nat) (f:Nat→Option Ob):Nat→Option Ob:=fun j=>if mem j ms then none else f j
def B2g (n h:Nat) (f:Nat→Option Ob):List Nat→Bool
 | []=>true
 | id::r=>(match f id with
  | some (.lp none)=>true
  | _=>false)&&Nat.ble n id&&Nat.blt id h&&!mem id r&&B2g n h f r
def A6c (ms:List Nat) (f:J2):J2 :=
 match ms with
 | []=>f
 | _=>{ f with wo:=f.wo.filter fun p=>!mem p.1 ms }
def A9v (P:Program) (T:TT) (K:KS) (Lo:Nat→A5E) (fu f:Nat):Sym:=fun args of nx =>
 match P.funcs[f]? with
 | some fn=>match fn.body with
  | some code=>if !(fn.name == "runtime.NumGoroutine")&&Nat.ble args.length fn.ntmps then
    (match T3 T K (Lo nx) fu fn.ntmps of code ⟨A4V 0 args,.e,[],nx,some []⟩ with
    | some (ex,σ)=>if C0W ex then
      (match σ.mks with
      | some ms=>if B2g nx σ.nx σ.ob.get ms then
       (match A5H T (H2 σ.sl) (E0 σ.ob of) fn.results.toList with
       | some (v,ro)=>some (A6c ms (A4U nx v σ ro))
       | none=>none) else none
      | none=>none) else none
    | none=>none) else none
  | none=>none
 | none=>none
theorem B0E:∀ (l:List A) (k t:Nat),H2 (A4V k l) t=if t < k then .x else l.getD (t - k) .x:=by
 intro l
 induction l with
 | nil=>intro k t;simp [A4V,H2]
 | cons v r ih =>
  intro k t
  rw [A4V,U6,G3]
  by_cases h:t=k
  ·subst h;simp
  ·rw [if_neg h,ih (k+1) t]
   by_cases hlt:t < k
   ·rw [if_pos (by omega),if_pos hlt]
   ·rw [if_neg (by omega),if_neg hlt,show t - k=t - (k+1)+1 by omega]
    simp
theorem A8u (keep:Nat→Bool):∀ (l:List (Nat×Ob)) (f g:Nat→Option Ob) (id:Nat),f id=g id→put f (l.filter fun p=>keep p.1) id=if keep id then put g l id else f id:=by
 intro l
 induction l with
 | nil=>intro f g id h;simp only [List.filter_nil,put];split;exact h;rfl
 | cons p r ih =>
  intro f g id h
  obtain ⟨k,o⟩:=p
  by_cases hk:keep k=true
  ·rw [List.filter_cons_of_pos (by exact hk)]
   simp only [put]
   by_cases A2:id=k
   ·subst A2
    rw [ih _ (G3 g id (some o)) id (by rw [upd_same,upd_same]),if_pos hk,if_pos hk]
   ·rw [ih _ (G3 g k (some o)) id (by rw [A4 _ _ A2,A4 _ _ A2];exact h),A4 _ _ A2]
  ·rw [List.filter_cons_of_neg (by exact hk)]
   simp only [put]
   by_cases A2:id=k
   ·subst A2
    rw [ih f f id rfl,if_neg hk,if_neg hk]
   ·exact ih f _ id (by rw [A4 _ _ A2];exact h)
theorem A7.sub {of2:Nat→Option Ob} (h:A7 T c e of) (hs:∀ id o,of2 id=some o→of id=some o):A7 T c e of2:=by
 have hs':∀ id,(of2 id).isSome→(of id).isSome:=fun id h=>by
  obtain ⟨o,ho⟩:=E0w.1 h
  rw [hs _ _ ho];rfl
 exact ⟨fun id o ho=>h.ok id o (hs _ _ ho),fun i j b o b' o' hi hj=>h.sep i j b o b' o' (hs' _ hi) (hs' _ hj),fun i b o hi=>h.own i b o (hs' _ hi),h.lt,h.slt,h.s0,h.snew,h.os,h.tape,h.output,h.size,h.block,h.g.mono (fun _ _ q=>q) rfl (fun _ q=>q) (Nat.le_refl _) (fun j b o hj hb=>.inl ⟨j,o,hs' j hj,hb⟩)⟩
theorem A3x (n:Nat) (v:A) (σ:St) (ro:List Nat):(A4U n v σ ro).val=v∧(A4U n v σ ro).ro=A1z σ.ob ro σ.rd∧(A4U n v σ ro).nx=σ.nx ∧
  ((A4U n v σ ro).wo=(σ.ob.toL fun j=>j)∨(A4U n v σ ro).wo=(σ.ob.toL fun j=>j).filter fun p=>Nat.blt p.1 n||Nat.ble σ.nx p.1):=by
 unfold A4U
 split
 ·rename_i h;rw [h];exact ⟨rfl,rfl,rfl,.inl rfl⟩
 ·cases D4m n v (σ.ob.toL fun j=>j)
  ·exact ⟨rfl,rfl,rfl,.inr rfl⟩
  ·exact ⟨rfl,rfl,rfl,.inl rfl⟩
theorem A8v {n:Nat} {v:A} {σ:St} {ro:List Nat} (hb:B2d T e of') (hf:∀ id,n≤id→id < σ.nx→¬ e.U id):∀ id o,put of' (A4U n v σ ro).wo id=some o→E0 σ.ob of' id=some o:=by
 intro id o ho
 obtain ⟨o1,o2,o3,o4⟩:=A3x n v σ ro
 rcases o4 with h4 | h4
 ·rw [h4,A2o] at ho;exact ho
 ·rw [h4,A8u (fun k=>Nat.blt k n||Nat.ble σ.nx k) _ of' of' id rfl] at ho
  split at ho
  ·rw [A2o] at ho;exact ho
  ·rename_i hk
   simp only [Bool.or_eq_true,Nat.blt_eq,Nat.ble_eq,not_or,Nat.not_lt,Nat.not_le] at hk
   exact absurd (hb _ _ ho).use (hf id hk.1 hk.2)
theorem B0F {n h:Nat} {f:Nat→Option Ob}:∀ (ms:List Nat),B2g n h f ms=true→(∀ id∈ms,f id=some (.lp none)∧n≤id∧id < h)∧ms.Nodup:=by
 intro ms
 induction ms with
 | nil=>intro _;exact ⟨fun _ h=>(by cases h),.nil⟩
 | cons id r ih =>
  intro hm
  simp only [B2g,E0s,Bool.not_eq_true'] at hm
  obtain ⟨⟨⟨⟨h1,h2⟩,h3⟩,h4⟩,h5⟩:=hm
  obtain ⟨i1,i2⟩:=ih h5
  refine ⟨fun j hj=>?_,List.nodup_cons.2 ⟨fun q=>(by rw [mem_iff.2 q] at h4;cases h4),i2⟩⟩
  rcases List.mem_cons.1 hj with rfl | hj
  ·refine ⟨?_,E0x h2,by simpa [Nat.blt_eq] using h3⟩
   split at h1<;>first | assumption | cases h1
  ·exact i1 j hj
theorem C0X (f:Nat→Option Ob):A0I [] f=f:=by
 funext j;simp [A0I,mem]
theorem B58 {id:Nat} {r:List Nat} {f:Nat→Option Ob}:A0I r (fun j=>if j=id then none else f j)=A0I (id::r) f:=by
 funext j
 simp only [A0I,mem]
 by_cases h:j=id
 ·subst h;simp
 ·have:Nat.beq id j=false:=by
   rw [← Bool.not_eq_true];intro q;exact h (E0r q).symm
  simp [h,this]
theorem A8w (ms:List Nat) (f:J2):(A6c ms f).val=f.val∧(A6c ms f).ro=f.ro∧(A6c ms f).nx=f.nx∧∀ (of:Nat→Option Ob) id o,put of (A6c ms f).wo id=some o→(id∈ms∧of id=some o)∨(id ∉ ms∧put of f.wo id=some o):=by
 cases ms with
 | nil=>exact ⟨rfl,rfl,rfl,fun of id o h=>.inr ⟨by simp,h⟩⟩
 | cons m r =>
  refine ⟨rfl,rfl,rfl,fun of id o h=>?_⟩
  have h:put of (f.wo.filter fun p=>!mem p.1 (m::r)) id=some o:=h
  rw [A8u (fun k=>!mem k (m::r)) _ of of id rfl] at h
  by_cases hm:mem id (m::r)=true
  ·rw [hm] at h
   exact .inl ⟨mem_iff.1 hm,by simpa using h⟩
  ·rw [Bool.not_eq_true] at hm
   rw [hm] at h
   exact .inr ⟨fun q=>(by rw [mem_iff.2 q] at hm;cases hm),by simpa using h⟩
theorem A7.aside (h:A7 T c e of) {b:Nat} (hown:c.w0.heap.size≤b∨c.M b) (hno:∀ id q,(of id).isSome→e.ι id≠some (b,q)) (hnG:∀ a,¬ e.G a b) {g g':Go.Obj} (h0:e.w.heap[b]? = some g) (hg:∀ cs t fz,g≠.cells cs t fz) (hg':∀ cs t fz,g'≠.cells cs t fz) {w':World} (hw:w'={ e.w with heap:=e.w.heap.setIfInBounds b g' }) :
  A7 T c { e with w:=w' } of∧e.le { e with w:=w' }:=by
 have hlt:b < e.w.heap.size:=(Array.getElem?_eq_some_iff.1 h0).1
 have h1:w'.heap[b]? = some g':=by rw [hw];simp [hlt]
 have hne:∀ k,k≠b→w'.heap[k]? = e.w.heap[k]? := fun k hk=>by rw [hw];simp [Ne.symm hk]
 have hsz:w'.heap.size=e.w.heap.size:=by rw [hw];simp
 have hln:∀ k,blen w' k=blen e.w k:=fun k=>by
  by_cases hk':k=b
  ·subst hk'
   unfold blen
   rw [h0,h1]
   cases g<;>cases g'<;>first | rfl | exact absurd rfl (hg _ _ _) | exact absurd rfl (hg' _ _ _)
  ·exact E5 (hne _ hk')
 have hle:e.le { e with w:=w' }:=by
  refine ⟨fun k i hs=>⟨hs,fun x hx=>?_⟩,fun _ hu=>hu,fun j hu _=>⟨rfl,rfl,fun k q' hk=>hln k⟩,fun _ _ h=>h,fun _ _=>Nat.le_refl _,fun _ _=>rfl,by show _≤w'.heap.size;omega,fun k _=>hln k⟩
  by_cases hk:k=b
  ·subst hk
   exfalso
   unfold World.cell? at hx
   rw [h0] at hx
   cases g<;>first | (exact absurd rfl (hg _ _ _)) | (simp at hx;done)
  ·rw [← hx];exact G2 (hne _ hk)
 refine ⟨⟨fun id o ho=>(h.ok id o ho).keep hle rfl (fun k q hk=>hne k (fun hkb=>hno id q (by rw [ho];rfl) (by rw [← hkb];exact hk))) (fun _ _ _ _ hs=>hs) (fun a o' k _ hG=>⟨hG,hne k (fun hkb=>hnG a (hkb ▸ hG)),fun i hs=>hs⟩),h.sep,h.own,fun id k q hu hk=>by show k < w'.heap.size;rw [hsz];exact h.lt id k q hu hk,fun k i hs=>by show k < w'.heap.size;rw [hsz];exact h.slt k i hs,h.s0,h.snew,by show w'.os=_;rw [hw];exact h.os,by show w'.tape=_;rw [hw];exact h.tape,by show w'.output=_;rw [hw];exact h.output,by show _≤w'.heap.size;rw [hsz];exact h.size,fun k hk hm=>?_,h.g.mono (fun _ _ q=>q) rfl (fun _ q=>q) (by show _≤w'.heap.size;omega) (fun j b o hj hb=>.inl ⟨j,o,hj,hb⟩)⟩,hle⟩
 show w'.heap[k]? = _
 rw [hne k (fun hkb=>by subst hkb;rcases hown with h' | h';omega;exact hm h')]
 exact h.block k hk hm
theorem A4W {n:Nat} {fn:Func} {tmps:Array Value} {R:Ending→World→Prop}:∀ (ms:List Nat) (ds:List Deferred) (e:B9) (f:Nat→Option Ob),A0h e ms ds→(∀ id∈ms,f id=some (.lp none))→ms.Nodup→A7 T c e f →
  (∀ e',e.le e'→(∀ id,e'.U id→e.U id)→A7 T c e' (A0I ms f)→∃ v,(results fn tmps).run P e'.w=.ok v e'.w∧R (.returned v) e'.w)→LeavesInM (WF none) n P fn tmps R ds .returning e.w:=by
 intro ms
 induction ms with
 | nil =>
  intro ds e f hm _ _ hos h
  cases hm
  rw [LeavesInM,LeavesIn]
  exact h e (B9.le.refl e) (fun _ q=>q) (by rw [C0X];exact hos)
 | cons id r ih =>
  intro ds e f hm hn hd hos h
  cases hm with
  | @cons _ b _ ds' h1 h2 h3 h4 =>
  obtain ⟨g1,g2,b',g3,g4⟩:=hos.ok id _ (hn id (by simp))
  rw [h3] at g3;cases g3
  obtain ⟨d1,d2⟩:=List.nodup_cons.1 hd
  let f':Nat→Option Ob:=fun j=>if j=id then none else f j
  have hsub:∀ j o,f' j=some o→f j=some o:=fun j o hj=>by
   by_cases hj':j=id
   ·simp [f',hj'] at hj
   ·simpa [f',hj'] using hj
  have os1:A7 T c e f':=hos.sub hsub
  let w':World:={ e.w with heap:=e.w.heap.setIfInBounds b (.deferred none) }
  obtain ⟨os2,le2⟩:=os1.aside (b:=b) (hos.own id b 0 (by rw [hn id (by simp)];rfl) h3) (fun j q hj hι=>by
   have hj':j≠id:=by intro q';subst q';simp [f'] at hj
   have hjs:(f j).isSome:=by simpa [f',hj'] using hj
   exact absurd rfl (hos.sep j id b q b 0 hjs (by rw [hn id (by simp)];rfl) hι h3 hj')) (fun a hG=>hos.g.sep a b hG id b 0 (by rw [hn id (by simp)];rfl) h3 rfl) g4 (fun _ _ _ h=>by cases h) (g':=.deferred none) (fun _ _ _ h=>by cases h) (w':=w') rfl
  rw [LeavesInM]
  refine ⟨by simp,.inl ⟨b,w',rfl,?_,?_⟩⟩
  ·simp [Instr.takeDeferred,A0E g4,U5 _ g4,w']
  ·refine ih ds' { e with w:=w' } f' (h4.mono le2) (fun j hj=>?_) d2 os2 (fun e' hle hu hos'=>?_)
   ·have:j≠id:=by intro q;subst q;exact d1 hj
    simp only [f',if_neg this]
    exact hn j (by simp [hj])
   ·exact h e' (le2.trans hle) hu (by rw [← B58];exact hos')
theorem A9w {sl:Nat→A} {f g:Nat→Option Ob} (hfg:∀ id t b sh,f id=some (.box t b sh)→g id=some (.box t b sh)):∀ (rs:List ResultVar) (x:List A×List Nat),A1w T sl f rs=some x→A1w T sl g rs=some x:=by
 intro rs
 induction rs with
 | nil=>intro x h;exact h
 | cons r rs ih =>
  intro x hr
  simp only [A1w] at hr ⊢
  split at hr<;>try (cases hr;done)
  rename_i v p1 h1
  split at hr<;>try (cases hr;done)
  rename_i l1 q1 h2
  have k1:A5G T sl g r=some (v,p1):=by
   cases r with
   | tmp t=>exact h1
   | cell ad t =>
    simp only [A5G] at h1 ⊢
    split at h1<;>try (cases h1;done)
    rename_i te id t' path hte hsl
    split at h1<;>try (cases h1;done)
    rename_i hof
    rw [hfg _ _ _ _ hof]
    exact h1
  rw [k1,ih _ h2]
  exact hr
theorem A8x {sl:Nat→A} {f g:Nat→Option Ob} (hfg:∀ id t b sh,f id=some (.box t b sh)→g id=some (.box t b sh)) {rs:List ResultVar} {x:A×List Nat} (h:A5H T sl f rs=some x):A5H T sl g rs=some x:=by
 unfold A5H at h ⊢
 split at h<;>try (cases h;done)
 rename_i l p hm
 rw [A9w hfg _ _ hm]
 exact h
theorem B8w (hm:P.follows .mixedOrders=true) (hT:L8 T P) {K:KS} (hK:W6 P T K) {Lo:Nat→A5E} {fu f:Nat} (hL:∀ n0 fn code,P.funcs[f]? = some fn→fn.body=some code→Q1 P T fn.ntmps n0 (Lo n0) code):J0 P T f (A9v P T K Lo fu f):=by
 intro c e of of' args vals nx out hos hr hro hu hvals
 unfold A9v at hr
 split at hr<;>try (cases hr;done)
 rename_i fn hf
 split at hr<;>try (cases hr;done)
 rename_i code hb
 split at hr<;>try (cases hr;done)
 rename_i hcc
 simp only [E0s,Bool.not_eq_true'] at hcc
 obtain ⟨hn,hargs⟩:=hcc
 have hargs:=E0x hargs
 split at hr<;>try (cases hr;done)
 rename_i ex σ hx
 split at hr<;>try (cases hr;done)
 rename_i hend
 split at hr<;>try (cases hr;done)
 rename_i ms hmk
 split at hr<;>try (cases hr;done)
 rename_i hmb
 obtain ⟨hms,hnd⟩:=B0F _ hmb
 split at hr<;>try (cases hr;done)
 rename_i v ro hres
 injection hr with hr
 obtain ⟨q1,q2,q3,q4⟩:=A8w ms (A4U nx v σ ro)
 obtain ⟨o1,o2,o3,o4⟩:=A3x nx v σ ro
 rw [hr] at q1 q2 q3 q4
 have o1:=q1.trans o1
 have o2:=q2.trans o2
 have o3:=q3.trans o3
 have hcall:(callFunc f vals).run P e.w=.ok (.enter f vals) e.w:=by
  have hn':¬ fn.name="runtime.NumGoroutine":=by simpa using hn
  simp [callFunc,hf,hn',hb]
 refine .inr (.inr (.inl ⟨f,vals,e.w,hcall,?_⟩))
 refine (callsIn_wide (n:=0)).1 (callsIn_of_wp_marks (F:=WF none) hf hb trivial ?_ rfl)
 have hlen:=hvals.get.1
 rw [E0y] at hlen
 have hsim:Sim T { c with rd:=none } e of' nx fn.ntmps ⟨A4V 0 args,.e,[],nx,some []⟩ { tmps:=vals++Array.replicate (fn.ntmps - vals.size) undef,defers:=[] } e.w:=by
  refine ⟨e,rfl,?_,B9.le.refl e,fun id A2=>.inl A2,fun t=>?_,⟨rfl,.nil⟩,by simp;omega⟩
  ·have:E0 Tr.e of'=of':=by funext id;unfold E0;rw [Tr.get_e]
   rw [this];exact hos.ctx none
  ·show C6 T e (H2 (A4V 0 args) t) _
   rw [B0E,if_neg (by omega),Nat.sub_zero]
   by_cases ht:t < args.length
   ·have h1:args[t]? = some args[t]:=E0E ht
    have h2:vals.toList[t]? = some vals[t]:=by rw [Array.getElem?_toList];exact Array.getElem?_eq_getElem (by omega)
    have:=hvals.get.2 t _ _ h1 h2
    have e1:args.getD t .x=args[t]:=by simp [List.getD,h1]
    have e2:(vals++Array.replicate (fn.ntmps - vals.size) undef).getD t undef=vals[t]:=by
     have:t < vals.size:=by omega
     simp [Array.getD,Array.getElem_append_left this]
     omega
    rw [e1]
    show C6 T e _ ((vals++Array.replicate (fn.ntmps - vals.size) undef).getD t undef)
    rw [e2];exact this
   ·rw [show args.getD t .x=.x by simp [List.getD,List.getElem?_eq_none (by omega:args.length≤t)]]
    trivial
 obtain ⟨l1,k1⟩:=A4T (of:=of) (n0:=nx) hm hT hK code (hL nx fn code hf hb) _ _ _ hx
 have hfit:A3F of of' e nx σ:=⟨fun id A2=>hro id (by rw [o2];exact U7 _ _ _ _ A2),fun id h1 h2=>hu id h1 (by rw [o3];exact h2)⟩
 refine U0 ?_ (k1 0 of' { c with rd:=none } e _ _ (Nat.le_refl _) hfit hos.ok hsim)
 rintro ex' a w ⟨rfl,e',rfl,hst⟩
 have hmarks:=hst.def_
 rw [hmk] at hmarks
 have hms':∀ id∈ms,E0 σ.ob of' id=some (.lp none):=fun id A2=>A3w (hms id A2).1
 have fin:LeavesInM (WF none) 0 P fn a.tmps (fun en w'=>∃ x,en=.returned x∧V8 T c e of' nx out x w') a.defers .returning e'.w:=by
  refine A4W ms a.defers e' (E0 σ.ob of') hmarks.2 hms' hnd hst.os (fun e2 hle hu2 hos2=>?_)
  have hst2:Z8 T { c with rd:=none } e (H2 σ.sl) (A0I ms (E0 σ.ob of')) (fun id=>e.U id∨(nx≤id∧id < σ.nx)) fn.ntmps σ.mks a e2 :=
   ⟨hos2,hst.le.trans hle,fun id A2=>hst.U id (hu2 id A2),fun t=>(hst.sl t).mono hle,hst.def_.mono hle,hst.nt⟩
  have hres2:A5H T (H2 σ.sl) (A0I ms (E0 σ.ob of)) fn.results.toList=some (v,ro):=by
   refine A8x (fun id t b sh A2=>?_) hres
   unfold A0I
   have:mem id ms=false:=by
    rw [← Bool.not_eq_true];intro q
    rw [A3w (of:=of) (hms id (mem_iff.1 q)).1] at A2;cases A2
   rw [this];exact A2
  have hagree:=A0i (ob:=σ.ob) (rd:=out.ro) (ro:=ro) (l:=σ.rd) (of:=of) (of':=of') (fun id A2=>hro id A2) (by rw [o2];exact fun _ h=>h)
  obtain ⟨x,g1,g2⟩:=B8u hT fn hst2 hres2 (fun id A2=>by
   unfold A0I
   rw [hagree id A2])
  refine ⟨x,g1,x,rfl,e2,rfl,?_,hst2.le,fun id A2=>by rw [o3];exact hst2.U id A2,by rw [o1];exact g2⟩
  refine (hos2.unctx).sub (fun id o ho=>?_)
  rcases q4 of' id o ho with ⟨h1,h2⟩ | ⟨h1,h2⟩
  ·obtain ⟨_,h3,h4⟩:=hms id h1
   exact absurd (hos.ok _ _ h2).use (hfit.fr id h3 h4)
  ·have:=A8v (of':=of') hos.ok hfit.fr id o h2
   unfold A0I
   have hm':mem id ms=false:=by
    rw [← Bool.not_eq_true];intro q;exact h1 (mem_iff.1 q)
   rw [hm'];exact this
 cases ex' with
 | ret=>exact fin
 | normal=>exact fin
 | _=>cases hend
def B59:List Nat→List A→List (Nat×A)→List (Nat×A)
 | p::ps,a::as,sl=>B59 ps as ((p,a)::sl)
 | _,_,sl=>sl
def exJ:Exit→Option (Option Code)
 | .normal=>some none
 | .ret=>some (some .ret)
 | .exit k=>some (some (.exit k))
 | _=>none
def lpE (ok:LoopState→Bool) (q:Option Ob):Option LR :=
 match q with
 | some (.lp (some r))=>bif ok r.st then some r else none
 | _=>none
def A3y:LoopState→Bool
 | .ready=>true
 | _=>false
def setLp (σ:St) (id:Nat) (r:LR):St:={ σ with ob:=σ.ob.set id (.lp (some r)),rd:=A1z σ.ob [id] σ.rd }
def D7m (id:Nat) (nx:Nat) (of:Nat→Option Ob) (q:Option (Exit×St)):Option J2 :=
 match q with
 | some (ex,σ2)=>match lpE (fun _=>true) (E0 σ2.ob of id),exJ ex with
  | some r2,some j=>some (A4U nx (.b j.isNone) (setLp σ2 id { r2 with st:=bif j.isNone then .ready else .done,pend:=j }) [])
  | _,_=>none
 | none=>none
def A34 (T:TT) (K:KS) (fu id:Nat):Sym:=fun args of nx =>
 match lpE A3y (of id) with
 | some r=>if Nat.beq args.length r.ps.size&&r.ps.toList.all (fun p=>Nat.blt p r.nt) then
   (match T3 T K (fun _=>none) fu r.nt of r.asg ⟨B59 r.ps.toList args r.sl,.e,[id],nx,none⟩ with
   | some (.normal,σ1)=>match lpE A3y (E0 σ1.ob of id) with
    | some r1=>D7m id nx of (T3 T K (fun _=>none) fu r.nt of r.body (setLp σ1 id { r1 with st:=.busy }))
    | none=>none
   | _=>none) else none
 | none=>none
theorem A8y {ok:LoopState→Bool} {q:Option Ob} {r:LR} (h:lpE ok q=some r):q=some (.lp (some r))∧ok r.st=true:=by
 unfold lpE at h
 split at h<;>try (cases h;done)
 rename_i r'
 cases hk:ok r'.st<;>rw [hk] at h
 ·cases h
 ·simp only [cond_true,E0u] at h;subst h;exact ⟨rfl,hk⟩
theorem C6U (l:List (Nat×A)) (t:Nat):H2 l t=.x∨∃ p∈l,p.1=t∧p.2=H2 l t:=by
 induction l with
 | nil=>exact .inl rfl
 | cons p r ih =>
  obtain ⟨k,v⟩:=p
  rw [U6]
  by_cases h:t=k
  ·subst h;rw [upd_same];exact .inr ⟨(t,v),by simp,rfl,rfl⟩
  ·rw [A4 _ _ h]
   rcases ih with ih | ⟨q,h1,h2,h3⟩
   ·exact .inl ih
   ·exact .inr ⟨q,by simp [h1],h2,h3⟩
theorem C6V {e:B9} {v:A} {x:Value} (h:H6 T e v x):C6 T e v x:=by
 cases v with
 | t l=>exact h.elim
 | _=>exact h
theorem D18 {nt:Nat}:∀ (ps:List Nat) (args:List A) (vals:List Value) (sl:List (Nat×A)) (tm:Array Value),T7 T e args vals→args.length=ps.length→(∀ p∈ps,p < nt)→tm.size=nt→(∀ t,C6 T e (H2 sl t) (tm.getD t undef)) →
  ((ps.zip vals).foldl (fun tmps (t,a)=>tmps.setIfInBounds t a) tm).size=nt∧∀ t,C6 T e (H2 (B59 ps args sl) t) (((ps.zip vals).foldl (fun tmps (t,a)=>tmps.setIfInBounds t a) tm).getD t undef):=by
 intro ps
 induction ps with
 | nil =>
  intro args vals sl tm _ _ _ h1 h2
  cases args<;>exact ⟨h1,h2⟩
 | cons p ps ih =>
  intro args vals sl tm hr hl hp h1 h2
  cases hr with
  | nil=>simp at hl
  | @cons v x r s hv hrs =>
   simp only [List.zip_cons_cons,List.foldl_cons,B59]
   refine ih _ _ _ _ hrs (by simpa using hl) (fun q hq=>hp q (by simp [hq])) (by simpa using h1) (fun t=>?_)
   rw [U6]
   by_cases ht:t=p
   ·subst ht
    have:=hp t (by simp)
    rw [upd_same,show (tm.setIfInBounds t x).getD t undef=x by simp [h1,this]]
    exact hv
   ·rw [A4 _ _ ht,show (tm.setIfInBounds p x).getD t undef=tm.getD t undef by simp [Array.getElem?_setIfInBounds_ne (Ne.symm ht)]]
    exact h2 t
theorem Z8.setLp {nt id:Nat} {n0:Nat} {σ:St} {a:Act} {mk:Option (List Nat)} (h:Z8 T c eb (H2 σ.sl) (E0 σ.ob of') (fun id=>eb.U id∨(n0≤id∧id < σ.nx)) nt mk a e) {r r':LR} (hr:E0 σ.ob of' id=some (.lp (some r))) {b:Nat} (hb:e.ι id=some (b,0))
  (hs:r'.nt=r.nt∧r'.sl=r.sl∧r'.ps=r.ps∧r'.asg=r.asg∧r'.body=r.body) :
  ∃ lr:Loop,e.w.heap[b]? = some (.loop lr)∧lr.state=r.st∧lr.pending=r.pend∧∀ w',w'={ e.w with heap:=e.w.heap.setIfInBounds b (.loop { lr with state:=r'.st,pending:=r'.pend }) } →
   Z8 T c eb (H2 (Go.Vm.setLp σ id r').sl) (E0 (Go.Vm.setLp σ id r').ob of') (fun k=>eb.U k∨(n0≤k∧k < (Go.Vm.setLp σ id r').nx)) nt mk a { e with w:=w' }:=by
 obtain ⟨k1,k2,b',tm,df,fn,k3,k4,k5,k6⟩:=h.os.ok _ _ hr
 rw [hb] at k3;cases k3
 refine ⟨_,k4,rfl,rfl,fun w' hw=>?_⟩
 obtain ⟨os4,le4⟩:=h.os.writeG (o':=.lp (some r')) hr hb k4 (fun _ _ _ h=>by cases h) (g':=.loop { state:=r'.st,pending:=r'.pend,fn:=fn,tmps:=tm,params:=r.ps,assign:=r.asg,body:=r.body,defers:=df }) (fun _ _ _ h=>by cases h) (w':=w') hw
   (fun hle hh=>⟨k1,k2,b,tm,df,fn,hb,by rw [hs.2.2.1,hs.2.2.2.1,hs.2.2.2.2];exact hh,by rw [hs.1];exact k5,fun p hp=>(k6 p (by rw [← hs.2.1];exact hp)).mono hle⟩)
 refine ⟨?_,h.le.trans le4,h.U,fun t=>(h.sl t).mono le4,h.def_.mono le4,h.nt⟩
 show A7 T c _ (E0 (σ.ob.set id (.lp (some r'))) of')
 rw [A1V];exact os4
theorem A27 {w:World} {b:Nat} {lr:Loop} (h:w.heap[b]? = some (.loop lr)):(Instr.getLoop b).run P w=.ok lr w:=by
 simp [Instr.getLoop,A0E h]
theorem B0G (hm:P.follows .mixedOrders=true) (hT:L8 T P) {K:KS} (hK:W6 P T K) {fu id:Nat}:YOK P T id (A34 T K fu id):=by
 intro c e of of' args vals nx out b hos hr hro hu hvals hU hbn hι
 unfold A34 at hr
 split at hr<;>try (cases hr;done)
 rename_i r hofid
 obtain ⟨hofid,hrdy⟩:=A8y hofid
 split at hr<;>try (cases hr;done)
 rename_i hcc
 simp only [E0s] at hcc
 obtain ⟨hc1,hc2⟩:=hcc
 have hc1:=E0r hc1
 have hc2:∀ p∈r.ps.toList,p < r.nt:=fun p hp=>by simpa [Nat.blt_eq] using List.all_eq_true.1 hc2 p hp
 split at hr<;>try (cases hr;done)
 rename_i σ1 hx1
 split at hr<;>try (cases hr;done)
 rename_i r1 hr1
 obtain ⟨hr1,hrdy1⟩:=A8y hr1
 unfold D7m at hr
 split at hr<;>try (cases hr;done)
 rename_i ex σ2 hx2
 split at hr<;>try (cases hr;done)
 rename_i r2 j hr2 hj
 obtain ⟨hr2,-⟩:=A8y hr2
 generalize hr3:({ r2 with st:=bif j.isNone then .ready else .done,pend:=j }:LR)=r3 at hr
 generalize hσ3:setLp σ2 id r3=σ3 at hr
 injection hr with hr
 obtain ⟨o1,o2,o3,-⟩:=A3x nx (.b j.isNone) σ3 []
 rw [hr] at o1 o2 o3
 obtain ⟨l1,k1⟩:=A4T (of:=of) (n0:=nx) hm hT hK r.asg (A1 _) _ _ _ hx1
 obtain ⟨l2,k2⟩:=A4T (of:=of) (n0:=nx) hm hT hK r.body (A1 _) _ _ _ hx2
 have l3:σ2.le σ3:=by rw [← hσ3];exact ⟨U7 _ _ _,Nat.le_refl _⟩
 have l12:σ1.le (setLp σ1 id { r1 with st:=.busy }):=⟨U7 _ _ _,Nat.le_refl _⟩
 have hfit3:A3F of of' e nx σ3:=⟨fun k hk=>hro k (by rw [o2];exact hk),fun k h1 h2=>hu k h1 (by rw [o3];exact h2)⟩
 have hfit2:A3F of of' e nx σ2:=hfit3.mono l3
 have hfit1':A3F of of' e nx (setLp σ1 id { r1 with st:=.busy }):=hfit2.mono l2
 have hfit1:A3F of of' e nx σ1:=hfit1'.mono l12
 have hid':of' id=of id:=hfit1.rd id (l1.1 id (by simp))
 have hov:∀ (σ:St),E0 σ.ob of' id=E0 σ.ob of id:=fun σ=>by
  unfold E0;rw [hid']
 obtain ⟨g1,g2,b',tm,df,fn,g3,g4,g5,g6⟩:=hos.ok id _ (hid'.trans hofid)
 rw [hι] at g3;cases g3
 have hlen:=hvals.get.1
 rw [E0y] at hlen
 have hsz:vals.size=r.ps.size:=by omega
 obtain ⟨a1,a2⟩:=D18 r.ps.toList args vals.toList r.sl tm hvals (by rw [E0y];exact hc1) hc2 g5 (fun t=>by
  rcases C6U r.sl t with h | ⟨p,h1,h2,h3⟩
  ·rw [h];trivial
  ·subst h2;rw [← h3];exact C6V (g6 p h1))
 generalize htm:(r.ps.toList.zip vals.toList).foldl (fun tmps (t,a)=>tmps.setIfInBounds t a) tm=tm1 at a1 a2
 have hyield:(Instr.yield b vals).run P e.w=.ok (.round b fn tm1 r.asg r.body) e.w:=by
  have hz:(r.ps.zip vals).foldl (fun tmps (t,a)=>tmps.setIfInBounds t a) tm=tm1:=by
   rw [← htm,← Array.toList_zip,Array.foldl_toList]
  simpa [Instr.yield,A27 g4,hsz] using hz
 refine .inr (.inr (.inr ⟨b,fn,tm1,r.asg,r.body,e.w,hyield,?_⟩))
 refine roundIn_of_wpIn trivial ?_
 show r.asg.wpIn (WF (some b)) 0 P _ { tmps:=tm1,defers:=[] } e.w
 have hsim:Sim T { c with rd:=some b } e of' nx r.nt ⟨B59 r.ps.toList args r.sl,.e,[id],nx,none⟩ { tmps:=tm1,defers:=[] } e.w:=by
  refine ⟨e,rfl,?_,B9.le.refl e,fun id A2=>.inl A2,a2,rfl,a1⟩
  have:E0 Tr.e of'=of':=by funext id;unfold E0;rw [Tr.get_e]
  rw [this];exact hos.ctx _
 refine U0 ?_ (k1 0 of' { c with rd:=some b } e _ _ (Nat.le_refl _) hfit1 hos.ok hsim)
 rintro ex1 ac1 w1 ⟨rfl,e1,rfl,hst1⟩
 have hι1:∀ e1:B9,e.le e1→e1.ι id=some (b,0):=fun e1 hle=>by
  have h0:=hle.box _ hU hbn
  rw [(hle.obj _ hU (h0.trans hbn.symm)).1];exact hι
 obtain ⟨lr1,m1,m2,m3,m4⟩:=hst1.setLp (r':={ r1 with st:=.busy }) ((hov σ1).trans hr1) (hι1 e1 hst1.le) ⟨rfl,rfl,rfl,rfl,rfl⟩
 have hst1':=m4 _ rfl
 show ∃ w₂,(Instr.beginRound b).run P e1.w=.ok () w₂∧_
 refine ⟨{ e1.w with heap:=e1.w.heap.setIfInBounds b (.loop { lr1 with state:=.busy,pending:=r1.pend }) },?_,?_⟩
 ·have hst:lr1.state=.ready:=by
   rw [m2]
   cases hh:r1.st<;>rw [hh] at hrdy1<;>first | rfl | cases hrdy1
  simp [Instr.beginRound,A27 m1,U5 _ m1,hst,m3]
 ·show r.body.wpIn (WF (some b)) 0 P _ ac1 _
  refine U0 ?_ (k2 0 of' { c with rd:=some b } e ac1 _ l1.2 hfit2 hos.ok ⟨_,rfl,hst1'⟩)
  rintro ex2 ac2 w2 ⟨rfl,e2,rfl,hst2⟩
  obtain ⟨lr2,n1,n2,n3,n4⟩:=hst2.setLp (r':=r3) ((hov σ2).trans hr2) (hι1 e2 hst2.le) (by subst hr3;exact ⟨rfl,rfl,rfl,rfl,rfl⟩)
  have hst3:=n4 _ rfl
  have hend:(Instr.endRound b j).run P e2.w=.ok (.bool j.isNone) { e2.w with heap:=e2.w.heap.setIfInBounds b (.loop { lr2 with state:=r3.st,pending:=r3.pend }) }:=by
   subst hr3
   cases j<;>simp [Instr.endRound,A27 n1,U5 _ n1]
  have hleft:∃ x,Ending.returned (.bool j.isNone)=.returned x∧V8 T c e of' nx out x { e2.w with heap:=e2.w.heap.setIfInBounds b (.loop { lr2 with state:=r3.st,pending:=r3.pend }) }:=by
   refine ⟨_,rfl,_,rfl,?_,hst3.le,fun k hk=>?_,?_⟩
   ·rw [hσ3] at hst3
    refine (hst3.os.unctx).sub (fun k o ho=>?_)
    rw [← hr] at ho
    exact A8v (of':=of') hos.ok hfit3.fr k o ho
   ·rw [o3]
    have:=hst3.U k hk
    rw [hσ3] at this;exact this
   ·rw [o1];exact RA.b .nil
  cases ex2 with
  | normal=>cases hj;exact ⟨_,_,hend,hleft⟩
  | ret=>cases hj;exact ⟨_,_,hend,hleft⟩
  | exit k=>cases hj;exact ⟨_,_,hend,hleft⟩
  | _=>cases hj
def B2h (P:Program) (f:Nat):Bool :=
 match P.funcs[f]? with
 | some fn=>fn.body.isSome&&!(fn.name == "runtime.NumGoroutine")
 | none=>false
theorem B0H {f:Nat} (h:B2h P f=true) (vals:Array Value) (w:World):(callFunc f vals).run P w=.ok (.enter f vals) w:=by
 unfold B2h at h
 split at h<;>try (cases h;done)
 rename_i fn hf
 simp only [E0s,Bool.not_eq_true'] at h
 have hn':¬ fn.name="runtime.NumGoroutine":=by simpa using h.2
 obtain ⟨cd,hb⟩:=E0w.1 h.1
 simp [callFunc,hf,hn',hb]
def C6W (P:Program) (T:TT) (C:Nat→Option Sym) (L:Nat→Nat→A5E) (fu:Nat):Nat→KS
 | 0=>⟨fun _ _ _ _=>none,fun _ _ _ _=>none,fun _=>false⟩
 | d+1=>⟨fun f=>match C f with
  | some s=>s
  | none=>A9v P T (C6W P T C L fu d) (L f) fu f,fun id=>A34 T (C6W P T C L fu d) fu id,B2h P⟩
def C6X (P:Program) (T:TT) (C:Nat→Option Sym) (L:Nat→Nat→A5E) (fu d f:Nat):Sym:=(C6W P T C L fu d).f f
theorem D19 (hm:P.follows .mixedOrders=true) (hT:L8 T P) {C:Nat→Option Sym} (hC:∀ f s,C f=some s→J0 P T f s) {L:Nat→Nat→A5E} (hL:∀ f n0 fn code,P.funcs[f]? = some fn→fn.body=some code→Q1 P T fn.ntmps n0 (L f n0) code) {fu:Nat}:∀ d,W6 P T (C6W P T C L fu d):=by
 intro d
 induction d with
 | zero=>exact ⟨fun f c e of of' args vals nx out _ h=>(by cases h),fun id c e of of' args vals nx out b _ h=>(by cases h),fun f h=>(by cases h)⟩
 | succ d ih =>
  refine ⟨fun f=>?_,fun id=>B0G hm hT ih,fun f h=>B0H h⟩
  show J0 P T f (match C f with
   | some s=>s
   | none=>A9v P T (C6W P T C L fu d) (L f) fu f)
  split
  ·rename_i s hs;exact hC f s hs
  ·exact B8w hm hT ih (hL f)
theorem C0Y (hm:P.follows .mixedOrders=true) (hT:L8 T P) {C:Nat→Option Sym} (hC:∀ f s,C f=some s→J0 P T f s) {L:Nat→Nat→A5E} (hL:∀ f n0 fn code,P.funcs[f]? = some fn→fn.body=some code→Q1 P T fn.ntmps n0 (L f n0) code) {fu:Nat} (d f:Nat):J0 P T f (C6X P T C L fu d f):=(D19 hm hT hC hL d).f f
variable {P:Program} {T:TT} {c:P9} {e eb:B9} {of of':Nat→Option Ob}
def A8z (T:TT):TK→TypeDesc→Bool
 | .int k,.int k'=>A9j k k'
 | .bool,.bool=>true
 | .str,.string=>true
 | .ptr e,.pointer e'=>Nat.beq e e'
 | .slice e,.slice e'=>Nat.beq e e'
 | .arr n e,.array n' e'=>Nat.beq n n'&&Nat.beq e e'
 | .struct fs,.struct gs=>B5A (gs.toList.map (·.type)) fs&&offB T fs 0 gs.toList
 | .map k e,.map k' e'=>Nat.beq k k'&&Nat.beq e e'
 | .func,.func _ _ _=>true
 | .other,.struct _=>false
 | .other,.array _ _=>false
 | .other,_=>true
 | _,_=>false
where
 offB (T:TT):List Nat→Nat→List Field→Bool
 | f::fs,off,g::gs=>Nat.beq g.offset off&&offB T fs (off+C1 T f) gs
 | [],_,[]=>true
 | _,_,_=>false
theorem C0Z:∀ (fs:List Nat) (off:Nat) (gs:List Field),A8z.offB T fs off gs=true→∀ (j:Nat) g,gs[j]? = some g→g.offset=off+szs T (fs.take j):=by
 intro fs
 induction fs with
 | nil =>
  intro off gs h j g hg
  cases gs with
  | nil=>simp at hg
  | cons g gs=>simp [A8z.offB] at h
 | cons f fs ih =>
  intro off gs h j g hg
  cases gs with
  | nil=>simp [A8z.offB] at h
  | cons g0 gs =>
   simp only [A8z.offB,E0s] at h
   cases j with
   | zero=>simp only [List.getElem?_cons_zero,E0u] at hg;subst hg;simp [szs,E0r h.1]
   | succ j=>have:=ih _ _ h.2 j g (by simpa using hg);rw [this,List.take_succ_cons,szs];omega
theorem B6a {k:TK} {d:TypeDesc} (h:A8z T k d=true):k.fits T d:=by
 cases k<;>cases d<;>simp only [A8z,TK.fits] at h ⊢<;>first | (cases h;done) | trivial | skip
 ·exact A2q h
 ·exact E0r h
 ·exact E0r h
 ·simp only [E0s] at h;exact ⟨E0r h.1,E0r h.2⟩
 ·simp only [E0s] at h
  refine ⟨B7S h.1,fun j g hg=>?_⟩
  have:=C0Z _ _ _ h.2 j g (by simpa using hg)
  simpa using this
 ·simp only [E0s] at h;exact ⟨E0r h.1,E0r h.2⟩
 all_goals (constructor<;>intro _<;>intros<;>first | (intro q;cases q;done) | skip)
def rvB (T:TT):Nat→List Nat→List V→List Value→Bool
 | 0,_,_,_=>false
 | _+1,[],[],[]=>true
 | f+1,t::ts,x::xs,cs=>match D2 T t,x,cs with
  | some (.int k),.i n,.int k' m::r=>A9j k k'&&Y5 n m&&B5Y k n&&Nat.beq (C1 T t) 1&&rvB T f ts xs r
  | some .bool,.b q,.bool q'::r=>(q == q')&&Nat.beq (C1 T t) 1&&rvB T f ts xs r
  | some .str,.s l,.string s::r=>Nat.beq l.length 0&&Nat.beq s.data.toList.length 0&&Nat.beq (C1 T t) 1&&rvB T f ts xs r
  | some (.ptr _),.n,.pointer none::r=>Nat.beq (C1 T t) 1&&rvB T f ts xs r
  | some (.slice _),.n,.slice none 0 0::r=>Nat.beq (C1 T t) 1&&rvB T f ts xs r
  | some (.map _ _),.n,.map none::r=>Nat.beq (C1 T t) 1&&rvB T f ts xs r
  | some .func,.n,.nilFunc::r=>Nat.beq (C1 T t) 1&&rvB T f ts xs r
  | some (.arr n el),.l ys,cs=>Nat.ble (C1 T t) cs.length&&rvB T f (List.replicate n el) ys (cs.take (C1 T t))&&rvB T f ts xs (cs.drop (C1 T t))
  | some (.struct fs),.l ys,cs=>Nat.ble (C1 T t) cs.length&&rvB T f fs ys (cs.take (C1 T t))&&rvB T f ts xs (cs.drop (C1 T t))
  | _,_,_=>false
 | _+1,_,_,_=>false
theorem C6Y (e:B9):∀ (f:Nat) (ts:List Nat) (xs:List V) (cs:List Value),rvB T f ts xs cs=true→RV T e ts xs cs:=by
 intro f
 induction f with
 | zero=>intro ts xs cs h;cases h
 | succ f ih =>
  intro ts xs cs h
  cases ts with
  | nil =>
   cases xs with
   | nil=>cases cs with
    | nil=>exact .nil
    | cons c cs=>simp [rvB] at h
   | cons x xs=>cases cs<;>simp [rvB] at h
  | cons t ts =>
   cases xs with
   | nil=>cases cs<;>simp [rvB] at h
   | cons x xs =>
    simp only [rvB] at h
    split at h<;>try (cases h;done)
    all_goals simp only [E0s] at h
    ·rename_i hk
     obtain ⟨⟨⟨⟨h1,h2⟩,h3⟩,h4⟩,h5⟩:=h
     have:=A2q h1;subst this
     have:=P4.1 h2;subst this
     exact .int hk (E0r h4) (A8k h3) (ih _ _ _ h5)
    ·rename_i hk
     obtain ⟨⟨h1,h2⟩,h3⟩:=h
     have h1:=eq_of_beq h1
     subst h1
     exact .bool hk (E0r h2) (ih _ _ _ h3)
    ·rename_i l s r hk
     obtain ⟨⟨⟨h1,h2⟩,h3⟩,h4⟩:=h
     have e1:l=[]:=List.eq_nil_of_length_eq_zero (E0r h1)
     have e2:txt s=[]:=by unfold txt;rw [List.eq_nil_of_length_eq_zero (E0r h2)];rfl
     rw [e1,← e2]
     exact .str hk (E0r h3) (ih _ _ _ h4)
    ·rename_i hk;exact .ptr hk (E0r h.1) (ih _ _ _ h.2)
    ·rename_i hk;exact .nils hk (E0r h.1) (ih _ _ _ h.2)
    ·rename_i hk;exact .map hk (E0r h.1) (ih _ _ _ h.2)
    ·rename_i hk;exact .func hk (E0r h.1) (ih _ _ _ h.2)
    ·rename_i n el ys hk
     obtain ⟨⟨h1,h2⟩,h3⟩:=h
     have hl:=E0x h1
     have:=RV.arr hk (by rw [List.length_take];omega) (ih _ _ _ h2) (ih _ _ _ h3)
     rwa [List.take_append_drop] at this
    ·rename_i fs ys hk
     obtain ⟨⟨h1,h2⟩,h3⟩:=h
     have hl:=E0x h1
     have:=RV.struct hk (by rw [List.length_take];omega) (ih _ _ _ h2) (ih _ _ _ h3)
     rwa [List.take_append_drop] at this
def D7n:Value→Bool
 | .agg _=>true
 | _=>false
def eqB (P:Program) (t:Nat) (d:TypeDesc):Bool :=
 !(P.eqGuardType P.depth t)&&!(P.stoodInHeld t)&&(match d with | .struct gs=>gs.toList.all fun f=>f.name != "_" | _=>true)
def teB (P:Program) (T:TT) (t:Nat) (te:TE):Bool :=
 match P.info? t,P.underlying t with
 | some i,some d=>match i.zero with
  | some z=>Nat.beq i.size te.size&&Nat.beq i.bytes te.bytes&&A8z T te.k d&&(rvB T 1000 [t] [te.zero] z.cells.toList||!(TK.notOther te.k))&&(te.k.agg == D7n z)&&(!te.eq||eqB P t d)
  | none=>false
 | _,_=>false
theorem C6Z {t:Nat} {te:TE} (h:teB P T t te=true):A10 P T t te:=by
 unfold teB at h
 split at h<;>try (cases h;done)
 rename_i i d h1 h2
 split at h<;>try (cases h;done)
 rename_i z h3
 simp only [E0s] at h
 obtain ⟨⟨⟨⟨⟨a1,a2⟩,a3⟩,a4⟩,a5⟩,a6⟩:=h
 refine ⟨⟨i,d,z,h1,h2,E0r a1,E0r a2,B6a a3,h3,?_,?_⟩,fun he=>?_⟩
 ·rw [Bool.or_eq_true] at a4
  rcases a4 with a4 | a4
  ·exact .inl fun e=>C6Y e _ _ _ _ a4
  ·right;cases hk:te.k<;>rw [hk] at a4<;>first | rfl | (cases a4;done)
 ·have a5':te.k.agg=D7n z:=by simpa using a5
  rw [a5']
  cases z<;>simp [D7n]
 ·rw [he] at a6
  simp only [Bool.not_true,Bool.false_or,eqB,E0s,Bool.not_eq_true'] at a6
  obtain ⟨⟨b1,b2⟩,b3⟩:=a6
  refine ⟨b1,b2,fun gs hg f hf=>?_⟩
  rw [h2] at hg
  injection hg with hg;subst hg
  simpa using List.all_eq_true.1 b3 f hf
def C00:List (Nat×TE)→TT
 | [],_=>none
 | (k,v)::r,t=>bif Nat.beq k t then some v else C00 r t
theorem C60:∀ (l:List (Nat×TE)) (t:Nat) (te:TE),C00 l t=some te→(t,te)∈l:=by
 intro l
 induction l with
 | nil=>intro t te h;cases h
 | cons p r ih =>
  intro t te h
  obtain ⟨k,v⟩:=p
  simp only [C00] at h
  cases hk:Nat.beq k t with
  | true=>rw [hk] at h;have:=E0r hk;subst this;injection h with h;subst h;simp
  | false=>rw [hk] at h;exact List.mem_cons_of_mem _ (ih _ _ h)
theorem tok {l:List (Nat×TE)} (h:(l.all fun p=>teB P (C00 l) p.1 p.2)=true):L8 (C00 l) P:=fun t te ht=>C6Z (List.all_eq_true.1 h (t,te) (C60 l t te ht))
def T4 (w:World):B9:={ w:=w,ι:=fun _=>none,S:=fun b _=>b < w.heap.size,bn:=fun _=>0,U:=fun _=>False,ty:=fun _=>0,ln:=fun _=>0,G:=fun _ _=>False }
def D4n (w:World):P9:={ w0:=w,M:=fun _=>False,S0:=fun b _=>b < w.heap.size }
theorem C61 (w:World):A7 T (D4n w) (T4 w) (fun _=>none) :=
 ⟨fun _ _ h=>(by cases h),fun _ _ _ _ _ _ h=>(by cases h),fun _ _ _ h=>(by cases h),fun _ _ _ h=>False.elim h,fun _ _ h=>h,fun _ _ h=>h,fun _ _ h=>.inl h,rfl,rfl,rfl,Nat.le_refl _,fun _ _ _=>rfl,⟨fun _ _ h=>h.elim,fun _ _ _ h=>h.elim,fun _ _ h=>h.elim,fun _ _ h=>h.elim⟩⟩
def B3Y (w w':World):Prop:=w'.os=w.os∧w'.output=w.output∧w.heap.size≤w'.heap.size∧∀ i,i < w.heap.size→w'.heap[i]? = w.heap[i]?
theorem B3Y.kept {w w':World} (h:B3Y w w') (may:MemPlace→Prop):w.keptBut w' may:=by
 refine ⟨h.1,h.2.1,fun i hi=>?_⟩
 rw [h.2.2.2 i hi]
 cases hw:w.heap[i]? with
 | none=>rfl
 | some o =>
  cases o with
  | cells c t fr=>exact ⟨rfl,rfl,rfl,fun _ _=>rfl⟩
  | map es clock=>exact .inr ⟨rfl,rfl⟩
  | _=>rfl
def C62 (b:Bool) (o:Option J2):Bool :=
 match o with
 | some f=>match f.val with
  | .b q=>q == b
  | _=>false
 | none=>false
theorem B2i {f:FuncId} {fn:Func} {code:Code} {args:List A} {b:Bool} {s:Sym} (hf:P.funcs[f]? = some fn) (hb:fn.body=some code) (hn:(fn.name == "runtime.NumGoroutine")=false)
  (h:J0 P T f s) (ha:C62 b (s args (fun _=>none) 0)=true) {w:World} {vals:Array Value} (hv:T7 T (T4 w) args vals.toList):Calls P f vals w fun en w'=>en=.returned (.bool b)∧B3Y w w':=by
 have hcall:(callFunc f vals).run P w=.ok (.enter f vals) w:=by
  have hn':¬ fn.name="runtime.NumGoroutine":=by simpa using hn
  simp [callFunc,hf,hn',hb]
 unfold C62 at ha
 split at ha<;>try (cases ha;done)
 rename_i out hout
 split at ha<;>try (cases ha;done)
 rename_i q hval
 have hq:q=b:=by simpa using ha
 subst hq
 have:=h (D4n w) (T4 w) (fun _=>none) (fun _=>none) args vals 0 _ (C61 w) hout (fun _ _=>rfl) (fun _ _ _ h=>h) hv
 unfold E3 at this
 rcases this with ⟨x,w',g1,g2⟩ | ⟨w',g1,g2⟩ | ⟨f',args',w1,g1,g2⟩ | ⟨_,_,_,_,_,w1,g1,g2⟩
 ·rw [show (T4 w).w=w from rfl,hcall] at g1;cases g1
 ·rw [show (T4 w).w=w from rfl,hcall] at g1;cases g1
 ·rw [show (T4 w).w=w from rfl,hcall] at g1
  cases g1
  refine g2.mono fun en w' ⟨x,h1,e',h2,h3,h4,h5,h6⟩=>?_
  subst h2
  rw [hval] at h6
  have hx:=A00 h6
  subst hx
  exact ⟨h1,h3.os,h3.output,h3.size,fun i hi=>h3.block i hi (fun h=>h)⟩
 ·rw [show (T4 w).w=w from rfl,hcall] at g1;cases g1
variable {P:Program} {T:TT} {c:P9} {e eb:B9} {of of':Nat→Option Ob}
theorem B0I {f:FuncId} {s:Sym} (h:∀ (e:B9) (args:List A) (of:Nat→Option Ob) (nx:Nat) (out:J2) (vals:List Value),s args of nx=some out→T7 T e args vals→∃ v,out=.pv nx v []∧∀ w,∃ x,(callFunc f vals.toArray).run P w=.ok (.value x) w∧C6 T e v x):J0 P T f s:=by
 intro c e of of' as vals nx out hos hs hro hu hvals
 obtain ⟨v,rfl,hx⟩:=h e _ _ _ _ _ hs hvals
 obtain ⟨x,hx,hr⟩:=hx e.w
 exact M3 (.inl ⟨x,e.w,by simpa using hx,A9 hos hr⟩)
def A8A:Array Value→Sem Value:=fun args=>do
 let (x,y,b) ← Extern.MathBitsCarry.three "Sub64" args
 pure (Extern.MathBitsCarry.pair ((x+Extern.MathBitsCarry.m64 - y - b) % Extern.MathBitsCarry.m64) (if x < y+b then 1 else 0))
theorem C01 (x y b:Nat) (hb:b≤1) (w:World) :
  (A8A #[.int .u64 x,.int .u64 y,.int .u64 b]).run P w =
   .ok (.tuple #[.int .u64 (((x+18446744073709551616 - y - b) % 18446744073709551616:Nat):Int),.int .u64 ((if x < y+b then 1 else 0:Nat):Int)]) w:=by
 have:b=0∨b=1:=by omega
 rcases this with rfl | rfl<;>rfl
def B2j:Sym:=fun args of nx =>
 match args with
 | [.i .u64 x,.i .u64 y,.i .u64 c]=>if F2 0 c&&F2 c 1 then some (.pv nx (.t [.i .u64 ((x+y+c) % 18446744073709551616),.i .u64 ((x+y+c) / 18446744073709551616)]) []) else none
 | _=>none
def A8B:Sym:=fun args of nx =>
 match args with
 | [.i .u64 x,.i .u64 y,.i .u64 c]=>if F2 0 c&&F2 c 1 then some (.pv nx (.t [.i .u64 ((x - y - c) % 18446744073709551616),.i .u64 (bif C3 x (y+c) then 1 else 0)]) []) else none
 | _=>none
theorem D4o {a b d:A} {vals:List Value} (h:T7 T e [a,b,d] vals):∃ x y z,vals=[x,y,z]∧C6 T e a x∧C6 T e b y∧C6 T e d z:=by
 cases h with | cons h1 h=>cases h with | cons h2 h=>cases h with | cons h3 h =>
 cases h
 exact ⟨_,_,_,rfl,h1,h2,h3⟩
theorem C63 {a b:A} {x y:Value} (ha:H6 T e a x) (hb:H6 T e b y):C6 T e (.t [a,b]) (.tuple #[x,y]):=by
 refine ⟨#[x,y],rfl,rfl,fun i v z hv hz=>?_⟩
 match i,hv,hz with
 | 0,hv,hz=>simp at hv hz;subst hv;subst hz;exact ha
 | 1,hv,hz=>simp at hv hz;subst hv;subst hz;exact hb
 | i+2,hv,hz=>simp at hv
theorem B6b {f:FuncId} {fn:Func} (hf:P.funcs[f]? = some fn) (hname:(fn.name == "runtime.NumGoroutine")=false) (hb:fn.body.isNone=true) (hn:Extern.findNext fn=none) (he:Extern.find fn=some add64Entry):J0 P T f B2j:=by
 refine B0I fun e args of nx out vals hs hv=>?_
 unfold B2j at hs
 split at hs<;>try (cases hs;done)
 rename_i x y c
 split at hs<;>try (cases hs;done)
 rename_i hc
 simp only [E0s,C5] at hc
 injection hs with hs;subst hs
 obtain ⟨a,b,d,rfl,h1,h2,h3⟩:=D4o hv
 have r1:=X1 h1
 have r2:=X1 h2
 simp only [inR,lo,hi] at r1 r2
 rw [F1 h1,F1 h2,F1 h3]
 refine ⟨_,rfl,fun w=>⟨_,?_,C63 (P6 ?_) (P6 ?_)⟩⟩
 ·rw [run_callFunc_extern hf hname hb hn he]
  rw [run_add64 x y c r1.1 r2.1 hc.1 hc.2]
  rfl
 ·constructor<;>simp only [lo,hi]<;>omega
 ·constructor<;>simp only [lo,hi]<;>omega
theorem B3Z {f:FuncId} {fn:Func} (hf:P.funcs[f]? = some fn) (hname:(fn.name == "runtime.NumGoroutine")=false) (hb:fn.body.isNone=true) (hn:Extern.findNext fn=none) (he:Extern.find fn=some A8A):J0 P T f A8B:=by
 refine B0I fun e args of nx out vals hs hv=>?_
 unfold A8B at hs
 split at hs<;>try (cases hs;done)
 rename_i x y c
 split at hs<;>try (cases hs;done)
 rename_i hc
 simp only [E0s,C5] at hc
 injection hs with hs;subst hs
 obtain ⟨a,b,d,rfl,h1,h2,h3⟩:=D4o hv
 have r1:=X1 h1
 have r2:=X1 h2
 simp only [inR,lo,hi] at r1 r2
 rw [F1 h1,F1 h2,F1 h3]
 have e2:(bif C3 x (y+c) then (1:Int) else 0)=if x < y+c then 1 else 0:=by
  by_cases hlt:x < y+c
  ·rw [J1.2 hlt,if_pos hlt];rfl
  ·have:C3 x (y+c)=false:=by rw [← Bool.not_eq_true,J1];exact hlt
   rw [this,if_neg hlt];rfl
 refine ⟨_,rfl,fun w=>?_⟩
 obtain ⟨x,rfl⟩:=Int.eq_ofNat_of_zero_le r1.1
 obtain ⟨y,rfl⟩:=Int.eq_ofNat_of_zero_le r2.1
 obtain ⟨c,rfl⟩:=Int.eq_ofNat_of_zero_le hc.1
 have e1:(((x+18446744073709551616 - y - c) % 18446744073709551616:Nat):Int)=((x:Int) - y - c) % 18446744073709551616:=by omega
 have e3:(((if x < y+c then 1 else 0:Nat)):Int)=if (x:Int) < y+c then 1 else 0:=by
  by_cases hlt:x < y+c
  ·rw [if_pos hlt,if_pos (by omega)];rfl
  ·rw [if_neg hlt,if_neg (by omega)];rfl
 refine ⟨_,?_,C63 (P6 (n:=((x:Int) - y - c) % 18446744073709551616) ?_) (P6 (n:=bif C3 (x:Int) (y+c) then (1:Int) else 0) ?_)⟩
 ·rw [run_callFunc_extern hf hname hb hn he]
  rw [C01 x y c (by omega),e2,e1,e3]
  rfl
 ·constructor<;>simp only [lo,hi]<;>omega
 ·rw [e2];split<;>constructor<;>simp [lo,hi]
end Go.Vm
end