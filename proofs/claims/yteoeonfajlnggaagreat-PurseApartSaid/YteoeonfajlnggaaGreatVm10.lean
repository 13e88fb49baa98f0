/- What the operations of a program do, shown once for all programs; and numbers. -/
import Derived.Test.YteoeonfajlnggaaGreatVm9
import Derived.Maps.RangeRun
import Derived.WalkKit
set_option linter.constructorNameAsVariable false
set_option linter.unusedVariables false
set_option linter.unusedSimpArgs false
noncomputable section
namespace Go.Vm
open Go.RowKit
variable {P:Program} {T:TT} {R:Type} {c:J8} {e:B4} {of:Nat→Option Ob}
def W9 (of:Nat→Option Ob):Nat→List Nat→List Nat→List Nat
 | 0,_,acc=>acc
 | _+1,[],acc=>acc
 | f+1,id::r,acc=>bif mem id acc then W9 of f r acc else
  match of id with
  | some o=>W9 of f (A1E o++r) (acc++[id])
  | none=>acc
def P1:List Nat→Nat→Nat
 | [],_=>0
 | k::r,id=>bif Nat.beq k id then 0 else P1 r id+1
def S7 (of:Nat→Option Ob) (id:Nat):Nat :=
 match of id with
 | some (.row _ v _ _ _)=>v
 | _=>0
def A24:List Nat→Bool
 | []=>true
 | k::r=>!mem k r&&A24 r
def B1T (L:List Nat):List Nat→Bool
 | []=>true
 | k::r=>mem k L&&B1T L r
def B3o (of:Nat→Option Ob) (L:List Nat):List Nat→Bool
 | []=>true
 | id::r=>(match of id with
  | some o=>okT o&&B1T L (A1E o)
  | none=>false)&&B3o of L r
def A58 (of:Nat→Option Ob) (id ver:Nat):Option Nat:=bif Nat.beq (S7 of id) ver then some 1 else none
def X8 (of:Nat→Option Ob) (L:List Nat):List Nat→List Ob
 | []=>[]
 | id::r=>(match of id with
  | some o=>rnO (P1 L) (A58 of) id o
  | none=>.lp none)::X8 of L r
def ofL:List Ob→Nat→Option Ob
 | [],_=>none
 | o::_,0=>some o
 | _::r,n+1=>ofL r n
def A4H:List Nat→Nat→Option Nat
 | [],_=>none
 | k::_,0=>some k
 | _::r,n+1=>A4H r n
def K0 (L:List Nat) (nx:Nat) (j:Nat):Nat :=
 match A4H L j with
 | some id=>id
 | none=>nx+(j - L.length)
def A74 (of:Nat→Option Ob) (L:List Nat) (j ver:Nat):Option Nat :=
 match A4H L j with
 | some id=>some (ver+(S7 of id - 1))
 | none=>some ver
def A0x (of:Nat→Option Ob) (L:List Nat) (nx:Nat):List (Nat×Ob)→List (Nat×Ob)
 | []=>[]
 | p::r=>(K0 L nx p.1,rnO (K0 L nx) (A74 of L) p.1 p.2)::A0x of L nx r
def B5t:List (Nat×Ob)→Bool
 | []=>true
 | p::r=>okT p.2&&B5t r
def A2b:Nat→List Ob→List (Nat×Ob)
 | _,[]=>[]
 | j,o::r=>(j,o)::A2b (j+1) r
def trS (s:D7):D7:=fun R args of nx k =>
 (fun L:List Nat=>bif A24 L&&(B3o of L L&&B1T L (E5 args)) then
  s R (rnL (P1 L) (A58 of) args) (ofL (X8 of L L)) L.length fun out=>bif Nat.ble L.length out.nx&&B5t out.wo then
   k ⟨rnA (K0 L nx) (A74 of L) out.val,A0x of L nx (A2b 0 (X8 of L L)++out.wo),L,nx+(out.nx - L.length)⟩ else none
  else none) (W9 of 64 (E5 args) [])
theorem L6 {s:D7} (hs:s.nat):(trS s).nat:=by
 intro R args of nx k
 unfold D7.dir trS
 simp only
 cases (A24 (W9 of 64 (E5 args) [])&&(B3o of (W9 of 64 (E5 args) []) (W9 of 64 (E5 args) [])&&B1T (W9 of 64 (E5 args) []) (E5 args)))
 ·rfl
 ·simp only [cond_true]
  rw [hs R,hs H9]
  cases s.dir (rnL (P1 (W9 of 64 (E5 args) [])) (A58 of) args) (ofL (X8 of (W9 of 64 (E5 args) []) (W9 of 64 (E5 args) []))) (W9 of 64 (E5 args) []).length with
  | none=>rfl
  | some out =>
   simp only [ob]
   cases (Nat.ble (W9 of 64 (E5 args) []).length out.nx&&B5t out.wo)<;>rfl
theorem B0d {L:List Nat}:∀ {l:List Nat},B1T L l=true→∀ id∈l,id∈L:=by
 intro l
 induction l with
 | nil=>intro _ id h;cases h
 | cons k r ih =>
  intro h id A3
  simp only [B1T,D5V,mem_iff] at h
  rcases List.mem_cons.1 A3 with rfl | A3
  ·exact h.1
  ·exact ih h.2 id A3
theorem B3p:∀ {l:List Nat},A24 l=true→l.Nodup:=by
 intro l
 induction l with
 | nil=>intro _;exact .nil
 | cons k r ih =>
  intro h
  simp only [A24,D5V,Bool.not_eq_true'] at h
  refine List.nodup_cons.2 ⟨fun hk=>?_,ih h.2⟩
  rw [mem_iff.2 hk] at h;cases h.1
theorem B9d {L:List Nat}:∀ {l:List Nat},B3o of L l=true→∀ id∈l,∃ o,of id=some o∧okT o=true∧∀ k∈A1E o,k∈L:=by
 intro l
 induction l with
 | nil=>intro _ id h;cases h
 | cons k r ih =>
  intro h id A3
  simp only [B3o,D5V] at h
  rcases List.mem_cons.1 A3 with rfl | A3
  ·obtain ⟨h1,_⟩:=h
   split at h1
   ·rename_i o ho
    simp only [D5V] at h1
    exact ⟨o,ho,h1.1,B0d h1.2⟩
   ·cases h1
  ·exact ih h.2 id A3
theorem B0e {l:List Nat}:∀ {j:Nat},j < l.length→∃ id,A4H l j=some id∧id∈l:=by
 induction l with
 | nil=>intro j h;cases h
 | cons k r ih =>
  intro j h
  cases j with
  | zero=>exact ⟨k,rfl,by simp⟩
  | succ j=>obtain ⟨id,h1,h2⟩:=ih (j:=j) (by simpa using h);exact ⟨id,h1,by simp [h2]⟩
theorem A0Z {l:List Nat}:∀ {j:Nat},l.length≤j→A4H l j=none:=by
 induction l with
 | nil=>intro j _;rfl
 | cons k r ih=>intro j h;cases j with
  | zero=>cases h
  | succ j=>exact ih (by simpa using h)
theorem B7o {l:List Nat}:∀ {j id:Nat},A4H l j=some id→j < l.length:=by
 intro j id h
 by_cases hj:j < l.length
 ·exact hj
 ·rw [A0Z (by omega)] at h;cases h
theorem C8K {l:List Nat} (hn:l.Nodup):∀ {j id:Nat},A4H l j=some id→P1 l id=j:=by
 induction l with
 | nil=>intro j id h;cases h
 | cons k r ih =>
  intro j id h
  obtain ⟨n1,n2⟩:=List.nodup_cons.1 hn
  cases j with
  | zero=>cases h;unfold P1;rw [Nat.beq_refl];rfl
  | succ j =>
   have h':A4H r j=some id:=h
   have A3:id∈r:=by
    obtain ⟨id',h1,h2⟩:=B0e (B7o h')
    rw [h'] at h1;cases h1;exact h2
   have:k≠id:=fun q=>n1 (q ▸ A3)
   unfold P1;rw [A60 this]
   show P1 r id+1=j+1
   rw [ih n2 h']
theorem B7p {l:List Nat}:∀ {id:Nat},id∈l→A4H l (P1 l id)=some id∧P1 l id < l.length:=by
 induction l with
 | nil=>intro id h;cases h
 | cons k r ih =>
  intro id h
  unfold P1
  by_cases hk:k=id
  ·subst hk;rw [Nat.beq_refl];exact ⟨rfl,by simp⟩
  ·rw [A60 hk]
   obtain ⟨h1,h2⟩:=ih ((List.mem_cons.1 h).resolve_left (fun q=>hk q.symm))
   exact ⟨h1,by show P1 r id+1 < _;simp;omega⟩
theorem B7q {L:List Nat}:∀ {l:List Nat} {j:Nat},ofL (X8 of L l) j=(A4H l j).map fun id=>match of id with
  | some o=>rnO (P1 L) (A58 of) id o
  | none=>.lp none:=by
 intro l
 induction l with
 | nil=>intro j;rfl
 | cons k r ih=>intro j;cases j with
  | zero=>rfl
  | succ j=>exact ih
theorem B7r:∀ (l:List Ob) (n:Nat) (f:Nat→Option Ob) (j:Nat),put f (A2b n l) j=if n≤j then (match ofL l (j - n) with | some o=>some o | none=>f j) else f j:=by
 intro l
 induction l with
 | nil=>intro n f j;simp [A2b,put,ofL]
 | cons o r ih =>
  intro n f j
  simp only [A2b,put]
  rw [ih]
  by_cases h1:n+1≤j
  ·rw [if_pos h1,if_pos (by omega),show j - n=(j - (n+1))+1 by omega]
   simp only [ofL]
   cases ofL r (j - (n+1)) with
   | some _=>rfl
   | none=>simp only;rw [upd_ne _ _ (by omega)]
  ·rw [if_neg h1]
   by_cases h2:n≤j
   ·have:j=n:=by omega
    subst this
    rw [if_pos (Nat.le_refl _),Nat.sub_self,upd_same];rfl
   ·rw [if_neg h2,upd_ne _ _ (by omega)]
theorem A75 {L:List Nat} {nx:Nat}:∀ (l:List (Nat×Ob)) (f g:Nat→Option Ob) (j:Nat),(∀ i∈X0 l,K0 L nx i=K0 L nx j→i=j) →
  g (K0 L nx j)=(f j).map (rnO (K0 L nx) (A74 of L) j)→put g (A0x of L nx l) (K0 L nx j)=(put f l j).map (rnO (K0 L nx) (A74 of L) j):=by
 intro l
 induction l with
 | nil=>intro f g j _ h;exact h
 | cons p r ih =>
  intro f g j hi h
  obtain ⟨k,o⟩:=p
  simp only [A0x,put]
  refine ih _ _ j (fun i A3=>hi i (by simp only [X0,List.map_cons,List.mem_cons];exact .inr A3)) ?_
  by_cases hk:j=k
  ·subst hk;rw [upd_same,upd_same];rfl
  ·have hne:K0 L nx j≠K0 L nx k:=fun q=>hk (hi k (by simp [X0]) q.symm).symm
   rw [upd_ne _ _ hne,upd_ne _ _ hk];exact h
theorem C8L {L:List Nat} {nx:Nat}:∀ (l:List (Nat×Ob)) (g:Nat→Option Ob) (id:Nat),(∀ i∈X0 l,K0 L nx i≠id)→put g (A0x of L nx l) id=g id:=by
 intro l
 induction l with
 | nil=>intro g id _;rfl
 | cons p r ih =>
  intro g id hi
  simp only [A0x,put]
  rw [ih _ id (fun i A3=>hi i (by simp only [X0,List.map_cons,List.mem_cons];exact .inr A3))]
  exact upd_ne _ _ fun q=>hi p.1 (by simp [X0]) q.symm
theorem B5u:∀ (l:List (Nat×Ob)) (f:Nat→Option Ob) (j:Nat),(j∈X0 l∨(f j).isSome)→(put f l j).isSome:=by
 intro l
 induction l with
 | nil=>intro f j h;exact h.resolve_left (fun q=>by cases q)
 | cons p r ih =>
  intro f j h
  refine ih _ j ?_
  by_cases hj:j=p.1
  ·right;subst hj;rw [upd_same];rfl
  ·rcases h with h | h
   ·left;simp only [X0,List.map_cons,List.mem_cons] at h;exact h.resolve_left hj
   ·right;rw [upd_ne _ _ hj];exact h
theorem C4v:∀ (l:List (Nat×Ob)) (f:Nat→Option Ob),B5t l=true→(∀ j o,f j=some o→okT o=true)→∀ j o,put f l j=some o→okT o=true:=by
 intro l
 induction l with
 | nil=>intro f _ h j o;exact h j o
 | cons p r ih =>
  intro f ha h j o hj
  simp only [B5t,D5V] at ha
  refine ih _ ha.2 (fun j o hj=>?_) j o hj
  by_cases hk:j=p.1
  ·subst hk;rw [upd_same] at hj;cases hj;exact ha.1
  ·rw [upd_ne _ _ hk] at hj;exact h j o hj
theorem D2M {ρ:Nat→Nat} {τ:Nat→Nat→Option Nat} {id:Nat} {o:Ob}:okT (rnO ρ τ id o)=true:=by
 cases o with
 | lp q=>rfl
 | it q=>cases q<;>rfl
 | _=>rfl
theorem C2.usedR {a:A} {v:Value} (h:C2 T e a v):∀ id∈E1 a,e.U id:=by
 by_cases ht:∃ l,a=.t l
 ·obtain ⟨l,rfl⟩:=ht
  obtain ⟨xs,rfl,h2,h3⟩:=h
  have key:∀ (l:List A) (k0:Nat),(∀ (i:Nat) v,l[i]? = some v→∃ x,H5 T e v x)→∀ id∈E5 l,e.U id:=by
   intro l
   induction l with
   | nil=>intro _ _ id A3;cases A3
   | cons a r ih =>
    intro k0 h id A3
    simp only [E5,D55] at A3
    rcases A3 with A3 | A3
    ·obtain ⟨x,hx⟩:=h 0 a rfl;exact hx.used id A3
    ·exact ih 0 (fun i v hv=>h (i+1) v (by simpa using hv)) id A3
  intro id A3
  refine key l 0 (fun i v hv=>?_) id (by simpa [E1] using A3)
  have hi:i < xs.size:=by
   have:=(List.getElem?_eq_some_iff.1 hv).1;omega
  exact ⟨xs[i],h3 i v _ hv (by simp [hi])⟩
 ·exact (A6E h fun l hl=>ht ⟨l,hl⟩).used
def R0 (P:Program) (T:TT) (f:FuncId) (s:Sym):Prop :=
 ∀ (c:J8) (e:B4) (of:Nat→Option Ob) (args:List A) (vals:Array Value) (nx:Nat) (out:H9),A5 T c e of→s args of nx=some out→(∀ id,nx≤id→id < out.nx→¬ e.U id)→T2 T e args vals.toList→D8 P (callFunc f vals) e.w (V2 T c e of nx out)
theorem J2.at_ {f:FuncId} {s:Sym} (h:J2 P T f s):R0 P T f s:=fun c e of args vals nx out hos hr hu hv=>h c e of of args vals nx out hos hr (fun _ _=>rfl) hu hv
theorem P2 {f:FuncId} {s:D7} (hn:s.nat) (hs:R0 P T f s.dir):J2 P T f (trS s).dir:=by
 intro c e of of' args vals nx out hos hrun hro hu hvals
 unfold D7.dir trS at hrun
 simp only at hrun
 generalize W9 of 64 (E5 args) []=L at hrun
 cases hc:(A24 L&&(B3o of L L&&B1T L (E5 args))) with
 | false=>rw [hc] at hrun;cases hrun
 | true =>
 rw [hc] at hrun
 simp only [cond_true] at hrun
 rw [hn H9] at hrun
 obtain ⟨out0,hout0,hk⟩:=A6G hrun
 cases hc2:(Nat.ble L.length out0.nx&&B5t out0.wo) with
 | false=>rw [hc2] at hk;cases hk
 | true =>
 rw [hc2] at hk
 simp only [cond_true,D5X] at hk
 subst hk
 simp only [D5V] at hc hc2
 obtain ⟨hnd,hck,hsa⟩:=hc
 obtain ⟨hm,hat⟩:=hc2
 have hm:=D50 hm
 have hnd:=B3p hnd
 have hck:=B9d hck
 have hsa:=B0d hsa
 have hobj:∀ id∈L,∃ o,of id=some o∧of' id=some o∧okT o=true∧(∀ k∈A1E o,k∈L)∧OK T e id o:=fun id A3=>by
  obtain ⟨o,h1,h2,h3⟩:=hck id A3
  have h4:of' id=some o:=(hro id A3).trans h1
  exact ⟨o,h1,h4,h2,h3,hos.ok id o h4⟩
 have hbn:∀ id∈L,e.bn id=S7 of id:=fun id A3=>by
  obtain ⟨o,h1,h2,h3,h4,h5⟩:=hobj id A3
  unfold S7
  rw [h1]
  cases o with
  | row el ver xs nl sh=>exact h5.2.2.1
  | box t a sh=>exact h5.2.1
  | map kt et es=>exact h5.2.1
  | vm kt et es=>exact h5.2.1
  | sm kt st el es ho=>exact h5.2.1
  | lp q=>cases q<;>exact h5.2.1
  | it q=>cases q<;>exact h5.2.1
 have hU:∀ id∈L,e.U id:=fun id A3=>by
  obtain ⟨o,_,_,_,_,h5⟩:=hobj id A3;exact h5.use
 have hpos:∀ id∈L,∀ el ver xs nl sh,of id=some (.row el ver xs nl sh)→0 < ver:=fun id A3 el ver xs nl sh h=>by
  obtain ⟨o,h1,_,_,_,h5⟩:=hobj id A3
  rw [h1] at h;cases h;exact h5.2.1
 let g:Nat→Nat:=fun j=>(A4H L j).getD 0
 have hg:∀ j,j < L.length→A4H L j=some (g j)∧g j∈L:=fun j hj=>by
  obtain ⟨id,h1,h2⟩:=B0e hj
  simp only [g,h1];exact ⟨rfl,h2⟩
 let e0:B4:={ w:=e.w,ι:=fun j=>if j < L.length then e.ι (g j) else none,S:=e.S,bn:=fun j=>if S7 of (g j)=0 then 0 else 1,U:=fun j=>j < L.length,ty:=fun j=>e.ty (g j),ln:=fun j=>e.ln (g j),G:=fun a b=>e.G a b∧∃ id∈L,∃ o,e.ι id=some (a,o) }
 let c0:J8:={ w0:=e.w,M:=fun b=>(∃ id∈L,∃ o,e.ι id=some (b,o))∨∃ a,e.G a b∧∃ id∈L,∃ o,e.ι id=some (a,o),S0:=e.S }
 have hgi:∀ id∈L,g (P1 L id)=id∧P1 L id < L.length:=fun id A3=>by
  obtain ⟨h1,h2⟩:=B7p A3
  simp only [g,h1];exact ⟨rfl,h2⟩
 have hig:∀ j,j < L.length→P1 L (g j)=j:=fun j hj=>C8K hnd (hg j hj).1
 have ren0:REN e e0 (P1 L) (A58 of) (fun id=>id∈L):=by
  refine ⟨rfl,fun _ _=>Iff.rfl,fun id A3 _=>(hgi id A3).2,fun id A3 _=>?_,fun id A3 _=>?_,fun id A3 _=>?_,fun id A3 _ hb=>?_,fun id ver v A3 _ hτ h0 hle=>?_,fun id a o b A3 _ hι hG=>⟨hG,id,A3,o,hι⟩⟩
  ·show (if P1 L id < L.length then e.ι (g (P1 L id)) else none)=_
   rw [if_pos (hgi id A3).2,(hgi id A3).1]
  ·show e.ty (g (P1 L id))=_;rw [(hgi id A3).1]
  ·show e.ln (g (P1 L id))=_;rw [(hgi id A3).1]
  ·show (if S7 of (g (P1 L id))=0 then 0 else 1)=0
   rw [(hgi id A3).1,← hbn id A3,if_pos hb]
  ·unfold A58 at hτ
   cases hq:Nat.beq (S7 of id) ver with
   | false=>rw [hq] at hτ;cases hτ
   | true =>
    rw [hq] at hτ;cases hτ
    have hq:=D5U hq
    refine ⟨by omega,?_,fun _=>by rw [hbn id A3,hq]⟩
    show 1≤(if S7 of (g (P1 L id))=0 then 0 else 1)
    rw [(hgi id A3).1,hq,if_neg (by omega)];exact Nat.le_refl 1
 have hcan:∀ j o,ofL (X8 of L L) j=some o→j < L.length∧∃ o1,of (g j)=some o1∧o=rnO (P1 L) (A58 of) (g j) o1:=fun j o hj=>by
  rw [B7q] at hj
  cases hgj:A4H L j with
  | none=>rw [hgj] at hj;cases hj
  | some id =>
   have hlt:=B7o hgj
   obtain ⟨h1,h2⟩:=hg j hlt
   rw [h1] at hj
   obtain ⟨o1,p1,_⟩:=hobj _ h2
   simp only [Option.map_some,D5X,p1] at hj
   exact ⟨hlt,o1,p1,hj.symm⟩
 have hcan1:∀ j,j < L.length→(ofL (X8 of L L) j).isSome:=fun j hj=>by
  rw [B7q,(hg j hj).1];rfl
 have hsome':∀ id∈L,(of' id).isSome:=fun id A3=>by
  obtain ⟨o,_,h2,_⟩:=hobj id A3;rw [h2];rfl
 have hos0:A5 T c0 e0 (ofL (X8 of L L)):=by
  refine ⟨fun j o hj=>?_,fun i j b o b' o' hi hj hbi hbj hne=>?_,fun j b o hj hb=>?_,fun j b o hj hb=>?_,fun b i h=>hos.slt b i h,fun _ _ h=>h,fun _ _ h=>.inl h,rfl,rfl,rfl,Nat.le_refl _,fun _ _ _=>rfl,⟨fun a b hG j b' o hj hb=>?_,fun a a' b h1 h2=>hos.g.uniq a a' b h1.1 h2.1,fun a b hG=>.inr (.inr ⟨a,hG.1,hG.2⟩),fun a b hG=>hos.g.lt a b hG.1⟩⟩
  ·obtain ⟨hlt,o1,h1,rfl⟩:=hcan j o hj
   obtain ⟨o2,p1,p2,p3,p4,p5⟩:=hobj _ (hg j hlt).2
   rw [h1] at p1;cases p1
   have:=p5.ren ren0 (hg j hlt).2 p4 p3 (fun el ver xs nl sh he=>by
    subst he
    have hv:S7 of (g j)=ver:=by unfold S7;rw [h1]
    have hp:=hpos _ (hg j hlt).2 _ _ _ _ _ h1
    refine ⟨1,by unfold A58;rw [hv,Nat.beq_refl];rfl,?_⟩
    show (if S7 of (g (P1 L (g j)))=0 then 0 else 1)=1
    rw [hig j hlt,hv,if_neg (by omega)])
   rw [hig j hlt] at this
   exact this
  ·obtain ⟨oi,hi⟩:=D5Z.1 hi
   obtain ⟨oj,hj⟩:=D5Z.1 hj
   obtain ⟨li,_⟩:=hcan i oi hi
   obtain ⟨lj,_⟩:=hcan j oj hj
   have hbi:(if i < L.length then e.ι (g i) else none)=some (b,o):=hbi
   have hbj:(if j < L.length then e.ι (g j) else none)=some (b',o'):=hbj
   rw [if_pos li] at hbi;rw [if_pos lj] at hbj
   exact hos.sep _ _ _ _ _ _ (hsome' _ (hg i li).2) (hsome' _ (hg j lj).2) hbi hbj (fun q=>hne (by rw [← hig i li,q,hig j lj]))
  ·obtain ⟨oj,hj⟩:=D5Z.1 hj
   obtain ⟨lj,_⟩:=hcan j oj hj
   have hb:(if j < L.length then e.ι (g j) else none)=some (b,o):=hb
   rw [if_pos lj] at hb
   exact .inr (.inl ⟨g j,(hg j lj).2,o,hb⟩)
  ·have lj:j < L.length:=hj
   have hb:(if j < L.length then e.ι (g j) else none)=some (b,o):=hb
   rw [if_pos lj] at hb
   exact hos.lt _ _ _ (hU _ (hg j lj).2) hb
  ·obtain ⟨oj,hj⟩:=D5Z.1 hj
   obtain ⟨lj,_⟩:=hcan j oj hj
   have hb:(if j < L.length then e.ι (g j) else none)=some (b',o):=hb
   rw [if_pos lj] at hb
   exact hos.g.sep a b hG.1 (g j) b' o (hsome' _ (hg j lj).2) hb
 have hreps0:T2 T e0 (rnL (P1 L) (A58 of) args) vals.toList:=hvals.ren ren0 hsa
 refine E8 (hs c0 e0 (ofL (X8 of L L)) _ vals L.length out0 hos0 hout0 (fun j h1 _ (h:j < L.length)=>by omega) hreps0) ?_
 rintro x w' ⟨e1,rfl,k1,k2,k3,k4⟩
 have k3:∀ j,e1.U j→j < out0.nx:=fun j hj=>by
  rcases k3 j hj with h | h
  ·have h:j < L.length:=h;omega
  ·exact h.2
 have k3':∀ j,j < L.length→e1.U j:=fun j hj=>k2.use j hj
 let img:Nat→Prop:=fun id=>id∈L∨(nx≤id∧id < nx+(out0.nx - L.length))
 let inv:Nat→Nat:=fun id=>if id∈L then P1 L id else L.length+(id - nx)
 let dl:Nat→Nat:=fun j=>if j < L.length then S7 of (g j) - 1 else 0
 haveI:∀ id,Decidable (img id):=fun id=>inferInstanceAs (Decidable (id∈L∨(nx≤id∧id < nx+(out0.nx - L.length))))
 let e2:B4:={ w:=e1.w,S:=e1.S,ι:=fun id=>if img id then e1.ι (inv id) else e.ι id,bn:=fun id=>if img id then e1.bn (inv id)+dl (inv id) else e.bn id,U:=fun id=>if img id then e1.U (inv id) else e.U id,ty:=fun id=>if img id then e1.ty (inv id) else e.ty id,ln:=fun id=>if img id then e1.ln (inv id) else e.ln id,G:=fun a b=>e1.G a b∨(e.G a b∧¬ ∃ id∈L,∃ o,e.ι id=some (a,o)) }
 have hnew:∀ id,nx≤id→id < nx+(out0.nx - L.length)→id ∉ L:=fun id h1 h2 A3=>hu id h1 h2 (hU id A3)
 have hrho:∀ j,j < out0.nx→img (K0 L nx j)∧inv (K0 L nx j)=j:=fun j hj=>by
  by_cases hl:j < L.length
  ·obtain ⟨h1,h2⟩:=hg j hl
   have:K0 L nx j=g j:=by unfold K0;rw [h1]
   rw [this]
   refine ⟨.inl h2,?_⟩
   simp only [inv];rw [if_pos h2,hig j hl]
  ·have:K0 L nx j=nx+(j - L.length):=by unfold K0;rw [A0Z (by omega)]
   rw [this]
   have hlt:nx+(j - L.length) < nx+(out0.nx - L.length):=by omega
   refine ⟨.inr ⟨by omega,hlt⟩,?_⟩
   simp only [inv];rw [if_neg (hnew _ (by omega) hlt)];omega
 have hinv:∀ id,img id→inv id < out0.nx∧K0 L nx (inv id)=id:=fun id A3=>by
  by_cases hl:id∈L
  ·obtain ⟨h1,h2⟩:=B7p hl
   simp only [inv];rw [if_pos hl]
   refine ⟨by omega,?_⟩
   unfold K0;rw [h1]
  ·have A3:=A3.resolve_left hl
   simp only [inv];rw [if_neg hl]
   refine ⟨by omega,?_⟩
   unfold K0;rw [A0Z (by omega)];simp only;omega
 have hrinj:∀ i j,i < out0.nx→j < out0.nx→K0 L nx i=K0 L nx j→i=j:=fun i j hi hj h=>by
  rw [← (hrho i hi).2,← (hrho j hj).2,h]
 have ren1:REN e1 e2 (K0 L nx) (A74 of L) (fun j=>e1.U j):=by
  refine ⟨rfl,fun _ _=>Iff.rfl,fun j _ hj=>?_,fun j _ hj=>?_,fun j _ hj=>?_,fun j _ hj=>?_,fun j _ hj hb=>?_,fun j ver v _ hj hτ h0 hle=>?_,fun _ _ _ _ _ _ _ hG=>.inl hG⟩
  ·show if img (K0 L nx j) then e1.U (inv (K0 L nx j)) else e.U (K0 L nx j)
   obtain ⟨h1,h2⟩:=hrho j (k3 j hj)
   rw [if_pos h1,h2];exact hj
  ·show (if img (K0 L nx j) then e1.ι (inv (K0 L nx j)) else e.ι (K0 L nx j))=_
   obtain ⟨h1,h2⟩:=hrho j (k3 j hj)
   rw [if_pos h1,h2]
  ·show (if img (K0 L nx j) then e1.ty (inv (K0 L nx j)) else e.ty (K0 L nx j))=_
   obtain ⟨h1,h2⟩:=hrho j (k3 j hj)
   rw [if_pos h1,h2]
  ·show (if img (K0 L nx j) then e1.ln (inv (K0 L nx j)) else e.ln (K0 L nx j))=_
   obtain ⟨h1,h2⟩:=hrho j (k3 j hj)
   rw [if_pos h1,h2]
  ·show (if img (K0 L nx j) then e1.bn (inv (K0 L nx j))+dl (inv (K0 L nx j)) else e.bn (K0 L nx j))=0
   obtain ⟨h1,h2⟩:=hrho j (k3 j hj)
   rw [if_pos h1,h2,hb]
   simp only [dl]
   by_cases hl:j < L.length
   ·rw [if_pos hl]
    have:=k2.up j hl
    have hq:(if S7 of (g j)=0 then 0 else 1)≤e1.bn j:=this
    by_cases hv:S7 of (g j)=0
    ·omega
    ·rw [if_neg hv] at hq;omega
   ·rw [if_neg hl]
  ·have e2bn:e2.bn (K0 L nx j)=e1.bn j+dl j:=by
    show (if img (K0 L nx j) then e1.bn (inv (K0 L nx j))+dl (inv (K0 L nx j)) else e.bn (K0 L nx j))=_
    obtain ⟨h1,h2⟩:=hrho j (k3 j hj)
    rw [if_pos h1,h2]
   have hv:v=ver+dl j:=by
    unfold A74 at hτ
    simp only [dl]
    by_cases hl:j < L.length
    ·rw [(hg j hl).1] at hτ;rw [if_pos hl];simpa using hτ.symm
    ·rw [A0Z (by omega)] at hτ;rw [if_neg hl];simpa using hτ.symm
   rw [e2bn,hv]
   exact ⟨by omega,by omega,fun h=>by omega⟩
 have imgU:∀ id,img id→e.U id→id∈L:=fun id A3 hU'=>by
  rcases A3 with h | h
  ·exact h
  ·exact absurd hU' (hu id h.1 h.2)
 have le2:e.le e2:=by
  refine ⟨fun b i h=>⟨(k2.S b i h).1,fun y hy=>(k2.S b i h).2 y hy⟩,fun id A3=>?_,fun id A3 hbe=>?_,fun id A3 hb=>?_,fun id A3=>?_,fun id A3=>?_,k2.grow,k2.keep⟩
  ·show if img id then e1.U (inv id) else e.U id
   by_cases hi:img id
   ·have hl:=imgU id hi A3
    rw [if_pos hi]
    refine k3' _ ?_
    simp only [inv];rw [if_pos hl];exact (hgi id hl).2
   ·rw [if_neg hi];exact A3
  ·by_cases hi:img id
   ·have hl:=imgU id hi A3
    have hiv:inv id=P1 L id:=by simp only [inv];rw [if_pos hl]
    have hbe:(if img id then e1.bn (inv id)+dl (inv id) else e.bn id)=e.bn id:=hbe
    rw [if_pos hi,hiv] at hbe
    have hlt:=(hgi id hl).2
    have hdl:dl (P1 L id)=S7 of id - 1:=by simp only [dl];rw [if_pos hlt,(hgi id hl).1]
    have hb0:e0.bn (P1 L id)=if S7 of id=0 then 0 else 1:=by
     show (if S7 of (g (P1 L id))=0 then 0 else 1)=_
     rw [(hgi id hl).1]
    have hup:=k2.up _ hlt
    rw [hbn id hl,hdl] at hbe
    have heq:e1.bn (P1 L id)=e0.bn (P1 L id):=by
     rw [hb0] at hup ⊢
     by_cases hv:S7 of id=0
     ·rw [if_pos hv] at hup ⊢;omega
     ·rw [if_neg hv] at hup ⊢;omega
    obtain ⟨q1,q2,q3⟩:=k2.obj _ hlt heq
    have i0:e0.ι (P1 L id)=e.ι id:=by
     show (if P1 L id < L.length then e.ι (g (P1 L id)) else none)=_
     rw [if_pos hlt,(hgi id hl).1]
    refine ⟨?_,?_,fun b o hb=>?_⟩
    ·show (if img id then e1.ι (inv id) else e.ι id)=_
     rw [if_pos hi,hiv,q1,i0]
    ·show (if img id then e1.ln (inv id) else e.ln id)=_
     rw [if_pos hi,hiv,q2]
     show e.ln (g (P1 L id))=_
     rw [(hgi id hl).1]
    ·exact q3 b o (by rw [i0];exact hb)
   ·refine ⟨?_,?_,fun b o hb=>k2.keep b (hos.lt _ _ _ A3 hb)⟩
    ·show (if img id then e1.ι (inv id) else e.ι id)=_;rw [if_neg hi]
    ·show (if img id then e1.ln (inv id) else e.ln id)=_;rw [if_neg hi]
  ·show (if img id then e1.bn (inv id)+dl (inv id) else e.bn id)=0
   by_cases hi:img id
   ·have hl:=imgU id hi A3
    have hiv:inv id=P1 L id:=by simp only [inv];rw [if_pos hl]
    have hlt:=(hgi id hl).2
    have hv:S7 of id=0:=by rw [← hbn id hl];exact hb
    rw [if_pos hi,hiv]
    have hb0:e0.bn (P1 L id)=0:=by
     show (if S7 of (g (P1 L id))=0 then 0 else 1)=0
     rw [(hgi id hl).1,if_pos hv]
    have:=k2.box _ hlt hb0
    have hdl:dl (P1 L id)=0:=by simp only [dl];rw [if_pos hlt,(hgi id hl).1];omega
    omega
   ·rw [if_neg hi];exact hb
  ·show e.bn id≤(if img id then e1.bn (inv id)+dl (inv id) else e.bn id)
   by_cases hi:img id
   ·have hl:=imgU id hi A3
    have hiv:inv id=P1 L id:=by simp only [inv];rw [if_pos hl]
    have hlt:=(hgi id hl).2
    rw [if_pos hi,hiv,hbn id hl]
    have hup:=k2.up _ hlt
    have hb0:e0.bn (P1 L id)=if S7 of id=0 then 0 else 1:=by
     show (if S7 of (g (P1 L id))=0 then 0 else 1)=_
     rw [(hgi id hl).1]
    have hdl:dl (P1 L id)=S7 of id - 1:=by simp only [dl];rw [if_pos hlt,(hgi id hl).1]
    rw [hb0] at hup
    by_cases hv:S7 of id=0
    ·omega
    ·rw [if_neg hv] at hup;omega
   ·rw [if_neg hi];exact Nat.le_refl _
  ·show (if img id then e1.ty (inv id) else e.ty id)=_
   by_cases hi:img id
   ·have hl:=imgU id hi A3
    have hiv:inv id=P1 L id:=by simp only [inv];rw [if_pos hl]
    have hlt:=(hgi id hl).2
    rw [if_pos hi,hiv,k2.ty _ hlt]
    show e.ty (g (P1 L id))=_
    rw [(hgi id hl).1]
   ·rw [if_neg hi]
 have hfin:∀ j,put (ofL (X8 of L L)) out0.wo j=put (put (fun _=>none) (A2b 0 (X8 of L L))) out0.wo j:=fun j=>by
  refine A5h _ ?_
  rw [B7r,if_pos (Nat.zero_le _),Nat.sub_zero]
  cases ofL (X8 of L L) j<;>rfl
 have hids:∀ i∈X0 (A2b 0 (X8 of L L)++out0.wo),i < out0.nx:=fun i hi=>by
  have hs1:(put (ofL (X8 of L L)) out0.wo i).isSome:=by
   rw [hfin,← H7]
   exact B5u _ _ _ (.inl hi)
  obtain ⟨o,ho⟩:=D5Z.1 hs1
  exact k3 _ (k1.ok _ _ ho).use
 have hput1:∀ j,j < out0.nx→put of' (A0x of L nx (A2b 0 (X8 of L L)++out0.wo)) (K0 L nx j)=(put (ofL (X8 of L L)) out0.wo j).map (rnO (K0 L nx) (A74 of L) j):=fun j hj=>by
  rw [hfin,← H7]
  by_cases hl:j < L.length
  ·-- overwritten by its own
   have:put of' (A0x of L nx (A2b 0 (X8 of L L)++out0.wo)) (K0 L nx j)=put (fun _=>none) (A0x of L nx (A2b 0 (X8 of L L)++out0.wo)) (K0 L nx j):=by
    have happ:A0x of L nx (A2b 0 (X8 of L L)++out0.wo)=A0x of L nx (A2b 0 (X8 of L L))++A0x of L nx out0.wo:=by
     generalize A2b 0 (X8 of L L)=l1
     induction l1 with
     | nil=>rfl
     | cons p r ih=>simp only [List.cons_append,A0x,ih]
    rw [happ,H7,H7]
    refine A5h _ ?_
    have hsomeN:(put (fun _=>none) (A2b 0 (X8 of L L)) j).isSome:=by
     rw [B7r,if_pos (Nat.zero_le _),Nat.sub_zero]
     obtain ⟨o,ho⟩:=D5Z.1 (hcan1 j hl)
     rw [ho];rfl
    have hin:∀ i∈X0 (A2b 0 (X8 of L L)),K0 L nx i=K0 L nx j→i=j:=fun i hi h=>hrinj i j (hids i (by simp only [X0,List.map_append,D55];exact .inl hi)) hj h
    have key:∀ (l:List (Nat×Ob)) (f g:Nat→Option Ob) (id:Nat),(put (fun _=>none) l id).isSome∨f id=g id→put f l id=put g l id:=by
     intro l
     induction l with
     | nil=>intro f g id h;rcases h with h | h
            ·cases h
            ·exact h
     | cons p r ih =>
      intro f g id h
      refine ih _ _ id ?_
      by_cases A3:id=p.1
      ·right;subst A3;rw [upd_same,upd_same]
      ·rw [upd_ne _ _ A3,upd_ne _ _ A3]
       rcases h with h | h
       ·left
        have:put (F8 (fun _=>none) p.1 (some p.2)) r id=put (fun _=>none) r id:=A5h r (upd_ne _ _ A3)
        rw [← this];exact h
       ·exact .inr h
    refine key _ _ _ _ (.inl ?_)
    rw [A75 (of:=of) (A2b 0 (X8 of L L)) (fun _=>none) (fun _=>none) j hin rfl]
    obtain ⟨o,ho⟩:=D5Z.1 hsomeN
    rw [ho];rfl
   rw [this]
   exact A75 (of:=of) _ _ _ j (fun i hi h=>hrinj i j (hids i hi) hj h) rfl
  ·refine A75 (of:=of) _ _ _ j (fun i hi h=>hrinj i j (hids i hi) hj h) ?_
   have hr:K0 L nx j=nx+(j - L.length):=by unfold K0;rw [A0Z (by omega)]
   cases hq:of' (K0 L nx j) with
   | none=>rfl
   | some o =>
    have:=(hos.ok _ _ hq).use
    rw [hr] at this
    exact absurd this (hu _ (by omega) (by show nx+(j - L.length) < nx+(out0.nx - L.length);omega))
 have hput2:∀ id,¬ img id→put of' (A0x of L nx (A2b 0 (X8 of L L)++out0.wo)) id=of' id:=fun id A3=>C8L _ _ _ (fun i hi h=>A3 (h ▸ (hrho i (hids i hi)).1))
 have hall:∀ j o,put (ofL (X8 of L L)) out0.wo j=some o→okT o=true:=C4v _ _ hat (fun j o hj=>by
  obtain ⟨_,o1,_,rfl⟩:=hcan j o hj;exact D2M)
 have himgO:∀ id o,img id→put of' (A0x of L nx (A2b 0 (X8 of L L)++out0.wo)) id=some o→∃ o1,put (ofL (X8 of L L)) out0.wo (inv id)=some o1∧o=rnO (K0 L nx) (A74 of L) (inv id) o1:=fun id o A3 ho=>by
  obtain ⟨h1,h2⟩:=hinv id A3
  rw [← h2,hput1 _ h1] at ho
  cases hq:put (ofL (X8 of L L)) out0.wo (inv id) with
  | none=>rw [hq] at ho;cases ho
  | some o1=>rw [hq] at ho;exact ⟨o1,rfl,by simpa using ho.symm⟩
 have hι2:∀ id,img id→e2.ι id=e1.ι (inv id):=fun id A3=>by
  show (if img id then e1.ι (inv id) else e.ι id)=_;rw [if_pos A3]
 have hι2':∀ id,¬ img id→e2.ι id=e.ι id:=fun id A3=>by
  show (if img id then e1.ι (inv id) else e.ι id)=_;rw [if_neg A3]
 have hM:∀ b,c0.M b→c.w0.heap.size≤b∨c.M b:=fun b hb=>by
  rcases hb with ⟨id,A3,o,hb⟩ | ⟨a,hG,_⟩
  ·exact hos.own id b o (hsome' id A3) hb
  ·exact hos.g.own a b hG
 have hGM:∀ a b,e.G a b→(¬ ∃ id∈L,∃ o,e.ι id=some (a,o))→¬ c0.M b:=fun a b hG hn hb=>by
  rcases hb with ⟨id,A3,o,hb⟩ | ⟨a',hG',hL⟩
  ·exact hos.g.sep a b hG id b o (hsome' id A3) hb rfl
  ·exact hn (hos.g.uniq _ _ _ hG hG' ▸ hL)
 have hnM:∀ id b o,¬ img id→(of' id).isSome→e.ι id=some (b,o)→¬ c0.M b∧b < e.w.heap.size:=fun id b o A3 hs1 hb=>by
  obtain ⟨o1,ho1⟩:=D5Z.1 hs1
  refine ⟨fun hMb=>?_,hos.lt _ _ _ (hos.ok _ _ ho1).use hb⟩
  rcases hMb with ⟨id',hid',o',hb'⟩ | ⟨a,hG,_⟩
  ·exact absurd rfl (hos.sep id id' b o b o' hs1 (hsome' id' hid') hb hb' (fun q=>A3 (.inl (q ▸ hid'))))
  ·exact hos.g.sep a b hG id b o hs1 hb rfl
 refine ⟨e2,rfl,?_,le2,fun id A3=>?_,?_⟩
 ·show A5 T c e2 (put of' (A0x of L nx (A2b 0 (X8 of L L)++out0.wo)))
  refine ⟨fun id o ho=>?_,fun i j b o b' o' hi hj hbi hbj hne=>?_,fun id b o A3 hb=>?_,fun id b o A3 hb=>?_,fun b i h=>k1.slt b i h,fun b i h=>(k2.S b i (hos.s0 b i h)).1,fun b i h=>?_,k1.os.trans hos.os,k1.tape.trans hos.tape,k1.output.trans hos.output,Nat.le_trans hos.size k1.size,fun k hk hm'=>?_,⟨fun a b hG j b' o hj hb=>?_,fun a a' b h1 h2=>?_,fun a b hG=>?_,fun a b hG=>?_⟩⟩
  ·by_cases hi:img id
   ·obtain ⟨o1,h1,rfl⟩:=himgO id o hi ho
    have hok1:=k1.ok _ _ h1
    have:=hok1.ren ren1 hok1.use (fun k hk=>hok1.used k hk) (hall _ _ h1) (fun el ver xs nl sh he=>by
     subst he
     have hj:=k3 _ hok1.use
     have hτ:A74 of L (inv id) ver=some (ver+dl (inv id)):=by
      unfold A74
      simp only [dl]
      by_cases hl:inv id < L.length
      ·rw [(hg _ hl).1,if_pos hl]
      ·rw [A0Z (by omega),if_neg hl];rfl
     refine ⟨_,hτ,?_⟩
     show (if img (K0 L nx (inv id)) then e1.bn (inv (K0 L nx (inv id)))+dl (inv (K0 L nx (inv id))) else e.bn (K0 L nx (inv id)))=_
     obtain ⟨q1,q2⟩:=hrho _ hj
     rw [if_pos q1,q2,hok1.2.2.1])
    rw [(hinv id hi).2] at this
    exact this
   ·rw [hput2 id hi] at ho
    refine (hos.ok id o ho).keep le2 (by show (if img id then e1.bn (inv id)+dl (inv id) else e.bn id)=_;rw [if_neg hi]) (fun b o' hb=>?_) (fun b o' i hb hs'=>?_) (fun a o' b hb hG=>?_)
    ·obtain ⟨h1,h2⟩:=hnM id b o' hi (by rw [ho];rfl) hb
     exact k1.block b h2 h1
    ·obtain ⟨h1,h2⟩:=hnM id b o' hi (by rw [ho];rfl) hb
     rcases k1.snew b i hs' with h | h | h
     ·exact h
     ·have h:e.w.heap.size≤b:=h;omega
     ·exact absurd h h1
    ·obtain ⟨h1,h2⟩:=hnM id a o' hi (by rw [ho];rfl) hb
     have hn:¬ ∃ id∈L,∃ o,e.ι id=some (a,o):=fun q=>h1 (.inl q)
     have hb1:=hGM a b hG hn
     have hlt:=hos.g.lt a b hG
     refine ⟨.inr ⟨hG,hn⟩,k1.block b hlt hb1,fun i hs'=>?_⟩
     rcases k1.snew b i hs' with h | h | h
     ·exact h
     ·have h:e.w.heap.size≤b:=h;omega
     ·exact absurd h hb1
  ·by_cases h1:img i<;>by_cases h2:img j
   ·rw [hι2 i h1] at hbi;rw [hι2 j h2] at hbj
    obtain ⟨oi,hi⟩:=D5Z.1 hi
    obtain ⟨oj,hj⟩:=D5Z.1 hj
    obtain ⟨o1,p1,_⟩:=himgO i oi h1 hi
    obtain ⟨o2,p2,_⟩:=himgO j oj h2 hj
    exact k1.sep _ _ _ _ _ _ (by rw [p1];rfl) (by rw [p2];rfl) hbi hbj (fun q=>hne (by rw [← (hinv i h1).2,q,(hinv j h2).2]))
   ·rw [hι2 i h1] at hbi;rw [hι2' j h2] at hbj
    obtain ⟨oi,hi⟩:=D5Z.1 hi
    obtain ⟨o1,p1,_⟩:=himgO i oi h1 hi
    rw [hput2 j h2] at hj
    obtain ⟨q1,q2⟩:=hnM j b' o' h2 hj hbj
    rcases k1.own _ b o (by rw [p1];rfl) hbi with h | h
    ·have h:e.w.heap.size≤b:=h;intro q;omega
    ·intro q;exact q1 (q ▸ h)
   ·rw [hι2' i h1] at hbi;rw [hι2 j h2] at hbj
    obtain ⟨oj,hj⟩:=D5Z.1 hj
    obtain ⟨o2,p2,_⟩:=himgO j oj h2 hj
    rw [hput2 i h1] at hi
    obtain ⟨q1,q2⟩:=hnM i b o h1 hi hbi
    rcases k1.own _ b' o' (by rw [p2];rfl) hbj with h | h
    ·have h:e.w.heap.size≤b':=h;intro q;omega
    ·intro q;exact q1 (q ▸ h)
   ·rw [hι2' i h1] at hbi;rw [hι2' j h2] at hbj
    rw [hput2 i h1] at hi;rw [hput2 j h2] at hj
    exact hos.sep _ _ _ _ _ _ hi hj hbi hbj hne
  ·by_cases h1:img id
   ·rw [hι2 id h1] at hb
    obtain ⟨o1,A3⟩:=D5Z.1 A3
    obtain ⟨o2,p1,_⟩:=himgO id o1 h1 A3
    rcases k1.own _ b o (by rw [p1];rfl) hb with h | h
    ·have h:e.w.heap.size≤b:=h
     have:=hos.size;exact .inl (by omega)
    ·exact hM b h
   ·rw [hι2' id h1] at hb;rw [hput2 id h1] at A3
    exact hos.own id b o A3 hb
  ·by_cases h1:img id
   ·rw [hι2 id h1] at hb
    have A3:if img id then e1.U (inv id) else e.U id:=A3
    rw [if_pos h1] at A3
    exact k1.lt _ _ _ A3 hb
   ·rw [hι2' id h1] at hb
    have A3:if img id then e1.U (inv id) else e.U id:=A3
    rw [if_neg h1] at A3
    have:=hos.lt _ _ _ A3 hb
    have:=k2.grow
    have:e.w.heap.size≤e1.w.heap.size:=this
    show b < e1.w.heap.size;omega
  ·rcases k1.snew b i h with h | h | h
   ·exact hos.snew b i h
   ·have h:e.w.heap.size≤b:=h
    have:=hos.size;exact .inr (.inl (by omega))
   ·exact .inr (hM b h)
  ·have hnm:¬ c0.M k:=fun h=>by
    rcases hM k h with h | h
    ·omega
    ·exact hm' h
   exact (k1.block k (Nat.lt_of_lt_of_le hk hos.size) hnm).trans (hos.block k hk hm')
  ·have hG:e1.G a b∨(e.G a b∧¬ ∃ id∈L,∃ o,e.ι id=some (a,o)):=hG
   by_cases h1:img j
   ·rw [hι2 j h1] at hb
    obtain ⟨o1,hj⟩:=D5Z.1 hj
    obtain ⟨o2,p1,_⟩:=himgO j o1 h1 hj
    rcases hG with hG | ⟨hG,hn⟩
    ·exact k1.g.sep a b hG (inv j) b' o (by rw [p1];rfl) hb
    ·have hlt:=hos.g.lt a b hG
     rcases k1.own _ b' o (by rw [p1];rfl) hb with h | h
     ·have h:e.w.heap.size≤b':=h;intro q;omega
     ·intro q;exact hGM a b hG hn (q ▸ h)
   ·rw [hι2' j h1] at hb
    rw [hput2 j h1] at hj
    obtain ⟨q1,q2⟩:=hnM j b' o h1 hj hb
    rcases hG with hG | ⟨hG,hn⟩
    ·rcases k1.g.own a b hG with h | h
     ·have h:e.w.heap.size≤b:=h;intro q;omega
     ·intro q;exact q1 (q ▸ h)
    ·exact hos.g.sep a b hG j b' o hj hb
  ·have h1:e1.G a b∨(e.G a b∧¬ ∃ id∈L,∃ o,e.ι id=some (a,o)):=h1
   have h2:e1.G a' b∨(e.G a' b∧¬ ∃ id∈L,∃ o,e.ι id=some (a',o)):=h2
   have cross:∀ a a',e1.G a b→e.G a' b→(¬ ∃ id∈L,∃ o,e.ι id=some (a',o))→False:=fun a a' g1 g2 hn=>by
    have hlt:=hos.g.lt a' b g2
    rcases k1.g.own a b g1 with h | h
    ·have h:e.w.heap.size≤b:=h;omega
    ·exact hGM a' b g2 hn h
   rcases h1 with h1 | ⟨h1,n1⟩<;>rcases h2 with h2 | ⟨h2,n2⟩
   ·exact k1.g.uniq _ _ _ h1 h2
   ·exact (cross a a' h1 h2 n2).elim
   ·exact (cross a' a h2 h1 n1).elim
   ·exact hos.g.uniq _ _ _ h1 h2
  ·have hG:e1.G a b∨(e.G a b∧¬ ∃ id∈L,∃ o,e.ι id=some (a,o)):=hG
   rcases hG with hG | ⟨hG,_⟩
   ·rcases k1.g.own a b hG with h | h
    ·have h:e.w.heap.size≤b:=h
     have:=hos.size;exact .inl (by omega)
    ·exact hM b h
   ·exact hos.g.own a b hG
  ·have hG:e1.G a b∨(e.G a b∧¬ ∃ id∈L,∃ o,e.ι id=some (a,o)):=hG
   rcases hG with hG | ⟨hG,_⟩
   ·exact k1.g.lt a b hG
   ·have:=hos.g.lt a b hG
    have:=k2.grow
    have:e.w.heap.size≤e1.w.heap.size:=this
    show b < e1.w.heap.size;omega
 ·have A3:if img id then e1.U (inv id) else e.U id:=A3
  by_cases h1:img id
  ·rcases h1 with h | h
   ·exact .inl (hU id h)
   ·exact .inr h
  ·rw [if_neg h1] at A3;exact .inl A3
 ·exact k4.ren ren1 (fun id A3=>k4.usedR id A3)
variable {P:Program} {T:TT} {c:J8} {e eb:B4} {of of':Nat→Option Ob}
def C4w (of:Nat→Option Ob):Nat→List (Nat×Ob)
 | 0=>[]
 | n+1=>match of n with
  | some o=>(n,o)::C4w of n
  | none=>C4w of n
def dnL:Nat→List Nat
 | 0=>[]
 | n+1=>n::dnL n
def B5v (of:Nat→Option Ob) (n:Nat):Tr:=A1p .e (C4w of n)
theorem C8M {n id:Nat} (h:id < n):id∈dnL n:=by
 induction n with
 | zero=>cases h
 | succ n ih =>
  simp only [dnL,List.mem_cons]
  by_cases A3:id=n
  ·exact .inl A3
  ·exact .inr (ih (by omega))
theorem C4x {n:Nat}:(∀ id,id < n→of' id=of id)→put of' (C4w of n)=of':=by
 induction n with
 | zero=>intro _;rfl
 | succ n ih =>
  intro h
  have e:=ih (fun id A3=>h id (by omega))
  simp only [C4w]
  cases ho:of n with
  | none=>exact e
  | some o =>
   simp only [put]
   have:F8 of' n (some o)=of':=by
    funext k
    by_cases hk:k=n
    ·subst hk;rw [upd_same,h k (by omega),ho]
    ·rw [upd_ne _ _ hk]
   rw [this];exact e
theorem B9e {n:Nat} (h:∀ id,id < n→of' id=of id):C1 (B5v of n) of'=of':=by
 unfold B5v
 rw [A0Y]
 have:C1 Tr.e of'=of':=by funext id;unfold C1;rw [Tr.get_e]
 rw [this];exact C4x h
def runP (P:Program) (T:TT) (K:KS) (Lo:Nat→A3B) (fu f:Nat):Sym:=fun args of nx =>
 match P.funcs[f]? with
 | some fn=>match fn.body with
  | some code=>if !(fn.name == "runtime.NumGoroutine")&&Nat.ble args.length fn.ntmps then
    (match N4 T K (Lo nx) fu fn.ntmps of code ⟨A3C 0 args,B5v of nx,dnL nx,nx,some []⟩ with
    | some (ex,σ)=>if B9t ex then
      (match σ.mks with
      | some ms=>if B1Z nx σ.nx σ.ob.get ms then
       (match A5u T (F1 σ.sl) (C1 σ.ob of) fn.results.toList with
       | some (v,ro)=>some (A5Y ms (A4J nx v σ ro))
       | none=>none) else none
      | none=>none) else none
    | none=>none) else none
  | none=>none
 | none=>none
theorem C8N (hm:P.follows .mixedOrders=true) (hT:L8 T P) {K:KS} (hK:X9 P T K) {Lo:Nat→A3B} {fu f:Nat} (hL:∀ n0 fn code,P.funcs[f]? = some fn→fn.body=some code→L7 P T fn.ntmps n0 (Lo n0) code):J2 P T f (runP P T K Lo fu f):=by
 intro c e of of' args vals nx out hos hr hro hu hvals
 unfold runP at hr
 split at hr<;>try (cases hr;done)
 rename_i fn hf
 split at hr<;>try (cases hr;done)
 rename_i code hb
 split at hr<;>try (cases hr;done)
 rename_i hcc
 simp only [D5V,Bool.not_eq_true'] at hcc
 obtain ⟨hn,hargs⟩:=hcc
 have hargs:=D50 hargs
 split at hr<;>try (cases hr;done)
 rename_i ex σ hx
 split at hr<;>try (cases hr;done)
 rename_i hend
 split at hr<;>try (cases hr;done)
 rename_i ms hmk
 split at hr<;>try (cases hr;done)
 rename_i hmb
 obtain ⟨hms,hnd⟩:=B0k _ hmb
 split at hr<;>try (cases hr;done)
 rename_i v ro hres
 injection hr with hr
 obtain ⟨q1,q2,q3,q4⟩:=A8e ms (A4J nx v σ ro)
 obtain ⟨o1,o2,o3,o4⟩:=A3p nx v σ ro
 rw [hr] at q1 q2 q3 q4
 have o1:=q1.trans o1
 have o2:=q2.trans o2
 have o3:=q3.trans o3
 have hcall:(callFunc f vals).run P e.w=.ok (.enter f vals) e.w:=by
  have hn':¬ fn.name="runtime.NumGoroutine":=by simpa using hn
  simp [callFunc,hf,hn',hb]
 refine .inr (.inr (.inl ⟨f,vals,e.w,hcall,?_⟩))
 refine (callsIn_wide (n:=0)).1 (callsIn_of_wp_marks (F:=WF none) hf hb trivial ?_ rfl)
 have hlen:=hvals.get.1
 rw [D51] at hlen
 obtain ⟨l1,k1⟩:=A0T (of:=of) (n0:=nx) hm hT hK code (hL nx fn code hf hb) _ _ _ hx
 have hsim:Sim T { c with rd:=none } e of' nx fn.ntmps ⟨A3C 0 args,B5v of nx,dnL nx,nx,some []⟩ { tmps:=vals++Array.replicate (fn.ntmps - vals.size) undef,defers:=[] } e.w:=by
  refine ⟨e,rfl,?_,B4.le.refl e,fun id A3=>.inl A3,fun t=>?_,⟨rfl,.nil⟩,by simp;omega⟩
  ·have:C1 (B5v of nx) of'=of':=B9e fun id A3=>hro id (by rw [o2];exact T8 _ _ _ _ (l1.1 _ (C8M A3)))
   rw [this];exact hos.ctx none
  ·show C2 T e (F1 (A3C 0 args) t) _
   rw [B0j,if_neg (by omega),Nat.sub_zero]
   by_cases ht:t < args.length
   ·have h1:args[t]? = some args[t]:=D57 ht
    have h2:vals.toList[t]? = some vals[t]:=by rw [Array.getElem?_toList];exact Array.getElem?_eq_getElem (by omega)
    have:=hvals.get.2 t _ _ h1 h2
    have e1:args.getD t .x=args[t]:=by simp [List.getD,h1]
    have e2:(vals++Array.replicate (fn.ntmps - vals.size) undef).getD t undef=vals[t]:=by
     have:t < vals.size:=by omega
     simp [Array.getD,Array.getElem_append_left this]
     omega
    rw [e1]
    show C2 T e _ ((vals++Array.replicate (fn.ntmps - vals.size) undef).getD t undef)
    rw [e2];exact this
   ·rw [show args.getD t .x=.x by simp [List.getD,List.getElem?_eq_none (by omega:args.length≤t)]]
    trivial
 have hfit:A2U of of' e nx σ:=⟨fun id A3=>hro id (by rw [o2];exact T8 _ _ _ _ A3),fun id h1 h2=>hu id h1 (by rw [o3];exact h2)⟩
 refine T4 ?_ (k1 0 of' { c with rd:=none } e _ _ (Nat.le_refl _) hfit hos.ok hsim)
 rintro ex' a w ⟨rfl,e',rfl,hst⟩
 have hmarks:=hst.def_
 rw [hmk] at hmarks
 have hms':∀ id∈ms,C1 σ.ob of' id=some (.lp none):=fun id A3=>A3o (hms id A3).1
 have fin:LeavesInM (WF none) 0 P fn a.tmps (fun en w'=>∃ x,en=.returned x∧V2 T c e of' nx out x w') a.defers .returning e'.w:=by
  refine A4K ms a.defers e' (C1 σ.ob of') hmarks.2 hms' hnd hst.os (fun e2 hle hu2 hos2=>?_)
  have hst2:Y8 T { c with rd:=none } e (F1 σ.sl) (A0J ms (C1 σ.ob of')) (fun id=>e.U id∨(nx≤id∧id < σ.nx)) fn.ntmps σ.mks a e2 :=
   ⟨hos2,hst.le.trans hle,fun id A3=>hst.U id (hu2 id A3),fun t=>(hst.sl t).mono hle,hst.def_.mono hle,hst.nt⟩
  have hres2:A5u T (F1 σ.sl) (A0J ms (C1 σ.ob of)) fn.results.toList=some (v,ro):=by
   refine A8f (fun id t b sh A3=>?_) hres
   unfold A0J
   have:mem id ms=false:=by
    rw [← Bool.not_eq_true];intro q
    rw [A3o (of:=of) (hms id (mem_iff.1 q)).1] at A3;cases A3
   rw [this];exact A3
  have hagree:=A0d (ob:=σ.ob) (rd:=out.ro) (ro:=ro) (l:=σ.rd) (of:=of) (of':=of') (fun id A3=>hro id A3) (by rw [o2];exact fun _ h=>h)
  obtain ⟨x,g1,g2⟩:=B7z hT fn hst2 hres2 (fun id A3=>by
   unfold A0J
   rw [hagree id A3])
  refine ⟨x,g1,x,rfl,e2,rfl,?_,hst2.le,fun id A3=>by rw [o3];exact hst2.U id A3,by rw [o1];exact g2⟩
  refine (hos2.unctx).sub (fun id o ho=>?_)
  rcases q4 of' id o ho with ⟨h1,h2⟩ | ⟨h1,h2⟩
  ·obtain ⟨_,h3,h4⟩:=hms id h1
   exact absurd (hos.ok _ _ h2).use (hfit.fr id h3 h4)
  ·have:=A8d (of':=of') hos.ok hfit.fr id o h2
   unfold A0J
   have hm':mem id ms=false:=by
    rw [← Bool.not_eq_true];intro q;exact h1 (mem_iff.1 q)
   rw [hm'];exact this
 cases ex' with
 | ret=>exact fin
 | normal=>exact fin
 | _=>cases hend
variable {R:Type}
def P3 (P:Program) (T:TT) (K:KC) (Lo:Nat→LC) (fl:Bool) (fu f:Nat):D7:=fun R args of nx k =>
 match P.funcs[f]? with
 | some fn=>match fn.body with
  | some code=>bif !(fn.name == "runtime.NumGoroutine")&&Nat.ble args.length fn.ntmps then
    P4 T K (Lo nx) fl fu fn.ntmps of R code ⟨A3C 0 args,B5v of nx,dnL nx,nx,some []⟩ fun ex σ=>bif B9t ex then
     (match σ.mks with
     | some ms=>bif B1Z nx σ.nx σ.ob.get ms then
      (match A5u T (F1 σ.sl) (C1 σ.ob of) fn.results.toList with
      | some p=>k (A5Y ms (A4J nx p.1 σ p.2))
      | none=>none) else none
     | none=>none) else none
    else none
  | none=>none
 | none=>none
theorem A76 {P:Program} {K:KC} (hK:K.nat) {Lo:Nat→LC} (hL:∀ n0,A2c (Lo n0)) {fl:Bool} {fu f:Nat} (R:Type) (args:List A) (of:Nat→Option Ob) (nx:Nat) (k:H9→Option R) :
  P3 P T K Lo fl fu f R args of nx k=ob (runP P T K.dir (fun n0=>U5 (Lo n0)) fu f args of nx) k:=by
 unfold P3 runP
 cases hf:P.funcs[f]? with
 | none=>rfl
 | some fn =>
  simp only
  cases hb:fn.body with
  | none=>rfl
  | some code =>
   simp only [P6]
   cases (!(fn.name == "runtime.NumGoroutine")&&Nat.ble args.length fn.ntmps)
   ·rfl
   ·simp only [cond_true]
    rw [A1l hK (hL nx) of R code]
    cases N4 T K.dir (U5 (Lo nx)) fu fn.ntmps of code ⟨A3C 0 args,B5v of nx,dnL nx,nx,some []⟩ with
    | none=>rfl
    | some p =>
     obtain ⟨ex,σ⟩:=p
     simp only [ob2,P6]
     cases B9t ex
     ·rfl
     ·simp only [cond_true]
      cases σ.mks with
      | none=>rfl
      | some ms =>
       simp only [P6]
       cases B1Z nx σ.nx σ.ob.get ms
       ·rfl
       ·simp only [cond_true]
        cases A5u T (F1 σ.sl) (C1 σ.ob of) fn.results.toList<;>rfl
theorem U3 {P:Program} {K:KC} (hK:K.nat) {Lo:Nat→LC} (hL:∀ n0,A2c (Lo n0)) {fl:Bool} {fu f:Nat}:(P3 P T K Lo fl fu f).nat:=by
 intro R args of nx k
 rw [A76 hK hL]
 have:(P3 P T K Lo fl fu f).dir args of nx=runP P T K.dir (fun n0=>U5 (Lo n0)) fu f args of nx:=by
  show P3 P T K Lo fl fu f H9 args of nx some=_
  rw [A76 hK hL]
  cases runP P T K.dir (fun n0=>U5 (Lo n0)) fu f args of nx<;>rfl
 rw [this]
theorem H3 {P:Program} (hm:P.follows .mixedOrders=true) (hT:L8 T P) {K:KC} (hK:K.nat) (hS:X9 P T K.dir) {Lo:Nat→LC} (hL:∀ n0,A2c (Lo n0)) {fl:Bool} {fu f:Nat} (hO:∀ n0 fn code,P.funcs[f]? = some fn→fn.body=some code→L7 P T fn.ntmps n0 (U5 (Lo n0)) code):J2 P T f (P3 P T K Lo fl fu f).dir:=by
 have:(P3 P T K Lo fl fu f).dir=runP P T K.dir (fun n0=>U5 (Lo n0)) fu f:=by
  funext args of nx
  show P3 P T K Lo fl fu f H9 args of nx some=_
  rw [A76 hK hL]
  cases runP P T K.dir (fun n0=>U5 (Lo n0)) fu f args of nx<;>rfl
 rw [this]
 exact C8N hm hT hS hO
theorem D5.runP (hm:P.follows .mixedOrders=true) (hT:L8 T P) {tab:List (Nat×D7)} (h:D5 P T tab) {f d fu:Nat} {Lo:Nat→LC} (hL:H1 P T f Lo):D5 P T ((f,trS (P3 P T (F3 P T tab false fu d) Lo false fu f))::tab) :=
 h.cons (L6 (U3 (B2 h d) hL.nat)) (P2 (U3 (B2 h d) hL.nat) (H3 hm hT (B2 h d) (B9 hm hT h d) hL.nat hL.ok).at_)
variable {R:Type}
def bd3 (lo hi:Int) (n:Nat) (k:Option R):Option R:=bif F2 0 lo&&F2 lo hi&&F2 hi n then k else none
theorem B1U {lo hi:Int} {n:Nat} {k:Option R} (h1:0≤lo) (h2:lo≤hi) (h3:hi≤n):bd3 lo hi n k=k:=by
 unfold bd3
 rw [D3.2 h1,D3.2 h2,D3.2 h3];rfl
def mxO (s:V) (xs:List V) (K:V→Nat→Nat→Option R):Option R :=
 bd3 (0:Nat) 64 xs.length <| bif Nat.ble (0+0+64) xs.length then (bif Nat.ble 64 ((xs.drop (0+0)).take 64).length then bd3 64 (xs.length:Nat) xs.length <| K (B14 s (.l ((xs.drop (0+0)).take 64))) (0+64) (((xs.length:Nat):Int) - 64).toNat else none) else none
def mxW (s:V) (xs:List V) (off q:Nat) (K:V→Nat→Nat→Option R):Option R :=
 bd3 (0:Nat) 64 q <| bif Nat.ble (off+0+64) xs.length then (bif Nat.ble 64 ((xs.drop (off+0)).take 64).length then bd3 64 (q:Nat) q <| K (B14 s (.l ((xs.drop (off+0)).take 64))) (off+64) (((q:Nat):Int) - 64).toNat else none) else none
inductive PHi where
 | b (s:V) (m:Int) (l xs:List V) (n i:Int) (nl sh:Bool)
 | c (s:V) (m:Int) (l xs:List V) (n i:Int) (off q:Nat) (sh:Bool)
inductive QHi where
 | b (s:V) (m:Int) (l xs:List V) (n i:Int) (nl sh:Bool)
 | c (s:V) (m:Int) (l xs:List V) (n i:Int) (off q:Nat) (sh:Bool)
def BHi (R:Type) (p:PHi) (K:PHi→Option R) (kx:QHi→Option R):Option R :=
 match p with
 | .b s m l xs n i nl sh=>match nl with
  | false=>ln xs.length <| bif F2 64 (xs.length:Nat) then mxO s xs (fun s' o q=>K (.c s' m l xs n i o q sh)) else kx (.b s m l xs n i false sh)
  | true=>ln xs.length <| bif F2 64 (xs.length:Nat) then none else kx (.b s m l xs n i true sh)
 | .c s m l xs n i off q sh=>bif Nat.ble (off+q) xs.length then (ln ((xs.drop off).take q).length <| bif F2 64 (((xs.drop off).take q).length:Nat) then mxW s xs off q (fun s' o q'=>K (.c s' m l xs n i o q' sh)) else kx (.c s m l xs n i off q sh)) else none
def elL (l:List V) (i:Int):List V:=(V.nth (.l l) i.toNat).els
def ckL (i:Int) (n:Nat) (k:Option R):Option R:=bif F2 0 i&&D4 i (n:Nat) then k else none
inductive PHo where
 | a (s:V) (m:Int) (l:List V) (n i:Int)
 | b (s:V) (m:Int) (l xs:List V) (n i:Int) (nl sh:Bool)
 | c (s:V) (m:Int) (l xs:List V) (n i:Int) (off q:Nat) (sh:Bool)
inductive QHo where
 | a (s:V) (m:Int) (l:List V) (n i:Int)
 | b (s:V) (m:Int) (l xs:List V) (n i:Int) (nl sh:Bool)
 | c (s:V) (m:Int) (l xs:List V) (n i:Int) (off q:Nat) (sh:Bool)
def hiK (K:PHo→Option R):QHi→Option R
 | .b s m l xs n i nl sh=>K (.b s m l xs n (B3 (i+1)) nl sh)
 | .c s m l xs n i off q sh=>K (.c s m l xs n (B3 (i+1)) off q sh)
def BHo (R:Type) (p:PHo) (K:PHo→Option R) (kx:QHo→Option R):Option R :=
 match p with
 | .a s m l n i=>bif D4 i n then ckL i l.length <| ln (elL l i).length <| Z9 (elL l i).length <| C8 (BHi R) (A3 FU) (.b s (WU (m+WU ((elL l i).length:Nat))) l (elL l i) n i (elL l i).isEmpty false) (hiK K) else kx (.a s m l n i)
 | .b s m l xs n i nl sh=>bif D4 i n then ckL i l.length <| ln (elL l i).length <| Z9 (xs.length+(elL l i).length) <| C8 (BHi R) (A3 FU) (.b s (WU (m+WU ((elL l i).length:Nat))) l (xs++elL l i) n i (nl&&(elL l i).isEmpty) sh) (hiK K) else kx (.b s m l xs n i nl sh)
 | .c s m l xs n i off q sh=>bif D4 i n then ckL i l.length <| ln (elL l i).length <| bif Nat.ble (off+q) xs.length then (bif Nat.beq (off+q) xs.length||!sh then Z9 (q+(elL l i).length) <| C8 (BHi R) (A3 FU) (.b s (WU (m+WU ((elL l i).length:Nat))) l ((xs.drop off).take q++elL l i) n i false sh) (hiK K) else none) else none else kx (.c s m l xs n i off q sh)
inductive PHp where
 | b (s:V) (m:Int) (rs:List V) (nl sh:Bool) (z:V) (xs:List V)
 | c (s:V) (m:Int) (rs:List V) (off q:Nat) (sh:Bool) (z:V) (xs:List V)
inductive QHp where
 | b (s:V) (m:Int) (rs:List V) (nl sh:Bool) (z:V) (xs:List V)
 | c (s:V) (m:Int) (rs:List V) (off q:Nat) (sh:Bool) (z:V) (xs:List V)
def hpB (xs:List V) (K:List V→Option R) (kx:Option R):Option R :=
 ln xs.length <| bif !(Y6 ((xs.length:Int).tmod 64) 56) then Z9 (xs.length+1) <| K (xs++[.i 0]) else kx
def BHp (R:Type) (p:PHp) (K:PHp→Option R) (kx:QHp→Option R):Option R :=
 match p with
 | .b s m rs nl sh z xs=>hpB xs (fun ys=>K (.b s m rs nl sh z ys)) (kx (.b s m rs nl sh z xs))
 | .c s m rs off q sh z xs=>hpB xs (fun ys=>K (.c s m rs off q sh z ys)) (kx (.c s m rs off q sh z xs))
inductive PHm where
 | b0 (s:V) (m:Int) (rs:List V) (nl sh:Bool) (z st:V) (xs:List V)
 | b1 (s:V) (m:Int) (rs:List V) (nl sh:Bool) (z st:V) (xs:List V) (o2 q2:Nat)
 | c0 (s:V) (m:Int) (rs:List V) (off q:Nat) (sh:Bool) (z st:V) (xs:List V)
 | c1 (s:V) (m:Int) (rs:List V) (off q:Nat) (sh:Bool) (z st:V) (xs:List V) (o2 q2:Nat)
inductive QHm where
 | b0 (s:V) (m:Int) (rs:List V) (nl sh:Bool) (z st:V) (xs:List V)
 | b1 (s:V) (m:Int) (rs:List V) (nl sh:Bool) (z st:V) (xs:List V) (o2 q2:Nat)
 | c0 (s:V) (m:Int) (rs:List V) (off q:Nat) (sh:Bool) (z st:V) (xs:List V)
 | c1 (s:V) (m:Int) (rs:List V) (off q:Nat) (sh:Bool) (z st:V) (xs:List V) (o2 q2:Nat)
def hm0 (st:V) (xs:List V) (K:V→Nat→Nat→Option R) (kx:Option R):Option R:=ln xs.length <| bif D4 0 (xs.length:Nat) then mxO st xs K else kx
def hm1 (st:V) (xs:List V) (o2 q2:Nat) (K:V→Nat→Nat→Option R) (kx:Option R):Option R :=
 bif Nat.ble (o2+q2) xs.length then (ln ((xs.drop o2).take q2).length <| bif D4 0 (((xs.drop o2).take q2).length:Nat) then mxW st xs o2 q2 K else kx) else none
def BHm (R:Type) (p:PHm) (K:PHm→Option R) (kx:QHm→Option R):Option R :=
 match p with
 | .b0 s m rs nl sh z st xs=>hm0 st xs (fun t o q=>K (.b1 s m rs nl sh z t xs o q)) (kx (.b0 s m rs nl sh z st xs))
 | .b1 s m rs nl sh z st xs o2 q2=>hm1 st xs o2 q2 (fun t o q=>K (.b1 s m rs nl sh z t xs o q)) (kx (.b1 s m rs nl sh z st xs o2 q2))
 | .c0 s m rs off q sh z st xs=>hm0 st xs (fun t o q'=>K (.c1 s m rs off q sh z t xs o q')) (kx (.c0 s m rs off q sh z st xs))
 | .c1 s m rs off q sh z st xs o2 q2=>hm1 st xs o2 q2 (fun t o q'=>K (.c1 s m rs off q sh z t xs o q')) (kx (.c1 s m rs off q sh z st xs o2 q2))
def hbV (n:Int) (j:Nat):V:=.i (IntKind.wrap .u8 (n.fdiv (2 ^ (8 * j))))
def B3q (n:Int):Nat→List V→(List V→Option R)→Option R
 | 0,xs,k=>k xs
 | j+1,xs,k=>Z9 (xs.length+1) <| B3q n j (xs++[hbV n j]) k
def hs4 (j:Nat) (n:Int) (h:V):V:=(((h.put (4 * j) (hbV n 3)).put (4 * j+1) (hbV n 2)).put (4 * j+2) (hbV n 1)).put (4 * j+3) (.i (IntKind.wrap .u8 n))
def hs8 (v:V):Nat→Nat→V→V
 | 0,_,h=>h
 | m+1,j,h=>hs8 v m (j+1) (hs4 j (elV v j) h)
def hmK (k:V→Option R):QHm→Option R
 | .b0 _ _ _ _ _ _ st _=>k (hs8 st 8 0 z32)
 | .b1 _ _ _ _ _ _ st _ _ _=>k (hs8 st 8 0 z32)
 | .c0 _ _ _ _ _ _ _ st _=>k (hs8 st 8 0 z32)
 | .c1 _ _ _ _ _ _ _ st _ _ _=>k (hs8 st 8 0 z32)
def hpK (k:V→Option R):QHp→Option R
 | .b s m rs nl sh z xs=>B3q (WU (8 * m)) 8 xs fun ys=>C8 (BHm R) (A3 FU) (.b0 s m rs nl sh z s ys) (hmK k)
 | .c s m rs off q sh z xs=>B3q (WU (8 * m)) 8 xs fun ys=>C8 (BHm R) (A3 FU) (.c0 s m rs off q sh z s ys) (hmK k)
def hoK (k:V→Option R):QHo→Option R
 | .a s m _ _ _=>k (hs8 (B14 s (.l (.i 128::(List.replicate 55 (.i 0)++[hbV (WU (8 * m)) 7,hbV (WU (8 * m)) 6,hbV (WU (8 * m)) 5,hbV (WU (8 * m)) 4,hbV (WU (8 * m)) 3,hbV (WU (8 * m)) 2,hbV (WU (8 * m)) 1,hbV (WU (8 * m)) 0])))) 8 0 z32)
 | .b s m _ xs _ _ nl sh=>Z9 (0+xs.length) <| Z9 (xs.length+1) <| C8 (BHp R) (A3 FU) (.b s m xs nl sh z32 (xs++[.i 128])) (hpK k)
 | .c s m _ xs _ _ off q sh=>bif Nat.ble (off+q) xs.length then (Z9 (0+((xs.drop off).take q).length) <| Z9 (((xs.drop off).take q).length+1) <| C8 (BHp R) (A3 FU) (.c s m xs off q sh z32 ((xs.drop off).take q++[.i 128])) (hpK k)) else none
def dsG (l:List V) (k:V→Option R):Option R :=
 ln l.length <| C8 (BHo R) (A3 FU) (.a s0V 0 l (l.length:Nat) 0) (hoK k)
variable {R:Type}
theorem D4m (S:S8):s8 (R6 S)=S:=by cases S;rfl
theorem A77 (S:S8) (X:List Nat):B14 (R6 S) (.l (X.map nv))=R6 (A29 S X):=by
 unfold B14
 rw [D4m,Y3 (x:=.l (X.map nv)) rfl]
theorem Y1 {d:Nat} {S:S8} {L:List Nat} (h:L≠[]):L0 (d+1) S L=L0 d (A29 S (L.take 64)) (L.drop 64):=by
 cases L with
 | nil=>exact absurd rfl h
 | cons a r=>rfl
theorem A5p:∀ (a b:Nat) (S:S8) (X Y:List Nat),X.length=64 * a→L0 (a+b) S (X++Y)=L0 b (L0 a S X) Y:=by
 intro a
 induction a with
 | zero =>
  intro b S X Y h
  have:X=[]:=List.length_eq_zero_iff.1 (by omega)
  subst this
  rw [Nat.zero_add];rfl
 | succ a ih =>
  intro b S X Y h
  have hne:X≠[]:=by intro q;subst q;simp at h
  have hne2:X++Y≠[]:=by intro q;exact hne (List.append_eq_nil_iff.1 q).1
  rw [show a+1+b=(a+b)+1 by omega,Y1 hne2,Y1 hne,List.take_append_of_le_length (by omega),List.drop_append_of_le_length (by omega)]
  exact ih b _ _ _ (by rw [List.length_drop];omega)
theorem B5w:∀ (a:Nat) (S:S8) (X Y:List Nat),X.length=64 * a→L0 a S (X++Y)=L0 a S X:=by
 intro a S X Y h
 have:=A5p a 0 S X Y h
 rw [Nat.add_zero] at this
 rw [this];rfl
theorem C4y {X Y:List Nat} {a:Nat} (b:Nat) (h:X.length=a):(X++Y).drop (a+b)=Y.drop b:=by
 subst h
 rw [List.drop_append,List.drop_eq_nil_of_le (by omega)];simp
theorem C4z {X Y:List Nat} {a:Nat} (b:Nat) (h:X.length=a):(X++Y).take (a+b)=X++Y.take b:=by
 subst h
 rw [List.take_append,List.take_of_length_le (by omega)];simp
structure A5q (C:List Nat) (S:S8) (B:List Nat):Prop where
 s:S=L0 (C.length / 64) s0N (C.take (64 * (C.length / 64)))
 r:B=C.drop (64 * (C.length / 64))
theorem A5q.len {C B:List Nat} {S:S8} (h:A5q C S B):B.length=C.length % 64:=by
 rw [h.r,List.length_drop];omega
theorem C4A:A5q [] s0N []:=⟨rfl,rfl⟩
theorem A5q.add {C B D:List Nat} {S:S8} (h:A5q C S B):A5q (C++D) (L0 ((B++D).length / 64) S (B++D)) ((B++D).drop (64 * ((B++D).length / 64))):=by
 have hl:=h.len
 have hC:C.take (64 * (C.length / 64))++B=C:=by rw [h.r,List.take_append_drop]
 have hX:(C.take (64 * (C.length / 64))).length=64 * (C.length / 64):=by rw [List.length_take];omega
 have hn:(C++D).length / 64=C.length / 64+(B++D).length / 64:=by
  rw [D5W,D5W,hl];omega
 have hCD:C++D=C.take (64 * (C.length / 64))++(B++D):=by rw [← List.append_assoc,hC]
 have hq:(B++D).take (64 * ((B++D).length / 64))++(B++D).drop (64 * ((B++D).length / 64))=B++D:=List.take_append_drop _ _
 have hql:((B++D).take (64 * ((B++D).length / 64))).length=64 * ((B++D).length / 64):=by rw [List.length_take];omega
 refine ⟨?_,?_⟩
 ·have e1:(C++D).take (64 * ((C++D).length / 64))=C.take (64 * (C.length / 64))++(B++D).take (64 * ((B++D).length / 64)):=by
   rw [hn,Nat.mul_add]
   conv=>lhs;rw [hCD]
   exact C4z _ hX
  rw [e1,hn,A5p _ _ _ _ _ hX,← h.s]
  have:=B5w _ S _ ((B++D).drop (64 * ((B++D).length / 64))) hql
  rw [hq] at this
  exact this
 ·rw [hn,Nat.mul_add]
  conv=>rhs;rw [hCD]
  exact (C4y _ hX).symm
theorem B5x {C B:List Nat} {S:S8} (h:A5q C S B):L0 ((B++M4 C.length).length / 64) S (B++M4 C.length)=L0 (C.length / 64+2) s0N (C++M4 C.length):=by
 have hl:=h.len
 have hC:C.take (64 * (C.length / 64))++B=C:=by rw [h.r,List.take_append_drop]
 have hX:(C.take (64 * (C.length / 64))).length=64 * (C.length / 64):=by rw [List.length_take];omega
 have hp:=A15 C.length
 have e:(B++M4 C.length).length / 64≤2:=by rw [D5W];omega
 have e1:(B++M4 C.length).length % 64=0:=by rw [D5W];omega
 have hCD:C++M4 C.length=C.take (64 * (C.length / 64))++(B++M4 C.length):=by rw [← List.append_assoc,hC]
 rw [hCD,A5p _ _ _ _ _ hX,← h.s]
 have:=A5S ((B++M4 C.length).length / 64) (2 - (B++M4 C.length).length / 64) S (B++M4 C.length) (by omega)
 rw [← this]
 congr 1;omega
theorem B7s {S:S8} {B:List Nat} {j:Nat} (h:64 * (j+1)≤B.length) (K:V→Nat→Nat→Option R) :
  mxW (R6 S) (B.map nv) (64 * j) (B.length - 64 * j) K=K (R6 (A29 S ((B.drop (64 * j)).take 64))) (64 * (j+1)) (B.length - 64 * (j+1)):=by
 have e:(((B.map nv).drop (64 * j+0)).take 64)=(((B.drop (64 * j)).take 64).map nv):=by rw [Nat.add_zero,List.map_take,List.map_drop]
 have hl:((((B.drop (64 * j)).take 64)).map nv).length=64:=by simp;omega
 unfold mxW
 rw [B1U (by omega) (by omega) (by omega),e,hl,show Nat.ble (64 * j+0+64) (B.map nv).length=true from D54 (by rw [D5Y];omega),show Nat.ble 64 64=true from rfl,cond_true,cond_true,B1U (by omega) (by omega) (by omega),A77]
 congr 1;omega
theorem B7t {S:S8} {B:List Nat} (h:64≤B.length) (K:V→Nat→Nat→Option R) :
  mxO (R6 S) (B.map nv) K=K (R6 (A29 S (B.take 64))) (64 * 1) (B.length - 64 * 1):=by
 have e:(((B.map nv).drop (0+0)).take 64)=((B.take 64).map nv):=by rw [List.drop_zero,List.map_take]
 have hl:((B.take 64).map nv).length=64:=by simp;omega
 unfold mxO
 rw [e,hl,D5Y,B1U (by omega) (by omega) (by omega),show Nat.ble (0+0+64) B.length=true from D54 (by omega),show Nat.ble 64 64=true from rfl,cond_true,cond_true,B1U (by omega) (by omega) (by omega),A77]
 congr 1;omega
theorem D41 {B:List Nat} (hB:B.length≤2000000000) {m n i:Int} {l:List V} {sh:Bool} (k:QHi→Option R):∀ (d j fuel:Nat) (S:S8),d=(B.length - 64 * j) / 64→64 * j≤B.length→d < fuel →
  C8 (BHi R) fuel (.c (R6 S) m l (B.map nv) n i (64 * j) (B.length - 64 * j) sh) k=k (.c (R6 (L0 d S (B.drop (64 * j)))) m l (B.map nv) n i (64 * (j+d)) (B.length - 64 * (j+d)) sh):=by
 intro d
 induction d with
 | zero =>
  intro j fuel S hd hj hf
  obtain ⟨f,rfl⟩:∃ f,fuel=f+1:=⟨fuel - 1,by omega⟩
  show (bif Nat.ble (64 * j+(B.length - 64 * j)) (B.map nv).length then (ln (((B.map nv).drop (64 * j)).take (B.length - 64 * j)).length <| bif F2 64 ((((B.map nv).drop (64 * j)).take (B.length - 64 * j)).length:Nat) then _ else _) else none)=_
  have hl:(((B.map nv).drop (64 * j)).take (B.length - 64 * j)).length=B.length - 64 * j:=by simp
  rw [hl,show Nat.ble (64 * j+(B.length - 64 * j)) (B.map nv).length=true from D54 (by rw [D5Y];omega),cond_true,G3 (by omega)]
  have:F2 64 ((B.length - 64 * j:Nat):Int)=false:=by
   cases hq:F2 64 ((B.length - 64 * j:Nat):Int) with
   | false=>rfl
   | true=>have:=D3.1 hq;omega
  rw [this];rfl
 | succ d ih =>
  intro j fuel S hd hj hf
  obtain ⟨f,rfl⟩:∃ f,fuel=f+1:=⟨fuel - 1,by omega⟩
  show (bif Nat.ble (64 * j+(B.length - 64 * j)) (B.map nv).length then (ln (((B.map nv).drop (64 * j)).take (B.length - 64 * j)).length <| bif F2 64 ((((B.map nv).drop (64 * j)).take (B.length - 64 * j)).length:Nat) then mxW (R6 S) (B.map nv) (64 * j) (B.length - 64 * j) (fun s' o q'=>C8 (BHi R) f (.c s' m l (B.map nv) n i o q' sh) k) else _) else none)=_
  have hl:(((B.map nv).drop (64 * j)).take (B.length - 64 * j)).length=B.length - 64 * j:=by simp
  rw [hl,show Nat.ble (64 * j+(B.length - 64 * j)) (B.map nv).length=true from D54 (by rw [D5Y];omega),cond_true,G3 (by omega),D3.2 (show (64:Int)≤((B.length - 64 * j:Nat):Int) by omega),cond_true,B7s (by omega),ih (j+1) f _ (by omega) (by omega) (by omega)]
  have hne:B.drop (64 * j)≠[]:=by intro q;have:=congrArg List.length q;simp at this;omega
  rw [Y1 hne,List.drop_drop,show 64 * j+64=64 * (j+1) by omega,show j+1+d=j+(d+1) by omega]
def C4B (S:S8) (m:Int) (l:List V) (B:List Nat) (n i:Int) (nl sh:Bool):QHi :=
 if B.length < 64 then .b (R6 S) m l (B.map nv) n i nl sh else .c (R6 (L0 (B.length / 64) S B)) m l (B.map nv) n i (64 * (B.length / 64)) (B.length - 64 * (B.length / 64)) sh
theorem D42 {B:List Nat} (hB:B.length≤2000000000) {S:S8} {m n i:Int} {l:List V} {nl sh:Bool} (hn:nl=true→B=[]) (k:QHi→Option R) (fuel:Nat) (hf:B.length < fuel) :
  C8 (BHi R) fuel (.b (R6 S) m l (B.map nv) n i nl sh) k=k (C4B S m l B n i nl sh):=by
 obtain ⟨f,rfl⟩:∃ f,fuel=f+1:=⟨fuel - 1,by omega⟩
 unfold C4B
 cases nl with
 | true =>
  have:=hn rfl
  subst this
  rfl
 | false =>
  show (ln (B.map nv).length <| bif F2 64 ((B.map nv).length:Nat) then mxO (R6 S) (B.map nv) (fun s' o q=>C8 (BHi R) f (.c s' m l (B.map nv) n i o q sh) k) else _)=_
  rw [D5Y,G3 (by omega)]
  by_cases h:B.length < 64
  ·have:F2 64 ((B.length:Nat):Int)=false:=by
    cases hq:F2 64 ((B.length:Nat):Int) with
    | false=>rfl
    | true=>have:=D3.1 hq;omega
   rw [this,if_pos h];rfl
  ·rw [D3.2 (show (64:Int)≤(B.length:Nat) by omega),cond_true,B7t (by omega),if_neg h]
   obtain ⟨d,hd⟩:∃ d,B.length / 64=d+1:=⟨B.length / 64 - 1,by omega⟩
   have:=D41 hB (m:=m) (n:=n) (i:=i) (l:=l) (sh:=sh) k d 1 f (A29 S (B.take 64)) (by omega) (by omega) (by omega)
   rw [this]
   have hne:B≠[]:=by intro q;subst q;simp at h
   rw [hd,Y1 hne,show 1+d=d+1 by omega]
variable {R:Type}
def A25 (l:List V):List Nat:=l.flatMap V9
def D2N (p:PHo) (l:List V) (n i:Int) (C:List Nat):Prop :=
 (C=[]∧p=.a s0V 0 l n i) ∨
 (∃ (S:S8) (B:List Nat) (nl sh:Bool),A5q C S B∧(nl=true→B=[])∧p=.b (R6 S) (C.length:Nat) l (B.map nv) n i nl sh) ∨
 (∃ (S:S8) (B X:List Nat) (off:Nat) (sh:Bool),A5q C S B∧X.drop off=B∧off+B.length=X.length∧p=.c (R6 S) (C.length:Nat) l (X.map nv) n i off B.length sh)
def D2O (q:QHo) (C:List Nat):Prop :=
 (C=[]∧∃ l n i,q=.a s0V 0 l n i) ∨
 (∃ (S:S8) (B:List Nat) (nl sh:Bool) (l:List V) (n i:Int),A5q C S B∧q=.b (R6 S) (C.length:Nat) l (B.map nv) n i nl sh) ∨
 (∃ (S:S8) (B X:List Nat) (off:Nat) (sh:Bool) (l:List V) (n i:Int),A5q C S B∧X.drop off=B∧off+B.length=X.length∧q=.c (R6 S) (C.length:Nat) l (X.map nv) n i off B.length sh)
theorem C4C {C B D:List Nat} {S:S8} (h:A5q C S B) (hl:C.length+D.length≤1000000000) {l:List V} {n i:Int} {nl sh:Bool} (hn:nl=true→B++D=[]) (K:PHo→Option R) :
  ∃ p,D2N p l n (B3 (i+1)) (C++D)∧C8 (BHi R) (A3 FU) (.b (R6 S) (WU ((C.length:Nat)+WU ((D.map nv).length:Nat))) l ((B++D).map nv) n i nl sh) (hiK K)=K p:=by
 have hbl:=h.len
 have hBD:(B++D).length≤2000000000:=by rw [D5W];omega
 have hF:(B++D).length < A3 FU:=by rw [A27];show _ < 4611686018427387904;omega
 rw [D42 hBD hn _ _ hF,D5Y]
 have hm:WU ((C.length:Nat)+WU ((D.length:Nat):Int))=(((C++D).length:Nat):Int):=by
  rw [C4 (by omega),← Int.natCast_add,C4 (by omega),D5W]
 rw [hm]
 have ha:=h.add (D:=D)
 unfold C4B
 by_cases hc:(B++D).length < 64
 ·rw [if_pos hc]
  rw [show (B++D).length / 64=0 by omega] at ha
  exact ⟨_,.inr (.inl ⟨S,B++D,nl,sh,ha,hn,rfl⟩),rfl⟩
 ·rw [if_neg hc]
  refine ⟨_,.inr (.inr ⟨_,_,B++D,64 * ((B++D).length / 64),sh,ha,rfl,?_,rfl⟩),?_⟩
  ·rw [List.length_drop];omega
  ·rw [List.length_drop];rfl
theorem D2P {i:Int} {n:Nat} {k:Option R} (h0:0≤i) (h1:i < n):ckL i n k=k:=by
 unfold ckL
 rw [D3.2 h0,show D4 i (n:Nat)=true by simp [D4];exact h1];rfl
theorem D2Q (k:QHo→Option R):∀ (r a:List V) (C:List Nat) (p:PHo) (fuel:Nat),(∀ y∈r,∃ D:List Nat,y.els=D.map nv)→D2N p (a++r) ((a++r).length:Nat) (a.length:Nat) C →
  C.length+(A25 r).length≤1000000000→(a++r).length≤100000000→r.length < fuel→∃ q,D2O q (C++A25 r)∧C8 (BHo R) fuel p k=k q:=by
 intro r
 induction r with
 | nil =>
  intro a C p fuel _ hi hl ha hf
  obtain ⟨f,rfl⟩:∃ f,fuel=f+1:=⟨fuel - 1,by omega⟩
  rw [show A25 []=[] from rfl,List.append_nil]
  have no:D4 ((a++[]).length:Nat) (((a++[]).length:Nat):Int)=false:=by rw [A1v];exact decide_eq_false (by omega)
  have na:D4 (a.length:Nat) (((a++[]).length:Nat):Int)=false:=by rw [A1v];exact decide_eq_false (by simp)
  rcases hi with ⟨h1,rfl⟩ | ⟨S,B,nl,sh,h1,h2,rfl⟩ | ⟨S,B,X,off,sh,h1,h2,h3,rfl⟩
  ·refine ⟨.a s0V 0 (a++[]) ((a++[]).length:Nat) (a.length:Nat),.inl ⟨h1,_,_,_,rfl⟩,?_⟩
   show (bif D4 (a.length:Nat) ((a++[]).length:Nat) then _ else _)=_
   rw [na];rfl
  ·refine ⟨.b (R6 S) (C.length:Nat) (a++[]) (B.map nv) ((a++[]).length:Nat) (a.length:Nat) nl sh,.inr (.inl ⟨S,B,nl,sh,_,_,_,h1,rfl⟩),?_⟩
   show (bif D4 (a.length:Nat) ((a++[]).length:Nat) then _ else _)=_
   rw [na];rfl
  ·refine ⟨.c (R6 S) (C.length:Nat) (a++[]) (X.map nv) ((a++[]).length:Nat) (a.length:Nat) off B.length sh,.inr (.inr ⟨S,B,X,off,sh,_,_,_,h1,h2,h3,rfl⟩),?_⟩
   show (bif D4 (a.length:Nat) ((a++[]).length:Nat) then _ else _)=_
   rw [na];rfl
 | cons y r ih =>
  intro a C p fuel ht hi hl ha hf
  obtain ⟨f,rfl⟩:∃ f,fuel=f+1:=⟨fuel - 1,by omega⟩
  obtain ⟨D,hD⟩:=ht y (by simp)
  have hb:V9 y=D:=Y3 hD
  have hcat:A25 (y::r)=D++A25 r:=by
   show V9 y++A25 r=_;rw [hb]
  rw [hcat] at hl ⊢
  rw [D5W] at hl
  have yes:D4 (a.length:Nat) (((a++y::r).length:Nat):Int)=true:=by rw [A1v];exact decide_eq_true (by simp)
  have hel:elL (a++y::r) (a.length:Nat)=D.map nv:=by
   unfold elL V.nth
   show ((a++y::r).getD a.length .n).els=_
   rw [List.getD_eq_getElem?_getD,List.getElem?_append_right (Nat.le_refl _),Nat.sub_self];exact hD
  have hck:∀ k':Option R,ckL (a.length:Nat) (a++y::r).length k'=k':=fun k'=>D2P (by omega) (by simp;omega)
  have happ:a++y::r=(a++[y])++r:=by simp
  have fin:∀ (pn:PHo),D2N pn (a++y::r) ((a++y::r).length:Nat) (B3 ((a.length:Nat)+1)) (C++D)→∃ q,D2O q (C++(D++A25 r))∧C8 (BHo R) f pn k=k q:=fun pn hp=>by
   rw [A0h (by simp at ha;omega)] at hp
   have:=ih (a++[y]) (C++D) pn f (fun z hz=>ht z (by simp [hz])) (by rw [← happ];simpa using hp) (by rw [D5W];omega) (by rw [← happ];exact ha) (by simp at hf;omega)
   rw [List.append_assoc] at this
   exact this
  rcases hi with ⟨h1,rfl⟩ | ⟨S,B,nl,sh,h1,h2,rfl⟩ | ⟨S,B,X,off,sh,h1,h2,h3,rfl⟩
  ·subst h1
   obtain ⟨pn,g1,g2⟩:=C4C (R:=R) C4A (D:=D) (by omega) (l:=a++y::r) (n:=((a++y::r).length:Nat)) (i:=(a.length:Nat)) (nl:=(D.map nv).isEmpty) (sh:=false) (fun h=>by
    cases D with
    | nil=>rfl
    | cons _ _=>cases h) (fun x'=>C8 (BHo R) f x' k)
   obtain ⟨q,q1,q2⟩:=fin pn g1
   refine ⟨q,q1,?_⟩
   show (bif D4 (a.length:Nat) ((a++y::r).length:Nat) then ckL (a.length:Nat) (a++y::r).length _ else _)=_
   rw [yes,cond_true,hck,hel,D5Y,G3 (by omega),E3 (by omega),← q2,← g2,D5Y];rfl
  ·have hbl:=h1.len
   obtain ⟨pn,g1,g2⟩:=C4C (R:=R) h1 (D:=D) (by omega) (l:=a++y::r) (n:=((a++y::r).length:Nat)) (i:=(a.length:Nat)) (nl:=nl&&(D.map nv).isEmpty) (sh:=sh) (fun h=>by
    rw [D5V] at h
    rw [h2 h.1]
    cases D with
    | nil=>rfl
    | cons _ _=>cases h.2) (fun x'=>C8 (BHo R) f x' k)
   obtain ⟨q,q1,q2⟩:=fin pn g1
   refine ⟨q,q1,?_⟩
   show (bif D4 (a.length:Nat) ((a++y::r).length:Nat) then ckL (a.length:Nat) (a++y::r).length _ else _)=_
   rw [yes,cond_true,hck,hel,D5Y,D5Y,G3 (by omega),E3 (by omega),← q2,← g2,D5Y,List.map_append]
  ·have hbl:=h1.len
   obtain ⟨pn,g1,g2⟩:=C4C (R:=R) h1 (D:=D) (by omega) (l:=a++y::r) (n:=((a++y::r).length:Nat)) (i:=(a.length:Nat)) (nl:=false) (sh:=sh) (fun h=>by cases h) (fun x'=>C8 (BHo R) f x' k)
   obtain ⟨q,q1,q2⟩:=fin pn g1
   refine ⟨q,q1,?_⟩
   show (bif D4 (a.length:Nat) ((a++y::r).length:Nat) then ckL (a.length:Nat) (a++y::r).length _ else _)=_
   have hx:((X.map nv).drop off).take B.length=B.map nv:=by
    rw [← List.map_drop,h2,List.take_of_length_le (by simp)]
   rw [yes,cond_true,hck,hel,D5Y,D5Y,G3 (by omega),show Nat.ble (off+B.length) X.length=true from D54 (by omega),cond_true,show (Nat.beq (off+B.length) X.length||!sh)=true by rw [h3,Nat.beq_refl];rfl,cond_true,E3 (by omega),hx,← q2,← g2,D5Y,List.map_append]
theorem B7u {P Q:Type} {B:P→(P→Option R)→(Q→Option R)→Option R} (e:List V→P) (e':List V→Q) (he:∀ xs K kx,B (e xs) K kx=hpB xs (fun ys=>K (e ys)) (kx (e' xs))) (k:Q→Option R):∀ (m n:Nat) (xs:List V),(xs.length+m) % 64=56→m < 64→xs.length+m≤1073741824→m < n →
  C8 B n (e xs) k=k (e' (xs++List.replicate m (.i 0))):=by
 intro m
 induction m with
 | zero =>
  intro n xs h1 h2 h3 h4
  obtain ⟨n,rfl⟩:∃ n',n=n'+1:=⟨n - 1,by omega⟩
  rw [C8,he]
  show ln xs.length (bif !(Y6 ((xs.length:Int).tmod 64) 56) then _ else _)=_
  rw [G3 (by omega),show (64:Int)=((64:Nat):Int) from rfl,A14,A0P (by omega)]
  simp
 | succ m ih =>
  intro n xs h1 h2 h3 h4
  obtain ⟨n,rfl⟩:∃ n',n=n'+1:=⟨n - 1,by omega⟩
  rw [C8,he]
  show ln xs.length (bif !(Y6 ((xs.length:Int).tmod 64) 56) then Z9 (xs.length+1) _ else _)=_
  rw [G3 (by omega),show (64:Int)=((64:Nat):Int) from rfl,A14,A2t (by omega),E3 (by omega)]
  simp only [Bool.not_false,cond_true]
  rw [ih n (xs++[V.i 0]) (by simp;omega) (by omega) (by simp;omega) (by omega)]
  simp [List.replicate_succ]
theorem B1V {n:Nat} (j:Nat):hbV (n:Int) j=nv (n / 2 ^ (8 * j) % 256):=by
 unfold hbV
 rw [A0A,Nat.shiftRight_eq_div_pow]
 have:IntKind.wrap .u8 ((n / 2 ^ (8 * j):Nat):Int)=((n / 2 ^ (8 * j) % 256:Nat):Int):=by
  unfold IntKind.wrap
  simp [IntKind.bits,IntKind.signed]
 rw [this];rfl
theorem B7v {n:Int}:∀ (j:Nat) (xs:List V) (k:List V→Option R),xs.length+j≤1073741824→B3q n j xs k=k (xs++((List.range j).reverse.map (hbV n))):=by
 intro j
 induction j with
 | zero=>intro xs k h;simp [B3q]
 | succ j ih =>
  intro xs k h
  rw [B3q,E3 (by omega),ih _ _ (by simp;omega)]
  simp [List.range_succ]
theorem D2R {s:S8} (h:OkS s):hs8 (R6 s) 8 0 z32=.l ((D25 s).map nv):=by
 have one:∀ (j a:Nat) (h:V),a < R3→hs4 j (a:Int) h=(((h.put (4 * j) (nv (a / 16777216 % 256))).put (4 * j+1) (nv (a / 65536 % 256))).put (4 * j+2) (nv (a / 256 % 256))).put (4 * j+3) (nv (a % 256)):=by
  intro j a h ha
  have ha:a < 4294967296:=ha
  have w:IntKind.wrap .u8 (a:Int)=((a % 256:Nat):Int):=by
   unfold IntKind.wrap;simp [IntKind.bits,IntKind.signed]
  unfold hs4
  rw [B1V 3,B1V 2,B1V 1,w];rfl
 have e:hs8 (R6 s) 8 0 z32=hs4 7 (s.h:Int) (hs4 6 (s.g:Int) (hs4 5 (s.f:Int) (hs4 4 (s.e:Int) (hs4 3 (s.d:Int) (hs4 2 (s.c:Int) (hs4 1 (s.b:Int) (hs4 0 (s.a:Int) z32))))))):=by kernel_rfl
 rw [e,one _ _ _ h.a,one _ _ _ h.b,one _ _ _ h.c,one _ _ _ h.d,one _ _ _ h.e,one _ _ _ h.f,one _ _ _ h.g,one _ _ _ h.h]
 refine (?_:@Eq V _ _)
 kernel_rfl
theorem D43 {P Q:Type} {Bm:P→(P→Option R)→(Q→Option R)→Option R} {B:List Nat} (e:V→Nat→Nat→P) (e':V→Nat→Nat→Q) (he:∀ st o q K kx,Bm (e st o q) K kx=hm1 st (B.map nv) o q (fun t o' q'=>K (e t o' q')) (kx (e' st o q)))
  (hB:B.length≤2000000000) (k:Q→Option R):∀ (d j fuel:Nat) (S:S8),B.length=64 * (j+d)→d < fuel→C8 Bm fuel (e (R6 S) (64 * j) (B.length - 64 * j)) k=k (e' (R6 (L0 d S (B.drop (64 * j)))) (64 * (j+d)) (B.length - 64 * (j+d))):=by
 intro d
 induction d with
 | zero =>
  intro j fuel S hl hf
  obtain ⟨f,rfl⟩:∃ f,fuel=f+1:=⟨fuel - 1,by omega⟩
  rw [C8,he]
  unfold hm1
  have h0:(((B.map nv).drop (64 * j)).take (B.length - 64 * j)).length=0:=by simp;omega
  rw [h0,show Nat.ble (64 * j+(B.length - 64 * j)) (B.map nv).length=true from D54 (by rw [D5Y];omega),cond_true,G3 (by omega)]
  rfl
 | succ d ih =>
  intro j fuel S hl hf
  obtain ⟨f,rfl⟩:∃ f,fuel=f+1:=⟨fuel - 1,by omega⟩
  rw [C8,he]
  unfold hm1
  have h0:(((B.map nv).drop (64 * j)).take (B.length - 64 * j)).length=B.length - 64 * j:=by simp
  rw [h0,show Nat.ble (64 * j+(B.length - 64 * j)) (B.map nv).length=true from D54 (by rw [D5Y];omega),cond_true,G3 (by omega),show D4 0 ((B.length - 64 * j:Nat):Int)=true by rw [show (0:Int)=((0:Nat):Int) from rfl,A1v];exact decide_eq_true (by omega),cond_true,B7s (by omega),ih (j+1) f _ (by omega) (by omega)]
  have hne:B.drop (64 * j)≠[]:=by intro q;have:=congrArg List.length q;simp at this;omega
  rw [Y1 hne,List.drop_drop,show 64 * j+64=64 * (j+1) by omega,show j+1+d=j+(d+1) by omega]
theorem C4D {P Q:Type} {Bm:P→(P→Option R)→(Q→Option R)→Option R} {B:List Nat} (e0:V→P) (e:V→Nat→Nat→P) (e0':V→Q) (e':V→Nat→Nat→Q) (he0:∀ st K kx,Bm (e0 st) K kx=hm0 st (B.map nv) (fun t o' q'=>K (e t o' q')) (kx (e0' st)))
  (he:∀ st o q K kx,Bm (e st o q) K kx=hm1 st (B.map nv) o q (fun t o' q'=>K (e t o' q')) (kx (e' st o q)))
  (hB:B.length≤2000000000) (k:Q→Option R) (d fuel:Nat) (S:S8) (hl:B.length=64 * (d+1)) (hf:d+1 < fuel):∃ o q,C8 Bm fuel (e0 (R6 S)) k=k (e' (R6 (L0 (d+1) S B)) o q):=by
 obtain ⟨f,rfl⟩:∃ f,fuel=f+1:=⟨fuel - 1,by omega⟩
 have h:=D43 e e' he hB k d 1 f (A29 S (B.take 64)) (by omega) (by omega)
 refine ⟨64 * (1+d),B.length - 64 * (1+d),?_⟩
 rw [C8,he0]
 unfold hm0
 rw [D5Y,G3 (by omega),show D4 0 ((B.length:Nat):Int)=true by rw [show (0:Int)=((0:Nat):Int) from rfl,A1v];exact decide_eq_true (by omega),cond_true,B7t (by omega),h]
 have hne:B≠[]:=by intro q;subst q;simp at hl
 rw [Y1 hne]
theorem A5r {C B:List Nat} (hl:C.length≤1000000000):(B.map nv++[V.i 128]++List.replicate ((119 - C.length % 64) % 64) (.i 0))++((List.range 8).reverse.map (hbV (WU (8 * ((C.length:Nat):Int)))))=(B++M4 C.length).map nv:=by
 have e:WU (8 * ((C.length:Nat):Int))=((8 * C.length:Nat):Int):=by
  rw [show (8:Int) * ((C.length:Nat):Int)=((8 * C.length:Nat):Int) by omega];exact C4 (by omega)
 rw [e]
 unfold M4
 simp only [List.map_append,List.map_cons,List.map_replicate,List.append_assoc]
 congr 1
 have h8:(List.range 8).reverse.map (hbV ((8 * C.length:Nat):Int))=[8 * C.length / 2 ^ 56 % 256,8 * C.length / 2 ^ 48 % 256,8 * C.length / 2 ^ 40 % 256,8 * C.length / 2 ^ 32 % 256,8 * C.length / 2 ^ 24 % 256,8 * C.length / 2 ^ 16 % 256,8 * C.length / 2 ^ 8 % 256,8 * C.length % 256].map nv:=by
  show [hbV _ 7,hbV _ 6,hbV _ 5,hbV _ 4,hbV _ 3,hbV _ 2,hbV _ 1,hbV _ 0]=_
  simp only [B1V]
  simp [Nat.div_one]
 rw [h8];rfl
theorem D2S {q:QHo} {C:List Nat} (h:D2O q C) (hl:C.length≤1000000000) (k:V→Option R):hoK k q=k (.l ((A3E C).map nv)):=by
 have hF:∀ n:Nat,n < 4000000000→n < A3 FU:=fun n hn=>by rw [A27];show n < 4611686018427387904;omega
 have fin:∀ {B:List Nat} {S:S8},A5q C S B→((B++M4 C.length).length / 64 ≥ 1∧(B++M4 C.length).length % 64=0)∧hs8 (R6 (L0 ((B++M4 C.length).length / 64) S (B++M4 C.length))) 8 0 z32=.l ((A3E C).map nv):=fun {B S} ht=>by
  have hb:=ht.len
  have hp:=A15 C.length
  refine ⟨by rw [D5W];omega,?_⟩
  rw [B5x ht,D2R (A9Z _ _ _ C3I)];rfl
 rcases h with ⟨rfl,l,n,i,rfl⟩ | ⟨S,B,nl,sh,l,n,i,ht,rfl⟩ | ⟨S,B,X,off,sh,l,n,i,ht,h2,h3,rfl⟩
 ·have f:=fin C4A
  have e:(V.i 128::(List.replicate 55 (V.i 0)++[hbV (WU (8 * 0)) 7,hbV (WU (8 * 0)) 6,hbV (WU (8 * 0)) 5,hbV (WU (8 * 0)) 4,hbV (WU (8 * 0)) 3,hbV (WU (8 * 0)) 2,hbV (WU (8 * 0)) 1,hbV (WU (8 * 0)) 0]))=([]++M4 ([]:List Nat).length).map nv:=by
   have:=A5r (C:=[]) (B:=[]) (by simp)
   exact this
  have e1:L0 (([]++M4 ([]:List Nat).length).length / 64) s0N ([]++M4 ([]:List Nat).length)=A29 s0N ([]++M4 ([]:List Nat).length):=by
   have hlen:([]++M4 ([]:List Nat).length).length=64:=by rw [List.nil_append,A15];rfl
   have hne:([]++M4 ([]:List Nat).length)≠[]:=by intro q;rw [q] at hlen;cases hlen
   rw [hlen,show 64 / 64=0+1 from rfl,Y1 hne,A9Y];rfl
  show k (hs8 (B14 s0V (.l _)) 8 0 z32)=_
  rw [e,show s0V=R6 s0N from rfl,A77,← e1,f.2]
 ·have hb:=ht.len
  obtain ⟨⟨f1,f1'⟩,f2⟩:=fin ht
  show (Z9 (0+(B.map nv).length) <| Z9 ((B.map nv).length+1) <| C8 (BHp R) (A3 FU) (.b (R6 S) _ (B.map nv) nl sh z32 (B.map nv++[.i 128])) (hpK k))=_
  rw [D5Y,E3 (by omega),E3 (by omega)]
  have h1:=B7u (B:=BHp R) (fun xs=>.b (R6 S) ((C.length:Nat):Int) (B.map nv) nl sh z32 xs) (fun xs=>.b (R6 S) ((C.length:Nat):Int) (B.map nv) nl sh z32 xs) (fun _ _ _=>rfl) (hpK k) ((119 - C.length % 64) % 64) (A3 FU) (B.map nv++[V.i 128]) (by simp;omega) (by omega) (by simp;omega) (hF _ (by omega))
  rw [h1]
  show B3q (WU (8 * ((C.length:Nat):Int))) 8 _ _=_
  rw [B7v 8 _ _ (by simp;omega),A5r hl]
  obtain ⟨d,hd⟩:∃ d,(B++M4 C.length).length / 64=d+1:=⟨(B++M4 C.length).length / 64 - 1,by omega⟩
  have hlen:(B++M4 C.length).length=64 * (d+1):=by omega
  have hp:=A15 C.length
  obtain ⟨o,q,h3⟩:=C4D (Bm:=BHm R) (B:=B++M4 C.length) (fun st=>.b0 (R6 S) ((C.length:Nat):Int) (B.map nv) nl sh z32 st ((B++M4 C.length).map nv)) (fun st o q=>.b1 (R6 S) ((C.length:Nat):Int) (B.map nv) nl sh z32 st ((B++M4 C.length).map nv) o q)
   (fun st=>.b0 (R6 S) ((C.length:Nat):Int) (B.map nv) nl sh z32 st ((B++M4 C.length).map nv)) (fun st o q=>.b1 (R6 S) ((C.length:Nat):Int) (B.map nv) nl sh z32 st ((B++M4 C.length).map nv) o q)
   (fun _ _ _=>rfl) (fun _ _ _ _ _=>rfl) (by rw [D5W];omega) (hmK k) d (A3 FU) S hlen (hF _ (by rw [D5W] at hlen;omega))
  rw [h3]
  show k (hs8 (R6 (L0 (d+1) S (B++M4 C.length))) 8 0 z32)=_
  rw [← hd,f2]
 ·have hb:=ht.len
  obtain ⟨⟨f1,f1'⟩,f2⟩:=fin ht
  have hx:((X.map nv).drop off).take B.length=B.map nv:=by
   rw [← List.map_drop,h2,List.take_of_length_le (by simp)]
  show (bif Nat.ble (off+B.length) (X.map nv).length then (Z9 (0+(((X.map nv).drop off).take B.length).length) <| Z9 ((((X.map nv).drop off).take B.length).length+1) <| C8 (BHp R) (A3 FU) (.c (R6 S) _ (X.map nv) off B.length sh z32 (((X.map nv).drop off).take B.length++[.i 128])) (hpK k)) else none)=_
  rw [hx,D5Y,D5Y,show Nat.ble (off+B.length) X.length=true from D54 (by omega),cond_true,E3 (by omega),E3 (by omega)]
  have h1:=B7u (B:=BHp R) (fun xs=>.c (R6 S) ((C.length:Nat):Int) (X.map nv) off B.length sh z32 xs) (fun xs=>.c (R6 S) ((C.length:Nat):Int) (X.map nv) off B.length sh z32 xs) (fun _ _ _=>rfl) (hpK k) ((119 - C.length % 64) % 64) (A3 FU) (B.map nv++[V.i 128]) (by simp;omega) (by omega) (by simp;omega) (hF _ (by omega))
  rw [h1]
  show B3q (WU (8 * ((C.length:Nat):Int))) 8 _ _=_
  rw [B7v 8 _ _ (by simp;omega),A5r hl]
  obtain ⟨d,hd⟩:∃ d,(B++M4 C.length).length / 64=d+1:=⟨(B++M4 C.length).length / 64 - 1,by omega⟩
  have hlen:(B++M4 C.length).length=64 * (d+1):=by omega
  have hp:=A15 C.length
  obtain ⟨o,q,h4⟩:=C4D (Bm:=BHm R) (B:=B++M4 C.length) (fun st=>.c0 (R6 S) ((C.length:Nat):Int) (X.map nv) off B.length sh z32 st ((B++M4 C.length).map nv)) (fun st o q=>.c1 (R6 S) ((C.length:Nat):Int) (X.map nv) off B.length sh z32 st ((B++M4 C.length).map nv) o q)
   (fun st=>.c0 (R6 S) ((C.length:Nat):Int) (X.map nv) off B.length sh z32 st ((B++M4 C.length).map nv)) (fun st o q=>.c1 (R6 S) ((C.length:Nat):Int) (X.map nv) off B.length sh z32 st ((B++M4 C.length).map nv) o q)
   (fun _ _ _=>rfl) (fun _ _ _ _ _=>rfl) (by rw [D5W];omega) (hmK k) d (A3 FU) S hlen (hF _ (by rw [D5W] at hlen;omega))
  rw [h4]
  show k (hs8 (R6 (L0 (d+1) S (B++M4 C.length))) 8 0 z32)=_
  rw [← hd,f2]
theorem D2T {l:List V} (ht:∀ y∈l,∃ D:List Nat,y.els=D.map nv) (hc:(A25 l).length≤1000000000) (hl:l.length≤100000000) (k:V→Option R):dsG l k=k (.l ((A3E (A25 l)).map nv)):=by
 unfold dsG
 rw [G3 (by omega)]
 obtain ⟨q,h1,h2⟩:=D2Q (R:=R) (hoK k) l [] [] (.a s0V 0 l (l.length:Nat) 0) (A3 FU) ht (.inl ⟨rfl,rfl⟩) (by simpa using hc) (by simpa using hl) (by rw [A27];show l.length < 4611686018427387904;omega)
 rw [h2]
 exact D2S h1 hc k
variable {R:Type}
def B9f:List V→Nat
 | []=>0
 | y::l=>y.els.length+B9f l
def dsg:List V→Bool:=fun xs=>match xs with
 | [.l l]=>bif Nat.ble (B9f l) 1000000000 then Nat.ble l.length 100000000 else false
 | _=>false
def A59 (l:List Nat):V:=.l ((A3E l).map nv)
def dsr (h:Nat):List V→List Rs:=fun xs=>match xs with
 | [x]=>[.d h (A59 (A25 x.els))]
 | _=>[]
def dtr (h:Nat):List V→List Rs:=fun xs=>match xs with
 | [x]=>[.d h (A59 (A3E (A25 x.els)))]
 | _=>[]
theorem B9g {y:V} (h:(D.slice (.int .u8)).has y):∃ D:List Nat,y.els=D.map nv∧∀ a∈D,a < 256:=by
 rcases h with rfl | ⟨ys,rfl,hy⟩
 ·exact ⟨[],rfl,fun a ha=>by cases ha⟩
 ·obtain ⟨ns,rfl,hn⟩:=u8s hy
  exact ⟨ns,rfl,hn⟩
theorem C4E {l:List V} (h:∀ y∈l,∃ D:List Nat,y.els=D.map nv):(A25 l).length=B9f l:=by
 induction l with
 | nil=>rfl
 | cons y l ih =>
  obtain ⟨D,hD⟩:=h y (by simp)
  show (V9 y++A25 l).length=y.els.length+B9f l
  rw [D5W,ih (fun z hz=>h z (by simp [hz])),Y3 hD,hD,D5Y]
theorem D2U {l:List V} (hd:(D.slice (.slice (.int .u8))).has (.l l)) (hg:dsg [.l l]=true) (k:V→Option R):dsG l k=k (A59 (A25 l)):=by
 have ht:∀ y∈l,∃ D:List Nat,y.els=D.map nv:=fun y hy=>by
  rcases hd with q | ⟨ys,q,hys⟩
  ·cases q
  ·cases q;obtain ⟨D,h1,_⟩:=B9g (hys y hy);exact ⟨D,h1⟩
 have hg':(bif Nat.ble (B9f l) 1000000000 then Nat.ble l.length 100000000 else false)=true:=hg
 cases h1:Nat.ble (B9f l) 1000000000 with
 | false=>rw [h1] at hg';cases hg'
 | true =>
  rw [h1,cond_true] at hg'
  exact D2T ht (by rw [C4E ht];exact D50 h1) (D50 hg') k
theorem D0J {x:V} (hg:dsg [x]=true):∃ l,x=.l l:=by
 cases x with
 | l l=>exact ⟨l,rfl⟩
 | _=>cases hg
variable {R:Type}
def dwg:List V→Bool:=fun xs=>match xs with
 | [.l l]=>Nat.ble l.length 1000000000
 | _=>false
def dwr (h:Nat):List V→List Rs:=fun xs=>match xs with
 | [x]=>[.d h (A59 (A3E (V9 x)))]
 | _=>[]
theorem D4n {x:V} (hg:dwg [x]=true):∃ l,x=.l l∧Nat.ble l.length 1000000000=true:=by
 cases x with
 | l l=>exact ⟨l,rfl,hg⟩
 | _=>cases hg
variable {R:Type}
variable {R:Type}
namespace Wd
end Wd
namespace Wd
end Wd
namespace Wd
end Wd
variable {T:TT} {P:Program} {c:J8} {e eb:B4} {of of':Nat→Option Ob}
variable {R:Type}
def C8O (x:V):List V:=X6 (x.nth 0)++A0R (x.nth 1).els++Z1 4 (WU (x.nth 2).int)
def ouL (x:V):List V:=Z1 8 (WU (x.nth 0).int)++A0R (x.nth 1).els
def A0y (l:List V):List V:=(l.map C8O).flatten
def A3A (l:List V):List V:=(l.map ouL).flatten
def txL (t:V):List V:=Z1 4 (WU (t.nth 0).int)++Z7 ((t.nth 1).els.length:Nat)++A0y (t.nth 1).els++Z7 ((t.nth 2).els.length:Nat)++A3A (t.nth 2).els++Z1 4 (WU (t.nth 3).int)
inductive PTi where
 | m (t l:V) (bs:List V) (n i:Int)
inductive QTi where
 | o (t l:V) (bs:List V) (n i:Int)
abbrev PTo:=PTi
abbrev QTo:=QTi
abbrev PXi:=PTi
abbrev QXi:=QTi
abbrev PXo:=PTi
abbrev QXo:=QTi
def BTi (R:Type) (p:PTi) (K:PTi→Option R) (kx:QTi→Option R):Option R :=
 match p with
 | .m t l bs n i =>
  bif D4 i n then ck i l.els.length <| Z9 (bs.length+(X6 ((l.nth i.toNat).nth 0)).length) <|
   bif B26 [.l (bs++X6 ((l.nth i.toNat).nth 0)),.l [.l ((l.nth i.toNat).nth 1).els]] then
   bif A7N [.l (bs++X6 ((l.nth i.toNat).nth 0)++A0R ((l.nth i.toNat).nth 1).els),.i (WU ((l.nth i.toNat).nth 2).int),.i 4] then
   K (.m t l (bs++X6 ((l.nth i.toNat).nth 0)++A0R ((l.nth i.toNat).nth 1).els++Z1 4 (WU ((l.nth i.toNat).nth 2).int)) n (B3 (i+1))) else none else none
  else kx (.o t l bs n i)
def BXi (R:Type) (p:PTi) (K:PTi→Option R) (kx:QTi→Option R):Option R :=
 match p with
 | .m t l bs n i =>
  bif D4 i n then ck i l.els.length <| Z9 (bs.length+(X6 ((l.nth i.toNat).nth 0)).length) <|
   bif B28 [.l ((l.nth i.toNat).nth 1).els] then
   Z9 ((bs++X6 ((l.nth i.toNat).nth 0)).length+(A0R ((l.nth i.toNat).nth 1).els).length) <|
   Z9 ((bs++X6 ((l.nth i.toNat).nth 0)++A0R ((l.nth i.toNat).nth 1).els).length+(Z1 4 (WU ((l.nth i.toNat).nth 2).int)).length) <|
   K (.m t l (bs++X6 ((l.nth i.toNat).nth 0)++A0R ((l.nth i.toNat).nth 1).els++Z1 4 (WU ((l.nth i.toNat).nth 2).int)) n (B3 (i+1))) else none
  else kx (.o t l bs n i)
def BTo (R:Type) (p:PTi) (K:PTi→Option R) (kx:QTi→Option R):Option R :=
 match p with
 | .m t l bs n i =>
  bif D4 i n then ck i l.els.length <|
   bif B26 [.l (Z1 8 (WU ((l.nth i.toNat).nth 0).int)),.l [.l ((l.nth i.toNat).nth 1).els]] then
   Z9 (bs.length+(Z1 8 (WU ((l.nth i.toNat).nth 0).int)++A0R ((l.nth i.toNat).nth 1).els).length) <|
   K (.m t l (bs++(Z1 8 (WU ((l.nth i.toNat).nth 0).int)++A0R ((l.nth i.toNat).nth 1).els)) n (B3 (i+1))) else none
  else kx (.o t l bs n i)
def BXo (R:Type) (p:PTi) (K:PTi→Option R) (kx:QTi→Option R):Option R :=
 match p with
 | .m t l bs n i =>
  bif D4 i n then ck i l.els.length <|
   bif B28 [.l ((l.nth i.toNat).nth 1).els] then
   Z9 ((Z1 8 (WU ((l.nth i.toNat).nth 0).int)).length+(A0R ((l.nth i.toNat).nth 1).els).length) <|
   Z9 (bs.length+(Z1 8 (WU ((l.nth i.toNat).nth 0).int)++A0R ((l.nth i.toNat).nth 1).els).length) <|
   K (.m t l (bs++(Z1 8 (WU ((l.nth i.toNat).nth 0).int)++A0R ((l.nth i.toNat).nth 1).els)) n (B3 (i+1))) else none
  else kx (.o t l bs n i)
def txW {R:Type} (v u:Int) (a b:V) (k:List V→Option R):Option R :=
 ln a.els.length <| ln a.els.length <| C8 (BTi R) (A3 FU) (.m (.l [.i v,a,b,.i u]) a (Z1 4 (WU v)++Z7 (WU (a.els.length:Nat))) (a.els.length:Nat) 0) fun q=>match q with
  | .o t l bs n i=>ln (t.nth 2).els.length <| bif shb (.l bs) then ln (t.nth 2).els.length <| C8 (BTo R) (A3 FU) (.m t (t.nth 2) (bs++Z7 (WU ((t.nth 2).els.length:Nat))) ((t.nth 2).els.length:Nat) 0) (fun q=>match q with
   | .o t l bs n i=>bif A7N [.l bs,.i (WU (t.nth 3).int),.i 4] then k (bs++Z1 4 (WU (t.nth 3).int)) else none) else none
def txD {R:Type} (v u:Int) (a b:V) (k:List V→Option R):Option R :=
 ln a.els.length <| Z9 ((Z1 4 (WU v)).length+(Z7 (WU (a.els.length:Nat))).length) <| ln a.els.length <| C8 (BXi R) (A3 FU) (.m (.l [.i v,a,b,.i u]) a (Z1 4 (WU v)++Z7 (WU (a.els.length:Nat))) (a.els.length:Nat) 0) fun q=>match q with
  | .o t l bs n i=>ln (t.nth 2).els.length <| Z9 (bs.length+(Z7 (WU ((t.nth 2).els.length:Nat))).length) <| ln (t.nth 2).els.length <| C8 (BXo R) (A3 FU) (.m t (t.nth 2) (bs++Z7 (WU ((t.nth 2).els.length:Nat))) ((t.nth 2).els.length:Nat) 0) (fun q=>match q with
   | .o t l bs n i=>Z9 (bs.length+(Z1 4 (WU (t.nth 3).int)).length) <| k (bs++Z1 4 (WU (t.nth 3).int)))
def C4F (x:V):Prop:=(x.nth 1).els.length≤100000∧(X6 (x.nth 0)).length=36
def C4G (x:V):Prop:=(x.nth 1).els.length≤100000
theorem C4H {kx:QTi→Option R} {t l:V}:∀ (r a bs:List V) (fuel:Nat),l.els=a++r→(∀ x∈r,C4F x)→bs.length+r.length * 100050≤250000000→a.length+r.length≤100000→r.length < fuel →
  C8 (BTi R) fuel (.m t l bs (l.els.length:Nat) (a.length:Nat)) kx=kx (.o t l (bs++A0y r) (l.els.length:Nat) (l.els.length:Nat)) ∧
  C8 (BXi R) fuel (.m t l bs (l.els.length:Nat) (a.length:Nat)) kx=kx (.o t l (bs++A0y r) (l.els.length:Nat) (l.els.length:Nat)):=by
 intro r
 induction r with
 | nil =>
  intro a bs fuel he hg hb ha hf
  obtain ⟨f,rfl⟩:∃ f,fuel=f+1:=⟨fuel - 1,by omega⟩
  rw [List.append_nil] at he
  have hc:D4 (a.length:Nat) (l.els.length:Nat)=false:=by rw [he];simp [D4]
  constructor
  ·show (bif D4 (a.length:Nat) (l.els.length:Nat) then _ else kx _)=_
   rw [hc,he];simp [A0y]
  ·show (bif D4 (a.length:Nat) (l.els.length:Nat) then _ else kx _)=_
   rw [hc,he];simp [A0y]
 | cons x r ih =>
  intro a bs fuel he hg hb ha hf
  obtain ⟨f,rfl⟩:∃ f,fuel=f+1:=⟨fuel - 1,by simp at hf;omega⟩
  obtain ⟨g1,g2⟩:=hg x (by simp)
  have ht:=A4y (x.nth 1).els
  have hl:=A0Q 4 (WU (x.nth 2).int)
  simp only [D52] at hb ha hf
  have hc:D4 (a.length:Nat) (l.els.length:Nat)=true:=by rw [he];simp [D4];omega
  have hle:l.els.length=a.length+(r.length+1):=by rw [he];simp
  have q1:B26 [.l (bs++X6 (x.nth 0)),.l [.l (x.nth 1).els]]=true:=by
   show (Nat.ble (bs++X6 (x.nth 0)).length 268435456&&Nat.ble (x.nth 1).els.length 268435456)=true
   rw [D5V,Nat.ble_eq,Nat.ble_eq,D5W];omega
  have q2:A7N [.l (bs++X6 (x.nth 0)++A0R (x.nth 1).els),.i (WU (x.nth 2).int),.i 4]=true:=by
   show Nat.ble (bs++X6 (x.nth 0)++A0R (x.nth 1).els).length 268435456=true
   rw [Nat.ble_eq];simp only [D5W];omega
  have q3:B28 [.l (x.nth 1).els]=true:=by
   show Nat.ble (x.nth 1).els.length 268435456=true
   rw [Nat.ble_eq];omega
  obtain ⟨i1,i2⟩:=ih (a++[x]) (bs++X6 (x.nth 0)++A0R (x.nth 1).els++Z1 4 (WU (x.nth 2).int)) f (by rw [he];simp) (fun s hs=>hg s (by simp [hs])) (by simp only [D5W];omega) (by simp;omega) (by omega)
  have e1:bs++X6 (x.nth 0)++A0R (x.nth 1).els++Z1 4 (WU (x.nth 2).int)++A0y r=bs++A0y (x::r):=by simp [A0y,C8O]
  rw [show (a++[x]).length=a.length+1 by simp,e1] at i1 i2
  constructor
  ·show (bif D4 (a.length:Nat) (l.els.length:Nat) then _ else kx _)=_
   rw [hc,cond_true,H0 (by omega) (by omega),A1g he,q1,E3 (by omega),cond_true,q2,cond_true,A0h (by omega)]
   exact i1
  ·show (bif D4 (a.length:Nat) (l.els.length:Nat) then _ else kx _)=_
   rw [hc,cond_true,H0 (by omega) (by omega),A1g he,q3,E3 (by omega),cond_true,E3 (by simp only [D5W];omega),E3 (by simp only [D5W];omega),A0h (by omega)]
   exact i2
theorem C4I {kx:QTi→Option R} {t l:V}:∀ (r a bs:List V) (fuel:Nat),l.els=a++r→(∀ x∈r,C4G x)→bs.length+r.length * 100050≤250000000→a.length+r.length≤100000→r.length < fuel →
  C8 (BTo R) fuel (.m t l bs (l.els.length:Nat) (a.length:Nat)) kx=kx (.o t l (bs++A3A r) (l.els.length:Nat) (l.els.length:Nat)) ∧
  C8 (BXo R) fuel (.m t l bs (l.els.length:Nat) (a.length:Nat)) kx=kx (.o t l (bs++A3A r) (l.els.length:Nat) (l.els.length:Nat)):=by
 intro r
 induction r with
 | nil =>
  intro a bs fuel he hg hb ha hf
  obtain ⟨f,rfl⟩:∃ f,fuel=f+1:=⟨fuel - 1,by omega⟩
  rw [List.append_nil] at he
  have hc:D4 (a.length:Nat) (l.els.length:Nat)=false:=by rw [he];simp [D4]
  constructor
  ·show (bif D4 (a.length:Nat) (l.els.length:Nat) then _ else kx _)=_
   rw [hc,he];simp [A3A]
  ·show (bif D4 (a.length:Nat) (l.els.length:Nat) then _ else kx _)=_
   rw [hc,he];simp [A3A]
 | cons x r ih =>
  intro a bs fuel he hg hb ha hf
  obtain ⟨f,rfl⟩:∃ f,fuel=f+1:=⟨fuel - 1,by simp at hf;omega⟩
  have g1:(x.nth 1).els.length≤100000:=hg x (by simp)
  have ht:=A4y (x.nth 1).els
  have hl:=A0Q 8 (WU (x.nth 0).int)
  simp only [D52] at hb ha hf
  have hc:D4 (a.length:Nat) (l.els.length:Nat)=true:=by rw [he];simp [D4];omega
  have hle:l.els.length=a.length+(r.length+1):=by rw [he];simp
  have q1:B26 [.l (Z1 8 (WU (x.nth 0).int)),.l [.l (x.nth 1).els]]=true:=by
   show (Nat.ble (Z1 8 (WU (x.nth 0).int)).length 268435456&&Nat.ble (x.nth 1).els.length 268435456)=true
   rw [D5V,Nat.ble_eq,Nat.ble_eq];omega
  have q3:B28 [.l (x.nth 1).els]=true:=by
   show Nat.ble (x.nth 1).els.length 268435456=true
   rw [Nat.ble_eq];omega
  obtain ⟨i1,i2⟩:=ih (a++[x]) (bs++ouL x) f (by rw [he];simp) (fun s hs=>hg s (by simp [hs])) (by simp only [D5W,ouL];omega) (by simp;omega) (by omega)
  have e1:bs++ouL x++A3A r=bs++A3A (x::r):=by simp [A3A]
  rw [show (a++[x]).length=a.length+1 by simp,e1] at i1 i2
  constructor
  ·show (bif D4 (a.length:Nat) (l.els.length:Nat) then _ else kx _)=_
   rw [hc,cond_true,H0 (by omega) (by omega),A1g he,q1,cond_true,E3 (by simp only [D5W];omega),A0h (by omega)]
   exact i1
  ·show (bif D4 (a.length:Nat) (l.els.length:Nat) then _ else kx _)=_
   rw [hc,cond_true,H0 (by omega) (by omega),A1g he,q3,cond_true,E3 (by omega),E3 (by simp only [D5W];omega),A0h (by omega)]
   exact i2
theorem B0f:∀ {l:List V},(∀ x∈l,C4F x)→(A0y l).length≤l.length * 100050:=by
 intro l
 induction l with
 | nil=>intro _;simp [A0y]
 | cons x r ih =>
  intro h
  obtain ⟨g1,g2⟩:=h x (by simp)
  have ht:=A4y (x.nth 1).els
  have hl:=A0Q 4 (WU (x.nth 2).int)
  have h2:=ih (fun s hs=>h s (by simp [hs]))
  have:(A0y (x::r)).length=(C8O x).length+(A0y r).length:=by simp [A0y]
  rw [this,D52]
  unfold C8O
  simp only [D5W];omega
theorem B3r:∀ {l:List V},(∀ x∈l,C4G x)→(A3A l).length≤l.length * 100050:=by
 intro l
 induction l with
 | nil=>intro _;simp [A3A]
 | cons x r ih =>
  intro h
  have g1:(x.nth 1).els.length≤100000:=h x (by simp)
  have ht:=A4y (x.nth 1).els
  have hl:=A0Q 8 (WU (x.nth 0).int)
  have h2:=ih (fun s hs=>h s (by simp [hs]))
  have:(A3A (x::r)).length=(ouL x).length+(A3A r).length:=by simp [A3A]
  rw [this,D52]
  unfold ouL
  simp only [D5W];omega
def txg:List V→Bool
 | [t]=>(Nat.ble (t.nth 1).els.length 1000&&(t.nth 1).els.all fun x=>Nat.ble (x.nth 1).els.length 100000)&&(Nat.ble (t.nth 2).els.length 1000&&(t.nth 2).els.all fun x=>Nat.ble (x.nth 1).els.length 100000)
 | _=>false
def txr (el:Nat):List V→List Rs
 | [t]=>[.r el (txL t) false]
 | _=>[]
abbrev DIn:D:=.struct [A8X,.slice (.int .u8),.int .u32]
abbrev C4J:D:=.struct [.int .i64,.slice (.int .u8)]
abbrev DTx:D:=.struct [.int .u32,.slice DIn,.slice C4J,.int .u32]
theorem D4o {x:V} (h:DIn.has x):∃ r b n,x=.l [r,b,.i n]∧A8X.has r∧(D.slice (.int .u8)).has b∧inR .u32 n:=by
 obtain ⟨ys,rfl,hy⟩:=h
 obtain ⟨a,b,c,rfl,ha,hb,n,rfl,hn⟩:=C3R hy
 exact ⟨a,b,n,rfl,ha,hb,hn⟩
theorem B9h {x:V} (h:DTx.has x):∃ v a b u,x=.l [.i v,a,b,.i u]∧inR .u32 v∧(D.slice DIn).has a∧(D.slice C4J).has b∧inR .u32 u:=by
 obtain ⟨ys,rfl,hy⟩:=h
 obtain ⟨a,b,c,d,rfl,⟨v,rfl,hv⟩,hb,hc,u,rfl,hu⟩:=D38 hy
 exact ⟨v,b,c,u,rfl,hv,hb,hc,hu⟩
theorem A0l {d:D} {x:V} (h:(D.slice d).has x):∀ y∈x.els,d.has y:=by
 rcases h with rfl | ⟨ys,rfl,hy⟩
 ·intro y hy;cases hy
 ·exact hy
theorem B3s {v u:Int} {a b:V} (ha:(D.slice DIn).has a) (hb:(D.slice C4J).has b) (hg:txg [.l [.i v,a,b,.i u]]=true):(a.els.length≤1000∧∀ x∈a.els,C4F x)∧(b.els.length≤1000∧∀ x∈b.els,C4G x):=by
 have hg:((Nat.ble a.els.length 1000&&a.els.all fun x=>Nat.ble (x.nth 1).els.length 100000)&&(Nat.ble b.els.length 1000&&b.els.all fun x=>Nat.ble (x.nth 1).els.length 100000))=true:=hg
 simp only [D5V,Nat.ble_eq,List.all_eq_true] at hg
 obtain ⟨⟨g1,g2⟩,g3,g4⟩:=hg
 refine ⟨⟨g1,fun x hx=>⟨g2 x hx,?_⟩⟩,g3,fun x hx=>g4 x hx⟩
 obtain ⟨r,bb,n,rfl,hr,_⟩:=D4o (A0l ha x hx)
 exact C3X hr
theorem B7w {v u:Int} {a b:V} (k:List V→Option R) (ha:(D.slice DIn).has a) (hb:(D.slice C4J).has b) (hg:txg [.l [.i v,a,b,.i u]]=true):txW v u a b k=k (txL (.l [.i v,a,b,.i u]))∧txD v u a b k=k (txL (.l [.i v,a,b,.i u])):=by
 obtain ⟨⟨g1,g2⟩,g3,g4⟩:=B3s ha hb hg
 have hc1:=A1f (a.els.length:Nat)
 have hc2:=A1f (b.els.length:Nat)
 have hl:=A0Q 4 (WU v)
 have hq:=A3U
 have hi:=B0f g2
 have ho:=B3r g4
 have n2:((V.l [V.i v,a,b,V.i u]).nth 2)=b:=rfl
 have n3:((V.l [V.i v,a,b,V.i u]).nth 3)=.i u:=rfl
 have hl4:=A0Q 4 (WU (V.i u).int)
 have e:txL (.l [.i v,a,b,.i u])=Z1 4 (WU v)++Z7 (a.els.length:Nat)++A0y a.els++Z7 (b.els.length:Nat)++A3A b.els++Z1 4 (WU (V.i u).int):=rfl
 rw [e]
 constructor
 ·unfold txW
  rw [G3 (by omega),G3 (by omega),C4 (by omega)]
  refine (C4H a.els [] _ (A3 FU) rfl g2 (by simp only [D5W];omega) (by simp only [List.length_nil];omega) (by omega)).1.trans ?_
  simp only
  rw [n2,G3 (by omega),G3 (by omega),C4 (by omega),show shb (.l (Z1 4 (WU v)++Z7 (a.els.length:Nat)++A0y a.els))=true from D54 (by show (_++_++_:List V).length≤268435456;simp only [D5W];omega),cond_true]
  refine (C4I b.els [] _ (A3 FU) rfl g4 (by simp only [D5W];omega) (by simp only [List.length_nil];omega) (by omega)).1.trans ?_
  simp only
  rw [n3,show A7N [.l (Z1 4 (WU v)++Z7 (a.els.length:Nat)++A0y a.els++Z7 (b.els.length:Nat)++A3A b.els),.i (WU (V.i u).int),.i 4]=true from D54 (by show (_++_++_++_++_:List V).length≤268435456;simp only [D5W];omega),cond_true]
 ·unfold txD
  rw [G3 (by omega),E3 (by rw [C4 (by omega)];omega),G3 (by omega),C4 (by omega)]
  refine (C4H a.els [] _ (A3 FU) rfl g2 (by simp only [D5W];omega) (by simp only [List.length_nil];omega) (by omega)).2.trans ?_
  simp only
  rw [n2,G3 (by omega),C4 (by omega),E3 (by simp only [D5W];omega),G3 (by omega)]
  refine (C4I b.els [] _ (A3 FU) rfl g4 (by simp only [D5W];omega) (by simp only [List.length_nil];omega) (by omega)).2.trans ?_
  simp only
  rw [n3,E3 (by simp only [D5W];omega)]
variable {R:Type}
def C8P (h:Nat):List V→List Rs
 | [t]=>[.d h (A59 (A3E (V9 (.l (txL t)))))]
 | _=>[]
def C4K (h:Nat) (t:V):Option (List Rs):=bif txg [t] then bif dsg [.l [.l (txL t)]] then some [.d h (A59 (A3E (A25 [.l (txL t)])))] else none else none
def C4L (h:Nat) (t:V):Option (List Rs):=bif txg [t] then bif dwg [.l (txL t)] then some (dwr h [.l (txL t)]) else none else none
theorem C8Q {t:V} (ht:DTx.has t) (hg:txg [t]=true):(txL t).length≤250000000:=by
 obtain ⟨v,a,b,u,rfl,_,ha,hb,_⟩:=B9h ht
 obtain ⟨⟨g1,g2⟩,g3,g4⟩:=B3s ha hb hg
 have hc1:=A1f (a.els.length:Nat)
 have hc2:=A1f (b.els.length:Nat)
 have hl:=A0Q 4 (WU v)
 have hi:=B0f g2
 have ho:=B3r g4
 have hl4:=A0Q 4 (WU (V.i u).int)
 have e:txL (.l [.i v,a,b,.i u])=Z1 4 (WU v)++Z7 (a.els.length:Nat)++A0y a.els++Z7 (b.els.length:Nat)++A3A b.els++Z1 4 (WU (V.i u).int):=rfl
 rw [e]
 simp only [D5W];omega
theorem B7x {h:Nat} {t:V} (ht:DTx.has t) (hg:txg [t]=true):C4K h t=some (C8P h [t])∧C4L h t=some (C8P h [t]):=by
 have hl:=C8Q ht hg
 have c:A25 [.l (txL t)]=V9 (.l (txL t)):=by show V9 _++[]=_;rw [List.append_nil]
 constructor
 ·unfold C4K
  have:dsg [.l [.l (txL t)]]=true:=by
   show (bif Nat.ble ((txL t).length+0) 1000000000 then Nat.ble 1 100000000 else false)=true
   rw [D54 (by omega)];rfl
  rw [hg,this,c];rfl
 ·unfold C4L
  have:dwg [.l (txL t)]=true:=by
   show Nat.ble (txL t).length 1000000000=true
   exact D54 (by omega)
  rw [hg,this];rfl
end Go.Vm
end