/- What the operations of a program do, shown once for all programs; and numbers. -/
import Derived.Test.YtgnfgafiegimoaaVm9
import Derived.Sort.AssemblyPlain
set_option linter.constructorNameAsVariable false
set_option linter.unusedVariables false
set_option linter.unusedSimpArgs false
noncomputable section
namespace Go.Vm
open Go.RowKit
variable {P:Program} {T:TT} {R:Type} {c:N5} {e:B2} {of:Nat→Option Ob}
def W0 (of:Nat→Option Ob):Nat→List Nat→List Nat→List Nat
 | 0,_,acc=>acc
 | _+1,[],acc=>acc
 | f+1,id::r,acc=>bif mem id acc then W0 of f r acc else
  match of id with
  | some o=>W0 of f (A1o o++r) (acc++[id])
  | none=>acc
def L5:List Nat→Nat→Nat
 | [],_=>0
 | k::r,id=>bif Nat.beq k id then 0 else L5 r id+1
def R3 (of:Nat→Option Ob) (id:Nat):Nat :=
 match of id with
 | some (.row _ v _ _ _)=>v
 | _=>0
def A24:List Nat→Bool
 | []=>true
 | k::r=>!mem k r&&A24 r
def B0c (L:List Nat):List Nat→Bool
 | []=>true
 | k::r=>mem k L&&B0c L r
def B3G (of:Nat→Option Ob) (L:List Nat):List Nat→Bool
 | []=>true
 | id::r=>(match of id with
  | some o=>okT o&&B0c L (A1o o)
  | none=>false)&&B3G of L r
def A60 (of:Nat→Option Ob) (id ver:Nat):Option Nat:=bif Nat.beq (R3 of id) ver then some 1 else none
def U8 (of:Nat→Option Ob) (L:List Nat):List Nat→List Ob
 | []=>[]
 | id::r=>(match of id with
  | some o=>rnO (L5 L) (A60 of) id o
  | none=>.lp none)::U8 of L r
def ofL:List Ob→Nat→Option Ob
 | [],_=>none
 | o::_,0=>some o
 | _::r,n+1=>ofL r n
def A25:List Nat→Nat→Option Nat
 | [],_=>none
 | k::_,0=>some k
 | _::r,n+1=>A25 r n
def G6 (L:List Nat) (nx:Nat) (j:Nat):Nat :=
 match A25 L j with
 | some id=>id
 | none=>nx+(j - L.length)
def A5I (of:Nat→Option Ob) (L:List Nat) (j ver:Nat):Option Nat :=
 match A25 L j with
 | some id=>some (ver+(R3 of id - 1))
 | none=>some ver
def Y5 (of:Nat→Option Ob) (L:List Nat) (nx:Nat):List (Nat×Ob)→List (Nat×Ob)
 | []=>[]
 | p::r=>(G6 L nx p.1,rnO (G6 L nx) (A5I of L) p.1 p.2)::Y5 of L nx r
def B3H:List (Nat×Ob)→Bool
 | []=>true
 | p::r=>okT p.2&&B3H r
def A03:Nat→List Ob→List (Nat×Ob)
 | _,[]=>[]
 | j,o::r=>(j,o)::A03 (j+1) r
def trS (s:G2):G2:=fun R args of nx k =>
 (fun L:List Nat=>bif A24 L&&(B3G of L L&&B0c L (D4 args)) then
  s R (rnL (L5 L) (A60 of) args) (ofL (U8 of L L)) L.length fun out=>bif Nat.ble L.length out.nx&&B3H out.wo then
   k ⟨rnA (G6 L nx) (A5I of L) out.val,Y5 of L nx (A03 0 (U8 of L L)++out.wo),L,nx+(out.nx - L.length)⟩ else none
  else none) (W0 of 64 (D4 args) [])
theorem R4 {s:G2} (hs:s.nat):(trS s).nat:=by
 intro R args of nx k
 unfold G2.dir trS
 simp only
 cases (A24 (W0 of 64 (D4 args) [])&&(B3G of (W0 of 64 (D4 args) []) (W0 of 64 (D4 args) [])&&B0c (W0 of 64 (D4 args) []) (D4 args)))
 ·rfl
 ·simp only [cond_true]
  rw [hs R,hs G9]
  cases s.dir (rnL (L5 (W0 of 64 (D4 args) [])) (A60 of) args) (ofL (U8 of (W0 of 64 (D4 args) []) (W0 of 64 (D4 args) []))) (W0 of 64 (D4 args) []).length with
  | none=>rfl
  | some out =>
   simp only [ob]
   cases (Nat.ble (W0 of 64 (D4 args) []).length out.nx&&B3H out.wo)<;>rfl
theorem A6a {L:List Nat}:∀ {l:List Nat},B0c L l=true→∀ id∈l,id∈L:=by
 intro l
 induction l with
 | nil=>intro _ id h;cases h
 | cons k r ih =>
  intro h id A3
  simp only [B0c,C6L,mem_iff] at h
  rcases List.mem_cons.1 A3 with rfl | A3
  ·exact h.1
  ·exact ih h.2 id A3
theorem A77:∀ {l:List Nat},A24 l=true→l.Nodup:=by
 intro l
 induction l with
 | nil=>intro _;exact .nil
 | cons k r ih =>
  intro h
  simp only [A24,C6L,Bool.not_eq_true'] at h
  refine List.nodup_cons.2 ⟨fun hk=>?_,ih h.2⟩
  rw [mem_iff.2 hk] at h;cases h.1
theorem B3I {L:List Nat}:∀ {l:List Nat},B3G of L l=true→∀ id∈l,∃ o,of id=some o∧okT o=true∧∀ k∈A1o o,k∈L:=by
 intro l
 induction l with
 | nil=>intro _ id h;cases h
 | cons k r ih =>
  intro h id A3
  simp only [B3G,C6L] at h
  rcases List.mem_cons.1 A3 with rfl | A3
  ·obtain ⟨h1,_⟩:=h
   split at h1
   ·rename_i o ho
    simp only [C6L] at h1
    exact ⟨o,ho,h1.1,A6a h1.2⟩
   ·cases h1
  ·exact ih h.2 id A3
theorem A6b {l:List Nat}:∀ {j:Nat},j < l.length→∃ id,A25 l j=some id∧id∈l:=by
 induction l with
 | nil=>intro j h;cases h
 | cons k r ih =>
  intro j h
  cases j with
  | zero=>exact ⟨k,rfl,by simp⟩
  | succ j=>obtain ⟨id,h1,h2⟩:=ih (j:=j) (by simpa using h);exact ⟨id,h1,by simp [h2]⟩
theorem Z6 {l:List Nat}:∀ {j:Nat},l.length≤j→A25 l j=none:=by
 induction l with
 | nil=>intro j _;rfl
 | cons k r ih=>intro j h;cases j with
  | zero=>cases h
  | succ j=>exact ih (by simpa using h)
theorem B2i {l:List Nat}:∀ {j id:Nat},A25 l j=some id→j < l.length:=by
 intro j id h
 by_cases hj:j < l.length
 ·exact hj
 ·rw [Z6 (by omega)] at h;cases h
theorem B9v {l:List Nat} (hn:l.Nodup):∀ {j id:Nat},A25 l j=some id→L5 l id=j:=by
 induction l with
 | nil=>intro j id h;cases h
 | cons k r ih =>
  intro j id h
  obtain ⟨n1,n2⟩:=List.nodup_cons.1 hn
  cases j with
  | zero=>cases h;unfold L5;rw [Nat.beq_refl];rfl
  | succ j =>
   have h':A25 r j=some id:=h
   have A3:id∈r:=by
    obtain ⟨id',h1,h2⟩:=A6b (B2i h')
    rw [h'] at h1;cases h1;exact h2
   have:k≠id:=fun q=>n1 (q ▸ A3)
   unfold L5;rw [A5B this]
   show L5 r id+1=j+1
   rw [ih n2 h']
theorem B2j {l:List Nat}:∀ {id:Nat},id∈l→A25 l (L5 l id)=some id∧L5 l id < l.length:=by
 induction l with
 | nil=>intro id h;cases h
 | cons k r ih =>
  intro id h
  unfold L5
  by_cases hk:k=id
  ·subst hk;rw [Nat.beq_refl];exact ⟨rfl,by simp⟩
  ·rw [A5B hk]
   obtain ⟨h1,h2⟩:=ih ((List.mem_cons.1 h).resolve_left (fun q=>hk q.symm))
   exact ⟨h1,by show L5 r id+1 < _;simp;omega⟩
theorem B2k {L:List Nat}:∀ {l:List Nat} {j:Nat},ofL (U8 of L l) j=(A25 l j).map fun id=>match of id with
  | some o=>rnO (L5 L) (A60 of) id o
  | none=>.lp none:=by
 intro l
 induction l with
 | nil=>intro j;rfl
 | cons k r ih=>intro j;cases j with
  | zero=>rfl
  | succ j=>exact ih
theorem B2l:∀ (l:List Ob) (n:Nat) (f:Nat→Option Ob) (j:Nat),put f (A03 n l) j=if n≤j then (match ofL l (j - n) with | some o=>some o | none=>f j) else f j:=by
 intro l
 induction l with
 | nil=>intro n f j;simp [A03,put,ofL]
 | cons o r ih =>
  intro n f j
  simp only [A03,put]
  rw [ih]
  by_cases h1:n+1≤j
  ·rw [if_pos h1,if_pos (by omega),show j - n=(j - (n+1))+1 by omega]
   simp only [ofL]
   cases ofL r (j - (n+1)) with
   | some _=>rfl
   | none=>simp only;rw [A4 _ _ (by omega)]
  ·rw [if_neg h1]
   by_cases h2:n≤j
   ·have:j=n:=by omega
    subst this
    rw [if_pos (Nat.le_refl _),Nat.sub_self,upd_same];rfl
   ·rw [if_neg h2,A4 _ _ (by omega)]
theorem A4z {L:List Nat} {nx:Nat}:∀ (l:List (Nat×Ob)) (f g:Nat→Option Ob) (j:Nat),(∀ i∈T2 l,G6 L nx i=G6 L nx j→i=j) →
  g (G6 L nx j)=(f j).map (rnO (G6 L nx) (A5I of L) j)→put g (Y5 of L nx l) (G6 L nx j)=(put f l j).map (rnO (G6 L nx) (A5I of L) j):=by
 intro l
 induction l with
 | nil=>intro f g j _ h;exact h
 | cons p r ih =>
  intro f g j hi h
  obtain ⟨k,o⟩:=p
  simp only [Y5,put]
  refine ih _ _ j (fun i A3=>hi i (by simp only [T2,List.map_cons,List.mem_cons];exact .inr A3)) ?_
  by_cases hk:j=k
  ·subst hk;rw [upd_same,upd_same];rfl
  ·have hne:G6 L nx j≠G6 L nx k:=fun q=>hk (hi k (by simp [T2]) q.symm).symm
   rw [A4 _ _ hne,A4 _ _ hk];exact h
theorem B9w {L:List Nat} {nx:Nat}:∀ (l:List (Nat×Ob)) (g:Nat→Option Ob) (id:Nat),(∀ i∈T2 l,G6 L nx i≠id)→put g (Y5 of L nx l) id=g id:=by
 intro l
 induction l with
 | nil=>intro g id _;rfl
 | cons p r ih =>
  intro g id hi
  simp only [Y5,put]
  rw [ih _ id (fun i A3=>hi i (by simp only [T2,List.map_cons,List.mem_cons];exact .inr A3))]
  exact A4 _ _ fun q=>hi p.1 (by simp [T2]) q.symm
theorem B0d:∀ (l:List (Nat×Ob)) (f:Nat→Option Ob) (j:Nat),(j∈T2 l∨(f j).isSome)→(put f l j).isSome:=by
 intro l
 induction l with
 | nil=>intro f j h;exact h.resolve_left (fun q=>by cases q)
 | cons p r ih =>
  intro f j h
  refine ih _ j ?_
  by_cases hj:j=p.1
  ·right;subst hj;rw [upd_same];rfl
  ·rcases h with h | h
   ·left;simp only [T2,List.map_cons,List.mem_cons] at h;exact h.resolve_left hj
   ·right;rw [A4 _ _ hj];exact h
theorem B5V:∀ (l:List (Nat×Ob)) (f:Nat→Option Ob),B3H l=true→(∀ j o,f j=some o→okT o=true)→∀ j o,put f l j=some o→okT o=true:=by
 intro l
 induction l with
 | nil=>intro f _ h j o;exact h j o
 | cons p r ih =>
  intro f ha h j o hj
  simp only [B3H,C6L] at ha
  refine ih _ ha.2 (fun j o hj=>?_) j o hj
  by_cases hk:j=p.1
  ·subst hk;rw [upd_same] at hj;cases hj;exact ha.1
  ·rw [A4 _ _ hk] at hj;exact h j o hj
theorem C3w {ρ:Nat→Nat} {τ:Nat→Nat→Option Nat} {id:Nat} {o:Ob}:okT (rnO ρ τ id o)=true:=by
 cases o with
 | lp q=>rfl
 | it q=>cases q<;>rfl
 | _=>rfl
theorem B6.usedR {a:A} {v:Value} (h:B6 T e a v):∀ id∈C8 a,e.U id:=by
 by_cases ht:∃ l,a=.t l
 ·obtain ⟨l,rfl⟩:=ht
  obtain ⟨xs,rfl,h2,h3⟩:=h
  have key:∀ (l:List A) (k0:Nat),(∀ (i:Nat) v,l[i]? = some v→∃ x,F8 T e v x)→∀ id∈D4 l,e.U id:=by
   intro l
   induction l with
   | nil=>intro _ _ id A3;cases A3
   | cons a r ih =>
    intro k0 h id A3
    simp only [D4,C6V] at A3
    rcases A3 with A3 | A3
    ·obtain ⟨x,hx⟩:=h 0 a rfl;exact hx.used id A3
    ·exact ih 0 (fun i v hv=>h (i+1) v (by simpa using hv)) id A3
  intro id A3
  refine key l 0 (fun i v hv=>?_) id (by simpa [C8] using A3)
  have hi:i < xs.size:=by
   have:=(List.getElem?_eq_some_iff.1 hv).1;omega
  exact ⟨xs[i],h3 i v _ hv (by simp [hi])⟩
 ·exact (A4i h fun l hl=>ht ⟨l,hl⟩).used
def U0 (P:Program) (T:TT) (f:FuncId) (s:Sym):Prop :=
 ∀ (c:N5) (e:B2) (of:Nat→Option Ob) (args:List A) (vals:Array Value) (nx:Nat) (out:G9),A6 T c e of→s args of nx=some out→(∀ id,nx≤id→id < out.nx→¬ e.U id)→P8 T e args vals.toList→C7 P (callFunc f vals) e.w (U6 T c e of nx out)
theorem V0 {f:FuncId} {s:G2} (hn:s.nat) (hs:U0 P T f s.dir):H6 P T f (trS s).dir:=by
 intro c e of of' args vals nx out hos hrun hro hu hvals
 unfold G2.dir trS at hrun
 simp only at hrun
 generalize W0 of 64 (D4 args) []=L at hrun
 cases hc:(A24 L&&(B3G of L L&&B0c L (D4 args))) with
 | false=>rw [hc] at hrun;cases hrun
 | true =>
 rw [hc] at hrun
 simp only [cond_true] at hrun
 rw [hn G9] at hrun
 obtain ⟨out0,hout0,hk⟩:=A2C hrun
 cases hc2:(Nat.ble L.length out0.nx&&B3H out0.wo) with
 | false=>rw [hc2] at hk;cases hk
 | true =>
 rw [hc2] at hk
 simp only [cond_true,C6N] at hk
 subst hk
 simp only [C6L] at hc hc2
 obtain ⟨hnd,hck,hsa⟩:=hc
 obtain ⟨hm,hat⟩:=hc2
 have hm:=C6Q hm
 have hnd:=A77 hnd
 have hck:=B3I hck
 have hsa:=A6a hsa
 have hobj:∀ id∈L,∃ o,of id=some o∧of' id=some o∧okT o=true∧(∀ k∈A1o o,k∈L)∧OK T e id o:=fun id A3=>by
  obtain ⟨o,h1,h2,h3⟩:=hck id A3
  have h4:of' id=some o:=(hro id A3).trans h1
  exact ⟨o,h1,h4,h2,h3,hos.ok id o h4⟩
 have hbn:∀ id∈L,e.bn id=R3 of id:=fun id A3=>by
  obtain ⟨o,h1,h2,h3,h4,h5⟩:=hobj id A3
  unfold R3
  rw [h1]
  cases o with
  | row el ver xs nl sh=>exact h5.2.2.1
  | box t a sh=>exact h5.2.1
  | map kt et es=>exact h5.2.1
  | vm kt et es=>exact h5.2.1
  | sm kt st el es ho=>exact h5.2.1
  | lp q=>cases q<;>exact h5.2.1
  | it q=>cases q<;>exact h5.2.1
 have hU:∀ id∈L,e.U id:=fun id A3=>by
  obtain ⟨o,_,_,_,_,h5⟩:=hobj id A3;exact h5.use
 have hpos:∀ id∈L,∀ el ver xs nl sh,of id=some (.row el ver xs nl sh)→0 < ver:=fun id A3 el ver xs nl sh h=>by
  obtain ⟨o,h1,_,_,_,h5⟩:=hobj id A3
  rw [h1] at h;cases h;exact h5.2.1
 let g:Nat→Nat:=fun j=>(A25 L j).getD 0
 have hg:∀ j,j < L.length→A25 L j=some (g j)∧g j∈L:=fun j hj=>by
  obtain ⟨id,h1,h2⟩:=A6b hj
  simp only [g,h1];exact ⟨rfl,h2⟩
 let e0:B2:={ w:=e.w,ι:=fun j=>if j < L.length then e.ι (g j) else none,S:=e.S,bn:=fun j=>if R3 of (g j)=0 then 0 else 1,U:=fun j=>j < L.length,ty:=fun j=>e.ty (g j),ln:=fun j=>e.ln (g j),G:=fun a b=>e.G a b∧∃ id∈L,∃ o,e.ι id=some (a,o) }
 let c0:N5:={ w0:=e.w,M:=fun b=>(∃ id∈L,∃ o,e.ι id=some (b,o))∨∃ a,e.G a b∧∃ id∈L,∃ o,e.ι id=some (a,o),S0:=e.S }
 have hgi:∀ id∈L,g (L5 L id)=id∧L5 L id < L.length:=fun id A3=>by
  obtain ⟨h1,h2⟩:=B2j A3
  simp only [g,h1];exact ⟨rfl,h2⟩
 have hig:∀ j,j < L.length→L5 L (g j)=j:=fun j hj=>B9v hnd (hg j hj).1
 have ren0:REN e e0 (L5 L) (A60 of) (fun id=>id∈L):=by
  refine ⟨rfl,fun _ _=>Iff.rfl,fun id A3 _=>(hgi id A3).2,fun id A3 _=>?_,fun id A3 _=>?_,fun id A3 _=>?_,fun id A3 _ hb=>?_,fun id ver v A3 _ hτ h0 hle=>?_,fun id a o b A3 _ hι hG=>⟨hG,id,A3,o,hι⟩⟩
  ·show (if L5 L id < L.length then e.ι (g (L5 L id)) else none)=_
   rw [if_pos (hgi id A3).2,(hgi id A3).1]
  ·show e.ty (g (L5 L id))=_;rw [(hgi id A3).1]
  ·show e.ln (g (L5 L id))=_;rw [(hgi id A3).1]
  ·show (if R3 of (g (L5 L id))=0 then 0 else 1)=0
   rw [(hgi id A3).1,← hbn id A3,if_pos hb]
  ·unfold A60 at hτ
   cases hq:Nat.beq (R3 of id) ver with
   | false=>rw [hq] at hτ;cases hτ
   | true =>
    rw [hq] at hτ;cases hτ
    have hq:=C6K hq
    refine ⟨by omega,?_,fun _=>by rw [hbn id A3,hq]⟩
    show 1≤(if R3 of (g (L5 L id))=0 then 0 else 1)
    rw [(hgi id A3).1,hq,if_neg (by omega)];exact Nat.le_refl 1
 have hcan:∀ j o,ofL (U8 of L L) j=some o→j < L.length∧∃ o1,of (g j)=some o1∧o=rnO (L5 L) (A60 of) (g j) o1:=fun j o hj=>by
  rw [B2k] at hj
  cases hgj:A25 L j with
  | none=>rw [hgj] at hj;cases hj
  | some id =>
   have hlt:=B2i hgj
   obtain ⟨h1,h2⟩:=hg j hlt
   rw [h1] at hj
   obtain ⟨o1,p1,_⟩:=hobj _ h2
   simp only [Option.map_some,C6N,p1] at hj
   exact ⟨hlt,o1,p1,hj.symm⟩
 have hcan1:∀ j,j < L.length→(ofL (U8 of L L) j).isSome:=fun j hj=>by
  rw [B2k,(hg j hj).1];rfl
 have hsome':∀ id∈L,(of' id).isSome:=fun id A3=>by
  obtain ⟨o,_,h2,_⟩:=hobj id A3;rw [h2];rfl
 have hos0:A6 T c0 e0 (ofL (U8 of L L)):=by
  refine ⟨fun j o hj=>?_,fun i j b o b' o' hi hj hbi hbj hne=>?_,fun j b o hj hb=>?_,fun j b o hj hb=>?_,fun b i h=>hos.slt b i h,fun _ _ h=>h,fun _ _ h=>.inl h,rfl,rfl,rfl,Nat.le_refl _,fun _ _ _=>rfl,⟨fun a b hG j b' o hj hb=>?_,fun a a' b h1 h2=>hos.g.uniq a a' b h1.1 h2.1,fun a b hG=>.inr (.inr ⟨a,hG.1,hG.2⟩),fun a b hG=>hos.g.lt a b hG.1⟩⟩
  ·obtain ⟨hlt,o1,h1,rfl⟩:=hcan j o hj
   obtain ⟨o2,p1,p2,p3,p4,p5⟩:=hobj _ (hg j hlt).2
   rw [h1] at p1;cases p1
   have:=p5.ren ren0 (hg j hlt).2 p4 p3 (fun el ver xs nl sh he=>by
    subst he
    have hv:R3 of (g j)=ver:=by unfold R3;rw [h1]
    have hp:=hpos _ (hg j hlt).2 _ _ _ _ _ h1
    refine ⟨1,by unfold A60;rw [hv,Nat.beq_refl];rfl,?_⟩
    show (if R3 of (g (L5 L (g j)))=0 then 0 else 1)=1
    rw [hig j hlt,hv,if_neg (by omega)])
   rw [hig j hlt] at this
   exact this
  ·obtain ⟨oi,hi⟩:=C6P.1 hi
   obtain ⟨oj,hj⟩:=C6P.1 hj
   obtain ⟨li,_⟩:=hcan i oi hi
   obtain ⟨lj,_⟩:=hcan j oj hj
   have hbi:(if i < L.length then e.ι (g i) else none)=some (b,o):=hbi
   have hbj:(if j < L.length then e.ι (g j) else none)=some (b',o'):=hbj
   rw [if_pos li] at hbi;rw [if_pos lj] at hbj
   exact hos.sep _ _ _ _ _ _ (hsome' _ (hg i li).2) (hsome' _ (hg j lj).2) hbi hbj (fun q=>hne (by rw [← hig i li,q,hig j lj]))
  ·obtain ⟨oj,hj⟩:=C6P.1 hj
   obtain ⟨lj,_⟩:=hcan j oj hj
   have hb:(if j < L.length then e.ι (g j) else none)=some (b,o):=hb
   rw [if_pos lj] at hb
   exact .inr (.inl ⟨g j,(hg j lj).2,o,hb⟩)
  ·have lj:j < L.length:=hj
   have hb:(if j < L.length then e.ι (g j) else none)=some (b,o):=hb
   rw [if_pos lj] at hb
   exact hos.lt _ _ _ (hU _ (hg j lj).2) hb
  ·obtain ⟨oj,hj⟩:=C6P.1 hj
   obtain ⟨lj,_⟩:=hcan j oj hj
   have hb:(if j < L.length then e.ι (g j) else none)=some (b',o):=hb
   rw [if_pos lj] at hb
   exact hos.g.sep a b hG.1 (g j) b' o (hsome' _ (hg j lj).2) hb
 have hreps0:P8 T e0 (rnL (L5 L) (A60 of) args) vals.toList:=hvals.ren ren0 hsa
 refine D6 (hs c0 e0 (ofL (U8 of L L)) _ vals L.length out0 hos0 hout0 (fun j h1 _ (h:j < L.length)=>by omega) hreps0) ?_
 rintro x w' ⟨e1,rfl,k1,k2,k3,k4⟩
 have k3:∀ j,e1.U j→j < out0.nx:=fun j hj=>by
  rcases k3 j hj with h | h
  ·have h:j < L.length:=h;omega
  ·exact h.2
 have k3':∀ j,j < L.length→e1.U j:=fun j hj=>k2.use j hj
 let img:Nat→Prop:=fun id=>id∈L∨(nx≤id∧id < nx+(out0.nx - L.length))
 let inv:Nat→Nat:=fun id=>if id∈L then L5 L id else L.length+(id - nx)
 let dl:Nat→Nat:=fun j=>if j < L.length then R3 of (g j) - 1 else 0
 haveI:∀ id,Decidable (img id):=fun id=>inferInstanceAs (Decidable (id∈L∨(nx≤id∧id < nx+(out0.nx - L.length))))
 let e2:B2:={ w:=e1.w,S:=e1.S,ι:=fun id=>if img id then e1.ι (inv id) else e.ι id,bn:=fun id=>if img id then e1.bn (inv id)+dl (inv id) else e.bn id,U:=fun id=>if img id then e1.U (inv id) else e.U id,ty:=fun id=>if img id then e1.ty (inv id) else e.ty id,ln:=fun id=>if img id then e1.ln (inv id) else e.ln id,G:=fun a b=>e1.G a b∨(e.G a b∧¬ ∃ id∈L,∃ o,e.ι id=some (a,o)) }
 have hnew:∀ id,nx≤id→id < nx+(out0.nx - L.length)→id ∉ L:=fun id h1 h2 A3=>hu id h1 h2 (hU id A3)
 have hrho:∀ j,j < out0.nx→img (G6 L nx j)∧inv (G6 L nx j)=j:=fun j hj=>by
  by_cases hl:j < L.length
  ·obtain ⟨h1,h2⟩:=hg j hl
   have:G6 L nx j=g j:=by unfold G6;rw [h1]
   rw [this]
   refine ⟨.inl h2,?_⟩
   simp only [inv];rw [if_pos h2,hig j hl]
  ·have:G6 L nx j=nx+(j - L.length):=by unfold G6;rw [Z6 (by omega)]
   rw [this]
   have hlt:nx+(j - L.length) < nx+(out0.nx - L.length):=by omega
   refine ⟨.inr ⟨by omega,hlt⟩,?_⟩
   simp only [inv];rw [if_neg (hnew _ (by omega) hlt)];omega
 have hinv:∀ id,img id→inv id < out0.nx∧G6 L nx (inv id)=id:=fun id A3=>by
  by_cases hl:id∈L
  ·obtain ⟨h1,h2⟩:=B2j hl
   simp only [inv];rw [if_pos hl]
   refine ⟨by omega,?_⟩
   unfold G6;rw [h1]
  ·have A3:=A3.resolve_left hl
   simp only [inv];rw [if_neg hl]
   refine ⟨by omega,?_⟩
   unfold G6;rw [Z6 (by omega)];simp only;omega
 have hrinj:∀ i j,i < out0.nx→j < out0.nx→G6 L nx i=G6 L nx j→i=j:=fun i j hi hj h=>by
  rw [← (hrho i hi).2,← (hrho j hj).2,h]
 have ren1:REN e1 e2 (G6 L nx) (A5I of L) (fun j=>e1.U j):=by
  refine ⟨rfl,fun _ _=>Iff.rfl,fun j _ hj=>?_,fun j _ hj=>?_,fun j _ hj=>?_,fun j _ hj=>?_,fun j _ hj hb=>?_,fun j ver v _ hj hτ h0 hle=>?_,fun _ _ _ _ _ _ _ hG=>.inl hG⟩
  ·show if img (G6 L nx j) then e1.U (inv (G6 L nx j)) else e.U (G6 L nx j)
   obtain ⟨h1,h2⟩:=hrho j (k3 j hj)
   rw [if_pos h1,h2];exact hj
  ·show (if img (G6 L nx j) then e1.ι (inv (G6 L nx j)) else e.ι (G6 L nx j))=_
   obtain ⟨h1,h2⟩:=hrho j (k3 j hj)
   rw [if_pos h1,h2]
  ·show (if img (G6 L nx j) then e1.ty (inv (G6 L nx j)) else e.ty (G6 L nx j))=_
   obtain ⟨h1,h2⟩:=hrho j (k3 j hj)
   rw [if_pos h1,h2]
  ·show (if img (G6 L nx j) then e1.ln (inv (G6 L nx j)) else e.ln (G6 L nx j))=_
   obtain ⟨h1,h2⟩:=hrho j (k3 j hj)
   rw [if_pos h1,h2]
  ·show (if img (G6 L nx j) then e1.bn (inv (G6 L nx j))+dl (inv (G6 L nx j)) else e.bn (G6 L nx j))=0
   obtain ⟨h1,h2⟩:=hrho j (k3 j hj)
   rw [if_pos h1,h2,hb]
   simp only [dl]
   by_cases hl:j < L.length
   ·rw [if_pos hl]
    have:=k2.up j hl
    have hq:(if R3 of (g j)=0 then 0 else 1)≤e1.bn j:=this
    by_cases hv:R3 of (g j)=0
    ·omega
    ·rw [if_neg hv] at hq;omega
   ·rw [if_neg hl]
  ·have e2bn:e2.bn (G6 L nx j)=e1.bn j+dl j:=by
    show (if img (G6 L nx j) then e1.bn (inv (G6 L nx j))+dl (inv (G6 L nx j)) else e.bn (G6 L nx j))=_
    obtain ⟨h1,h2⟩:=hrho j (k3 j hj)
    rw [if_pos h1,h2]
   have hv:v=ver+dl j:=by
    unfold A5I at hτ
    simp only [dl]
    by_cases hl:j < L.length
    ·rw [(hg j hl).1] at hτ;rw [if_pos hl];simpa using hτ.symm
    ·rw [Z6 (by omega)] at hτ;rw [if_neg hl];simpa using hτ.symm
   rw [e2bn,hv]
   exact ⟨by omega,by omega,fun h=>by omega⟩
 have imgU:∀ id,img id→e.U id→id∈L:=fun id A3 hU'=>by
  rcases A3 with h | h
  ·exact h
  ·exact absurd hU' (hu id h.1 h.2)
 have le2:e.le e2:=by
  refine ⟨fun b i h=>⟨(k2.S b i h).1,fun y hy=>(k2.S b i h).2 y hy⟩,fun id A3=>?_,fun id A3 hbe=>?_,fun id A3 hb=>?_,fun id A3=>?_,fun id A3=>?_,k2.grow,k2.keep⟩
  ·show if img id then e1.U (inv id) else e.U id
   by_cases hi:img id
   ·have hl:=imgU id hi A3
    rw [if_pos hi]
    refine k3' _ ?_
    simp only [inv];rw [if_pos hl];exact (hgi id hl).2
   ·rw [if_neg hi];exact A3
  ·by_cases hi:img id
   ·have hl:=imgU id hi A3
    have hiv:inv id=L5 L id:=by simp only [inv];rw [if_pos hl]
    have hbe:(if img id then e1.bn (inv id)+dl (inv id) else e.bn id)=e.bn id:=hbe
    rw [if_pos hi,hiv] at hbe
    have hlt:=(hgi id hl).2
    have hdl:dl (L5 L id)=R3 of id - 1:=by simp only [dl];rw [if_pos hlt,(hgi id hl).1]
    have hb0:e0.bn (L5 L id)=if R3 of id=0 then 0 else 1:=by
     show (if R3 of (g (L5 L id))=0 then 0 else 1)=_
     rw [(hgi id hl).1]
    have hup:=k2.up _ hlt
    rw [hbn id hl,hdl] at hbe
    have heq:e1.bn (L5 L id)=e0.bn (L5 L id):=by
     rw [hb0] at hup ⊢
     by_cases hv:R3 of id=0
     ·rw [if_pos hv] at hup ⊢;omega
     ·rw [if_neg hv] at hup ⊢;omega
    obtain ⟨q1,q2,q3⟩:=k2.obj _ hlt heq
    have i0:e0.ι (L5 L id)=e.ι id:=by
     show (if L5 L id < L.length then e.ι (g (L5 L id)) else none)=_
     rw [if_pos hlt,(hgi id hl).1]
    refine ⟨?_,?_,fun b o hb=>?_⟩
    ·show (if img id then e1.ι (inv id) else e.ι id)=_
     rw [if_pos hi,hiv,q1,i0]
    ·show (if img id then e1.ln (inv id) else e.ln id)=_
     rw [if_pos hi,hiv,q2]
     show e.ln (g (L5 L id))=_
     rw [(hgi id hl).1]
    ·exact q3 b o (by rw [i0];exact hb)
   ·refine ⟨?_,?_,fun b o hb=>k2.keep b (hos.lt _ _ _ A3 hb)⟩
    ·show (if img id then e1.ι (inv id) else e.ι id)=_;rw [if_neg hi]
    ·show (if img id then e1.ln (inv id) else e.ln id)=_;rw [if_neg hi]
  ·show (if img id then e1.bn (inv id)+dl (inv id) else e.bn id)=0
   by_cases hi:img id
   ·have hl:=imgU id hi A3
    have hiv:inv id=L5 L id:=by simp only [inv];rw [if_pos hl]
    have hlt:=(hgi id hl).2
    have hv:R3 of id=0:=by rw [← hbn id hl];exact hb
    rw [if_pos hi,hiv]
    have hb0:e0.bn (L5 L id)=0:=by
     show (if R3 of (g (L5 L id))=0 then 0 else 1)=0
     rw [(hgi id hl).1,if_pos hv]
    have:=k2.box _ hlt hb0
    have hdl:dl (L5 L id)=0:=by simp only [dl];rw [if_pos hlt,(hgi id hl).1];omega
    omega
   ·rw [if_neg hi];exact hb
  ·show e.bn id≤(if img id then e1.bn (inv id)+dl (inv id) else e.bn id)
   by_cases hi:img id
   ·have hl:=imgU id hi A3
    have hiv:inv id=L5 L id:=by simp only [inv];rw [if_pos hl]
    have hlt:=(hgi id hl).2
    rw [if_pos hi,hiv,hbn id hl]
    have hup:=k2.up _ hlt
    have hb0:e0.bn (L5 L id)=if R3 of id=0 then 0 else 1:=by
     show (if R3 of (g (L5 L id))=0 then 0 else 1)=_
     rw [(hgi id hl).1]
    have hdl:dl (L5 L id)=R3 of id - 1:=by simp only [dl];rw [if_pos hlt,(hgi id hl).1]
    rw [hb0] at hup
    by_cases hv:R3 of id=0
    ·omega
    ·rw [if_neg hv] at hup;omega
   ·rw [if_neg hi];exact Nat.le_refl _
  ·show (if img id then e1.ty (inv id) else e.ty id)=_
   by_cases hi:img id
   ·have hl:=imgU id hi A3
    have hiv:inv id=L5 L id:=by simp only [inv];rw [if_pos hl]
    have hlt:=(hgi id hl).2
    rw [if_pos hi,hiv,k2.ty _ hlt]
    show e.ty (g (L5 L id))=_
    rw [(hgi id hl).1]
   ·rw [if_neg hi]
 have hfin:∀ j,put (ofL (U8 of L L)) out0.wo j=put (put (fun _=>none) (A03 0 (U8 of L L))) out0.wo j:=fun j=>by
  refine A3l _ ?_
  rw [B2l,if_pos (Nat.zero_le _),Nat.sub_zero]
  cases ofL (U8 of L L) j<;>rfl
 have hids:∀ i∈T2 (A03 0 (U8 of L L)++out0.wo),i < out0.nx:=fun i hi=>by
  have hs1:(put (ofL (U8 of L L)) out0.wo i).isSome:=by
   rw [hfin,← F6]
   exact B0d _ _ _ (.inl hi)
  obtain ⟨o,ho⟩:=C6P.1 hs1
  exact k3 _ (k1.ok _ _ ho).use
 have hput1:∀ j,j < out0.nx→put of' (Y5 of L nx (A03 0 (U8 of L L)++out0.wo)) (G6 L nx j)=(put (ofL (U8 of L L)) out0.wo j).map (rnO (G6 L nx) (A5I of L) j):=fun j hj=>by
  rw [hfin,← F6]
  by_cases hl:j < L.length
  ·-- overwritten by its own
   have:put of' (Y5 of L nx (A03 0 (U8 of L L)++out0.wo)) (G6 L nx j)=put (fun _=>none) (Y5 of L nx (A03 0 (U8 of L L)++out0.wo)) (G6 L nx j):=by
    have happ:Y5 of L nx (A03 0 (U8 of L L)++out0.wo)=Y5 of L nx (A03 0 (U8 of L L))++Y5 of L nx out0.wo:=by
     generalize A03 0 (U8 of L L)=l1
     induction l1 with
     | nil=>rfl
     | cons p r ih=>simp only [List.cons_append,Y5,ih]
    rw [happ,F6,F6]
    refine A3l _ ?_
    have hsomeN:(put (fun _=>none) (A03 0 (U8 of L L)) j).isSome:=by
     rw [B2l,if_pos (Nat.zero_le _),Nat.sub_zero]
     obtain ⟨o,ho⟩:=C6P.1 (hcan1 j hl)
     rw [ho];rfl
    have hin:∀ i∈T2 (A03 0 (U8 of L L)),G6 L nx i=G6 L nx j→i=j:=fun i hi h=>hrinj i j (hids i (by simp only [T2,List.map_append,C6V];exact .inl hi)) hj h
    have key:∀ (l:List (Nat×Ob)) (f g:Nat→Option Ob) (id:Nat),(put (fun _=>none) l id).isSome∨f id=g id→put f l id=put g l id:=by
     intro l
     induction l with
     | nil=>intro f g id h;rcases h with h | h
            ·cases h
            ·exact h
     | cons p r ih =>
      intro f g id h
      refine ih _ _ id ?_
      by_cases A3:id=p.1
      ·right;subst A3;rw [upd_same,upd_same]
      ·rw [A4 _ _ A3,A4 _ _ A3]
       rcases h with h | h
       ·left
        have:put (F2 (fun _=>none) p.1 (some p.2)) r id=put (fun _=>none) r id:=A3l r (A4 _ _ A3)
        rw [← this];exact h
       ·exact .inr h
    refine key _ _ _ _ (.inl ?_)
    rw [A4z (of:=of) (A03 0 (U8 of L L)) (fun _=>none) (fun _=>none) j hin rfl]
    obtain ⟨o,ho⟩:=C6P.1 hsomeN
    rw [ho];rfl
   rw [this]
   exact A4z (of:=of) _ _ _ j (fun i hi h=>hrinj i j (hids i hi) hj h) rfl
  ·refine A4z (of:=of) _ _ _ j (fun i hi h=>hrinj i j (hids i hi) hj h) ?_
   have hr:G6 L nx j=nx+(j - L.length):=by unfold G6;rw [Z6 (by omega)]
   cases hq:of' (G6 L nx j) with
   | none=>rfl
   | some o =>
    have:=(hos.ok _ _ hq).use
    rw [hr] at this
    exact absurd this (hu _ (by omega) (by show nx+(j - L.length) < nx+(out0.nx - L.length);omega))
 have hput2:∀ id,¬ img id→put of' (Y5 of L nx (A03 0 (U8 of L L)++out0.wo)) id=of' id:=fun id A3=>B9w _ _ _ (fun i hi h=>A3 (h ▸ (hrho i (hids i hi)).1))
 have hall:∀ j o,put (ofL (U8 of L L)) out0.wo j=some o→okT o=true:=B5V _ _ hat (fun j o hj=>by
  obtain ⟨_,o1,_,rfl⟩:=hcan j o hj;exact C3w)
 have himgO:∀ id o,img id→put of' (Y5 of L nx (A03 0 (U8 of L L)++out0.wo)) id=some o→∃ o1,put (ofL (U8 of L L)) out0.wo (inv id)=some o1∧o=rnO (G6 L nx) (A5I of L) (inv id) o1:=fun id o A3 ho=>by
  obtain ⟨h1,h2⟩:=hinv id A3
  rw [← h2,hput1 _ h1] at ho
  cases hq:put (ofL (U8 of L L)) out0.wo (inv id) with
  | none=>rw [hq] at ho;cases ho
  | some o1=>rw [hq] at ho;exact ⟨o1,rfl,by simpa using ho.symm⟩
 have hι2:∀ id,img id→e2.ι id=e1.ι (inv id):=fun id A3=>by
  show (if img id then e1.ι (inv id) else e.ι id)=_;rw [if_pos A3]
 have hι2':∀ id,¬ img id→e2.ι id=e.ι id:=fun id A3=>by
  show (if img id then e1.ι (inv id) else e.ι id)=_;rw [if_neg A3]
 have hM:∀ b,c0.M b→c.w0.heap.size≤b∨c.M b:=fun b hb=>by
  rcases hb with ⟨id,A3,o,hb⟩ | ⟨a,hG,_⟩
  ·exact hos.own id b o (hsome' id A3) hb
  ·exact hos.g.own a b hG
 have hGM:∀ a b,e.G a b→(¬ ∃ id∈L,∃ o,e.ι id=some (a,o))→¬ c0.M b:=fun a b hG hn hb=>by
  rcases hb with ⟨id,A3,o,hb⟩ | ⟨a',hG',hL⟩
  ·exact hos.g.sep a b hG id b o (hsome' id A3) hb rfl
  ·exact hn (hos.g.uniq _ _ _ hG hG' ▸ hL)
 have hnM:∀ id b o,¬ img id→(of' id).isSome→e.ι id=some (b,o)→¬ c0.M b∧b < e.w.heap.size:=fun id b o A3 hs1 hb=>by
  obtain ⟨o1,ho1⟩:=C6P.1 hs1
  refine ⟨fun hMb=>?_,hos.lt _ _ _ (hos.ok _ _ ho1).use hb⟩
  rcases hMb with ⟨id',hid',o',hb'⟩ | ⟨a,hG,_⟩
  ·exact absurd rfl (hos.sep id id' b o b o' hs1 (hsome' id' hid') hb hb' (fun q=>A3 (.inl (q ▸ hid'))))
  ·exact hos.g.sep a b hG id b o hs1 hb rfl
 refine ⟨e2,rfl,?_,le2,fun id A3=>?_,?_⟩
 ·show A6 T c e2 (put of' (Y5 of L nx (A03 0 (U8 of L L)++out0.wo)))
  refine ⟨fun id o ho=>?_,fun i j b o b' o' hi hj hbi hbj hne=>?_,fun id b o A3 hb=>?_,fun id b o A3 hb=>?_,fun b i h=>k1.slt b i h,fun b i h=>(k2.S b i (hos.s0 b i h)).1,fun b i h=>?_,k1.os.trans hos.os,k1.tape.trans hos.tape,k1.output.trans hos.output,Nat.le_trans hos.size k1.size,fun k hk hm'=>?_,⟨fun a b hG j b' o hj hb=>?_,fun a a' b h1 h2=>?_,fun a b hG=>?_,fun a b hG=>?_⟩⟩
  ·by_cases hi:img id
   ·obtain ⟨o1,h1,rfl⟩:=himgO id o hi ho
    have hok1:=k1.ok _ _ h1
    have:=hok1.ren ren1 hok1.use (fun k hk=>hok1.used k hk) (hall _ _ h1) (fun el ver xs nl sh he=>by
     subst he
     have hj:=k3 _ hok1.use
     have hτ:A5I of L (inv id) ver=some (ver+dl (inv id)):=by
      unfold A5I
      simp only [dl]
      by_cases hl:inv id < L.length
      ·rw [(hg _ hl).1,if_pos hl]
      ·rw [Z6 (by omega),if_neg hl];rfl
     refine ⟨_,hτ,?_⟩
     show (if img (G6 L nx (inv id)) then e1.bn (inv (G6 L nx (inv id)))+dl (inv (G6 L nx (inv id))) else e.bn (G6 L nx (inv id)))=_
     obtain ⟨q1,q2⟩:=hrho _ hj
     rw [if_pos q1,q2,hok1.2.2.1])
    rw [(hinv id hi).2] at this
    exact this
   ·rw [hput2 id hi] at ho
    refine (hos.ok id o ho).keep le2 (by show (if img id then e1.bn (inv id)+dl (inv id) else e.bn id)=_;rw [if_neg hi]) (fun b o' hb=>?_) (fun b o' i hb hs'=>?_) (fun a o' b hb hG=>?_)
    ·obtain ⟨h1,h2⟩:=hnM id b o' hi (by rw [ho];rfl) hb
     exact k1.block b h2 h1
    ·obtain ⟨h1,h2⟩:=hnM id b o' hi (by rw [ho];rfl) hb
     rcases k1.snew b i hs' with h | h | h
     ·exact h
     ·have h:e.w.heap.size≤b:=h;omega
     ·exact absurd h h1
    ·obtain ⟨h1,h2⟩:=hnM id a o' hi (by rw [ho];rfl) hb
     have hn:¬ ∃ id∈L,∃ o,e.ι id=some (a,o):=fun q=>h1 (.inl q)
     have hb1:=hGM a b hG hn
     have hlt:=hos.g.lt a b hG
     refine ⟨.inr ⟨hG,hn⟩,k1.block b hlt hb1,fun i hs'=>?_⟩
     rcases k1.snew b i hs' with h | h | h
     ·exact h
     ·have h:e.w.heap.size≤b:=h;omega
     ·exact absurd h hb1
  ·by_cases h1:img i<;>by_cases h2:img j
   ·rw [hι2 i h1] at hbi;rw [hι2 j h2] at hbj
    obtain ⟨oi,hi⟩:=C6P.1 hi
    obtain ⟨oj,hj⟩:=C6P.1 hj
    obtain ⟨o1,p1,_⟩:=himgO i oi h1 hi
    obtain ⟨o2,p2,_⟩:=himgO j oj h2 hj
    exact k1.sep _ _ _ _ _ _ (by rw [p1];rfl) (by rw [p2];rfl) hbi hbj (fun q=>hne (by rw [← (hinv i h1).2,q,(hinv j h2).2]))
   ·rw [hι2 i h1] at hbi;rw [hι2' j h2] at hbj
    obtain ⟨oi,hi⟩:=C6P.1 hi
    obtain ⟨o1,p1,_⟩:=himgO i oi h1 hi
    rw [hput2 j h2] at hj
    obtain ⟨q1,q2⟩:=hnM j b' o' h2 hj hbj
    rcases k1.own _ b o (by rw [p1];rfl) hbi with h | h
    ·have h:e.w.heap.size≤b:=h;intro q;omega
    ·intro q;exact q1 (q ▸ h)
   ·rw [hι2' i h1] at hbi;rw [hι2 j h2] at hbj
    obtain ⟨oj,hj⟩:=C6P.1 hj
    obtain ⟨o2,p2,_⟩:=himgO j oj h2 hj
    rw [hput2 i h1] at hi
    obtain ⟨q1,q2⟩:=hnM i b o h1 hi hbi
    rcases k1.own _ b' o' (by rw [p2];rfl) hbj with h | h
    ·have h:e.w.heap.size≤b':=h;intro q;omega
    ·intro q;exact q1 (q ▸ h)
   ·rw [hι2' i h1] at hbi;rw [hι2' j h2] at hbj
    rw [hput2 i h1] at hi;rw [hput2 j h2] at hj
    exact hos.sep _ _ _ _ _ _ hi hj hbi hbj hne
  ·by_cases h1:img id
   ·rw [hι2 id h1] at hb
    obtain ⟨o1,A3⟩:=C6P.1 A3
    obtain ⟨o2,p1,_⟩:=himgO id o1 h1 A3
    rcases k1.own _ b o (by rw [p1];rfl) hb with h | h
    ·have h:e.w.heap.size≤b:=h
     have:=hos.size;exact .inl (by omega)
    ·exact hM b h
   ·rw [hι2' id h1] at hb;rw [hput2 id h1] at A3
    exact hos.own id b o A3 hb
  ·by_cases h1:img id
   ·rw [hι2 id h1] at hb
    have A3:if img id then e1.U (inv id) else e.U id:=A3
    rw [if_pos h1] at A3
    exact k1.lt _ _ _ A3 hb
   ·rw [hι2' id h1] at hb
    have A3:if img id then e1.U (inv id) else e.U id:=A3
    rw [if_neg h1] at A3
    have:=hos.lt _ _ _ A3 hb
    have:=k2.grow
    have:e.w.heap.size≤e1.w.heap.size:=this
    show b < e1.w.heap.size;omega
  ·rcases k1.snew b i h with h | h | h
   ·exact hos.snew b i h
   ·have h:e.w.heap.size≤b:=h
    have:=hos.size;exact .inr (.inl (by omega))
   ·exact .inr (hM b h)
  ·have hnm:¬ c0.M k:=fun h=>by
    rcases hM k h with h | h
    ·omega
    ·exact hm' h
   exact (k1.block k (Nat.lt_of_lt_of_le hk hos.size) hnm).trans (hos.block k hk hm')
  ·have hG:e1.G a b∨(e.G a b∧¬ ∃ id∈L,∃ o,e.ι id=some (a,o)):=hG
   by_cases h1:img j
   ·rw [hι2 j h1] at hb
    obtain ⟨o1,hj⟩:=C6P.1 hj
    obtain ⟨o2,p1,_⟩:=himgO j o1 h1 hj
    rcases hG with hG | ⟨hG,hn⟩
    ·exact k1.g.sep a b hG (inv j) b' o (by rw [p1];rfl) hb
    ·have hlt:=hos.g.lt a b hG
     rcases k1.own _ b' o (by rw [p1];rfl) hb with h | h
     ·have h:e.w.heap.size≤b':=h;intro q;omega
     ·intro q;exact hGM a b hG hn (q ▸ h)
   ·rw [hι2' j h1] at hb
    rw [hput2 j h1] at hj
    obtain ⟨q1,q2⟩:=hnM j b' o h1 hj hb
    rcases hG with hG | ⟨hG,hn⟩
    ·rcases k1.g.own a b hG with h | h
     ·have h:e.w.heap.size≤b:=h;intro q;omega
     ·intro q;exact q1 (q ▸ h)
    ·exact hos.g.sep a b hG j b' o hj hb
  ·have h1:e1.G a b∨(e.G a b∧¬ ∃ id∈L,∃ o,e.ι id=some (a,o)):=h1
   have h2:e1.G a' b∨(e.G a' b∧¬ ∃ id∈L,∃ o,e.ι id=some (a',o)):=h2
   have cross:∀ a a',e1.G a b→e.G a' b→(¬ ∃ id∈L,∃ o,e.ι id=some (a',o))→False:=fun a a' g1 g2 hn=>by
    have hlt:=hos.g.lt a' b g2
    rcases k1.g.own a b g1 with h | h
    ·have h:e.w.heap.size≤b:=h;omega
    ·exact hGM a' b g2 hn h
   rcases h1 with h1 | ⟨h1,n1⟩<;>rcases h2 with h2 | ⟨h2,n2⟩
   ·exact k1.g.uniq _ _ _ h1 h2
   ·exact (cross a a' h1 h2 n2).elim
   ·exact (cross a' a h2 h1 n1).elim
   ·exact hos.g.uniq _ _ _ h1 h2
  ·have hG:e1.G a b∨(e.G a b∧¬ ∃ id∈L,∃ o,e.ι id=some (a,o)):=hG
   rcases hG with hG | ⟨hG,_⟩
   ·rcases k1.g.own a b hG with h | h
    ·have h:e.w.heap.size≤b:=h
     have:=hos.size;exact .inl (by omega)
    ·exact hM b h
   ·exact hos.g.own a b hG
  ·have hG:e1.G a b∨(e.G a b∧¬ ∃ id∈L,∃ o,e.ι id=some (a,o)):=hG
   rcases hG with hG | ⟨hG,_⟩
   ·exact k1.g.lt a b hG
   ·have:=hos.g.lt a b hG
    have:=k2.grow
    have:e.w.heap.size≤e1.w.heap.size:=this
    show b < e1.w.heap.size;omega
 ·have A3:if img id then e1.U (inv id) else e.U id:=A3
  by_cases h1:img id
  ·rcases h1 with h | h
   ·exact .inl (hU id h)
   ·exact .inr h
  ·rw [if_neg h1] at A3;exact .inl A3
 ·exact k4.ren ren1 (fun id A3=>k4.usedR id A3)
variable {P:Program} {T:TT} {c:N5} {e eb:B2} {of of':Nat→Option Ob}
def B5W (of:Nat→Option Ob):Nat→List (Nat×Ob)
 | 0=>[]
 | n+1=>match of n with
  | some o=>(n,o)::B5W of n
  | none=>B5W of n
def dnL:Nat→List Nat
 | 0=>[]
 | n+1=>n::dnL n
def B0e (of:Nat→Option Ob) (n:Nat):Tr:=A0q .e (B5W of n)
theorem B9x {n id:Nat} (h:id < n):id∈dnL n:=by
 induction n with
 | zero=>cases h
 | succ n ih =>
  simp only [dnL,List.mem_cons]
  by_cases A3:id=n
  ·exact .inl A3
  ·exact .inr (ih (by omega))
theorem B5X {n:Nat}:(∀ id,id < n→of' id=of id)→put of' (B5W of n)=of':=by
 induction n with
 | zero=>intro _;rfl
 | succ n ih =>
  intro h
  have e:=ih (fun id A3=>h id (by omega))
  simp only [B5W]
  cases ho:of n with
  | none=>exact e
  | some o =>
   simp only [put]
   have:F2 of' n (some o)=of':=by
    funext k
    by_cases hk:k=n
    ·subst hk;rw [upd_same,h k (by omega),ho]
    ·rw [A4 _ _ hk]
   rw [this];exact e
theorem B3J {n:Nat} (h:∀ id,id < n→of' id=of id):C2 (B0e of n) of'=of':=by
 unfold B0e
 rw [A0b]
 have:C2 Tr.e of'=of':=by funext id;unfold C2;rw [Tr.get_e]
 rw [this];exact B5X h
def B3K (P:Program) (T:TT) (K:KS) (Lo:Nat→A3o) (fu f:Nat):Sym:=fun args of nx =>
 match P.funcs[f]? with
 | some fn=>match fn.body with
  | some code=>if !(fn.name == "runtime.NumGoroutine")&&Nat.ble args.length fn.ntmps then
    (match P0 T K (Lo nx) fu fn.ntmps of code ⟨A2Q 0 args,B0e of nx,dnL nx,nx,some []⟩ with
    | some (ex,σ)=>if B48 ex then
      (match σ.mks with
      | some ms=>if A7x nx σ.nx σ.ob.get ms then
       (match A3r T (F4 σ.sl) (C2 σ.ob of) fn.results.toList with
       | some (v,ro)=>some (A3P ms (A2P nx v σ ro))
       | none=>none) else none
      | none=>none) else none
    | none=>none) else none
  | none=>none
 | none=>none
theorem B9y (hm:P.follows .mixedOrders=true) (hT:H7 T P) {K:KS} (hK:KOK P T K) {Lo:Nat→A3o} {fu f:Nat} (hL:∀ n0 fn code,P.funcs[f]? = some fn→fn.body=some code→L8 P T fn.ntmps n0 (Lo n0) code):H6 P T f (B3K P T K Lo fu f):=by
 intro c e of of' args vals nx out hos hr hro hu hvals
 unfold B3K at hr
 split at hr<;>try (cases hr;done)
 rename_i fn hf
 split at hr<;>try (cases hr;done)
 rename_i code hb
 split at hr<;>try (cases hr;done)
 rename_i hcc
 simp only [C6L,Bool.not_eq_true'] at hcc
 obtain ⟨hn,hargs⟩:=hcc
 have hargs:=C6Q hargs
 split at hr<;>try (cases hr;done)
 rename_i ex σ hx
 split at hr<;>try (cases hr;done)
 rename_i hend
 split at hr<;>try (cases hr;done)
 rename_i ms hmk
 split at hr<;>try (cases hr;done)
 rename_i hmb
 obtain ⟨hms,hnd⟩:=A6v _ hmb
 split at hr<;>try (cases hr;done)
 rename_i v ro hres
 injection hr with hr
 obtain ⟨q1,q2,q3,q4⟩:=A5e ms (A2P nx v σ ro)
 obtain ⟨o1,o2,o3,o4⟩:=A12 nx v σ ro
 rw [hr] at q1 q2 q3 q4
 have o1:=q1.trans o1
 have o2:=q2.trans o2
 have o3:=q3.trans o3
 have hcall:(callFunc f vals).run P e.w=.ok (.enter f vals) e.w:=by
  have hn':¬ fn.name="runtime.NumGoroutine":=by simpa using hn
  simp [callFunc,hf,hn',hb]
 refine .inr (.inr (.inl ⟨f,vals,e.w,hcall,?_⟩))
 refine (callsIn_wide (n:=0)).1 (callsIn_of_wp_marks (F:=WF none) hf hb trivial ?_ rfl)
 have hlen:=hvals.get.1
 rw [C6R] at hlen
 obtain ⟨l1,k1⟩:=A2O (of:=of) (n0:=nx) hm hT hK code (hL nx fn code hf hb) _ _ _ hx
 have hsim:Sim T { c with rd:=none } e of' nx fn.ntmps ⟨A2Q 0 args,B0e of nx,dnL nx,nx,some []⟩ { tmps:=vals++Array.replicate (fn.ntmps - vals.size) undef,defers:=[] } e.w:=by
  refine ⟨e,rfl,?_,B2.le.refl e,fun id A3=>.inl A3,fun t=>?_,⟨rfl,.nil⟩,by simp;omega⟩
  ·have:C2 (B0e of nx) of'=of':=B3J fun id A3=>hro id (by rw [o2];exact Q3 _ _ _ _ (l1.1 _ (B9x A3)))
   rw [this];exact hos.ctx none
  ·show B6 T e (F4 (A2Q 0 args) t) _
   rw [A6u,if_neg (by omega),Nat.sub_zero]
   by_cases ht:t < args.length
   ·have h1:args[t]? = some args[t]:=C6X ht
    have h2:vals.toList[t]? = some vals[t]:=by rw [Array.getElem?_toList];exact Array.getElem?_eq_getElem (by omega)
    have:=hvals.get.2 t _ _ h1 h2
    have e1:args.getD t .x=args[t]:=by simp [List.getD,h1]
    have e2:(vals++Array.replicate (fn.ntmps - vals.size) undef).getD t undef=vals[t]:=by
     have:t < vals.size:=by omega
     simp [Array.getD,Array.getElem_append_left this]
     omega
    rw [e1]
    show B6 T e _ ((vals++Array.replicate (fn.ntmps - vals.size) undef).getD t undef)
    rw [e2];exact this
   ·rw [show args.getD t .x=.x by simp [List.getD,List.getElem?_eq_none (by omega:args.length≤t)]]
    trivial
 have hfit:A2f of of' e nx σ:=⟨fun id A3=>hro id (by rw [o2];exact Q3 _ _ _ _ A3),fun id h1 h2=>hu id h1 (by rw [o3];exact h2)⟩
 refine P9 ?_ (k1 0 of' { c with rd:=none } e _ _ (Nat.le_refl _) hfit hos.ok hsim)
 rintro ex' a w ⟨rfl,e',rfl,hst⟩
 have hmarks:=hst.def_
 rw [hmk] at hmarks
 have hms':∀ id∈ms,C2 σ.ob of' id=some (.lp none):=fun id A3=>A11 (hms id A3).1
 have fin:LeavesInM (WF none) 0 P fn a.tmps (fun en w'=>∃ x,en=.returned x∧U6 T c e of' nx out x w') a.defers .returning e'.w:=by
  refine A2R ms a.defers e' (C2 σ.ob of') hmarks.2 hms' hnd hst.os (fun e2 hle hu2 hos2=>?_)
  have hst2:V5 T { c with rd:=none } e (F4 σ.sl) (Y6 ms (C2 σ.ob of')) (fun id=>e.U id∨(nx≤id∧id < σ.nx)) fn.ntmps σ.mks a e2 :=
   ⟨hos2,hst.le.trans hle,fun id A3=>hst.U id (hu2 id A3),fun t=>(hst.sl t).mono hle,hst.def_.mono hle,hst.nt⟩
  have hres2:A3r T (F4 σ.sl) (Y6 ms (C2 σ.ob of)) fn.results.toList=some (v,ro):=by
   refine A5f (fun id t b sh A3=>?_) hres
   unfold Y6
   have:mem id ms=false:=by
    rw [← Bool.not_eq_true];intro q
    rw [A11 (of:=of) (hms id (mem_iff.1 q)).1] at A3;cases A3
   rw [this];exact A3
  have hagree:=W7 (ob:=σ.ob) (rd:=out.ro) (ro:=ro) (l:=σ.rd) (of:=of) (of':=of') (fun id A3=>hro id A3) (by rw [o2];exact fun _ h=>h)
  obtain ⟨x,g1,g2⟩:=B2Q hT fn hst2 hres2 (fun id A3=>by
   unfold Y6
   rw [hagree id A3])
  refine ⟨x,g1,x,rfl,e2,rfl,?_,hst2.le,fun id A3=>by rw [o3];exact hst2.U id A3,by rw [o1];exact g2⟩
  refine (hos2.unctx).sub (fun id o ho=>?_)
  rcases q4 of' id o ho with ⟨h1,h2⟩ | ⟨h1,h2⟩
  ·obtain ⟨_,h3,h4⟩:=hms id h1
   exact absurd (hos.ok _ _ h2).use (hfit.fr id h3 h4)
  ·have:=A5d (of':=of') hos.ok hfit.fr id o h2
   unfold Y6
   have hm':mem id ms=false:=by
    rw [← Bool.not_eq_true];intro q;exact h1 (mem_iff.1 q)
   rw [hm'];exact this
 cases ex' with
 | ret=>exact fin
 | normal=>exact fin
 | _=>cases hend
variable {R:Type}
def V9 (P:Program) (T:TT) (K:KC) (Lo:Nat→LC) (fl:Bool) (fu f:Nat):G2:=fun R args of nx k =>
 match P.funcs[f]? with
 | some fn=>match fn.body with
  | some code=>bif !(fn.name == "runtime.NumGoroutine")&&Nat.ble args.length fn.ntmps then
    E2 T K (Lo nx) fl fu fn.ntmps of R code ⟨A2Q 0 args,B0e of nx,dnL nx,nx,some []⟩ fun ex σ=>bif B48 ex then
     (match σ.mks with
     | some ms=>bif A7x nx σ.nx σ.ob.get ms then
      (match A3r T (F4 σ.sl) (C2 σ.ob of) fn.results.toList with
      | some p=>k (A3P ms (A2P nx p.1 σ p.2))
      | none=>none) else none
     | none=>none) else none
    else none
  | none=>none
 | none=>none
theorem B5Y {P:Program} {K:KC} (hK:K.nat) {Lo:Nat→LC} (hL:∀ n0,A1r (Lo n0)) {fl:Bool} {fu f:Nat} (R:Type) (args:List A) (of:Nat→Option Ob) (nx:Nat) (k:G9→Option R) :
  V9 P T K Lo fl fu f R args of nx k=ob (B3K P T K.dir (fun n0=>V7 (Lo n0)) fu f args of nx) k:=by
 unfold V9 B3K
 cases hf:P.funcs[f]? with
 | none=>rfl
 | some fn =>
  simp only
  cases hb:fn.body with
  | none=>rfl
  | some code =>
   simp only [M1]
   cases (!(fn.name == "runtime.NumGoroutine")&&Nat.ble args.length fn.ntmps)
   ·rfl
   ·simp only [cond_true]
    rw [A1D hK (hL nx) of R code]
    cases P0 T K.dir (V7 (Lo nx)) fu fn.ntmps of code ⟨A2Q 0 args,B0e of nx,dnL nx,nx,some []⟩ with
    | none=>rfl
    | some p =>
     obtain ⟨ex,σ⟩:=p
     simp only [ob2,M1]
     cases B48 ex
     ·rfl
     ·simp only [cond_true]
      cases σ.mks with
      | none=>rfl
      | some ms =>
       simp only [M1]
       cases A7x nx σ.nx σ.ob.get ms
       ·rfl
       ·simp only [cond_true]
        cases A3r T (F4 σ.sl) (C2 σ.ob of) fn.results.toList<;>rfl
theorem N7 {P:Program} (hm:P.follows .mixedOrders=true) (hT:H7 T P) {K:KC} (hK:K.nat) (hS:KOK P T K.dir) {Lo:Nat→LC} (hL:∀ n0,A1r (Lo n0)) {fl:Bool} {fu f:Nat} (hO:∀ n0 fn code,P.funcs[f]? = some fn→fn.body=some code→L8 P T fn.ntmps n0 (V7 (Lo n0)) code):H6 P T f (V9 P T K Lo fl fu f).dir:=by
 have:(V9 P T K Lo fl fu f).dir=B3K P T K.dir (fun n0=>V7 (Lo n0)) fu f:=by
  funext args of nx
  show V9 P T K Lo fl fu f G9 args of nx some=_
  rw [B5Y hK hL]
  cases B3K P T K.dir (fun n0=>V7 (Lo n0)) fu f args of nx<;>rfl
 rw [this]
 exact B9y hm hT hS hO
variable {R:Type}
variable {R:Type}
structure C6I (C:List Nat) (S:S8) (B:List Nat):Prop where
 s:S=A0f (C.length / 64) s0N (C.take (64 * (C.length / 64)))
 r:B=C.drop (64 * (C.length / 64))
variable {R:Type}
variable {R:Type}
variable {R:Type}
variable {R:Type}
variable {R:Type}
namespace Wd
end Wd
namespace Wd
end Wd
namespace Wd
end Wd
open Go.RowKit Go.Sort
variable {R:Type}
def E8 (d:Array Int):List V:=d.toList.map V.i
def ltC (xs:List V) (i j:Int) (t e:Option R):Option R :=
 ck i xs.length <| ck j xs.length <| bif G0 (List.getD xs i.toNat .n).int (List.getD xs j.toNat .n).int then t else e
def swC (xs:List V) (i j:Int) (k:List V→Option R):Option R :=
 ck j xs.length <| ck i xs.length <| ck i xs.length <| ck j (List.set xs i.toNat (.i (List.getD xs j.toNat .n).int)).length <|
 k (List.set (List.set xs i.toNat (.i (List.getD xs j.toNat .n).int)) j.toNat (.i (List.getD xs i.toNat .n).int))
theorem R5 (d:Array Int):(E8 d).length=d.size:=by simp [E8]
theorem A4b {d:Array Int} {i:Nat} (h:i < d.size):(List.getD (E8 d) i .n).int=d[i]! := by
 simp [E8,List.getD,h,V.int]
theorem B2m {d:Array Int} {i:Nat} {x:Int}:List.set (E8 d) i (.i x)=E8 (d.setIfInBounds i x):=by
 simp [E8,List.map_set]
theorem B8 (d:Array Int) (i j:Nat):(swp d i j).size=d.size:=by simp [swp]
theorem H9 {d:Array Int} {i j:Int} {a b:Nat} {t e:Option R} (hi:i=(a:Int)) (hj:j=(b:Int)) (ha:a < d.size) (hb:b < d.size) :
  ltC (E8 d) i j t e=bif ltInt d[a]! d[b]! then t else e:=by
 subst hi hj
 unfold ltC
 rw [H2 (by omega) (by rw [R5];omega),H2 (by omega) (by rw [R5];omega)]
 simp only [Int.toNat_natCast]
 rw [A4b ha,A4b hb]
 have:G0 d[a]! d[b]! = ltInt d[a]! d[b]! := by simp [G0,ltInt]
 rw [this]
theorem N3 {d:Array Int} {i j:Int} {a b:Nat} {k:List V→Option R} (hi:i=(a:Int)) (hj:j=(b:Int)) (ha:a < d.size) (hb:b < d.size) :
  swC (E8 d) i j k=k (E8 (swp d a b)):=by
 subst hi hj
 unfold swC
 rw [H2 (by omega) (by rw [R5];omega),H2 (by omega) (by rw [R5];omega),H2 (by omega) (by rw [R5];omega),H2 (by omega) (by simp [R5];omega)]
 simp only [Int.toNat_natCast]
 rw [A4b ha,A4b hb,B2m,B2m]
 rfl
def B3L:List V→Bool
 | []=>true
 | .i _::r=>B3L r
 | _=>false
def A3S (xs:List V):Array Int:=(xs.map V.int).toArray
theorem J6 (d:Array Int):A3S (E8 d)=d:=by simp [A3S,E8,V.int,Function.comp_def]
theorem A78 {xs:List V} (h:B3L xs=true):E8 (A3S xs)=xs:=by
 induction xs with
 | nil=>rfl
 | cons x r ih =>
  cases x<;>simp [B3L] at h
  have:=ih h
  simp [E8,A3S,V.int] at this ⊢
  exact this
theorem B5Z (d:Array Int):B3L (E8 d)=true:=by
 obtain ⟨l⟩:=d
 show B3L (l.map V.i)=true
 induction l with
 | nil=>rfl
 | cons x r ih=>exact ih
open Go.RowKit Go.Sort
variable {R:Type}
inductive B3M where | m (xs:List V) (a b i j:Int)
inductive C42 where | o (xs:List V) (a b i j:Int)
def A79 (R:Type) (p:B3M) (K:B3M→Option R) (kx:C42→Option R):Option R:=match p with
 | .m xs a b i j=>bif G0 a j then ltC xs j (B1 (j - 1)) (swC xs j (B1 (j - 1)) fun ys=>K (.m ys a b i (B1 (j - 1)))) (kx (.o xs a b i j)) else kx (.o xs a b i j)
def sdX (xs:List V) (f r c:Int) (K:List V→Option R) (kx:Option R):Option R:=ltC xs (B1 (f+r)) (B1 (f+c)) (swC xs (B1 (f+r)) (B1 (f+c)) K) kx
inductive B3N where | m (xs:List V) (r h f:Int)
inductive B50 where | o (xs:List V) (r h f:Int) | r (xs:List V) (r h f:Int)
def A4A (R:Type) (p:B3N) (K:B3N→Option R) (kx:B50→Option R):Option R:=match p with
 | .m xs r h f=>bif F9 h (B1 (B1 (2 * r)+1)) then kx (.o xs r h f) else
  bif G0 (B1 (B1 (B1 (2 * r)+1)+1)) h then ltC xs (B1 (f+B1 (B1 (2 * r)+1))) (B1 (B1 (f+B1 (B1 (2 * r)+1))+1))
   (sdX xs f r (B1 (B1 (B1 (2 * r)+1)+1)) (fun ys=>K (.m ys (B1 (B1 (B1 (2 * r)+1)+1)) h f)) (kx (.r xs r h f)))
   (sdX xs f r (B1 (B1 (2 * r)+1)) (fun ys=>K (.m ys (B1 (B1 (2 * r)+1)) h f)) (kx (.r xs r h f)))
  else sdX xs f r (B1 (B1 (2 * r)+1)) (fun ys=>K (.m ys (B1 (B1 (2 * r)+1)) h f)) (kx (.r xs r h f))
inductive B3O where | m (xs:List V) (i j:Int)
inductive C43 where | o (xs:List V) (i j:Int)
def A8a (R:Type) (p:B3O) (K:B3O→Option R) (kx:C43→Option R):Option R:=match p with
 | .m xs i j=>bif G0 i j then swC xs i j fun ys=>K (.m ys (B1 (i+1)) (B1 (j - 1))) else kx (.o xs i j)
inductive B3P where | m (xs:List V) (a b i s:Int)
inductive C44 where | o (xs:List V) (a b i s:Int)
def B3Q (R:Type) (p:B3P) (K:B3P→Option R) (kx:C44→Option R):Option R:=match p with
 | .m xs a b i s=>bif G0 i b then ltC xs i (B1 (i - 1)) (kx (.o xs a b i s)) (K (.m xs a b (B1 (i+1)) s)) else kx (.o xs a b i s)
inductive B3R where | m (xs:List V) (a b i s j:Int)
inductive C45 where | o (xs:List V) (a b i s j:Int)
def A8b (R:Type) (p:B3R) (K:B3R→Option R) (kx:C45→Option R):Option R:=match p with
 | .m xs a b i s j=>bif F9 1 j then ltC xs j (B1 (j - 1)) (swC xs j (B1 (j - 1)) fun ys=>K (.m ys a b i s (B1 (j - 1)))) (kx (.o xs a b i s j)) else kx (.o xs a b i s j)
inductive B3S where | m (xs:List V) (a b i s j:Int)
inductive C46 where | o (xs:List V) (a b i s j:Int)
def A8c (R:Type) (p:B3S) (K:B3S→Option R) (kx:C46→Option R):Option R:=match p with
 | .m xs a b i s j=>bif G0 j b then ltC xs j (B1 (j - 1)) (swC xs j (B1 (j - 1)) fun ys=>K (.m ys a b i s (B1 (j+1)))) (kx (.o xs a b i s j)) else kx (.o xs a b i s j)
inductive B3T where | m (xs:List V) (a i j:Int)
inductive C47 where | o (xs:List V) (a i j:Int)
def B3U (R:Type) (p:B3T) (K:B3T→Option R) (kx:C47→Option R):Option R:=match p with
 | .m xs a i j=>bif F9 i j then ltC xs a i (kx (.o xs a i j)) (K (.m xs a (B1 (i+1)) j)) else kx (.o xs a i j)
inductive B3V where | m (xs:List V) (a i j:Int)
inductive C48 where | o (xs:List V) (a i j:Int)
def B3W (R:Type) (p:B3V) (K:B3V→Option R) (kx:C48→Option R):Option R:=match p with
 | .m xs a i j=>bif F9 i j then ltC xs a j (K (.m xs a i (B1 (j - 1)))) (kx (.o xs a i j)) else kx (.o xs a i j)
inductive B3X where | m (xs:List V) (a i j:Int)
inductive C49 where | o (xs:List V) (a i j:Int)
def B3Y (R:Type) (p:B3X) (K:B3X→Option R) (kx:C49→Option R):Option R:=match p with
 | .m xs a i j=>bif F9 i j then ltC xs i a (K (.m xs a (B1 (i+1)) j)) (kx (.o xs a i j)) else kx (.o xs a i j)
inductive B3Z where | m (xs:List V) (a i j:Int)
inductive C5a where | o (xs:List V) (a i j:Int)
def B30 (R:Type) (p:B3Z) (K:B3Z→Option R) (kx:C5a→Option R):Option R:=match p with
 | .m xs a i j=>bif F9 i j then ltC xs i a (K (.m xs a (B1 (i+1)) j)) (kx (.o xs a i j)) else kx (.o xs a i j)
inductive B31 where | m (xs:List V) (a i j:Int)
inductive C5b where | o (xs:List V) (a i j:Int)
def B32 (R:Type) (p:B31) (K:B31→Option R) (kx:C5b→Option R):Option R:=match p with
 | .m xs a i j=>bif F9 i j then ltC xs j a (kx (.o xs a i j)) (K (.m xs a i (B1 (j - 1)))) else kx (.o xs a i j)
inductive B33 where | m (xs:List V) (a i j:Int)
inductive C5c where | o (xs:List V) (a i j:Int)
def B34 (R:Type) (p:B33) (K:B33→Option R) (kx:C5c→Option R):Option R:=match p with
 | .m xs a i j=>bif F9 i j then ltC xs j a (kx (.o xs a i j)) (K (.m xs a i (B1 (j - 1)))) else kx (.o xs a i j)
open Go.RowKit Go.Sort
variable {R:Type}
theorem C6 (a b:Int):F9 a b=decide (a≤b):=by simp [F9]
theorem C4 (a b:Int):G0 a b=decide (a < b):=by simp [G0]
theorem D3 {x:Int} {n:Nat} (h:x=(n:Int)) (hn:n < 1000000000):B1 x=(n:Int):=by rw [G1 (by omega) (by omega),h]
theorem B9z (a:Nat):∀ (j n:Nat) (d:Array Int) (b i:Int),j < n→j < d.size→d.size < 100000000 →
  ∃ j':Int,∀ kx,D2 (A79 R) n (.m (E8 d) a b i j) kx=kx (.o (E8 (insInner ltInt a j d)) a b i j'):=by
 intro j
 induction j with
 | zero =>
  intro n d b i hn hj hz
  obtain ⟨n,rfl⟩:∃ m,n=m+1:=⟨n - 1,by omega⟩
  refine ⟨0,fun kx=>?_⟩
  rw [D2,A79]
  rw [C4,decide_eq_false (by omega)];rfl
 | succ j ih =>
  intro n d b i hn hj hz
  obtain ⟨n,rfl⟩:∃ m,n=m+1:=⟨n - 1,by omega⟩
  have hw:B1 (((j+1:Nat):Int) - 1)=(j:Int):=D3 (by omega) (by omega)
  by_cases h1:j+1 > a
  ·cases h2:ltInt d[j+1]! d[j]! with
   | false =>
    refine ⟨(j+1:Nat),fun kx=>?_⟩
    rw [D2,A79]
    rw [C4,decide_eq_true (by omega)]
    simp only [cond_true]
    rw [hw,H9 rfl rfl hj (by omega),h2,insInner,if_neg (by simp [h2])];rfl
   | true =>
    obtain ⟨j',h⟩:=ih n (swp d (j+1) j) b i (by omega) (by rw [B8];omega) (by rw [B8];omega)
    refine ⟨j',fun kx=>?_⟩
    rw [D2,A79]
    rw [C4,decide_eq_true (by omega)]
    simp only [cond_true]
    rw [hw,H9 rfl rfl hj (by omega),h2,cond_true,N3 rfl rfl hj (by omega),h,insInner,if_pos (by simp [h1,h2])]
  ·refine ⟨(j+1:Nat),fun kx=>?_⟩
   rw [D2,A79]
   rw [C4,decide_eq_false (by omega),insInner,if_neg (by simp;omega)];rfl
theorem A2j (a:Nat):∀ (j:Nat) (d:Array Int),(insInner ltInt a j d).size=d.size:=by
 intro j
 induction j with
 | zero=>intro d;rfl
 | succ j ih=>intro d;rw [insInner];split;rw [ih,B8];rfl
theorem B9A (h f:Nat):∀ (m r n:Nat) (d:Array Int),h - r≤m→m < n→f+h≤d.size→d.size < 100000000→r < 100000000 →
  ∃ (r':Int) (q:B50),(q=.o (E8 (siftDown ltInt h f r d)) r' h f∨q=.r (E8 (siftDown ltInt h f r d)) r' h f)∧∀ kx,D2 (A4A R) n (.m (E8 d) r h f) kx=kx q:=by
 intro m
 induction m with
 | zero =>
  intro r n d hm hn hz hz2 hr
  obtain ⟨n,rfl⟩:∃ m,n=m+1:=⟨n - 1,by omega⟩
  refine ⟨r,_,Or.inl rfl,fun kx=>?_⟩
  rw [D2,A4A]
  rw [show B1 (B1 (2 * (r:Int))+1)=((2 * r+1:Nat):Int) from D3 (by rw [D3 (n:=2 * r) (by omega) (by omega)];omega) (by omega),C6,decide_eq_true (by omega),siftDown,dif_pos (by omega)];rfl
 | succ m ih =>
  intro r n d hm hn hz hz2 hr
  obtain ⟨n,rfl⟩:∃ m,n=m+1:=⟨n - 1,by omega⟩
  have hw1:B1 (B1 (2 * (r:Int))+1)=((2 * r+1:Nat):Int):=D3 (by rw [D3 (n:=2 * r) (by omega) (by omega)];omega) (by omega)
  have hw2:B1 (((2 * r+1:Nat):Int)+1)=((2 * r+2:Nat):Int):=D3 (by omega) (by omega)
  by_cases h1:2 * r+1 ≥ h
  ·refine ⟨r,_,Or.inl rfl,fun kx=>?_⟩
   rw [D2,A4A]
   rw [hw1,C6,decide_eq_true (by omega),siftDown,dif_pos (by omega)];rfl
  ·-- one round at a child
   have step:∀ c:Nat,(c=2 * r+1∨c=2 * r+2)→c < h→∃ (r':Int) (q:B50),(q=.o (E8 (if !ltInt d[f+r]! d[f+c]! then d else siftDown ltInt h f c (swp d (f+r) (f+c)))) r' h f∨q=.r (E8 (if !ltInt d[f+r]! d[f+c]! then d else siftDown ltInt h f c (swp d (f+r) (f+c)))) r' h f) ∧
     ∀ kx:B50→Option R,sdX (E8 d) f r c (fun ys=>D2 (A4A R) n (.m ys c h f) kx) (kx (.r (E8 d) r h f))=kx q:=by
    intro c hc1 hc2
    have e1:B1 ((f:Int)+r)=((f+r:Nat):Int):=D3 (by omega) (by omega)
    have e2:B1 ((f:Int)+c)=((f+c:Nat):Int):=D3 (by omega) (by omega)
    cases h2:ltInt d[f+r]! d[f+c]! with
    | false =>
     refine ⟨r,.r (E8 d) r h f,Or.inr ?_,fun kx=>?_⟩
     ·rw [if_pos (by simp [h2])]
     ·unfold sdX
      rw [e1,e2,H9 rfl rfl (by omega) (by omega),h2];rfl
    | true =>
     obtain ⟨r',q,hq,h3⟩:=ih c n (swp d (f+r) (f+c)) (by omega) (by omega) (by rw [B8];omega) (by rw [B8];omega) (by omega)
     refine ⟨r',q,?_,fun kx=>?_⟩
     ·rw [if_neg (by simp [h2])];exact hq
     ·unfold sdX
      rw [e1,e2,H9 rfl rfl (by omega) (by omega),h2,cond_true,N3 rfl rfl (by omega) (by omega)]
      exact h3 kx
   by_cases h2:2 * r+1+1 < h
   ·cases h3:ltInt d[f+(2 * r+1)]! d[f+(2 * r+1)+1]! with
    | true =>
     obtain ⟨r',q,hq,h4⟩:=step (2 * r+2) (Or.inr rfl) (by omega)
     refine ⟨r',q,?_,fun kx=>?_⟩
     ·rw [siftDown,dif_neg h1,if_pos (by simp [h2,h3])]
      simp only [show 2 * r+2 < h from by omega,dif_pos]
      exact hq
     ·rw [D2,A4A]
      rw [hw1,C6,decide_eq_false (by omega),cond_false,hw2,C4,decide_eq_true (by omega),cond_true,
       show B1 ((f:Int)+((2 * r+1:Nat):Int))=((f+(2 * r+1):Nat):Int) from D3 (by omega) (by omega),
       show B1 (((f+(2 * r+1):Nat):Int)+1)=((f+(2 * r+1)+1:Nat):Int) from D3 (by omega) (by omega),
       H9 rfl rfl (by omega) (by omega),h3,cond_true]
      exact h4 kx
    | false =>
     obtain ⟨r',q,hq,h4⟩:=step (2 * r+1) (Or.inl rfl) (by omega)
     refine ⟨r',q,?_,fun kx=>?_⟩
     ·rw [siftDown,dif_neg h1,if_neg (by simp [h3])]
      exact hq
     ·rw [D2,A4A]
      rw [hw1,C6,decide_eq_false (by omega),cond_false,hw2,C4,decide_eq_true (by omega),cond_true,
       show B1 ((f:Int)+((2 * r+1:Nat):Int))=((f+(2 * r+1):Nat):Int) from D3 (by omega) (by omega),
       show B1 (((f+(2 * r+1):Nat):Int)+1)=((f+(2 * r+1)+1:Nat):Int) from D3 (by omega) (by omega),
       H9 rfl rfl (by omega) (by omega),h3,cond_false]
      exact h4 kx
   ·obtain ⟨r',q,hq,h4⟩:=step (2 * r+1) (Or.inl rfl) (by omega)
    refine ⟨r',q,?_,fun kx=>?_⟩
    ·rw [siftDown,dif_neg h1,if_neg (by simp;omega)]
     exact hq
    ·rw [D2,A4A]
     rw [hw1,C6,decide_eq_false (by omega),cond_false,hw2,C4,decide_eq_false (by omega),cond_false]
     exact h4 kx
theorem B9B:∀ (m i j n:Nat) (d:Array Int),j - i≤m→m < n→j < d.size→d.size < 100000000→i < 100000000 →
  ∃ i' j':Int,∀ kx,D2 (A8a R) n (.m (E8 d) i j) kx=kx (.o (E8 (reverseLoop i j d)) i' j'):=by
 intro m
 induction m with
 | zero =>
  intro i j n d hm hn hj hz hi
  obtain ⟨n,rfl⟩:∃ m,n=m+1:=⟨n - 1,by omega⟩
  refine ⟨i,j,fun kx=>?_⟩
  rw [D2,A8a]
  rw [C4,decide_eq_false (by omega),reverseLoop,if_neg (by omega)];rfl
 | succ m ih =>
  intro i j n d hm hn hj hz hi
  obtain ⟨n,rfl⟩:∃ m,n=m+1:=⟨n - 1,by omega⟩
  by_cases h:i < j
  ·obtain ⟨i',j',h2⟩:=ih (i+1) (j - 1) n (swp d i j) (by omega) (by omega) (by rw [B8];omega) (by rw [B8];omega) (by omega)
   refine ⟨i',j',fun kx=>?_⟩
   rw [D2,A8a]
   rw [C4,decide_eq_true (by omega),cond_true,N3 rfl rfl (by omega) hj,D3 (n:=i+1) (by omega) (by omega),D3 (n:=j - 1) (by omega) (by omega),h2]
   conv=>rhs;rw [reverseLoop,if_pos h]
  ·refine ⟨i,j,fun kx=>?_⟩
   rw [D2,A8a]
   rw [C4,decide_eq_false (by omega),reverseLoop,if_neg h];rfl
theorem B9C (b:Nat) (a s:Int):∀ (m i n:Nat) (d:Array Int),b - i≤m→m < n→b≤d.size→1≤i→d.size < 100000000→i < 100000000 →
  ∀ kx,D2 (B3Q R) n (.m (E8 d) a b i s) kx=kx (.o (E8 d) a b (scanSorted ltInt d b i:Nat) s):=by
 intro m
 induction m with
 | zero =>
  intro i n d hm hn hb h1 hz hi kx
  obtain ⟨n,rfl⟩:∃ m,n=m+1:=⟨n - 1,by omega⟩
  rw [D2,B3Q]
  rw [C4,decide_eq_false (by omega),scanSorted,if_neg (by simp;omega)];rfl
 | succ m ih =>
  intro i n d hm hn hb h1 hz hi kx
  obtain ⟨n,rfl⟩:∃ m,n=m+1:=⟨n - 1,by omega⟩
  rw [D2,B3Q]
  by_cases h:i < b
  ·rw [C4,decide_eq_true (by omega),cond_true,H9 (b:=i - 1) rfl (D3 (by omega) (by omega)) (by omega) (by omega)]
   cases h2:ltInt d[i]! d[i - 1]! with
   | true=>rw [scanSorted,if_neg (by simp [h2])];rfl
   | false=>rw [cond_false,D3 (n:=i+1) (by omega) (by omega),ih (i+1) n d (by omega) (by omega) hb (by omega) hz (by omega)]
            conv=>rhs;rw [scanSorted,if_pos (by simp [h,h2])]
  ·rw [C4,decide_eq_false (by omega),scanSorted,if_neg (by simp;omega)];rfl
theorem B9D (a b i s:Int):∀ (j n:Nat) (d:Array Int),j < n→j < d.size→d.size < 100000000 →
  ∃ j':Int,∀ kx,D2 (A8b R) n (.m (E8 d) a b i s j) kx=kx (.o (E8 (shiftDown ltInt j d)) a b i s j'):=by
 intro j
 induction j with
 | zero =>
  intro n d hn hj hz
  obtain ⟨n,rfl⟩:∃ m,n=m+1:=⟨n - 1,by omega⟩
  refine ⟨(0:Nat),fun kx=>?_⟩
  rw [D2,A8b]
  rw [C6,decide_eq_false (by omega)];rfl
 | succ j ih =>
  intro n d hn hj hz
  obtain ⟨n,rfl⟩:∃ m,n=m+1:=⟨n - 1,by omega⟩
  have hw:B1 (((j+1:Nat):Int) - 1)=(j:Int):=D3 (by omega) (by omega)
  cases h2:ltInt d[j+1]! d[j]! with
  | false =>
   refine ⟨(j+1:Nat),fun kx=>?_⟩
   rw [D2,A8b]
   rw [C6,decide_eq_true (by omega),cond_true,hw,H9 rfl rfl hj (by omega),h2,shiftDown,if_pos (by simp [h2])];rfl
  | true =>
   obtain ⟨j',h⟩:=ih n (swp d (j+1) j) (by omega) (by rw [B8];omega) (by rw [B8];omega)
   refine ⟨j',fun kx=>?_⟩
   rw [D2,A8b]
   rw [C6,decide_eq_true (by omega),cond_true,hw,H9 rfl rfl hj (by omega),h2,cond_true,N3 rfl rfl hj (by omega),h,shiftDown,if_neg (by simp [h2])]
theorem A1B:∀ (j:Nat) (d:Array Int),(shiftDown ltInt j d).size=d.size:=by
 intro j
 induction j with
 | zero=>intro d;rfl
 | succ j ih=>intro d;rw [shiftDown];split;rfl;rw [ih,B8]
theorem B9E (b:Nat) (a i s:Int):∀ (m j n:Nat) (d:Array Int),b - j≤m→m < n→b≤d.size→1≤j→d.size < 100000000→j < 100000000 →
  ∃ j':Int,∀ kx,D2 (A8c R) n (.m (E8 d) a b i s j) kx=kx (.o (E8 (shiftUp ltInt b j d)) a b i s j'):=by
 intro m
 induction m with
 | zero =>
  intro j n d hm hn hb h1 hz hi
  obtain ⟨n,rfl⟩:∃ m,n=m+1:=⟨n - 1,by omega⟩
  refine ⟨j,fun kx=>?_⟩
  rw [D2,A8c]
  rw [C4,decide_eq_false (by omega),shiftUp,if_neg (by omega)];rfl
 | succ m ih =>
  intro j n d hm hn hb h1 hz hi
  obtain ⟨n,rfl⟩:∃ m,n=m+1:=⟨n - 1,by omega⟩
  by_cases h:j < b
  ·have hw:B1 ((j:Int) - 1)=((j - 1:Nat):Int):=D3 (by omega) (by omega)
   cases h2:ltInt d[j]! d[j - 1]! with
   | false =>
    refine ⟨j,fun kx=>?_⟩
    rw [D2,A8c]
    rw [C4,decide_eq_true (by omega),cond_true,hw,H9 rfl rfl (by omega) (by omega),h2,shiftUp,if_pos h,if_pos (by simp [h2])];rfl
   | true =>
    obtain ⟨j',h3⟩:=ih (j+1) n (swp d j (j - 1)) (by omega) (by omega) (by rw [B8];omega) (by omega) (by rw [B8];omega) (by omega)
    refine ⟨j',fun kx=>?_⟩
    rw [D2,A8c]
    rw [C4,decide_eq_true (by omega),cond_true,hw,H9 rfl rfl (by omega) (by omega),h2,cond_true,N3 rfl rfl (by omega) (by omega),D3 (n:=j+1) (by omega) (by omega),h3]
    conv=>rhs;rw [shiftUp,if_pos h,if_neg (by simp [h2])]
  ·refine ⟨j,fun kx=>?_⟩
   rw [D2,A8c]
   rw [C4,decide_eq_false (by omega),shiftUp,if_neg (by omega)];rfl
theorem A04 (b:Nat):∀ (m j:Nat) (d:Array Int),b - j≤m→(shiftUp ltInt b j d).size=d.size:=by
 intro m
 induction m with
 | zero=>intro j d h;rw [shiftUp,if_neg (by omega)]
 | succ m ih =>
  intro j d h
  rw [shiftUp]
  split
  ·split
   ·rfl
   ·rw [ih _ _ (by omega),B8]
  ·rfl
theorem A61 (a j:Nat):∀ (m i n:Nat) (d:Array Int),j+1 - i≤m→m < n→a < d.size→j < d.size→d.size < 100000000→i < 100000000 →
  ∀ kx,D2 (B3U R) n (.m (E8 d) a i j) kx=kx (.o (E8 d) a (scanUp (fun x=>!ltInt d[a]! x) d j i:Nat) j):=by
 intro m
 induction m with
 | zero =>
  intro i n d hm hn ha hj hz hi kx
  obtain ⟨n,rfl⟩:∃ m,n=m+1:=⟨n - 1,by omega⟩
  rw [D2,B3U]
  rw [C6,decide_eq_false (by omega),scanUp,if_neg (by simp;omega)];rfl
 | succ m ih =>
  intro i n d hm hn ha hj hz hi kx
  obtain ⟨n,rfl⟩:∃ m,n=m+1:=⟨n - 1,by omega⟩
  rw [D2,B3U]
  by_cases h:i≤j
  ·rw [C6,decide_eq_true (by omega),cond_true,H9 rfl rfl ha (by omega)]
   cases h2:ltInt d[a]! d[i]! with
   | true=>rw [scanUp,if_neg (by simp [h2])];rfl
   | false=>rw [cond_false,D3 (n:=i+1) (by omega) (by omega),ih (i+1) n d (by omega) (by omega) ha hj hz (by omega)]
            conv=>rhs;rw [scanUp,if_pos (by simp [h,h2])]
  ·rw [C6,decide_eq_false (by omega),scanUp,if_neg (by simp;omega)];rfl
theorem A62 (a i:Nat) (h1:1≤i):∀ (j n:Nat) (d:Array Int),j < n→a < d.size→j < d.size→d.size < 100000000 →
  ∀ kx,D2 (B3W R) n (.m (E8 d) a i j) kx=kx (.o (E8 d) a i (scanDown (fun x=>ltInt d[a]! x) d i j:Nat)):=by
 intro j
 induction j with
 | zero =>
  intro n d hn ha hj hz kx
  obtain ⟨n,rfl⟩:∃ m,n=m+1:=⟨n - 1,by omega⟩
  rw [D2,B3W]
  rw [C6,decide_eq_false (by omega)];rfl
 | succ j ih =>
  intro n d hn ha hj hz kx
  obtain ⟨n,rfl⟩:∃ m,n=m+1:=⟨n - 1,by omega⟩
  rw [D2,B3W]
  by_cases h:i≤j+1
  ·rw [C6,decide_eq_true (by omega),cond_true,H9 rfl rfl ha (by omega)]
   cases h2:ltInt d[a]! d[j+1]! with
   | false=>rw [scanDown,if_neg (by simp [h2])];rfl
   | true=>rw [cond_true,D3 (n:=j) (by omega) (by omega),ih n d (by omega) ha (by omega) hz]
           conv=>rhs;rw [scanDown,if_pos (by simp [h,h2])]
  ·rw [C6,decide_eq_false (by omega),scanDown,if_neg (by simp;omega)];rfl
theorem B9F (a j:Nat):∀ (m i n:Nat) (d:Array Int),j+1 - i≤m→m < n→a < d.size→j < d.size→d.size < 100000000→i < 100000000 →
  ∀ kx,D2 (B3Y R) n (.m (E8 d) a i j) kx=kx (.o (E8 d) a (scanUp (fun x=>ltInt x d[a]!) d j i:Nat) j):=by
 intro m
 induction m with
 | zero =>
  intro i n d hm hn ha hj hz hi kx
  obtain ⟨n,rfl⟩:∃ m,n=m+1:=⟨n - 1,by omega⟩
  rw [D2,B3Y]
  rw [C6,decide_eq_false (by omega),scanUp,if_neg (by simp;omega)];rfl
 | succ m ih =>
  intro i n d hm hn ha hj hz hi kx
  obtain ⟨n,rfl⟩:∃ m,n=m+1:=⟨n - 1,by omega⟩
  rw [D2,B3Y]
  by_cases h:i≤j
  ·rw [C6,decide_eq_true (by omega),cond_true,H9 rfl rfl (by omega) ha]
   cases h2:ltInt d[i]! d[a]! with
   | false=>rw [scanUp,if_neg (by simp [h2])];rfl
   | true=>rw [cond_true,D3 (n:=i+1) (by omega) (by omega),ih (i+1) n d (by omega) (by omega) ha hj hz (by omega)]
           conv=>rhs;rw [scanUp,if_pos (by simp [h,h2])]
  ·rw [C6,decide_eq_false (by omega),scanUp,if_neg (by simp;omega)];rfl
theorem B9G (a i:Nat) (h1:1≤i):∀ (j n:Nat) (d:Array Int),j < n→a < d.size→j < d.size→d.size < 100000000 →
  ∀ kx,D2 (B32 R) n (.m (E8 d) a i j) kx=kx (.o (E8 d) a i (scanDown (fun x=>!ltInt x d[a]!) d i j:Nat)):=by
 intro j
 induction j with
 | zero =>
  intro n d hn ha hj hz kx
  obtain ⟨n,rfl⟩:∃ m,n=m+1:=⟨n - 1,by omega⟩
  rw [D2,B32]
  rw [C6,decide_eq_false (by omega)];rfl
 | succ j ih =>
  intro n d hn ha hj hz kx
  obtain ⟨n,rfl⟩:∃ m,n=m+1:=⟨n - 1,by omega⟩
  rw [D2,B32]
  by_cases h:i≤j+1
  ·rw [C6,decide_eq_true (by omega),cond_true,H9 rfl rfl (by omega) ha]
   cases h2:ltInt d[j+1]! d[a]! with
   | true=>rw [scanDown,if_neg (by simp [h2])];rfl
   | false=>rw [cond_false,D3 (n:=j) (by omega) (by omega),ih n d (by omega) ha (by omega) hz]
            conv=>rhs;rw [scanDown,if_pos (by simp [h,h2])]
  ·rw [C6,decide_eq_false (by omega),scanDown,if_neg (by simp;omega)];rfl
theorem A63 (a j:Nat):∀ (m i n:Nat) (d:Array Int),j+1 - i≤m→m < n→a < d.size→j < d.size→d.size < 100000000→i < 100000000 →
  ∀ kx,D2 (B30 R) n (.m (E8 d) a i j) kx=kx (.o (E8 d) a (scanUp (fun x=>ltInt x d[a]!) d j i:Nat) j):=by
 intro m
 induction m with
 | zero =>
  intro i n d hm hn ha hj hz hi kx
  obtain ⟨n,rfl⟩:∃ m,n=m+1:=⟨n - 1,by omega⟩
  rw [D2,B30]
  rw [C6,decide_eq_false (by omega),scanUp,if_neg (by simp;omega)];rfl
 | succ m ih =>
  intro i n d hm hn ha hj hz hi kx
  obtain ⟨n,rfl⟩:∃ m,n=m+1:=⟨n - 1,by omega⟩
  rw [D2,B30]
  by_cases h:i≤j
  ·rw [C6,decide_eq_true (by omega),cond_true,H9 rfl rfl (by omega) ha]
   cases h2:ltInt d[i]! d[a]! with
   | false=>rw [scanUp,if_neg (by simp [h2])];rfl
   | true=>rw [cond_true,D3 (n:=i+1) (by omega) (by omega),ih (i+1) n d (by omega) (by omega) ha hj hz (by omega)]
           conv=>rhs;rw [scanUp,if_pos (by simp [h,h2])]
  ·rw [C6,decide_eq_false (by omega),scanUp,if_neg (by simp;omega)];rfl
theorem A64 (a i:Nat) (h1:1≤i):∀ (j n:Nat) (d:Array Int),j < n→a < d.size→j < d.size→d.size < 100000000 →
  ∀ kx,D2 (B34 R) n (.m (E8 d) a i j) kx=kx (.o (E8 d) a i (scanDown (fun x=>!ltInt x d[a]!) d i j:Nat)):=by
 intro j
 induction j with
 | zero =>
  intro n d hn ha hj hz kx
  obtain ⟨n,rfl⟩:∃ m,n=m+1:=⟨n - 1,by omega⟩
  rw [D2,B34]
  rw [C6,decide_eq_false (by omega)];rfl
 | succ j ih =>
  intro n d hn ha hj hz kx
  obtain ⟨n,rfl⟩:∃ m,n=m+1:=⟨n - 1,by omega⟩
  rw [D2,B34]
  by_cases h:i≤j+1
  ·rw [C6,decide_eq_true (by omega),cond_true,H9 rfl rfl (by omega) ha]
   cases h2:ltInt d[j+1]! d[a]! with
   | true=>rw [scanDown,if_neg (by simp [h2])];rfl
   | false=>rw [cond_false,D3 (n:=j) (by omega) (by omega),ih n d (by omega) ha (by omega) hz]
            conv=>rhs;rw [scanDown,if_pos (by simp [h,h2])]
  ·rw [C6,decide_eq_false (by omega),scanDown,if_neg (by simp;omega)];rfl
open Go.RowKit Go.Sort
variable {R:Type}
theorem B9H {T:TT} {c:N5} {e:B2} {of:Nat→Option Ob} {nx n m:Nat} {v:A} {wo:List (Nat×Ob)} {ro ro':List Nat} {x:Value} {w:World} (h:n≤m)
  (hl:U6 T c e of nx ⟨v,wo,ro,n⟩ x w):U6 T c e of nx ⟨v,wo,ro',m⟩ x w:=by
 obtain ⟨e',h1,h2,h3,h4,h5⟩:=hl
 refine ⟨e',h1,h2,h3,fun id A3=>?_,h5⟩
 rcases h4 id A3 with h | ⟨h6,h7⟩
 ·exact .inl h
 ·exact .inr ⟨h6,Nat.lt_of_lt_of_le h7 h⟩
def P7 {X:Type} (rec:List A→(Nat→Option Ob)→Nat→Option X) (g:X→Bool) (F:X→G9):G2:=fun R args of nx k =>
 match rec args of nx with
 | some x=>bif g x then k (F x) else none
 | none=>none
theorem D8 {X:Type} {rec:List A→(Nat→Option Ob)→Nat→Option X} {g:X→Bool} {F:X→G9}:(P7 rec g F).nat:=by
 intro R args of nx k
 unfold G2.dir P7
 cases rec args of nx with
 | none=>rfl
 | some x=>simp only;cases g x<;>rfl
theorem B2n {P:Program} {T:TT} {X:Type} {f:Nat} {rec:List A→(Nat→Option Ob)→Nat→Option X} {g:X→Bool} {F:X→G9} {s:Sym} (hs:H6 P T f s)
  (h:∀ args of nx x,rec args of nx=some x→g x=true→∃ n ro of0,n≤(F x).nx∧s args of0 nx=some ⟨(F x).val,(F x).wo,ro,n⟩∧∀ id∈ro,of id=of0 id):U0 P T f (P7 rec g F).dir:=by
 intro c e of args vals nx out hos hr hu hv
 unfold G2.dir P7 at hr
 cases hx:rec args of nx with
 | none=>rw [hx] at hr;cases hr
 | some x =>
 rw [hx] at hr
 simp only at hr
 cases hg:g x with
 | false=>rw [hg] at hr;cases hr
 | true =>
 rw [hg] at hr
 simp only [cond_true,C6N] at hr
 subst hr
 obtain ⟨n,ro,of0,h1,h2,h3⟩:=h args of nx x hx hg
 have:=hs c e of0 of args vals nx _ hos h2 h3 (fun id h3 h4=>hu id h3 (Nat.lt_of_lt_of_le h4 h1)) hv
 exact D6 this (fun x w hl=>B9H h1 hl)
open Go.RowKit Go.Sort
variable {R:Type}
def A1w {α β:Type} (f:α→β):α→β:=Classical.choose (⟨f,rfl⟩:∃ g,g=f)
theorem D9 {α β:Type} (f:α→β):A1w f=f:=Classical.choose_spec (⟨f,rfl⟩:∃ g,g=f)
structure Sa where
 xs:List V
 a:Int
 b:Int
 c:Int
def Sa.d (s:Sa):Array Int:=A3S s.xs
def A8d:Sa→List V:=A1w fun s=>E8 (insertionSort ltInt s.d s.a.toNat s.b.toNat)
def A5J:Sa→List V:=A1w fun s=>E8 (siftDown ltInt s.b.toNat s.c.toNat s.a.toNat s.d)
def A8e:Sa→List V:=A1w fun s=>E8 (heapSort ltInt s.d s.a.toNat s.b.toNat)
def A5K:Sa→List V:=A1w fun s=>E8 (reverseRange s.d s.a.toNat s.b.toNat)
def A8f:Sa→List V:=A1w fun s=>E8 (breakPatterns s.d s.a.toNat s.b.toNat)
def A65:Sa→List V:=A1w fun s=>E8 (partialInsertionSort ltInt s.d s.a.toNat s.b.toNat).1
def A8g:Sa→Bool:=A1w fun s=>(partialInsertionSort ltInt s.d s.a.toNat s.b.toNat).2
def A8h:Sa→List V:=A1w fun s=>E8 (partitionEqual ltInt s.d s.a.toNat s.b.toNat s.c.toNat).2
def A8i:Sa→Int:=A1w fun s=>((partitionEqual ltInt s.d s.a.toNat s.b.toNat s.c.toNat).1:Nat)
def A8j:Sa→List V:=A1w fun s=>E8 (partition ltInt s.d s.a.toNat s.b.toNat s.c.toNat).2.2
def A2c:Sa→Bool:=A1w fun s=>(partition ltInt s.d s.a.toNat s.b.toNat s.c.toNat).2.1
def A8k:Sa→Int:=A1w fun s=>((partition ltInt s.d s.a.toNat s.b.toNat s.c.toNat).1:Nat)
def A26:Sa→Int:=A1w fun s=>((choosePivot ltInt s.d s.a.toNat s.b.toNat).1:Nat)
def A8l:Sa→Int:=A1w fun s=>match (choosePivot ltInt s.d s.a.toNat s.b.toNat).2 with | .unknown=>0 | .increasing=>1 | .decreasing=>2
def A2d:Sa→List V:=A1w fun s=>E8 (pdq ltInt s.d s.a.toNat s.b.toNat s.c.toNat true true)
def gLn (xs:List V):Bool:=Nat.ble xs.length 1000000&&B3L xs
def gAB (s:Sa):Bool:=F9 0 s.a&&(F9 s.a s.b&&(F9 s.b (s.xs.length:Nat)&&gLn s.xs))
def gAb (s:Sa):Bool:=G0 s.a s.b&&gAB s
def gAP (s:Sa):Bool:=F9 s.a s.c&&(G0 s.c s.b&&gAB s)
def gSf (s:Sa):Bool:=F9 0 s.a&&(F9 0 s.b&&(F9 0 s.c&&(F9 (s.c+s.b) (s.xs.length:Nat)&&(F9 s.a 1000000&&gLn s.xs))))
def gPd (n:Nat) (s:Sa):Bool:=G0 (s.b - s.a) (n:Nat)&&(F9 0 s.c&&(F9 s.c 1000000&&gAB s))
def rcA (el:Nat) (args:List A) (of:Nat→Option Ob) (nx:Nat):Option (List A×List V) :=
 match args with
 | .o id ver::as=>bif Nat.beq id 0&&(Nat.beq ver 1&&Nat.beq nx 1) then
  (match of 0 with
  | some (.row el' v xs nl sh)=>bif Nat.beq el el'&&(Nat.beq v 1&&(!nl&&!sh)) then some (as,xs) else none
  | _=>none) else none
 | _=>none
def rc2 (el:Nat) (args:List A) (of:Nat→Option Ob) (nx:Nat):Option Sa :=
 match rcA el args of nx with
 | some ([.i .i64 a,.i .i64 b],xs)=>some ⟨xs,a,b,0⟩
 | _=>none
def rc3 (el:Nat) (args:List A) (of:Nat→Option Ob) (nx:Nat):Option Sa :=
 match rcA el args of nx with
 | some ([.i .i64 a,.i .i64 b,.i .i64 c],xs)=>some ⟨xs,a,b,c⟩
 | _=>none
def W1 (el N:Nat) (val:Sa→A) (out:Sa→List V):Sa→G9:=fun s=>⟨val s,[(0,.row el 1 (out s) false false)],[0],N⟩
theorem A8m {el:Nat} {args as:List A} {of:Nat→Option Ob} {nx:Nat} {xs:List V} (h:rcA el args of nx=some (as,xs)) :
  args=.o 0 1::as∧nx=1∧of 0=some (.row el 1 xs false false):=by
 unfold rcA at h
 split at h<;>try (cases h;done)
 rename_i id ver as'
 cases h1:(Nat.beq id 0&&(Nat.beq ver 1&&Nat.beq nx 1)) with
 | false=>rw [h1] at h;cases h
 | true =>
 rw [h1] at h
 simp only [C6L] at h1
 obtain ⟨e1,e2,e3⟩:=h1
 obtain rfl:=C6K e1
 obtain rfl:=C6K e2
 obtain rfl:=C6K e3
 simp only [cond_true] at h
 split at h<;>try (cases h;done)
 rename_i el' v xs' nl sh ho
 cases h2:(Nat.beq el el'&&(Nat.beq v 1&&(!nl&&!sh))) with
 | false=>rw [h2] at h;cases h
 | true =>
 rw [h2] at h
 simp only [C6L,Bool.not_eq_true'] at h2
 obtain ⟨e1,e2,rfl,rfl⟩:=h2
 obtain rfl:=C6K e1
 obtain rfl:=C6K e2
 cases h
 exact ⟨rfl,rfl,ho⟩
theorem A8n {o:Ob} {of:Nat→Option Ob} (h:of 0=some o) {ro:List Nat} (hr:∀ id∈ro,id=0):∀ id∈ro,of id=ofL [o] id:=fun id A3=>by
 rw [hr id A3,h];rfl
variable {P:Program} {T:TT}
theorem A27 {el f N:Nat} {g:Sa→Bool} {val:Sa→A} {out:Sa→List V} {s:Sym} (hs:H6 P T f s)
  (h:∀ xs a b,g ⟨xs,a,b,0⟩=true→∃ n ro,n≤N∧s [.o 0 1,.i .i64 a,.i .i64 b] (ofL [.row el 1 xs false false]) 1=some ⟨val ⟨xs,a,b,0⟩,[(0,.row el 1 (out ⟨xs,a,b,0⟩) false false)],ro,n⟩∧∀ id∈ro,id=0) :
  U0 P T f (P7 (rc2 el) g (W1 el N val out)).dir:=B2n hs (fun args of nx x hx hg=>by
 unfold rc2 at hx
 split at hx<;>try (cases hx;done)
 rename_i a b xs ha
 cases hx
 obtain ⟨rfl,rfl,ho⟩:=A8m ha
 obtain ⟨n,ro,h1,h2,h3⟩:=h xs a b hg
 exact ⟨n,ro,_,h1,h2,A8n ho h3⟩)
theorem A28 {el f N:Nat} {g:Sa→Bool} {val:Sa→A} {out:Sa→List V} {s:Sym} (hs:H6 P T f s)
  (h:∀ xs a b c,g ⟨xs,a,b,c⟩=true→∃ n ro,n≤N∧s [.o 0 1,.i .i64 a,.i .i64 b,.i .i64 c] (ofL [.row el 1 xs false false]) 1=some ⟨val ⟨xs,a,b,c⟩,[(0,.row el 1 (out ⟨xs,a,b,c⟩) false false)],ro,n⟩∧∀ id∈ro,id=0) :
  U0 P T f (P7 (rc3 el) g (W1 el N val out)).dir:=B2n hs (fun args of nx x hx hg=>by
 unfold rc3 at hx
 split at hx<;>try (cases hx;done)
 rename_i a b c xs ha
 cases hx
 obtain ⟨rfl,rfl,ho⟩:=A8m ha
 obtain ⟨n,ro,h1,h2,h3⟩:=h xs a b c hg
 exact ⟨n,ro,_,h1,h2,A8n ho h3⟩)
open Go.RowKit Go.Sort
variable {R:Type}
inductive B35 where | m (xs:List V) (a b i:Int)
inductive C5d where | o (xs:List V) (a b i:Int)
def A8o (R:Type) (p:B35) (K:B35→Option R) (kx:C5d→Option R):Option R:=match p with
 | .m xs a b i=>bif G0 i b then D2 (A79 R) (A3 FU) (.m xs a b i i) (fun | .o xs a b i _=>K (.m xs a b (B1 (i+1)))) else kx (.o xs a b i)
inductive B36 where | m (xs:List V) (a i j:Int)
inductive C5e where | o (xs:List V) (a i j:Int)
def A8p (R:Type) (p:B36) (K:B36→Option R) (kx:C5e→Option R):Option R:=match p with
 | .m xs a i j=>D2 (B3U R) (A3 FU) (.m xs a i j) (fun | .o xs a i j=>D2 (B3W R) (A3 FU) (.m xs a i j) (fun | .o xs a i j=>bif G0 j i then kx (.o xs a i j) else swC xs i j fun ys=>K (.m ys a (B1 (i+1)) (B1 (j - 1)))))
inductive B37 where | m (xs:List V) (a i j:Int)
inductive C5f where | o (xs:List V) (a i j:Int)
def B0f (R:Type) (p:B37) (K:B37→Option R) (kx:C5f→Option R):Option R:=match p with
 | .m xs a i j=>D2 (B30 R) (A3 FU) (.m xs a i j) (fun | .o xs a i j=>D2 (B34 R) (A3 FU) (.m xs a i j) (fun | .o xs a i j=>bif G0 j i then kx (.o xs a i j) else swC xs i j fun ys=>K (.m ys a (B1 (i+1)) (B1 (j - 1)))))
inductive B0g where | m (xs:List V) (a b i s:Int)
inductive B9I where | o (xs:List V) (a b i s:Int) | r (xs:List V) (a b i s:Int) | t (xs:List V) (a b i s:Int)
def B0h (R:Type) (K:B0g→Option R) (xs:List V) (a b i s:Int):Option R :=
 bif F9 2 (B1 (b - i)) then D2 (A8c R) (A3 FU) (.m xs a b i s (B1 (i+1))) (fun | .o xs a b i s _=>K (.m xs a b i (B1 (s+1)))) else K (.m xs a b i (B1 (s+1)))
def A29 (R:Type) (p:B0g) (K:B0g→Option R) (kx:B9I→Option R):Option R:=match p with
 | .m xs a b i s=>bif G0 s 5 then D2 (B3Q R) (A3 FU) (.m xs a b i s) (fun | .o xs a b i s=>bif ieq i b then kx (.t xs a b i s) else bif G0 (B1 (b - a)) 50 then kx (.r xs a b i s) else swC xs i (B1 (i - 1)) fun xs=>bif F9 2 (B1 (i - a)) then D2 (A8b R) (A3 FU) (.m xs a b i s (B1 (i - 1))) (fun | .o xs a b i s _=>B0h R K xs a b i s) else B0h R K xs a b i s) else kx (.o xs a b i s)
theorem A3a {s:Sa} (h:gAB s=true):∃ (a b:Nat) (d:Array Int),s.a=(a:Int)∧s.b=(b:Int)∧s.xs=E8 d∧s.d=d∧a≤b∧b≤d.size∧d.size≤1000000:=by
 obtain ⟨xs,a,b,c⟩:=s
 simp only [gAB,gLn,C6L,E5] at h
 obtain ⟨h1,h2,h3,h4,h5⟩:=h
 obtain ⟨a,rfl⟩:=Int.eq_ofNat_of_zero_le h1
 obtain ⟨b,rfl⟩:=Int.eq_ofNat_of_zero_le (Int.le_trans h1 h2)
 have:=C6Q h4
 have e:=A78 h5
 have hs:(A3S xs).size=xs.length:=by rw [← R5,e]
 exact ⟨a,b,A3S xs,rfl,rfl,e.symm,rfl,by omega,by omega,by omega⟩
theorem L6 {n:Nat} (h:n < 100000000):n < A3 FU:=by rw [A7b];exact Nat.lt_of_lt_of_le h (by decide)
theorem B9J (a b:Nat):∀ (m i n:Nat) (d:Array Int),b - i≤m→m < n→b≤d.size→d.size≤1000000→i≤2000000 →
  ∃ i':Int,∀ kx,D2 (A8o R) n (.m (E8 d) a b i) kx=kx (.o (E8 (insOuter ltInt a b i d)) a b i'):=by
 intro m
 induction m with
 | zero =>
  intro i n d hm hn hb hz hi
  obtain ⟨n,rfl⟩:∃ m,n=m+1:=⟨n - 1,by omega⟩
  refine ⟨i,fun kx=>?_⟩
  rw [D2,A8o,C4,decide_eq_false (by omega),insOuter,if_neg (by omega)];rfl
 | succ m ih =>
  intro i n d hm hn hb hz hi
  obtain ⟨n,rfl⟩:∃ m,n=m+1:=⟨n - 1,by omega⟩
  by_cases h:i < b
  ·obtain ⟨j',h2⟩:=B9z (R:=R) a i (A3 FU) d b i (L6 (by omega)) (by omega) (by omega)
   obtain ⟨i',h3⟩:=ih (i+1) n (insInner ltInt a i d) (by omega) (by omega) (by rw [A2j];omega) (by rw [A2j];omega) (by omega)
   refine ⟨i',fun kx=>?_⟩
   rw [D2,A8o,C4,decide_eq_true (by omega),cond_true,h2]
   simp only
   rw [D3 (n:=i+1) (by omega) (by omega),h3]
   conv=>rhs;rw [insOuter,if_pos h]
  ·refine ⟨i,fun kx=>?_⟩
   rw [D2,A8o,C4,decide_eq_false (by omega),insOuter,if_neg (by omega)];rfl
theorem B9K {xs:List V} {a b:Int} (h:gAB ⟨xs,a,b,0⟩=true) (k:List V→Option R) :
  D2 (A8o R) (A3 FU) (.m xs a b (B1 (a+1))) (fun | .o ys _ _ _=>k ys)=k (A8d ⟨xs,a,b,0⟩):=by
 obtain ⟨a',b',d,h1,h2,h3,h4,h5,h6,h7⟩:=A3a h
 simp only at h1 h2 h3
 subst h1 h2 h3
 obtain ⟨i',h8⟩:=B9J (R:=R) a' b' b' (a'+1) (A3 FU) d (by omega) (L6 (by omega)) h6 h7 (by omega)
 rw [D3 (n:=a'+1) (by omega) (by omega),h8]
 simp only
 rw [A8d,D9,h4];rfl
theorem A3b (p:Int→Bool) (d:Array Int) (j:Nat):∀ (m i:Nat),j+1 - i≤m→i≤j+2→scanUp p d j i≤j+2:=by
 intro m
 induction m with
 | zero=>intro i h1 h2;rw [scanUp,if_neg (by simp;omega)];omega
 | succ m ih =>
  intro i h1 h2
  rw [scanUp]
  split
  ·rename_i h;simp at h;exact ih (i+1) (by omega) (by omega)
  ·omega
theorem B9L (a:Nat):∀ (m i j n:Nat) (d:Array Int),j+1 - i≤m→m < n→1≤i→i≤j+2→a < d.size→j < d.size→d.size≤1000000 →
  ∃ j':Int,∀ kx,D2 (A8p R) n (.m (E8 d) a i j) kx=kx (.o (E8 (partEqLoop ltInt a i j d).2) a (partEqLoop ltInt a i j d).1 j'):=by
 intro m
 induction m with
 | zero =>
  intro i j n d hm hn h1 hij ha hj hz
  obtain ⟨n,rfl⟩:∃ m,n=m+1:=⟨n - 1,by omega⟩
  have u:scanUp (fun x=>!ltInt d[a]! x) d j i=i:=by rw [scanUp,if_neg (by simp;omega)]
  have v:scanDown (fun x=>ltInt d[a]! x) d i j=j:=by cases j with
   | zero=>rfl
   | succ j=>rw [scanDown,if_neg (by simp;omega)]
  refine ⟨j,fun kx=>?_⟩
  rw [D2,A8p,A61 a j j i _ d (by omega) (L6 (by omega)) ha hj (by omega) (by omega),u]
  simp only
  rw [A62 a i h1 j _ d (L6 (by omega)) ha hj (by omega),v]
  simp only
  rw [C4,decide_eq_true (by omega),partEqLoop]
  try simp only
  rw [u,v,if_pos (by omega)];rfl
 | succ m ih =>
  intro i j n d hm hn h1 hij ha hj hz
  obtain ⟨n,rfl⟩:∃ m,n=m+1:=⟨n - 1,by omega⟩
  have hu:=A3b (fun x=>!ltInt d[a]! x) d j (j+1 - i) i (Nat.le_refl _) hij
  have hu2:=scanUp_ge (fun x=>!ltInt d[a]! x) d j i
  have hv:=scanDown_le (fun x=>ltInt d[a]! x) d (scanUp (fun x=>!ltInt d[a]! x) d j i) j
  by_cases h2:scanUp (fun x=>!ltInt d[a]! x) d j i > scanDown (fun x=>ltInt d[a]! x) d (scanUp (fun x=>!ltInt d[a]! x) d j i) j
  ·refine ⟨(scanDown (fun x=>ltInt d[a]! x) d (scanUp (fun x=>!ltInt d[a]! x) d j i) j:Nat),fun kx=>?_⟩
   rw [D2,A8p,A61 a j (j+1) i _ d (by omega) (L6 (by omega)) ha hj (by omega) (by omega)]
   simp only
   rw [A62 a _ (by omega) j _ d (L6 (by omega)) ha hj (by omega)]
   simp only
   rw [C4,decide_eq_true (by omega),partEqLoop]
   try simp only
   rw [if_pos h2];rfl
  ·have hpe:partEqLoop ltInt a i j d=partEqLoop ltInt a (scanUp (fun x=>!ltInt d[a]! x) d j i+1) (scanDown (fun x=>ltInt d[a]! x) d (scanUp (fun x=>!ltInt d[a]! x) d j i) j - 1) (swp d (scanUp (fun x=>!ltInt d[a]! x) d j i) (scanDown (fun x=>ltInt d[a]! x) d (scanUp (fun x=>!ltInt d[a]! x) d j i) j)):=by
    conv=>lhs;rw [partEqLoop]
    try simp only
    rw [if_neg h2,dif_pos (by omega)]
   obtain ⟨j',h3⟩:=ih (scanUp (fun x=>!ltInt d[a]! x) d j i+1) (scanDown (fun x=>ltInt d[a]! x) d (scanUp (fun x=>!ltInt d[a]! x) d j i) j - 1) n (swp d (scanUp (fun x=>!ltInt d[a]! x) d j i) (scanDown (fun x=>ltInt d[a]! x) d (scanUp (fun x=>!ltInt d[a]! x) d j i) j)) (by omega) (by omega) (by omega) (by omega) (by rw [B8];omega) (by rw [B8];omega) (by rw [B8];omega)
   refine ⟨j',fun kx=>?_⟩
   rw [D2,A8p,A61 a j (j+1) i _ d (by omega) (L6 (by omega)) ha hj (by omega) (by omega)]
   simp only
   rw [A62 a _ (by omega) j _ d (L6 (by omega)) ha hj (by omega)]
   simp only
   rw [C4,decide_eq_false (by omega),cond_false,N3 rfl rfl (by omega) (by omega),D3 (n:=scanUp (fun x=>!ltInt d[a]! x) d j i+1) (by omega) (by omega),
    D3 (n:=scanDown (fun x=>ltInt d[a]! x) d (scanUp (fun x=>!ltInt d[a]! x) d j i) j - 1) (by omega) (by omega),h3,hpe]
theorem B9M (a:Nat):∀ (m i j n:Nat) (d:Array Int),j+1 - i≤m→m < n→1≤i→i≤j+2→a < d.size→j < d.size→d.size≤1000000 →
  ∃ i':Int,∀ kx,D2 (B0f R) n (.m (E8 d) a i j) kx=kx (.o (E8 (partLoop ltInt a i j d).2) a i' (partLoop ltInt a i j d).1):=by
 intro m
 induction m with
 | zero =>
  intro i j n d hm hn h1 hij ha hj hz
  obtain ⟨n,rfl⟩:∃ m,n=m+1:=⟨n - 1,by omega⟩
  have u:scanUp (fun x=>ltInt x d[a]!) d j i=i:=by rw [scanUp,if_neg (by simp;omega)]
  have v:scanDown (fun x=>!ltInt x d[a]!) d i j=j:=by cases j with
   | zero=>rfl
   | succ j=>rw [scanDown,if_neg (by simp;omega)]
  refine ⟨i,fun kx=>?_⟩
  rw [D2,B0f,A63 a j j i _ d (by omega) (L6 (by omega)) ha hj (by omega) (by omega),u]
  simp only
  rw [A64 a i h1 j _ d (L6 (by omega)) ha hj (by omega),v]
  simp only
  rw [C4,decide_eq_true (by omega),partLoop]
  try simp only
  rw [u,v,if_pos (by omega)];rfl
 | succ m ih =>
  intro i j n d hm hn h1 hij ha hj hz
  obtain ⟨n,rfl⟩:∃ m,n=m+1:=⟨n - 1,by omega⟩
  have hu:=A3b (fun x=>ltInt x d[a]!) d j (j+1 - i) i (Nat.le_refl _) hij
  have hu2:=scanUp_ge (fun x=>ltInt x d[a]!) d j i
  have hv:=scanDown_le (fun x=>!ltInt x d[a]!) d (scanUp (fun x=>ltInt x d[a]!) d j i) j
  by_cases h2:scanUp (fun x=>ltInt x d[a]!) d j i > scanDown (fun x=>!ltInt x d[a]!) d (scanUp (fun x=>ltInt x d[a]!) d j i) j
  ·refine ⟨(scanUp (fun x=>ltInt x d[a]!) d j i:Nat),fun kx=>?_⟩
   rw [D2,B0f,A63 a j (j+1) i _ d (by omega) (L6 (by omega)) ha hj (by omega) (by omega)]
   simp only
   rw [A64 a _ (by omega) j _ d (L6 (by omega)) ha hj (by omega)]
   simp only
   rw [C4,decide_eq_true (by omega),partLoop]
   try simp only
   rw [if_pos h2];rfl
  ·have hpe:partLoop ltInt a i j d=partLoop ltInt a (scanUp (fun x=>ltInt x d[a]!) d j i+1) (scanDown (fun x=>!ltInt x d[a]!) d (scanUp (fun x=>ltInt x d[a]!) d j i) j - 1) (swp d (scanUp (fun x=>ltInt x d[a]!) d j i) (scanDown (fun x=>!ltInt x d[a]!) d (scanUp (fun x=>ltInt x d[a]!) d j i) j)):=by
    conv=>lhs;rw [partLoop]
    try simp only
    rw [if_neg h2,dif_pos (by omega)]
   obtain ⟨j',h3⟩:=ih (scanUp (fun x=>ltInt x d[a]!) d j i+1) (scanDown (fun x=>!ltInt x d[a]!) d (scanUp (fun x=>ltInt x d[a]!) d j i) j - 1) n (swp d (scanUp (fun x=>ltInt x d[a]!) d j i) (scanDown (fun x=>!ltInt x d[a]!) d (scanUp (fun x=>ltInt x d[a]!) d j i) j)) (by omega) (by omega) (by omega) (by omega) (by rw [B8];omega) (by rw [B8];omega) (by rw [B8];omega)
   refine ⟨j',fun kx=>?_⟩
   rw [D2,B0f,A63 a j (j+1) i _ d (by omega) (L6 (by omega)) ha hj (by omega) (by omega)]
   simp only
   rw [A64 a _ (by omega) j _ d (L6 (by omega)) ha hj (by omega)]
   simp only
   rw [C4,decide_eq_false (by omega),cond_false,N3 rfl rfl (by omega) (by omega),D3 (n:=scanUp (fun x=>ltInt x d[a]!) d j i+1) (by omega) (by omega),
    D3 (n:=scanDown (fun x=>!ltInt x d[a]!) d (scanUp (fun x=>ltInt x d[a]!) d j i) j - 1) (by omega) (by omega),h3,hpe]
theorem A5L (d:Array Int) (b:Nat):∀ (m i:Nat),b - i≤m→i≤b→i≤scanSorted ltInt d b i∧scanSorted ltInt d b i≤b:=by
 intro m
 induction m with
 | zero=>intro i h1 h2;rw [scanSorted,if_neg (by simp;omega)];omega
 | succ m ih =>
  intro i h1 h2
  rw [scanSorted]
  split
  ·rename_i h;simp at h;have:=ih (i+1) (by omega) (by omega);omega
  ·omega
theorem B9N (a b:Nat):∀ (m s i n:Nat) (d:Array Int),s+m=5→m < n→a < i→i≤b→b≤d.size→d.size≤1000000 →
  ∃ (i' s':Int) (q:B9I),(∀ kx,D2 (A29 R) n (.m (E8 d) a b i s) kx=kx q) ∧
   ((q=.o (E8 (partialIns ltInt a b m i d).1) a b i' s'∧(partialIns ltInt a b m i d).2=false)∨(q=.r (E8 (partialIns ltInt a b m i d).1) a b i' s'∧(partialIns ltInt a b m i d).2=false) ∨
    (q=.t (E8 (partialIns ltInt a b m i d).1) a b i' s'∧(partialIns ltInt a b m i d).2=true)):=by
 intro m
 induction m with
 | zero =>
  intro s i n d hs hn hai hib hb hz
  obtain ⟨n,rfl⟩:∃ m,n=m+1:=⟨n - 1,by omega⟩
  refine ⟨i,s,_,fun kx=>?_,Or.inl ⟨rfl,rfl⟩⟩
  rw [D2,A29,C4,decide_eq_false (by omega)];rfl
 | succ m ih =>
  intro s i n d hs hn hai hib hb hz
  obtain ⟨n,rfl⟩:∃ m,n=m+1:=⟨n - 1,by omega⟩
  obtain ⟨c1,c2⟩:=A5L d b (b - i) i (Nat.le_refl _) hib
  generalize hc:scanSorted ltInt d b i=c at c1 c2
  have head:∀ kx,D2 (A29 R) (n+1) (.m (E8 d) a b i s) kx=bif ieq (c:Int) b then kx (.t (E8 d) a b c s) else bif G0 (B1 ((b:Int) - a)) 50 then kx (.r (E8 d) a b c s) else
    swC (E8 d) c (B1 ((c:Int) - 1)) fun xs=>bif F9 2 (B1 ((c:Int) - a)) then D2 (A8b R) (A3 FU) (.m xs a b c s (B1 ((c:Int) - 1))) (fun | .o xs a b i s _=>B0h R (fun p=>D2 (A29 R) n p kx) xs a b i s) else B0h R (fun p=>D2 (A29 R) n p kx) xs a b c s:=by
   intro kx
   rw [D2,A29,C4,decide_eq_true (by omega),cond_true,B9C b a s b i _ d (by omega) (L6 (by omega)) hb (by omega) (by omega) (by omega),hc]
  by_cases h1:c=b
  ·refine ⟨c,s,.t (E8 d) a b c s,fun kx=>?_,Or.inr (Or.inr ⟨?_,?_⟩)⟩
   ·rw [head,V3 (by omega),cond_true]
   ·rw [partialIns];simp only [hc];rw [if_pos h1]
   ·rw [partialIns];simp only [hc];rw [if_pos h1]
  ·have hw:B1 ((b:Int) - a)=((b - a:Nat):Int):=D3 (by omega) (by omega)
   by_cases h2:b - a < 50
   ·refine ⟨c,s,.r (E8 d) a b c s,fun kx=>?_,Or.inr (Or.inl ⟨?_,?_⟩)⟩
    ·rw [head,A0C (by omega),cond_false,hw,C4,decide_eq_true (by omega),cond_true]
    ·rw [partialIns];simp only [hc];rw [if_neg h1,if_pos h2]
    ·rw [partialIns];simp only [hc];rw [if_neg h1,if_pos h2]
   ·have hc1:B1 ((c:Int) - 1)=((c - 1:Nat):Int):=D3 (by omega) (by omega)
    have hca:B1 ((c:Int) - a)=((c - a:Nat):Int):=D3 (by omega) (by omega)
    have hbc:B1 ((b:Int) - c)=((b - c:Nat):Int):=D3 (by omega) (by omega)
    have hc2:B1 ((c:Int)+1)=((c+1:Nat):Int):=D3 (by omega) (by omega)
    have hs1:B1 ((s:Int)+1)=((s+1:Nat):Int):=D3 (by omega) (by omega)
    have up:∀ d1:Array Int,d1.size=d.size→∃ (i' s':Int) (q:B9I),(∀ kx,B0h R (fun p=>D2 (A29 R) n p kx) (E8 d1) a b c s=kx q) ∧
      ((q=.o (E8 (partialIns ltInt a b m c (if b - c ≥ 2 then shiftUp ltInt b (c+1) d1 else d1)).1) a b i' s'∧(partialIns ltInt a b m c (if b - c ≥ 2 then shiftUp ltInt b (c+1) d1 else d1)).2=false) ∨
       (q=.r (E8 (partialIns ltInt a b m c (if b - c ≥ 2 then shiftUp ltInt b (c+1) d1 else d1)).1) a b i' s'∧(partialIns ltInt a b m c (if b - c ≥ 2 then shiftUp ltInt b (c+1) d1 else d1)).2=false) ∨
       (q=.t (E8 (partialIns ltInt a b m c (if b - c ≥ 2 then shiftUp ltInt b (c+1) d1 else d1)).1) a b i' s'∧(partialIns ltInt a b m c (if b - c ≥ 2 then shiftUp ltInt b (c+1) d1 else d1)).2=true)):=by
     intro d1 hd1
     by_cases h3:b - c ≥ 2
     ·rw [if_pos h3]
      obtain ⟨j',h4⟩:=B9E (R:=R) b a c s b (c+1) (A3 FU) d1 (by omega) (L6 (by omega)) (by omega) (by omega) (by omega) (by omega)
      obtain ⟨i',s',q,h5,h6⟩:=ih (s+1) c n (shiftUp ltInt b (c+1) d1) (by omega) (by omega) (by omega) (by omega) (by rw [A04 b b _ _ (by omega)];omega) (by rw [A04 b b _ _ (by omega)];omega)
      refine ⟨i',s',q,fun kx=>?_,h6⟩
      rw [B0h,hbc,C6,decide_eq_true (by omega),cond_true,hc2,h4]
      simp only
      rw [hs1,h5]
     ·rw [if_neg h3]
      obtain ⟨i',s',q,h5,h6⟩:=ih (s+1) c n d1 (by omega) (by omega) (by omega) (by omega) (by omega) (by omega)
      refine ⟨i',s',q,fun kx=>?_,h6⟩
      rw [B0h,hbc,C6,decide_eq_false (by omega),cond_false,hs1,h5]
    by_cases h3:c - a ≥ 2
    ·obtain ⟨j',h4⟩:=B9D (R:=R) a b c s (c - 1) (A3 FU) (swp d c (c - 1)) (L6 (by omega)) (by rw [B8];omega) (by rw [B8];omega)
     obtain ⟨i',s',q,h5,h6⟩:=up (shiftDown ltInt (c - 1) (swp d c (c - 1))) (by rw [A1B,B8])
     refine ⟨i',s',q,fun kx=>?_,?_⟩
     ·rw [head,A0C (by omega),cond_false,hw,C4,decide_eq_false (by omega),cond_false,hc1,N3 rfl rfl (by omega) (by omega),hca,C6,decide_eq_true (by omega),cond_true,h4]
      exact h5 kx
     ·rw [partialIns];simp only [hc];rw [if_neg h1,if_neg h2,if_pos h3];exact h6
    ·obtain ⟨i',s',q,h5,h6⟩:=up (swp d c (c - 1)) (by rw [B8])
     refine ⟨i',s',q,fun kx=>?_,?_⟩
     ·rw [head,A0C (by omega),cond_false,hw,C4,decide_eq_false (by omega),cond_false,hc1,N3 rfl rfl (by omega) (by omega),hca,C6,decide_eq_false (by omega),cond_false]
      exact h5 kx
     ·rw [partialIns];simp only [hc];rw [if_neg h1,if_neg h2,if_neg h3];exact h6
open Go.RowKit Go.Sort
variable {P:Program} {T:TT}
def B9O (b:Code):Nat:=1000 * (J1 b).length+A3g b
def C3x (l:List (Nat×LS)):LC:=fun b=>A8M l (B9O b)
theorem B51 {l:List (Nat×LS)} (h:∀ p∈l,LS.nat p.2):A1r (C3x l):=fun b s hs=>by
 obtain ⟨k,hk⟩:=A6f hs
 exact h _ hk
def A66 (n0:Nat) (l:List (Nat×LS)):Nat→LC:=fun n=>bif Nat.beq n n0 then C3x l else fun _=>none
theorem W2 {f:Nat} (n0:Nat) {l:List (Nat×LS)} (hn:∀ p∈l,LS.nat p.2) (n:Nat) (hl:Nat.beq (J1 (A5 P f)).length n=true) (h:B6s P T (C3x l) (C3 P f) n0 (A5 P f) n):J9 P T f (A66 n0 l):=by
 refine ⟨fun m=>?_,fun m fn code h1 h2=>?_⟩
 ·unfold A66
  cases Nat.beq m n0
  ·exact B3
  ·exact B51 hn
 ·unfold A66
  cases hm:Nat.beq m n0 with
  | false=>exact A9 code
  | true =>
   have:=C6K hm;subst this
   simp only [cond_true]
   have:=R9 n hl h
   simpa only [A5,C3,h1,h2] using this
open Go.RowKit Go.Sort
variable {R:Type}
theorem B52 {xs:List V} (h:gLn xs=true):∃ d:Array Int,xs=E8 d∧A3S xs=d∧d.size≤1000000∧d.size=xs.length:=by
 simp only [gLn,C6L] at h
 have e:=A78 h.2
 have hs:(A3S xs).size=xs.length:=by rw [← R5,e]
 have:=C6Q h.1
 exact ⟨A3S xs,e.symm,rfl,by omega,hs⟩
theorem B0i {s:Sa} (h:gAb s=true):∃ (a b:Nat) (d:Array Int),s.a=(a:Int)∧s.b=(b:Int)∧s.xs=E8 d∧s.d=d∧a < b∧b≤d.size∧d.size≤1000000:=by
 simp only [gAb,C6L,G5] at h
 obtain ⟨a,b,d,h1,h2,h3,h4,h5,h6,h7⟩:=A3a h.2
 exact ⟨a,b,d,h1,h2,h3,h4,by omega,h6,h7⟩
theorem B53 {s:Sa} (h:gAP s=true):∃ (a b c:Nat) (d:Array Int),s.a=(a:Int)∧s.b=(b:Int)∧s.c=(c:Int)∧s.xs=E8 d∧s.d=d∧a≤c∧c < b∧b≤d.size∧d.size≤1000000:=by
 simp only [gAP,C6L,G5,E5] at h
 obtain ⟨a,b,d,h1,h2,h3,h4,h5,h6,h7⟩:=A3a h.2.2
 obtain ⟨c,hc⟩:=Int.eq_ofNat_of_zero_le (show 0≤s.c by omega)
 exact ⟨a,b,c,d,h1,h2,hc,h3,h4,by omega,by omega,h6,h7⟩
theorem B9P {xs:List V} {a b c:Int} (h:gSf ⟨xs,a,b,c⟩=true) (k:List V→Option R) :
  D2 (A4A R) (A3 FU) (.m xs a b c) (fun | .o ys _ _ _=>k ys | .r ys _ _ _=>k ys)=k (A5J ⟨xs,a,b,c⟩):=by
 simp only [gSf,C6L,E5] at h
 obtain ⟨h1,h2,h3,h4,h5,h6⟩:=h
 obtain ⟨d,rfl,h7,h8,h9⟩:=B52 h6
 obtain ⟨a,rfl⟩:=Int.eq_ofNat_of_zero_le h1
 obtain ⟨b,rfl⟩:=Int.eq_ofNat_of_zero_le h2
 obtain ⟨c,rfl⟩:=Int.eq_ofNat_of_zero_le h3
 rw [R5] at h4
 obtain ⟨r',q,hq,h10⟩:=B9A (R:=R) b c b a (A3 FU) d (by omega) (L6 (by omega)) (by omega) (by omega) (by omega)
 rw [h10]
 have e:A5J ⟨E8 d,a,b,c⟩=E8 (siftDown ltInt b c a d):=by rw [A5J,D9];simp only [Sa.d,h7,Int.toNat_natCast]
 rw [e]
 rcases hq with rfl | rfl<;>rfl
theorem B9Q {xs:List V} {a b:Int} (h:gAb ⟨xs,a,b,0⟩=true) (k:List V→Option R) :
  D2 (A8a R) (A3 FU) (.m xs a (B1 (b - 1))) (fun | .o ys _ _=>k ys)=k (A5K ⟨xs,a,b,0⟩):=by
 obtain ⟨a',b',d,h1,h2,h3,h4,h5,h6,h7⟩:=B0i h
 simp only at h1 h2 h3
 subst h1 h2 h3
 obtain ⟨i',j',h8⟩:=B9B (R:=R) b' a' (b' - 1) (A3 FU) d (by omega) (L6 (by omega)) (by omega) (by omega) (by omega)
 rw [D3 (n:=b' - 1) (by omega) (by omega),h8]
 simp only
 rw [A5K,D9,h4];rfl
theorem B9R {xs:List V} {a b:Int} (h:gAb ⟨xs,a,b,0⟩=true) (k:Bool→List V→Option R) :
  D2 (A29 R) (A3 FU) (.m xs a b (B1 (a+1)) 0) (fun | .o ys _ _ _ _=>k false ys | .r ys _ _ _ _=>k false ys | .t ys _ _ _ _=>k true ys)=k (A8g ⟨xs,a,b,0⟩) (A65 ⟨xs,a,b,0⟩):=by
 obtain ⟨a',b',d,h1,h2,h3,h4,h5,h6,h7⟩:=B0i h
 simp only at h1 h2 h3
 subst h1 h2 h3
 obtain ⟨i',s',q,h8,h9⟩:=B9N (R:=R) a' b' 5 0 (a'+1) (A3 FU) d (by omega) (L6 (by omega)) (by omega) (by omega) h6 h7
 have e:D2 (A29 R) (A3 FU) (.m (E8 d) a' b' (B1 ((a':Int)+1)) 0)=D2 (A29 R) (A3 FU) (.m (E8 d) a' b' ((a'+1:Nat):Int) ((0:Nat):Int)):=by
  rw [D3 (n:=a'+1) (by omega) (by omega)];rfl
 rw [e,h8]
 rw [A8g,A65,D9,D9,h4]
 show _=k (partialIns ltInt a' b' 5 (a'+1) d).2 (E8 (partialIns ltInt a' b' 5 (a'+1) d).1)
 rcases h9 with ⟨rfl,h10⟩ | ⟨rfl,h10⟩ | ⟨rfl,h10⟩<;>rw [h10]
theorem B9S {xs:List V} {a b c:Int} (h:gAP ⟨xs,a,b,c⟩=true) (k:Int→List V→Option R) :
  swC xs a c (fun ys=>D2 (A8p R) (A3 FU) (.m ys a (B1 (a+1)) (B1 (b - 1))) (fun | .o zs _ i _=>k i zs))=k (A8i ⟨xs,a,b,c⟩) (A8h ⟨xs,a,b,c⟩):=by
 obtain ⟨a',b',c',d,h1,h2,h3,h4,h5,h6,h7,h8,h9⟩:=B53 h
 simp only at h1 h2 h3 h4
 subst h1 h2 h3 h4
 rw [N3 rfl rfl (by omega) (by omega),D3 (n:=a'+1) (by omega) (by omega),D3 (n:=b' - 1) (by omega) (by omega)]
 obtain ⟨j',h10⟩:=B9L (R:=R) a' b' (a'+1) (b' - 1) (A3 FU) (swp d a' c') (by omega) (L6 (by omega)) (by omega) (by omega) (by rw [B8];omega) (by rw [B8];omega) (by rw [B8];omega)
 rw [h10]
 simp only
 rw [A8i,A8h,D9,D9,h5];rfl
theorem A8q (a:Nat):∀ (m i j:Nat) (d:Array Int),j+1 - i≤m→(partLoop ltInt a i j d).1≤j∧(partLoop ltInt a i j d).2.size=d.size:=by
 intro m
 induction m with
 | zero =>
  intro i j d hm
  rw [partLoop]
  have hv:=scanDown_le (fun x=>!ltInt x d[a]!) d (scanUp (fun x=>ltInt x d[a]!) d j i) j
  split
  ·exact ⟨hv,rfl⟩
  ·rw [dif_neg (by omega)];exact ⟨hv,rfl⟩
 | succ m ih =>
  intro i j d hm
  rw [partLoop]
  have hv:=scanDown_le (fun x=>!ltInt x d[a]!) d (scanUp (fun x=>ltInt x d[a]!) d j i) j
  split
  ·exact ⟨hv,rfl⟩
  ·split
   ·rename_i h1 h2
    obtain ⟨h3,h4⟩:=ih (scanUp (fun x=>ltInt x d[a]!) d j i+1) (scanDown (fun x=>!ltInt x d[a]!) d (scanUp (fun x=>ltInt x d[a]!) d j i) j - 1) (swp d (scanUp (fun x=>ltInt x d[a]!) d j i) (scanDown (fun x=>!ltInt x d[a]!) d (scanUp (fun x=>ltInt x d[a]!) d j i) j)) (by omega)
    exact ⟨by omega,by rw [h4,B8]⟩
   ·exact ⟨hv,rfl⟩
def C5g (R:Type) (k:Int→Bool→List V→Option R) (xs:List V) (a i j:Int):Option R :=
 bif G0 j i then swC xs j a (k j true) else swC xs i j (fun xs=>D2 (B0f R) (A3 FU) (.m xs a (B1 (i+1)) (B1 (j - 1))) (fun | .o xs a i j=>swC xs j a (k j false)))
def C3y (R:Type) (xs:List V) (a b c:Int) (k:Int→Bool→List V→Option R):Option R :=
 swC xs a c (fun xs=>D2 (B3Y R) (A3 FU) (.m xs a (B1 (a+1)) (B1 (b - 1))) (fun | .o xs a i j=>D2 (B32 R) (A3 FU) (.m xs a i j) (fun | .o xs a i j=>C5g R k xs a i j)))
theorem B9T {xs:List V} {a b c:Int} (h:gAP ⟨xs,a,b,c⟩=true) (k:Int→Bool→List V→Option R) :
  C3y R xs a b c k=k (A8k ⟨xs,a,b,c⟩) (A2c ⟨xs,a,b,c⟩) (A8j ⟨xs,a,b,c⟩):=by
 obtain ⟨a',b',c',d,h1,h2,h3,h4,h5,h6,h7,h8,h9⟩:=B53 h
 simp only at h1 h2 h3 h4
 subst h1 h2 h3 h4
 have hsz:=B8 d a' c'
 rw [C3y,N3 rfl rfl (by omega) (by omega),D3 (n:=a'+1) (by omega) (by omega),D3 (n:=b' - 1) (by omega) (by omega)]
 rw [B9F a' (b' - 1) b' (a'+1) _ (swp d a' c') (by omega) (L6 (by omega)) (by omega) (by omega) (by omega) (by omega)]
 simp only
 rw [B9G a' _ (Nat.le_trans (by omega) (scanUp_ge _ _ _ _)) (b' - 1) _ (swp d a' c') (L6 (by omega)) (by omega) (by omega) (by omega)]
 simp only
 rw [C5g]
 have hu:=A3b (fun x=>ltInt x (swp d a' c')[a']!) (swp d a' c') (b' - 1) b' (a'+1) (by omega) (by omega)
 have hu2:=scanUp_ge (fun x=>ltInt x (swp d a' c')[a']!) (swp d a' c') (b' - 1) (a'+1)
 rw [A8k,A2c,A8j,D9,D9,D9,h5]
 simp only [Int.toNat_natCast,partition]
 generalize scanUp (fun x=>ltInt x (swp d a' c')[a']!) (swp d a' c') (b' - 1) (a'+1)=i at hu hu2 ⊢
 have hv:=scanDown_le (fun x=>!ltInt x (swp d a' c')[a']!) (swp d a' c') i (b' - 1)
 generalize scanDown (fun x=>!ltInt x (swp d a' c')[a']!) (swp d a' c') i (b' - 1)=j at hv ⊢
 by_cases hij:i > j
 ·rw [C4,decide_eq_true (by omega),cond_true,N3 rfl rfl (by omega) (by omega),if_pos hij]
 ·rw [C4,decide_eq_false (by omega),cond_false,N3 rfl rfl (by omega) (by omega),D3 (n:=i+1) (by omega) (by omega),D3 (n:=j - 1) (by omega) (by omega),if_neg hij]
  have hs2:=B8 (swp d a' c') i j
  obtain ⟨i',h10⟩:=B9M (R:=R) a' b' (i+1) (j - 1) (A3 FU) (swp (swp d a' c') i j) (by omega) (L6 (by omega)) (by omega) (by omega) (by omega) (by omega) (by omega)
  obtain ⟨h11,h12⟩:=A8q a' b' (i+1) (j - 1) (swp (swp d a' c') i j) (by omega)
  rw [h10]
  simp only
  rw [N3 rfl rfl (by omega) (by omega)]
def C5h (R:Type) (xs:List V) (a b:Int) (k:List V→Option R):Option R:=D2 (A8o R) (A3 FU) (.m xs a b (B1 (a+1))) (fun | .o ys _ _ _=>k ys)
def C5i (R:Type) (xs:List V) (a b c:Int) (k:List V→Option R):Option R:=D2 (A4A R) (A3 FU) (.m xs a b c) (fun | .o ys _ _ _=>k ys | .r ys _ _ _=>k ys)
def C5j (R:Type) (xs:List V) (a b:Int) (k:List V→Option R):Option R:=D2 (A8a R) (A3 FU) (.m xs a (B1 (b - 1))) (fun | .o ys _ _=>k ys)
def C5k (R:Type) (xs:List V) (a b:Int) (k:Bool→List V→Option R):Option R:=D2 (A29 R) (A3 FU) (.m xs a b (B1 (a+1)) 0) (fun | .o ys _ _ _ _=>k false ys | .r ys _ _ _ _=>k false ys | .t ys _ _ _ _=>k true ys)
def C5l (R:Type) (xs:List V) (a b c:Int) (k:Int→List V→Option R):Option R:=swC xs a c (fun ys=>D2 (A8p R) (A3 FU) (.m ys a (B1 (a+1)) (B1 (b - 1))) (fun | .o zs _ i _=>k i zs))
def o2G (R:Type) (xs:List V) (a b n:Int) (k:Int→Int→Int→Option R):Option R:=ltC xs b a (k b a (B1 (n+1))) (k a b n)
theorem B54 {xs:List V} {a b:Int} (h:gAB ⟨xs,a,b,0⟩=true) (k:List V→Option R):C5h R xs a b k=k (A8d ⟨xs,a,b,0⟩):=B9K h k
theorem B55 {xs:List V} {a b c:Int} (h:gSf ⟨xs,a,b,c⟩=true) (k:List V→Option R):C5i R xs a b c k=k (A5J ⟨xs,a,b,c⟩):=B9P h k
theorem B56 {xs:List V} {a b:Int} (h:gAb ⟨xs,a,b,0⟩=true) (k:List V→Option R):C5j R xs a b k=k (A5K ⟨xs,a,b,0⟩):=B9Q h k
theorem B57 {xs:List V} {a b:Int} (h:gAb ⟨xs,a,b,0⟩=true) (k:Bool→List V→Option R):C5k R xs a b k=k (A8g ⟨xs,a,b,0⟩) (A65 ⟨xs,a,b,0⟩):=B9R h k
theorem B58 {xs:List V} {a b c:Int} (h:gAP ⟨xs,a,b,c⟩=true) (k:Int→List V→Option R):C5l R xs a b c k=k (A8i ⟨xs,a,b,c⟩) (A8h ⟨xs,a,b,c⟩):=B9S h k
end Go.Vm
end