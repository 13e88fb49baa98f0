/- What the operations of a program do, shown once for all programs; and numbers. -/
import Derived.Test.YtadjkmffodhmbaaGreatVm10
import Derived.Test.YtadjkmffodhmbaaGreatVm9
import Derived.Maps.RangeRun
set_option linter.constructorNameAsVariable false
set_option linter.unusedVariables false
set_option linter.unusedSimpArgs false
noncomputable section
namespace Go.Vm
open Go.RowKit
variable {R:Type}
theorem A7h:∀ (x y:List V),sLt x y=!V6 y x:=by
 intro x
 induction x with
 | nil=>intro y;cases y<;>rfl
 | cons a x ih =>
  intro y
  cases y with
  | nil=>rfl
  | cons b y =>
   simp only [sLt,V6,ih]
   by_cases h1:b.int < a.int
   ·have e1:B5 b.int a.int=true:=by simp [B5,h1]
    have e2:B5 a.int b.int=false:=by simp [B5];omega
    have e3:L5 a.int b.int=false:=by rw [← Bool.not_eq_true,L7];omega
    simp [e1,e2,e3]
   ·have e1:B5 b.int a.int=false:=by simp [B5];omega
    by_cases h2:a.int < b.int
    ·have e2:B5 a.int b.int=true:=by simp [B5,h2]
     simp [e1,e2]
    ·have e2:B5 a.int b.int=false:=by simp [B5];omega
     have e3:L5 a.int b.int=true:=by rw [L7];omega
     simp [e1,e2,e3]
theorem B58:∀ x:List V,V6 x x=true:=by
 intro x
 induction x with
 | nil=>rfl
 | cons a x ih =>
  have e1:B5 a.int a.int=false:=by simp [B5]
  simp only [V6,e1,cond_false,ih]
theorem B0N:∀ x y:List V,V6 x y=true∨V6 y x=true:=by
 intro x
 induction x with
 | nil=>intro y;exact .inl rfl
 | cons a x ih =>
  intro y
  cases y with
  | nil=>exact .inr rfl
  | cons b y =>
   simp only [V6]
   by_cases h1:a.int < b.int
   ·left;have:B5 a.int b.int=true:=by simp [B5,h1]
    rw [this];rfl
   ·have e1:B5 a.int b.int=false:=by simp [B5];omega
    by_cases h2:b.int < a.int
    ·right;have:B5 b.int a.int=true:=by simp [B5,h2]
     rw [this];rfl
    ·have e2:B5 b.int a.int=false:=by simp [B5];omega
     simp only [e1,e2,cond_false]
     exact ih y
theorem B38:∀ {x y z:List V},V6 x y=true→V6 y z=true→V6 x z=true:=by
 intro x
 induction x with
 | nil=>intro y z _ _;rfl
 | cons a x ih =>
  intro y z h1 h2
  cases y with
  | nil=>cases h1
  | cons b y=>cases z with
   | nil=>cases h2
   | cons c z =>
    simp only [V6] at h1 h2 ⊢
    simp only [G5] at h1 h2 ⊢
    by_cases a1:a.int < b.int
    ·by_cases b1:b.int < c.int
     ·have:a.int < c.int:=by omega
      simp [this]
     ·by_cases b2:c.int < b.int
      ·simp [b1,b2] at h2
      ·have:a.int < c.int:=by omega
       simp [this]
    ·by_cases a2:b.int < a.int
     ·simp [a1,a2] at h1
     ·simp only [a1,a2,decide_false,cond_false] at h1
      by_cases b1:b.int < c.int
      ·have:a.int < c.int:=by omega
       simp [this]
      ·by_cases b2:c.int < b.int
       ·simp [b1,b2] at h2
       ·simp only [b1,b2,decide_false,cond_false] at h2
        have c1:¬ a.int < c.int:=by omega
        have c2:¬ c.int < a.int:=by omega
        simp only [c1,c2,decide_false,cond_false]
        exact ih h1 h2
def A2d (x:List V):Prop:=∃ ns:List Nat,x=ns.map nv
theorem A8m {x y:List V} (hx:A2d x) (hy:A2d y) (h1:V6 x y=true) (h2:V6 y x=true):x=y:=by
 obtain ⟨ns,rfl⟩:=hx
 obtain ⟨ms,rfl⟩:=hy
 induction ns generalizing ms with
 | nil=>cases ms with
  | nil=>rfl
  | cons b ms=>cases h2
 | cons a ns ih=>cases ms with
  | nil=>cases h1
  | cons b ms =>
   simp only [List.map_cons,V6,nv,V.int,G5] at h1 h2
   by_cases a1:(a:Int) < b
   ·have:¬ (b:Int) < a:=by omega
    simp [a1,this] at h2
   ·by_cases a2:(b:Int) < a
    ·simp [a1,a2] at h1
    ·simp only [a1,a2,decide_false,cond_false] at h1 h2
     have:a=b:=by omega
     subst this
     rw [List.map_cons,List.map_cons,ih ms h1 h2]
def NmV (x:V):Prop:=∃ nm,x=.s nm∧A2d nm
def StS (xs:List V):Prop:=xs.Pairwise (fun a b=>sLt a.els b.els=true)∧∀ x∈xs,NmV x
def A0D (nm:List V):List V→List V
 | []=>[.s nm]
 | x::r=>bif sLt x.els nm then x::A0D nm r else bif F5 x.els nm then x::r else .s nm::x::r
theorem C1q {nm:List V}:∀ {xs:List V},StS xs→V.s nm∈xs→A0D nm xs=xs:=by
 intro xs
 induction xs with
 | nil=>intro _ h;cases h
 | cons x r ih =>
  intro hs h
  obtain ⟨h1,h2⟩:=hs
  rw [List.pairwise_cons] at h1
  rcases List.mem_cons.1 h with rfl | h
  ·have:sLt (V.s nm).els nm=false:=by rw [A7h,show (V.s nm).els=nm from rfl,B58];rfl
   have e2:F5 (V.s nm).els nm=true:=(G9 _ _).2 rfl
   simp only [A0D,this,cond_false,e2,cond_true]
  ·have:sLt x.els nm=true:=h1.1 _ h
   simp only [A0D,this,cond_true]
   rw [ih ⟨h1.2,fun y hy=>h2 y (by simp [hy])⟩ h]
theorem C1r {nm:List V}:∀ {xs:List V},(∀ x∈xs,NmV x)→V.s nm ∉ xs→A0D nm xs=A3o (.s nm) xs:=by
 intro xs
 induction xs with
 | nil=>intro _ _;rfl
 | cons x r ih =>
  intro hs h
  simp only [List.mem_cons,not_or] at h
  obtain ⟨nx,rfl,_⟩:=hs x (by simp)
  have hne:F5 (V.s nx).els nm=false:=by
   rw [← Bool.not_eq_true,G9]
   intro q;exact h.1 (by rw [← show nx=nm from q])
  simp only [A0D,A3o,A7h,hne,cond_false,show (V.s nm).els=nm from rfl]
  cases V6 nm (V.s nx).els
  ·simp only [Bool.not_false,cond_true,cond_false]
   rw [ih (fun y hy=>hs y (by simp [hy])) h.2]
  ·rfl
theorem C1s {a x:V}:∀ {l:List V},x∈A3o a l↔x=a∨x∈l:=by
 intro l
 induction l with
 | nil=>simp [A3o]
 | cons b r ih =>
  simp only [A3o]
  cases V6 a.els b.els
  ·simp only [cond_false,List.mem_cons,ih]
   constructor
   ·rintro (h | h | h)<;>simp [h]
   ·rintro (h | h | h)<;>simp [h]
  ·simp
theorem B59 (a:V):∀ l:List V,(A3o a l).Perm (a::l):=by
 intro l
 induction l with
 | nil=>exact List.Perm.refl _
 | cons b r ih =>
  simp only [A3o]
  cases V6 a.els b.els
  ·exact (ih.cons b).trans (List.Perm.swap _ _ _)
  ·exact List.Perm.refl _
theorem X6:∀ l:List V,(Y9 l).Perm l:=by
 intro l
 induction l with
 | nil=>exact List.Perm.refl _
 | cons a r ih=>exact (B59 a _).trans (ih.cons a)
theorem B0O (a:V):∀ l:List V,l.Pairwise (fun x y=>V6 x.els y.els=true)→(A3o a l).Pairwise (fun x y=>V6 x.els y.els=true):=by
 intro l
 induction l with
 | nil=>intro _;exact List.pairwise_singleton _ _
 | cons b r ih =>
  intro h
  rw [List.pairwise_cons] at h
  simp only [A3o]
  cases hab:V6 a.els b.els
  ·rw [cond_false,List.pairwise_cons]
   refine ⟨fun x hx=>?_,ih h.2⟩
   rcases C1s.1 hx with rfl | hx
   ·rcases B0N x.els b.els with q | q
    ·rw [q] at hab;cases hab
    ·exact q
   ·exact h.1 x hx
  ·rw [cond_true,List.pairwise_cons]
   refine ⟨fun x hx=>?_,List.pairwise_cons.2 h⟩
   rcases List.mem_cons.1 hx with rfl | hx
   ·exact hab
   ·exact B38 hab (h.1 x hx)
theorem A3Z:∀ l:List V,(Y9 l).Pairwise (fun x y=>V6 x.els y.els=true):=by
 intro l
 induction l with
 | nil=>exact List.Pairwise.nil
 | cons a r ih=>exact B0O a _ ih
theorem A7i {l m:List V} (h:l.Perm m) (hn:∀ x∈l,NmV x):Y9 l=Y9 m:=by
 have hp:(Y9 l).Perm (Y9 m):=((X6 l).trans h).trans (X6 m).symm
 refine List.Perm.eq_of_pairwise (le:=fun a b=>V6 a.els b.els=true) (fun a b ha hb h1 h2=>?_) (A3Z l) (A3Z m) hp
 obtain ⟨na,rfl,h3⟩:=hn a ((X6 l).mem_iff.1 ha)
 obtain ⟨nb,rfl,h4⟩:=hn b (h.mem_iff.2 ((X6 m).mem_iff.1 hb))
 rw [A8m h3 h4 h1 h2]
theorem A7j {nm:List V} {x:V}:∀ {xs:List V},x∈A0D nm xs→x=.s nm∨x∈xs:=by
 intro xs
 induction xs with
 | nil=>intro h;simpa [A0D] using h
 | cons y r ih =>
  intro h
  simp only [A0D] at h
  cases c1:sLt y.els nm with
  | true =>
   rw [c1,cond_true] at h
   rcases List.mem_cons.1 h with rfl | h
   ·exact .inr (by simp)
   ·exact (ih h).imp id (fun q=>by simp [q])
  | false =>
   rw [c1,cond_false] at h
   cases c2:F5 y.els nm with
   | true=>rw [c2,cond_true] at h;exact .inr h
   | false =>
    rw [c2,cond_false] at h
    rcases List.mem_cons.1 h with rfl | h
    ·exact .inl rfl
    ·exact .inr h
theorem C9Z {x y:List V} (hx:A2d x) (hy:A2d y) (h1:V6 x y=true) (h2:x≠y):sLt x y=true:=by
 rw [A7h]
 cases h:V6 y x with
 | false=>rfl
 | true=>exact absurd (A8m hx hy h1 h) h2
theorem C90 {x y z:List V} (h1:sLt x y=true) (h2:sLt y z=true):sLt x z=true:=by
 rw [A7h] at *
 simp only [Bool.not_eq_true'] at *
 cases h:V6 z x with
 | false=>rfl
 | true =>
  rcases B0N y z with q | q
  ·have:=B38 q h
   rw [this] at h1;cases h1
  ·rw [q] at h2;cases h2
theorem C5u {nm:List V} (hn:A2d nm):∀ {xs:List V},StS xs→StS (A0D nm xs):=by
 intro xs
 induction xs with
 | nil=>intro _;exact ⟨List.pairwise_singleton _ _,fun x hx=>by simp only [A0D,List.mem_singleton] at hx;subst hx;exact ⟨nm,rfl,hn⟩⟩
 | cons y r ih =>
  intro hs
  have hm:∀ x∈A0D nm (y::r),NmV x:=fun x hx=>by
   rcases A7j hx with rfl | hx
   ·exact ⟨nm,rfl,hn⟩
   ·exact hs.2 x hx
  refine ⟨?_,hm⟩
  obtain ⟨h1,h2⟩:=hs
  have h1':=h1
  rw [List.pairwise_cons] at h1
  simp only [A0D]
  obtain ⟨ny,rfl,hny⟩:=h2 y (by simp)
  cases c1:sLt (V.s ny).els nm with
  | true =>
   rw [cond_true,List.pairwise_cons]
   refine ⟨fun x hx=>?_,(ih ⟨h1.2,fun z hz=>h2 z (by simp [hz])⟩).1⟩
   rcases A7j hx with rfl | hx
   ·exact c1
   ·exact h1.1 x hx
  | false =>
   rw [cond_false]
   cases c2:F5 (V.s ny).els nm with
   | true=>exact h1'
   | false =>
    rw [cond_false,List.pairwise_cons]
    have hlt:sLt nm (V.s ny).els=true:=by
     rw [A7h] at c1
     simp only [Bool.not_eq_false'] at c1
     exact C9Z hn hny c1 (fun q=>by
      have:F5 (V.s ny).els nm=true:=(G9 _ _).2 q.symm
      rw [this] at c2;cases c2)
    refine ⟨fun x hx=>?_,h1'⟩
    rcases List.mem_cons.1 hx with rfl | hx
    ·exact hlt
    ·exact C90 hlt (h1.1 x hx)
abbrev L4 (e:V):List V:=(e.nth 0).els
def J4 (xs l:List V):List V:=l.foldl (fun xs e=>A0D (L4 e) xs) xs
def G0 (nm:List V) (l:List V):List V:=l.filter fun e=>F5 (L4 e) nm
variable {R:Type}
def B6a (i:Nat) (e:V):Bool:=B5 40 (i:Int)||(B5 100 ((L4 e).length:Nat)||(B5 300 ((e.nth 1).els.length:Nat)||(B5 (e.nth 2).int 0||B5 1000000000 (e.nth 2).int)))
def A0c:List V→Nat→Bool
 | [],_=>true
 | e::r,i=>bif B6a i e then false else A0c r (i+1)
theorem C91 {l:V} {ko kr:Option R} {kx:QRn→Option R} (h1:∀ n i,kx (.o l n i)=ko) (h2:∀ n i,kx (.r l n i)=kr):∀ (r a:List V) (fuel:Nat),l.els=a++r→(∀ x∈r,(L4 x).length≤MX∧(x.nth 1).els.length≤MX)→a.length≤41→l.els.length≤MX→50≤fuel+a.length →
  E1 (BRn R) fuel (.m l (l.els.length:Nat) (a.length:Nat)) kx=bif A0c r a.length then ko else kr:=by
 intro r
 induction r with
 | nil =>
  intro a fuel he hg ha hz hf
  obtain ⟨f,rfl⟩:∃ f,fuel=f+1:=⟨fuel - 1,by omega⟩
  rw [List.append_nil] at he
  rw [E1,C5I,A3l he,cond_false,h1];rfl
 | cons x r ih =>
  intro a fuel he hg ha hz hf
  obtain ⟨f,rfl⟩:∃ f,fuel=f+1:=⟨fuel - 1,by omega⟩
  have hle:l.els.length=a.length+(r.length+1):=by rw [he];simp
  have hat:l.nth ((a.length:Nat):Int).toNat=x:=S7 he
  obtain ⟨x1,x2⟩:=hg x (by simp)
  have ih:=ih (a++[x]) f (by rw [he];simp) (fun y hy=>hg y (by simp [hy]))
  simp only [D2J,D2Q] at ih
  rw [E1,C5I,A3k he,cond_true,C9 (by omega) (by omega),hat]
  have e1:A0c (x::r) a.length=bif B6a a.length x then false else A0c r (a.length+1):=rfl
  rw [e1]
  unfold B6a
  cases b1:B5 40 ((a.length:Nat):Int) with
  | true=>rw [cond_true,h2];rfl
  | false =>
  rw [cond_false,B7 x1]
  cases b2:B5 100 ((L4 x).length:Nat) with
  | true=>rw [cond_true,h2];rfl
  | false =>
  rw [cond_false,B7 x2]
  cases b3:B5 300 ((x.nth 1).els.length:Nat) with
  | true=>rw [cond_true,h2];rfl
  | false =>
  rw [cond_false]
  cases b4:B5 (x.nth 2).int 0 with
  | true=>rw [cond_true,h2];rfl
  | false =>
  rw [cond_false]
  cases b5:B5 1000000000 (x.nth 2).int with
  | true=>rw [cond_true,h2];rfl
  | false =>
  rw [cond_false]
  have:((a.length:Nat):Int)≤40:=by rw [G5] at b1;simpa using b1
  rw [L9 (by omega)]
  exact ih (by omega) hz (by omega)
def rnG (b:Nat) (l:V):Option (List Rs):=ln l.els.length <| E1 (BRn (List Rs)) (A2 FU) (.m l (l.els.length:Nat) 0) fun q=>match q with
 | .o l1 n1 i1=>some [.d b (.b true)]
 | .r l1 n1 i1=>some [.d b (.b false)]
def rng:List V→Bool
 | [l]=>Nat.ble l.els.length MX&&l.els.all fun x=>Nat.ble (L4 x).length MX&&Nat.ble (x.nth 1).els.length MX
 | _=>false
def rnr (b:Nat):List V→List Rs
 | [l]=>[.d b (.b (A0c l.els 0))]
 | _=>[]
theorem C5v {b:Nat} {l:V} (hg:rng [l]=true):rnG b l=some (rnr b [l]):=by
 have hg:(Nat.ble l.els.length MX&&l.els.all fun x=>Nat.ble (L4 x).length MX&&Nat.ble (x.nth 1).els.length MX)=true:=hg
 simp only [D2I,Nat.ble_eq,List.all_eq_true] at hg
 obtain ⟨g1,g2⟩:=hg
 unfold rnG
 have hq:=U0
 rw [B7 g1]
 have:=C91 (l:=l) (ko:=some [Rs.d b (.b true)]) (kr:=some [Rs.d b (.b false)]) (kx:=fun q=>match q with
  | .o l1 n1 i1=>some [.d b (.b true)]
  | .r l1 n1 i1=>some [.d b (.b false)]) (fun _ _=>rfl) (fun _ _=>rfl) l.els [] (A2 FU) rfl (fun x hx=>g2 x hx) (by decide) g1 (by omega)
 refine this.trans ?_
 show _=some [Rs.d b (.b (A0c l.els 0))]
 show (bif A0c l.els 0 then _ else _)=_
 cases A0c l.els 0<;>rfl
theorem C92 {a b:V} {ko kr:Option R} {kx:QSa→Option R} (h1:∀ n i,kx (.o a b n i)=ko) (h2:∀ n i,kx (.r a b n i)=kr):∀ (r s p q:List V) (fuel:Nat),a.els=p++r→b.els=q++s→p.length=q.length→r.length=s.length→p.length+r.length≤100000→r.length < fuel →
  E1 (BSa R) fuel (.m a b (a.els.length:Nat) (p.length:Nat)) kx=bif F5 r s then ko else kr:=by
 intro r
 induction r with
 | nil =>
  intro s p q fuel he he2 hpq hrs hz hf
  obtain ⟨f,rfl⟩:∃ f,fuel=f+1:=⟨fuel - 1,by omega⟩
  cases s with
  | cons y s=>simp at hrs
  | nil =>
   rw [List.append_nil] at he
   rw [E1,C5J,A3l he,cond_false,h1];rfl
 | cons x r ih =>
  intro s p q fuel he he2 hpq hrs hz hf
  obtain ⟨f,rfl⟩:∃ f,fuel=f+1:=⟨fuel - 1,by omega⟩
  cases s with
  | nil=>simp at hrs
  | cons y s =>
   simp only [D2P] at hrs hz hf
   have l1:a.els.length=p.length+(r.length+1):=by rw [he];simp
   have l2:b.els.length=q.length+(s.length+1):=by rw [he2];simp
   have ha:a.nth ((p.length:Nat):Int).toNat=x:=S7 he
   have hb:b.nth ((p.length:Nat):Int).toNat=y:=by rw [hpq];exact S7 he2
   have ih:=ih s (p++[x]) (q++[y]) f (by rw [he];simp) (by rw [he2];simp) (by simp [hpq]) (by omega) (by simp only [D2J,D2Q];omega) (by omega)
   simp only [D2J,D2Q] at ih
   rw [E1,C5J,A3k he,cond_true,C9 (by omega) (by omega),C9 (by omega) (by omega),ha,hb]
   show _=bif Q5 x y&&F5 r s then ko else kr
   cases Q5 x y with
   | false=>rw [Bool.not_false,cond_true,h2];rfl
   | true =>
    rw [Bool.not_true,cond_false,Bool.true_and,L9 (by omega)]
    exact ih
theorem C1t {a b:List V} (h:a.length≠b.length):F5 a b=false:=by
 rw [← Bool.not_eq_true,G9];intro q;exact h (by rw [q])
def sag:List V→Bool
 | [a,b]=>Nat.ble a.els.length 100000&&Nat.ble b.els.length 100000
 | _=>false
def sar (t:Nat):List V→List Rs
 | [a,b]=>[.d t (.b (F5 a.els b.els))]
 | _=>[]
def saG (t:Nat) (a b:V):Option (List Rs) :=
 ln a.els.length <| ln b.els.length <| bif !(L5 (a.els.length:Nat) (b.els.length:Nat)) then some [.d t (.b false)] else ln a.els.length <| E1 (BSa (List Rs)) (A2 FU) (.m a b (a.els.length:Nat) 0) fun q=>match q with
 | .o a1 b1 n1 i1=>some [.d t (.b true)]
 | .r a1 b1 n1 i1=>some [.d t (.b false)]
theorem C5w {t:Nat} {a b:V} (hg:sag [a,b]=true):saG t a b=some (sar t [a,b]):=by
 have hg:(Nat.ble a.els.length 100000&&Nat.ble b.els.length 100000)=true:=hg
 simp only [D2I,Nat.ble_eq] at hg
 obtain ⟨g1,g2⟩:=hg
 have hq:=U0
 unfold saG
 rw [B7 (by omega),B7 (by omega),B7 (by omega)]
 show _=some [Rs.d t (.b (F5 a.els b.els))]
 by_cases hl:a.els.length=b.els.length
 ·rw [show L5 (a.els.length:Nat) (b.els.length:Nat)=true by rw [L7,hl],Bool.not_true,cond_false]
  have:=C92 (a:=a) (b:=b) (ko:=some [Rs.d t (.b true)]) (kr:=some [Rs.d t (.b false)]) (kx:=fun q=>match q with
   | .o a1 b1 n1 i1=>some [.d t (.b true)]
   | .r a1 b1 n1 i1=>some [.d t (.b false)]) (fun _ _=>rfl) (fun _ _=>rfl) a.els b.els [] [] (A2 FU) rfl rfl rfl hl (by simpa using g1) (by omega)
  refine this.trans ?_
  cases F5 a.els b.els<;>rfl
 ·rw [show L5 (a.els.length:Nat) (b.els.length:Nat)=false by rw [← Bool.not_eq_true,L7];omega,Bool.not_false,cond_true,C1t hl]
theorem C93 {nm:List V} {l:V} {kx:QHn→Option R}:∀ (r a xs:List V) (fuel:Nat),l.els=a++r→a.length+r.length≤100000→xs.length≤a.length→r.length < fuel →
  E1 (BHn R) fuel (.m nm l xs (l.els.length:Nat) (a.length:Nat)) kx=kx (.o nm l (xs++G0 nm r) (l.els.length:Nat) (l.els.length:Nat)):=by
 intro r
 induction r with
 | nil =>
  intro a xs fuel he hz hx hf
  obtain ⟨f,rfl⟩:∃ f,fuel=f+1:=⟨fuel - 1,by omega⟩
  rw [List.append_nil] at he
  rw [E1,C5L,A3l he,cond_false]
  simp only [G0,List.filter_nil,List.append_nil,he]
 | cons x r ih =>
  intro a xs fuel he hz hx hf
  obtain ⟨f,rfl⟩:∃ f,fuel=f+1:=⟨fuel - 1,by omega⟩
  simp only [D2P] at hz hf
  have hle:l.els.length=a.length+(r.length+1):=by rw [he];simp
  have hat:l.nth ((a.length:Nat):Int).toNat=x:=S7 he
  rw [E1,C5L,A3k he,cond_true,C9 (by omega) (by omega),hat]
  have e1:G0 nm (x::r)=bif F5 (L4 x) nm then x::G0 nm r else G0 nm r:=by
   simp only [G0,List.filter_cons];cases F5 (L4 x) nm<;>rfl
  rw [e1]
  cases F5 (L4 x) nm with
  | true =>
   have ih:=ih (a++[x]) (xs++[x]) f (by rw [he];simp) (by simp only [D2J,D2Q];omega) (by simp only [D2J,D2Q];omega) (by omega)
   simp only [D2J,D2Q,List.append_assoc,List.singleton_append] at ih
   rw [cond_true,cond_true,B3 (by simp only [D2Q];omega),L9 (by omega)]
   exact ih
  | false =>
   have ih:=ih (a++[x]) xs f (by rw [he];simp) (by simp only [D2J,D2Q];omega) (by simp only [D2J,D2Q];omega) (by omega)
   simp only [D2J,D2Q] at ih
   rw [cond_false,cond_false,L9 (by omega)]
   exact ih
def beN (nm:List V) (xs:List V):Nat:=(xs.takeWhile fun x=>sLt x.els nm).length
theorem C94 {e l:V} {n i:Int} {xs:List V} {kx:QNi→Option R}:∀ (r p:List V) (fuel:Nat),xs=p++r→xs.length≤100000→r.length < fuel →
  E1 (BNi R) fuel (.m xs e (p.length:Nat) l n i) kx=kx (.o xs e ((p.length+beN (L4 e) r:Nat):Int) l n i):=by
 intro r
 induction r with
 | nil =>
  intro p fuel he hz hf
  obtain ⟨f,rfl⟩:∃ f,fuel=f+1:=⟨fuel - 1,by omega⟩
  rw [List.append_nil] at he
  subst he
  rw [E1,C5M,B7 (by omega)]
  rw [show B5 ((xs.length:Nat):Int) ((xs.length:Nat):Int)=false by rw [G5];simp,cond_false]
  rfl
 | cons x r ih =>
  intro p fuel he hz hf
  obtain ⟨f,rfl⟩:∃ f,fuel=f+1:=⟨fuel - 1,by omega⟩
  simp only [D2P] at hf
  have hle:xs.length=p.length+(r.length+1):=by rw [he];simp
  have hat:xs.getD ((p.length:Nat):Int).toNat .n=x:=by
   rw [he,Int.toNat_natCast,List.getD_eq_getElem?_getD,List.getElem?_append_right (Nat.le_refl _),Nat.sub_self];rfl
  rw [E1,C5M,B7 (by omega),show B5 ((p.length:Nat):Int) ((xs.length:Nat):Int)=true by rw [G5];simp;omega,cond_true,C9 (by omega) (by omega),hat]
  have e1:beN (L4 e) (x::r)=bif sLt x.els (L4 e) then 1+beN (L4 e) r else 0:=by
   simp only [beN,List.takeWhile_cons]
   cases sLt x.els (L4 e) with
   | true=>simp;omega
   | false=>rfl
  rw [e1]
  have ih:=ih (p++[x]) f (by rw [he];simp) hz (by omega)
  simp only [D2J,D2Q] at ih
  show (bif sLt x.els (L4 e) then _ else _)=_
  cases sLt x.els (L4 e) with
  | true =>
   rw [cond_true,cond_true,L9 (by omega),ih,Nat.add_assoc]
  | false=>rfl
theorem C1u (nm:List V) (xs:List V):beN nm xs≤xs.length:=(List.takeWhile_sublist _).length_le
theorem B39 (nm:List V):∀ xs:List V,A0D nm xs=if h:beN nm xs < xs.length then (bif F5 (xs[beN nm xs]).els nm then xs else xs.take (beN nm xs)++.s nm::xs.drop (beN nm xs)) else xs++[.s nm]:=by
 intro xs
 induction xs with
 | nil=>rfl
 | cons x r ih =>
  have e1:beN nm (x::r)=bif sLt x.els nm then beN nm r+1 else 0:=by
   simp only [beN,List.takeWhile_cons]
   cases sLt x.els nm<;>rfl
  simp only [A0D]
  cases h:sLt x.els nm with
  | true =>
   rw [cond_true,ih]
   rw [h,cond_true] at e1
   simp only [e1,D2P,Nat.add_lt_add_iff_right]
   by_cases hl:beN nm r < r.length
   ·rw [dif_pos hl,dif_pos hl]
    simp only [List.getElem_cons_succ,List.take_succ_cons,List.drop_succ_cons,List.cons_append]
    cases F5 (r[beN nm r]).els nm<;>rfl
   ·rw [dif_neg hl,dif_neg hl];rfl
  | false =>
   rw [h,cond_false] at e1
   rw [cond_false]
   simp only [e1,D2P,Nat.zero_lt_succ,dif_pos,List.getElem_cons_zero,List.take_zero,List.drop_zero,List.nil_append]
theorem B0P (nm:List V) (xs:List V):(A0D nm xs).length≤xs.length+1:=by
 have h1:=C1u nm xs
 rw [B39]
 split
 ·cases F5 (xs[beN nm xs]).els nm
  ·simp only [cond_false,D2J,List.length_take,D2P,List.length_drop];omega
  ·simp
 ·simp
variable {R:Type}
theorem C95 {l:V} {kx:QNo→Option R}:∀ (r a xs:List V) (fuel:Nat),l.els=a++r→a.length+r.length≤10000→xs.length≤a.length→r.length < fuel →
  E1 (BNo R) fuel (.m xs l (l.els.length:Nat) (a.length:Nat)) kx=kx (.o (J4 xs r) l (l.els.length:Nat) (l.els.length:Nat)):=by
 intro r
 induction r with
 | nil =>
  intro a xs fuel he hz hx hf
  obtain ⟨f,rfl⟩:∃ f,fuel=f+1:=⟨fuel - 1,by omega⟩
  rw [List.append_nil] at he
  rw [E1,C5N,A3l he,cond_false]
  simp only [J4,List.foldl_nil,he]
 | cons x r ih =>
  intro a xs fuel he hz hx hf
  obtain ⟨f,rfl⟩:∃ f,fuel=f+1:=⟨fuel - 1,by omega⟩
  simp only [D2P] at hz hf
  have hle:l.els.length=a.length+(r.length+1):=by rw [he];simp
  have hat:l.nth ((a.length:Nat):Int).toNat=x:=S7 he
  have hq:=U0
  have hin:=B0P (L4 x) xs
  have ih:=ih (a++[x]) (A0D (L4 x) xs) f (by rw [he];simp) (by simp only [D2J,D2Q];omega) (by simp only [D2J,D2Q];omega) (by omega)
  simp only [D2J,D2Q] at ih
  rw [E1,C5N,A3k he,cond_true,C9 (by omega) (by omega),hat]
  have hni:=C94 (R:=R) (e:=x) (l:=l) (n:=(l.els.length:Nat)) (i:=(a.length:Nat)) (xs:=xs) (kx:=fun q=>match q with
   | .o xs1 e1 a1 l1 n1 i1 =>
   ln xs1.length <|
   bif L5 a1 (xs1.length:Nat) then
   bif ((C0 0 a1)&&(C0 a1 (xs1.length:Nat)))&&(C0 (xs1.length:Nat) (xs1.length:Nat)) then
   bif Nat.ble ((0+a1.toNat)+(((xs1.length:Nat) - a1)).toNat) xs1.length then
   N0 (((List.replicate 0 (V.s []))).length+((List.take ((((xs1.length:Nat) - a1)).toNat) (List.drop (0+a1.toNat) xs1))).length) <|
   bif L5 a1 a1 then
   bif ((C0 0 (0:Nat))&&(C0 (0:Nat) a1))&&(C0 a1 (xs1.length:Nat)) then
   N0 (((List.take (((a1 - (0:Nat))).toNat) (List.drop 0 xs1))).length+([(V.s (((V.nth e1 0)).els))]).length) <|
   N0 ((((List.take (((a1 - (0:Nat))).toNat) (List.drop 0 xs1))++[(V.s (((V.nth e1 0)).els))])).length+(((List.replicate 0 (V.s []))++(List.take ((((xs1.length:Nat) - a1)).toNat) (List.drop (0+a1.toNat) xs1)))).length) <|
   E1 (BNo R) f (.m (((List.take (((a1 - (0:Nat))).toNat) (List.drop 0 xs1))++[(V.s (((V.nth e1 0)).els))])++((List.replicate 0 (V.s []))++(List.take ((((xs1.length:Nat) - a1)).toNat) (List.drop (0+a1.toNat) xs1)))) l1 n1 (D7 (i1+1))) kx
   else
   none
   else
   none
   else
   none
   else
   none
   else
   ck a1 xs1.length <|
   bif !(F5 (((List.getD xs1 a1.toNat .n)).els) (((V.nth e1 0)).els)) then
   bif ((C0 0 a1)&&(C0 a1 (xs1.length:Nat)))&&(C0 (xs1.length:Nat) (xs1.length:Nat)) then
   bif Nat.ble ((0+a1.toNat)+(((xs1.length:Nat) - a1)).toNat) xs1.length then
   N0 (((List.replicate 0 (V.s []))).length+((List.take ((((xs1.length:Nat) - a1)).toNat) (List.drop (0+a1.toNat) xs1))).length) <|
   bif L5 a1 a1 then
   bif ((C0 0 (0:Nat))&&(C0 (0:Nat) a1))&&(C0 a1 (xs1.length:Nat)) then
   N0 (((List.take (((a1 - (0:Nat))).toNat) (List.drop 0 xs1))).length+([(V.s (((V.nth e1 0)).els))]).length) <|
   N0 ((((List.take (((a1 - (0:Nat))).toNat) (List.drop 0 xs1))++[(V.s (((V.nth e1 0)).els))])).length+(((List.replicate 0 (V.s []))++(List.take ((((xs1.length:Nat) - a1)).toNat) (List.drop (0+a1.toNat) xs1)))).length) <|
   E1 (BNo R) f (.m (((List.take (((a1 - (0:Nat))).toNat) (List.drop 0 xs1))++[(V.s (((V.nth e1 0)).els))])++((List.replicate 0 (V.s []))++(List.take ((((xs1.length:Nat) - a1)).toNat) (List.drop (0+a1.toNat) xs1)))) l1 n1 (D7 (i1+1))) kx
   else
   none
   else
   none
   else
   none
   else
   none
   else
   E1 (BNo R) f (.m xs1 l1 n1 (D7 (i1+1))) kx) xs [] (A2 FU) rfl (by omega) (by omega)
  refine hni.trans ?_
  clear hni
  simp only [List.length_nil,Nat.zero_add]
  have hb:=C1u (L4 x) xs
  have e1:J4 xs (x::r)=J4 (A0D (L4 x) xs) r:=rfl
  rw [e1]
  refine Eq.trans ?_ ih
  clear ih
  have hio:=B39 (L4 x) xs
  generalize hbe:beN (L4 x) xs=b at hb hio
  have c1:((b:Nat):Int).toNat=b:=by omega
  have c2:(((xs.length:Nat):Int) - ((b:Nat):Int)).toNat=xs.length - b:=by omega
  have c3:((((b:Nat):Int) - ((0:Nat):Int))).toNat=b:=by omega
  have d1:((C0 0 ((b:Nat):Int)&&C0 ((b:Nat):Int) ((xs.length:Nat):Int))&&C0 ((xs.length:Nat):Int) ((xs.length:Nat):Int))=true:=by simp only [Q0,D2I,D2T];omega
  have d2:((C0 0 ((0:Nat):Int)&&C0 ((0:Nat):Int) ((b:Nat):Int))&&C0 ((b:Nat):Int) ((xs.length:Nat):Int))=true:=by simp only [Q0,D2I,D2T];omega
  have d3:Nat.ble (b+(xs.length - b)) xs.length=true:=D2R (by omega)
  have d4:L5 ((b:Nat):Int) ((b:Nat):Int)=true:=by rw [L7]
  have tk:List.take (xs.length - b) (List.drop b xs)=List.drop b xs:=List.take_of_length_le (by simp)
  have fin:(((List.take b (List.drop 0 xs))++[V.s (L4 x)])++((List.replicate 0 (V.s []))++List.drop b xs))=List.take b xs++.s (L4 x)::List.drop b xs:=by simp
  simp only [c1,c2,c3,d1,d2,d3,d4,tk,cond_true]
  rw [B7 (by omega)]
  have l1:((List.replicate 0 (V.s [])).length+(List.drop b xs).length)≤1073741824:=by simp;omega
  have l2:((List.take b (List.drop 0 xs)).length+[V.s (L4 x)].length)≤1073741824:=by simp;omega
  have l3:(((List.take b (List.drop 0 xs)++[V.s (L4 x)])).length+((List.replicate 0 (V.s [])++List.drop b xs)).length)≤1073741824:=by simp;omega
  rw [B3 l1,B3 l2,B3 l3,fin,L9 (by omega)]
  by_cases hbl:b < xs.length
  ·rw [dif_pos hbl] at hio
   rw [show L5 ((b:Nat):Int) ((xs.length:Nat):Int)=false by rw [← Bool.not_eq_true,L7];omega,cond_false,C9 (by omega) (by omega)]
   have hg:List.getD xs b .n=xs[b]:=by
    rw [List.getD_eq_getElem?_getD,D2U hbl];rfl
   rw [hg]
   rw [hio]
   cases F5 (xs[b]).els (L4 x)<;>rfl
  ·rw [dif_neg hbl] at hio
   have hbe:b=xs.length:=by omega
   subst hbe
   rw [show L5 ((xs.length:Nat):Int) ((xs.length:Nat):Int)=true by rw [L7],cond_true,hio]
   simp
def nmg:List V→Bool
 | [l]=>Nat.ble l.els.length 10000
 | _=>false
def nmr (t:Nat):List V→List Rs
 | [l]=>[.r t (J4 [] l.els) false]
 | _=>[]
def noG (t:Nat) (l:V):Option (List Rs):=ln l.els.length <| E1 (BNo (List Rs)) (A2 FU) (.m (List.replicate 0 (V.s [])) l (l.els.length:Nat) 0) fun q=>match q with
 | .o xs1 l1 n1 i1=>some [.r t xs1 false]
theorem C5x {t:Nat} {l:V} (hg:nmg [l]=true):noG t l=some (nmr t [l]):=by
 have hg:Nat.ble l.els.length 10000=true:=hg
 simp only [Nat.ble_eq] at hg
 have hq:=U0
 unfold noG
 rw [B7 (by omega)]
 exact C95 (l:=l) (kx:=fun q=>match q with | .o xs1 l1 n1 i1=>some [Rs.r t xs1 false]) l.els [] [] (A2 FU) rfl (by simpa using hg) (by simp) (by omega)
def hig:List V→Bool
 | [l,n]=>Nat.ble l.els.length 10000
 | _=>false
def hir (t:Nat):List V→List Rs
 | [l,n]=>[.r t (G0 n.els l.els) false]
 | _=>[]
def hiG (t:Nat) (z l:V) (n:List V):Option (List Rs):=ln l.els.length <| E1 (BHn (List Rs)) (A2 FU) (.m n l (List.replicate 0 z) (l.els.length:Nat) 0) fun q=>match q with
 | .o nm1 l1 xs1 n1 i1=>some [.r t xs1 false]
theorem C5y {t:Nat} {z l:V} {n:List V} (hg:hig [l,.s n]=true):hiG t z l n=some (hir t [l,.s n]):=by
 have hg:Nat.ble l.els.length 10000=true:=hg
 simp only [Nat.ble_eq] at hg
 have hq:=U0
 unfold hiG
 rw [B7 (by omega)]
 exact C93 (l:=l) (kx:=fun q=>match q with | .o nm1 l1 xs1 n1 i1=>some [Rs.r t xs1 false]) l.els [] [] (A2 FU) rfl (by simp;omega) (by simp) (by omega)
def noE:V:=.l [.s [],.s [],.i 0,.l [.l (List.replicate 32 (.i 0)),.i 0]]
def lsV (xs:List V):V:=xs.getD (D7 ((xs.length:Nat) - 1)).toNat .n
def C1v (l:V):Bool:=!(L5 (l.els.length:Nat) 0)
def C6t (l:V):V:=bif C1v l then V.nth l (D7 ((l.els.length:Nat) - 1)).toNat else noE
def clg:List V→Bool
 | [l]=>Nat.ble l.els.length 10000
 | _=>false
def clr (t:Nat):List V→List Rs
 | [l]=>[.r t l.els (isN l)]
 | _=>[]
variable {T:TT} {P:Program}
def A4E (g st:Nat):E5:=fun R args of nx k =>
 match args with
 | [.f g' [.p ib tb []]]=>bif Nat.beq g g' then (match of ib with
  | some (.box tb' (.m mid) _)=>match of mid with
   | some o=>match B3g o with
    | some (kt,es)=>bif Nat.beq kt st&&(okK es&&Nat.ble es.length 1000000) then k ⟨.o nx 1,[(nx,.row st 1 (Y9 (es.map (·.1))) (Y9 (es.map (·.1))).isEmpty false)],[ib,mid],nx+1⟩ else none
    | none=>none
   | _=>none
  | _=>none) else none
 | _=>none
theorem A8n (g st:Nat) (R:Type) (args:List A) (of:Nat→Option Ob) (nx:Nat) (k:W8→Option R):A4E g st R args of nx k=ob (A4K g st args of nx) k:=by
 unfold A4E
 split
 ·rename_i g' ib tb
  simp only [A4K]
  cases Nat.beq g g' with
  | false=>rfl
  | true =>
   simp only [cond_true]
   cases of ib with
   | none=>rfl
   | some o=>cases o with
    | box tb' a sh=>cases a with
     | m mid =>
      simp only
      cases of mid with
      | none=>rfl
      | some o =>
       simp only
       cases B3g o with
       | none=>rfl
       | some p =>
        obtain ⟨kt,es⟩:=p
        simp only [A49]
        cases (Nat.beq kt st&&(okK es&&Nat.ble es.length 1000000))<;>rfl
     | _=>rfl
    | _=>rfl
 ·rename_i h
  unfold A4K
  split
  ·rename_i g' ib tb;exact absurd rfl (h _ _ _)
  ·rfl
theorem A7k (g st:Nat):(A4E g st).dir=A4K g st:=by
 funext args of nx
 show A4E g st W8 args of nx some=_
 rw [A8n]
 cases A4K g st args of nx<;>rfl
theorem B2H (g st:Nat):(A4E g st).nat:=by
 intro R args of nx k
 rw [A7k,A8n]
inductive PAr where
 | m (l:V) (xs:List V) (ks:List V) (nk:Bool) (n:Int) (i:Int)
inductive QAr where
 | o (l:V) (xs:List V) (ks:List V) (nk:Bool) (n:Int) (i:Int)
def BAr (R:Type) (p:PAr) (K:PAr→Option R) (kx:QAr→Option R):Option R :=
 match p with
 | .m l xs ks nk n i =>
  bif B5 i n then
   ck i ks.length <|
   bif Nat.ble ((l.els).length) 10000 then
   N0 (xs.length+((G0 (((List.getD ks i.toNat .n)).els) l.els)).length) <|
   K (.m l (xs++(G0 (((List.getD ks i.toNat .n)).els) l.els)) ks nk n (D7 (i+1)))
   else
   none
   else
   kx (.o l xs ks nk n i)
abbrev C6u:=@BAr.eq_1
inductive PAw where
 | m (es:List (V×V×Bool)) (xs:List V) (nl:Bool) (ks:List V) (nk:Bool) (n:Int) (i:Int)
inductive QAw where
 | o (es:List (V×V×Bool)) (xs:List V) (nl:Bool) (ks:List V) (nk:Bool) (n:Int) (i:Int)
def BAw (R:Type) (p:PAw) (K:PAw→Option R) (kx:QAw→Option R):Option R :=
 match p with
 | .m es xs nl ks nk n i =>
  bif B5 i n then
   ck i ks.length <|
   bif J5 (.s (((List.getD ks i.toNat .n)).els)) es then
   N0 (xs.length+(((N6 (.s (((List.getD ks i.toNat .n)).els)) es)).els).length) <|
   K (.m es (xs++((N6 (.s (((List.getD ks i.toNat .n)).els)) es)).els) (nl&&(((N6 (.s (((List.getD ks i.toNat .n)).els)) es)).els).isEmpty) ks nk n (D7 (i+1)))
   else
   N0 (xs.length+(([]:List V)).length) <|
   K (.m es (xs++([]:List V)) (nl&&(([]:List V)).isEmpty) ks nk n (D7 (i+1)))
   else
   kx (.o es xs nl ks nk n i)
abbrev B4a:=@BAw.eq_1
variable {R:Type}
theorem A2U:∀ (l xs:List V),(J4 xs l).length≤xs.length+l.length:=by
 intro l
 induction l with
 | nil=>intro xs;exact Nat.le_refl _
 | cons e r ih =>
  intro xs
  have h1:=ih (A0D (L4 e) xs)
  have h2:=B0P (L4 e) xs
  show (J4 (A0D (L4 e) xs) r).length≤_
  simp only [D2P];omega
theorem A8o {x:V}:∀ {l xs:List V},x∈J4 xs l→x∈xs∨∃ e∈l,x=.s (L4 e):=by
 intro l
 induction l with
 | nil=>intro xs h;exact .inl h
 | cons e r ih =>
  intro xs h
  rcases ih (show x∈J4 (A0D (L4 e) xs) r from h) with h | ⟨e',h1,h2⟩
  ·rcases A7j h with rfl | h
   ·exact .inr ⟨e,by simp,rfl⟩
   ·exact .inl h
  ·exact .inr ⟨e',by simp [h1],h2⟩
theorem C1w:∀ {l xs:List V},StS xs→(∀ e∈l,A2d (L4 e))→StS (J4 xs l):=by
 intro l
 induction l with
 | nil=>intro xs h _;exact h
 | cons e r ih=>intro xs h hn;exact ih (xs:=A0D (L4 e) xs) (C5u (hn e (by simp)) h) (fun x hx=>hn x (by simp [hx]))
theorem C6v {ks a r:List V} {k:V} (h:ks=a++k::r):List.getD ks ((a.length:Nat):Int).toNat .n=k:=by
 rw [h,Int.toNat_natCast,List.getD_eq_getElem?_getD,List.getElem?_append_right (Nat.le_refl _),Nat.sub_self];rfl
theorem D1y {ks a r:List V} {k:V} (h:ks=a++k::r):B5 ((a.length:Nat):Int) ((ks.length:Nat):Int)=true:=by rw [h,G5];simp;omega
theorem D1z (n:Nat):B5 (n:Int) (n:Int)=false:=by rw [G5];simp
def A25 (l:List V):List V→List V→List V
 | [],xs=>xs
 | k::r,xs=>A25 l r (xs++G0 k.els l)
theorem C96 {l:V} {nk:Bool} {ks:List V} {kx:QAr→Option R} (hl:l.els.length≤10000):∀ (r a xs:List V) (fuel:Nat),ks=a++r→ks.length≤10000→xs.length≤a.length * 10000→r.length < fuel →
  E1 (BAr R) fuel (.m l xs ks nk (ks.length:Nat) (a.length:Nat)) kx=kx (.o l (A25 l.els r xs) ks nk (ks.length:Nat) (ks.length:Nat)):=by
 have hlb:Nat.ble l.els.length 10000=true:=D2R hl
 intro r
 induction r with
 | nil =>
  intro a xs fuel he hz hx hf
  obtain ⟨f,rfl⟩:∃ f,fuel=f+1:=⟨fuel - 1,by omega⟩
  rw [List.append_nil] at he
  subst he
  rw [E1,C6u,D1z,cond_false];rfl
 | cons k r ih =>
  intro a xs fuel he hz hx hf
  obtain ⟨f,rfl⟩:∃ f,fuel=f+1:=⟨fuel - 1,by omega⟩
  simp only [D2P] at hf
  have hle:ks.length=a.length+(r.length+1):=by rw [he];simp
  have hh:(G0 k.els l.els).length≤l.els.length:=List.length_filter_le _ _
  have ih:=ih (a++[k]) (xs++G0 k.els l.els) f (by rw [he];simp) hz (by simp only [D2J,D2Q];omega) (by omega)
  simp only [D2J,D2Q] at ih
  rw [E1,C6u,D1y he,cond_true,C9 (by omega) (by omega),hlb,cond_true,C6v he,B3 (by omega),L9 (by omega)]
  exact ih
def alg:List V→Bool
 | [l]=>Nat.ble l.els.length 10000
 | _=>false
def alr (t:Nat):List V→List Rs
 | [l]=>[.r t (A25 l.els (J4 [] l.els) []) false]
 | _=>[]
def alG (t:Nat) (z l:V):Option (List Rs):=bif Nat.ble l.els.length 10000 then ln (J4 [] l.els).length <| E1 (BAr (List Rs)) (A2 FU) (.m l (List.replicate 0 z) (J4 [] l.els) false ((J4 [] l.els).length:Nat) 0) fun q=>match q with
 | .o l1 xs1 ks1 nk1 n1 i1=>some [.r t xs1 false] else none
theorem C5z {t:Nat} {z l:V} (hg:alg [l]=true):alG t z l=some (alr t [l]):=by
 have hg:Nat.ble l.els.length 10000=true:=hg
 have g:=D2N hg
 have hq:=U0
 have hn:=A2U l.els []
 simp only [List.length_nil,Nat.zero_add] at hn
 unfold alG
 rw [hg,cond_true,B7 (by omega)]
 exact C96 (kx:=fun q=>match q with | .o l1 xs1 ks1 nk1 n1 i1=>some [Rs.r t xs1 false]) g (J4 [] l.els) [] [] (A2 FU) rfl (by omega) (by simp) (by omega)
variable {R:Type}
def B6b (st:Nat) (es:List (V×V×Bool)) (k:List V→Option R):Option R :=
 bif Nat.beq st st&&(okK (A2c es)&&Nat.ble (A2c es).length 1000000) then
  ln (Y9 ((A2c es).map (·.1))).length <| k (Y9 ((A2c es).map (·.1)))
 else none
variable {R:Type}
theorem A7l {k kv:V} (hne:Q5 k kv=false):∀ es:List (V×V×Bool),J5 kv (U5 k es)=J5 kv es:=by
 have hk:k≠kv:=fun q=>by rw [(J7 _ _).2 q] at hne;cases hne
 intro es
 induction es with
 | nil=>rfl
 | cons p r ih =>
  simp only [U5,J5]
  cases h:Q5 p.1 k with
  | true =>
   have:p.1=k:=(J7 _ _).1 h
   rw [cond_true,ih,this,hne,Bool.false_or]
  | false=>simp only [cond_false,J5,ih]
theorem A30 {k kv:V} (hne:Q5 k kv=false):∀ es:List (V×V×Bool),N6 kv (U5 k es)=N6 kv es∧A0r kv (U5 k es)=A0r kv es:=by
 intro es
 induction es with
 | nil=>exact ⟨rfl,rfl⟩
 | cons p r ih =>
  simp only [U5,N6,A0r]
  cases h:Q5 p.1 k with
  | true =>
   have:p.1=k:=(J7 _ _).1 h
   rw [cond_true,ih.1,ih.2,this,hne];exact ⟨rfl,rfl⟩
  | false=>simp only [cond_false,N6,A0r,ih.1,ih.2,and_self]
theorem A31 {k kv x:V} {q:Bool} {es:List (V×V×Bool)}:J5 kv (V1 k x q es)=(Q5 k kv||J5 kv es):=by
 show (Q5 k kv||J5 kv (U5 k es))=_
 cases h:Q5 k kv with
 | true=>rfl
 | false=>rw [A7l h]
theorem B0Q {k kv x:V} {q:Bool} {es:List (V×V×Bool)}:N6 kv (V1 k x q es)=(bif Q5 k kv then x else N6 kv es):=by
 show (bif Q5 k kv then x else N6 kv (U5 k es))=_
 cases h:Q5 k kv with
 | true=>rfl
 | false=>rw [(A30 h es).1]
theorem B0R {k kv x:V} {q:Bool} {es:List (V×V×Bool)}:A0r kv (V1 k x q es)=(bif Q5 k kv then q else A0r kv es):=by
 show (bif Q5 k kv then q else A0r kv (U5 k es))=_
 cases h:Q5 k kv with
 | true=>rfl
 | false=>rw [(A30 h es).2]
theorem A0Z {kv:V}:∀ {es:List (V×V×Bool)},J5 kv es=true↔kv∈es.map (·.1):=by
 intro es
 induction es with
 | nil=>simp [J5]
 | cons p r ih =>
  simp only [J5,Bool.or_eq_true,J7,ih,List.map_cons,List.mem_cons]
  exact ⟨fun h=>h.imp (fun q=>q.symm) id,fun h=>h.imp (fun q=>q.symm) id⟩
theorem A8p {kv:V} {es:List (V×V×Bool)} (h:J5 kv es=false):U5 kv es=es:=by
 rw [H5]
 refine Y5 (fun p hp q=>?_)
 have:J5 kv es=true:=A0Z.2 (List.mem_map.2 ⟨p,hp,q⟩)
 rw [this] at h;cases h
theorem B6c {kv:V}:∀ {es:List (V×V×Bool)},(es.map (·.1)).Nodup→J5 kv es=true→(kv::(U5 kv es).map (·.1)).Perm (es.map (·.1)):=by
 intro es
 induction es with
 | nil=>intro _ h;cases h
 | cons p r ih =>
  intro hn h
  simp only [List.map_cons,List.nodup_cons] at hn
  simp only [U5]
  cases hb:Q5 p.1 kv with
  | true =>
   have hp:p.1=kv:=(J7 _ _).1 hb
   have:J5 kv r=false:=by
    cases hh:J5 kv r with
    | false=>rfl
    | true=>exact absurd (hp ▸ A0Z.1 hh) hn.1
   rw [cond_true,A8p this,List.map_cons,hp]
  | false =>
   simp only [J5,hb,Bool.false_or] at h
   rw [cond_false,List.map_cons,List.map_cons]
   exact (List.Perm.swap _ _ _).trans ((ih hn.2 h).cons _)
structure R4 (p:List V) (es:List (V×V×Bool)):Prop where
 nd:(es.map (·.1)).Nodup
 ks:Y9 (es.map (·.1))=J4 [] p
 gd:∀ q∈es,NmV q.1
 has:∀ nm,J5 (.s nm) es=!(G0 nm p).isEmpty
 val:∀ nm,J5 (.s nm) es=true→N6 (.s nm) es=.l (G0 nm p)
 own:∀ kv,A0r kv es=true
theorem A1G (nm:List V) (p:List V) (x:V):G0 nm (p++[x])=bif F5 (L4 x) nm then G0 nm p++[x] else G0 nm p:=by
 simp only [G0,List.filter_append,List.filter_cons,List.filter_nil]
 cases F5 (L4 x) nm<;>simp
theorem R4.nil:R4 [] []:=⟨List.nodup_nil,rfl,fun q h=>(by cases h),fun nm=>rfl,fun nm h=>(by cases h),fun kv=>rfl⟩
theorem A32 (a b:List V):Q5 (.s a) (.s b)=F5 a b:=rfl
theorem R4.mem {p:List V} {es:List (V×V×Bool)} (h:R4 p es) {k:V}:k∈J4 [] p↔J5 k es=true:=by
 rw [← h.ks,A0Z]
 exact (X6 _).mem_iff
theorem R4.snoc {p:List V} {es:List (V×V×Bool)} (h:R4 p es) {x:V} (hx:A2d (L4 x)) (hp:∀ e∈p,A2d (L4 e)):R4 (p++[x]) (V1 (.s (L4 x)) (.l (G0 (L4 x) p++[x])) true es):=by
 have hst:StS (J4 [] p):=C1w ⟨List.Pairwise.nil,fun _ h=>by cases h⟩ hp
 have hnames:J4 [] (p++[x])=A0D (L4 x) (J4 [] p):=by simp [J4,List.foldl_append]
 have hkeys:∀ q∈(V1 (.s (L4 x)) (.l (G0 (L4 x) p++[x])) true es).map (·.1),NmV q:=by
  intro q hq
  simp only [V1,List.map_cons,List.mem_cons] at hq
  rcases hq with rfl | hq
  ·exact ⟨_,rfl,hx⟩
  ·obtain ⟨y,hy,rfl⟩:=List.mem_map.1 hq
   rw [H5] at hy
   exact h.gd y (List.mem_filter.1 hy).1
 refine ⟨A1P h.nd,?_,fun q hq=>hkeys q.1 (List.mem_map_of_mem hq),fun nm=>?_,fun nm hh=>?_,fun kv=>?_⟩
 ·rw [hnames]
  cases hh:J5 (.s (L4 x)) es with
  | true =>
   rw [C1q hst (h.mem.2 hh),← h.ks]
   exact A7i (B6c h.nd hh) hkeys
  | false =>
   rw [C1r hst.2 (fun q=>by rw [h.mem.1 q] at hh;cases hh)]
   show A3o (.s (L4 x)) (Y9 ((U5 (.s (L4 x)) es).map (·.1)))=_
   rw [A8p hh,h.ks]
 ·rw [A31,h.has,A1G,A32]
  cases F5 (L4 x) nm with
  | true=>simp
  | false=>rfl
 ·rw [B0Q,A1G,A32]
  rw [A31,A32] at hh
  cases hq:F5 (L4 x) nm with
  | true=>rw [cond_true,cond_true,(G9 _ _).1 hq]
  | false =>
   rw [hq,Bool.false_or] at hh
   rw [cond_false,cond_false,h.val nm hh]
 ·rw [B0R,h.own]
  cases Q5 (.s (L4 x)) kv<;>rfl
theorem C97 {l:V} (hnm:∀ e∈l.els,A2d (L4 e)):∀ (r a:List V) (es:List (V×V×Bool)) (fuel:Nat),l.els=a++r→a.length+r.length≤10000→R4 a es→r.length < fuel →
  ∃ es',R4 l.els es'∧∀ kx:QNn→Option R,E1 (BNn R) fuel (.m l es (l.els.length:Nat) (a.length:Nat)) kx=kx (.o l es' (l.els.length:Nat) (l.els.length:Nat)):=by
 intro r
 induction r with
 | nil =>
  intro a es fuel he hz hi hf
  obtain ⟨f,rfl⟩:∃ f,fuel=f+1:=⟨fuel - 1,by omega⟩
  rw [List.append_nil] at he
  refine ⟨es,he ▸ hi,fun kx=>?_⟩
  rw [E1,C5K,A3l he,cond_false,he]
 | cons x r ih =>
  intro a es fuel he hz hi hf
  obtain ⟨f,rfl⟩:∃ f,fuel=f+1:=⟨fuel - 1,by omega⟩
  simp only [D2P] at hz hf
  have hle:l.els.length=a.length+(r.length+1):=by rw [he];simp
  have hat:l.nth ((a.length:Nat):Int).toNat=x:=S7 he
  have hxn:A2d (L4 x):=hnm x (by rw [he];simp)
  obtain ⟨es',g1,g2⟩:=ih (a++[x]) _ f (by rw [he];simp) (by simp only [D2J,D2Q];omega) (hi.snoc hxn (fun e h=>hnm e (by rw [he];simp [h]))) (by omega)
  simp only [D2J,D2Q] at g2
  refine ⟨es',g1,fun kx=>?_⟩
  rw [← g2 kx,E1,C5K,A3k he,cond_true,C9 (by omega) (by omega),hat,L9 (by omega)]
  have hhl:(G0 (L4 x) a).length≤a.length:=List.length_filter_le _ _
  cases hh:J5 (.s (L4 x)) es with
  | true =>
   rw [cond_true,hi.own,cond_true,hi.val _ hh,B3 (by show (G0 (L4 x) a).length+1≤_;omega),Y0,cond_true]
   rfl
  | false =>
   have:G0 (L4 x) a=[]:=by
    have:=hi.has (L4 x)
    rw [hh] at this
    cases hq:G0 (L4 x) a with
    | nil=>rfl
    | cons y s=>rw [hq] at this;cases this
   rw [cond_false,this];rfl
variable {R:Type}
theorem B6d:∀ {r:List V} {i:Nat},A0c r i=true→(∀ e∈r,(L4 e).length≤100∧(e.nth 1).els.length≤300∧0≤(e.nth 2).int∧(e.nth 2).int≤1000000000)∧(r=[]∨i+r.length≤41):=by
 intro r
 induction r with
 | nil=>intro i _;exact ⟨fun e h=>(by cases h),.inl rfl⟩
 | cons e r ih =>
  intro i h
  have e1:A0c (e::r) i=bif B6a i e then false else A0c r (i+1):=rfl
  rw [e1] at h
  cases hb:B6a i e with
  | true=>rw [hb] at h;cases h
  | false =>
   rw [hb,cond_false] at h
   obtain ⟨h1,h2⟩:=ih h
   unfold B6a at hb
   simp only [Bool.or_eq_false_iff,G5,decide_eq_false_iff_not] at hb
   obtain ⟨b1,b2,b3,b4,b5⟩:=hb
   refine ⟨fun x hx=>?_,.inr ?_⟩
   ·rcases List.mem_cons.1 hx with rfl | hx
    ·exact ⟨by omega,by omega,by omega,by omega⟩
    ·exact h1 x hx
   ·rcases h2 with rfl | h2
    ·simp;omega
    ·simp only [D2P];omega
structure LOK (l:V):Prop where
 nm:∀ e∈l.els,A2d (L4 e)
 len:∀ e∈l.els,(L4 e).length≤100
 ht:∀ e∈l.els,0≤(e.nth 2).int∧(e.nth 2).int≤1000000000
 few:l.els.length≤10000
theorem C5A {xs:List V} (h:xs≠[]) (hl:xs.length≤10000):lsV xs∈xs:=by
 have h0:0 < xs.length:=List.length_pos_iff.2 h
 unfold lsV
 rw [F8 (by omega) (by omega)]
 have:(((xs.length:Nat):Int) - 1).toNat=xs.length - 1:=by omega
 rw [this,List.getD_eq_getElem?_getD,D2U (by omega)]
 exact List.getElem_mem _
theorem A2V (nm:List V) (p:List V):(G0 nm p).length≤p.length:=List.length_filter_le _ _
theorem C98 {l:V} {es:List (V×V×Bool)} (hi:R4 l.els es) {nm:List V} (h:J5 (.s nm) es=true):G0 nm l.els≠[]:=by
 have:=hi.has nm
 rw [h] at this
 intro q;rw [q] at this;cases this
theorem C5B {l:V} {es:List (V×V×Bool)} (hl:LOK l) (hi:R4 l.els es) {nm:List V} (h:J5 (.s nm) es=true) :
  (N6 (.s nm) es).els=G0 nm l.els∧isN (N6 (.s nm) es)=false∧C1v (N6 (.s nm) es)=true∧C6t (N6 (.s nm) es)=lsV (G0 nm l.els) ∧
   0≤((lsV (G0 nm l.els)).nth 2).int∧((lsV (G0 nm l.els)).nth 2).int≤1000000000∧L5 ((G0 nm l.els).length:Nat) 0=false:=by
 have hne:=C98 hi h
 have h0:0 < (G0 nm l.els).length:=List.length_pos_iff.2 hne
 have hz:L5 ((G0 nm l.els).length:Nat) 0=false:=by rw [← Bool.not_eq_true,L7];omega
 have hle:=A2V nm l.els
 have hf:=hl.few
 have hm:=C5A hne (by omega)
 have hm':lsV (G0 nm l.els)∈l.els:=(List.mem_filter.1 hm).1
 obtain ⟨t1,t2⟩:=hl.ht _ hm'
 rw [hi.val nm h]
 have hq:C1v (.l (G0 nm l.els))=true:=by show (!(L5 ((G0 nm l.els).length:Nat) 0))=true;rw [hz];rfl
 refine ⟨rfl,rfl,hq,?_,t1,t2,hz⟩
 unfold C6t
 rw [hq,cond_true];rfl
theorem C99 {p:List V} {es:List (V×V×Bool)} (hi:R4 p es):es.length≤p.length:=by
 have h1:(Y9 (es.map (·.1))).length=es.length:=by rw [(X6 _).length_eq,D2L]
 rw [hi.ks] at h1
 have:=A2U p []
 simp only [List.length_nil,Nat.zero_add] at this
 omega
theorem C1x {l:V} {es:List (V×V×Bool)} (hl:LOK l) (hi:R4 l.els es) {st:Nat} (k:List V→Option R):B6b st es k=k (J4 [] l.els):=by
 have hf:=hl.few
 have hel:=C99 hi
 have hk:(A2c es).map (·.1)=es.map (·.1):=by simp [A2c]
 have hn:=A2U l.els []
 simp only [List.length_nil,Nat.zero_add] at hn
 have hok:okK (A2c es)=true:=by
  have:∀ q∈es,∃ nm,q.1=.s nm∧nm.length≤1000000:=fun q hq=>by
   have h1:J5 q.1 es=true:=A0Z.2 (List.mem_map_of_mem hq)
   have h2:=hi.mem.2 h1
   rcases A8o h2 with h2 | ⟨e,he,h3⟩
   ·cases h2
   ·exact ⟨_,h3,by have:=hl.len e he;omega⟩
  clear hk hel hi
  induction es with
  | nil=>rfl
  | cons p r ih =>
   obtain ⟨nm,h1,h2⟩:=this p (by simp)
   have ih:=ih (fun q hq=>this q (by simp [hq]))
   show ((match p.1 with
    | .s l=>Nat.ble l.length 1000000
    | _=>false)&&okK (A2c r))=true
   rw [ih,h1,Bool.and_true]
   exact D2R h2
 unfold B6b
 rw [hok,hk,hi.ks,B7 (by omega),Nat.beq_refl]
 rw [show (A2c es).length=es.length by simp [A2c],D2R (by omega)]
 rfl
theorem D0a {nl b:Bool} {xs ys:List V} (h1:nl=true→xs=[]) (h2:b=true→ys=[]):(nl&&b)=true→xs++ys=[]:=by
 intro h
 simp only [D2I] at h
 rw [h1 h.1,h2 h.2];rfl
theorem D0b {l:V} {es:List (V×V×Bool)} (hl:LOK l) (hi:R4 l.els es) {nk:Bool} {ks:List V} (hks:∀ k∈ks,k∈J4 [] l.els) {kx:QAw→Option R} {ko:List V→Option R}
  (hkx:∀ xs nl i,(nl=true→xs=[])→kx (.o es xs nl ks nk (ks.length:Nat) i)=ko xs):∀ (r a xs:List V) (nl:Bool) (fuel:Nat),ks=a++r→ks.length≤10000→xs.length≤a.length * 10000→(nl=true→xs=[])→r.length < fuel →
  E1 (BAw R) fuel (.m es xs nl ks nk (ks.length:Nat) (a.length:Nat)) kx=ko (A25 l.els r xs):=by
 have hf:=hl.few
 intro r
 induction r with
 | nil =>
  intro a xs nl fuel he hz hx hnl hfu
  obtain ⟨f,rfl⟩:∃ f,fuel=f+1:=⟨fuel - 1,by omega⟩
  rw [List.append_nil] at he
  subst he
  rw [E1,B4a,D1z,cond_false,hkx _ _ _ hnl];rfl
 | cons k r ih =>
  intro a xs nl fuel he hz hx hnl hfu
  obtain ⟨f,rfl⟩:∃ f,fuel=f+1:=⟨fuel - 1,by omega⟩
  simp only [D2P] at hfu
  have hle:ks.length=a.length+(r.length+1):=by rw [he];simp
  have hkm:=hks k (by rw [he];simp)
  have hhas:=hi.mem.1 hkm
  obtain ⟨e,hee,rfl⟩:∃ e∈l.els,k=.s (L4 e):=by
   rcases A8o hkm with h2 | h2
   ·cases h2
   ·exact h2
  obtain ⟨t1,t2,t3,t4,t5,t6,hzz⟩:=C5B hl hi hhas
  have hle2:=A2V (L4 e) l.els
  have ih:=ih (a++[.s (L4 e)]) (xs++G0 (L4 e) l.els) (nl&&(G0 (L4 e) l.els).isEmpty) f (by rw [he];simp) hz (by simp only [D2J,D2Q];omega) (D0a hnl (fun q=>List.isEmpty_iff.1 q)) (by omega)
  simp only [D2J,D2Q] at ih
  rw [E1,B4a,D1y he,cond_true,C9 (by omega) (by omega),C6v he]
  rw [show (V.s (L4 e)).els=L4 e from rfl,hhas,t1,cond_true,B3 (by omega),L9 (by omega)]
  exact ih
theorem B6e {l:List V}:∀ (r xs:List V),(A25 l r xs).length≤xs.length+r.length * l.length:=by
 intro r
 induction r with
 | nil=>intro xs;show xs.length≤_;simp
 | cons k r ih =>
  intro xs
  simp only [A25]
  refine Nat.le_trans (ih _) ?_
  have:=A2V k.els l
  simp only [D2J,D2P,Nat.succ_mul];omega
variable {R:Type}
variable {P:Program} {T:TT} {c:L0} {e:A9} {of:Nat→Option Ob}
variable {a kt st el:Nat} {es es':List (V×V×Bool)} {bs:List Nat}
theorem C1y (h:A5 T c e of) {id b clock:Nat} {ms:Array MapEntry} (hof:of id=some (.sm kt st el es none)) (v3:e.ι id=some (b,0)) (v4:e.w.heap[b]? = some (.map ms clock)) (vb:StB ms clock) (v6:es'.Perm es) (v5:(es.map (·.1)).Nodup) (v7:SR T e b kt st el none es' ms.toList bs)
  {i:Nat} {k x:V} {q:Bool} {m:MapEntry} (hm2:es'[i]? = some (k,x,q)) (hm1:ms.toList[i]? = some m) :
  ∃ S':Nat→Nat→Prop,A5 T c { e with S:=S' } of∧e.le { e with S:=S' }∧RV T { e with S:=S' } [st] [x] [m.val]∧∃ bs',SR T { e with S:=S' } b kt st el none es' ms.toList bs':=by
 obtain ⟨u1,u2,hks,hz,hz3,_⟩:=A2u h hof
 obtain ⟨bs0,cs,k1,k2,k3,k4⟩:=v7.pull hm2 hm1
 cases k1 with
 | lent _ _ h3=>cases h3
 | data j1 j2=>exact ⟨e.S,h,A9.le.refl e,j2,bs,v7⟩
 | @own _ xs _ bb o j cap cells t' fz pre ys post j1 j2 j0 j3 j5 j6 j7 j8 j9 j10 j11 j12 =>
  have hle:=M2 e bb o (o+ys.length)
  have hne':∀ b'∈cs,e.G b b'→(e.share bb o (o+ys.length)).G b b'∧(e.share bb o (o+ys.length)).w.heap[b']? = e.w.heap[b']? ∧ ∀ i,(e.share bb o (o+ys.length)).S b' i→e.S b' i:=fun b' hb' hG'=>⟨hG',rfl,fun i hs=>hs.elim (fun q=>q) (fun ⟨q',_⟩=>absurd (q' ▸ hb') (k3 bb (by simp)))⟩
  have hent:A1i T (e.share bb o (o+ys.length)) b kt st el none (k,.l xs,true) m [bb]:=.own (j1.mono hle) j2 j0 j3 j5 j6 j7 j8 (j9.mono hle) j10 j11 (fun i hi hs=>hs.elim (j12 i hi) (fun ⟨_,_,q⟩=>by omega))
  obtain ⟨bs',q1,_⟩:=SR.putAt hm2 hm1 (k2.keep' hle hne') hent k3
  rw [show es'.set i (k,.l xs,true)=es' from A1B hm2,show ms.toList.set i m=ms.toList from A1B hm1] at q1
  have hok:OK T (e.share bb o (o+ys.length)) id (.sm kt st el es none):=⟨u1,u2,hks,hz,hz3,b,ms,clock,v3,v4,⟨v5,vb⟩,es',bs',v6,q1⟩
  refine ⟨(e.share bb o (o+ys.length)).S,h.shareG hof v3 j3 hok,hle,?_,bs',q1⟩
  rw [j2]
  refine .slice hks hz rfl j10 ⟨fun _=>rfl,fun jj y' hj=>?_⟩ (j9.mono hle) .nil
  have hjl:=(List.getElem?_eq_some_iff.1 hj).1
  have hcap:0 < cap:=by
   rcases Nat.eq_zero_or_pos cap with h0 | h0
   ·have:xs=[]:=List.eq_nil_of_length_eq_zero (by omega)
    subst this
    have:=j9.length.1
    simp [szs] at this
    subst this;simp at hjl
   ·exact h0
  have:=j0 hcap
  subst this
  refine ⟨?_,.inr ⟨rfl,by show j≤j+jj;omega,by show j+jj < _;omega⟩⟩
  show e.w.cell? _=_
  rw [E6,H7 j5,j7,← j8,List.append_assoc]
  exact Q4 hj
def C5C (T:TT) (e:A9) (kt st:Nat) (es:List (V×V×Bool)) (ms:List MapEntry):Prop :=
 es.length=ms.length∧∀ (i:Nat) k x q (m:MapEntry),es[i]? = some (k,x,q)→ms[i]? = some m→H6 T e (.v kt k) m.key∧RV T e [st] [x] [m.val]
theorem B6f (h:A5 T c e of) {id b clock:Nat} {ms:Array MapEntry} (hof:of id=some (.sm kt st el es none)) (v3:e.ι id=some (b,0)) (v4:e.w.heap[b]? = some (.map ms clock)) (vb:StB ms clock) (v6:es'.Perm es) (v5:(es.map (·.1)).Nodup) (v7:SR T e b kt st el none es' ms.toList bs) :
  ∃ S':Nat→Nat→Prop,A5 T c { e with S:=S' } of∧e.le { e with S:=S' }∧C5C T { e with S:=S' } kt st es' ms.toList:=by
 have key:∀ n,∃ S':Nat→Nat→Prop,A5 T c { e with S:=S' } of∧e.le { e with S:=S' }∧(∃ bs',SR T { e with S:=S' } b kt st el none es' ms.toList bs')∧∀ (i:Nat),i < n→∀ k x q (m:MapEntry),es'[i]? = some (k,x,q)→ms.toList[i]? = some m→RV T { e with S:=S' } [st] [x] [m.val]:=by
  intro n
  induction n with
  | zero=>exact ⟨e.S,h,A9.le.refl e,⟨bs,v7⟩,fun i hi=>absurd hi (Nat.not_lt_zero _)⟩
  | succ n ih =>
   obtain ⟨S',h1,h2,⟨bs',h3⟩,h4⟩:=ih
   by_cases hn:∃ k x q m,es'[n]? = some (k,x,q)∧ms.toList[n]? = some m
   ·obtain ⟨k,x,q,m,g1,g2⟩:=hn
    obtain ⟨S2,k1,k2,k3,bs2,k4⟩:=C1y h1 hof v3 v4 vb v6 v5 h3 g1 g2
    refine ⟨S2,k1,h2.trans k2,⟨bs2,k4⟩,fun i hi k' x' q' m' p1 p2=>?_⟩
    by_cases he:i=n
    ·subst he
     rw [g1] at p1;rw [g2] at p2
     cases p1;cases p2
     exact k3
    ·exact (h4 i (by omega) k' x' q' m' p1 p2).mono k2
   ·refine ⟨S',h1,h2,⟨bs',h3⟩,fun i hi k' x' q' m' p1 p2=>?_⟩
    by_cases he:i=n
    ·subst he;exact absurd ⟨k',x',q',m',p1,p2⟩ hn
    ·exact h4 i (by omega) k' x' q' m' p1 p2
 obtain ⟨S',h1,h2,⟨bs',h3⟩,h4⟩:=key (es'.length)
 refine ⟨S',h1,h2,h3.length,fun i k x q m p1 p2=>?_⟩
 obtain ⟨b0,cs,g1,_⟩:=h3.pull p1 p2
 exact ⟨g1.key,h4 i (List.getElem?_eq_some_iff.1 p1).1 k x q m p1 p2⟩
variable {P:Program} {T:TT} {c:L0} {e:A9} {of:Nat→Option Ob}
def L0.here (e:A9) (of:Nat→Option Ob) (rd:Option Nat):L0:={ w0:=e.w,M:=fun b=>(∃ id o,(of id).isSome∧e.ι id=some (b,o))∨∃ a,e.G a b,S0:=e.S,rd:=rd }
theorem A5.here (h:A5 T c e of) (rd:Option Nat):A5 T (L0.here e of rd) e of :=
 ⟨h.ok,h.sep,fun id b o hi hb=>.inr (.inl ⟨id,o,hi,hb⟩),h.lt,h.slt,fun _ _ q=>q,fun _ _ q=>.inl q,rfl,rfl,rfl,Nat.le_refl _,fun _ _ _=>rfl,⟨h.g.sep,h.g.uniq,fun a b hG=>.inr (.inr ⟨a,hG⟩),h.g.lt⟩⟩
theorem A5.back_here (h:A5 T c e of) {rd:Option Nat} {e':A9} {of':Nat→Option Ob} (h':A5 T (L0.here e of rd) e' of'):A5 T c e' of':=by
 have hM:∀ b,(L0.here e of rd).M b→c.w0.heap.size≤b∨c.M b:=fun b hb=>by
  rcases hb with ⟨id,o,hi,hb⟩ | ⟨a,hG⟩
  ·exact h.own _ _ _ hi hb
  ·exact h.g.own _ _ hG
 have hsz:c.w0.heap.size≤e.w.heap.size:=h.size
 have hown:∀ b,((L0.here e of rd).w0.heap.size≤b∨(L0.here e of rd).M b)→c.w0.heap.size≤b∨c.M b:=fun b hb=>hb.elim (fun q=>.inl (Nat.le_trans hsz q)) (hM b)
 refine ⟨h'.ok,h'.sep,fun id b o hi hb=>hown b (h'.own id b o hi hb),h'.lt,h'.slt,fun b i hs=>h'.s0 b i (h.s0 b i hs),fun b i hs=>?_,h'.os.trans h.os,h'.tape.trans h.tape,h'.output.trans h.output,Nat.le_trans hsz h'.size,fun k hk hm=>?_,⟨h'.g.sep,h'.g.uniq,fun a b hG=>hown b (h'.g.own a b hG),h'.g.lt⟩⟩
 ·rcases h'.snew b i hs with hs | hs
  ·exact h.snew b i hs
  ·exact .inr (hown b hs)
 ·have hnm:¬ (L0.here e of rd).M k:=fun q=>by
   rcases hM k q with h1 | h1
   ·omega
   ·exact hm h1
  exact (h'.block k (Nat.lt_of_lt_of_le hk hsz) hnm).trans (h.block k hk hm)
theorem A5.alloc (h:A5 T c e of) (g:Go.Obj):A5 T c { e with w:=e.w.alloc g } of∧e.le { e with w:=e.w.alloc g }:=by
 have hsz:(e.w.alloc g).heap.size=e.w.heap.size+1:=C7 _ _
 have old:∀ j b q,(of j).isSome→e.ι j=some (b,q)→b < e.w.heap.size:=fun j b q hj hb=>by
  obtain ⟨x,hx⟩:=D2M.1 hj
  exact h.lt _ _ _ (h.ok _ _ hx).use hb
 have hle:e.le { e with w:=e.w.alloc g }:=by
  refine ⟨fun b i hs=>⟨hs,fun x hx=>?_⟩,fun _ hj=>hj,fun j hj _=>⟨rfl,rfl,fun b o hb=>D8 (C8 _ _ (h.lt _ _ _ hj hb))⟩,fun _ _ q=>q,fun _ _=>Nat.le_refl _,fun _ _=>rfl,by show _≤(e.w.alloc g).heap.size;omega,fun b hb=>D8 (C8 _ _ hb)⟩
  rw [← hx];exact F4 (C8 _ _ (h.slt _ _ hs))
 refine ⟨⟨fun j x hj=>(h.ok _ _ hj).keep hle rfl (fun b q hb=>C8 _ _ (old _ _ _ (by rw [hj];rfl) hb)) (fun _ _ _ _ hs=>hs) (fun a o' b _ hG=>⟨hG,C8 _ _ (h.g.lt _ _ hG),fun i hs=>hs⟩),h.sep,h.own,fun id b o hu hb=>?_,fun b i hs=>?_,h.s0,h.snew,h.os,h.tape,h.output,?_,fun k hk hm=>?_,⟨h.g.sep,h.g.uniq,h.g.own,fun a b hG=>?_⟩⟩,hle⟩
 ·show b < (e.w.alloc g).heap.size
  have:=h.lt _ _ _ hu hb;omega
 ·show b < (e.w.alloc g).heap.size
  have:=h.slt _ _ hs;omega
 ·show _≤(e.w.alloc g).heap.size
  have:=h.size;omega
 ·exact (C8 _ _ (by have:=h.size;omega)).trans (h.block k hk hm)
 ·show b < (e.w.alloc g).heap.size
  have:=h.g.lt _ _ hG;omega
def A9.bare (w:World) (S:Nat→Nat→Prop):A9:={ w:=w,ι:=fun _=>none,S:=S,bn:=fun _=>0,U:=fun _=>False,ty:=fun _=>0,ln:=fun _=>0,G:=fun _ _=>False }
def L0.bare (w:World) (S:Nat→Nat→Prop):L0:={ w0:=w,M:=fun _=>False,S0:=S }
theorem A5.bare {w:World} {S:Nat→Nat→Prop} (hS:∀ b i,S b i→b < w.heap.size):A5 T (L0.bare w S) (A9.bare w S) (fun _=>none) :=
 ⟨fun _ _ q=>(by cases q),fun _ _ _ _ _ _ q=>(by cases q),fun _ _ _ q=>(by cases q),fun _ _ _ q=>q.elim,hS,fun _ _ q=>q,fun _ _ q=>.inl q,rfl,rfl,rfl,Nat.le_refl _,fun _ _ _=>rfl,⟨fun _ _ q=>q.elim,fun _ _ _ q=>q.elim,fun _ _ q=>q.elim,fun _ _ q=>q.elim⟩⟩
open Classical in
def A9.join (e e2:A9):A9 :=
 {w:=e2.w,ι:=fun id=>if e.U id then e.ι id else e2.ι id,S:=e2.S,bn:=fun id=>if e.U id then e.bn id else e2.bn id,U:=fun id=>e.U id∨e2.U id,ty:=fun id=>if e.U id then e.ty id else e2.ty id,ln:=fun id=>if e.U id then e.ln id else e2.ln id,G:=fun a b=>e.G a b∨e2.G a b }
def B0S (of of2:Nat→Option Ob) (id:Nat):Option Ob :=
 match of2 id with
 | some o=>some o
 | none=>of id
theorem A5.join (h:A5 T c e of) {e2:A9} {of2:Nat→Option Ob} (h2:A5 T (L0.bare e.w e.S) e2 of2) (hle:(A9.bare e.w e.S).le e2) (hd:∀ id,e2.U id→¬ e.U id):A5 T c (e.join e2) (B0S of of2)∧e.le (e.join e2)∧e2.le (e.join e2):=by
 have p:∀ {id},e.U id→(e.join e2).ι id=e.ι id∧(e.join e2).bn id=e.bn id∧(e.join e2).ty id=e.ty id∧(e.join e2).ln id=e.ln id:=fun hu=>⟨if_pos hu,if_pos hu,if_pos hu,if_pos hu⟩
 have q:∀ {id},¬ e.U id→(e.join e2).ι id=e2.ι id∧(e.join e2).bn id=e2.bn id∧(e.join e2).ty id=e2.ty id∧(e.join e2).ln id=e2.ln id:=fun hu=>⟨if_neg hu,if_neg hu,if_neg hu,if_neg hu⟩
 have hbl:∀ k,k < e.w.heap.size→e2.w.heap[k]? = e.w.heap[k]? := fun k hk=>h2.block k hk (fun q=>q)
 have hsz:e.w.heap.size≤e2.w.heap.size:=h2.size
 have hSo:∀ b i,e2.S b i→b < e.w.heap.size→e.S b i:=fun b i hs hb=>by
  rcases h2.snew b i hs with q | q | q
  ·exact q
  ·have q:e.w.heap.size≤b:=q
   omega
  ·exact q.elim
 have l1:e.le (e.join e2):=by
  refine ⟨fun b i hs=>hle.S b i hs,fun _ hu=>.inl hu,fun id hu _=>⟨(p hu).1,(p hu).2.2.2,fun b o hb=>hle.keep b (h.lt _ _ _ hu hb)⟩,fun id hu h0=>(p hu).2.1.trans h0,fun id hu=>Nat.le_of_eq (p hu).2.1.symm,fun id hu=>(p hu).2.2.1,hsz,fun b hb=>hle.keep b hb⟩
 have l2:e2.le (e.join e2) :=
  ⟨fun b i hs=>⟨hs,fun _ hx=>hx⟩,fun _ hu=>.inr hu,fun id hu _=>⟨(q (hd id hu)).1,(q (hd id hu)).2.2.2,fun _ _ _=>rfl⟩,fun id hu h0=>(q (hd id hu)).2.1.trans h0,fun id hu=>Nat.le_of_eq (q (hd id hu)).2.1.symm,fun id hu=>(q (hd id hu)).2.2.1,Nat.le_refl _,fun _ _=>rfl⟩
 have side:∀ id,(B0S of of2 id).isSome→((of2 id).isSome∧¬ e.U id∧(e.join e2).ι id=e2.ι id)∨((of id).isSome∧e.U id∧(e.join e2).ι id=e.ι id):=fun id hi=>by
  unfold B0S at hi
  cases ho:of2 id with
  | some o =>
   have hu:=hd id (h2.ok id o ho).use
   exact .inl ⟨rfl,hu,(q hu).1⟩
  | none =>
   rw [ho] at hi
   obtain ⟨o,ho⟩:=D2M.1 hi
   have hu:=(h.ok id o ho).use
   exact .inr ⟨hi,hu,(p hu).1⟩
 have b2:∀ id b o,(of2 id).isSome→e2.ι id=some (b,o)→e.w.heap.size≤b:=fun id b o hi hb=>by
  rcases h2.own id b o hi hb with q | q
  ·exact q
  ·exact q.elim
 have b1:∀ id b o,e.U id→e.ι id=some (b,o)→b < e.w.heap.size:=fun id b o hu hb=>h.lt _ _ _ hu hb
 have g2:∀ a b,e2.G a b→e.w.heap.size≤b:=fun a b hG=>by
  rcases h2.g.own a b hG with q | q
  ·exact q
  ·exact q.elim
 refine ⟨⟨fun id o ho=>?_,fun i j b o b' o' hi hj hb hb' hne=>?_,fun id b o hi hb=>?_,fun id b o hu hb=>?_,h2.slt,fun b i hs=>(hle.S b i (h.s0 b i hs)).1,fun b i hs=>?_,h2.os.trans h.os,h2.tape.trans h.tape,h2.output.trans h.output,Nat.le_trans h.size hsz,fun k hk hm=>?_,⟨fun a b hG j b' o hj hb=>?_,fun a a' b h1 h3=>?_,fun a b hG=>?_,fun a b hG=>?_⟩⟩,l1,l2⟩
 ·unfold B0S at ho
  cases ho2:of2 id with
  | some o2 =>
   rw [ho2] at ho
   injection ho with ho;subst ho
   have hok:=h2.ok id o2 ho2
   have hu:=hd id hok.use
   exact hok.keep l2 (q hu).2.1 (fun _ _ _=>rfl) (fun _ _ _ _ hs=>hs) (fun a o' b _ hG=>⟨.inr hG,rfl,fun _ hs=>hs⟩)
  | none =>
   rw [ho2] at ho
   have hok:=h.ok id o ho
   have hu:=hok.use
   exact hok.keep l1 (p hu).2.1 (fun b o' hb=>hbl b (b1 _ _ _ hu hb)) (fun b o' i hb hs=>hSo b i hs (b1 _ _ _ hu hb)) (fun a o' b _ hG=>⟨.inl hG,hbl b (h.g.lt _ _ hG),fun i hs=>hSo b i hs (h.g.lt _ _ hG)⟩)
 ·rcases side i hi with ⟨s1,s2,s3⟩ | ⟨s1,s2,s3⟩<;>rcases side j hj with ⟨t1,t2,t3⟩ | ⟨t1,t2,t3⟩<;>rw [s3] at hb<;>rw [t3] at hb'
  ·exact h2.sep _ _ _ _ _ _ s1 t1 hb hb' hne
  ·have:=b2 _ _ _ s1 hb;have:=b1 _ _ _ t2 hb';omega
  ·have:=b1 _ _ _ s2 hb;have:=b2 _ _ _ t1 hb';omega
  ·exact h.sep _ _ _ _ _ _ s1 t1 hb hb' hne
 ·rcases side id hi with ⟨s1,s2,s3⟩ | ⟨s1,s2,s3⟩<;>rw [s3] at hb
  ·have:=b2 _ _ _ s1 hb;have:=h.size;exact .inl (by omega)
  ·exact h.own _ _ _ s1 hb
 ·by_cases he:e.U id
  ·rw [(p he).1] at hb
   exact Nat.lt_of_lt_of_le (b1 _ _ _ he hb) hsz
  ·rw [(q he).1] at hb
   exact h2.lt _ _ _ (hu.resolve_left he) hb
 ·rcases h2.snew b i hs with r | r | r
  ·exact h.snew b i r
  ·have r:e.w.heap.size≤b:=r
   have:=h.size;exact .inr (.inl (by omega))
  ·exact r.elim
 ·exact (hbl k (by have:=h.size;omega)).trans (h.block k hk hm)
 ·rcases side j hj with ⟨s1,s2,s3⟩ | ⟨s1,s2,s3⟩<;>rw [s3] at hb<;>rcases hG with hG | hG
  ·have:=b2 _ _ _ s1 hb;have:=h.g.lt _ _ hG;omega
  ·exact h2.g.sep _ _ hG _ _ _ s1 hb
  ·exact h.g.sep _ _ hG _ _ _ s1 hb
  ·have:=b1 _ _ _ s2 hb;have:=g2 _ _ hG;omega
 ·rcases h1 with h1 | h1<;>rcases h3 with h3 | h3
  ·exact h.g.uniq _ _ _ h1 h3
  ·have:=h.g.lt _ _ h1;have:=g2 _ _ h3;omega
  ·have:=g2 _ _ h1;have:=h.g.lt _ _ h3;omega
  ·exact h2.g.uniq _ _ _ h1 h3
 ·rcases hG with hG | hG
  ·exact h.g.own _ _ hG
  ·have:=g2 _ _ hG;have:=h.size;exact .inl (by omega)
 ·show b < e2.w.heap.size
  rcases hG with hG | hG
  ·have:=h.g.lt _ _ hG;omega
  ·exact h2.g.lt _ _ hG
variable {P:Program} {T:TT} {c:L0} {e:A9} {of:Nat→Option Ob}
def mbx (a b t kt st el:Nat) (done:List (V×V×Bool)) (id:Nat):Option Ob :=
 if id=a then some (.box t (.g t [.m b]) false) else if id=b then some (.sm kt st el done none) else none
def A9.mbx (w:World) (S G:Nat→Nat→Prop) (a b bx bo t:Nat):A9 :=
 {w:=w,ι:=fun id=>if id=a then some (bx,0) else if id=b then some (bo,0) else none,S:=S,bn:=fun _=>0,U:=fun id=>id=a∨id=b,ty:=fun id=>if id=a then t else 0,ln:=fun _=>0,G:=G }
structure A9r (T:TT) (t mt:Nat):Prop where
 ch:chT T t=some [mt]
 sc:V9 T mt=true
 sz:B9 T t=1
theorem B0T {a0 b0 a b t mt kt st el bx bo:Nat} {done:List (V×V×Bool)} (hk:A9r T t mt) (hab0:a0≠b0) (hab:a≠b) (h:A5 T c e (mbx a0 b0 t kt st el done)) (h0:e.ι a0=some (bx,0)) (h1:e.ι b0=some (bo,0)) :
  A5 T c (A9.mbx e.w e.S e.G a b bx bo t) (mbx a b t kt st el done):=by
 have oa0:mbx a0 b0 t kt st el done a0=some (.box t (.g t [.m b0]) false):=if_pos rfl
 have ob0:mbx a0 b0 t kt st el done b0=some (.sm kt st el done none):=by unfold mbx;rw [if_neg (Ne.symm hab0),if_pos rfl]
 have oa:mbx a b t kt st el done a=some (.box t (.g t [.m b]) false):=if_pos rfl
 have ob:mbx a b t kt st el done b=some (.sm kt st el done none):=by unfold mbx;rw [if_neg (Ne.symm hab),if_pos rfl]
 have sa0:(mbx a0 b0 t kt st el done a0).isSome:=by rw [oa0];rfl
 have sb0:(mbx a0 b0 t kt st el done b0).isSome:=by rw [ob0];rfl
 have ia:(A9.mbx e.w e.S e.G a b bx bo t).ι a=some (bx,0):=if_pos rfl
 have ib:(A9.mbx e.w e.S e.G a b bx bo t).ι b=some (bo,0):=by show (if b=a then _ else _)=_;rw [if_neg (Ne.symm hab),if_pos rfl]
 have cas:∀ id b' o,(A9.mbx e.w e.S e.G a b bx bo t).ι id=some (b',o)→(id=a∧b'=bx∧o=0)∨(id=b∧b'=bo∧o=0):=fun id b' o hb=>by
  have hb:(if id=a then some (bx,0) else if id=b then some (bo,0) else none)=some (b',o):=hb
  split at hb
  ·injection hb with hb;injection hb with h1 h2;exact .inl ⟨by assumption,h1.symm,h2.symm⟩
  ·split at hb
   ·injection hb with hb;injection hb with h1 h2;exact .inr ⟨by assumption,h1.symm,h2.symm⟩
   ·cases hb
 have hne:bx≠bo:=h.sep _ _ _ _ _ _ sa0 sb0 h0 h1 hab0
 have hoka:=h.ok _ _ oa0
 have hokb:=h.ok _ _ ob0
 have hown:∀ id b' o,(A9.mbx e.w e.S e.G a b bx bo t).ι id=some (b',o)→c.w0.heap.size≤b'∨c.M b':=fun id b' o hb=>by
  rcases cas id b' o hb with ⟨_,rfl,_⟩ | ⟨_,rfl,_⟩
  ·exact h.own _ _ _ sa0 h0
  ·exact h.own _ _ _ sb0 h1
 refine ⟨fun id o ho=>?_,fun i j b1 o1 b2 o2 _ _ hb1 hb2 hij=>?_,fun id b' o _ hb=>hown id b' o hb,fun id b' o _ hb=>?_,h.slt,h.s0,h.snew,h.os,h.tape,h.output,h.size,h.block,⟨fun a' b' hG j b2 o hj hb=>?_,h.g.uniq,h.g.own,h.g.lt⟩⟩
 ·unfold mbx at ho
  split at ho
  ·rename_i A2;subst A2
   injection ho with ho;subst ho
   obtain ⟨_,u2,u3,u4,bb,cs,ty,fz,g1,g2,g3,g4,g5,g6⟩:=hoka
   rw [h0] at g1;cases g1
   refine ⟨.inl rfl,rfl,if_pos rfl,by simp [D3],bx,cs,ty,fz,ia,g2,g3,g4,?_,g6⟩
   have hcs:∃ v,cs.toList=[v]∧v=.map (some bo):=by
    generalize hl:cs.toList=l at g5
    cases g5 with
    | @g _ _ ts ds _ cs' k1 k2 k3 k4 k5 =>
     cases k5
     rw [List.append_nil]
     cases k4 with
     | r m1 m2 m3 =>
      cases m3
      obtain ⟨b',_,_,n3,rfl⟩:=m1
      rw [h1] at n3;cases n3
      exact ⟨_,rfl,rfl⟩
    | r k1 _ _=>exact k1.elim
   obtain ⟨v,hv,rfl⟩:=hcs
   rw [hv]
   have:=RA.g (e:=A9.mbx e.w e.S e.G id b bx bo t) (ds:=[.map (some bo)]) (l:=[.m b]) hk.ch (by simp [Y6,D3,hk.sc]) (by rw [hk.sz];rfl) (RA.r ⟨bo,.inr rfl,rfl,ib,rfl⟩ rfl .nil) .nil
   rwa [List.append_nil] at this
  ·split at ho
   ·rename_i A2;subst A2
    injection ho with ho;subst ho
    obtain ⟨_,u2,u3,u4,u5,bb,ms,clock,g1,g2,g3,es',bs,g4,g5⟩:=hokb
    rw [h1] at g1;cases g1
    exact ⟨.inr rfl,rfl,u3,u4,u5,bo,ms,clock,ib,g2,g3,es',bs,g4,SR.move (e:=e) (e':=A9.mbx e.w e.S e.G a id bx bo t) (fun _ _ q=>q) rfl (fun _ _ q=>q) (fun _ q=>q) g5⟩
   ·cases ho
 ·rcases cas _ _ _ hb1 with ⟨rfl,rfl,_⟩ | ⟨rfl,rfl,_⟩<;>rcases cas _ _ _ hb2 with ⟨rfl,rfl,_⟩ | ⟨rfl,rfl,_⟩
  ·exact absurd rfl hij
  ·exact hne
  ·exact Ne.symm hne
  ·exact absurd rfl hij
 ·rcases cas _ _ _ hb with ⟨_,rfl,_⟩ | ⟨_,rfl,_⟩
  ·exact h.lt _ _ _ hoka.use h0
  ·exact h.lt _ _ _ hokb.use h1
 ·rcases cas _ _ _ hb with ⟨_,rfl,_⟩ | ⟨_,rfl,_⟩
  ·exact h.g.sep _ _ hG _ _ _ sa0 h0
  ·exact h.g.sep _ _ hG _ _ _ sb0 h1
variable {P:Program} {T:TT} {c:L0} {e:A9} {of:Nat→Option Ob}
theorem D1A {α:Type} {a:Array α} (h:a.size=32):∃ u0 u1 u2 u3 u4 u5 u6 u7 u8 u9 u10 u11 u12 u13 u14 u15 u16 u17 u18 u19 u20 u21 u22 u23 u24 u25 u26 u27 u28 u29 u30 u31,a=#[u0,u1,u2,u3,u4,u5,u6,u7,u8,u9,u10,u11,u12,u13,u14,u15,u16,u17,u18,u19,u20,u21,u22,u23,u24,u25,u26,u27,u28,u29,u30,u31]:=by
 obtain ⟨l⟩:=a
 simp only [List.size_toArray] at h
 rcases l with _ | ⟨x0,l⟩;· cases h
 rcases l with _ | ⟨x1,l⟩;· cases h
 rcases l with _ | ⟨x2,l⟩;· cases h
 rcases l with _ | ⟨x3,l⟩;· cases h
 rcases l with _ | ⟨x4,l⟩;· cases h
 rcases l with _ | ⟨x5,l⟩;· cases h
 rcases l with _ | ⟨x6,l⟩;· cases h
 rcases l with _ | ⟨x7,l⟩;· cases h
 rcases l with _ | ⟨x8,l⟩;· cases h
 rcases l with _ | ⟨x9,l⟩;· cases h
 rcases l with _ | ⟨x10,l⟩;· cases h
 rcases l with _ | ⟨x11,l⟩;· cases h
 rcases l with _ | ⟨x12,l⟩;· cases h
 rcases l with _ | ⟨x13,l⟩;· cases h
 rcases l with _ | ⟨x14,l⟩;· cases h
 rcases l with _ | ⟨x15,l⟩;· cases h
 rcases l with _ | ⟨x16,l⟩;· cases h
 rcases l with _ | ⟨x17,l⟩;· cases h
 rcases l with _ | ⟨x18,l⟩;· cases h
 rcases l with _ | ⟨x19,l⟩;· cases h
 rcases l with _ | ⟨x20,l⟩;· cases h
 rcases l with _ | ⟨x21,l⟩;· cases h
 rcases l with _ | ⟨x22,l⟩;· cases h
 rcases l with _ | ⟨x23,l⟩;· cases h
 rcases l with _ | ⟨x24,l⟩;· cases h
 rcases l with _ | ⟨x25,l⟩;· cases h
 rcases l with _ | ⟨x26,l⟩;· cases h
 rcases l with _ | ⟨x27,l⟩;· cases h
 rcases l with _ | ⟨x28,l⟩;· cases h
 rcases l with _ | ⟨x29,l⟩;· cases h
 rcases l with _ | ⟨x30,l⟩;· cases h
 rcases l with _ | ⟨x31,l⟩;· cases h
 cases l with
 | nil=>exact ⟨_,_,_,_,_,_,_,_,_,_,_,_,_,_,_,_,_,_,_,_,_,_,_,_,_,_,_,_,_,_,_,_,rfl⟩
 | cons y l=>simp at h
def B6g (es:List (V×V×Bool)) (ms:List MapEntry) (seen:List Nat) (done:List (V×V×Bool)):Prop :=
 done.Perm (((es.zip ms).filter fun p=>seen.contains p.2.born).map fun p=>(p.1.1,p.1.2.1,true))
variable {P:Program} {T:TT} {c:L0} {e:A9} {of:Nat→Option Ob}
def A9.point (e:A9) (id b:Nat):A9:={ w:=e.w,ι:=F9 e.ι id (some (b,0)),S:=e.S,bn:=F9 e.bn id 0,U:=fun j=>j=id∨e.U j,ty:=F9 e.ty id 0,ln:=e.ln,G:=e.G }
theorem A5.point (h:A5 T c e of) {id b:Nat} (hu:¬ e.U id) (hb:b < e.w.heap.size):A5 T c (e.point id b) of:=by
 have ne:∀ j,e.U j→j≠id:=fun j hj q=>hu (q ▸ hj)
 have hle:e.le (e.point id b):=by
  refine ⟨fun b i hs=>⟨hs,fun x hx=>hx⟩,fun _ hj=>.inr hj,fun j hj _=>⟨upd_ne _ _ (ne j hj),rfl,fun _ _ _=>rfl⟩,fun j hj h0=>?_,fun j hj=>?_,fun j hj=>upd_ne _ _ (ne j hj),Nat.le_refl _,fun _ _=>rfl⟩
  ·show F9 e.bn id 0 j=0
   rw [upd_ne _ _ (ne j hj)];exact h0
  ·show _≤F9 e.bn id 0 j
   rw [upd_ne _ _ (ne j hj)];exact Nat.le_refl _
 have ι':∀ j,(of j).isSome→(e.point id b).ι j=e.ι j:=fun j hj=>by
  obtain ⟨o,ho⟩:=D2M.1 hj
  exact upd_ne _ _ (ne j (h.ok j o ho).use)
 refine ⟨fun j o ho=>(h.ok j o ho).keep hle (upd_ne _ _ (ne j (h.ok j o ho).use)) (fun _ _ _=>rfl) (fun _ _ _ _ hs=>hs) (fun _ _ _ _ hG=>⟨hG,rfl,fun _ hs=>hs⟩),fun i j b1 o1 b2 o2 hi hj hb1 hb2 hij=>?_,fun j b1 o1 hj hb1=>?_,fun j b1 o1 hj hb1=>?_,h.slt,h.s0,h.snew,h.os,h.tape,h.output,h.size,h.block,⟨fun a b1 hG j b2 o hj hb2=>?_,h.g.uniq,h.g.own,h.g.lt⟩⟩
 ·rw [ι' i hi] at hb1;rw [ι' j hj] at hb2
  exact h.sep _ _ _ _ _ _ hi hj hb1 hb2 hij
 ·rw [ι' j hj] at hb1
  exact h.own _ _ _ hj hb1
 ·have hb1:F9 e.ι id (some (b,0)) j=some (b1,o1):=hb1
  by_cases hji:j=id
  ·subst hji;rw [upd_same] at hb1;cases hb1;exact hb
  ·rw [upd_ne _ _ hji] at hb1
   exact h.lt _ _ _ (hj.resolve_left hji) hb1
 ·rw [ι' j hj] at hb2
  exact h.g.sep _ _ hG _ _ _ hj hb2
def A9.mbi (w:World) (S G:Nat→Nat→Prop) (bx bo it t:Nat):A9:=(A9.mbx w S G 0 1 bx bo t).point 2 it
theorem B0U {a0 b0 t mt kt st el bx bo it:Nat} {done:List (V×V×Bool)} (hk:A9r T t mt) (hab0:a0≠b0) (h:A5 T c e (mbx a0 b0 t kt st el done)) (h0:e.ι a0=some (bx,0)) (h1:e.ι b0=some (bo,0)) (hit:it < e.w.heap.size) :
  A5 T c (A9.mbi e.w e.S e.G bx bo it t) (mbx 0 1 t kt st el done) :=
 (B0T hk hab0 (show (0:Nat)≠1 by decide) h h0 h1).point (by rintro (q | q)<;>cases q) hit
theorem A33 {w:World} {S G:Nat→Nat→Prop} {bx bo it t:Nat} (id:Nat):(A9.mbi w S G bx bo it t).U id↔id=0∨id=1∨id=2:=by
 show (id=2∨(id=0∨id=1))↔_
 omega
theorem C1z {w:World} {S:Nat→Nat→Prop} {e':A9} (hle:(A9.bare w S).le e') {G:Nat→Nat→Prop} {bx bo it t:Nat}:(A9.bare w S).le (A9.mbi e'.w e'.S G bx bo it t) :=
 ⟨hle.S,fun _ q=>q.elim,fun _ q=>q.elim,fun _ q=>q.elim,fun _ q=>q.elim,fun _ q=>q.elim,hle.grow,hle.keep⟩
theorem D0c {w:World} {S G:Nat→Nat→Prop} {bx bo it t:Nat}:C3 T (A9.mbi w S G bx bo it t) (.p 0 t []) (.pointer (some ⟨bx,0,none⟩)) :=
 RA.r ⟨bx,0,.inr (.inl rfl),rfl,rfl,(by show Pth T t [] t 0;exact .nil),rfl⟩ rfl .nil
theorem D0d {w:World} {S G:Nat→Nat→Prop} {bx bo it t:Nat}:C3 T (A9.mbi w S G bx bo it t) (.p 2 0 []) (.pointer (some ⟨it,0,none⟩)) :=
 RA.r ⟨it,0,.inl rfl,rfl,rfl,(by show Pth T 0 [] 0 0;exact .nil),rfl⟩ rfl .nil
theorem B2I {α β:Type} [DecidableEq β] (f:α→β) (p p':α→Bool):∀ (L:List α) (a:α),(L.map f).Nodup→a∈L→p a=false→(∀ y∈L,p' y=(p y||decide (f y=f a)))→(L.filter p').Perm (a::L.filter p):=by
 intro L
 induction L with
 | nil=>intro a _ h;cases h
 | cons y r ih =>
  intro a hn ha hp hp'
  simp only [List.map_cons,List.nodup_cons] at hn
  rcases List.mem_cons.1 ha with rfl | ha
  ·have h1:p' a=true:=by rw [hp' a (by simp)];simp
   have h2:r.filter p'=r.filter p:=by
    refine List.filter_congr (fun z hz=>?_)
    rw [hp' z (by simp [hz])]
    have:¬ f z=f a:=fun q=>hn.1 (by rw [← q];exact List.mem_map_of_mem hz)
    simp [this]
   rw [List.filter_cons_of_pos h1,List.filter_cons_of_neg (by simp [hp]),h2]
  ·have hne:¬ f y=f a:=fun q=>hn.1 (by rw [q];exact List.mem_map_of_mem ha)
   have h1:p' y=p y:=by rw [hp' y (by simp)];simp [hne]
   have ih:=ih a hn.2 ha hp (fun z hz=>hp' z (by simp [hz]))
   cases hpy:p y with
   | true =>
    rw [List.filter_cons_of_pos (by rw [h1,hpy]),List.filter_cons_of_pos hpy]
    exact (ih.cons y).trans (List.Perm.swap _ _ _)
   | false =>
    rw [List.filter_cons_of_neg (by rw [h1,hpy];simp),List.filter_cons_of_neg (by rw [hpy];simp)]
    exact ih
theorem A9s {α β:Type}:∀ {l:List α} {m:List β},l.length=m.length→(l.zip m).map (·.2)=m∧(l.zip m).map (·.1)=l:=by
 intro l
 induction l with
 | nil=>intro m h;cases m with
  | nil=>exact ⟨rfl,rfl⟩
  | cons _ _=>cases h
 | cons a r ih=>intro m h;cases m with
  | nil=>cases h
  | cons b s =>
   obtain ⟨h1,h2⟩:=ih (Nat.succ.inj h)
   exact ⟨by rw [List.zip_cons_cons,List.map_cons,h1],by rw [List.zip_cons_cons,List.map_cons,h2]⟩
theorem B6h {es:List (V×V×Bool)} {ms:List MapEntry} {seen:List Nat} {done:List (V×V×Bool)} (hd:B6g es ms seen done) (hlen:es.length=ms.length) (hb:(ms.map (·.born)).Nodup) (hk:(es.map (·.1)).Nodup) {i:Nat} {k x:V} {q:Bool} {m:MapEntry} (h1:es[i]? = some (k,x,q)) (h2:ms[i]? = some m) (hn:m.born ∉ seen) :
  B6g es ms (seen++[m.born]) (V1 k x true done):=by
 have hz:(es.zip ms)[i]? = some ((k,x,q),m):=by rw [List.getElem?_zip_eq_some];exact ⟨h1,h2⟩
 have hm:=List.mem_of_getElem? hz
 obtain ⟨z1,z2⟩:=A9s hlen
 have hbz:((es.zip ms).map fun p=>p.2.born).Nodup:=by
  have:((es.zip ms).map fun p=>p.2.born)=ms.map (·.born):=((List.map_map (g:=MapEntry.born) (f:=Prod.snd) (l:=es.zip ms)).symm.trans (congrArg (List.map MapEntry.born) z1):_)
  rw [this];exact hb
 have hkz:((es.zip ms).map fun p=>p.1.1).Nodup:=by
  have:((es.zip ms).map fun p=>p.1.1)=es.map (·.1):=((List.map_map (g:=fun p:V×V×Bool=>p.1) (f:=Prod.fst) (l:=es.zip ms)).symm.trans (congrArg (List.map fun p:V×V×Bool=>p.1) z2):_)
  rw [this];exact hk
 have hf:=B2I (fun p:(V×V×Bool)×MapEntry=>p.2.born) (fun p=>seen.contains p.2.born) (fun p=>(seen++[m.born]).contains p.2.born) (es.zip ms) ((k,x,q),m) hbz hm (by
   cases hc:seen.contains m.born with
   | false=>rfl
   | true=>exact absurd (List.contains_iff_mem.1 hc) hn) (fun y _=>by
   rw [Bool.eq_iff_iff]
   simp)
 have hno:∀ p∈done,p.1≠k:=fun p hp q'=>by
  have:=hd.mem_iff.1 hp
  obtain ⟨y,hy,rfl⟩:=List.mem_map.1 this
  obtain ⟨hy1,hy2⟩:=List.mem_filter.1 hy
  simp only at q' hy2
  have:y=((k,x,q),m):=by
   obtain ⟨j,hj⟩:=List.mem_iff_getElem?.1 hy1
   have e1:((es.zip ms).map fun p=>p.1.1)[j]? = some k:=by rw [List.getElem?_map,hj];exact congrArg some q'
   have e2:((es.zip ms).map fun p=>p.1.1)[i]? = some k:=by rw [List.getElem?_map,hz];rfl
   have hji:j=i:=(List.getElem?_inj (List.getElem?_eq_some_iff.1 e1).1 hkz).1 (e1.trans e2.symm)
   subst hji
   rw [hz] at hj
   exact (Option.some.inj hj).symm
  subst this
  exact hn (List.contains_iff_mem.1 hy2)
 unfold B6g V1
 rw [H5,Y5 hno]
 have:=(hf.map fun p=>(p.1.1,p.1.2.1,true)).symm
 rw [List.map_cons] at this
 exact (List.Perm.cons _ hd).trans this
theorem C1A {es:List (V×V×Bool)} {ms:List MapEntry} {seen:List Nat} {done:List (V×V×Bool)} (hd:B6g es ms seen done) (hlen:es.length=ms.length) (ha:∀ m∈ms,m.born∈seen):done.Perm (es.map fun p=>(p.1,p.2.1,true)):=by
 unfold B6g at hd
 have h1:(es.zip ms).filter (fun p=>seen.contains p.2.born)=es.zip ms:=by
  rw [List.filter_eq_self]
  intro p hp
  have:p.2∈ms:=by
   rw [← (A9s hlen).1]
   exact List.mem_map_of_mem hp
  exact List.contains_iff_mem.2 (ha _ this)
 rw [h1] at hd
 have h2:(es.zip ms).map (fun p=>(p.1.1,p.1.2.1,true))=es.map fun p=>(p.1,p.2.1,true):=by
  conv=>rhs;rw [← (A9s hlen).2]
  rw [List.map_map];rfl
 rw [h2] at hd
 exact hd
variable {P:Program} {T:TT} {c:L0} {e eb:A9} {of of':Nat→Option Ob}
def C6w (P:Program) (T:TT) (f t kt st el:Nat):Prop:=∀ (Bp bm clock:Nat) (ms:Array MapEntry) (w:World) (S:Nat→Nat→Prop) (es':List (V×V×Bool)),Bp < w.heap.size→w.cell? ⟨Bp,0,none⟩=some (.map (some bm))→w.heap[bm]? = some (.map ms clock)→StB ms clock →
  (∀ b i,S b i→b < w.heap.size)→C5C T (A9.bare w S) kt st es' ms.toList→(∀ q∈es',∃ k xs,q.1=.s k∧q.2.1=.l xs∧xs.length≤10000)→(es'.map (·.1)).Nodup →
  Calls P f #[.pointer (some ⟨Bp,0,none⟩)] w (fun en w'=>∃ e2 done,e2.w=w'∧A5 T (L0.bare w S) e2 (mbx 0 1 t kt st el done)∧(A9.bare w S).le e2∧done.Perm (es'.map fun p=>(p.1,p.2.1,true))∧e2.ι 0=some (w.heap.size+1,0)∧e2.ι 1=some (w.heap.size,0)∧en=.returned (.pointer (some ⟨w.heap.size+1,0,none⟩)))
def A1j:List (V×V×Bool)→Bool
 | []=>true
 | p::r=>(!(isN p.2.1)&&Nat.ble p.2.1.els.length 10000)&&A1j r
def L1 (es:List (V×V×Bool)):List (V×V×Bool):=es.map fun p=>(p.1,p.2.1,true)
def A4F (t kt st el:Nat):E5:=fun R args of nx k =>
 match args with
 | [.p ib tb []]=>match of ib with
  | some (.box tb' (.g tg [.m mid]) _)=>match of mid with
   | some (.sm kt' st' el' es none)=>bif Nat.beq kt' kt&&(Nat.beq st' st&&Nat.beq el' el) then (bif A1j es then k ⟨.p nx t [],[(nx,.box t (.g t [.m (nx+1)]) false),(nx+1,.sm kt st el (L1 es) none)],[ib,mid],nx+2⟩ else none) else none
   | _=>none
  | _=>none
 | _=>none
theorem B2J (t kt st el:Nat):(A4F t kt st el).nat:=by
 intro R args of nx k
 unfold E5.dir A4F
 split
 ·rename_i ib tb
  cases of ib with
  | none=>rfl
  | some o=>cases o with
   | box tb' a sh=>cases a with
    | g tg l=>cases l with
     | nil=>rfl
     | cons x r=>cases x with
      | m mid=>cases r with
       | nil =>
        simp only
        cases of mid with
        | none=>rfl
        | some o=>cases o with
         | sm kt' st' el' es ho=>cases ho with
          | none =>
           simp only
           cases (Nat.beq kt' kt&&(Nat.beq st' st&&Nat.beq el' el)) with
           | false=>rfl
           | true=>simp only [cond_true];cases A1j es<;>rfl
          | some _=>rfl
         | _=>rfl
       | cons _ _=>rfl
      | _=>rfl
    | _=>rfl
   | _=>rfl
 ·rfl
theorem B0V:∀ {es:List (V×V×Bool)},A1j es=true→∀ p∈es,isN p.2.1=false∧p.2.1.els.length≤10000:=by
 intro es
 induction es with
 | nil=>intro _ p hp;cases hp
 | cons q r ih =>
  intro h p hp
  simp only [A1j,D2I,Bool.not_eq_true'] at h
  rcases List.mem_cons.1 hp with rfl | hp
  ·exact ⟨h.1.1,D2N h.1.2⟩
  ·exact ih h.2 p hp
theorem A5.permS (h:A5 T c e of) {id kt st el:Nat} {es es2:List (V×V×Bool)} (hof:of id=some (.sm kt st el es none)) (hp:es.Perm es2):A5 T c e (F9 of id (some (.sm kt st el es2 none))):=by
 obtain ⟨u1,u2,hks,hz,hz3,b,ms,clock,v3,v4,v5,es',bs,v6,v7⟩:=A2u h hof
 exact h.turn hof (A9.le.refl e) (fun _ _=>rfl) (fun _ _=>rfl) (fun _ hu=>hu) (fun _ _ _=>rfl) (Nat.le_refl _) (fun _ _ hs=>.inl hs) (fun k q hk=>.inl ⟨q,hk⟩) rfl rfl rfl
  ⟨u1,u2,hks,hz,hz3,b,ms,clock,v3,v4,⟨(hp.map _).nodup_iff.1 v5.1,v5.2⟩,es',bs,v6.trans hp,v7⟩
theorem C1B {f t mt kt st el:Nat} (hM:C6w P T f t kt st el) (hk:A9r T t mt) (hkt:D4 T kt=some .str) (hkst:D4 T st=some (.slice el)) (hen:∀ args w,(callFunc f args).run P w=.ok (.enter f args) w):N4 P T f (A4F t kt st el).dir:=by
 intro c e of of' as vals nx out hos hs hro hu hvals
 unfold E5.dir A4F at hs
 split at hs<;>try (cases hs;done)
 rename_i ib tb
 split at hs<;>try (cases hs;done)
 rename_i tb' tg mid sh hob
 split at hs<;>try (cases hs;done)
 rename_i kt' st' el' es hom
 cases hc:Nat.beq kt' kt&&(Nat.beq st' st&&Nat.beq el' el) with
 | false=>rw [hc] at hs;cases hs
 | true =>
 rw [hc,cond_true] at hs
 cases hcp:A1j es with
 | false=>rw [hcp] at hs;cases hs
 | true =>
 rw [hcp,cond_true] at hs
 injection hs with hs;subst hs
 simp only [D2I] at hc
 obtain ⟨c1,c2,c3⟩:=hc
 have:=D2H c1;subst this
 have:=D2H c2;subst this
 have:=D2H c3;subst this
 have hob':of' ib=some (.box tb' (.g tg [.m mid]) sh):=(hro ib (by simp)).trans hob
 have hom':of' mid=some (.sm kt' st' el' es none):=(hro mid (by simp)).trans hom
 obtain ⟨x1,x2,x3,x4,Bm,cs,ty,fz,x5,x6,x7,x8,x9,x10⟩:=hos.ok _ _ hob'
 obtain ⟨u1,u2,hks,hz,hz3,b,ms,clock,v3,v4,v5,es',bs,v6,v7⟩:=A2u hos hom'
 obtain ⟨v,hvs⟩:∃ v,vals=#[v]:=by
  obtain ⟨vals⟩:=vals
  cases hvals with | cons h1 h2=>cases h2;exact ⟨_,rfl⟩
 subst hvs
 have hv:C3 T e (.p ib tb []) v:=by cases hvals with | cons h1 _=>exact h1
 obtain ⟨Bm',off,p1,p2,p3,p4,rfl⟩:=M5 hv
 rw [x5] at p3
 cases p3
 cases p4
 have hcs:cs.toList=[.map (some b)]:=by
  generalize hl:cs.toList=l at x9
  cases x9 with
  | @g _ _ ts ds _ cs' k1 k2 k3 k4 k5 =>
   cases k5
   rw [List.append_nil]
   cases k4 with
   | r m1 m2 m3 =>
    cases m3
    obtain ⟨b',_,_,n3,rfl⟩:=m1
    rw [v3] at n3;cases n3
    rfl
  | r k1 _ _=>exact k1.elim
 have hcell:e.w.cell? ⟨Bm,0,none⟩=some (.map (some b)):=by
  have:cs[0]? = some (.map (some b)):=by rw [← Array.getElem?_toList,hcs];rfl
  simp [World.cell?,x6,this]
 obtain ⟨S',s1,s2,s3⟩:=B6f hos hom' v3 v4 v5.2 v6 v5.1 v7
 have hfz:∀ a ds,Fz { e with S:=S' } a ds→Fz (A9.bare e.w S') a ds:=fun a ds q=>q
 have hE:C5C T (A9.bare e.w S') kt' st' es' ms.toList:=⟨s3.1,fun i k x q m h1 h2=>by
  obtain ⟨r1,r2⟩:=s3.2 i k x q m h1 h2
  exact ⟨⟨r1.1.change hfz,r1.2⟩,r2.change hfz⟩⟩
 have hL:∀ q∈es',∃ k xs,q.1=.s k∧q.2.1=.l xs∧xs.length≤10000:=fun q hq=>by
  obtain ⟨i,hi⟩:=List.mem_iff_getElem?.1 hq
  have hil:i < ms.toList.length:=by rw [← s3.1];exact (List.getElem?_eq_some_iff.1 hi).1
  obtain ⟨r1,r2⟩:=s3.2 i q.1 q.2.1 q.2.2 _ hi (D2U hil)
  obtain ⟨n1,n2⟩:=B0V hcp q (v6.mem_iff.1 hq)
  obtain ⟨s,hs',_⟩:=(F1 (show C3 T _ (.v kt' q.1) _ from r1) ⟨_,hkt,rfl⟩).str_inv hkt
  rcases r2.slice_inv hkst with ⟨h1,_⟩ | ⟨xs,_,_,_,h1,_⟩
  ·rw [h1] at n1;cases n1
  ·rw [h1] at n2
   exact ⟨_,xs,hs',h1,n2⟩
 have hnd:(es'.map (·.1)).Nodup:=(v6.map _).nodup_iff.2 v5.1
 have hcall:=hM Bm b clock ms e.w S' es' (Array.getElem?_eq_some_iff.1 x6).1 hcell v4 v5.2 (fun b i hs=>s1.slt b i hs) hE hL hnd
 have hn0:¬ e.U nx:=hu nx (Nat.le_refl _) (by show nx < nx+2;omega)
 have hn1:¬ e.U (nx+1):=hu (nx+1) (by omega) (by show nx+1 < nx+2;omega)
 refine .inr (.inr (.inl ⟨f,_,e.w,hen _ _,hcall.mono fun en w' ⟨e2,done,q1,q2,q3,q4,q5,q6,q7⟩=>⟨_,q7,?_⟩⟩))
 subst q1
 have h2:=B0T hk (show (0:Nat)≠1 by decide) (show nx≠nx+1 by omega) q2 q5 q6
 have hle:(A9.bare e.w S').le (A9.mbx e2.w e2.S e2.G nx (nx+1) (e.w.heap.size+1) e.w.heap.size t):=⟨q3.S,fun _ q=>q.elim,fun _ q=>q.elim,fun _ q=>q.elim,fun _ q=>q.elim,fun _ q=>q.elim,q3.grow,q3.keep⟩
 obtain ⟨j1,j2,j3⟩:=s1.join h2 hle (fun id A2=>by
  rcases A2 with rfl | rfl
  ·exact hn0
  ·exact hn1)
 have hb1:B0S of' (mbx nx (nx+1) t kt' st' el' done) (nx+1)=some (.sm kt' st' el' done none):=by
  unfold B0S mbx;rw [if_neg (by omega),if_pos rfl]
 have j4:=j1.permS hb1 (q4.trans (v6.map _))
 have r0:(A9.join { e with S:=S' } (A9.mbx e2.w e2.S e2.G nx (nx+1) (e.w.heap.size+1) e.w.heap.size t)).ι nx=some (e.w.heap.size+1,0):=(if_neg hn0).trans (if_pos rfl)
 refine ⟨A9.join { e with S:=S' } (A9.mbx e2.w e2.S e2.G nx (nx+1) (e.w.heap.size+1) e.w.heap.size t),rfl,j4.sub (fun id o ho=>?_),s2.trans j2,fun id A2=>?_,?_⟩
 ·have ho:F9 (F9 of' nx (some (.box t (.g t [.m (nx+1)]) false))) (nx+1) (some (.sm kt' st' el' (L1 es) none)) id=some o:=ho
  by_cases h1:id=nx+1
  ·subst h1;rw [upd_same] at ho;rw [upd_same];exact ho
  ·rw [upd_ne _ _ h1] at ho;rw [upd_ne _ _ h1]
   by_cases h0:id=nx
   ·subst h0;rw [upd_same] at ho;unfold B0S mbx;rw [if_pos rfl];exact ho
   ·rw [upd_ne _ _ h0] at ho;unfold B0S mbx;rw [if_neg h0,if_neg h1];exact ho
 ·rcases A2 with A2 | A2
  ·exact .inl A2
  ·refine .inr ?_
   show nx≤id∧id < nx+2
   rcases A2 with rfl | rfl<;>omega
 ·exact RA.r ⟨e.w.heap.size+1,0,.inr (.inl rfl),(if_neg hn0),r0,(by
   rw [show (A9.join { e with S:=S' } (A9.mbx e2.w e2.S e2.G nx (nx+1) (e.w.heap.size+1) e.w.heap.size t)).ty nx=t from (if_neg hn0).trans (if_pos rfl)]
   exact .nil),rfl⟩ rfl .nil
variable {R:Type}
variable {R:Type}
theorem A1H (kv:V):∀ es:List (V×V×Bool),J5 kv (L1 es)=J5 kv es∧N6 kv (L1 es)=N6 kv es∧A0r kv (L1 es)=true:=by
 intro es
 induction es with
 | nil=>exact ⟨rfl,rfl,rfl⟩
 | cons p r ih =>
  obtain ⟨h1,h2,h3⟩:=ih
  have e1:L1 (p::r)=(p.1,p.2.1,true)::L1 r:=rfl
  rw [e1]
  refine ⟨?_,?_,?_⟩
  ·simp only [J5,h1]
  ·simp only [N6,h2]
  ·simp only [A0r,h3];cases Q5 p.1 kv<;>rfl
theorem A4G (es:List (V×V×Bool)):(L1 es).map (·.1)=es.map (·.1):=by
 unfold L1;rw [List.map_map];rfl
theorem R4.copy {p:List V} {es:List (V×V×Bool)} (h:R4 p es):R4 p (L1 es) :=
 ⟨by rw [A4G];exact h.nd,by rw [A4G];exact h.ks,fun q hq=>by
  have:q.1∈(L1 es).map (·.1):=List.mem_map_of_mem hq
  rw [A4G] at this
  obtain ⟨y,hy,hyq⟩:=List.mem_map.1 this
  rw [← hyq];exact h.gd y hy,fun nm=>by rw [(A1H _ _).1];exact h.has nm,fun nm hh=>by rw [(A1H _ _).1] at hh;rw [(A1H _ _).2.1];exact h.val nm hh,fun kv=>(A1H kv es).2.2⟩
theorem B2K {p:List V} {es:List (V×V×Bool)} (h:R4 p es) (hp:p.length≤10000):A1j es=true:=by
 have:∀ q∈es,isN q.2.1=false∧q.2.1.els.length≤10000:=fun q hq=>by
  obtain ⟨nm,h1,_⟩:=h.gd q hq
  obtain ⟨m1,m2,_⟩:=B0y (kv:=q.1) (x:=q.2.1) (q:=q.2.2) h.nd hq
  rw [h1] at m1 m2
  rw [h.val nm m1] at m2
  rw [← m2]
  have:=A2V nm p
  exact ⟨rfl,by show (G0 nm p).length≤10000;omega⟩
 clear h
 induction es with
 | nil=>rfl
 | cons q r ih =>
  obtain ⟨h1,h2⟩:=this q (by simp)
  show ((!(isN q.2.1)&&Nat.ble q.2.1.els.length 10000)&&A1j r)=true
  rw [h1,D2R h2,ih (fun z hz=>this z (by simp [hz]))];rfl
variable {R:Type}
variable {R:Type}
inductive PNx where
 | m (bs:List V) (c:Int) (h:Int) (n:Int) (g:Int) (ss:List V) (m:Int) (i:Int)
inductive QNx where
 | o (bs:List V) (c:Int) (h:Int) (n:Int) (g:Int) (ss:List V) (m:Int) (i:Int)
def BNx (R:Type) (p:PNx) (K:PNx→Option R) (kx:QNx→Option R):Option R :=
 match p with
 | .m bs c h n g ss m i =>
  bif B5 i m then
   ck i ss.length <|
   K (.m bs c h (D7 (n+(D7 ((D7 (((V.nth (.l ss) i.toNat)).int)) * g)))) (D7 (g * 256)) ss m (D7 (i+1)))
   else
   kx (.o bs c h n g ss m i)
abbrev C6x:=@BNx.eq_1
inductive PPs where
 | m (xs:List V) (l:V) (n:Int) (i:Int)
inductive QPs where
 | o (xs:List V) (l:V) (n:Int) (i:Int)
def BPs (R:Type) (p:PPs) (K:PPs→Option R) (kx:QPs→Option R):Option R :=
 match p with
 | .m xs l n i =>
  bif B5 i n then
   ck i ((l.els).length) <|
   ln ((((V.nth l i.toNat)).els).length) <|
   bif C0 ((((V.nth l i.toNat)).els).length:Nat) 75 then
   N0 (xs.length+([(V.i (IntKind.wrap .u8 ((((V.nth l i.toNat)).els).length:Nat)))]).length) <|
   N0 (((xs++[(V.i (IntKind.wrap .u8 ((((V.nth l i.toNat)).els).length:Nat)))])).length+(((V.nth l i.toNat)).els).length) <|
   K (.m ((xs++[(V.i (IntKind.wrap .u8 ((((V.nth l i.toNat)).els).length:Nat)))])++((V.nth l i.toNat)).els) l n (D7 (i+1)))
   else
   bif B5 ((((V.nth l i.toNat)).els).length:Nat) 256 then
   N0 (xs.length+([(V.i 76),(V.i (IntKind.wrap .u8 ((((V.nth l i.toNat)).els).length:Nat)))]).length) <|
   N0 (((xs++[(V.i 76),(V.i (IntKind.wrap .u8 ((((V.nth l i.toNat)).els).length:Nat)))])).length+(((V.nth l i.toNat)).els).length) <|
   K (.m ((xs++[(V.i 76),(V.i (IntKind.wrap .u8 ((((V.nth l i.toNat)).els).length:Nat)))])++((V.nth l i.toNat)).els) l n (D7 (i+1)))
   else
   N0 (xs.length+([(V.i 77),(V.i (IntKind.wrap .u8 ((((V.nth l i.toNat)).els).length:Nat))),(V.i (IntKind.wrap .u8 (Int.fdiv ((((V.nth l i.toNat)).els).length:Nat) 256)))]).length) <|
   N0 (((xs++[(V.i 77),(V.i (IntKind.wrap .u8 ((((V.nth l i.toNat)).els).length:Nat))),(V.i (IntKind.wrap .u8 (Int.fdiv ((((V.nth l i.toNat)).els).length:Nat) 256)))])).length+(((V.nth l i.toNat)).els).length) <|
   K (.m ((xs++[(V.i 77),(V.i (IntKind.wrap .u8 ((((V.nth l i.toNat)).els).length:Nat))),(V.i (IntKind.wrap .u8 (Int.fdiv ((((V.nth l i.toNat)).els).length:Nat) 256)))])++((V.nth l i.toNat)).els) l n (D7 (i+1)))
   else
   kx (.o xs l n i)
abbrev C6y:=@BPs.eq_1
inductive PEq where
 | m (a:V) (b:V) (c:V) (n:Int) (i:Int)
inductive QEq where
 | o (a:V) (b:V) (c:V) (n:Int) (i:Int)
 | r (a:V) (b:V) (c:V) (n:Int) (i:Int)
def BEq (R:Type) (p:PEq) (K:PEq→Option R) (kx:QEq→Option R):Option R :=
 match p with
 | .m a b c n i =>
  bif B5 i n then
   ck i ((a.els).length) <|
   ck i ((b.els).length) <|
   bif !(L5 (((V.nth a i.toNat)).int) (((V.nth b i.toNat)).int)) then
   kx (.r a b c n i)
   else
   K (.m a b c n (D7 (i+1)))
   else
   kx (.o a b c n i)
abbrev C6z:=@BEq.eq_1
variable {R:Type}
def J0:V:=.l [.i 0,.s [],.s [],.s [],.l (List.replicate 20 (.i 0))]
def tkS (c h n:Nat) (l:List Nat):Option (Nat×List Nat×Nat):=if h+n≤l.length then some (c,(l.drop h).take n,h+n) else none
def nxS:List Nat→Option (Nat×List Nat×Nat)
 | []=>none
 | c::r =>
  if c≤75 then tkS c 1 c (c::r)
  else if c=76 then (match r with
   | n::_=>tkS c 2 n (c::r)
   | []=>none)
  else if c=77 then (match r with
   | a::b::_=>tkS c 3 (a+256 * b) (c::r)
   | _=>none)
  else if 81≤c∧c≤96 then some (c,[c - 80],1)
  else tkS c 1 0 (c::r)
def nxC (x:V):Int:=match nxS (H0 x) with
 | some q=>(q.1:Nat)
 | none=>0
def nxD (x:V):V:=match nxS (H0 x) with
 | some q=>.l (q.2.1.map nv)
 | none=>.n
def nxU (x:V):Int:=match nxS (H0 x) with
 | some q=>(q.2.2:Nat)
 | none=>0
def nxE (x:V):Int:=match nxS (H0 x) with
 | some _=>0
 | none=>71
def nxR (a b c d:Nat):Option (Nat×List Nat×Nat)→List Rs
 | none=>[.d a (.i 0),.d b .n,.d c (.i 0),.d d (.i 71)]
 | some q=>[.d a (.i (q.1:Nat)),.d b (.l (q.2.1.map nv)),.d c (.i (q.2.2:Nat)),.d d (.i 0)]
def nxr (a b c d:Nat):List V→List Rs
 | [x]=>[.d a (.i (nxC x)),.d b (nxD x),.d c (.i (nxU x)),.d d (.i (nxE x))]
 | _=>[]
def nxg:List V→Bool
 | [x]=>Nat.ble x.els.length 1000000
 | _=>false
theorem C1C {a b c d:Nat} {x:V} {ns:List Nat} (h:x.els=ns.map nv):nxR a b c d (nxS ns)=nxr a b c d [x]:=by
 show _=[Rs.d a (.i (nxC x)),.d b (nxD x),.d c (.i (nxU x)),.d d (.i (nxE x))]
 unfold nxC nxD nxU nxE
 simp only [J1 h]
 cases nxS ns<;>rfl
def B0W (a b c d:Nat):Option (List Rs):=some [.d a (.i 0),.d b .n,.d c (.i 0),.d d (.i 71)]
def A34 (a b c d:Nat) (q:Int) (bs:List V) (h n:Int):Option (List Rs) :=
 ln bs.length <| bif B5 (bs.length:Nat) (D7 (h+n)) then B0W a b c d else
 bif ((C0 0 h)&&(C0 h (D7 (h+n))))&&(C0 (D7 (h+n)) (bs.length:Nat)) then
 N0 ((List.replicate 0 (V.i 0)).length+(List.take ((D7 (h+n)) - h).toNat (List.drop h.toNat bs)).length) <|
 some [.d a (.i q),.d b (.l (List.replicate 0 (V.i 0)++List.take ((D7 (h+n)) - h).toNat (List.drop h.toNat bs))),.d c (.i (D7 (h+n))),.d d (.i 0)] else none
def nxZ (a b c d:Nat) (q:Int) (bs:List V):Option (List Rs) :=
 bif C0 q 77 then B0W a b c d else bif C0 81 q then
  (bif C0 q 96 then some [.d a (.i q),.d b (.l (List.set (List.replicate 1 (V.i 0)) 0 (.i (IntKind.wrap .u8 ((IntKind.wrap .u8 (q - 81))+1))))),.d c (.i 1),.d d (.i 0)]
  else A34 a b c d q bs 1 0) else A34 a b c d q bs 1 0
def C5D (a b c d:Nat) (q:Int) (bs:List V):Option (List Rs) :=
 bif L5 q 77 then (ln bs.length <| bif B5 2 (bs.length:Nat) then (ck 1 bs.length <| ck 2 bs.length <| A34 a b c d q bs 3 (D7 ((D7 ((V.nth (.l bs) 1).int))+(D7 ((D7 ((V.nth (.l bs) 2).int)) * 256))))) else nxZ a b c d q bs) else nxZ a b c d q bs
def D0e (a b c d:Nat) (bs:List V):Option (List Rs) :=
 ln bs.length <| bif L5 (bs.length:Nat) 0 then B0W a b c d else ck 0 bs.length <|
 bif C0 ((V.nth (.l bs) 0).int) 75 then A34 a b c d ((V.nth (.l bs) 0).int) bs 1 (D7 ((V.nth (.l bs) 0).int)) else
 bif L5 ((V.nth (.l bs) 0).int) 76 then (ln bs.length <| bif B5 1 (bs.length:Nat) then (ck 1 bs.length <| A34 a b c d ((V.nth (.l bs) 0).int) bs 2 (D7 ((V.nth (.l bs) 1).int))) else C5D a b c d ((V.nth (.l bs) 0).int) bs)
 else C5D a b c d ((V.nth (.l bs) 0).int) bs
def nxL (a b c d:Nat) (q:Int) (bs:List V) (n:Int):Option (List Rs) :=
 ln bs.length <| bif B5 (bs.length:Nat) (D7 (D7 q - 74)) then B0W a b c d else
 bif ((C0 0 1)&&(C0 1 (D7 (D7 q - 74))))&&(C0 (D7 (D7 q - 74)) (bs.length:Nat)) then
 ln (List.take ((D7 (D7 q - 74)) - 1).toNat (List.drop 1 bs)).length <|
 E1 (BNx (List Rs)) (A2 FU) (.m bs q (D7 (D7 q - 74)) n 1 (List.take ((D7 (D7 q - 74)) - 1).toNat (List.drop 1 bs)) ((List.take ((D7 (D7 q - 74)) - 1).toNat (List.drop 1 bs)).length:Nat) 0) fun q=>match q with
  | .o bs1 c1 h1 n1 g1 ss1 m1 i1=>A34 a b c d c1 bs1 h1 n1
 else none
def nxM (a b c d:Nat) (q:Int) (bs:List V) (n:Int):Option (List Rs) :=
 bif L5 q 76 then nxL a b c d q bs n else bif L5 q 77 then nxL a b c d q bs n else A34 a b c d q bs 1 n
def nxN (a b c d:Nat) (q:Int) (bs:List V):Option (List Rs) :=
 bif B5 q 76 then nxM a b c d q bs (D7 q) else nxM a b c d q bs 0
def D0f (a b c d:Nat) (bs:List V):Option (List Rs) :=
 ln bs.length <| bif L5 (bs.length:Nat) 0 then B0W a b c d else ck 0 bs.length <|
 bif B5 80 ((V.nth (.l bs) 0).int) then (bif B5 ((V.nth (.l bs) 0).int) 97 then some [.d a (.i ((V.nth (.l bs) 0).int)),.d b (.l (List.set (List.replicate 1 (V.i 0)) 0 (.i (IntKind.wrap .u8 ((V.nth (.l bs) 0).int - 80))))),.d c (.i 1),.d d (.i 0)]
  else nxN a b c d ((V.nth (.l bs) 0).int) bs) else nxN a b c d ((V.nth (.l bs) 0).int) bs
theorem X7 (a b:Int):L5 a b=decide (a=b):=by
 by_cases h:a=b
 ·rw [L7.2 h];simp [h]
 ·simp only [h,decide_false]
  rw [← Bool.not_eq_true,L7];exact h
theorem A35 {a b c d q h n:Nat} {ns:List Nat} (hl:ns.length≤1000000) (hn:n≤1000000) (hh:h≤3):A34 a b c d (q:Nat) (ns.map nv) (h:Nat) (n:Nat)=some (nxR a b c d (tkS q h n ns)):=by
 unfold A34 tkS
 have e:D7 ((h:Int)+(n:Int))=((h+n:Nat):Int):=by rw [F8 (by omega) (by omega)];omega
 rw [D2L,B7 (by omega),e,G5]
 by_cases hc:h+n≤ns.length
 ·rw [if_pos hc,show decide (((ns.length:Nat):Int) < ((h+n:Nat):Int))=false by simp;omega,cond_false]
  have e2:(((h+n:Nat):Int) - (h:Int)).toNat=n:=by omega
  have e3:((h:Nat):Int).toNat=h:=by omega
  rw [show ((C0 0 (h:Int)&&C0 (h:Int) ((h+n:Nat):Int))&&C0 ((h+n:Nat):Int) ((ns.length:Nat):Int))=true by simp only [Q0,D2I,D2T];omega,cond_true,e2,e3,B3 (by simp;omega)]
  simp [nxR,List.map_take,List.map_drop]
 ·rw [if_neg hc,show decide (((ns.length:Nat):Int) < ((h+n:Nat):Int))=true by simp;omega,cond_true];rfl
theorem A1I {n:Nat} (h:n < 1000000000):D7 (n:Int)=(n:Nat):=F8 (by omega) (by omega)
theorem A7m (c:Nat) (r:List Nat) (k:Nat) {x:Nat} (h:(c::r)[k]? = some x):(V.nth (.l ((c::r).map nv)) k).int=(x:Nat):=A8V rfl h
theorem u8w {n:Int} (h1:0≤n) (h2:n < 256):IntKind.wrap .u8 n=n:=by
 show (if (false&&decide (n % 2 ^ 8 ≥ 2 ^ (8 - 1)))=true then n % 2 ^ 8 - 2 ^ 8 else n % 2 ^ 8)=n
 simp;omega
theorem A5v {a b c d q:Nat} {r:List Nat} (hl:(q::r).length≤1000000) (h2:q < 256) (h1:76≤q) (h3:q≤77→nxS (q::r)=none):nxZ a b c d (q:Nat) ((q::r).map nv)=some (nxR a b c d (nxS (q::r))):=by
 unfold nxZ
 simp only [Q0]
 by_cases h77:q≤77
 ·rw [show decide ((q:Int)≤77)=true by simp;omega,cond_true,h3 h77];rfl
 ·rw [show decide ((q:Int)≤77)=false by simp;omega,cond_false]
  have t:=A35 (a:=a) (b:=b) (c:=c) (d:=d) (q:=q) (h:=1) (n:=0) hl (by omega) (by omega)
  simp only [nxS]
  rw [if_neg (by omega),if_neg (by omega),if_neg (by omega)]
  by_cases h81:81≤q
  ·rw [show decide (81≤(q:Int))=true by simp;omega,cond_true]
   by_cases h96:q≤96
   ·rw [show decide ((q:Int)≤96)=true by simp;omega,cond_true,if_pos ⟨h81,h96⟩,u8w (n:=(q:Int) - 81) (by omega) (by omega),u8w (by omega) (by omega)]
    show some [Rs.d a (.i (q:Nat)),.d b (.l [.i ((q:Int) - 81+1)]),.d c (.i 1),.d d (.i 0)]=some [.d a (.i (q:Nat)),.d b (.l [.i ((q - 80:Nat):Int)]),.d c (.i ((1:Nat):Int)),.d d (.i 0)]
    rw [show (q:Int) - 81+1=((q - 80:Nat):Int) by omega];rfl
   ·rw [show decide ((q:Int)≤96)=false by simp;omega,cond_false,if_neg (by omega)];exact t
  ·rw [show decide (81≤(q:Int))=false by simp;omega,cond_false,if_neg (by omega)];exact t
theorem C1D {a b c d:Nat} {ns:List Nat} (hb:∀ x∈ns,x < 256) (hl:ns.length≤1000000):D0e a b c d (ns.map nv)=some (nxR a b c d (nxS ns)):=by
 unfold D0e
 rw [D2L,B7 (by omega),X7]
 cases ns with
 | nil=>rfl
 | cons q r =>
  have hq:=hb q (by simp)
  rw [show decide ((((q::r).length:Nat):Int)=0)=false by simp;omega,cond_false,C9 (by omega) (by simp<;>omega),A7m q r 0 rfl,Q0,X7]
  have t:∀ (h n:Nat) (ns:List Nat),ns.length≤1000000→n≤1000000→h≤3→A34 a b c d (q:Nat) (ns.map nv) (h:Nat) (n:Nat)=some (nxR a b c d (tkS q h n ns)):=fun h n ns=>A35
  have hlen:(q::r).length=r.length+1:=rfl
  by_cases h75:q≤75
  ·rw [show decide ((q:Int)≤75)=true by simp;omega,cond_true,A1I (by omega)]
   refine (t 1 q (q::r) hl (by omega) (by omega)).trans ?_
   simp only [nxS];rw [if_pos h75]
  ·rw [show decide ((q:Int)≤75)=false by simp;omega,cond_false]
   by_cases h76:q=76
   ·rw [show decide ((q:Int)=76)=true by simp;omega,cond_true,B7 (by omega),G5]
    cases r with
    | nil =>
     rw [show decide (1 < ((([q].length:Nat)):Int))=false by simp,cond_false]
     unfold C5D
     rw [X7,show decide ((q:Int)=77)=false by simp;omega,cond_false]
     exact A5v hl hq (by omega) (fun _=>by simp only [nxS];rw [if_neg h75,if_pos h76])
    | cons n s =>
     have hn:=hb n (by simp)
     rw [show decide (1 < (((q::n::s).length:Nat):Int))=true by simp;omega,cond_true,C9 (by omega) (by simp;omega),A7m q (n::s) 1 rfl,A1I (by omega)]
     refine (t 2 n (q::n::s) hl (by omega) (by omega)).trans ?_
     simp only [nxS];rw [if_neg h75,if_pos h76]
   ·rw [show decide ((q:Int)=76)=false by simp;omega,cond_false]
    unfold C5D
    rw [X7]
    by_cases h77:q=77
    ·rw [show decide ((q:Int)=77)=true by simp;omega,cond_true,D2L,B7 (by omega),G5]
     match r,hb,hl with
     | [],hb,hl =>
      rw [show decide (2 < ((([q].length:Nat)):Int))=false by simp,cond_false]
      exact A5v hl hq (by omega) (fun _=>by simp only [nxS];rw [if_neg h75,if_neg h76,if_pos h77])
     | [n],hb,hl =>
      rw [show decide (2 < ((([q,n].length:Nat)):Int))=false by simp,cond_false]
      exact A5v hl hq (by omega) (fun _=>by simp only [nxS];rw [if_neg h75,if_neg h76,if_pos h77])
     | n::m::s,hb,hl =>
      have hn:=hb n (by simp)
      have hm:=hb m (by simp)
      rw [show decide (2 < (((q::n::m::s).length:Nat):Int))=true by simp;omega,cond_true,C9 (by omega) (by simp;omega),C9 (by omega) (by simp;omega),A7m q (n::m::s) 1 rfl,A7m q (n::m::s) 2 rfl,A1I (n:=n) (by omega),A1I (n:=m) (by omega),F8 (n:=(m:Int) * 256) (by omega) (by omega),F8 (by omega) (by omega)]
      have:=t 3 (n+256 * m) (q::n::m::s) hl (by omega) (by omega)
      rw [show ((n:Int)+(m:Int) * 256)=((n+256 * m:Nat):Int) by omega]
      refine this.trans ?_
      simp only [nxS];rw [if_neg h75,if_neg h76,if_pos h77]
    ·rw [show decide ((q:Int)=77)=false by simp;omega,cond_false]
     exact A5v hl hq (by omega) (fun _=>by omega)
theorem nx1 {kx:QNx→Option R} {bs ss:List V} {c h n g:Int} {i m:Nat} {f:Nat} {v:Nat} (hi:i < m) (hm:m=ss.length) (hs:ss[i]? = some (nv v)) (hv:v < 256) (h0:m < 10) :
  E1 (BNx R) (f+1) (.m bs c h n g ss (m:Nat) (i:Nat)) kx=E1 (BNx R) f (.m bs c h (D7 (n+D7 ((v:Int) * g))) (D7 (g * 256)) ss (m:Nat) ((i+1:Nat):Int)) kx:=by
 rw [E1,C6x,G5,show decide (((i:Nat):Int) < ((m:Nat):Int))=true by simp;omega,cond_true,C9 (by omega) (by show ((i:Nat):Int) < (ss.length:Nat);omega)]
 have:(V.nth (.l ss) ((i:Nat):Int).toNat).int=(v:Int):=by
  show ((ss.getD i .n).int)=_
  rw [List.getD_eq_getElem?_getD,hs];rfl
 rw [this,A1I (by omega),F8 (n:=((i:Nat):Int)+1) (by omega) (by omega),show ((i:Nat):Int)+1=((i+1:Nat):Int) by omega]
theorem nx0 {kx:QNx→Option R} {bs ss:List V} {c h n g:Int} {m:Nat} {f:Nat}:E1 (BNx R) (f+1) (.m bs c h n g ss (m:Nat) (m:Nat)) kx=kx (.o bs c h n g ss (m:Nat) (m:Nat)):=by
 rw [E1,C6x,G5,show decide (((m:Nat):Int) < ((m:Nat):Int))=false by simp,cond_false]
theorem C5E {a b c d q:Nat} {r:List Nat} (hl:(q::r).length≤1000000) (hb:∀ x∈r,x < 256) (hq:q=76∨q=77):nxL a b c d (q:Nat) ((q::r).map nv) 0=some (nxR a b c d (nxS (q::r))):=by
 have hfu:=U0
 have hlen:(q::r).length=r.length+1:=rfl
 unfold nxL
 rw [D2L,B7 (by omega),A1I (n:=q) (by omega),G5]
 have t:∀ (h n:Nat) (ns:List Nat),ns.length≤1000000→n≤1000000→h≤3→A34 a b c d (q:Nat) (ns.map nv) (h:Nat) (n:Nat)=some (nxR a b c d (tkS q h n ns)):=fun h n ns=>A35
 rcases hq with rfl | rfl
 ·rw [show D7 (((76:Nat):Int) - 74)=2 by decide]
  cases r with
  | nil=>rfl
  | cons n s =>
   have hn:=hb n (by simp)
   rw [show decide ((((76::n::s).length:Nat):Int) < 2)=false by simp;omega,cond_false,show ((C0 0 1&&C0 1 2)&&C0 2 (((76::n::s).length:Nat):Int))=true by simp only [Q0,D2I,D2T];simp only [D2P];omega,cond_true,show List.take (2 - 1:Int).toNat (List.drop 1 ((76::n::s).map nv))=[nv n] from rfl,show (List.length [nv n])=1 from rfl,B7 (by omega)]
   obtain ⟨f,hf⟩:∃ f,A2 FU=f+1+1:=⟨A2 FU - 2,by omega⟩
   rw [hf]
   refine (nx1 (i:=0) (m:=1) (v:=n) (by omega) rfl rfl hn (by omega)).trans ?_
   refine (nx0 (m:=1)).trans ?_
   show A34 a b c d _ _ _ _=_
   rw [Int.mul_one,A1I (by omega),Int.zero_add,A1I (by omega)]
   refine (t 2 n (76::n::s) hl (by omega) (by omega)).trans ?_
   rfl
 ·rw [show D7 (((77:Nat):Int) - 74)=3 by decide]
  match r,hb,hl with
  | [],hb,hl=>rfl
  | [n],hb,hl=>rfl
  | n::m::s,hb,hl =>
   have hn:=hb n (by simp)
   have hm:=hb m (by simp)
   rw [show decide ((((77::n::m::s).length:Nat):Int) < 3)=false by simp;omega,cond_false,show ((C0 0 1&&C0 1 3)&&C0 3 (((77::n::m::s).length:Nat):Int))=true by simp only [Q0,D2I,D2T];simp only [D2P];omega,cond_true,show List.take (3 - 1:Int).toNat (List.drop 1 ((77::n::m::s).map nv))=[nv n,nv m] from rfl,show (List.length [nv n,nv m])=2 from rfl,B7 (by omega)]
   obtain ⟨f,hf⟩:∃ f,A2 FU=f+1+1+1:=⟨A2 FU - 3,by omega⟩
   rw [hf]
   refine (nx1 (i:=0) (m:=2) (v:=n) (by omega) rfl rfl hn (by omega)).trans ?_
   refine (nx1 (i:=1) (m:=2) (v:=m) (by omega) rfl rfl hm (by omega)).trans ?_
   refine (nx0 (m:=2)).trans ?_
   show A34 a b c d _ _ _ _=_
   rw [Int.mul_one,A1I (by omega),Int.zero_add,A1I (by omega),show D7 (1 * 256)=256 by decide,F8 (n:=(m:Int) * 256) (by omega) (by omega),F8 (by omega) (by omega),show (n:Int)+(m:Int) * 256=((n+256 * m:Nat):Int) by omega]
   refine (t 3 (n+256 * m) (77::n::m::s) hl (by omega) (by omega)).trans ?_
   rfl
theorem C5F {a b c d q:Nat} {r:List Nat} (hl:(q::r).length≤1000000) (hb:∀ x∈r,x < 256) (hq:q < 256) (h80:¬ (81≤q∧q≤96)):nxN a b c d (q:Nat) ((q::r).map nv)=some (nxR a b c d (nxS (q::r))):=by
 have t:∀ (h n:Nat) (ns:List Nat),ns.length≤1000000→n≤1000000→h≤3→A34 a b c d (q:Nat) (ns.map nv) (h:Nat) (n:Nat)=some (nxR a b c d (tkS q h n ns)):=fun h n ns=>A35
 have l:=@C5E a b c d q r hl hb
 unfold nxN nxM
 simp only [G5,X7]
 by_cases h75:q≤75
 ·rw [show decide ((q:Int) < 76)=true by simp;omega,cond_true,show decide ((q:Int)=76)=false by simp;omega,cond_false,show decide ((q:Int)=77)=false by simp;omega,cond_false,A1I (by omega)]
  refine (t 1 q (q::r) hl (by omega) (by omega)).trans ?_
  simp only [nxS];rw [if_pos h75]
 ·rw [show decide ((q:Int) < 76)=false by simp;omega,cond_false]
  by_cases h76:q=76
  ·rw [show decide ((q:Int)=76)=true by simp;omega,cond_true];exact l (.inl h76)
  ·rw [show decide ((q:Int)=76)=false by simp;omega,cond_false]
   by_cases h77:q=77
   ·rw [show decide ((q:Int)=77)=true by simp;omega,cond_true];exact l (.inr h77)
   ·rw [show decide ((q:Int)=77)=false by simp;omega,cond_false]
    refine (t 1 0 (q::r) hl (by omega) (by omega)).trans ?_
    simp only [nxS];rw [if_neg h75,if_neg h76,if_neg h77,if_neg h80]
theorem C1E {a b c d:Nat} {ns:List Nat} (hb:∀ x∈ns,x < 256) (hl:ns.length≤1000000):D0f a b c d (ns.map nv)=some (nxR a b c d (nxS ns)):=by
 unfold D0f
 rw [D2L,B7 (by omega),X7]
 cases ns with
 | nil=>rfl
 | cons q r =>
  have hq:=hb q (by simp)
  have l:=@C5F a b c d q r hl (fun x hx=>hb x (by simp [hx])) hq
  rw [show decide ((((q::r).length:Nat):Int)=0)=false by simp;omega,cond_false,C9 (by omega) (by simp<;>omega),A7m q r 0 rfl,G5,G5]
  by_cases h80:81≤q
  ·rw [show decide (80 < (q:Int))=true by simp;omega,cond_true]
   by_cases h96:q≤96
   ·rw [show decide ((q:Int) < 97)=true by simp;omega,cond_true,u8w (by omega) (by omega)]
    show some [Rs.d a (.i (q:Nat)),.d b (.l [.i ((q:Int) - 80)]),.d c (.i 1),.d d (.i 0)]=_
    simp only [nxS]
    rw [if_neg (by omega),if_neg (by omega),if_neg (by omega),if_pos ⟨h80,h96⟩,show (q:Int) - 80=((q - 80:Nat):Int) by omega];rfl
   ·rw [show decide ((q:Int) < 97)=false by simp;omega,cond_false];exact l (by omega)
  ·rw [show decide (80 < (q:Int))=false by simp;omega,cond_false];exact l (by omega)
end Go.Vm
end