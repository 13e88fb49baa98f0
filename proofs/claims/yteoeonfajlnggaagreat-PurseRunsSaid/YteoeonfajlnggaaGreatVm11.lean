/- What the operations of a program do, shown once for all programs; and numbers. -/
import Derived.Test.YteoeonfajlnggaaGreatVm10
import Derived.Test.YteoeonfajlnggaaGreatVm9
import Derived.Maps.RangeRun
import Derived.Sort.AssemblyPlain
import Derived.Sort.LotD5
set_option linter.constructorNameAsVariable false
set_option linter.unusedVariables false
set_option linter.unusedSimpArgs false
noncomputable section
namespace Go.Vm
open Go.RowKit
variable {R:Type}
theorem B7a (a b:Int):F2 a b=decide (a≤b):=by simp [F2]
theorem A1o (a b:Int):C3 a b=decide (a < b):=by simp [C3]
def M7 (c:V):V:=(c.nth 0).nth 1
def cpg:List V→Bool
 | [c]=>Nat.ble (M7 c).els.length 1073741824
 | _=>false
def cpr (t:Nat):List V→List Rs
 | [c]=>[.d t c]
 | _=>[]
def cpG (t:Nat) (v h:Int) (k:V) (q:Bool):Option (List Rs) :=
 bif isN k&&true then some [.d t (.l [.l [.i v,.n],.i h,.b q])] else X4 (0+k.els.length) <| some [.d t (.l [.l [.i v,.l ([]++k.els)],.i h,.b q])]
theorem C83 {t:Nat} {v h:Int} {k:V} {q:Bool} (hk:(D.slice (.int .u8)).has k) (hg:cpg [.l [.l [.i v,k],.i h,.b q]]=true):cpG t v h k q=some [.d t (.l [.l [.i v,k],.i h,.b q])]:=by
 unfold cpG
 rcases A2w hk with rfl | ⟨ys,rfl⟩
 ·rfl
 ·have hl:ys.length≤1073741824:=E0x hg
  show X4 (0+ys.length) _=_
  rw [D4 (by omega)]
  rfl
def A6X:V:=.l [.l (List.replicate 32 (.i 0)),.i 4294967295]
def X6 (t:V):Bool:=bif Y5 ((t.nth 1).els.length:Nat) 1 then N4 (((t.nth 1).nth 0).nth 0) A6X else false
def bsg:List V→Bool
 | [t]=>Nat.ble (t.nth 1).els.length 1000
 | _=>false
def bsr (b:Nat):List V→List Rs
 | [t]=>[.d b (.b (X6 t))]
 | _=>[]
def bsG (b:Nat) (a:V):Option (List Rs) :=
 ln a.els.length <| bif Y5 (a.els.length:Nat) 1 then ck ((0:Nat):Int) a.els.length <| bif N4 ((a.nth 0).nth 0) A6X then some [.d b (.b true)] else some [.d b (.b false)] else some [.d b (.b false)]
theorem C1M {b:Nat} {v u:Int} {x y:V} (hg:bsg [.l [.i v,x,y,.i u]]=true):bsG b x=some [.d b (.b (X6 (.l [.i v,x,y,.i u])))]:=by
 have hl:x.els.length≤1000:=E0x hg
 have e:X6 (.l [.i v,x,y,.i u])=bif Y5 (x.els.length:Nat) 1 then N4 ((x.nth 0).nth 0) A6X else false:=rfl
 unfold bsG
 rw [e,D8 (by omega)]
 cases h1:Y5 (x.els.length:Nat) 1 with
 | false=>rfl
 | true =>
  have:=P4.1 h1
  rw [cond_true,cond_true,E2 (by omega) (by omega)]
  cases N4 ((x.nth 0).nth 0) A6X<;>rfl
inductive PSc where
 | m (l:V) (s:Int) (n:Int) (i:Int)
inductive QSc where
 | o (l:V) (s:Int) (n:Int) (i:Int)
 | r (l:V) (s:Int) (n:Int) (i:Int)
def BSc (R:Type) (p:PSc) (K:PSc→Option R) (kx:QSc→Option R):Option R :=
 match p with
 | .m l s n i =>
  bif C3 i n then
   ck i ((l.els).length) <|
   bif F2 0 (((V.nth (V.nth l i.toNat) 0)).int) then
   bif F2 (((V.nth (V.nth l i.toNat) 0)).int) 2000000000000 then
   bif F2 0 (B2 (s+((V.nth (V.nth l i.toNat) 0)).int)) then
   bif F2 (B2 (s+((V.nth (V.nth l i.toNat) 0)).int)) 2000000000000 then
   K (.m l (B2 (s+((V.nth (V.nth l i.toNat) 0)).int)) n (B2 (i+1)))
   else
   kx (.r l s n i)
   else
   kx (.r l s n i)
   else
   kx (.r l s n i)
   else
   kx (.r l s n i)
   else
   kx (.o l s n i)
abbrev D71:=@BSc.eq_1
inductive PSd where
 | m (l:V) (s:Int) (n:Int) (i:Int)
inductive QSd where
 | o (l:V) (s:Int) (n:Int) (i:Int)
 | r (l:V) (s:Int) (n:Int) (i:Int)
def BSd (R:Type) (p:PSd) (K:PSd→Option R) (kx:QSd→Option R):Option R :=
 match p with
 | .m l s n i =>
  bif C3 i n then
   ck i ((l.els).length) <|
   bif F2 0 (((V.nth (V.nth l i.toNat) 0)).int) then
   bif F2 (((V.nth (V.nth l i.toNat) 0)).int) 2000000000000 then
   bif C3 (B2 (2000000000000 - s)) (((V.nth (V.nth l i.toNat) 0)).int) then
   kx (.r l s n i)
   else
   K (.m l (B2 (s+((V.nth (V.nth l i.toNat) 0)).int)) n (B2 (i+1)))
   else
   kx (.r l s n i)
   else
   kx (.r l s n i)
   else
   kx (.o l s n i)
abbrev D72:=@BSd.eq_1
inductive PRg where
 | m (l:V) (s:Int) (n:Int) (i:Int)
inductive QRg where
 | o (l:V) (s:Int) (n:Int) (i:Int)
 | r (l:V) (s:Int) (n:Int) (i:Int)
def BRg (R:Type) (p:PRg) (K:PRg→Option R) (kx:QRg→Option R):Option R :=
 match p with
 | .m l s n i =>
  bif C3 i n then
   ck i ((l.els).length) <|
   bif C3 30 i then
   kx (.r l s n i)
   else
   bif F2 0 (((V.nth (V.nth (V.nth (V.nth l i.toNat) 1) 0) 0)).int) then
   bif F2 (((V.nth (V.nth (V.nth (V.nth l i.toNat) 1) 0) 0)).int) 2000000000000 then
   ln ((((V.nth (V.nth (V.nth (V.nth l i.toNat) 1) 0) 1)).els).length) <|
   bif F2 ((((V.nth (V.nth (V.nth (V.nth l i.toNat) 1) 0) 1)).els).length:Nat) 2000 then
   bif F2 0 (((V.nth (V.nth (V.nth l i.toNat) 1) 1)).int) then
   bif F2 (((V.nth (V.nth (V.nth l i.toNat) 1) 1)).int) 1000000000 then
   ln ((((V.nth (V.nth (V.nth (V.nth l i.toNat) 1) 0) 1)).els).length) <|
   bif C3 300 ((((V.nth (V.nth (V.nth (V.nth l i.toNat) 1) 0) 1)).els).length:Nat) then
   kx (.r l s n i)
   else
   K (.m l (B2 (s+((V.nth (V.nth (V.nth (V.nth l i.toNat) 1) 0) 0)).int)) n (B2 (i+1)))
   else
   kx (.r l s n i)
   else
   kx (.r l s n i)
   else
   kx (.r l s n i)
   else
   kx (.r l s n i)
   else
   kx (.r l s n i)
   else
   kx (.o l s n i)
abbrev D73:=@BRg.eq_1
inductive PGa where
 | m (t:V) (l:V) (n:Int) (i:Int)
inductive QGa where
 | o (t:V) (l:V) (n:Int) (i:Int)
 | r (t:V) (l:V) (n:Int) (i:Int)
def BGa (R:Type) (p:PGa) (K:PGa→Option R) (kx:QGa→Option R):Option R :=
 match p with
 | .m t l n i =>
  bif C3 i n then
   ck i ((l.els).length) <|
   ln ((((V.nth (V.nth l i.toNat) 1)).els).length) <|
   bif C3 300 ((((V.nth (V.nth l i.toNat) 1)).els).length:Nat) then
   kx (.r t l n i)
   else
   K (.m t l n (B2 (i+1)))
   else
   kx (.o t l n i)
abbrev D3n:=@BGa.eq_1
inductive PGb where
 | m (t:V) (l:V) (n:Int) (i:Int)
inductive QGb where
 | o (t:V) (l:V) (n:Int) (i:Int)
 | r (t:V) (l:V) (n:Int) (i:Int)
def BGb (R:Type) (p:PGb) (K:PGb→Option R) (kx:QGb→Option R):Option R :=
 match p with
 | .m t l n i =>
  bif C3 i n then
   ck i ((l.els).length) <|
   ln ((((V.nth (V.nth l i.toNat) 1)).els).length) <|
   bif C3 300 ((((V.nth (V.nth l i.toNat) 1)).els).length:Nat) then
   kx (.r t l n i)
   else
   K (.m t l n (B2 (i+1)))
   else
   kx (.o t l n i)
abbrev D3o:=@BGb.eq_1
abbrev MM:Int:=2000000000000
def A1L:List V→Int→Int×Int
 | [],s=>(s,0)
 | x::r,s=>if 0≤(x.nth 0).int∧(x.nth 0).int≤MM∧s+(x.nth 0).int≤MM then A1L r (s+(x.nth 0).int) else (0,91)
def D47 (k:Int→Int→Option R):QSc→Option R
 | .o l s n i=>k s 0
 | .r l s n i=>k 0 91
def D48 (k:Int→Int→Option R):QSd→Option R
 | .o l s n i=>k s 0
 | .r l s n i=>k 0 91
theorem A1M {a r:List V} {x:V} {l:V} (he:l.els=a++x::r):C3 (a.length:Nat) (l.els.length:Nat)=true:=by rw [he];simp [C3];omega
theorem A1N {a:List V} {l:V} (he:l.els=a):C3 (a.length:Nat) (l.els.length:Nat)=false:=by rw [he];simp [C3]
theorem C84 {l:V} (k:Int→Int→Option R):∀ (r a:List V) (s:Int) (fuel:Nat),l.els=a++r→(∀ x∈r,inR .i64 (x.nth 0).int)→0≤s→s≤MM→a.length+r.length≤100000→r.length < fuel →
  B7 (BSc R) fuel (.m l s (l.els.length:Nat) (a.length:Nat)) (D47 k)=k (A1L r s).1 (A1L r s).2 ∧
  B7 (BSd R) fuel (.m l s (l.els.length:Nat) (a.length:Nat)) (D48 k)=k (A1L r s).1 (A1L r s).2:=by
 intro r
 induction r with
 | nil =>
  intro a s fuel he hg h0 h1 ha hf
  obtain ⟨f,rfl⟩:∃ f,fuel=f+1:=⟨fuel - 1,by omega⟩
  rw [List.append_nil] at he
  have hc:=A1N he
  constructor
  ·show (bif C3 (a.length:Nat) (l.els.length:Nat) then _ else D47 k _)=_
   rw [hc];rfl
  ·show (bif C3 (a.length:Nat) (l.els.length:Nat) then _ else D48 k _)=_
   rw [hc];rfl
 | cons x r ih =>
  intro a s fuel he hg h0 h1 ha hf
  obtain ⟨f,rfl⟩:∃ f,fuel=f+1:=⟨fuel - 1,by simp at hf;omega⟩
  simp only [E0z] at ha hf
  have hc:=A1M he
  have hle:l.els.length=a.length+(r.length+1):=by rw [he];simp
  have hx:=hg x (by simp)
  simp only [inR,lo,hi] at hx
  have hat:l.nth ((a.length:Nat):Int).toNat=x:=L5 he
  have ih:=ih (a++[x]) (s+(x.nth 0).int) f (by rw [he];simp) (fun y hy=>hg y (by simp [hy]))
  simp only [E0t,E0A] at ih
  have e1:A1L (x::r) s=if 0≤(x.nth 0).int∧(x.nth 0).int≤MM∧s+(x.nth 0).int≤MM then A1L r (s+(x.nth 0).int) else (0,91):=rfl
  rw [e1]
  constructor
  ·rw [B7,D71,hc,cond_true,E2 (by omega) (by omega),hat]
   simp only [B7a]
   by_cases c1:0≤(x.nth 0).int
   ·by_cases c2:(x.nth 0).int≤2000000000000
    ·simp only [MM] at h1
     rw [G4 (n:=s+(x.nth 0).int) (by omega) (by omega)]
     by_cases c3:s+(x.nth 0).int≤2000000000000
     ·simp only [c1,c2,c3,show 0≤s+(x.nth 0).int from by omega,decide_true,cond_true,MM,and_self,if_true]
      rw [H7 (by omega)]
      exact (ih (by omega) c3 (by omega) (by omega)).1
     ·simp only [c1,c2,c3,show 0≤s+(x.nth 0).int from by omega,decide_true,cond_true,MM,decide_false,cond_false,and_false,if_false]
      rfl
    ·simp only [c1,c2,decide_true,cond_true,MM,decide_false,cond_false,and_false,false_and,if_false]
     rfl
   ·simp only [c1,MM,decide_false,cond_false,false_and,if_false]
    rfl
  ·rw [B7,D72,hc,cond_true,E2 (by omega) (by omega),hat]
   simp only [B7a,A1o]
   by_cases c1:0≤(x.nth 0).int
   ·by_cases c2:(x.nth 0).int≤2000000000000
    ·simp only [MM] at h1
     rw [G4 (n:=s+(x.nth 0).int) (by omega) (by omega),G4 (n:=2000000000000 - s) (by omega) (by omega)]
     by_cases c3:s+(x.nth 0).int≤2000000000000
     ·simp only [c1,c2,c3,show ¬ 2000000000000 - s < (x.nth 0).int from by omega,decide_true,cond_true,decide_false,cond_false,MM,and_self,if_true]
      rw [H7 (by omega)]
      exact (ih (by omega) c3 (by omega) (by omega)).2
     ·simp only [c1,c2,c3,show 2000000000000 - s < (x.nth 0).int from by omega,decide_true,cond_true,MM,decide_false,cond_false,and_false,if_false]
      rfl
    ·simp only [c1,c2,decide_true,cond_true,MM,decide_false,cond_false,and_false,false_and,if_false]
     rfl
   ·simp only [c1,MM,decide_false,cond_false,false_and,if_false]
    rfl
def smg:List V→Bool
 | [l]=>Nat.ble l.els.length 1000
 | _=>false
def smr (ti te:Nat):List V→List Rs
 | [l]=>[.d ti (.i (A1L l.els 0).1),.d te (.i (A1L l.els 0).2)]
 | _=>[]
def smC (l:V) (k:Int→Int→Option R):Option R:=ln l.els.length <| B7 (BSc R) (A2 FU) (.m l 0 (l.els.length:Nat) 0) (D47 k)
def smD (l:V) (k:Int→Int→Option R):Option R:=ln l.els.length <| B7 (BSd R) (A2 FU) (.m l 0 (l.els.length:Nat) 0) (D48 k)
theorem C1N {x:V} (h:B2b.has x):∃ v k,x=.l [.i v,k]∧inR .i64 v∧(D.slice (.int .u8)).has k:=by
 obtain ⟨ys,rfl,hy⟩:=h
 obtain ⟨a,b,rfl,⟨v,rfl,hv⟩,hb⟩:=A3Q hy
 exact ⟨v,b,rfl,hv,hb⟩
theorem B7b {l:V} (k:Int→Int→Option R) (h:(D.slice B2b).has l) (hg:smg [l]=true):smC l k=k (A1L l.els 0).1 (A1L l.els 0).2∧smD l k=k (A1L l.els 0).1 (A1L l.els 0).2:=by
 have hl:l.els.length≤1000:=E0x hg
 have hq:=V2
 have:=C84 k l.els [] 0 (A2 FU) rfl (fun x hx=>by
  obtain ⟨v,kk,rfl,hv,_⟩:=C1N (X0 h x hx)
  exact hv) (by decide) (by decide) (by simp only [List.length_nil];omega) (by omega)
 unfold smC smD
 rw [D8 (by omega),D8 (by omega)]
 exact this
def A39 (c:V):Bool:=decide (0≤((c.nth 0).nth 0).int∧((c.nth 0).nth 0).int≤MM∧(M7 c).els.length≤300∧0≤(c.nth 1).int∧(c.nth 1).int≤1000000000)
def A2i:List V→Nat→Int→Bool
 | [],_,s=>decide (s≤MM)
 | x::r,i,s=>bif decide (i≤30)&&A39 (x.nth 1) then A2i r (i+1) (s+(((x.nth 1).nth 0).nth 0).int) else false
def rgQ (k:Bool→Option R):QRg→Option R
 | .o l s n i=>bif F2 s 2000000000000 then k true else k false
 | .r l s n i=>k false
theorem A6q {c:V} (h:B78.has c):∃ v kk hh q,c=.l [.l [.i v,kk],.i hh,.b q]∧inR .i64 v∧(D.slice (.int .u8)).has kk∧inR .i64 hh:=by
 obtain ⟨ys,rfl,hy⟩:=h
 obtain ⟨a,b,d,rfl,ha,⟨n,rfl,hn⟩,q,rfl⟩:=B0l hy
 obtain ⟨v,k,rfl,hv,hk⟩:=C1N ha
 exact ⟨v,k,n,q,rfl,hv,hk,hn⟩
theorem D49 {l:V} (k:Bool→Option R):∀ (r a:List V) (s:Int) (fuel:Nat),l.els=a++r→(∀ x∈r,R7.has x)→(∀ x∈r,(M7 (x.nth 1)).els.length≤9223372036854775807)→0≤s→s≤a.length * MM→a.length≤31→l.els.length≤9223372036854775807→40≤fuel+a.length →
  B7 (BRg R) fuel (.m l s (l.els.length:Nat) (a.length:Nat)) (rgQ k)=k (A2i r a.length s):=by
 intro r
 induction r with
 | nil =>
  intro a s fuel he hg hk h0 h1 ha hz hf
  obtain ⟨f,rfl⟩:∃ f,fuel=f+1:=⟨fuel - 1,by omega⟩
  rw [List.append_nil] at he
  have hc:=A1N he
  show (bif C3 (a.length:Nat) (l.els.length:Nat) then _ else rgQ k _)=_
  rw [hc,cond_false]
  show (bif F2 s 2000000000000 then k true else k false)=k (decide (s≤MM))
  rw [B7a]
  by_cases h:s≤MM
  ·simp only [MM] at h ⊢;simp only [h,decide_true,cond_true]
  ·simp only [MM] at h ⊢;simp only [h,decide_false,cond_false]
 | cons x r ih =>
  intro a s fuel he hg hk h0 h1 ha hz hf
  obtain ⟨f,rfl⟩:∃ f,fuel=f+1:=⟨fuel - 1,by omega⟩
  have hc:=A1M he
  have hle:l.els.length=a.length+(r.length+1):=by rw [he];simp
  have hat:l.nth ((a.length:Nat):Int).toNat=x:=L5 he
  have hx:=hg x (by simp)
  have hkx:=hk x (by simp)
  obtain ⟨r0,c,rfl,hr0,hc0⟩:=A6L hx
  obtain ⟨v,kk,hh,q,rfl,hv,hkk,hhh⟩:=A6q hc0
  simp only [inR,lo,hi] at hv hhh
  have hkx:kk.els.length≤9223372036854775807:=hkx
  have ih:=ih (a++[.l [r0,.l [.l [.i v,kk],.i hh,.b q]]]) (s+v) f (by rw [he];simp) (fun y hy=>hg y (by simp [hy])) (fun y hy=>hk y (by simp [hy]))
  simp only [E0t,E0A] at ih
  have e1:A2i (.l [r0,.l [.l [.i v,kk],.i hh,.b q]]::r) a.length s=bif decide (a.length≤30)&&decide (0≤v∧v≤MM∧kk.els.length≤300∧0≤hh∧hh≤1000000000) then A2i r (a.length+1) (s+v) else false:=rfl
  rw [e1,B7,D73,hc,cond_true,E2 (by omega) (by omega),hat]
  have n1:(V.l [r0,.l [.l [.i v,kk],.i hh,.b q]]).nth 1=.l [.l [.i v,kk],.i hh,.b q]:=rfl
  have n2:(V.l [.l [.i v,kk],.i hh,.b q]).nth 0=.l [.i v,kk]:=rfl
  have n3:((V.l [.i v,kk]).nth 0).int=v:=rfl
  have n4:(V.l [.i v,kk]).nth 1=kk:=rfl
  have n5:((V.l [.l [.i v,kk],.i hh,.b q]).nth 1).int=hh:=rfl
  rw [n1,n2,n3,n4,n5]
  simp only [B7a,A1o]
  by_cases d0:a.length≤30
  ·rw [show decide ((30:Int) < (a.length:Nat))=false by simp;omega,cond_false]
   by_cases d1:0≤v
   ·by_cases d2:v≤2000000000000
    ·rw [D8 hkx,D8 hkx]
     by_cases d3:kk.els.length≤300
     ·rw [show decide (((kk.els.length:Nat):Int)≤2000)=true by simp;omega,show decide ((300:Int) < (kk.els.length:Nat))=false by simp;omega]
      by_cases d4:0≤hh
      ·by_cases d5:hh≤1000000000
       ·simp only [d0,d1,d2,d3,d4,d5,decide_true,cond_true,MM,and_self,Bool.and_self,cond_false]
        simp only [MM] at h1 ih
        rw [G4 (by omega) (by omega),H7 (by omega)]
        exact ih (by omega) (by omega) (by omega) hz (by omega)
       ·simp only [d0,d1,d2,d3,d4,d5,decide_true,cond_true,MM,decide_false,cond_false,and_false,Bool.and_false];rfl
      ·simp only [d0,d1,d2,d3,d4,decide_true,cond_true,MM,decide_false,cond_false,and_false,false_and,Bool.and_false];rfl
     ·simp only [d0,d1,d2,d3,decide_true,cond_true,MM,decide_false,cond_false,and_false,false_and,Bool.and_false]
      rw [show decide ((300:Int) < (kk.els.length:Nat))=true by simp;omega]
      cases decide (((kk.els.length:Nat):Int)≤2000)<;>cases decide (0≤hh)<;>cases decide (hh≤1000000000)<;>rfl
    ·simp only [d0,d1,d2,decide_true,cond_true,MM,decide_false,cond_false,and_false,false_and,Bool.and_false];rfl
   ·simp only [d0,d1,decide_true,cond_true,MM,decide_false,cond_false,and_false,false_and,Bool.and_false];rfl
  ·rw [show decide ((30:Int) < (a.length:Nat))=true by simp;omega,cond_true]
   simp only [d0,decide_false,Bool.false_and,cond_false];rfl
def rgC (l:V) (k:Bool→Option R):Option R:=ln l.els.length <| B7 (BRg R) (A2 FU) (.m l 0 (l.els.length:Nat) 0) (rgQ k)
def A1p (x:V):Bool:=decide (300 < (x.nth 1).els.length)
def A3T (t:V):Bool:=decide (12 < (t.nth 1).els.length)||decide (12 < (t.nth 2).els.length)||(t.nth 1).els.any A1p||(t.nth 2).els.any A1p
theorem C1O {t l:V} {ko kr:Option R} {ka:QGa→Option R} {kb:QGb→Option R} (h1:∀ n i,ka (.o t l n i)=ko) (h2:∀ n i,ka (.r t l n i)=kr) (h3:∀ n i,kb (.o t l n i)=ko) (h4:∀ n i,kb (.r t l n i)=kr):∀ (r a:List V) (fuel:Nat),l.els=a++r→(∀ x∈r,(x.nth 1).els.length≤9223372036854775807)→a.length+r.length≤100000→r.length < fuel →
  B7 (BGa R) fuel (.m t l (l.els.length:Nat) (a.length:Nat)) ka=(bif r.any A1p then kr else ko) ∧
  B7 (BGb R) fuel (.m t l (l.els.length:Nat) (a.length:Nat)) kb=(bif r.any A1p then kr else ko):=by
 intro r
 induction r with
 | nil =>
  intro a fuel he hg ha hf
  obtain ⟨f,rfl⟩:∃ f,fuel=f+1:=⟨fuel - 1,by omega⟩
  rw [List.append_nil] at he
  have hc:=A1N he
  constructor
  ·rw [B7,D3n,hc,cond_false];exact h1 _ _
  ·rw [B7,D3o,hc,cond_false];exact h3 _ _
 | cons x r ih =>
  intro a fuel he hg ha hf
  obtain ⟨f,rfl⟩:∃ f,fuel=f+1:=⟨fuel - 1,by simp at hf;omega⟩
  simp only [E0z] at ha hf
  have hc:=A1M he
  have hle:l.els.length=a.length+(r.length+1):=by rw [he];simp
  have hat:l.nth ((a.length:Nat):Int).toNat=x:=L5 he
  have hx:=hg x (by simp)
  have ih:=ih (a++[x]) f (by rw [he];simp) (fun y hy=>hg y (by simp [hy]))
  simp only [E0t,E0A] at ih
  obtain ⟨i1,i2⟩:=ih (by omega) (by omega)
  have e1:(x::r).any A1p=(decide (300 < (x.nth 1).els.length)||r.any A1p):=rfl
  rw [e1]
  have e2:C3 300 ((x.nth 1).els.length:Nat)=decide (300 < (x.nth 1).els.length):=A0R 300 _
  constructor
  ·rw [B7,D3n,hc,cond_true,E2 (by omega) (by omega),hat,D8 hx,e2]
   by_cases c1:300 < (x.nth 1).els.length
   ·simp only [c1,decide_true,cond_true,Bool.true_or];exact h2 _ _
   ·simp only [c1,decide_false,cond_false,Bool.false_or]
    rw [H7 (by omega)];exact i1
  ·rw [B7,D3o,hc,cond_true,E2 (by omega) (by omega),hat,D8 hx,e2]
   by_cases c1:300 < (x.nth 1).els.length
   ·simp only [c1,decide_true,cond_true,Bool.true_or];exact h4 _ _
   ·simp only [c1,decide_false,cond_false,Bool.false_or]
    rw [H7 (by omega)];exact i2
def gtC (v u:Int) (a b:V) (k:Bool→Option R):Option R :=
 ln a.els.length <| bif C3 12 (a.els.length:Nat) then k true else ln b.els.length <| bif C3 12 (b.els.length:Nat) then k true else
 ln a.els.length <| B7 (BGa R) (A2 FU) (.m (.l [.i v,a,b,.i u]) a (a.els.length:Nat) 0) fun q=>match q with
  | .o t l n i=>ln (t.nth 2).els.length <| B7 (BGb R) (A2 FU) (.m t (t.nth 2) ((t.nth 2).els.length:Nat) 0) fun q=>match q with
   | .o t l n i=>k false
   | .r t l n i=>k true
  | .r t l n i=>k true
theorem D5a {v u:Int} {a b:V} (k:Bool→Option R) (ha:∀ x∈a.els,(x.nth 1).els.length≤9223372036854775807) (hb:∀ x∈b.els,(x.nth 1).els.length≤9223372036854775807) (la:a.els.length≤9223372036854775807) (lb:b.els.length≤9223372036854775807) :
  gtC v u a b k=k (A3T (.l [.i v,a,b,.i u])):=by
 have e:A3T (.l [.i v,a,b,.i u])=(decide (12 < a.els.length)||decide (12 < b.els.length)||a.els.any A1p||b.els.any A1p):=rfl
 have hq:=V2
 rw [e]
 unfold gtC
 rw [D8 la,D8 la,D8 lb,show C3 12 (a.els.length:Nat)=decide (12 < a.els.length) from A0R 12 _,show C3 12 (b.els.length:Nat)=decide (12 < b.els.length) from A0R 12 _]
 by_cases c1:12 < a.els.length
 ·simp only [c1,decide_true,cond_true,Bool.true_or]
 by_cases c2:12 < b.els.length
 ·simp only [c1,c2,decide_true,decide_false,cond_true,cond_false,Bool.true_or,Bool.or_true]
 simp only [c1,c2,decide_false,cond_false,Bool.false_or]
 have n2:(V.l [V.i v,a,b,V.i u]).nth 2=b:=rfl
 have B:=(C1O (R:=R) (t:=.l [.i v,a,b,.i u]) (l:=b) (ko:=k false) (kr:=k true) (ka:=fun q=>match q with | .o t l n i=>k false | .r t l n i=>k true) (kb:=fun q=>match q with | .o t l n i=>k false | .r t l n i=>k true) (fun _ _=>rfl) (fun _ _=>rfl) (fun _ _=>rfl) (fun _ _=>rfl) b.els [] (A2 FU) rfl hb (by simp only [List.length_nil];omega) (by omega)).2
 refine (C1O (R:=R) (t:=.l [.i v,a,b,.i u]) (l:=a) (ko:=bif b.els.any A1p then k true else k false) (kr:=k true) (kb:=fun q=>match q with | .o t l n i=>bif b.els.any A1p then k true else k false | .r t l n i=>k true) (fun n i=>?_) (fun _ _=>rfl) (fun _ _=>rfl) (fun _ _=>rfl) a.els [] (A2 FU) rfl ha (by simp only [List.length_nil];omega) (by omega)).1.trans ?_
 ·show ln ((V.l [V.i v,a,b,V.i u]).nth 2).els.length _=_
  rw [n2,D8 lb];exact B
 ·cases a.els.any A1p<;>cases b.els.any A1p<;>rfl
def rgg:List V→Bool
 | [l]=>Nat.ble l.els.length 9223372036854775807&&l.els.all fun x=>Nat.ble (M7 (x.nth 1)).els.length 9223372036854775807
 | _=>false
def rgr (b:Nat):List V→List Rs
 | [l]=>[.d b (.b (A2i l.els 0 0))]
 | _=>[]
theorem C85 {b:Nat} {l:V} (h:(D.slice R7).has l) (hg:rgg [l]=true):rgC l (fun q=>some [Rs.d b (.b q)])=some (rgr b [l]):=by
 have hg:(Nat.ble l.els.length 9223372036854775807&&l.els.all fun x=>Nat.ble (M7 (x.nth 1)).els.length 9223372036854775807)=true:=hg
 simp only [E0s,Nat.ble_eq,List.all_eq_true] at hg
 obtain ⟨g1,g2⟩:=hg
 unfold rgC
 rw [D8 g1]
 exact D49 _ l.els [] 0 (A2 FU) rfl (X0 h) (fun x hx=>g2 x hx) (by decide) (by decide) (by decide) g1 (by have:=V2;simp only [List.length_nil];omega)
def gtg:List V→Bool
 | [t]=>(Nat.ble (t.nth 1).els.length 9223372036854775807&&(t.nth 1).els.all fun x=>Nat.ble (x.nth 1).els.length 9223372036854775807)&&(Nat.ble (t.nth 2).els.length 9223372036854775807&&(t.nth 2).els.all fun x=>Nat.ble (x.nth 1).els.length 9223372036854775807)
 | _=>false
def gtr (b:Nat):List V→List Rs
 | [t]=>[.d b (.b (A3T t))]
 | _=>[]
theorem C86 {d:Nat} {v u:Int} {a b:V} (hg:gtg [.l [.i v,a,b,.i u]]=true):gtC v u a b (fun q=>some [Rs.d d (.b q)])=some (gtr d [.l [.i v,a,b,.i u]]):=by
 have hg:((Nat.ble a.els.length 9223372036854775807&&a.els.all fun x=>Nat.ble (x.nth 1).els.length 9223372036854775807)&&(Nat.ble b.els.length 9223372036854775807&&b.els.all fun x=>Nat.ble (x.nth 1).els.length 9223372036854775807))=true:=hg
 simp only [E0s,Nat.ble_eq,List.all_eq_true] at hg
 obtain ⟨⟨g1,g2⟩,g3,g4⟩:=hg
 exact D5a _ g2 g4 g1 g3
variable {T:TT} {P:Program} {c:P9} {e:B9} {of of':Nat→Option Ob}
def B9o (c:V):Int:=((c.nth 0).nth 0).int
def B4M:List (V×V)→Int
 | []=>0
 | p::r=>B9o p.2+B4M r
def D5b (ct:Nat):Sym:=fun args of nx =>
 match args with
 | [.p ib tb []]=>match of ib with
  | some (.box tb' (.g tg [.m mid]) _)=>match of mid with
   | some (.vm kt et es)=>bif Nat.beq et ct then some ⟨.i .i64 (B2 (B4M es)),[],[ib,mid],nx⟩ else none
   | _=>none
  | _=>none
 | _=>none
theorem B9p:∀ {es es':List (V×V)},es.Perm es'→B4M es=B4M es':=by
 intro es es' h
 induction h with
 | nil=>rfl
 | cons x _ ih=>simp only [B4M,ih]
 | swap x y l=>simp only [B4M];omega
 | trans _ _ i1 i2=>exact i1.trans i2
def A6r (T:TT) (ct:Nat):Bool :=
 match D2 T ct with
 | some (.struct [ot,ht,bt])=>(match D2 T ot with
  | some (.struct [vt,st])=>(match D2 T vt,D2 T st with
   | some (.int .i64),some (.slice _)=>true
   | _,_=>false)
  | _=>false)&&(match D2 T ht,D2 T bt with
   | some (.int .i64),some .bool=>true
   | _,_=>false)
 | _=>false
theorem A2R {t:Nat} {ts:List Nat} {xs:List V} {cs:List Value} (h:RV T e (t::ts) xs cs):∃ x r c1 c2,xs=x::r∧cs=c1++c2∧RV T e [t] [x] c1∧RV T e ts r c2:=by
 obtain ⟨as,bs,c1,c2,rfl,rfl,h1,h2⟩:=RV.split [t] (ts':=ts) h
 obtain ⟨a,rfl⟩:=List.length_eq_one_iff.1 h1.length.2
 exact ⟨a,bs,c1,c2,rfl,rfl,h1,h2⟩
theorem B4N {ct:Nat} (hc:A6r T ct=true) {x:V} {v:Value} (h:H6 T e (.v ct x) v):B55 v∧A3v v=B9o x:=by
 unfold A6r at hc
 split at hc<;>try (cases hc;done)
 rename_i ot ht bt hk
 simp only [E0s] at hc
 obtain ⟨h1,h2⟩:=hc
 split at h1<;>try (cases h1;done)
 rename_i vt st hko
 split at h1<;>try (cases h1;done)
 rename_i el hkv hks
 split at h2<;>try (cases h2;done)
 rename_i hkh hkb
 obtain ⟨hr,hag⟩:=h
 obtain ⟨⟨cs⟩,rfl⟩:=hag.1 ⟨_,hk,rfl⟩
 obtain ⟨ys,rfl,g0⟩:=hr.struct_inv hk
 obtain ⟨a,r1,c1,c2,rfl,e1,ga,g1⟩:=A2R g0
 obtain ⟨b,r2,c3,c4,rfl,rfl,gb,g2⟩:=A2R g1
 obtain ⟨d,r3,c5,c6,rfl,rfl,gd,g3⟩:=A2R g2
 cases g3
 obtain ⟨zs,rfl,g4⟩:=ga.struct_inv hko
 obtain ⟨m,r4,c7,c8,rfl,rfl,gm,g5⟩:=A2R g4
 obtain ⟨k,r5,c9,c10,rfl,rfl,gk,g6⟩:=A2R g5
 cases g6
 obtain ⟨n,rfl,rfl,_⟩:=gm.int_inv hkv
 obtain ⟨hh,rfl,rfl,_⟩:=gb.int_inv hkh
 obtain ⟨q,rfl,rfl⟩:=gd.bool_inv hkb
 have e1:cs=_:=e1
 subst e1
 rcases gk.slice_inv hks with ⟨rfl,rfl⟩ | ⟨ys,ds,ad,cap,rfl,rfl,_⟩
 ·exact ⟨⟨n,_,_,_,hh,q,rfl⟩,rfl⟩
 ·exact ⟨⟨n,_,_,_,hh,q,rfl⟩,rfl⟩
theorem B9q {kt ct:Nat} (hc:A6r T ct=true):∀ {es:List (V×V)} {ms:List MapEntry},MR T e kt ct (vms ct es) ms→(∀ x∈ms,B55 x.val)∧(ms.map fun m=>A3v m.val).sum=B4M es:=by
 intro es
 induction es with
 | nil=>intro ms h;cases h;exact ⟨fun x hx=>(by cases hx),rfl⟩
 | cons p r ih =>
  intro ms h
  cases h with
  | cons h1 h2 h3 h4 =>
   obtain ⟨i1,i2⟩:=ih h4
   obtain ⟨k1,k2⟩:=B4N hc h2
   refine ⟨fun x hx=>?_,?_⟩
   ·rcases List.mem_cons.1 hx with rfl | hx
    ·exact k1
    ·exact i1 x hx
   ·rw [List.map_cons,List.sum_cons,i2,k2];rfl
theorem C1P {et:Nat} {es:List (V×V)}:∀ {es':List (V×A)},es'.Perm (vms et es)→∃ es0,es'=vms et es0∧es0.Perm es:=by
 intro es' h
 have hv:∀ l:List (V×V),vms et l=l.map (fun p=>(p.1,A.v et p.2)):=fun l=>by induction l with | nil=>rfl | cons p r ih=>simp [vms,ih]
 let un:V×A→V×V:=fun p=>(p.1,match p.2 with | .v _ y=>y | _=>.n)
 have hun:∀ l:List (V×V),(vms et l).map un=l:=fun l=>by
  rw [hv,List.map_map]
  conv=>rhs;rw [← List.map_id l]
  exact List.map_congr_left (fun p _=>rfl)
 refine ⟨es'.map un,?_,by have:=h.map un;rwa [hun] at this⟩
 rw [hv,List.map_map]
 conv=>lhs;rw [← List.map_id es']
 refine List.map_congr_left (fun p hp=>?_)
 have hp':=h.mem_iff.1 hp
 rw [hv] at hp'
 obtain ⟨q,_,rfl⟩:=List.mem_map.1 hp'
 rfl
theorem C87 {f ct:Nat} (hS:C6I P f) (hc:A6r T ct=true) (hen:∀ args w,(callFunc f args).run P w=.ok (.enter f args) w):J0 P T f (D5b ct):=by
 intro c e of of' as vals nx out hos hs hro hu hvals
 unfold D5b at hs
 split at hs<;>try (cases hs;done)
 rename_i ib tb
 split at hs<;>try (cases hs;done)
 rename_i tb' tg mid sh hob
 split at hs<;>try (cases hs;done)
 rename_i kt et es hom
 cases hb:Nat.beq et ct with
 | false=>rw [hb] at hs;cases hs
 | true =>
 rw [hb,cond_true] at hs
 injection hs with hs;subst hs
 have:=E0r hb;subst this
 have hob':of' ib=some (.box tb' (.g tg [.m mid]) sh):=(hro ib (by simp)).trans hob
 have hom':of' mid=some (.vm kt et es):=(hro mid (by simp)).trans hom
 obtain ⟨x1,x2,x3,x4,Bm,cs,ty,fz,x5,x6,x7,x8,x9,x10⟩:=hos.ok _ _ hob'
 obtain ⟨y1,y2,b,ms,clock,y3,y4,⟨y5,y5'⟩,es',y6,y7⟩:=hos.ok _ _ hom'
 obtain ⟨v,hvs⟩:∃ v,vals=#[v]:=by
  obtain ⟨vals⟩:=vals
  cases hvals with | cons h1 h2=>cases h2;exact ⟨_,rfl⟩
 subst hvs
 have hv:C6 T e (.p ib tb []) v:=by cases hvals with | cons h1 _=>exact h1
 obtain ⟨Bm',off,p1,p2,p3,p4,rfl⟩:=Q6 (T:=T) (e:=e) (id:=ib) (t:=tb) (path:=[]) hv
 rw [x5] at p3
 cases p3
 cases p4
 obtain ⟨v3,hcs,hm3⟩:∃ v3,cs.toList=[v3]∧RA T e [.m mid] [v3]:=by
  generalize cs.toList=l at x9
  cases x9 with
  | g g1 g2 g3 g4 g5 =>
   cases g5
   obtain ⟨v3,rfl⟩:=g4.single rfl
   exact ⟨v3,by simp,g4⟩
  | r g1 _ _=>exact g1.elim
 obtain ⟨b',_,_,z3,rfl⟩:=P8 hm3
 rw [y3] at z3;cases z3
 have hcell:e.w.cell? ⟨Bm,0,none⟩=some (.map (some b)):=by
  have:cs[0]? = some (.map (some b)):=by rw [← Array.getElem?_toList,hcs];rfl
  simp [World.cell?,x6,this]
 obtain ⟨es0,rfl,hp⟩:=C1P y6
 obtain ⟨k1,k2⟩:=B9q hc y7
 have hcall:=hS Bm b ms clock e.w (Array.getElem?_eq_some_iff.1 x6).1 hcell y4 y5' k1
 refine .inr (.inr (.inl ⟨f,_,e.w,hen _ _,hcall.mono fun en w' ⟨h1,h2⟩=>⟨_,h1,?_⟩⟩))
 obtain ⟨q1,q2⟩:=hos.below h2
 refine ⟨{ e with w:=w' },rfl,q1,q2,fun id A2=>.inl A2,?_⟩
 rw [k2,B9p hp]
 exact P6 (N8 _ _)
variable {R:Type}
inductive PCi where
 | m (t:V) (l:V) (n:Int) (i:Int) (a:Int) (j:Int)
inductive QCi where
 | o (t:V) (l:V) (n:Int) (i:Int) (a:Int) (j:Int)
 | r (t:V) (l:V) (n:Int) (i:Int) (a:Int) (j:Int)
def BCi (R:Type) (p:PCi) (K:PCi→Option R) (kx:QCi→Option R):Option R :=
 match p with
 | .m t l n i a j =>
  bif C3 j a then
   ck a ((((V.nth t 1)).els).length) <|
   ck j ((((V.nth t 1)).els).length) <|
   bif N4 (V.nth (V.nth (V.nth t 1) a.toNat) 0) (V.nth (V.nth (V.nth t 1) j.toNat) 0) then
   kx (.r t l n i a j)
   else
   K (.m t l n i a (B2 (j+1)))
   else
   kx (.o t l n i a j)
abbrev D3p:=@BCi.eq_1
inductive PCt where
 | m (t:V) (l:V) (n:Int) (i:Int)
inductive QCt where
 | o (t:V) (l:V) (n:Int) (i:Int)
 | r (t:V) (l:V) (n:Int) (i:Int)
def BCt (R:Type) (p:PCt) (K:PCt→Option R) (kx:QCt→Option R):Option R :=
 match p with
 | .m t l n i =>
  bif C3 i n then
   ck i ((l.els).length) <|
   bif Nat.ble ((((V.nth t 1)).els).length) 1000 then
   bif X6 t then
   ln ((((V.nth (V.nth l i.toNat) 1)).els).length) <|
   bif C3 ((((V.nth (V.nth l i.toNat) 1)).els).length:Nat) 2 then
   kx (.r t l n i)
   else
   ln ((((V.nth (V.nth l i.toNat) 1)).els).length) <|
   bif C3 100 ((((V.nth (V.nth l i.toNat) 1)).els).length:Nat) then
   kx (.r t l n i)
   else
   bif Nat.ble ((((V.nth t 1)).els).length) 1000 then
   bif X6 t then
   K (.m t l n (B2 (i+1)))
   else
   bif N4 (V.nth (V.nth l i.toNat) 0) (V.put (.l [(.l (List.replicate 32 (.i 0))),(.i 0)]) 1 (.i 4294967295)) then
   kx (.r t l n i)
   else
   K (.m t l n (B2 (i+1)))
   else
   none
   else
   bif Nat.ble ((((V.nth t 1)).els).length) 1000 then
   bif X6 t then
   K (.m t l n (B2 (i+1)))
   else
   bif N4 (V.nth (V.nth l i.toNat) 0) (V.put (.l [(.l (List.replicate 32 (.i 0))),(.i 0)]) 1 (.i 4294967295)) then
   kx (.r t l n i)
   else
   K (.m t l n (B2 (i+1)))
   else
   none
   else
   none
   else
   kx (.o t l n i)
abbrev D3q:=@BCt.eq_1
inductive PNw where
 | m (l:V) (es:List (V×V)) (n:Int) (i:Int)
inductive QNw where
 | o (l:V) (es:List (V×V)) (n:Int) (i:Int)
def BNw (R:Type) (p:PNw) (K:PNw→Option R) (kx:QNw→Option R):Option R :=
 match p with
 | .m l es n i =>
  bif C3 i n then
   ck i ((l.els).length) <|
   X4 ((((M7 (V.nth (V.nth l i.toNat) 1))).els).length) <|
   K (.m l (A0D (V.nth (V.nth l i.toNat) 0) (V.nth (V.nth l i.toNat) 1) es) n (B2 (i+1)))
   else
   kx (.o l es n i)
abbrev D3r:=@BNw.eq_1
inductive PFe where
 | m (es:List (V×V)) (t:V) (l:V) (h:Int) (s:Int) (n:Int) (i:Int)
inductive QFe where
 | o (es:List (V×V)) (t:V) (l:V) (h:Int) (s:Int) (n:Int) (i:Int)
 | c (es:List (V×V)) (t:V) (l:V) (h:Int) (s:Int) (n:Int) (i:Int)
 | y (es:List (V×V)) (t:V) (l:V) (h:Int) (s:Int) (n:Int) (i:Int)
 | z (es:List (V×V)) (t:V) (l:V) (h:Int) (s:Int) (n:Int) (i:Int)
def BFe (R:Type) (p:PFe) (K:PFe→Option R) (kx:QFe→Option R):Option R :=
 match p with
 | .m es t l h s n i =>
  bif C3 i n then
   ck i ((l.els).length) <|
   bif P0 (V.nth (V.nth l i.toNat) 0) es then
   bif ((V.nth (L9 (V.nth (V.nth l i.toNat) 0) es) 2)).bl then
   bif C3 (B2 (h - ((V.nth (L9 (V.nth (V.nth l i.toNat) 0) es) 1)).int)) 2 then
   kx (.y es t l h s n i)
   else
   bif F2 0 (B2 (s+((V.nth (V.nth (L9 (V.nth (V.nth l i.toNat) 0) es) 0) 0)).int)) then
   bif F2 (B2 (s+((V.nth (V.nth (L9 (V.nth (V.nth l i.toNat) 0) es) 0) 0)).int)) 2000000000000 then
   K (.m es t l h (B2 (s+((V.nth (V.nth (L9 (V.nth (V.nth l i.toNat) 0) es) 0) 0)).int)) n (B2 (i+1)))
   else
   kx (.z es t l h s n i)
   else
   kx (.z es t l h s n i)
   else
   bif F2 0 (B2 (s+((V.nth (V.nth (L9 (V.nth (V.nth l i.toNat) 0) es) 0) 0)).int)) then
   bif F2 (B2 (s+((V.nth (V.nth (L9 (V.nth (V.nth l i.toNat) 0) es) 0) 0)).int)) 2000000000000 then
   K (.m es t l h (B2 (s+((V.nth (V.nth (L9 (V.nth (V.nth l i.toNat) 0) es) 0) 0)).int)) n (B2 (i+1)))
   else
   kx (.z es t l h s n i)
   else
   kx (.z es t l h s n i)
   else
   kx (.c es t l h s n i)
   else
   kx (.o es t l h s n i)
inductive PAi where
 | m (es:List (V×V)) (t:V) (l:V) (h:Int) (b:Bool) (xs:List V) (nl:Bool) (n:Int) (i:Int)
inductive QAi where
 | o (es:List (V×V)) (t:V) (l:V) (h:Int) (b:Bool) (xs:List V) (nl:Bool) (n:Int) (i:Int)
def BAi (R:Type) (p:PAi) (K:PAi→Option R) (kx:QAi→Option R):Option R :=
 match p with
 | .m es t l h b xs nl n i =>
  bif C3 i n then
   ck i ((l.els).length) <|
   bif P0 (V.nth (V.nth l i.toNat) 0) es then
   bif b then
   K (.m es t l h b xs nl n (B2 (i+1)))
   else
   X4 ((((M7 (L9 (V.nth (V.nth l i.toNat) 0) es))).els).length) <|
   X4 (xs.length+([(V.put (V.put (.l [(.l [(.l (List.replicate 32 (.i 0))),(.i 0)]),(.l [(.l [(.i 0),.n]),(.i 0),(.b false)])]) 0 (V.nth (V.nth l i.toNat) 0)) 1 (L9 (V.nth (V.nth l i.toNat) 0) es))]).length) <|
   K (.m (Y1 (V.nth (V.nth l i.toNat) 0) es) t l h b (xs++[(V.put (V.put (.l [(.l [(.l (List.replicate 32 (.i 0))),(.i 0)]),(.l [(.l [(.i 0),.n]),(.i 0),(.b false)])]) 0 (V.nth (V.nth l i.toNat) 0)) 1 (L9 (V.nth (V.nth l i.toNat) 0) es))]) (nl&&false) n (B2 (i+1)))
   else
   K (.m es t l h b xs nl n (B2 (i+1)))
   else
   kx (.o es t l h b xs nl n i)
abbrev D3s:=@BAi.eq_1
inductive PAo where
 | m (es:List (V×V)) (h:Int) (b:Bool) (xs:List V) (nl:Bool) (d:V) (l:V) (n:Int) (i:Int)
inductive QAo where
 | o (es:List (V×V)) (h:Int) (b:Bool) (xs:List V) (nl:Bool) (d:V) (l:V) (n:Int) (i:Int)
def BAo (R:Type) (p:PAo) (K:PAo→Option R) (kx:QAo→Option R):Option R :=
 match p with
 | .m es h b xs nl d l n i =>
  bif C3 i n then
   ck i ((l.els).length) <|
   bif b then
   X4 ((((M7 (.l (List.set [(V.nth l i.toNat),(.i h),(.b false)] 2 (.b true))))).els).length) <|
   K (.m (A0D (V.put (V.put (.l [(.l (List.replicate 32 (.i 0))),(.i 0)]) 0 d) 1 (.i (IntKind.wrap .u32 i))) (.l (List.set [(V.nth l i.toNat),(.i h),(.b false)] 2 (.b true))) es) h b xs nl d l n (B2 (i+1)))
   else
   X4 ((((M7 (.l (List.set [(V.nth l i.toNat),(.i h),(.b false)] 2 (.b false))))).els).length) <|
   K (.m (A0D (V.put (V.put (.l [(.l (List.replicate 32 (.i 0))),(.i 0)]) 0 d) 1 (.i (IntKind.wrap .u32 i))) (.l (List.set [(V.nth l i.toNat),(.i h),(.b false)] 2 (.b false))) es) h b xs nl d l n (B2 (i+1)))
   else
   kx (.o es h b xs nl d l n i)
abbrev D3t:=@BAo.eq_1
theorem D5c {t l:V} {n i:Int} {pre r:List V} {x:V} (ht:(t.nth 1).els=pre++x::r) {ko kr:Option R} {kx:QCi→Option R} (h1:kx (.o t l n i (pre.length:Nat) (pre.length:Nat))=ko) (h2:∀ j,kx (.r t l n i (pre.length:Nat) j)=kr) (hl:pre.length≤100000) :
  ∀ (m k:List V) (fuel:Nat),pre=k++m→m.length < fuel→B7 (BCi R) fuel (.m t l n i (pre.length:Nat) (k.length:Nat)) kx=bif m.any (fun y=>N4 (x.nth 0) (y.nth 0)) then kr else ko:=by
 intro m
 induction m with
 | nil =>
  intro k fuel he hf
  obtain ⟨f,rfl⟩:∃ f,fuel=f+1:=⟨fuel - 1,by omega⟩
  rw [List.append_nil] at he
  subst he
  rw [B7,D3p,show C3 (pre.length:Nat) (pre.length:Nat)=false by simp [C3],cond_false]
  exact h1
 | cons y m ih =>
  intro k fuel he hf
  obtain ⟨f,rfl⟩:∃ f,fuel=f+1:=⟨fuel - 1,by simp at hf;omega⟩
  have hlen:pre.length=k.length+(m.length+1):=by rw [he];simp
  have hll:(t.nth 1).els.length=pre.length+(r.length+1):=by rw [ht];simp
  have a1:(t.nth 1).nth ((pre.length:Nat):Int).toNat=x:=L5 ht
  have a2:(t.nth 1).nth ((k.length:Nat):Int).toNat=y:=L5 (a:=k) (r:=m++x::r) (by rw [ht,he];simp)
  rw [B7,D3p,show C3 (k.length:Nat) (pre.length:Nat)=true by rw [A0R];simp;omega,cond_true,E2 (by omega) (by omega),E2 (by omega) (by omega),a1,a2]
  simp only [List.any_cons]
  cases N4 (x.nth 0) (y.nth 0) with
  | true=>simp only [cond_true,Bool.true_or];exact h2 _
  | false =>
   simp only [cond_false,Bool.false_or]
   rw [H7 (by omega)]
   have:=ih (k++[y]) f (by rw [he];simp) (by simp only [E0z] at hf;omega)
   rwa [show (k++[y]).length=k.length+1 by simp] at this
def B4O:List V→List V→Bool
 | _,[]=>false
 | pre,x::r=>pre.any (fun y=>N4 (x.nth 0) (y.nth 0))||B4O (pre++[x]) r
def B9r (t x:V):Bool:=bif X6 t then (C3 ((x.nth 1).els.length:Nat) 2||C3 100 ((x.nth 1).els.length:Nat)) else N4 (x.nth 0) A6X
theorem C1Q:V.put (.l [(.l (List.replicate 32 (.i 0))),(.i 0)]) 1 (.i 4294967295)=A6X:=rfl
theorem C88 {t l:V} (ht:(t.nth 1).els.length≤1000) {ko kr:Option R} {kx:QCt→Option R} (h1:∀ n i,kx (.o t l n i)=ko) (h2:∀ n i,kx (.r t l n i)=kr) :
  ∀ (r a:List V) (fuel:Nat),l.els=a++r→(∀ x∈r,(x.nth 1).els.length≤100000)→a.length+r.length≤100000→r.length < fuel →
  B7 (BCt R) fuel (.m t l (l.els.length:Nat) (a.length:Nat)) kx=bif r.any (B9r t) then kr else ko:=by
 have hb:=E0B ht
 intro r
 induction r with
 | nil =>
  intro a fuel he hg ha hf
  obtain ⟨f,rfl⟩:∃ f,fuel=f+1:=⟨fuel - 1,by omega⟩
  rw [List.append_nil] at he
  rw [B7,D3q,A1N he,cond_false];exact h1 _ _
 | cons x r ih =>
  intro a fuel he hg ha hf
  obtain ⟨f,rfl⟩:∃ f,fuel=f+1:=⟨fuel - 1,by simp at hf;omega⟩
  simp only [E0z] at ha hf
  have hle:l.els.length=a.length+(r.length+1):=by rw [he];simp
  have hat:l.nth ((a.length:Nat):Int).toNat=x:=L5 he
  have hx:=hg x (by simp)
  have ih:=ih (a++[x]) f (by rw [he];simp) (fun y hy=>hg y (by simp [hy]))
  simp only [E0t,E0A] at ih
  rw [B7,D3q,A1M he,cond_true,E2 (by omega) (by omega),hb,hat,D8 (by omega),D8 (by omega),C1Q,H7 (by omega),ih (by omega) (by omega)]
  simp only [List.any_cons,B9r,cond_true]
  cases X6 t with
  | true =>
   simp only [cond_true]
   cases C3 ((x.nth 1).els.length:Nat) 2 with
   | true=>simp only [cond_true,Bool.true_or];exact h2 _ _
   | false =>
    cases C3 100 ((x.nth 1).els.length:Nat) with
    | true=>simp only [cond_true,cond_false,Bool.true_or,Bool.false_or];exact h2 _ _
    | false=>simp only [cond_false,Bool.false_or]
  | false =>
   simp only [cond_false]
   cases N4 (x.nth 0) A6X with
   | true=>simp only [cond_true,Bool.true_or];exact h2 _ _
   | false=>simp only [cond_false,Bool.false_or]
def A2N:List V→List (V×V)→List (V×V)
 | [],es=>es
 | x::r,es=>A2N r (A0D (x.nth 0) (x.nth 1) es)
theorem D5d {l:V} (kx:QNw→Option R):∀ (r a:List V) (es:List (V×V)) (fuel:Nat),l.els=a++r→(∀ x∈r,(M7 (x.nth 1)).els.length≤1000000)→a.length+r.length≤100000→r.length < fuel →
  B7 (BNw R) fuel (.m l es (l.els.length:Nat) (a.length:Nat)) kx=kx (.o l (A2N r es) (l.els.length:Nat) (l.els.length:Nat)):=by
 intro r
 induction r with
 | nil =>
  intro a es fuel he hg ha hf
  obtain ⟨f,rfl⟩:∃ f,fuel=f+1:=⟨fuel - 1,by omega⟩
  rw [List.append_nil] at he
  rw [B7,D3r,A1N he,cond_false,he];rfl
 | cons x r ih =>
  intro a es fuel he hg ha hf
  obtain ⟨f,rfl⟩:∃ f,fuel=f+1:=⟨fuel - 1,by simp at hf;omega⟩
  simp only [E0z] at ha hf
  have hle:l.els.length=a.length+(r.length+1):=by rw [he];simp
  have hat:l.nth ((a.length:Nat):Int).toNat=x:=L5 he
  have hx:=hg x (by simp)
  have ih:=ih (a++[x]) (A0D (x.nth 0) (x.nth 1) es) f (by rw [he];simp) (fun y hy=>hg y (by simp [hy]))
  simp only [E0t,E0A] at ih
  rw [B7,D3r,A1M he,cond_true,E2 (by omega) (by omega),hat,D4 (by omega),H7 (by omega),ih (by omega) (by omega)];rfl
def hiC (c:V):Int:=(c.nth 1).int
def okM (es:List (V×V)):Prop:=∀ p∈es,0≤B9o p.2∧B9o p.2≤MM∧0≤hiC p.2∧hiC p.2≤1000000000∧(M7 p.2).els.length≤300
theorem A4a {k:V}:∀ {es:List (V×V)},P0 k es=true→(k,L9 k es)∈es:=by
 intro es
 induction es with
 | nil=>intro h;cases h
 | cons p r ih =>
  intro h
  simp only [P0,Bool.or_eq_true] at h
  simp only [L9]
  cases hp:N4 p.1 k with
  | true =>
   have:=(G5 _ _).1 hp
   subst this
   simp
  | false =>
   rw [hp] at h
   simp only [cond_false]
   exact List.mem_cons_of_mem _ (ih (h.resolve_left (by simp)))
def Y6 (b:Bool):List V→List (V×V)→List V→List (V×V)×List V
 | [],es,xs=>(es,xs)
 | x::r,es,xs=>bif P0 (x.nth 0) es&&!b then Y6 b r (Y1 (x.nth 0) es) (xs++[.l [x.nth 0,L9 (x.nth 0) es]]) else Y6 b r es xs
theorem C89 {k:V} {es:List (V×V)} (h:okM es):okM (Y1 k es):=by
 induction es with
 | nil=>exact h
 | cons p r ih =>
  simp only [Y1]
  have ihr:=ih (fun q hq=>h q (by simp [hq]))
  cases N4 p.1 k
  ·simp only [cond_false]
   intro q hq
   rcases List.mem_cons.1 hq with rfl | hq
   ·exact h _ (by simp)
   ·exact ihr q hq
  ·exact ihr
theorem D5e (a b:V):V.put (V.put (.l [(.l [(.l (List.replicate 32 (.i 0))),(.i 0)]),(.l [(.l [(.i 0),.n]),(.i 0),(.b false)])]) 0 a) 1 b=.l [a,b]:=rfl
def A3U (h:Int) (b:Bool) (o:V):V:=.l [o,.i h,.b b]
def L0 (d:V) (i:Int):V:=.l [d,.i (IntKind.wrap .u32 i)]
def A2O (d:V) (h:Int) (b:Bool):List V→Nat→List (V×V)→List (V×V)
 | [],_,es=>es
 | o::r,i,es=>A2O d h b r (i+1) (A0D (L0 d i) (A3U h b o) es)
theorem D5f {d l:V} {h:Int} {b:Bool} {xs:List V} {nl:Bool} (kx:QAo→Option R):∀ (r a:List V) (es:List (V×V)) (fuel:Nat),l.els=a++r→(∀ o∈r,(o.nth 1).els.length≤1000000)→a.length+r.length≤100000→r.length < fuel →
  B7 (BAo R) fuel (.m es h b xs nl d l (l.els.length:Nat) (a.length:Nat)) kx=kx (.o (A2O d h b r a.length es) h b xs nl d l (l.els.length:Nat) (l.els.length:Nat)):=by
 intro r
 induction r with
 | nil =>
  intro a es fuel he hg ha hf
  obtain ⟨f,rfl⟩:∃ f,fuel=f+1:=⟨fuel - 1,by omega⟩
  rw [List.append_nil] at he
  rw [B7,D3t,A1N he,cond_false,he];rfl
 | cons o r ih =>
  intro a es fuel he hg ha hf
  obtain ⟨f,rfl⟩:∃ f,fuel=f+1:=⟨fuel - 1,by simp at hf;omega⟩
  simp only [E0z] at ha hf
  have hle:l.els.length=a.length+(r.length+1):=by rw [he];simp
  have hat:l.nth ((a.length:Nat):Int).toNat=o:=L5 he
  have hx:(o.nth 1).els.length≤1000000:=hg o (by simp)
  have ih:=ih (a++[o]) (A0D (L0 d (a.length:Nat)) (A3U h b o) es) f (by rw [he];simp) (fun y hy=>hg y (by simp [hy]))
  simp only [E0t,E0A] at ih
  have l1:∀ q:Bool,(M7 (.l (List.set [o,.i h,.b false] 2 (.b q)))).els.length≤1000000:=fun q=>hx
  rw [B7,D3t,A1M he,cond_true,E2 (by omega) (by omega),hat,D4 (Nat.le_trans (l1 _) (by decide)),D4 (Nat.le_trans (l1 _) (by decide)),H7 (by omega)]
  cases b
  ·exact ih (by omega) (by omega)
  ·exact ih (by omega) (by omega)
variable {R:Type}
inductive PCo where
 | m (t:V) (l:V) (n:Int) (i:Int)
inductive QCo where
 | o (t:V) (l:V) (n:Int) (i:Int)
 | r (t:V) (l:V) (n:Int) (i:Int)
def BCo (R:Type) (p:PCo) (K:PCo→Option R) (kx:QCo→Option R):Option R :=
 match p with
 | .m t l n i =>
  bif C3 i n then
   (B7 (BCi R) (A2 FU) (.m t l n i i 0) fun q=>match q with
   | .o t1 l1 n1 i1 a1 j1 =>
   K (.m t1 l1 n1 (B2 (i1+1)))
   | .r t1 l1 n1 i1 a1 j1 =>
   kx (.r t1 l1 n1 i1))
   else
   kx (.o t l n i)
abbrev D3u:=@BCo.eq_1
theorem D5g {t l:V} (htl:t.nth 1=l) {ko kr:Option R} {kx:QCo→Option R} (h1:∀ n i,kx (.o t l n i)=ko) (h2:∀ n i,kx (.r t l n i)=kr) :
  ∀ (r a:List V) (fuel:Nat),l.els=a++r→a.length+r.length≤100000→r.length < fuel →
  B7 (BCo R) fuel (.m t l (l.els.length:Nat) (a.length:Nat)) kx=bif B4O a r then kr else ko:=by
 intro r
 induction r with
 | nil =>
  intro a fuel he ha hf
  obtain ⟨f,rfl⟩:∃ f,fuel=f+1:=⟨fuel - 1,by omega⟩
  rw [List.append_nil] at he
  rw [B7,D3u,A1N he,cond_false];exact h1 _ _
 | cons x r ih =>
  intro a fuel he ha hf
  obtain ⟨f,rfl⟩:∃ f,fuel=f+1:=⟨fuel - 1,by simp at hf;omega⟩
  simp only [E0z] at ha hf
  have hq:=V2
  have ih:=ih (a++[x]) f (by rw [he];simp)
  simp only [E0t,E0A] at ih
  rw [B7,D3u,A1M he,cond_true]
  refine (D5c (t:=t) (l:=l) (i:=(a.length:Nat)) (pre:=a) (r:=r) (x:=x) (by rw [htl,he]) (ko:=bif B4O (a++[x]) r then kr else ko) (kr:=kr) ?_ (fun j=>h2 _ _) (by omega) a [] (A2 FU) rfl (by omega)).trans ?_
  ·simp only
   rw [H7 (by omega)];exact ih (by omega) (by omega)
  ·simp only [B4O]
   cases a.any (fun y=>N4 (x.nth 0) (y.nth 0))<;>rfl
def D5h (t:V):Int :=
 bif C3 ((t.nth 1).els.length:Nat) 1 then 101 else bif C3 ((t.nth 2).els.length:Nat) 1 then 101 else
 bif C3 5000 ((txL t).length:Nat) then 101 else bif !(Y5 (A1L (t.nth 2).els 0).2 0) then (A1L (t.nth 2).els 0).2 else
 bif B4O [] (t.nth 1).els then 101 else bif (t.nth 1).els.any (B9r t) then 101 else 0
def ckG (v u:Int) (x y:V) (k:Int→Option R):Option R :=
 ln x.els.length <| bif C3 (x.els.length:Nat) 1 then k 101 else ln y.els.length <| bif C3 (y.els.length:Nat) 1 then k 101 else
 bif txg [.l [.i v,x,y,.i u]] then ln (txL (.l [.i v,x,y,.i u])).length <| bif C3 5000 ((txL (.l [.i v,x,y,.i u])).length:Nat) then k 101 else
 bif smg [y] then bif !(Y5 (A1L y.els 0).2 0) then k (A1L y.els 0).2 else
 ln x.els.length <| B7 (BCo R) (A2 FU) (.m (.l [.i v,x,y,.i u]) x (x.els.length:Nat) 0) fun q=>match q with
  | .o t1 l1 n1 i1=>ln (t1.nth 1).els.length <| B7 (BCt R) (A2 FU) (.m t1 (t1.nth 1) ((t1.nth 1).els.length:Nat) 0) fun q=>match q with
   | .o t2 l2 n2 i2=>k 0
   | .r t2 l2 n2 i2=>k 101
  | .r t1 l1 n1 i1=>k 101
 else none else none
theorem C9a {v u:Int} {x y:V} (k:Int→Option R) (hx:(D.slice DIn).has x) (hy:(D.slice B2b).has y) (hv:inR .u32 v) (hu:inR .u32 u) (hg:txg [.l [.i v,x,y,.i u]]=true):ckG v u x y k=k (D5h (.l [.i v,x,y,.i u])):=by
 obtain ⟨⟨g1,g2⟩,g3,g4⟩:=A8p hx hy hg
 have hq:=V2
 have hT:(txL (.l [.i v,x,y,.i u])).length≤250000000:=by
  refine B8r ⟨_,rfl,⟨_,rfl,hv⟩,hx,hy,⟨_,rfl,hu⟩,trivial⟩ hg
 have e:D5h (.l [.i v,x,y,.i u])=(bif C3 (x.els.length:Nat) 1 then 101 else bif C3 (y.els.length:Nat) 1 then 101 else
  bif C3 5000 ((txL (.l [.i v,x,y,.i u])).length:Nat) then 101 else bif !(Y5 (A1L y.els 0).2 0) then (A1L y.els 0).2 else
  bif B4O [] x.els then 101 else bif x.els.any (B9r (.l [.i v,x,y,.i u])) then 101 else 0):=rfl
 rw [e]
 unfold ckG
 rw [D8 (by omega),D8 (by omega),D8 (by omega),hg,D8 (by omega),show smg [y]=true from E0B g3,cond_true,cond_true]
 cases C3 (x.els.length:Nat) 1 with
 | true=>rfl
 | false =>
 cases C3 (y.els.length:Nat) 1 with
 | true=>rfl
 | false =>
 cases C3 5000 ((txL (.l [.i v,x,y,.i u])).length:Nat) with
 | true=>rfl
 | false =>
 cases (!(Y5 (A1L y.els 0).2 0)) with
 | true=>rfl
 | false =>
 simp only [cond_false]
 have n1:(V.l [V.i v,x,y,V.i u]).nth 1=x:=rfl
 refine (D5g (t:=.l [.i v,x,y,.i u]) (l:=x) rfl (ko:=bif x.els.any (B9r (.l [.i v,x,y,.i u])) then k 101 else k 0) (kr:=k 101) (fun n i=>?_) (fun n i=>rfl) x.els [] (A2 FU) rfl (by simp only [List.length_nil];omega) (by omega)).trans ?_
 ·simp only
  rw [n1,D8 (by omega)]
  exact C88 (t:=.l [.i v,x,y,.i u]) (l:=x) g1 (fun n i=>rfl) (fun n i=>rfl) x.els [] (A2 FU) rfl (fun z hz=>(g2 z hz).1) (by simp only [List.length_nil];omega) (by omega)
 ·cases B4O [] x.els<;>cases x.els.any (B9r (.l [.i v,x,y,.i u]))<;>rfl
def chr (it:Nat):List V→List Rs
 | [t]=>[.d it (.i (D5h t))]
 | _=>[]
variable {R:Type}
def kN (es:List (V×V)):Prop:=(es.map (·.1)).Nodup
theorem A4b {k:V}:∀ {es:List (V×V)},P0 k es=true↔k∈es.map (·.1):=by
 intro es
 induction es with
 | nil=>simp [P0]
 | cons p r ih =>
  simp only [P0,Bool.or_eq_true,G5,ih,List.map_cons,List.mem_cons]
  exact ⟨fun h=>h.imp Eq.symm id,fun h=>h.imp Eq.symm id⟩
theorem C1R {k:V}:∀ {es:List (V×V)},P0 k es=false→Y1 k es=es:=by
 intro es
 induction es with
 | nil=>intro _;rfl
 | cons p r ih =>
  intro h
  simp only [P0,Bool.or_eq_false_iff] at h
  simp only [Y1,h.1,cond_false,ih h.2]
theorem A1O {k:V}:∀ {es:List (V×V)},(Y1 k es).Sublist es:=by
 intro es
 induction es with
 | nil=>exact .slnil
 | cons p r ih =>
  simp only [Y1]
  cases N4 p.1 k
  ·exact ih.cons_cons p
  ·exact ih.cons p
theorem B4P {k:V} {es:List (V×V)} (h:kN es):kN (Y1 k es):=h.sublist ((A1O).map _)
theorem C9b {k:V}:∀ {es:List (V×V)},P0 k (Y1 k es)=false:=by
 intro es
 induction es with
 | nil=>rfl
 | cons p r ih =>
  simp only [Y1]
  cases hp:N4 p.1 k with
  | true=>exact ih
  | false=>simp only [cond_false,P0,hp,ih,Bool.or_self]
theorem C1S {k x:V} {es:List (V×V)} (h:kN es):kN (A0D k x es):=by
 refine List.nodup_cons.2 ⟨fun hm=>?_,B4P h⟩
 have:=A4b.2 hm
 rw [C9b] at this;cases this
theorem B9s {k j:V} (hj:j≠k):∀ {es:List (V×V)},P0 j (Y1 k es)=P0 j es∧L9 j (Y1 k es)=L9 j es:=by
 intro es
 induction es with
 | nil=>exact ⟨rfl,rfl⟩
 | cons p r ih =>
  simp only [Y1]
  cases hp:N4 p.1 k with
  | true =>
   have:=(G5 _ _).1 hp
   subst this
   have hn:N4 p.1 j=false:=by rw [← Bool.not_eq_true,G5];exact fun q=>hj q.symm
   simp only [cond_true,P0,L9,hn,Bool.false_or,cond_false]
   exact ih
  | false=>simp only [cond_false,P0,L9,ih.1,ih.2,and_self]
theorem B9t:∀ (r:List V) (es:List (V×V)),kN es→kN (A2N r es)∧(A2N r es).length≤es.length+r.length∧∀ p∈A2N r es,p∈es∨∃ x∈r,p=(x.nth 0,x.nth 1):=by
 intro r
 induction r with
 | nil=>intro es h;exact ⟨h,Nat.le_refl _,fun p hp=>.inl hp⟩
 | cons x r ih =>
  intro es h
  obtain ⟨i1,i2,i3⟩:=ih (A0D (x.nth 0) (x.nth 1) es) (C1S h)
  have hl:=(A1O (k:=x.nth 0) (es:=es)).length_le
  refine ⟨i1,?_,fun p hp=>?_⟩
  ·have:(A0D (x.nth 0) (x.nth 1) es).length=(Y1 (x.nth 0) es).length+1:=rfl
   simp only [E0z]
   show (A2N r (A0D (x.nth 0) (x.nth 1) es)).length≤_
   omega
  ·rcases i3 p hp with h1 | ⟨y,hy,rfl⟩
   ·rcases List.mem_cons.1 h1 with rfl | h1
    ·exact .inr ⟨x,by simp,rfl⟩
    ·exact .inl (A1O.mem h1)
   ·exact .inr ⟨y,by simp [hy],rfl⟩
theorem B2R:∀ (r:List V) (i:Nat) (s:Int),A2i r i s=true→(∀ x∈r,A39 (x.nth 1)=true)∧(i≤31→i+r.length≤31):=by
 intro r
 induction r with
 | nil=>intro i s _;exact ⟨fun x hx=>(by cases hx),fun h=>h⟩
 | cons x r ih =>
  intro i s h
  simp only [A2i] at h
  cases hc:decide (i≤30)&&A39 (x.nth 1) with
  | false=>rw [hc] at h;cases h
  | true =>
   rw [hc] at h
   simp only [E0s,E0D] at hc
   obtain ⟨i1,i2⟩:=ih _ _ h
   refine ⟨fun y hy=>?_,fun _=>?_⟩
   ·rcases List.mem_cons.1 hy with rfl | hy
    ·exact hc.2
    ·exact i1 y hy
   ·have:=i2 (by omega)
    simp only [E0z];omega
theorem A4c {c:V} (h:A39 c=true):0≤B9o c∧B9o c≤MM∧0≤hiC c∧hiC c≤1000000000∧(M7 c).els.length≤300:=by
 unfold A39 at h
 rw [E0D] at h
 exact ⟨h.1,h.2.1,h.2.2.2.1,h.2.2.2.2,h.2.2.1⟩
theorem D74 {l t h:V} (hl:(D.slice R7).has l) (ht:DTx.has t) (hm:D.smL [.slice R7,DTx,.int .i64] [l,t,h]):rgg [l]=true∧gtg [t]=true:=by
 obtain ⟨m1,m2,_⟩:=hm
 constructor
 ·show (Nat.ble l.els.length 9223372036854775807&&l.els.all fun x=>Nat.ble (M7 (x.nth 1)).els.length 9223372036854775807)=true
  simp only [E0s,Nat.ble_eq,List.all_eq_true]
  refine ⟨m1.1,fun x hx=>?_⟩
  have hs:=m1.2 x hx
  obtain ⟨r0,c,rfl,_,hc⟩:=A6L (X0 hl x hx)
  obtain ⟨v,kk,hh,q,rfl,_⟩:=A6q hc
  exact hs.2.1.1.2.1.1
 ·obtain ⟨v,a,b,u,rfl,_,ha,hb,_⟩:=A9t ht
  show ((Nat.ble a.els.length 9223372036854775807&&a.els.all fun x=>Nat.ble (x.nth 1).els.length 9223372036854775807)&&(Nat.ble b.els.length 9223372036854775807&&b.els.all fun x=>Nat.ble (x.nth 1).els.length 9223372036854775807))=true
  simp only [E0s,Nat.ble_eq,List.all_eq_true]
  refine ⟨⟨m2.2.1.1,fun x hx=>?_⟩,m2.2.2.1.1,fun x hx=>?_⟩
  ·have hs:=m2.2.1.2 x hx
   obtain ⟨r,bb,n,rfl,_⟩:=D8Z (X0 ha x hx)
   exact hs.2.1.1
  ·have hs:=m2.2.2.1.2 x hx
   obtain ⟨w,kk,rfl,_⟩:=C1N (X0 hb x hx)
   exact hs.2.1.1
variable {R:Type}
variable {R:Type}
variable {R:Type}
variable {T:TT} {P:Program}
variable {R:Type}
variable {R:Type}
variable {R:Type}
variable {R:Type}
variable {R:Type}
variable {P:Program} {T:TT} {c:P9} {e:B9} {of:Nat→Option Ob}
variable {a kt st el:Nat} {es es':List (V×V×Bool)} {bs:List Nat}
variable {P:Program} {T:TT} {c:P9} {e:B9} {of:Nat→Option Ob}
open Classical in
variable {P:Program} {T:TT} {c:P9} {e:B9} {of:Nat→Option Ob}
variable {P:Program} {T:TT} {c:P9} {e:B9} {of:Nat→Option Ob}
variable {P:Program} {T:TT} {c:P9} {e:B9} {of:Nat→Option Ob}
theorem B4Q {α β:Type} [DecidableEq β] (f:α→β) (p p':α→Bool):∀ (L:List α) (a:α),(L.map f).Nodup→a∈L→p a=false→(∀ y∈L,p' y=(p y||decide (f y=f a)))→(L.filter p').Perm (a::L.filter p):=by
 intro L
 induction L with
 | nil=>intro a _ h;cases h
 | cons y r ih =>
  intro a hn ha hp hp'
  simp only [List.map_cons,List.nodup_cons] at hn
  rcases List.mem_cons.1 ha with rfl | ha
  ·have h1:p' a=true:=by rw [hp' a (by simp)];simp
   have h2:r.filter p'=r.filter p:=by
    refine List.filter_congr (fun z hz=>?_)
    rw [hp' z (by simp [hz])]
    have:¬ f z=f a:=fun q=>hn.1 (by rw [← q];exact List.mem_map_of_mem hz)
    simp [this]
   rw [List.filter_cons_of_pos h1,List.filter_cons_of_neg (by simp [hp]),h2]
  ·have hne:¬ f y=f a:=fun q=>hn.1 (by rw [q];exact List.mem_map_of_mem ha)
   have h1:p' y=p y:=by rw [hp' y (by simp)];simp [hne]
   have ih:=ih a hn.2 ha hp (fun z hz=>hp' z (by simp [hz]))
   cases hpy:p y with
   | true =>
    rw [List.filter_cons_of_pos (by rw [h1,hpy]),List.filter_cons_of_pos hpy]
    exact (ih.cons y).trans (List.Perm.swap _ _ _)
   | false =>
    rw [List.filter_cons_of_neg (by rw [h1,hpy];simp),List.filter_cons_of_neg (by rw [hpy];simp)]
    exact ih
open Go.RowKit Go.Sort
variable {R:Type}
open Go.RowKit Go.Sort
variable {R:Type}
open Go.RowKit Go.Sort
variable {R:Type}
theorem E6 (a b:Int):F2 a b=decide (a≤b):=by simp [F2]
theorem G0 (a b:Int):C3 a b=decide (a < b):=by simp [C3]
theorem G1 {x:Int} {n:Nat} (h:x=(n:Int)) (hn:n < 1000000000):B2 x=(n:Int):=by rw [G4 (by omega) (by omega),h]
open Go.RowKit Go.Sort
variable {R:Type}
theorem C9c {T:TT} {c:P9} {e:B9} {of:Nat→Option Ob} {nx n m:Nat} {v:A} {wo:List (Nat×Ob)} {ro ro':List Nat} {x:Value} {w:World} (h:n≤m)
  (hl:V8 T c e of nx ⟨v,wo,ro,n⟩ x w):V8 T c e of nx ⟨v,wo,ro',m⟩ x w:=by
 obtain ⟨e',h1,h2,h3,h4,h5⟩:=hl
 refine ⟨e',h1,h2,h3,fun id A2=>?_,h5⟩
 rcases h4 id A2 with h | ⟨h6,h7⟩
 ·exact .inl h
 ·exact .inr ⟨h6,Nat.lt_of_lt_of_le h7 h⟩
def M8 {X:Type} (rec:List A→(Nat→Option Ob)→Nat→Option X) (g:X→Bool) (F:X→J2):D3:=fun R args of nx k =>
 match rec args of nx with
 | some x=>bif g x then k (F x) else none
 | none=>none
theorem D6 {X:Type} {rec:List A→(Nat→Option Ob)→Nat→Option X} {g:X→Bool} {F:X→J2}:(M8 rec g F).nat:=by
 intro R args of nx k
 unfold D3.dir M8
 cases rec args of nx with
 | none=>rfl
 | some x=>simp only;cases g x<;>rfl
theorem A6s {P:Program} {T:TT} {X:Type} {f:Nat} {rec:List A→(Nat→Option Ob)→Nat→Option X} {g:X→Bool} {F:X→J2} {s:Sym} (hs:J0 P T f s)
  (h:∀ args of nx x,rec args of nx=some x→g x=true→∃ n ro of0,n≤(F x).nx∧s args of0 nx=some ⟨(F x).val,(F x).wo,ro,n⟩∧∀ id∈ro,of id=of0 id):R4 P T f (M8 rec g F).dir:=by
 intro c e of args vals nx out hos hr hu hv
 unfold D3.dir M8 at hr
 cases hx:rec args of nx with
 | none=>rw [hx] at hr;cases hr
 | some x =>
 rw [hx] at hr
 simp only at hr
 cases hg:g x with
 | false=>rw [hg] at hr;cases hr
 | true =>
 rw [hg] at hr
 simp only [cond_true,E0u] at hr
 subst hr
 obtain ⟨n,ro,of0,h1,h2,h3⟩:=h args of nx x hx hg
 have:=hs c e of0 of args vals nx _ hos h2 h3 (fun id h3 h4=>hu id h3 (Nat.lt_of_lt_of_le h4 h1)) hv
 exact F8 this (fun x w hl=>C9c h1 hl)
open Go.RowKit Go.Sort
variable {R:Type}
def A1P {α β:Type} (f:α→β):α→β:=Classical.choose (⟨f,rfl⟩:∃ g,g=f)
theorem E9 {α β:Type} (f:α→β):A1P f=f:=Classical.choose_spec (⟨f,rfl⟩:∃ g,g=f)
theorem A4d {o:Ob} {of:Nat→Option Ob} (h:of 0=some o) {ro:List Nat} (hr:∀ id∈ro,id=0):∀ id∈ro,of id=ofL [o] id:=fun id A2=>by
 rw [hr id A2,h];rfl
variable {P:Program} {T:TT}
open Go.RowKit Go.Sort
variable {R:Type}
theorem S3 {n:Nat} (h:n < 100000000):n < A2 FU:=by rw [A29];exact Nat.lt_of_lt_of_le h (by decide)
open Go.RowKit Go.Sort
variable {P:Program} {T:TT}
def C9d (b:Code):Nat:=1000 * (M6 b).length+A5J b
def D5i (l:List (Nat×LS)):LC:=fun b=>B37 l (C9d b)
theorem C1T {l:List (Nat×LS)} (h:∀ p∈l,LS.nat p.2):A2d (D5i l):=fun b s hs=>by
 obtain ⟨k,hk⟩:=B0M hs
 exact h _ hk
def B0U (n0:Nat) (l:List (Nat×LS)):Nat→LC:=fun n=>bif Nat.beq n n0 then D5i l else fun _=>none
theorem A0f {f:Nat} (n0:Nat) {l:List (Nat×LS)} (hn:∀ p∈l,LS.nat p.2) (n:Nat) (hl:Nat.beq (M6 (G7 P f)).length n=true) (h:C7i P T (D5i l) (C7j P f) n0 (G7 P f) n):F4 P T f (B0U n0 l):=by
 refine ⟨fun m=>?_,fun m fn code h1 h2=>?_⟩
 ·unfold B0U
  cases Nat.beq m n0
  ·exact A6
  ·exact C1T hn
 ·unfold B0U
  cases hm:Nat.beq m n0 with
  | false=>exact A1 code
  | true =>
   have:=E0r hm;subst this
   simp only [cond_true]
   have:=R8 n hl h
   simpa only [G7,C7j,h1,h2] using this
open Go.RowKit Go.Sort
variable {R:Type}
open Go.RowKit Go.Sort
variable {R:Type}
def xr1 (r:Int):Int:=H8 .xor .u64 r (WU (r * 8192))
def xr2 (r:Int):Int:=H8 .xor .u64 r (Int.fdiv r 128)
def xr3 (r:Int):Int:=H8 .xor .u64 r (WU (r * 131072))
def xrN (r:Int):Int:=xr3 (xr2 (xr1 r))
def xrO (r m:Int):Int:=B2 (H8 .and .u64 r (WU (m - 1)))
theorem D5j {r:Nat} (h:r < 18446744073709551616):xrN (r:Int)=((xorNextN r:Nat):Int)∧xorNextN r < 18446744073709551616:=by
 have p:(18446744073709551616:Nat)=2 ^ 64:=by decide
 refine ⟨?_,xorNextN_lt r h⟩
 have h1:xr1 (r:Int)=((r ^^^ (r * 8192 % 18446744073709551616):Nat):Int):=by
  rw [xr1,show ((r:Int) * 8192)=((r * 8192:Nat):Int) by omega,D7t,A2C h (Nat.mod_lt _ (by decide))]
 have l1:r ^^^ (r * 8192 % 18446744073709551616) < 18446744073709551616:=by
  rw [p];exact Nat.xor_lt_two_pow (by omega) (by omega)
 unfold xorNextN
 simp only []
 rw [xrN,h1]
 generalize r ^^^ (r * 8192 % 18446744073709551616)=a at l1
 have h2:xr2 (a:Int)=((a ^^^ (a / 128):Nat):Int):=by
  rw [xr2,show Int.fdiv (a:Int) 128=((a / 128:Nat):Int) from by rw [Int.fdiv_eq_ediv_of_nonneg _ (by omega)];omega,A2C l1 (by omega)]
 have l2:a ^^^ (a / 128) < 18446744073709551616:=by
  rw [p];exact Nat.xor_lt_two_pow (by omega) (by omega)
 rw [h2]
 generalize a ^^^ (a / 128)=b at l2
 rw [xr3,show ((b:Int) * 131072)=((b * 131072:Nat):Int) by omega,D7t,A2C l2 (Nat.mod_lt _ (by decide))]
theorem C9e {r m:Nat} (hr:r < 18446744073709551616) (h1:1≤m) (hm:m < 100000000):xrO (r:Int) (m:Int)=((r &&& (m - 1):Nat):Int)∧r &&& (m - 1)≤m - 1:=by
 refine ⟨?_,Nat.and_le_right⟩
 have:=@Nat.and_le_right r (m - 1)
 rw [xrO,show ((m:Int) - 1)=((m - 1:Nat):Int) by omega,C9 (by omega),A8I hr (by omega)]
 exact G1 rfl (by omega)
open Go.RowKit Go.Sort
variable {R:Type} {P:Program} {T:TT}
def bxI (it:Nat):A→Option Int
 | .i .i64 n=>some n
 | .v t (.i n)=>bif Nat.beq t it then some n else none
 | _=>none
theorem C1U {X:Type} {f:Nat} {rec:List A→(Nat→Option Ob)→Nat→Option X} {g:X→Bool} {F:X→J2} {s:Sym} (hs:J0 P T f s)
  (h:∀ args of nx x,rec args of nx=some x→g x=true→∃ n ro of0 of1,n≤(F x).nx∧s args of0 nx=some ⟨(F x).val,(F x).wo,ro,n⟩∧(∀ id∈ro,of1 id=of0 id)∧(∀ c e,A7 T c e of→A7 T c e of1)∧put of1 (F x).wo=put of (F x).wo):R4 P T f (M8 rec g F).dir:=by
 intro c e of args vals nx out hos hr hu hv
 unfold D3.dir M8 at hr
 cases hx:rec args of nx with
 | none=>rw [hx] at hr;cases hr
 | some x =>
 rw [hx] at hr
 simp only at hr
 cases hg:g x with
 | false=>rw [hg] at hr;cases hr
 | true =>
 rw [hg] at hr
 simp only [cond_true,E0u] at hr
 subst hr
 obtain ⟨n,ro,of0,of1,h1,h2,h3,h4,h5⟩:=h args of nx x hx hg
 have:=hs c e of0 of1 args vals nx _ (h4 c e hos) h2 h3 (fun id h3 h4=>hu id h3 (Nat.lt_of_lt_of_le h4 h1)) hv
 refine F8 this (fun x w hl=>?_)
 obtain ⟨e',g1,g2,g3,g4,g5⟩:=hl
 refine ⟨e',g1,?_,g3,fun id A2=>?_,g5⟩
 ·rw [← h5];exact g2
 ·rcases g4 id A2 with g6 | ⟨g6,g7⟩
  ·exact .inl g6
  ·exact .inr ⟨g6,Nat.lt_of_lt_of_le g7 h1⟩
theorem A7.ibox {c:P9} {e:B9} {of:Nat→Option Ob} (h:A7 T c e of) {id it:Nat} {k:IntKind} {n:Int} {sh:Bool} (ho:of id=some (.box it (.v it (.i n)) sh)) (hk:D2 T it=some (.int k)) (hz:C1 T it=1) :
  A7 T c e (G3 of id (some (.box it (.i k n) sh))):=by
 have hs:∀ j,(G3 of id (some (.box it (.i k n) sh)) j).isSome→(of j).isSome:=fun j hj=>by
  by_cases hji:j=id
  ·subst hji;rw [ho];rfl
  ·rw [A4 _ _ hji] at hj;exact hj
 refine ⟨fun j o hj=>?_,fun j j' b o b' o' h1 h2=>h.sep j j' b o b' o' (hs j h1) (hs j' h2),fun j b o h1=>h.own j b o (hs j h1),h.lt,h.slt,h.s0,h.snew,h.os,h.tape,h.output,h.size,h.block,
  ⟨fun a b hg j b' o hj=>h.g.sep a b hg j b' o (hs j hj),h.g.uniq,h.g.own,h.g.lt⟩⟩
 by_cases hji:j=id
 ·subst hji
  rw [upd_same] at hj;cases hj
  obtain ⟨h1,h2,h3,h4,b,cs,ty,fz,h5,h6,h7,h8,h9,h10⟩:=h.ok _ _ ho
  refine ⟨h1,h2,h3,?_,b,cs,ty,fz,h5,h6,h7,h8,?_,h10⟩
  ·simp only [E1,hk,hz];cases k<;>rfl
  ·generalize cs.toList=l at h9 ⊢
   cases h9 with
   | v hv hr =>
    obtain ⟨m,e1,e2,e3⟩:=hv.int_inv hk
    cases e1;subst e2
    exact .i e3 hr
   | r h1 _ _=>cases h1
 ·rw [A4 _ _ hji] at hj
  exact h.ok j o hj
open Go.RowKit Go.Sort
variable {R:Type}
open Go.RowKit Go.Sort
variable {R:Type} {P:Program} {T:TT}
theorem B9u {X:Type} {f:Nat} {rec:List A→(Nat→Option Ob)→Nat→Option X} {g:X→Bool} {F:X→J2} (h:∀ x,g x=false):R4 P T f (M8 rec g F).dir:=by
 intro c e of args vals nx out hos hr hu hv
 unfold D3.dir M8 at hr
 cases hx:rec args of nx with
 | none=>rw [hx] at hr;cases hr
 | some x=>rw [hx] at hr;simp only [h x] at hr;cases hr
open Go.RowKit Go.Sort
variable {R:Type}
open Go.RowKit Go.Sort
variable {R:Type}
noncomputable section
open Go.RowKit Go.Sort
variable {R:Type}
instance:Inhabited V:=⟨.n⟩
def cmR (x y:V):Int:=A1P (fun p:V×V=>J6 (U3 p.1) (U3 p.2)) (x,y)
theorem A0C (x y:V):cmR x y=J6 (U3 x) (U3 y):=by rw [cmR,E9]
theorem A6Y:∀ a:List V,J6 a a=0
 | []=>rfl
 | a::x=>by
  have h:C3 a.int a.int=false:=by rw [G0,decide_eq_false (by omega)]
  rw [J6,h];exact A6Y x
theorem A1q:∀ a b c:List V,(J6 a b < 0→J6 b c≤0→J6 a c < 0)∧(J6 a b≤0→J6 b c < 0→J6 a c < 0)∧(J6 a b≤0→J6 b c≤0→J6 a c≤0)∧(0≤J6 a b→0≤J6 b c→0≤J6 a c)
 | [],[],[]=>by simp [J6]
 | [],[],_::_=>by simp [J6]
 | [],_::_,[]=>by simp [J6]
 | [],_::_,_::_=>by simp [J6]
 | _::_,[],[]=>by simp [J6]
 | _::_,[],_::_=>by simp [J6]
 | _::_,_::_,[]=>by simp [J6]
 | a::x,b::y,c::z=>by
  have ih:=A1q x y z
  simp only [J6,G0]
  rcases Int.lt_trichotomy a.int b.int with h1 | h1 | h1
  ·rcases Int.lt_trichotomy b.int c.int with h2 | h2 | h2
   ·have h3:a.int < c.int:=by omega
    simp [h1,h2,h3]
   ·have h3:a.int < c.int:=by omega
    simp [h1,h3]
   ·have h4:¬ b.int < c.int:=by omega
    simp [h1,h2,h4]
  ·rcases Int.lt_trichotomy b.int c.int with h2 | h2 | h2
   ·have h3:a.int < c.int:=by omega
    simp [h2,h3]
   ·have h3:¬ a.int < c.int:=by omega
    have h4:¬ c.int < a.int:=by omega
    have h5:¬ a.int < b.int:=by omega
    have h6:¬ b.int < a.int:=by omega
    have h7:¬ b.int < c.int:=by omega
    have h8:¬ c.int < b.int:=by omega
    simp only [h3,h4,h5,h6,h7,h8,decide_false,cond_false]
    exact ih
   ·have h3:c.int < a.int:=by omega
    have h4:¬ a.int < c.int:=by omega
    have h5:¬ b.int < c.int:=by omega
    simp [h2,h3,h4,h5]
  ·have h5:¬ a.int < b.int:=by omega
   rcases Int.lt_trichotomy b.int c.int with h2 | h2 | h2
   ·simp [h1,h5,h2]
   ·have h3:c.int < a.int:=by omega
    have h4:¬ a.int < c.int:=by omega
    simp [h1,h5,h3,h4]
   ·have h3:c.int < a.int:=by omega
    have h4:¬ a.int < c.int:=by omega
    simp [h1,h5,h3,h4]
theorem A2j:∀ a b:List V,J6 a b = - J6 b a
 | [],[]=>rfl
 | [],_::_=>rfl
 | _::_,[]=>rfl
 | a::x,b::y=>by
  have ih:=A2j x y
  simp only [J6,G0]
  rcases Int.lt_trichotomy a.int b.int with h | h | h
  ·have h2:¬ b.int < a.int:=by omega
   simp [h,h2]
  ·have h1:¬ a.int < b.int:=by omega
   have h2:¬ b.int < a.int:=by omega
   simp [h1,h2,ih]
  ·have h1:¬ a.int < b.int:=by omega
   simp [h,h1]
def B3 (x y:V):Bool:=decide (cmR x y < 0)
theorem A0K:SWO B3 where
 irrefl x:=by simp [B3,A0C,A6Y]
 trans x y z h1 h2:=by
  simp only [B3,A0C,E0D] at *
  exact (A1q _ _ _).1 h1 (by omega)
 ntrans x y z h1 h2:=by
  simp only [B3,A0C,decide_eq_false_iff_not,Int.not_lt] at *
  exact (A1q _ _ _).2.2.2 h1 h2
def C0 (d:Array V):List V:=d.toList
def A1Q (xs:List V):Array V:=xs.toArray
def A3E (xs:List V) (i j:Int) (t e:Option R):Option R :=
 ck i xs.length <| ck j xs.length <| bif C3 (cmR (List.getD xs i.toNat .n) (List.getD xs j.toNat .n)) 0 then t else e
def A02 (xs:List V) (i j:Int) (k:List V→Option R):Option R :=
 ck j xs.length <| ck i xs.length <| ck i xs.length <| ck j (List.set xs i.toNat (List.getD xs j.toNat .n)).length <|
 k (List.set (List.set xs i.toNat (List.getD xs j.toNat .n)) j.toNat (List.getD xs i.toNat .n))
theorem Q8 (d:Array V):(C0 d).length=d.size:=by simp [C0]
theorem A4e {d:Array V} {i:Nat} (h:i < d.size):List.getD (C0 d) i .n=d[i]! := by
 simp [C0,List.getD,h]
theorem B2S {d:Array V} {i:Nat} {x:V}:List.set (C0 d) i x=C0 (d.setIfInBounds i x):=by
 simp [C0]
theorem C2 (d:Array V) (i j:Nat):(swp d i j).size=d.size:=by simp [swp]
theorem J3 {d:Array V} {i j:Int} {a b:Nat} {t e:Option R} (hi:i=(a:Int)) (hj:j=(b:Int)) (ha:a < d.size) (hb:b < d.size) :
  A3E (C0 d) i j t e=bif B3 d[a]! d[b]! then t else e:=by
 subst hi hj
 unfold A3E
 rw [E2 (by omega) (by rw [Q8];omega),E2 (by omega) (by rw [Q8];omega)]
 simp only [Int.toNat_natCast]
 rw [A4e ha,A4e hb]
 have:C3 (cmR d[a]! d[b]!) 0=B3 d[a]! d[b]! := by simp [C3,B3]
 rw [this]
theorem N7 {d:Array V} {i j:Int} {a b:Nat} {k:List V→Option R} (hi:i=(a:Int)) (hj:j=(b:Int)) (ha:a < d.size) (hb:b < d.size) :
  A02 (C0 d) i j k=k (C0 (swp d a b)):=by
 subst hi hj
 unfold A02
 rw [E2 (by omega) (by rw [Q8];omega),E2 (by omega) (by rw [Q8];omega),E2 (by omega) (by rw [Q8];omega),E2 (by omega) (by simp [Q8];omega)]
 simp only [Int.toNat_natCast]
 rw [A4e ha,A4e hb,B2S,B2S]
 rfl
end
noncomputable section
open Go.RowKit Go.Sort
variable {R:Type}
inductive B7c where | m (xs:List V) (a b i j:Int)
inductive D3v where | o (xs:List V) (a b i j:Int)
def A5O (R:Type) (p:B7c) (K:B7c→Option R) (kx:D3v→Option R):Option R:=match p with
 | .m xs a b i j=>bif C3 a j then A3E xs j (B2 (j - 1)) (A02 xs j (B2 (j - 1)) fun ys=>K (.m ys a b i (B2 (j - 1)))) (kx (.o xs a b i j)) else kx (.o xs a b i j)
def B9v (xs:List V) (f r c:Int) (K:List V→Option R) (kx:Option R):Option R:=A3E xs (B2 (f+r)) (B2 (f+c)) (A02 xs (B2 (f+r)) (B2 (f+c)) K) kx
inductive B7d where | m (xs:List V) (r h f:Int)
inductive B2T where | o (xs:List V) (r h f:Int) | r (xs:List V) (r h f:Int)
def A2S (R:Type) (p:B7d) (K:B7d→Option R) (kx:B2T→Option R):Option R:=match p with
 | .m xs r h f=>bif F2 h (B2 (B2 (2 * r)+1)) then kx (.o xs r h f) else
  bif C3 (B2 (B2 (B2 (2 * r)+1)+1)) h then A3E xs (B2 (f+B2 (B2 (2 * r)+1))) (B2 (B2 (f+B2 (B2 (2 * r)+1))+1))
   (B9v xs f r (B2 (B2 (B2 (2 * r)+1)+1)) (fun ys=>K (.m ys (B2 (B2 (B2 (2 * r)+1)+1)) h f)) (kx (.r xs r h f)))
   (B9v xs f r (B2 (B2 (2 * r)+1)) (fun ys=>K (.m ys (B2 (B2 (2 * r)+1)) h f)) (kx (.r xs r h f)))
  else B9v xs f r (B2 (B2 (2 * r)+1)) (fun ys=>K (.m ys (B2 (B2 (2 * r)+1)) h f)) (kx (.r xs r h f))
inductive B7e where | m (xs:List V) (i j:Int)
inductive D3w where | o (xs:List V) (i j:Int)
def A5P (R:Type) (p:B7e) (K:B7e→Option R) (kx:D3w→Option R):Option R:=match p with
 | .m xs i j=>bif C3 i j then A02 xs i j fun ys=>K (.m ys (B2 (i+1)) (B2 (j - 1))) else kx (.o xs i j)
inductive B7f where | m (xs:List V) (a b i s:Int)
inductive D3x where | o (xs:List V) (a b i s:Int)
def A9F (R:Type) (p:B7f) (K:B7f→Option R) (kx:D3x→Option R):Option R:=match p with
 | .m xs a b i s=>bif C3 i b then A3E xs i (B2 (i - 1)) (kx (.o xs a b i s)) (K (.m xs a b (B2 (i+1)) s)) else kx (.o xs a b i s)
inductive B7g where | m (xs:List V) (a b i s j:Int)
inductive D3y where | o (xs:List V) (a b i s j:Int)
def A5Q (R:Type) (p:B7g) (K:B7g→Option R) (kx:D3y→Option R):Option R:=match p with
 | .m xs a b i s j=>bif F2 1 j then A3E xs j (B2 (j - 1)) (A02 xs j (B2 (j - 1)) fun ys=>K (.m ys a b i s (B2 (j - 1)))) (kx (.o xs a b i s j)) else kx (.o xs a b i s j)
inductive B7h where | m (xs:List V) (a b i s j:Int)
inductive D3z where | o (xs:List V) (a b i s j:Int)
def A5R (R:Type) (p:B7h) (K:B7h→Option R) (kx:D3z→Option R):Option R:=match p with
 | .m xs a b i s j=>bif C3 j b then A3E xs j (B2 (j - 1)) (A02 xs j (B2 (j - 1)) fun ys=>K (.m ys a b i s (B2 (j+1)))) (kx (.o xs a b i s j)) else kx (.o xs a b i s j)
inductive B7i where | m (xs:List V) (a i j:Int)
inductive D3A where | o (xs:List V) (a i j:Int)
def A9G (R:Type) (p:B7i) (K:B7i→Option R) (kx:D3A→Option R):Option R:=match p with
 | .m xs a i j=>bif F2 i j then A3E xs a i (kx (.o xs a i j)) (K (.m xs a (B2 (i+1)) j)) else kx (.o xs a i j)
inductive B7j where | m (xs:List V) (a i j:Int)
inductive D3B where | o (xs:List V) (a i j:Int)
def A9H (R:Type) (p:B7j) (K:B7j→Option R) (kx:D3B→Option R):Option R:=match p with
 | .m xs a i j=>bif F2 i j then A3E xs a j (K (.m xs a i (B2 (j - 1)))) (kx (.o xs a i j)) else kx (.o xs a i j)
inductive B7k where | m (xs:List V) (a i j:Int)
inductive D3C where | o (xs:List V) (a i j:Int)
def A9I (R:Type) (p:B7k) (K:B7k→Option R) (kx:D3C→Option R):Option R:=match p with
 | .m xs a i j=>bif F2 i j then A3E xs i a (K (.m xs a (B2 (i+1)) j)) (kx (.o xs a i j)) else kx (.o xs a i j)
inductive B7l where | m (xs:List V) (a i j:Int)
inductive D3D where | o (xs:List V) (a i j:Int)
def A9J (R:Type) (p:B7l) (K:B7l→Option R) (kx:D3D→Option R):Option R:=match p with
 | .m xs a i j=>bif F2 i j then A3E xs i a (K (.m xs a (B2 (i+1)) j)) (kx (.o xs a i j)) else kx (.o xs a i j)
inductive B7m where | m (xs:List V) (a i j:Int)
inductive D3E where | o (xs:List V) (a i j:Int)
def A9K (R:Type) (p:B7m) (K:B7m→Option R) (kx:D3E→Option R):Option R:=match p with
 | .m xs a i j=>bif F2 i j then A3E xs j a (kx (.o xs a i j)) (K (.m xs a i (B2 (j - 1)))) else kx (.o xs a i j)
inductive B7n where | m (xs:List V) (a i j:Int)
inductive D3F where | o (xs:List V) (a i j:Int)
def A9L (R:Type) (p:B7n) (K:B7n→Option R) (kx:D3F→Option R):Option R:=match p with
 | .m xs a i j=>bif F2 i j then A3E xs j a (kx (.o xs a i j)) (K (.m xs a i (B2 (j - 1)))) else kx (.o xs a i j)
end
noncomputable section
open Go.RowKit Go.Sort
variable {R:Type}
theorem C1V (a:Nat):∀ (j n:Nat) (d:Array V) (b i:Int),j < n→j < d.size→d.size < 100000000 →
  ∃ j':Int,∀ kx,B7 (A5O R) n (.m (C0 d) a b i j) kx=kx (.o (C0 (insInner B3 a j d)) a b i j'):=by
 intro j
 induction j with
 | zero =>
  intro n d b i hn hj hz
  obtain ⟨n,rfl⟩:∃ m,n=m+1:=⟨n - 1,by omega⟩
  refine ⟨0,fun kx=>?_⟩
  rw [B7,A5O]
  rw [G0,decide_eq_false (by omega)];rfl
 | succ j ih =>
  intro n d b i hn hj hz
  obtain ⟨n,rfl⟩:∃ m,n=m+1:=⟨n - 1,by omega⟩
  have hw:B2 (((j+1:Nat):Int) - 1)=(j:Int):=G1 (by omega) (by omega)
  by_cases h1:j+1 > a
  ·cases h2:B3 d[j+1]! d[j]! with
   | false =>
    refine ⟨(j+1:Nat),fun kx=>?_⟩
    rw [B7,A5O]
    rw [G0,decide_eq_true (by omega)]
    simp only [cond_true]
    rw [hw,J3 rfl rfl hj (by omega),h2,insInner,if_neg (by simp [h2])];rfl
   | true =>
    obtain ⟨j',h⟩:=ih n (swp d (j+1) j) b i (by omega) (by rw [C2];omega) (by rw [C2];omega)
    refine ⟨j',fun kx=>?_⟩
    rw [B7,A5O]
    rw [G0,decide_eq_true (by omega)]
    simp only [cond_true]
    rw [hw,J3 rfl rfl hj (by omega),h2,cond_true,N7 rfl rfl hj (by omega),h,insInner,if_pos (by simp [h1,h2])]
  ·refine ⟨(j+1:Nat),fun kx=>?_⟩
   rw [B7,A5O]
   rw [G0,decide_eq_false (by omega),insInner,if_neg (by simp;omega)];rfl
theorem A2T (a:Nat):∀ (j:Nat) (d:Array V),(insInner B3 a j d).size=d.size:=by
 intro j
 induction j with
 | zero=>intro d;rfl
 | succ j ih=>intro d;rw [insInner];split;rw [ih,C2];rfl
theorem C1W (h f:Nat):∀ (m r n:Nat) (d:Array V),h - r≤m→m < n→f+h≤d.size→d.size < 100000000→r < 100000000 →
  ∃ (r':Int) (q:B2T),(q=.o (C0 (siftDown B3 h f r d)) r' h f∨q=.r (C0 (siftDown B3 h f r d)) r' h f)∧∀ kx,B7 (A2S R) n (.m (C0 d) r h f) kx=kx q:=by
 intro m
 induction m with
 | zero =>
  intro r n d hm hn hz hz2 hr
  obtain ⟨n,rfl⟩:∃ m,n=m+1:=⟨n - 1,by omega⟩
  refine ⟨r,_,Or.inl rfl,fun kx=>?_⟩
  rw [B7,A2S]
  rw [show B2 (B2 (2 * (r:Int))+1)=((2 * r+1:Nat):Int) from G1 (by rw [G1 (n:=2 * r) (by omega) (by omega)];omega) (by omega),E6,decide_eq_true (by omega),siftDown,dif_pos (by omega)];rfl
 | succ m ih =>
  intro r n d hm hn hz hz2 hr
  obtain ⟨n,rfl⟩:∃ m,n=m+1:=⟨n - 1,by omega⟩
  have hw1:B2 (B2 (2 * (r:Int))+1)=((2 * r+1:Nat):Int):=G1 (by rw [G1 (n:=2 * r) (by omega) (by omega)];omega) (by omega)
  have hw2:B2 (((2 * r+1:Nat):Int)+1)=((2 * r+2:Nat):Int):=G1 (by omega) (by omega)
  by_cases h1:2 * r+1 ≥ h
  ·refine ⟨r,_,Or.inl rfl,fun kx=>?_⟩
   rw [B7,A2S]
   rw [hw1,E6,decide_eq_true (by omega),siftDown,dif_pos (by omega)];rfl
  ·-- one round at a child
   have step:∀ c:Nat,(c=2 * r+1∨c=2 * r+2)→c < h→∃ (r':Int) (q:B2T),(q=.o (C0 (if !B3 d[f+r]! d[f+c]! then d else siftDown B3 h f c (swp d (f+r) (f+c)))) r' h f∨q=.r (C0 (if !B3 d[f+r]! d[f+c]! then d else siftDown B3 h f c (swp d (f+r) (f+c)))) r' h f) ∧
     ∀ kx:B2T→Option R,B9v (C0 d) f r c (fun ys=>B7 (A2S R) n (.m ys c h f) kx) (kx (.r (C0 d) r h f))=kx q:=by
    intro c hc1 hc2
    have e1:B2 ((f:Int)+r)=((f+r:Nat):Int):=G1 (by omega) (by omega)
    have e2:B2 ((f:Int)+c)=((f+c:Nat):Int):=G1 (by omega) (by omega)
    cases h2:B3 d[f+r]! d[f+c]! with
    | false =>
     refine ⟨r,.r (C0 d) r h f,Or.inr ?_,fun kx=>?_⟩
     ·rw [if_pos (by simp [h2])]
     ·unfold B9v
      rw [e1,e2,J3 rfl rfl (by omega) (by omega),h2];rfl
    | true =>
     obtain ⟨r',q,hq,h3⟩:=ih c n (swp d (f+r) (f+c)) (by omega) (by omega) (by rw [C2];omega) (by rw [C2];omega) (by omega)
     refine ⟨r',q,?_,fun kx=>?_⟩
     ·rw [if_neg (by simp [h2])];exact hq
     ·unfold B9v
      rw [e1,e2,J3 rfl rfl (by omega) (by omega),h2,cond_true,N7 rfl rfl (by omega) (by omega)]
      exact h3 kx
   by_cases h2:2 * r+1+1 < h
   ·cases h3:B3 d[f+(2 * r+1)]! d[f+(2 * r+1)+1]! with
    | true =>
     obtain ⟨r',q,hq,h4⟩:=step (2 * r+2) (Or.inr rfl) (by omega)
     refine ⟨r',q,?_,fun kx=>?_⟩
     ·rw [siftDown,dif_neg h1,if_pos (by simp [h2,h3])]
      simp only [show 2 * r+2 < h from by omega,dif_pos]
      exact hq
     ·rw [B7,A2S]
      rw [hw1,E6,decide_eq_false (by omega),cond_false,hw2,G0,decide_eq_true (by omega),cond_true,
       show B2 ((f:Int)+((2 * r+1:Nat):Int))=((f+(2 * r+1):Nat):Int) from G1 (by omega) (by omega),
       show B2 (((f+(2 * r+1):Nat):Int)+1)=((f+(2 * r+1)+1:Nat):Int) from G1 (by omega) (by omega),
       J3 rfl rfl (by omega) (by omega),h3,cond_true]
      exact h4 kx
    | false =>
     obtain ⟨r',q,hq,h4⟩:=step (2 * r+1) (Or.inl rfl) (by omega)
     refine ⟨r',q,?_,fun kx=>?_⟩
     ·rw [siftDown,dif_neg h1,if_neg (by simp [h3])]
      exact hq
     ·rw [B7,A2S]
      rw [hw1,E6,decide_eq_false (by omega),cond_false,hw2,G0,decide_eq_true (by omega),cond_true,
       show B2 ((f:Int)+((2 * r+1:Nat):Int))=((f+(2 * r+1):Nat):Int) from G1 (by omega) (by omega),
       show B2 (((f+(2 * r+1):Nat):Int)+1)=((f+(2 * r+1)+1:Nat):Int) from G1 (by omega) (by omega),
       J3 rfl rfl (by omega) (by omega),h3,cond_false]
      exact h4 kx
   ·obtain ⟨r',q,hq,h4⟩:=step (2 * r+1) (Or.inl rfl) (by omega)
    refine ⟨r',q,?_,fun kx=>?_⟩
    ·rw [siftDown,dif_neg h1,if_neg (by simp;omega)]
     exact hq
    ·rw [B7,A2S]
     rw [hw1,E6,decide_eq_false (by omega),cond_false,hw2,G0,decide_eq_false (by omega),cond_false]
     exact h4 kx
theorem C1X:∀ (m i j n:Nat) (d:Array V),j - i≤m→m < n→j < d.size→d.size < 100000000→i < 100000000 →
  ∃ i' j':Int,∀ kx,B7 (A5P R) n (.m (C0 d) i j) kx=kx (.o (C0 (reverseLoop i j d)) i' j'):=by
 intro m
 induction m with
 | zero =>
  intro i j n d hm hn hj hz hi
  obtain ⟨n,rfl⟩:∃ m,n=m+1:=⟨n - 1,by omega⟩
  refine ⟨i,j,fun kx=>?_⟩
  rw [B7,A5P]
  rw [G0,decide_eq_false (by omega),reverseLoop,if_neg (by omega)];rfl
 | succ m ih =>
  intro i j n d hm hn hj hz hi
  obtain ⟨n,rfl⟩:∃ m,n=m+1:=⟨n - 1,by omega⟩
  by_cases h:i < j
  ·obtain ⟨i',j',h2⟩:=ih (i+1) (j - 1) n (swp d i j) (by omega) (by omega) (by rw [C2];omega) (by rw [C2];omega) (by omega)
   refine ⟨i',j',fun kx=>?_⟩
   rw [B7,A5P]
   rw [G0,decide_eq_true (by omega),cond_true,N7 rfl rfl (by omega) hj,G1 (n:=i+1) (by omega) (by omega),G1 (n:=j - 1) (by omega) (by omega),h2]
   conv=>rhs;rw [reverseLoop,if_pos h]
  ·refine ⟨i,j,fun kx=>?_⟩
   rw [B7,A5P]
   rw [G0,decide_eq_false (by omega),reverseLoop,if_neg h];rfl
theorem C1Y (b:Nat) (a s:Int):∀ (m i n:Nat) (d:Array V),b - i≤m→m < n→b≤d.size→1≤i→d.size < 100000000→i < 100000000 →
  ∀ kx,B7 (A9F R) n (.m (C0 d) a b i s) kx=kx (.o (C0 d) a b (scanSorted B3 d b i:Nat) s):=by
 intro m
 induction m with
 | zero =>
  intro i n d hm hn hb h1 hz hi kx
  obtain ⟨n,rfl⟩:∃ m,n=m+1:=⟨n - 1,by omega⟩
  rw [B7,A9F]
  rw [G0,decide_eq_false (by omega),scanSorted,if_neg (by simp;omega)];rfl
 | succ m ih =>
  intro i n d hm hn hb h1 hz hi kx
  obtain ⟨n,rfl⟩:∃ m,n=m+1:=⟨n - 1,by omega⟩
  rw [B7,A9F]
  by_cases h:i < b
  ·rw [G0,decide_eq_true (by omega),cond_true,J3 (b:=i - 1) rfl (G1 (by omega) (by omega)) (by omega) (by omega)]
   cases h2:B3 d[i]! d[i - 1]! with
   | true=>rw [scanSorted,if_neg (by simp [h2])];rfl
   | false=>rw [cond_false,G1 (n:=i+1) (by omega) (by omega),ih (i+1) n d (by omega) (by omega) hb (by omega) hz (by omega)]
            conv=>rhs;rw [scanSorted,if_pos (by simp [h,h2])]
  ·rw [G0,decide_eq_false (by omega),scanSorted,if_neg (by simp;omega)];rfl
theorem C1Z (a b i s:Int):∀ (j n:Nat) (d:Array V),j < n→j < d.size→d.size < 100000000 →
  ∃ j':Int,∀ kx,B7 (A5Q R) n (.m (C0 d) a b i s j) kx=kx (.o (C0 (shiftDown B3 j d)) a b i s j'):=by
 intro j
 induction j with
 | zero =>
  intro n d hn hj hz
  obtain ⟨n,rfl⟩:∃ m,n=m+1:=⟨n - 1,by omega⟩
  refine ⟨(0:Nat),fun kx=>?_⟩
  rw [B7,A5Q]
  rw [E6,decide_eq_false (by omega)];rfl
 | succ j ih =>
  intro n d hn hj hz
  obtain ⟨n,rfl⟩:∃ m,n=m+1:=⟨n - 1,by omega⟩
  have hw:B2 (((j+1:Nat):Int) - 1)=(j:Int):=G1 (by omega) (by omega)
  cases h2:B3 d[j+1]! d[j]! with
  | false =>
   refine ⟨(j+1:Nat),fun kx=>?_⟩
   rw [B7,A5Q]
   rw [E6,decide_eq_true (by omega),cond_true,hw,J3 rfl rfl hj (by omega),h2,shiftDown,if_pos (by simp [h2])];rfl
  | true =>
   obtain ⟨j',h⟩:=ih n (swp d (j+1) j) (by omega) (by rw [C2];omega) (by rw [C2];omega)
   refine ⟨j',fun kx=>?_⟩
   rw [B7,A5Q]
   rw [E6,decide_eq_true (by omega),cond_true,hw,J3 rfl rfl hj (by omega),h2,cond_true,N7 rfl rfl hj (by omega),h,shiftDown,if_neg (by simp [h2])]
theorem A2G:∀ (j:Nat) (d:Array V),(shiftDown B3 j d).size=d.size:=by
 intro j
 induction j with
 | zero=>intro d;rfl
 | succ j ih=>intro d;rw [shiftDown];split;rfl;rw [ih,C2]
theorem C10 (b:Nat) (a i s:Int):∀ (m j n:Nat) (d:Array V),b - j≤m→m < n→b≤d.size→1≤j→d.size < 100000000→j < 100000000 →
  ∃ j':Int,∀ kx,B7 (A5R R) n (.m (C0 d) a b i s j) kx=kx (.o (C0 (shiftUp B3 b j d)) a b i s j'):=by
 intro m
 induction m with
 | zero =>
  intro j n d hm hn hb h1 hz hi
  obtain ⟨n,rfl⟩:∃ m,n=m+1:=⟨n - 1,by omega⟩
  refine ⟨j,fun kx=>?_⟩
  rw [B7,A5R]
  rw [G0,decide_eq_false (by omega),shiftUp,if_neg (by omega)];rfl
 | succ m ih =>
  intro j n d hm hn hb h1 hz hi
  obtain ⟨n,rfl⟩:∃ m,n=m+1:=⟨n - 1,by omega⟩
  by_cases h:j < b
  ·have hw:B2 ((j:Int) - 1)=((j - 1:Nat):Int):=G1 (by omega) (by omega)
   cases h2:B3 d[j]! d[j - 1]! with
   | false =>
    refine ⟨j,fun kx=>?_⟩
    rw [B7,A5R]
    rw [G0,decide_eq_true (by omega),cond_true,hw,J3 rfl rfl (by omega) (by omega),h2,shiftUp,if_pos h,if_pos (by simp [h2])];rfl
   | true =>
    obtain ⟨j',h3⟩:=ih (j+1) n (swp d j (j - 1)) (by omega) (by omega) (by rw [C2];omega) (by omega) (by rw [C2];omega) (by omega)
    refine ⟨j',fun kx=>?_⟩
    rw [B7,A5R]
    rw [G0,decide_eq_true (by omega),cond_true,hw,J3 rfl rfl (by omega) (by omega),h2,cond_true,N7 rfl rfl (by omega) (by omega),G1 (n:=j+1) (by omega) (by omega),h3]
    conv=>rhs;rw [shiftUp,if_pos h,if_neg (by simp [h2])]
  ·refine ⟨j,fun kx=>?_⟩
   rw [B7,A5R]
   rw [G0,decide_eq_false (by omega),shiftUp,if_neg (by omega)];rfl
theorem A1y (b:Nat):∀ (m j:Nat) (d:Array V),b - j≤m→(shiftUp B3 b j d).size=d.size:=by
 intro m
 induction m with
 | zero=>intro j d h;rw [shiftUp,if_neg (by omega)]
 | succ m ih =>
  intro j d h
  rw [shiftUp]
  split
  ·split
   ·rfl
   ·rw [ih _ _ (by omega),C2]
  ·rfl
theorem A6Z (a j:Nat):∀ (m i n:Nat) (d:Array V),j+1 - i≤m→m < n→a < d.size→j < d.size→d.size < 100000000→i < 100000000 →
  ∀ kx,B7 (A9G R) n (.m (C0 d) a i j) kx=kx (.o (C0 d) a (scanUp (fun x=>!B3 d[a]! x) d j i:Nat) j):=by
 intro m
 induction m with
 | zero =>
  intro i n d hm hn ha hj hz hi kx
  obtain ⟨n,rfl⟩:∃ m,n=m+1:=⟨n - 1,by omega⟩
  rw [B7,A9G]
  rw [E6,decide_eq_false (by omega),scanUp,if_neg (by simp;omega)];rfl
 | succ m ih =>
  intro i n d hm hn ha hj hz hi kx
  obtain ⟨n,rfl⟩:∃ m,n=m+1:=⟨n - 1,by omega⟩
  rw [B7,A9G]
  by_cases h:i≤j
  ·rw [E6,decide_eq_true (by omega),cond_true,J3 rfl rfl ha (by omega)]
   cases h2:B3 d[a]! d[i]! with
   | true=>rw [scanUp,if_neg (by simp [h2])];rfl
   | false=>rw [cond_false,G1 (n:=i+1) (by omega) (by omega),ih (i+1) n d (by omega) (by omega) ha hj hz (by omega)]
            conv=>rhs;rw [scanUp,if_pos (by simp [h,h2])]
  ·rw [E6,decide_eq_false (by omega),scanUp,if_neg (by simp;omega)];rfl
theorem A60 (a i:Nat) (h1:1≤i):∀ (j n:Nat) (d:Array V),j < n→a < d.size→j < d.size→d.size < 100000000 →
  ∀ kx,B7 (A9H R) n (.m (C0 d) a i j) kx=kx (.o (C0 d) a i (scanDown (fun x=>B3 d[a]! x) d i j:Nat)):=by
 intro j
 induction j with
 | zero =>
  intro n d hn ha hj hz kx
  obtain ⟨n,rfl⟩:∃ m,n=m+1:=⟨n - 1,by omega⟩
  rw [B7,A9H]
  rw [E6,decide_eq_false (by omega)];rfl
 | succ j ih =>
  intro n d hn ha hj hz kx
  obtain ⟨n,rfl⟩:∃ m,n=m+1:=⟨n - 1,by omega⟩
  rw [B7,A9H]
  by_cases h:i≤j+1
  ·rw [E6,decide_eq_true (by omega),cond_true,J3 rfl rfl ha (by omega)]
   cases h2:B3 d[a]! d[j+1]! with
   | false=>rw [scanDown,if_neg (by simp [h2])];rfl
   | true=>rw [cond_true,G1 (n:=j) (by omega) (by omega),ih n d (by omega) ha (by omega) hz]
           conv=>rhs;rw [scanDown,if_pos (by simp [h,h2])]
  ·rw [E6,decide_eq_false (by omega),scanDown,if_neg (by simp;omega)];rfl
theorem C11 (a j:Nat):∀ (m i n:Nat) (d:Array V),j+1 - i≤m→m < n→a < d.size→j < d.size→d.size < 100000000→i < 100000000 →
  ∀ kx,B7 (A9I R) n (.m (C0 d) a i j) kx=kx (.o (C0 d) a (scanUp (fun x=>B3 x d[a]!) d j i:Nat) j):=by
 intro m
 induction m with
 | zero =>
  intro i n d hm hn ha hj hz hi kx
  obtain ⟨n,rfl⟩:∃ m,n=m+1:=⟨n - 1,by omega⟩
  rw [B7,A9I]
  rw [E6,decide_eq_false (by omega),scanUp,if_neg (by simp;omega)];rfl
 | succ m ih =>
  intro i n d hm hn ha hj hz hi kx
  obtain ⟨n,rfl⟩:∃ m,n=m+1:=⟨n - 1,by omega⟩
  rw [B7,A9I]
  by_cases h:i≤j
  ·rw [E6,decide_eq_true (by omega),cond_true,J3 rfl rfl (by omega) ha]
   cases h2:B3 d[i]! d[a]! with
   | false=>rw [scanUp,if_neg (by simp [h2])];rfl
   | true=>rw [cond_true,G1 (n:=i+1) (by omega) (by omega),ih (i+1) n d (by omega) (by omega) ha hj hz (by omega)]
           conv=>rhs;rw [scanUp,if_pos (by simp [h,h2])]
  ·rw [E6,decide_eq_false (by omega),scanUp,if_neg (by simp;omega)];rfl
theorem C12 (a i:Nat) (h1:1≤i):∀ (j n:Nat) (d:Array V),j < n→a < d.size→j < d.size→d.size < 100000000 →
  ∀ kx,B7 (A9K R) n (.m (C0 d) a i j) kx=kx (.o (C0 d) a i (scanDown (fun x=>!B3 x d[a]!) d i j:Nat)):=by
 intro j
 induction j with
 | zero =>
  intro n d hn ha hj hz kx
  obtain ⟨n,rfl⟩:∃ m,n=m+1:=⟨n - 1,by omega⟩
  rw [B7,A9K]
  rw [E6,decide_eq_false (by omega)];rfl
 | succ j ih =>
  intro n d hn ha hj hz kx
  obtain ⟨n,rfl⟩:∃ m,n=m+1:=⟨n - 1,by omega⟩
  rw [B7,A9K]
  by_cases h:i≤j+1
  ·rw [E6,decide_eq_true (by omega),cond_true,J3 rfl rfl (by omega) ha]
   cases h2:B3 d[j+1]! d[a]! with
   | true=>rw [scanDown,if_neg (by simp [h2])];rfl
   | false=>rw [cond_false,G1 (n:=j) (by omega) (by omega),ih n d (by omega) ha (by omega) hz]
            conv=>rhs;rw [scanDown,if_pos (by simp [h,h2])]
  ·rw [E6,decide_eq_false (by omega),scanDown,if_neg (by simp;omega)];rfl
theorem A61 (a j:Nat):∀ (m i n:Nat) (d:Array V),j+1 - i≤m→m < n→a < d.size→j < d.size→d.size < 100000000→i < 100000000 →
  ∀ kx,B7 (A9J R) n (.m (C0 d) a i j) kx=kx (.o (C0 d) a (scanUp (fun x=>B3 x d[a]!) d j i:Nat) j):=by
 intro m
 induction m with
 | zero =>
  intro i n d hm hn ha hj hz hi kx
  obtain ⟨n,rfl⟩:∃ m,n=m+1:=⟨n - 1,by omega⟩
  rw [B7,A9J]
  rw [E6,decide_eq_false (by omega),scanUp,if_neg (by simp;omega)];rfl
 | succ m ih =>
  intro i n d hm hn ha hj hz hi kx
  obtain ⟨n,rfl⟩:∃ m,n=m+1:=⟨n - 1,by omega⟩
  rw [B7,A9J]
  by_cases h:i≤j
  ·rw [E6,decide_eq_true (by omega),cond_true,J3 rfl rfl (by omega) ha]
   cases h2:B3 d[i]! d[a]! with
   | false=>rw [scanUp,if_neg (by simp [h2])];rfl
   | true=>rw [cond_true,G1 (n:=i+1) (by omega) (by omega),ih (i+1) n d (by omega) (by omega) ha hj hz (by omega)]
           conv=>rhs;rw [scanUp,if_pos (by simp [h,h2])]
  ·rw [E6,decide_eq_false (by omega),scanUp,if_neg (by simp;omega)];rfl
theorem A62 (a i:Nat) (h1:1≤i):∀ (j n:Nat) (d:Array V),j < n→a < d.size→j < d.size→d.size < 100000000 →
  ∀ kx,B7 (A9L R) n (.m (C0 d) a i j) kx=kx (.o (C0 d) a i (scanDown (fun x=>!B3 x d[a]!) d i j:Nat)):=by
 intro j
 induction j with
 | zero =>
  intro n d hn ha hj hz kx
  obtain ⟨n,rfl⟩:∃ m,n=m+1:=⟨n - 1,by omega⟩
  rw [B7,A9L]
  rw [E6,decide_eq_false (by omega)];rfl
 | succ j ih =>
  intro n d hn ha hj hz kx
  obtain ⟨n,rfl⟩:∃ m,n=m+1:=⟨n - 1,by omega⟩
  rw [B7,A9L]
  by_cases h:i≤j+1
  ·rw [E6,decide_eq_true (by omega),cond_true,J3 rfl rfl (by omega) ha]
   cases h2:B3 d[j+1]! d[a]! with
   | true=>rw [scanDown,if_neg (by simp [h2])];rfl
   | false=>rw [cond_false,G1 (n:=j) (by omega) (by omega),ih n d (by omega) ha (by omega) hz]
            conv=>rhs;rw [scanDown,if_pos (by simp [h,h2])]
  ·rw [E6,decide_eq_false (by omega),scanDown,if_neg (by simp;omega)];rfl
end
noncomputable section
open Go.RowKit Go.Sort
variable {R:Type}
structure SaK where
 xs:List V
 a:Int
 b:Int
 c:Int
def SaK.d (s:SaK):Array V:=A1Q s.xs
def A5S:SaK→List V:=A1P fun s=>C0 (insertionSort B3 s.d s.a.toNat s.b.toNat)
def A3L:SaK→List V:=A1P fun s=>C0 (siftDown B3 s.b.toNat s.c.toNat s.a.toNat s.d)
def A5T:SaK→List V:=A1P fun s=>C0 (heapSort B3 s.d s.a.toNat s.b.toNat)
def A3M:SaK→List V:=A1P fun s=>C0 (reverseRange s.d s.a.toNat s.b.toNat)
def A5U:SaK→List V:=A1P fun s=>C0 (breakPatterns s.d s.a.toNat s.b.toNat)
def A4f:SaK→List V:=A1P fun s=>C0 (partialInsertionSort B3 s.d s.a.toNat s.b.toNat).1
def A5V:SaK→Bool:=A1P fun s=>(partialInsertionSort B3 s.d s.a.toNat s.b.toNat).2
def A5W:SaK→List V:=A1P fun s=>C0 (partitionEqual B3 s.d s.a.toNat s.b.toNat s.c.toNat).2
def A5X:SaK→Int:=A1P fun s=>((partitionEqual B3 s.d s.a.toNat s.b.toNat s.c.toNat).1:Nat)
def A5Y:SaK→List V:=A1P fun s=>C0 (partition B3 s.d s.a.toNat s.b.toNat s.c.toNat).2.2
def A0F:SaK→Bool:=A1P fun s=>(partition B3 s.d s.a.toNat s.b.toNat s.c.toNat).2.1
def A5Z:SaK→Int:=A1P fun s=>((partition B3 s.d s.a.toNat s.b.toNat s.c.toNat).1:Nat)
def A1R:SaK→Int:=A1P fun s=>((choosePivot B3 s.d s.a.toNat s.b.toNat).1:Nat)
def A50:SaK→Int:=A1P fun s=>match (choosePivot B3 s.d s.a.toNat s.b.toNat).2 with | .unknown=>0 | .increasing=>1 | .decreasing=>2
def T6:SaK→List V:=A1P fun s=>C0 (pdq B3 s.d s.a.toNat s.b.toNat s.c.toNat true true)
def B9w (xs:List V):Bool:=Nat.ble xs.length 1000000
def A03 (s:SaK):Bool:=F2 0 s.a&&(F2 s.a s.b&&(F2 s.b (s.xs.length:Nat)&&B9w s.xs))
def A2k (s:SaK):Bool:=C3 s.a s.b&&A03 s
def A48 (s:SaK):Bool:=F2 s.a s.c&&(C3 s.c s.b&&A03 s)
def B0V (s:SaK):Bool:=F2 0 s.a&&(F2 0 s.b&&(F2 0 s.c&&(F2 (s.c+s.b) (s.xs.length:Nat)&&(F2 s.a 1000000&&B9w s.xs))))
def A0g (n:Nat) (s:SaK):Bool:=C3 (s.b - s.a) (n:Nat)&&(F2 0 s.c&&(F2 s.c 1000000&&A03 s))
def B9x (el:Nat) (args:List A) (of:Nat→Option Ob) (nx:Nat):Option (List A×List V) :=
 match args with
 | .o id ver::as=>bif Nat.beq id 0&&(Nat.beq ver 1&&Nat.beq nx 1) then
  (match of 0 with
  | some (.row el' v xs nl sh)=>bif Nat.beq el el'&&(Nat.beq v 1&&(!nl&&!sh)) then some (as,xs) else none
  | _=>none) else none
 | _=>none
def B4R (el gn:Nat) (args:List A) (of:Nat→Option Ob) (nx:Nat):Option SaK :=
 match B9x el args of nx with
 | some ([.f h []],xs)=>bif Nat.beq h gn then some ⟨xs,0,0,0⟩ else none
 | _=>none
def A4g (el gn:Nat) (args:List A) (of:Nat→Option Ob) (nx:Nat):Option SaK :=
 match B9x el args of nx with
 | some ([.i .i64 a,.i .i64 b,.f h []],xs)=>bif Nat.beq h gn then some ⟨xs,a,b,0⟩ else none
 | _=>none
def A2l (el gn:Nat) (args:List A) (of:Nat→Option Ob) (nx:Nat):Option SaK :=
 match B9x el args of nx with
 | some ([.i .i64 a,.i .i64 b,.i .i64 c,.f h []],xs)=>bif Nat.beq h gn then some ⟨xs,a,b,c⟩ else none
 | _=>none
def L7 (el N:Nat) (val:SaK→A) (out:SaK→List V):SaK→J2:=fun s=>⟨val s,[(0,.row el 1 (out s) false false)],[0],N⟩
theorem A49 {el:Nat} {args as:List A} {of:Nat→Option Ob} {nx:Nat} {xs:List V} (h:B9x el args of nx=some (as,xs)) :
  args=.o 0 1::as∧nx=1∧of 0=some (.row el 1 xs false false):=by
 unfold B9x at h
 split at h<;>try (cases h;done)
 rename_i id ver as'
 cases h1:(Nat.beq id 0&&(Nat.beq ver 1&&Nat.beq nx 1)) with
 | false=>rw [h1] at h;cases h
 | true =>
 rw [h1] at h
 simp only [E0s] at h1
 obtain ⟨e1,e2,e3⟩:=h1
 obtain rfl:=E0r e1
 obtain rfl:=E0r e2
 obtain rfl:=E0r e3
 simp only [cond_true] at h
 split at h<;>try (cases h;done)
 rename_i el' v xs' nl sh ho
 cases h2:(Nat.beq el el'&&(Nat.beq v 1&&(!nl&&!sh))) with
 | false=>rw [h2] at h;cases h
 | true =>
 rw [h2] at h
 simp only [E0s,Bool.not_eq_true'] at h2
 obtain ⟨e1,e2,rfl,rfl⟩:=h2
 obtain rfl:=E0r e1
 obtain rfl:=E0r e2
 cases h
 exact ⟨rfl,rfl,ho⟩
variable {P:Program} {T:TT}
theorem C9f {el gn f N:Nat} {g:SaK→Bool} {val:SaK→A} {out:SaK→List V} {s:Sym} (hs:J0 P T f s)
  (h:∀ xs,g ⟨xs,0,0,0⟩=true→∃ n ro,n≤N∧s [.o 0 1,.f gn []] (ofL [.row el 1 xs false false]) 1=some ⟨val ⟨xs,0,0,0⟩,[(0,.row el 1 (out ⟨xs,0,0,0⟩) false false)],ro,n⟩∧∀ id∈ro,id=0) :
  R4 P T f (M8 (B4R el gn) g (L7 el N val out)).dir:=A6s hs (fun args of nx x hx hg=>by
 unfold B4R at hx
 split at hx<;>try (cases hx;done)
 rename_i h' xs ha
 cases hh:Nat.beq h' gn with
 | false=>rw [hh] at hx;cases hx
 | true =>
 rw [hh] at hx
 obtain rfl:=E0r hh
 cases hx
 obtain ⟨rfl,rfl,ho⟩:=A49 ha
 obtain ⟨n,ro,h1,h2,h3⟩:=h xs hg
 exact ⟨n,ro,_,h1,h2,A4d ho h3⟩)
theorem A3j {el gn f N:Nat} {g:SaK→Bool} {val:SaK→A} {out:SaK→List V} {s:Sym} (hs:J0 P T f s)
  (h:∀ xs a b,g ⟨xs,a,b,0⟩=true→∃ n ro,n≤N∧s [.o 0 1,.i .i64 a,.i .i64 b,.f gn []] (ofL [.row el 1 xs false false]) 1=some ⟨val ⟨xs,a,b,0⟩,[(0,.row el 1 (out ⟨xs,a,b,0⟩) false false)],ro,n⟩∧∀ id∈ro,id=0) :
  R4 P T f (M8 (A4g el gn) g (L7 el N val out)).dir:=A6s hs (fun args of nx x hx hg=>by
 unfold A4g at hx
 split at hx<;>try (cases hx;done)
 rename_i a b h' xs ha
 cases hh:Nat.beq h' gn with
 | false=>rw [hh] at hx;cases hx
 | true =>
 rw [hh] at hx
 obtain rfl:=E0r hh
 cases hx
 obtain ⟨rfl,rfl,ho⟩:=A49 ha
 obtain ⟨n,ro,h1,h2,h3⟩:=h xs a b hg
 exact ⟨n,ro,_,h1,h2,A4d ho h3⟩)
theorem A1r {el gn f N:Nat} {g:SaK→Bool} {val:SaK→A} {out:SaK→List V} {s:Sym} (hs:J0 P T f s)
  (h:∀ xs a b c,g ⟨xs,a,b,c⟩=true→∃ n ro,n≤N∧s [.o 0 1,.i .i64 a,.i .i64 b,.i .i64 c,.f gn []] (ofL [.row el 1 xs false false]) 1=some ⟨val ⟨xs,a,b,c⟩,[(0,.row el 1 (out ⟨xs,a,b,c⟩) false false)],ro,n⟩∧∀ id∈ro,id=0) :
  R4 P T f (M8 (A2l el gn) g (L7 el N val out)).dir:=A6s hs (fun args of nx x hx hg=>by
 unfold A2l at hx
 split at hx<;>try (cases hx;done)
 rename_i a b c h' xs ha
 cases hh:Nat.beq h' gn with
 | false=>rw [hh] at hx;cases hx
 | true =>
 rw [hh] at hx
 obtain rfl:=E0r hh
 cases hx
 obtain ⟨rfl,rfl,ho⟩:=A49 ha
 obtain ⟨n,ro,h1,h2,h3⟩:=h xs a b c hg
 exact ⟨n,ro,_,h1,h2,A4d ho h3⟩)
end
noncomputable section
open Go.RowKit Go.Sort
variable {R:Type}
inductive B7o where | m (xs:List V) (a b i:Int)
inductive D3G where | o (xs:List V) (a b i:Int)
def A51 (R:Type) (p:B7o) (K:B7o→Option R) (kx:D3G→Option R):Option R:=match p with
 | .m xs a b i=>bif C3 i b then B7 (A5O R) (A2 FU) (.m xs a b i i) (fun | .o xs a b i _=>K (.m xs a b (B2 (i+1)))) else kx (.o xs a b i)
inductive B7p where | m (xs:List V) (a i j:Int)
inductive D3H where | o (xs:List V) (a i j:Int)
def A52 (R:Type) (p:B7p) (K:B7p→Option R) (kx:D3H→Option R):Option R:=match p with
 | .m xs a i j=>B7 (A9G R) (A2 FU) (.m xs a i j) (fun | .o xs a i j=>B7 (A9H R) (A2 FU) (.m xs a i j) (fun | .o xs a i j=>bif C3 j i then kx (.o xs a i j) else A02 xs i j fun ys=>K (.m ys a (B2 (i+1)) (B2 (j - 1)))))
inductive B7q where | m (xs:List V) (a i j:Int)
inductive D3I where | o (xs:List V) (a i j:Int)
def A63 (R:Type) (p:B7q) (K:B7q→Option R) (kx:D3I→Option R):Option R:=match p with
 | .m xs a i j=>B7 (A9J R) (A2 FU) (.m xs a i j) (fun | .o xs a i j=>B7 (A9L R) (A2 FU) (.m xs a i j) (fun | .o xs a i j=>bif C3 j i then kx (.o xs a i j) else A02 xs i j fun ys=>K (.m ys a (B2 (i+1)) (B2 (j - 1)))))
inductive B2U where | m (xs:List V) (a b i s:Int)
inductive B7r where | o (xs:List V) (a b i s:Int) | r (xs:List V) (a b i s:Int) | t (xs:List V) (a b i s:Int)
def A64 (R:Type) (K:B2U→Option R) (xs:List V) (a b i s:Int):Option R :=
 bif F2 2 (B2 (b - i)) then B7 (A5R R) (A2 FU) (.m xs a b i s (B2 (i+1))) (fun | .o xs a b i s _=>K (.m xs a b i (B2 (s+1)))) else K (.m xs a b i (B2 (s+1)))
def A1S (R:Type) (p:B2U) (K:B2U→Option R) (kx:B7r→Option R):Option R:=match p with
 | .m xs a b i s=>bif C3 s 5 then B7 (A9F R) (A2 FU) (.m xs a b i s) (fun | .o xs a b i s=>bif Y5 i b then kx (.t xs a b i s) else bif C3 (B2 (b - a)) 50 then kx (.r xs a b i s) else A02 xs i (B2 (i - 1)) fun xs=>bif F2 2 (B2 (i - a)) then B7 (A5Q R) (A2 FU) (.m xs a b i s (B2 (i - 1))) (fun | .o xs a b i s _=>A64 R K xs a b i s) else A64 R K xs a b i s) else kx (.o xs a b i s)
theorem A3k {s:SaK} (h:A03 s=true):∃ (a b:Nat) (d:Array V),s.a=(a:Int)∧s.b=(b:Int)∧s.xs=C0 d∧s.d=d∧a≤b∧b≤d.size∧d.size≤1000000:=by
 obtain ⟨xs,a,b,c⟩:=s
 simp only [A03,B9w,E0s,C5] at h
 obtain ⟨h1,h2,h3,h4⟩:=h
 obtain ⟨a,rfl⟩:=Int.eq_ofNat_of_zero_le h1
 obtain ⟨b,rfl⟩:=Int.eq_ofNat_of_zero_le (Int.le_trans h1 h2)
 have:=E0x h4
 have e:C0 (A1Q xs)=xs:=rfl
 have hs:(A1Q xs).size=xs.length:=by rw [← Q8,e]
 exact ⟨a,b,A1Q xs,rfl,rfl,e.symm,rfl,by omega,by omega,by omega⟩
theorem C13 (a b:Nat):∀ (m i n:Nat) (d:Array V),b - i≤m→m < n→b≤d.size→d.size≤1000000→i≤2000000 →
  ∃ i':Int,∀ kx,B7 (A51 R) n (.m (C0 d) a b i) kx=kx (.o (C0 (insOuter B3 a b i d)) a b i'):=by
 intro m
 induction m with
 | zero =>
  intro i n d hm hn hb hz hi
  obtain ⟨n,rfl⟩:∃ m,n=m+1:=⟨n - 1,by omega⟩
  refine ⟨i,fun kx=>?_⟩
  rw [B7,A51,G0,decide_eq_false (by omega),insOuter,if_neg (by omega)];rfl
 | succ m ih =>
  intro i n d hm hn hb hz hi
  obtain ⟨n,rfl⟩:∃ m,n=m+1:=⟨n - 1,by omega⟩
  by_cases h:i < b
  ·obtain ⟨j',h2⟩:=C1V (R:=R) a i (A2 FU) d b i (S3 (by omega)) (by omega) (by omega)
   obtain ⟨i',h3⟩:=ih (i+1) n (insInner B3 a i d) (by omega) (by omega) (by rw [A2T];omega) (by rw [A2T];omega) (by omega)
   refine ⟨i',fun kx=>?_⟩
   rw [B7,A51,G0,decide_eq_true (by omega),cond_true,h2]
   simp only
   rw [G1 (n:=i+1) (by omega) (by omega),h3]
   conv=>rhs;rw [insOuter,if_pos h]
  ·refine ⟨i,fun kx=>?_⟩
   rw [B7,A51,G0,decide_eq_false (by omega),insOuter,if_neg (by omega)];rfl
theorem C14 {xs:List V} {a b:Int} (h:A03 ⟨xs,a,b,0⟩=true) (k:List V→Option R) :
  B7 (A51 R) (A2 FU) (.m xs a b (B2 (a+1))) (fun | .o ys _ _ _=>k ys)=k (A5S ⟨xs,a,b,0⟩):=by
 obtain ⟨a',b',d,h1,h2,h3,h4,h5,h6,h7⟩:=A3k h
 simp only at h1 h2 h3
 subst h1 h2 h3
 obtain ⟨i',h8⟩:=C13 (R:=R) a' b' b' (a'+1) (A2 FU) d (by omega) (S3 (by omega)) h6 h7 (by omega)
 rw [G1 (n:=a'+1) (by omega) (by omega),h8]
 simp only
 rw [A5S,E9,h4];rfl
theorem A3V (p:V→Bool) (d:Array V) (j:Nat):∀ (m i:Nat),j+1 - i≤m→i≤j+2→scanUp p d j i≤j+2:=by
 intro m
 induction m with
 | zero=>intro i h1 h2;rw [scanUp,if_neg (by simp;omega)];omega
 | succ m ih =>
  intro i h1 h2
  rw [scanUp]
  split
  ·rename_i h;simp at h;exact ih (i+1) (by omega) (by omega)
  ·omega
theorem C15 (a:Nat):∀ (m i j n:Nat) (d:Array V),j+1 - i≤m→m < n→1≤i→i≤j+2→a < d.size→j < d.size→d.size≤1000000 →
  ∃ j':Int,∀ kx,B7 (A52 R) n (.m (C0 d) a i j) kx=kx (.o (C0 (partEqLoop B3 a i j d).2) a (partEqLoop B3 a i j d).1 j'):=by
 intro m
 induction m with
 | zero =>
  intro i j n d hm hn h1 hij ha hj hz
  obtain ⟨n,rfl⟩:∃ m,n=m+1:=⟨n - 1,by omega⟩
  have u:scanUp (fun x=>!B3 d[a]! x) d j i=i:=by rw [scanUp,if_neg (by simp;omega)]
  have v:scanDown (fun x=>B3 d[a]! x) d i j=j:=by cases j with
   | zero=>rfl
   | succ j=>rw [scanDown,if_neg (by simp;omega)]
  refine ⟨j,fun kx=>?_⟩
  rw [B7,A52,A6Z a j j i _ d (by omega) (S3 (by omega)) ha hj (by omega) (by omega),u]
  simp only
  rw [A60 a i h1 j _ d (S3 (by omega)) ha hj (by omega),v]
  simp only
  rw [G0,decide_eq_true (by omega),partEqLoop]
  try simp only
  rw [u,v,if_pos (by omega)];rfl
 | succ m ih =>
  intro i j n d hm hn h1 hij ha hj hz
  obtain ⟨n,rfl⟩:∃ m,n=m+1:=⟨n - 1,by omega⟩
  have hu:=A3V (fun x=>!B3 d[a]! x) d j (j+1 - i) i (Nat.le_refl _) hij
  have hu2:=scanUp_ge (fun x=>!B3 d[a]! x) d j i
  have hv:=scanDown_le (fun x=>B3 d[a]! x) d (scanUp (fun x=>!B3 d[a]! x) d j i) j
  by_cases h2:scanUp (fun x=>!B3 d[a]! x) d j i > scanDown (fun x=>B3 d[a]! x) d (scanUp (fun x=>!B3 d[a]! x) d j i) j
  ·refine ⟨(scanDown (fun x=>B3 d[a]! x) d (scanUp (fun x=>!B3 d[a]! x) d j i) j:Nat),fun kx=>?_⟩
   rw [B7,A52,A6Z a j (j+1) i _ d (by omega) (S3 (by omega)) ha hj (by omega) (by omega)]
   simp only
   rw [A60 a _ (by omega) j _ d (S3 (by omega)) ha hj (by omega)]
   simp only
   rw [G0,decide_eq_true (by omega),partEqLoop]
   try simp only
   rw [if_pos h2];rfl
  ·have hpe:partEqLoop B3 a i j d=partEqLoop B3 a (scanUp (fun x=>!B3 d[a]! x) d j i+1) (scanDown (fun x=>B3 d[a]! x) d (scanUp (fun x=>!B3 d[a]! x) d j i) j - 1) (swp d (scanUp (fun x=>!B3 d[a]! x) d j i) (scanDown (fun x=>B3 d[a]! x) d (scanUp (fun x=>!B3 d[a]! x) d j i) j)):=by
    conv=>lhs;rw [partEqLoop]
    try simp only
    rw [if_neg h2,dif_pos (by omega)]
   obtain ⟨j',h3⟩:=ih (scanUp (fun x=>!B3 d[a]! x) d j i+1) (scanDown (fun x=>B3 d[a]! x) d (scanUp (fun x=>!B3 d[a]! x) d j i) j - 1) n (swp d (scanUp (fun x=>!B3 d[a]! x) d j i) (scanDown (fun x=>B3 d[a]! x) d (scanUp (fun x=>!B3 d[a]! x) d j i) j)) (by omega) (by omega) (by omega) (by omega) (by rw [C2];omega) (by rw [C2];omega) (by rw [C2];omega)
   refine ⟨j',fun kx=>?_⟩
   rw [B7,A52,A6Z a j (j+1) i _ d (by omega) (S3 (by omega)) ha hj (by omega) (by omega)]
   simp only
   rw [A60 a _ (by omega) j _ d (S3 (by omega)) ha hj (by omega)]
   simp only
   rw [G0,decide_eq_false (by omega),cond_false,N7 rfl rfl (by omega) (by omega),G1 (n:=scanUp (fun x=>!B3 d[a]! x) d j i+1) (by omega) (by omega),
    G1 (n:=scanDown (fun x=>B3 d[a]! x) d (scanUp (fun x=>!B3 d[a]! x) d j i) j - 1) (by omega) (by omega),h3,hpe]
theorem C16 (a:Nat):∀ (m i j n:Nat) (d:Array V),j+1 - i≤m→m < n→1≤i→i≤j+2→a < d.size→j < d.size→d.size≤1000000 →
  ∃ i':Int,∀ kx,B7 (A63 R) n (.m (C0 d) a i j) kx=kx (.o (C0 (partLoop B3 a i j d).2) a i' (partLoop B3 a i j d).1):=by
 intro m
 induction m with
 | zero =>
  intro i j n d hm hn h1 hij ha hj hz
  obtain ⟨n,rfl⟩:∃ m,n=m+1:=⟨n - 1,by omega⟩
  have u:scanUp (fun x=>B3 x d[a]!) d j i=i:=by rw [scanUp,if_neg (by simp;omega)]
  have v:scanDown (fun x=>!B3 x d[a]!) d i j=j:=by cases j with
   | zero=>rfl
   | succ j=>rw [scanDown,if_neg (by simp;omega)]
  refine ⟨i,fun kx=>?_⟩
  rw [B7,A63,A61 a j j i _ d (by omega) (S3 (by omega)) ha hj (by omega) (by omega),u]
  simp only
  rw [A62 a i h1 j _ d (S3 (by omega)) ha hj (by omega),v]
  simp only
  rw [G0,decide_eq_true (by omega),partLoop]
  try simp only
  rw [u,v,if_pos (by omega)];rfl
 | succ m ih =>
  intro i j n d hm hn h1 hij ha hj hz
  obtain ⟨n,rfl⟩:∃ m,n=m+1:=⟨n - 1,by omega⟩
  have hu:=A3V (fun x=>B3 x d[a]!) d j (j+1 - i) i (Nat.le_refl _) hij
  have hu2:=scanUp_ge (fun x=>B3 x d[a]!) d j i
  have hv:=scanDown_le (fun x=>!B3 x d[a]!) d (scanUp (fun x=>B3 x d[a]!) d j i) j
  by_cases h2:scanUp (fun x=>B3 x d[a]!) d j i > scanDown (fun x=>!B3 x d[a]!) d (scanUp (fun x=>B3 x d[a]!) d j i) j
  ·refine ⟨(scanUp (fun x=>B3 x d[a]!) d j i:Nat),fun kx=>?_⟩
   rw [B7,A63,A61 a j (j+1) i _ d (by omega) (S3 (by omega)) ha hj (by omega) (by omega)]
   simp only
   rw [A62 a _ (by omega) j _ d (S3 (by omega)) ha hj (by omega)]
   simp only
   rw [G0,decide_eq_true (by omega),partLoop]
   try simp only
   rw [if_pos h2];rfl
  ·have hpe:partLoop B3 a i j d=partLoop B3 a (scanUp (fun x=>B3 x d[a]!) d j i+1) (scanDown (fun x=>!B3 x d[a]!) d (scanUp (fun x=>B3 x d[a]!) d j i) j - 1) (swp d (scanUp (fun x=>B3 x d[a]!) d j i) (scanDown (fun x=>!B3 x d[a]!) d (scanUp (fun x=>B3 x d[a]!) d j i) j)):=by
    conv=>lhs;rw [partLoop]
    try simp only
    rw [if_neg h2,dif_pos (by omega)]
   obtain ⟨j',h3⟩:=ih (scanUp (fun x=>B3 x d[a]!) d j i+1) (scanDown (fun x=>!B3 x d[a]!) d (scanUp (fun x=>B3 x d[a]!) d j i) j - 1) n (swp d (scanUp (fun x=>B3 x d[a]!) d j i) (scanDown (fun x=>!B3 x d[a]!) d (scanUp (fun x=>B3 x d[a]!) d j i) j)) (by omega) (by omega) (by omega) (by omega) (by rw [C2];omega) (by rw [C2];omega) (by rw [C2];omega)
   refine ⟨j',fun kx=>?_⟩
   rw [B7,A63,A61 a j (j+1) i _ d (by omega) (S3 (by omega)) ha hj (by omega) (by omega)]
   simp only
   rw [A62 a _ (by omega) j _ d (S3 (by omega)) ha hj (by omega)]
   simp only
   rw [G0,decide_eq_false (by omega),cond_false,N7 rfl rfl (by omega) (by omega),G1 (n:=scanUp (fun x=>B3 x d[a]!) d j i+1) (by omega) (by omega),
    G1 (n:=scanDown (fun x=>!B3 x d[a]!) d (scanUp (fun x=>B3 x d[a]!) d j i) j - 1) (by omega) (by omega),h3,hpe]
theorem A65 (d:Array V) (b:Nat):∀ (m i:Nat),b - i≤m→i≤b→i≤scanSorted B3 d b i∧scanSorted B3 d b i≤b:=by
 intro m
 induction m with
 | zero=>intro i h1 h2;rw [scanSorted,if_neg (by simp;omega)];omega
 | succ m ih =>
  intro i h1 h2
  rw [scanSorted]
  split
  ·rename_i h;simp at h;have:=ih (i+1) (by omega) (by omega);omega
  ·omega
theorem C17 (a b:Nat):∀ (m s i n:Nat) (d:Array V),s+m=5→m < n→a < i→i≤b→b≤d.size→d.size≤1000000 →
  ∃ (i' s':Int) (q:B7r),(∀ kx,B7 (A1S R) n (.m (C0 d) a b i s) kx=kx q) ∧
   ((q=.o (C0 (partialIns B3 a b m i d).1) a b i' s'∧(partialIns B3 a b m i d).2=false)∨(q=.r (C0 (partialIns B3 a b m i d).1) a b i' s'∧(partialIns B3 a b m i d).2=false) ∨
    (q=.t (C0 (partialIns B3 a b m i d).1) a b i' s'∧(partialIns B3 a b m i d).2=true)):=by
 intro m
 induction m with
 | zero =>
  intro s i n d hs hn hai hib hb hz
  obtain ⟨n,rfl⟩:∃ m,n=m+1:=⟨n - 1,by omega⟩
  refine ⟨i,s,_,fun kx=>?_,Or.inl ⟨rfl,rfl⟩⟩
  rw [B7,A1S,G0,decide_eq_false (by omega)];rfl
 | succ m ih =>
  intro s i n d hs hn hai hib hb hz
  obtain ⟨n,rfl⟩:∃ m,n=m+1:=⟨n - 1,by omega⟩
  obtain ⟨c1,c2⟩:=A65 d b (b - i) i (Nat.le_refl _) hib
  generalize hc:scanSorted B3 d b i=c at c1 c2
  have head:∀ kx,B7 (A1S R) (n+1) (.m (C0 d) a b i s) kx=bif Y5 (c:Int) b then kx (.t (C0 d) a b c s) else bif C3 (B2 ((b:Int) - a)) 50 then kx (.r (C0 d) a b c s) else
    A02 (C0 d) c (B2 ((c:Int) - 1)) fun xs=>bif F2 2 (B2 ((c:Int) - a)) then B7 (A5Q R) (A2 FU) (.m xs a b c s (B2 ((c:Int) - 1))) (fun | .o xs a b i s _=>A64 R (fun p=>B7 (A1S R) n p kx) xs a b i s) else A64 R (fun p=>B7 (A1S R) n p kx) xs a b c s:=by
   intro kx
   rw [B7,A1S,G0,decide_eq_true (by omega),cond_true,C1Y b a s b i _ d (by omega) (S3 (by omega)) hb (by omega) (by omega) (by omega),hc]
  by_cases h1:c=b
  ·refine ⟨c,s,.t (C0 d) a b c s,fun kx=>?_,Or.inr (Or.inr ⟨?_,?_⟩)⟩
   ·rw [head,A0O (by omega),cond_true]
   ·rw [partialIns];simp only [hc];rw [if_pos h1]
   ·rw [partialIns];simp only [hc];rw [if_pos h1]
  ·have hw:B2 ((b:Int) - a)=((b - a:Nat):Int):=G1 (by omega) (by omega)
   by_cases h2:b - a < 50
   ·refine ⟨c,s,.r (C0 d) a b c s,fun kx=>?_,Or.inr (Or.inl ⟨?_,?_⟩)⟩
    ·rw [head,A2t (by omega),cond_false,hw,G0,decide_eq_true (by omega),cond_true]
    ·rw [partialIns];simp only [hc];rw [if_neg h1,if_pos h2]
    ·rw [partialIns];simp only [hc];rw [if_neg h1,if_pos h2]
   ·have hc1:B2 ((c:Int) - 1)=((c - 1:Nat):Int):=G1 (by omega) (by omega)
    have hca:B2 ((c:Int) - a)=((c - a:Nat):Int):=G1 (by omega) (by omega)
    have hbc:B2 ((b:Int) - c)=((b - c:Nat):Int):=G1 (by omega) (by omega)
    have hc2:B2 ((c:Int)+1)=((c+1:Nat):Int):=G1 (by omega) (by omega)
    have hs1:B2 ((s:Int)+1)=((s+1:Nat):Int):=G1 (by omega) (by omega)
    have up:∀ d1:Array V,d1.size=d.size→∃ (i' s':Int) (q:B7r),(∀ kx,A64 R (fun p=>B7 (A1S R) n p kx) (C0 d1) a b c s=kx q) ∧
      ((q=.o (C0 (partialIns B3 a b m c (if b - c ≥ 2 then shiftUp B3 b (c+1) d1 else d1)).1) a b i' s'∧(partialIns B3 a b m c (if b - c ≥ 2 then shiftUp B3 b (c+1) d1 else d1)).2=false) ∨
       (q=.r (C0 (partialIns B3 a b m c (if b - c ≥ 2 then shiftUp B3 b (c+1) d1 else d1)).1) a b i' s'∧(partialIns B3 a b m c (if b - c ≥ 2 then shiftUp B3 b (c+1) d1 else d1)).2=false) ∨
       (q=.t (C0 (partialIns B3 a b m c (if b - c ≥ 2 then shiftUp B3 b (c+1) d1 else d1)).1) a b i' s'∧(partialIns B3 a b m c (if b - c ≥ 2 then shiftUp B3 b (c+1) d1 else d1)).2=true)):=by
     intro d1 hd1
     by_cases h3:b - c ≥ 2
     ·rw [if_pos h3]
      obtain ⟨j',h4⟩:=C10 (R:=R) b a c s b (c+1) (A2 FU) d1 (by omega) (S3 (by omega)) (by omega) (by omega) (by omega) (by omega)
      obtain ⟨i',s',q,h5,h6⟩:=ih (s+1) c n (shiftUp B3 b (c+1) d1) (by omega) (by omega) (by omega) (by omega) (by rw [A1y b b _ _ (by omega)];omega) (by rw [A1y b b _ _ (by omega)];omega)
      refine ⟨i',s',q,fun kx=>?_,h6⟩
      rw [A64,hbc,E6,decide_eq_true (by omega),cond_true,hc2,h4]
      simp only
      rw [hs1,h5]
     ·rw [if_neg h3]
      obtain ⟨i',s',q,h5,h6⟩:=ih (s+1) c n d1 (by omega) (by omega) (by omega) (by omega) (by omega) (by omega)
      refine ⟨i',s',q,fun kx=>?_,h6⟩
      rw [A64,hbc,E6,decide_eq_false (by omega),cond_false,hs1,h5]
    by_cases h3:c - a ≥ 2
    ·obtain ⟨j',h4⟩:=C1Z (R:=R) a b c s (c - 1) (A2 FU) (swp d c (c - 1)) (S3 (by omega)) (by rw [C2];omega) (by rw [C2];omega)
     obtain ⟨i',s',q,h5,h6⟩:=up (shiftDown B3 (c - 1) (swp d c (c - 1))) (by rw [A2G,C2])
     refine ⟨i',s',q,fun kx=>?_,?_⟩
     ·rw [head,A2t (by omega),cond_false,hw,G0,decide_eq_false (by omega),cond_false,hc1,N7 rfl rfl (by omega) (by omega),hca,E6,decide_eq_true (by omega),cond_true,h4]
      exact h5 kx
     ·rw [partialIns];simp only [hc];rw [if_neg h1,if_neg h2,if_pos h3];exact h6
    ·obtain ⟨i',s',q,h5,h6⟩:=up (swp d c (c - 1)) (by rw [C2])
     refine ⟨i',s',q,fun kx=>?_,?_⟩
     ·rw [head,A2t (by omega),cond_false,hw,G0,decide_eq_false (by omega),cond_false,hc1,N7 rfl rfl (by omega) (by omega),hca,E6,decide_eq_false (by omega),cond_false]
      exact h5 kx
     ·rw [partialIns];simp only [hc];rw [if_neg h1,if_neg h2,if_neg h3];exact h6
end
end Go.Vm
end