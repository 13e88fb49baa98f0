/- What the operations of a program do, shown once for all programs; and numbers. -/
import Derived.Test.YteoeonfajlnggaaGreatVm10
import Derived.Test.YteoeonfajlnggaaGreatVm9
import Derived.Maps.RangeRun
import Derived.Sort.AssemblyPlain
import Derived.Sort.LotD5
set_option linter.constructorNameAsVariable false
set_option linter.unusedVariables false
set_option linter.unusedSimpArgs false
noncomputable section
namespace Go.Vm
open Go.RowKit
variable {R:Type}
theorem C9N (a b:Int):F2 a b=decide (a≤b):=by simp [F2]
theorem B6f (a b:Int):D4 a b=decide (a < b):=by simp [D4]
def M2 (c:V):V:=(c.nth 0).nth 1
def cpg:List V→Bool
 | [c]=>Nat.ble (M2 c).els.length 1073741824
 | _=>false
def cpr (t:Nat):List V→List Rs
 | [c]=>[.d t c]
 | _=>[]
def cpG (t:Nat) (v h:Int) (k:V) (q:Bool):Option (List Rs) :=
 bif isN k&&true then some [.d t (.l [.l [.i v,.n],.i h,.b q])] else Z9 (0+k.els.length) <| some [.d t (.l [.l [.i v,.l ([]++k.els)],.i h,.b q])]
theorem C52 {t:Nat} {v h:Int} {k:V} {q:Bool} (hk:(D.slice (.int .u8)).has k) (hg:cpg [.l [.l [.i v,k],.i h,.b q]]=true):cpG t v h k q=some [.d t (.l [.l [.i v,k],.i h,.b q])]:=by
 unfold cpG
 rcases A2w hk with rfl | ⟨ys,rfl⟩
 ·rfl
 ·have hl:ys.length≤1073741824:=D50 hg
  show Z9 (0+ys.length) _=_
  rw [E3 (by omega)]
  rfl
def B6g:V:=.l [.l (List.replicate 32 (.i 0)),.i 4294967295]
def B2j (t:V):Bool:=bif Y6 ((t.nth 1).els.length:Nat) 1 then U7 (((t.nth 1).nth 0).nth 0) B6g else false
def bsg:List V→Bool
 | [t]=>Nat.ble (t.nth 1).els.length 1000
 | _=>false
def bsr (b:Nat):List V→List Rs
 | [t]=>[.d b (.b (B2j t))]
 | _=>[]
def bsG (b:Nat) (a:V):Option (List Rs) :=
 ln a.els.length <| bif Y6 (a.els.length:Nat) 1 then ck ((0:Nat):Int) a.els.length <| bif U7 ((a.nth 0).nth 0) B6g then some [.d b (.b true)] else some [.d b (.b false)] else some [.d b (.b false)]
theorem D0Z {b:Nat} {v u:Int} {x y:V} (hg:bsg [.l [.i v,x,y,.i u]]=true):bsG b x=some [.d b (.b (B2j (.l [.i v,x,y,.i u])))]:=by
 have hl:x.els.length≤1000:=D50 hg
 have e:B2j (.l [.i v,x,y,.i u])=bif Y6 (x.els.length:Nat) 1 then U7 ((x.nth 0).nth 0) B6g else false:=rfl
 unfold bsG
 rw [e,G3 (by omega)]
 cases h1:Y6 (x.els.length:Nat) 1 with
 | false=>rfl
 | true =>
  have:=P0.1 h1
  rw [cond_true,cond_true,H0 (by omega) (by omega)]
  cases U7 ((x.nth 0).nth 0) B6g<;>rfl
inductive PRg where
 | m (l:V) (s:Int) (n:Int) (i:Int)
inductive QRg where
 | o (l:V) (s:Int) (n:Int) (i:Int)
 | r (l:V) (s:Int) (n:Int) (i:Int)
def BRg (R:Type) (p:PRg) (K:PRg→Option R) (kx:QRg→Option R):Option R :=
 match p with
 | .m l s n i =>
  bif D4 i n then
   ck i ((l.els).length) <|
   bif D4 30 i then
   kx (.r l s n i)
   else
   bif F2 0 (((V.nth (V.nth (V.nth (V.nth l i.toNat) 1) 0) 0)).int) then
   bif F2 (((V.nth (V.nth (V.nth (V.nth l i.toNat) 1) 0) 0)).int) 2000000000000 then
   ln ((((V.nth (V.nth (V.nth (V.nth l i.toNat) 1) 0) 1)).els).length) <|
   bif F2 ((((V.nth (V.nth (V.nth (V.nth l i.toNat) 1) 0) 1)).els).length:Nat) 2000 then
   bif F2 0 (((V.nth (V.nth (V.nth l i.toNat) 1) 1)).int) then
   bif F2 (((V.nth (V.nth (V.nth l i.toNat) 1) 1)).int) 1000000000 then
   ln ((((V.nth (V.nth (V.nth (V.nth l i.toNat) 1) 0) 1)).els).length) <|
   bif D4 300 ((((V.nth (V.nth (V.nth (V.nth l i.toNat) 1) 0) 1)).els).length:Nat) then
   kx (.r l s n i)
   else
   K (.m l (B3 (s+((V.nth (V.nth (V.nth (V.nth l i.toNat) 1) 0) 0)).int)) n (B3 (i+1)))
   else
   kx (.r l s n i)
   else
   kx (.r l s n i)
   else
   kx (.r l s n i)
   else
   kx (.r l s n i)
   else
   kx (.r l s n i)
   else
   kx (.o l s n i)
abbrev D3x:=@BRg.eq_1
inductive PGa where
 | m (t:V) (l:V) (n:Int) (i:Int)
inductive QGa where
 | o (t:V) (l:V) (n:Int) (i:Int)
 | r (t:V) (l:V) (n:Int) (i:Int)
def BGa (R:Type) (p:PGa) (K:PGa→Option R) (kx:QGa→Option R):Option R :=
 match p with
 | .m t l n i =>
  bif D4 i n then
   ck i ((l.els).length) <|
   ln ((((V.nth (V.nth l i.toNat) 1)).els).length) <|
   bif D4 300 ((((V.nth (V.nth l i.toNat) 1)).els).length:Nat) then
   kx (.r t l n i)
   else
   K (.m t l n (B3 (i+1)))
   else
   kx (.o t l n i)
abbrev C9O:=@BGa.eq_1
inductive PGb where
 | m (t:V) (l:V) (n:Int) (i:Int)
inductive QGb where
 | o (t:V) (l:V) (n:Int) (i:Int)
 | r (t:V) (l:V) (n:Int) (i:Int)
def BGb (R:Type) (p:PGb) (K:PGb→Option R) (kx:QGb→Option R):Option R :=
 match p with
 | .m t l n i =>
  bif D4 i n then
   ck i ((l.els).length) <|
   ln ((((V.nth (V.nth l i.toNat) 1)).els).length) <|
   bif D4 300 ((((V.nth (V.nth l i.toNat) 1)).els).length:Nat) then
   kx (.r t l n i)
   else
   K (.m t l n (B3 (i+1)))
   else
   kx (.o t l n i)
abbrev C9P:=@BGb.eq_1
abbrev MM:Int:=2000000000000
theorem B7R {a r:List V} {x:V} {l:V} (he:l.els=a++x::r):D4 (a.length:Nat) (l.els.length:Nat)=true:=by rw [he];simp [D4];omega
theorem B7S {a:List V} {l:V} (he:l.els=a):D4 (a.length:Nat) (l.els.length:Nat)=false:=by rw [he];simp [D4]
theorem C9Q {x:V} (h:C4J.has x):∃ v k,x=.l [.i v,k]∧inR .i64 v∧(D.slice (.int .u8)).has k:=by
 obtain ⟨ys,rfl,hy⟩:=h
 obtain ⟨a,b,rfl,⟨v,rfl,hv⟩,hb⟩:=A5T hy
 exact ⟨v,b,rfl,hv,hb⟩
def A32 (c:V):Bool:=decide (0≤((c.nth 0).nth 0).int∧((c.nth 0).nth 0).int≤MM∧(M2 c).els.length≤300∧0≤(c.nth 1).int∧(c.nth 1).int≤1000000000)
def A2j:List V→Nat→Int→Bool
 | [],_,s=>decide (s≤MM)
 | x::r,i,s=>bif decide (i≤30)&&A32 (x.nth 1) then A2j r (i+1) (s+(((x.nth 1).nth 0).nth 0).int) else false
def rgQ (k:Bool→Option R):QRg→Option R
 | .o l s n i=>bif F2 s 2000000000000 then k true else k false
 | .r l s n i=>k false
theorem A6d {c:V} (h:B7e.has c):∃ v kk hh q,c=.l [.l [.i v,kk],.i hh,.b q]∧inR .i64 v∧(D.slice (.int .u8)).has kk∧inR .i64 hh:=by
 obtain ⟨ys,rfl,hy⟩:=h
 obtain ⟨a,b,d,rfl,ha,⟨n,rfl,hn⟩,q,rfl⟩:=C3R hy
 obtain ⟨v,k,rfl,hv,hk⟩:=C9Q ha
 exact ⟨v,k,n,q,rfl,hv,hk,hn⟩
theorem D00 {l:V} (k:Bool→Option R):∀ (r a:List V) (s:Int) (fuel:Nat),l.els=a++r→(∀ x∈r,A0i.has x)→(∀ x∈r,(M2 (x.nth 1)).els.length≤9223372036854775807)→0≤s→s≤a.length * MM→a.length≤31→l.els.length≤9223372036854775807→40≤fuel+a.length →
  C8 (BRg R) fuel (.m l s (l.els.length:Nat) (a.length:Nat)) (rgQ k)=k (A2j r a.length s):=by
 intro r
 induction r with
 | nil =>
  intro a s fuel he hg hk h0 h1 ha hz hf
  obtain ⟨f,rfl⟩:∃ f,fuel=f+1:=⟨fuel - 1,by omega⟩
  rw [List.append_nil] at he
  have hc:=B7S he
  show (bif D4 (a.length:Nat) (l.els.length:Nat) then _ else rgQ k _)=_
  rw [hc,cond_false]
  show (bif F2 s 2000000000000 then k true else k false)=k (decide (s≤MM))
  rw [C9N]
  by_cases h:s≤MM
  ·simp only [MM] at h ⊢;simp only [h,decide_true,cond_true]
  ·simp only [MM] at h ⊢;simp only [h,decide_false,cond_false]
 | cons x r ih =>
  intro a s fuel he hg hk h0 h1 ha hz hf
  obtain ⟨f,rfl⟩:∃ f,fuel=f+1:=⟨fuel - 1,by omega⟩
  have hc:=B7R he
  have hle:l.els.length=a.length+(r.length+1):=by rw [he];simp
  have hat:l.nth ((a.length:Nat):Int).toNat=x:=A1g he
  have hx:=hg x (by simp)
  have hkx:=hk x (by simp)
  obtain ⟨r0,c,rfl,hr0,hc0⟩:=A6x hx
  obtain ⟨v,kk,hh,q,rfl,hv,hkk,hhh⟩:=A6d hc0
  simp only [inR,lo,hi] at hv hhh
  have hkx:kk.els.length≤9223372036854775807:=hkx
  have ih:=ih (a++[.l [r0,.l [.l [.i v,kk],.i hh,.b q]]]) (s+v) f (by rw [he];simp) (fun y hy=>hg y (by simp [hy])) (fun y hy=>hk y (by simp [hy]))
  simp only [D5W,D53] at ih
  have e1:A2j (.l [r0,.l [.l [.i v,kk],.i hh,.b q]]::r) a.length s=bif decide (a.length≤30)&&decide (0≤v∧v≤MM∧kk.els.length≤300∧0≤hh∧hh≤1000000000) then A2j r (a.length+1) (s+v) else false:=rfl
  rw [e1,C8,D3x,hc,cond_true,H0 (by omega) (by omega),hat]
  have n1:(V.l [r0,.l [.l [.i v,kk],.i hh,.b q]]).nth 1=.l [.l [.i v,kk],.i hh,.b q]:=rfl
  have n2:(V.l [.l [.i v,kk],.i hh,.b q]).nth 0=.l [.i v,kk]:=rfl
  have n3:((V.l [.i v,kk]).nth 0).int=v:=rfl
  have n4:(V.l [.i v,kk]).nth 1=kk:=rfl
  have n5:((V.l [.l [.i v,kk],.i hh,.b q]).nth 1).int=hh:=rfl
  rw [n1,n2,n3,n4,n5]
  simp only [C9N,B6f]
  by_cases d0:a.length≤30
  ·rw [show decide ((30:Int) < (a.length:Nat))=false by simp;omega,cond_false]
   by_cases d1:0≤v
   ·by_cases d2:v≤2000000000000
    ·rw [G3 hkx,G3 hkx]
     by_cases d3:kk.els.length≤300
     ·rw [show decide (((kk.els.length:Nat):Int)≤2000)=true by simp;omega,show decide ((300:Int) < (kk.els.length:Nat))=false by simp;omega]
      by_cases d4:0≤hh
      ·by_cases d5:hh≤1000000000
       ·simp only [d0,d1,d2,d3,d4,d5,decide_true,cond_true,MM,and_self,Bool.and_self,cond_false]
        simp only [MM] at h1 ih
        rw [G8 (by omega) (by omega),A0h (by omega)]
        exact ih (by omega) (by omega) (by omega) hz (by omega)
       ·simp only [d0,d1,d2,d3,d4,d5,decide_true,cond_true,MM,decide_false,cond_false,and_false,Bool.and_false];rfl
      ·simp only [d0,d1,d2,d3,d4,decide_true,cond_true,MM,decide_false,cond_false,and_false,false_and,Bool.and_false];rfl
     ·simp only [d0,d1,d2,d3,decide_true,cond_true,MM,decide_false,cond_false,and_false,false_and,Bool.and_false]
      rw [show decide ((300:Int) < (kk.els.length:Nat))=true by simp;omega]
      cases decide (((kk.els.length:Nat):Int)≤2000)<;>cases decide (0≤hh)<;>cases decide (hh≤1000000000)<;>rfl
    ·simp only [d0,d1,d2,decide_true,cond_true,MM,decide_false,cond_false,and_false,false_and,Bool.and_false];rfl
   ·simp only [d0,d1,decide_true,cond_true,MM,decide_false,cond_false,and_false,false_and,Bool.and_false];rfl
  ·rw [show decide ((30:Int) < (a.length:Nat))=true by simp;omega,cond_true]
   simp only [d0,decide_false,Bool.false_and,cond_false];rfl
def rgC (l:V) (k:Bool→Option R):Option R:=ln l.els.length <| C8 (BRg R) (A3 FU) (.m l 0 (l.els.length:Nat) 0) (rgQ k)
def A1q (x:V):Bool:=decide (300 < (x.nth 1).els.length)
def A3M (t:V):Bool:=decide (12 < (t.nth 1).els.length)||decide (12 < (t.nth 2).els.length)||(t.nth 1).els.any A1q||(t.nth 2).els.any A1q
theorem B9S {t l:V} {ko kr:Option R} {ka:QGa→Option R} {kb:QGb→Option R} (h1:∀ n i,ka (.o t l n i)=ko) (h2:∀ n i,ka (.r t l n i)=kr) (h3:∀ n i,kb (.o t l n i)=ko) (h4:∀ n i,kb (.r t l n i)=kr):∀ (r a:List V) (fuel:Nat),l.els=a++r→(∀ x∈r,(x.nth 1).els.length≤9223372036854775807)→a.length+r.length≤100000→r.length < fuel →
  C8 (BGa R) fuel (.m t l (l.els.length:Nat) (a.length:Nat)) ka=(bif r.any A1q then kr else ko) ∧
  C8 (BGb R) fuel (.m t l (l.els.length:Nat) (a.length:Nat)) kb=(bif r.any A1q then kr else ko):=by
 intro r
 induction r with
 | nil =>
  intro a fuel he hg ha hf
  obtain ⟨f,rfl⟩:∃ f,fuel=f+1:=⟨fuel - 1,by omega⟩
  rw [List.append_nil] at he
  have hc:=B7S he
  constructor
  ·rw [C8,C9O,hc,cond_false];exact h1 _ _
  ·rw [C8,C9P,hc,cond_false];exact h3 _ _
 | cons x r ih =>
  intro a fuel he hg ha hf
  obtain ⟨f,rfl⟩:∃ f,fuel=f+1:=⟨fuel - 1,by simp at hf;omega⟩
  simp only [D52] at ha hf
  have hc:=B7R he
  have hle:l.els.length=a.length+(r.length+1):=by rw [he];simp
  have hat:l.nth ((a.length:Nat):Int).toNat=x:=A1g he
  have hx:=hg x (by simp)
  have ih:=ih (a++[x]) f (by rw [he];simp) (fun y hy=>hg y (by simp [hy]))
  simp only [D5W,D53] at ih
  obtain ⟨i1,i2⟩:=ih (by omega) (by omega)
  have e1:(x::r).any A1q=(decide (300 < (x.nth 1).els.length)||r.any A1q):=rfl
  rw [e1]
  have e2:D4 300 ((x.nth 1).els.length:Nat)=decide (300 < (x.nth 1).els.length):=A1v 300 _
  constructor
  ·rw [C8,C9O,hc,cond_true,H0 (by omega) (by omega),hat,G3 hx,e2]
   by_cases c1:300 < (x.nth 1).els.length
   ·simp only [c1,decide_true,cond_true,Bool.true_or];exact h2 _ _
   ·simp only [c1,decide_false,cond_false,Bool.false_or]
    rw [A0h (by omega)];exact i1
  ·rw [C8,C9P,hc,cond_true,H0 (by omega) (by omega),hat,G3 hx,e2]
   by_cases c1:300 < (x.nth 1).els.length
   ·simp only [c1,decide_true,cond_true,Bool.true_or];exact h4 _ _
   ·simp only [c1,decide_false,cond_false,Bool.false_or]
    rw [A0h (by omega)];exact i2
def gtC (v u:Int) (a b:V) (k:Bool→Option R):Option R :=
 ln a.els.length <| bif D4 12 (a.els.length:Nat) then k true else ln b.els.length <| bif D4 12 (b.els.length:Nat) then k true else
 ln a.els.length <| C8 (BGa R) (A3 FU) (.m (.l [.i v,a,b,.i u]) a (a.els.length:Nat) 0) fun q=>match q with
  | .o t l n i=>ln (t.nth 2).els.length <| C8 (BGb R) (A3 FU) (.m t (t.nth 2) ((t.nth 2).els.length:Nat) 0) fun q=>match q with
   | .o t l n i=>k false
   | .r t l n i=>k true
  | .r t l n i=>k true
theorem D01 {v u:Int} {a b:V} (k:Bool→Option R) (ha:∀ x∈a.els,(x.nth 1).els.length≤9223372036854775807) (hb:∀ x∈b.els,(x.nth 1).els.length≤9223372036854775807) (la:a.els.length≤9223372036854775807) (lb:b.els.length≤9223372036854775807) :
  gtC v u a b k=k (A3M (.l [.i v,a,b,.i u])):=by
 have e:A3M (.l [.i v,a,b,.i u])=(decide (12 < a.els.length)||decide (12 < b.els.length)||a.els.any A1q||b.els.any A1q):=rfl
 have hq:=A3U
 rw [e]
 unfold gtC
 rw [G3 la,G3 la,G3 lb,show D4 12 (a.els.length:Nat)=decide (12 < a.els.length) from A1v 12 _,show D4 12 (b.els.length:Nat)=decide (12 < b.els.length) from A1v 12 _]
 by_cases c1:12 < a.els.length
 ·simp only [c1,decide_true,cond_true,Bool.true_or]
 by_cases c2:12 < b.els.length
 ·simp only [c1,c2,decide_true,decide_false,cond_true,cond_false,Bool.true_or,Bool.or_true]
 simp only [c1,c2,decide_false,cond_false,Bool.false_or]
 have n2:(V.l [V.i v,a,b,V.i u]).nth 2=b:=rfl
 have B:=(B9S (R:=R) (t:=.l [.i v,a,b,.i u]) (l:=b) (ko:=k false) (kr:=k true) (ka:=fun q=>match q with | .o t l n i=>k false | .r t l n i=>k true) (kb:=fun q=>match q with | .o t l n i=>k false | .r t l n i=>k true) (fun _ _=>rfl) (fun _ _=>rfl) (fun _ _=>rfl) (fun _ _=>rfl) b.els [] (A3 FU) rfl hb (by simp only [List.length_nil];omega) (by omega)).2
 refine (B9S (R:=R) (t:=.l [.i v,a,b,.i u]) (l:=a) (ko:=bif b.els.any A1q then k true else k false) (kr:=k true) (kb:=fun q=>match q with | .o t l n i=>bif b.els.any A1q then k true else k false | .r t l n i=>k true) (fun n i=>?_) (fun _ _=>rfl) (fun _ _=>rfl) (fun _ _=>rfl) a.els [] (A3 FU) rfl ha (by simp only [List.length_nil];omega) (by omega)).1.trans ?_
 ·show ln ((V.l [V.i v,a,b,V.i u]).nth 2).els.length _=_
  rw [n2,G3 lb];exact B
 ·cases a.els.any A1q<;>cases b.els.any A1q<;>rfl
def rgg:List V→Bool
 | [l]=>Nat.ble l.els.length 9223372036854775807&&l.els.all fun x=>Nat.ble (M2 (x.nth 1)).els.length 9223372036854775807
 | _=>false
def rgr (b:Nat):List V→List Rs
 | [l]=>[.d b (.b (A2j l.els 0 0))]
 | _=>[]
theorem C53 {b:Nat} {l:V} (h:(D.slice A0i).has l) (hg:rgg [l]=true):rgC l (fun q=>some [Rs.d b (.b q)])=some (rgr b [l]):=by
 have hg:(Nat.ble l.els.length 9223372036854775807&&l.els.all fun x=>Nat.ble (M2 (x.nth 1)).els.length 9223372036854775807)=true:=hg
 simp only [D5V,Nat.ble_eq,List.all_eq_true] at hg
 obtain ⟨g1,g2⟩:=hg
 unfold rgC
 rw [G3 g1]
 exact D00 _ l.els [] 0 (A3 FU) rfl (A0l h) (fun x hx=>g2 x hx) (by decide) (by decide) (by decide) g1 (by have:=A3U;simp only [List.length_nil];omega)
def gtg:List V→Bool
 | [t]=>(Nat.ble (t.nth 1).els.length 9223372036854775807&&(t.nth 1).els.all fun x=>Nat.ble (x.nth 1).els.length 9223372036854775807)&&(Nat.ble (t.nth 2).els.length 9223372036854775807&&(t.nth 2).els.all fun x=>Nat.ble (x.nth 1).els.length 9223372036854775807)
 | _=>false
def gtr (b:Nat):List V→List Rs
 | [t]=>[.d b (.b (A3M t))]
 | _=>[]
theorem C54 {d:Nat} {v u:Int} {a b:V} (hg:gtg [.l [.i v,a,b,.i u]]=true):gtC v u a b (fun q=>some [Rs.d d (.b q)])=some (gtr d [.l [.i v,a,b,.i u]]):=by
 have hg:((Nat.ble a.els.length 9223372036854775807&&a.els.all fun x=>Nat.ble (x.nth 1).els.length 9223372036854775807)&&(Nat.ble b.els.length 9223372036854775807&&b.els.all fun x=>Nat.ble (x.nth 1).els.length 9223372036854775807))=true:=hg
 simp only [D5V,Nat.ble_eq,List.all_eq_true] at hg
 obtain ⟨⟨g1,g2⟩,g3,g4⟩:=hg
 exact D01 _ g2 g4 g1 g3
variable {T:TT} {P:Program} {c:J8} {e:B4} {of of':Nat→Option Ob}
def C55 (c:V):Int:=((c.nth 0).nth 0).int
variable {R:Type}
inductive PNw where
 | m (l:V) (es:List (V×V)) (n:Int) (i:Int)
inductive QNw where
 | o (l:V) (es:List (V×V)) (n:Int) (i:Int)
def BNw (R:Type) (p:PNw) (K:PNw→Option R) (kx:QNw→Option R):Option R :=
 match p with
 | .m l es n i =>
  bif D4 i n then
   ck i ((l.els).length) <|
   Z9 ((((M2 (V.nth (V.nth l i.toNat) 1))).els).length) <|
   K (.m l (A3W (V.nth (V.nth l i.toNat) 0) (V.nth (V.nth l i.toNat) 1) es) n (B3 (i+1)))
   else
   kx (.o l es n i)
abbrev C9R:=@BNw.eq_1
inductive PAi where
 | m (es:List (V×V)) (t:V) (l:V) (h:Int) (b:Bool) (xs:List V) (nl:Bool) (n:Int) (i:Int)
inductive QAi where
 | o (es:List (V×V)) (t:V) (l:V) (h:Int) (b:Bool) (xs:List V) (nl:Bool) (n:Int) (i:Int)
def BAi (R:Type) (p:PAi) (K:PAi→Option R) (kx:QAi→Option R):Option R :=
 match p with
 | .m es t l h b xs nl n i =>
  bif D4 i n then
   ck i ((l.els).length) <|
   bif A0S (V.nth (V.nth l i.toNat) 0) es then
   bif b then
   K (.m es t l h b xs nl n (B3 (i+1)))
   else
   Z9 ((((M2 (A0E (V.nth (V.nth l i.toNat) 0) es))).els).length) <|
   Z9 (xs.length+([(V.put (V.put (.l [(.l [(.l (List.replicate 32 (.i 0))),(.i 0)]),(.l [(.l [(.i 0),.n]),(.i 0),(.b false)])]) 0 (V.nth (V.nth l i.toNat) 0)) 1 (A0E (V.nth (V.nth l i.toNat) 0) es))]).length) <|
   K (.m (A18 (V.nth (V.nth l i.toNat) 0) es) t l h b (xs++[(V.put (V.put (.l [(.l [(.l (List.replicate 32 (.i 0))),(.i 0)]),(.l [(.l [(.i 0),.n]),(.i 0),(.b false)])]) 0 (V.nth (V.nth l i.toNat) 0)) 1 (A0E (V.nth (V.nth l i.toNat) 0) es))]) (nl&&false) n (B3 (i+1)))
   else
   K (.m es t l h b xs nl n (B3 (i+1)))
   else
   kx (.o es t l h b xs nl n i)
abbrev C9S:=@BAi.eq_1
inductive PAo where
 | m (es:List (V×V)) (h:Int) (b:Bool) (xs:List V) (nl:Bool) (d:V) (l:V) (n:Int) (i:Int)
inductive QAo where
 | o (es:List (V×V)) (h:Int) (b:Bool) (xs:List V) (nl:Bool) (d:V) (l:V) (n:Int) (i:Int)
def BAo (R:Type) (p:PAo) (K:PAo→Option R) (kx:QAo→Option R):Option R :=
 match p with
 | .m es h b xs nl d l n i =>
  bif D4 i n then
   ck i ((l.els).length) <|
   bif b then
   Z9 ((((M2 (.l (List.set [(V.nth l i.toNat),(.i h),(.b false)] 2 (.b true))))).els).length) <|
   K (.m (A3W (V.put (V.put (.l [(.l (List.replicate 32 (.i 0))),(.i 0)]) 0 d) 1 (.i (IntKind.wrap .u32 i))) (.l (List.set [(V.nth l i.toNat),(.i h),(.b false)] 2 (.b true))) es) h b xs nl d l n (B3 (i+1)))
   else
   Z9 ((((M2 (.l (List.set [(V.nth l i.toNat),(.i h),(.b false)] 2 (.b false))))).els).length) <|
   K (.m (A3W (V.put (V.put (.l [(.l (List.replicate 32 (.i 0))),(.i 0)]) 0 d) 1 (.i (IntKind.wrap .u32 i))) (.l (List.set [(V.nth l i.toNat),(.i h),(.b false)] 2 (.b false))) es) h b xs nl d l n (B3 (i+1)))
   else
   kx (.o es h b xs nl d l n i)
abbrev C9T:=@BAo.eq_1
def A8M:List V→List (V×V)→List (V×V)
 | [],es=>es
 | x::r,es=>A8M r (A3W (x.nth 0) (x.nth 1) es)
theorem D02 {l:V} (kx:QNw→Option R):∀ (r a:List V) (es:List (V×V)) (fuel:Nat),l.els=a++r→(∀ x∈r,(M2 (x.nth 1)).els.length≤1000000)→a.length+r.length≤100000→r.length < fuel →
  C8 (BNw R) fuel (.m l es (l.els.length:Nat) (a.length:Nat)) kx=kx (.o l (A8M r es) (l.els.length:Nat) (l.els.length:Nat)):=by
 intro r
 induction r with
 | nil =>
  intro a es fuel he hg ha hf
  obtain ⟨f,rfl⟩:∃ f,fuel=f+1:=⟨fuel - 1,by omega⟩
  rw [List.append_nil] at he
  rw [C8,C9R,B7S he,cond_false,he];rfl
 | cons x r ih =>
  intro a es fuel he hg ha hf
  obtain ⟨f,rfl⟩:∃ f,fuel=f+1:=⟨fuel - 1,by simp at hf;omega⟩
  simp only [D52] at ha hf
  have hle:l.els.length=a.length+(r.length+1):=by rw [he];simp
  have hat:l.nth ((a.length:Nat):Int).toNat=x:=A1g he
  have hx:=hg x (by simp)
  have ih:=ih (a++[x]) (A3W (x.nth 0) (x.nth 1) es) f (by rw [he];simp) (fun y hy=>hg y (by simp [hy]))
  simp only [D5W,D53] at ih
  rw [C8,C9R,B7R he,cond_true,H0 (by omega) (by omega),hat,E3 (by omega),A0h (by omega),ih (by omega) (by omega)];rfl
def hiC (c:V):Int:=(c.nth 1).int
def okM (es:List (V×V)):Prop:=∀ p∈es,0≤C55 p.2∧C55 p.2≤MM∧0≤hiC p.2∧hiC p.2≤1000000000∧(M2 p.2).els.length≤300
theorem A6I {k:V}:∀ {es:List (V×V)},A0S k es=true→(k,A0E k es)∈es:=by
 intro es
 induction es with
 | nil=>intro h;cases h
 | cons p r ih =>
  intro h
  simp only [A0S,Bool.or_eq_true] at h
  simp only [A0E]
  cases hp:U7 p.1 k with
  | true =>
   have:=(M9 _ _).1 hp
   subst this
   simp
  | false =>
   rw [hp] at h
   simp only [cond_false]
   exact List.mem_cons_of_mem _ (ih (h.resolve_left (by simp)))
def B7T (b:Bool):List V→List (V×V)→List V→List (V×V)×List V
 | [],es,xs=>(es,xs)
 | x::r,es,xs=>bif A0S (x.nth 0) es&&!b then B7T b r (A18 (x.nth 0) es) (xs++[.l [x.nth 0,A0E (x.nth 0) es]]) else B7T b r es xs
theorem C56 {k:V} {es:List (V×V)} (h:okM es):okM (A18 k es):=by
 induction es with
 | nil=>exact h
 | cons p r ih =>
  simp only [A18]
  have ihr:=ih (fun q hq=>h q (by simp [hq]))
  cases U7 p.1 k
  ·simp only [cond_false]
   intro q hq
   rcases List.mem_cons.1 hq with rfl | hq
   ·exact h _ (by simp)
   ·exact ihr q hq
  ·exact ihr
theorem D03 (a b:V):V.put (V.put (.l [(.l [(.l (List.replicate 32 (.i 0))),(.i 0)]),(.l [(.l [(.i 0),.n]),(.i 0),(.b false)])]) 0 a) 1 b=.l [a,b]:=rfl
def D3y (h:Int) (b:Bool) (o:V):V:=.l [o,.i h,.b b]
def D3z (d:V) (i:Int):V:=.l [d,.i (IntKind.wrap .u32 i)]
def D3A (d:V) (h:Int) (b:Bool):List V→Nat→List (V×V)→List (V×V)
 | [],_,es=>es
 | o::r,i,es=>D3A d h b r (i+1) (A3W (D3z d i) (D3y h b o) es)
theorem D04 {d l:V} {h:Int} {b:Bool} {xs:List V} {nl:Bool} (kx:QAo→Option R):∀ (r a:List V) (es:List (V×V)) (fuel:Nat),l.els=a++r→(∀ o∈r,(o.nth 1).els.length≤1000000)→a.length+r.length≤100000→r.length < fuel →
  C8 (BAo R) fuel (.m es h b xs nl d l (l.els.length:Nat) (a.length:Nat)) kx=kx (.o (D3A d h b r a.length es) h b xs nl d l (l.els.length:Nat) (l.els.length:Nat)):=by
 intro r
 induction r with
 | nil =>
  intro a es fuel he hg ha hf
  obtain ⟨f,rfl⟩:∃ f,fuel=f+1:=⟨fuel - 1,by omega⟩
  rw [List.append_nil] at he
  rw [C8,C9T,B7S he,cond_false,he];rfl
 | cons o r ih =>
  intro a es fuel he hg ha hf
  obtain ⟨f,rfl⟩:∃ f,fuel=f+1:=⟨fuel - 1,by simp at hf;omega⟩
  simp only [D52] at ha hf
  have hle:l.els.length=a.length+(r.length+1):=by rw [he];simp
  have hat:l.nth ((a.length:Nat):Int).toNat=o:=A1g he
  have hx:(o.nth 1).els.length≤1000000:=hg o (by simp)
  have ih:=ih (a++[o]) (A3W (D3z d (a.length:Nat)) (D3y h b o) es) f (by rw [he];simp) (fun y hy=>hg y (by simp [hy]))
  simp only [D5W,D53] at ih
  have l1:∀ q:Bool,(M2 (.l (List.set [o,.i h,.b false] 2 (.b q)))).els.length≤1000000:=fun q=>hx
  rw [C8,C9T,B7R he,cond_true,H0 (by omega) (by omega),hat,E3 (Nat.le_trans (l1 _) (by decide)),E3 (Nat.le_trans (l1 _) (by decide)),A0h (by omega)]
  cases b
  ·exact ih (by omega) (by omega)
  ·exact ih (by omega) (by omega)
variable {R:Type}
variable {R:Type}
def kN (es:List (V×V)):Prop:=(es.map (·.1)).Nodup
theorem B9T {k:V}:∀ {es:List (V×V)},A0S k es=true↔k∈es.map (·.1):=by
 intro es
 induction es with
 | nil=>simp [A0S]
 | cons p r ih =>
  simp only [A0S,Bool.or_eq_true,M9,ih,List.map_cons,List.mem_cons]
  exact ⟨fun h=>h.imp Eq.symm id,fun h=>h.imp Eq.symm id⟩
theorem A6J {k:V}:∀ {es:List (V×V)},(A18 k es).Sublist es:=by
 intro es
 induction es with
 | nil=>exact .slnil
 | cons p r ih =>
  simp only [A18]
  cases U7 p.1 k
  ·exact ih.cons_cons p
  ·exact ih.cons p
theorem B9U {k:V} {es:List (V×V)} (h:kN es):kN (A18 k es):=h.sublist ((A6J).map _)
theorem C57 {k:V}:∀ {es:List (V×V)},A0S k (A18 k es)=false:=by
 intro es
 induction es with
 | nil=>rfl
 | cons p r ih =>
  simp only [A18]
  cases hp:U7 p.1 k with
  | true=>exact ih
  | false=>simp only [cond_false,A0S,hp,ih,Bool.or_self]
theorem B9V {k x:V} {es:List (V×V)} (h:kN es):kN (A3W k x es):=by
 refine List.nodup_cons.2 ⟨fun hm=>?_,B9U h⟩
 have:=B9T.2 hm
 rw [C57] at this;cases this
theorem B7U:∀ (r:List V) (es:List (V×V)),kN es→kN (A8M r es)∧(A8M r es).length≤es.length+r.length∧∀ p∈A8M r es,p∈es∨∃ x∈r,p=(x.nth 0,x.nth 1):=by
 intro r
 induction r with
 | nil=>intro es h;exact ⟨h,Nat.le_refl _,fun p hp=>.inl hp⟩
 | cons x r ih =>
  intro es h
  obtain ⟨i1,i2,i3⟩:=ih (A3W (x.nth 0) (x.nth 1) es) (B9V h)
  have hl:=(A6J (k:=x.nth 0) (es:=es)).length_le
  refine ⟨i1,?_,fun p hp=>?_⟩
  ·have:(A3W (x.nth 0) (x.nth 1) es).length=(A18 (x.nth 0) es).length+1:=rfl
   simp only [D52]
   show (A8M r (A3W (x.nth 0) (x.nth 1) es)).length≤_
   omega
  ·rcases i3 p hp with h1 | ⟨y,hy,rfl⟩
   ·rcases List.mem_cons.1 h1 with rfl | h1
    ·exact .inr ⟨x,by simp,rfl⟩
    ·exact .inl (A6J.mem h1)
   ·exact .inr ⟨y,by simp [hy],rfl⟩
theorem B2k:∀ (r:List V) (i:Nat) (s:Int),A2j r i s=true→(∀ x∈r,A32 (x.nth 1)=true)∧(i≤31→i+r.length≤31):=by
 intro r
 induction r with
 | nil=>intro i s _;exact ⟨fun x hx=>(by cases hx),fun h=>h⟩
 | cons x r ih =>
  intro i s h
  simp only [A2j] at h
  cases hc:decide (i≤30)&&A32 (x.nth 1) with
  | false=>rw [hc] at h;cases h
  | true =>
   rw [hc] at h
   simp only [D5V,D56] at hc
   obtain ⟨i1,i2⟩:=ih _ _ h
   refine ⟨fun y hy=>?_,fun _=>?_⟩
   ·rcases List.mem_cons.1 hy with rfl | hy
    ·exact hc.2
    ·exact i1 y hy
   ·have:=i2 (by omega)
    simp only [D52];omega
theorem A33 {c:V} (h:A32 c=true):0≤C55 c∧C55 c≤MM∧0≤hiC c∧hiC c≤1000000000∧(M2 c).els.length≤300:=by
 unfold A32 at h
 rw [D56] at h
 exact ⟨h.1,h.2.1,h.2.2.2.1,h.2.2.2.2,h.2.2.1⟩
theorem D3B {l t h:V} (hl:(D.slice A0i).has l) (ht:DTx.has t) (hm:D.smL [.slice A0i,DTx,.int .i64] [l,t,h]):rgg [l]=true∧gtg [t]=true:=by
 obtain ⟨m1,m2,_⟩:=hm
 constructor
 ·show (Nat.ble l.els.length 9223372036854775807&&l.els.all fun x=>Nat.ble (M2 (x.nth 1)).els.length 9223372036854775807)=true
  simp only [D5V,Nat.ble_eq,List.all_eq_true]
  refine ⟨m1.1,fun x hx=>?_⟩
  have hs:=m1.2 x hx
  obtain ⟨r0,c,rfl,_,hc⟩:=A6x (A0l hl x hx)
  obtain ⟨v,kk,hh,q,rfl,_⟩:=A6d hc
  exact hs.2.1.1.2.1.1
 ·obtain ⟨v,a,b,u,rfl,_,ha,hb,_⟩:=B9h ht
  show ((Nat.ble a.els.length 9223372036854775807&&a.els.all fun x=>Nat.ble (x.nth 1).els.length 9223372036854775807)&&(Nat.ble b.els.length 9223372036854775807&&b.els.all fun x=>Nat.ble (x.nth 1).els.length 9223372036854775807))=true
  simp only [D5V,Nat.ble_eq,List.all_eq_true]
  refine ⟨⟨m2.2.1.1,fun x hx=>?_⟩,m2.2.2.1.1,fun x hx=>?_⟩
  ·have hs:=m2.2.1.2 x hx
   obtain ⟨r,bb,n,rfl,_⟩:=D4o (A0l ha x hx)
   exact hs.2.1.1
  ·have hs:=m2.2.2.1.2 x hx
   obtain ⟨w,kk,rfl,_⟩:=C9Q (A0l hb x hx)
   exact hs.2.1.1
variable {R:Type}
variable {R:Type}
variable {R:Type}
variable {T:TT} {P:Program}
variable {R:Type}
variable {R:Type}
variable {R:Type}
variable {R:Type}
variable {R:Type}
variable {P:Program} {T:TT} {c:J8} {e:B4} {of:Nat→Option Ob}
variable {a kt st el:Nat} {es es':List (V×V×Bool)} {bs:List Nat}
variable {P:Program} {T:TT} {c:J8} {e:B4} {of:Nat→Option Ob}
def J8.here (e:B4) (of:Nat→Option Ob) (rd:Option Nat):J8:={ w0:=e.w,M:=fun b=>(∃ id o,(of id).isSome∧e.ι id=some (b,o))∨∃ a,e.G a b,S0:=e.S,rd:=rd }
theorem A5.here (h:A5 T c e of) (rd:Option Nat):A5 T (J8.here e of rd) e of :=
 ⟨h.ok,h.sep,fun id b o hi hb=>.inr (.inl ⟨id,o,hi,hb⟩),h.lt,h.slt,fun _ _ q=>q,fun _ _ q=>.inl q,rfl,rfl,rfl,Nat.le_refl _,fun _ _ _=>rfl,⟨h.g.sep,h.g.uniq,fun a b hG=>.inr (.inr ⟨a,hG⟩),h.g.lt⟩⟩
theorem A5.back_here (h:A5 T c e of) {rd:Option Nat} {e':B4} {of':Nat→Option Ob} (h':A5 T (J8.here e of rd) e' of'):A5 T c e' of':=by
 have hM:∀ b,(J8.here e of rd).M b→c.w0.heap.size≤b∨c.M b:=fun b hb=>by
  rcases hb with ⟨id,o,hi,hb⟩ | ⟨a,hG⟩
  ·exact h.own _ _ _ hi hb
  ·exact h.g.own _ _ hG
 have hsz:c.w0.heap.size≤e.w.heap.size:=h.size
 have hown:∀ b,((J8.here e of rd).w0.heap.size≤b∨(J8.here e of rd).M b)→c.w0.heap.size≤b∨c.M b:=fun b hb=>hb.elim (fun q=>.inl (Nat.le_trans hsz q)) (hM b)
 refine ⟨h'.ok,h'.sep,fun id b o hi hb=>hown b (h'.own id b o hi hb),h'.lt,h'.slt,fun b i hs=>h'.s0 b i (h.s0 b i hs),fun b i hs=>?_,h'.os.trans h.os,h'.tape.trans h.tape,h'.output.trans h.output,Nat.le_trans hsz h'.size,fun k hk hm=>?_,⟨h'.g.sep,h'.g.uniq,fun a b hG=>hown b (h'.g.own a b hG),h'.g.lt⟩⟩
 ·rcases h'.snew b i hs with hs | hs
  ·exact h.snew b i hs
  ·exact .inr (hown b hs)
 ·have hnm:¬ (J8.here e of rd).M k:=fun q=>by
   rcases hM k q with h1 | h1
   ·omega
   ·exact hm h1
  exact (h'.block k (Nat.lt_of_lt_of_le hk hsz) hnm).trans (h.block k hk hm)
def B4.bare (w:World) (S:Nat→Nat→Prop):B4:={ w:=w,ι:=fun _=>none,S:=S,bn:=fun _=>0,U:=fun _=>False,ty:=fun _=>0,ln:=fun _=>0,G:=fun _ _=>False }
def J8.bare (w:World) (S:Nat→Nat→Prop):J8:={ w0:=w,M:=fun _=>False,S0:=S }
theorem A5.bare {w:World} {S:Nat→Nat→Prop} (hS:∀ b i,S b i→b < w.heap.size):A5 T (J8.bare w S) (B4.bare w S) (fun _=>none) :=
 ⟨fun _ _ q=>(by cases q),fun _ _ _ _ _ _ q=>(by cases q),fun _ _ _ q=>(by cases q),fun _ _ _ q=>q.elim,hS,fun _ _ q=>q,fun _ _ q=>.inl q,rfl,rfl,rfl,Nat.le_refl _,fun _ _ _=>rfl,⟨fun _ _ q=>q.elim,fun _ _ _ q=>q.elim,fun _ _ q=>q.elim,fun _ _ q=>q.elim⟩⟩
open Classical in
variable {P:Program} {T:TT} {c:J8} {e:B4} {of:Nat→Option Ob}
variable {P:Program} {T:TT} {c:J8} {e:B4} {of:Nat→Option Ob}
variable {P:Program} {T:TT} {c:J8} {e:B4} {of:Nat→Option Ob}
theorem B4f {α β:Type} [DecidableEq β] (f:α→β) (p p':α→Bool):∀ (L:List α) (a:α),(L.map f).Nodup→a∈L→p a=false→(∀ y∈L,p' y=(p y||decide (f y=f a)))→(L.filter p').Perm (a::L.filter p):=by
 intro L
 induction L with
 | nil=>intro a _ h;cases h
 | cons y r ih =>
  intro a hn ha hp hp'
  simp only [List.map_cons,List.nodup_cons] at hn
  rcases List.mem_cons.1 ha with rfl | ha
  ·have h1:p' a=true:=by rw [hp' a (by simp)];simp
   have h2:r.filter p'=r.filter p:=by
    refine List.filter_congr (fun z hz=>?_)
    rw [hp' z (by simp [hz])]
    have:¬ f z=f a:=fun q=>hn.1 (by rw [← q];exact List.mem_map_of_mem hz)
    simp [this]
   rw [List.filter_cons_of_pos h1,List.filter_cons_of_neg (by simp [hp]),h2]
  ·have hne:¬ f y=f a:=fun q=>hn.1 (by rw [q];exact List.mem_map_of_mem ha)
   have h1:p' y=p y:=by rw [hp' y (by simp)];simp [hne]
   have ih:=ih a hn.2 ha hp (fun z hz=>hp' z (by simp [hz]))
   cases hpy:p y with
   | true =>
    rw [List.filter_cons_of_pos (by rw [h1,hpy]),List.filter_cons_of_pos hpy]
    exact (ih.cons y).trans (List.Perm.swap _ _ _)
   | false =>
    rw [List.filter_cons_of_neg (by rw [h1,hpy];simp),List.filter_cons_of_neg (by rw [hpy];simp)]
    exact ih
open Go.RowKit Go.Sort
variable {R:Type}
open Go.RowKit Go.Sort
variable {R:Type}
open Go.RowKit Go.Sort
variable {R:Type}
theorem E0 (a b:Int):F2 a b=decide (a≤b):=by simp [F2]
theorem F0 (a b:Int):D4 a b=decide (a < b):=by simp [D4]
theorem F6 {x:Int} {n:Nat} (h:x=(n:Int)) (hn:n < 1000000000):B3 x=(n:Int):=by rw [G8 (by omega) (by omega),h]
open Go.RowKit Go.Sort
variable {R:Type}
theorem C58 {T:TT} {c:J8} {e:B4} {of:Nat→Option Ob} {nx n m:Nat} {v:A} {wo:List (Nat×Ob)} {ro ro':List Nat} {x:Value} {w:World} (h:n≤m)
  (hl:V2 T c e of nx ⟨v,wo,ro,n⟩ x w):V2 T c e of nx ⟨v,wo,ro',m⟩ x w:=by
 obtain ⟨e',h1,h2,h3,h4,h5⟩:=hl
 refine ⟨e',h1,h2,h3,fun id A3=>?_,h5⟩
 rcases h4 id A3 with h | ⟨h6,h7⟩
 ·exact .inl h
 ·exact .inr ⟨h6,Nat.lt_of_lt_of_le h7 h⟩
def N3 {X:Type} (rec:List A→(Nat→Option Ob)→Nat→Option X) (g:X→Bool) (F:X→H9):D7:=fun R args of nx k =>
 match rec args of nx with
 | some x=>bif g x then k (F x) else none
 | none=>none
theorem C9 {X:Type} {rec:List A→(Nat→Option Ob)→Nat→Option X} {g:X→Bool} {F:X→H9}:(N3 rec g F).nat:=by
 intro R args of nx k
 unfold D7.dir N3
 cases rec args of nx with
 | none=>rfl
 | some x=>simp only;cases g x<;>rfl
theorem A6e {P:Program} {T:TT} {X:Type} {f:Nat} {rec:List A→(Nat→Option Ob)→Nat→Option X} {g:X→Bool} {F:X→H9} {s:Sym} (hs:J2 P T f s)
  (h:∀ args of nx x,rec args of nx=some x→g x=true→∃ n ro of0,n≤(F x).nx∧s args of0 nx=some ⟨(F x).val,(F x).wo,ro,n⟩∧∀ id∈ro,of id=of0 id):R0 P T f (N3 rec g F).dir:=by
 intro c e of args vals nx out hos hr hu hv
 unfold D7.dir N3 at hr
 cases hx:rec args of nx with
 | none=>rw [hx] at hr;cases hr
 | some x =>
 rw [hx] at hr
 simp only at hr
 cases hg:g x with
 | false=>rw [hg] at hr;cases hr
 | true =>
 rw [hg] at hr
 simp only [cond_true,D5X] at hr
 subst hr
 obtain ⟨n,ro,of0,h1,h2,h3⟩:=h args of nx x hx hg
 have:=hs c e of0 of args vals nx _ hos h2 h3 (fun id h3 h4=>hu id h3 (Nat.lt_of_lt_of_le h4 h1)) hv
 exact E8 this (fun x w hl=>C58 h1 hl)
open Go.RowKit Go.Sort
variable {R:Type}
def A1P {α β:Type} (f:α→β):α→β:=Classical.choose (⟨f,rfl⟩:∃ g,g=f)
theorem E2 {α β:Type} (f:α→β):A1P f=f:=Classical.choose_spec (⟨f,rfl⟩:∃ g,g=f)
theorem A34 {o:Ob} {of:Nat→Option Ob} (h:of 0=some o) {ro:List Nat} (hr:∀ id∈ro,id=0):∀ id∈ro,of id=ofL [o] id:=fun id A3=>by
 rw [hr id A3,h];rfl
variable {P:Program} {T:TT}
open Go.RowKit Go.Sort
variable {R:Type}
theorem R7 {n:Nat} (h:n < 100000000):n < A3 FU:=by rw [A27];exact Nat.lt_of_lt_of_le h (by decide)
open Go.RowKit Go.Sort
variable {P:Program} {T:TT}
def C59 (b:Code):Nat:=1000 * (N0 b).length+A5v b
def D05 (l:List (Nat×LS)):LC:=fun b=>B3H l (C59 b)
theorem B9W {l:List (Nat×LS)} (h:∀ p∈l,LS.nat p.2):A2c (D05 l):=fun b s hs=>by
 obtain ⟨k,hk⟩:=B0t hs
 exact h _ hk
def B0y (n0:Nat) (l:List (Nat×LS)):Nat→LC:=fun n=>bif Nat.beq n n0 then D05 l else fun _=>none
theorem A0a {f:Nat} (n0:Nat) {l:List (Nat×LS)} (hn:∀ p∈l,LS.nat p.2) (n:Nat) (hl:Nat.beq (N0 (H2 P f)).length n=true) (h:C5e P T (D05 l) (A6b P f) n0 (H2 P f) n):H1 P T f (B0y n0 l):=by
 refine ⟨fun m=>?_,fun m fn code h1 h2=>?_⟩
 ·unfold B0y
  cases Nat.beq m n0
  ·exact A7
  ·exact B9W hn
 ·unfold B0y
  cases hm:Nat.beq m n0 with
  | false=>exact A4 code
  | true =>
   have:=D5U hm;subst this
   simp only [cond_true]
   have:=V8 n hl h
   simpa only [H2,A6b,h1,h2] using this
open Go.RowKit Go.Sort
variable {R:Type}
open Go.RowKit Go.Sort
variable {R:Type}
def xr1 (r:Int):Int:=H6 .xor .u64 r (WU (r * 8192))
def xr2 (r:Int):Int:=H6 .xor .u64 r (Int.fdiv r 128)
def xr3 (r:Int):Int:=H6 .xor .u64 r (WU (r * 131072))
def xrN (r:Int):Int:=xr3 (xr2 (xr1 r))
def xrO (r m:Int):Int:=B3 (H6 .and .u64 r (WU (m - 1)))
theorem D06 {r:Nat} (h:r < 18446744073709551616):xrN (r:Int)=((xorNextN r:Nat):Int)∧xorNextN r < 18446744073709551616:=by
 have p:(18446744073709551616:Nat)=2 ^ 64:=by decide
 refine ⟨?_,xorNextN_lt r h⟩
 have h1:xr1 (r:Int)=((r ^^^ (r * 8192 % 18446744073709551616):Nat):Int):=by
  rw [xr1,show ((r:Int) * 8192)=((r * 8192:Nat):Int) by omega,D26,A2D h (Nat.mod_lt _ (by decide))]
 have l1:r ^^^ (r * 8192 % 18446744073709551616) < 18446744073709551616:=by
  rw [p];exact Nat.xor_lt_two_pow (by omega) (by omega)
 unfold xorNextN
 simp only []
 rw [xrN,h1]
 generalize r ^^^ (r * 8192 % 18446744073709551616)=a at l1
 have h2:xr2 (a:Int)=((a ^^^ (a / 128):Nat):Int):=by
  rw [xr2,show Int.fdiv (a:Int) 128=((a / 128:Nat):Int) from by rw [Int.fdiv_eq_ediv_of_nonneg _ (by omega)];omega,A2D l1 (by omega)]
 have l2:a ^^^ (a / 128) < 18446744073709551616:=by
  rw [p];exact Nat.xor_lt_two_pow (by omega) (by omega)
 rw [h2]
 generalize a ^^^ (a / 128)=b at l2
 rw [xr3,show ((b:Int) * 131072)=((b * 131072:Nat):Int) by omega,D26,A2D l2 (Nat.mod_lt _ (by decide))]
theorem C6a {r m:Nat} (hr:r < 18446744073709551616) (h1:1≤m) (hm:m < 100000000):xrO (r:Int) (m:Int)=((r &&& (m - 1):Nat):Int)∧r &&& (m - 1)≤m - 1:=by
 refine ⟨?_,Nat.and_le_right⟩
 have:=@Nat.and_le_right r (m - 1)
 rw [xrO,show ((m:Int) - 1)=((m - 1:Nat):Int) by omega,C4 (by omega),A8p hr (by omega)]
 exact F6 rfl (by omega)
open Go.RowKit Go.Sort
variable {R:Type} {P:Program} {T:TT}
def bxI (it:Nat):A→Option Int
 | .i .i64 n=>some n
 | .v t (.i n)=>bif Nat.beq t it then some n else none
 | _=>none
theorem B9X {X:Type} {f:Nat} {rec:List A→(Nat→Option Ob)→Nat→Option X} {g:X→Bool} {F:X→H9} {s:Sym} (hs:J2 P T f s)
  (h:∀ args of nx x,rec args of nx=some x→g x=true→∃ n ro of0 of1,n≤(F x).nx∧s args of0 nx=some ⟨(F x).val,(F x).wo,ro,n⟩∧(∀ id∈ro,of1 id=of0 id)∧(∀ c e,A5 T c e of→A5 T c e of1)∧put of1 (F x).wo=put of (F x).wo):R0 P T f (N3 rec g F).dir:=by
 intro c e of args vals nx out hos hr hu hv
 unfold D7.dir N3 at hr
 cases hx:rec args of nx with
 | none=>rw [hx] at hr;cases hr
 | some x =>
 rw [hx] at hr
 simp only at hr
 cases hg:g x with
 | false=>rw [hg] at hr;cases hr
 | true =>
 rw [hg] at hr
 simp only [cond_true,D5X] at hr
 subst hr
 obtain ⟨n,ro,of0,of1,h1,h2,h3,h4,h5⟩:=h args of nx x hx hg
 have:=hs c e of0 of1 args vals nx _ (h4 c e hos) h2 h3 (fun id h3 h4=>hu id h3 (Nat.lt_of_lt_of_le h4 h1)) hv
 refine E8 this (fun x w hl=>?_)
 obtain ⟨e',g1,g2,g3,g4,g5⟩:=hl
 refine ⟨e',g1,?_,g3,fun id A3=>?_,g5⟩
 ·rw [← h5];exact g2
 ·rcases g4 id A3 with g6 | ⟨g6,g7⟩
  ·exact .inl g6
  ·exact .inr ⟨g6,Nat.lt_of_lt_of_le g7 h1⟩
theorem A5.ibox {c:J8} {e:B4} {of:Nat→Option Ob} (h:A5 T c e of) {id it:Nat} {k:IntKind} {n:Int} {sh:Bool} (ho:of id=some (.box it (.v it (.i n)) sh)) (hk:C5 T it=some (.int k)) (hz:B8 T it=1) :
  A5 T c e (F8 of id (some (.box it (.i k n) sh))):=by
 have hs:∀ j,(F8 of id (some (.box it (.i k n) sh)) j).isSome→(of j).isSome:=fun j hj=>by
  by_cases hji:j=id
  ·subst hji;rw [ho];rfl
  ·rw [upd_ne _ _ hji] at hj;exact hj
 refine ⟨fun j o hj=>?_,fun j j' b o b' o' h1 h2=>h.sep j j' b o b' o' (hs j h1) (hs j' h2),fun j b o h1=>h.own j b o (hs j h1),h.lt,h.slt,h.s0,h.snew,h.os,h.tape,h.output,h.size,h.block,
  ⟨fun a b hg j b' o hj=>h.g.sep a b hg j b' o (hs j hj),h.g.uniq,h.g.own,h.g.lt⟩⟩
 by_cases hji:j=id
 ·subst hji
  rw [upd_same] at hj;cases hj
  obtain ⟨h1,h2,h3,h4,b,cs,ty,fz,h5,h6,h7,h8,h9,h10⟩:=h.ok _ _ ho
  refine ⟨h1,h2,h3,?_,b,cs,ty,fz,h5,h6,h7,h8,?_,h10⟩
  ·simp only [D2,hk,hz];cases k<;>rfl
  ·generalize cs.toList=l at h9 ⊢
   cases h9 with
   | v hv hr =>
    obtain ⟨m,e1,e2,e3⟩:=hv.int_inv hk
    cases e1;subst e2
    exact .i e3 hr
   | r h1 _ _=>cases h1
 ·rw [upd_ne _ _ hji] at hj
  exact h.ok j o hj
open Go.RowKit Go.Sort
variable {R:Type}
open Go.RowKit Go.Sort
variable {R:Type} {P:Program} {T:TT}
theorem B7V {X:Type} {f:Nat} {rec:List A→(Nat→Option Ob)→Nat→Option X} {g:X→Bool} {F:X→H9} (h:∀ x,g x=false):R0 P T f (N3 rec g F).dir:=by
 intro c e of args vals nx out hos hr hu hv
 unfold D7.dir N3 at hr
 cases hx:rec args of nx with
 | none=>rw [hx] at hr;cases hr
 | some x=>rw [hx] at hr;simp only [h x] at hr;cases hr
open Go.RowKit Go.Sort
variable {R:Type}
open Go.RowKit Go.Sort
variable {R:Type}
noncomputable section
open Go.RowKit Go.Sort
variable {R:Type}
instance:Inhabited V:=⟨.n⟩
def cmR (x y:V):Int:=A1P (fun p:V×V=>J7 (X6 p.1) (X6 p.2)) (x,y)
theorem A0D (x y:V):cmR x y=J7 (X6 x) (X6 y):=by rw [cmR,E2]
theorem A6K:∀ a:List V,J7 a a=0
 | []=>rfl
 | a::x=>by
  have h:D4 a.int a.int=false:=by rw [F0,decide_eq_false (by omega)]
  rw [J7,h];exact A6K x
theorem A1r:∀ a b c:List V,(J7 a b < 0→J7 b c≤0→J7 a c < 0)∧(J7 a b≤0→J7 b c < 0→J7 a c < 0)∧(J7 a b≤0→J7 b c≤0→J7 a c≤0)∧(0≤J7 a b→0≤J7 b c→0≤J7 a c)
 | [],[],[]=>by simp [J7]
 | [],[],_::_=>by simp [J7]
 | [],_::_,[]=>by simp [J7]
 | [],_::_,_::_=>by simp [J7]
 | _::_,[],[]=>by simp [J7]
 | _::_,[],_::_=>by simp [J7]
 | _::_,_::_,[]=>by simp [J7]
 | a::x,b::y,c::z=>by
  have ih:=A1r x y z
  simp only [J7,F0]
  rcases Int.lt_trichotomy a.int b.int with h1 | h1 | h1
  ·rcases Int.lt_trichotomy b.int c.int with h2 | h2 | h2
   ·have h3:a.int < c.int:=by omega
    simp [h1,h2,h3]
   ·have h3:a.int < c.int:=by omega
    simp [h1,h3]
   ·have h4:¬ b.int < c.int:=by omega
    simp [h1,h2,h4]
  ·rcases Int.lt_trichotomy b.int c.int with h2 | h2 | h2
   ·have h3:a.int < c.int:=by omega
    simp [h2,h3]
   ·have h3:¬ a.int < c.int:=by omega
    have h4:¬ c.int < a.int:=by omega
    have h5:¬ a.int < b.int:=by omega
    have h6:¬ b.int < a.int:=by omega
    have h7:¬ b.int < c.int:=by omega
    have h8:¬ c.int < b.int:=by omega
    simp only [h3,h4,h5,h6,h7,h8,decide_false,cond_false]
    exact ih
   ·have h3:c.int < a.int:=by omega
    have h4:¬ a.int < c.int:=by omega
    have h5:¬ b.int < c.int:=by omega
    simp [h2,h3,h4,h5]
  ·have h5:¬ a.int < b.int:=by omega
   rcases Int.lt_trichotomy b.int c.int with h2 | h2 | h2
   ·simp [h1,h5,h2]
   ·have h3:c.int < a.int:=by omega
    have h4:¬ a.int < c.int:=by omega
    simp [h1,h5,h3,h4]
   ·have h3:c.int < a.int:=by omega
    have h4:¬ a.int < c.int:=by omega
    simp [h1,h5,h3,h4]
theorem A2k:∀ a b:List V,J7 a b = - J7 b a
 | [],[]=>rfl
 | [],_::_=>rfl
 | _::_,[]=>rfl
 | a::x,b::y=>by
  have ih:=A2k x y
  simp only [J7,F0]
  rcases Int.lt_trichotomy a.int b.int with h | h | h
  ·have h2:¬ b.int < a.int:=by omega
   simp [h,h2]
  ·have h1:¬ a.int < b.int:=by omega
   have h2:¬ b.int < a.int:=by omega
   simp [h1,h2,ih]
  ·have h1:¬ a.int < b.int:=by omega
   simp [h,h1]
def A8 (x y:V):Bool:=decide (cmR x y < 0)
theorem A0L:SWO A8 where
 irrefl x:=by simp [A8,A0D,A6K]
 trans x y z h1 h2:=by
  simp only [A8,A0D,D56] at *
  exact (A1r _ _ _).1 h1 (by omega)
 ntrans x y z h1 h2:=by
  simp only [A8,A0D,decide_eq_false_iff_not,Int.not_lt] at *
  exact (A1r _ _ _).2.2.2 h1 h2
def B6 (d:Array V):List V:=d.toList
def A1s (xs:List V):Array V:=xs.toArray
def A3w (xs:List V) (i j:Int) (t e:Option R):Option R :=
 ck i xs.length <| ck j xs.length <| bif D4 (cmR (List.getD xs i.toNat .n) (List.getD xs j.toNat .n)) 0 then t else e
def A02 (xs:List V) (i j:Int) (k:List V→Option R):Option R :=
 ck j xs.length <| ck i xs.length <| ck i xs.length <| ck j (List.set xs i.toNat (List.getD xs j.toNat .n)).length <|
 k (List.set (List.set xs i.toNat (List.getD xs j.toNat .n)) j.toNat (List.getD xs i.toNat .n))
theorem Q5 (d:Array V):(B6 d).length=d.size:=by simp [B6]
theorem A35 {d:Array V} {i:Nat} (h:i < d.size):List.getD (B6 d) i .n=d[i]! := by
 simp [B6,List.getD,h]
theorem B2l {d:Array V} {i:Nat} {x:V}:List.set (B6 d) i x=B6 (d.setIfInBounds i x):=by
 simp [B6]
theorem C0 (d:Array V) (i j:Nat):(swp d i j).size=d.size:=by simp [swp]
theorem J1 {d:Array V} {i j:Int} {a b:Nat} {t e:Option R} (hi:i=(a:Int)) (hj:j=(b:Int)) (ha:a < d.size) (hb:b < d.size) :
  A3w (B6 d) i j t e=bif A8 d[a]! d[b]! then t else e:=by
 subst hi hj
 unfold A3w
 rw [H0 (by omega) (by rw [Q5];omega),H0 (by omega) (by rw [Q5];omega)]
 simp only [Int.toNat_natCast]
 rw [A35 ha,A35 hb]
 have:D4 (cmR d[a]! d[b]!) 0=A8 d[a]! d[b]! := by simp [D4,A8]
 rw [this]
theorem N6 {d:Array V} {i j:Int} {a b:Nat} {k:List V→Option R} (hi:i=(a:Int)) (hj:j=(b:Int)) (ha:a < d.size) (hb:b < d.size) :
  A02 (B6 d) i j k=k (B6 (swp d a b)):=by
 subst hi hj
 unfold A02
 rw [H0 (by omega) (by rw [Q5];omega),H0 (by omega) (by rw [Q5];omega),H0 (by omega) (by rw [Q5];omega),H0 (by omega) (by simp [Q5];omega)]
 simp only [Int.toNat_natCast]
 rw [A35 ha,A35 hb,B2l,B2l]
 rfl
theorem L3 (d:Array V):A1s (B6 d)=d:=rfl
end
noncomputable section
open Go.RowKit Go.Sort
variable {R:Type}
inductive B6h where | m (xs:List V) (a b i j:Int)
inductive C9U where | o (xs:List V) (a b i j:Int)
def A5B (R:Type) (p:B6h) (K:B6h→Option R) (kx:C9U→Option R):Option R:=match p with
 | .m xs a b i j=>bif D4 a j then A3w xs j (B3 (j - 1)) (A02 xs j (B3 (j - 1)) fun ys=>K (.m ys a b i (B3 (j - 1)))) (kx (.o xs a b i j)) else kx (.o xs a b i j)
def B7W (xs:List V) (f r c:Int) (K:List V→Option R) (kx:Option R):Option R:=A3w xs (B3 (f+r)) (B3 (f+c)) (A02 xs (B3 (f+r)) (B3 (f+c)) K) kx
inductive B6i where | m (xs:List V) (r h f:Int)
inductive B2m where | o (xs:List V) (r h f:Int) | r (xs:List V) (r h f:Int)
def A2Q (R:Type) (p:B6i) (K:B6i→Option R) (kx:B2m→Option R):Option R:=match p with
 | .m xs r h f=>bif F2 h (B3 (B3 (2 * r)+1)) then kx (.o xs r h f) else
  bif D4 (B3 (B3 (B3 (2 * r)+1)+1)) h then A3w xs (B3 (f+B3 (B3 (2 * r)+1))) (B3 (B3 (f+B3 (B3 (2 * r)+1))+1))
   (B7W xs f r (B3 (B3 (B3 (2 * r)+1)+1)) (fun ys=>K (.m ys (B3 (B3 (B3 (2 * r)+1)+1)) h f)) (kx (.r xs r h f)))
   (B7W xs f r (B3 (B3 (2 * r)+1)) (fun ys=>K (.m ys (B3 (B3 (2 * r)+1)) h f)) (kx (.r xs r h f)))
  else B7W xs f r (B3 (B3 (2 * r)+1)) (fun ys=>K (.m ys (B3 (B3 (2 * r)+1)) h f)) (kx (.r xs r h f))
inductive B6j where | m (xs:List V) (i j:Int)
inductive C9V where | o (xs:List V) (i j:Int)
def A5C (R:Type) (p:B6j) (K:B6j→Option R) (kx:C9V→Option R):Option R:=match p with
 | .m xs i j=>bif D4 i j then A02 xs i j fun ys=>K (.m ys (B3 (i+1)) (B3 (j - 1))) else kx (.o xs i j)
inductive B6k where | m (xs:List V) (a b i s:Int)
inductive C9W where | o (xs:List V) (a b i s:Int)
def A9e (R:Type) (p:B6k) (K:B6k→Option R) (kx:C9W→Option R):Option R:=match p with
 | .m xs a b i s=>bif D4 i b then A3w xs i (B3 (i - 1)) (kx (.o xs a b i s)) (K (.m xs a b (B3 (i+1)) s)) else kx (.o xs a b i s)
inductive B6l where | m (xs:List V) (a b i s j:Int)
inductive C9X where | o (xs:List V) (a b i s j:Int)
def A5D (R:Type) (p:B6l) (K:B6l→Option R) (kx:C9X→Option R):Option R:=match p with
 | .m xs a b i s j=>bif F2 1 j then A3w xs j (B3 (j - 1)) (A02 xs j (B3 (j - 1)) fun ys=>K (.m ys a b i s (B3 (j - 1)))) (kx (.o xs a b i s j)) else kx (.o xs a b i s j)
inductive B6m where | m (xs:List V) (a b i s j:Int)
inductive C9Y where | o (xs:List V) (a b i s j:Int)
def A5E (R:Type) (p:B6m) (K:B6m→Option R) (kx:C9Y→Option R):Option R:=match p with
 | .m xs a b i s j=>bif D4 j b then A3w xs j (B3 (j - 1)) (A02 xs j (B3 (j - 1)) fun ys=>K (.m ys a b i s (B3 (j+1)))) (kx (.o xs a b i s j)) else kx (.o xs a b i s j)
inductive B6n where | m (xs:List V) (a i j:Int)
inductive C9Z where | o (xs:List V) (a i j:Int)
def A9f (R:Type) (p:B6n) (K:B6n→Option R) (kx:C9Z→Option R):Option R:=match p with
 | .m xs a i j=>bif F2 i j then A3w xs a i (kx (.o xs a i j)) (K (.m xs a (B3 (i+1)) j)) else kx (.o xs a i j)
inductive B6o where | m (xs:List V) (a i j:Int)
inductive C90 where | o (xs:List V) (a i j:Int)
def A9g (R:Type) (p:B6o) (K:B6o→Option R) (kx:C90→Option R):Option R:=match p with
 | .m xs a i j=>bif F2 i j then A3w xs a j (K (.m xs a i (B3 (j - 1)))) (kx (.o xs a i j)) else kx (.o xs a i j)
inductive B6p where | m (xs:List V) (a i j:Int)
inductive C91 where | o (xs:List V) (a i j:Int)
def A9h (R:Type) (p:B6p) (K:B6p→Option R) (kx:C91→Option R):Option R:=match p with
 | .m xs a i j=>bif F2 i j then A3w xs i a (K (.m xs a (B3 (i+1)) j)) (kx (.o xs a i j)) else kx (.o xs a i j)
inductive B6q where | m (xs:List V) (a i j:Int)
inductive C92 where | o (xs:List V) (a i j:Int)
def A9i (R:Type) (p:B6q) (K:B6q→Option R) (kx:C92→Option R):Option R:=match p with
 | .m xs a i j=>bif F2 i j then A3w xs i a (K (.m xs a (B3 (i+1)) j)) (kx (.o xs a i j)) else kx (.o xs a i j)
inductive B6r where | m (xs:List V) (a i j:Int)
inductive C93 where | o (xs:List V) (a i j:Int)
def A9j (R:Type) (p:B6r) (K:B6r→Option R) (kx:C93→Option R):Option R:=match p with
 | .m xs a i j=>bif F2 i j then A3w xs j a (kx (.o xs a i j)) (K (.m xs a i (B3 (j - 1)))) else kx (.o xs a i j)
inductive B6s where | m (xs:List V) (a i j:Int)
inductive C94 where | o (xs:List V) (a i j:Int)
def A9k (R:Type) (p:B6s) (K:B6s→Option R) (kx:C94→Option R):Option R:=match p with
 | .m xs a i j=>bif F2 i j then A3w xs j a (kx (.o xs a i j)) (K (.m xs a i (B3 (j - 1)))) else kx (.o xs a i j)
end
noncomputable section
open Go.RowKit Go.Sort
variable {R:Type}
theorem B9Y (a:Nat):∀ (j n:Nat) (d:Array V) (b i:Int),j < n→j < d.size→d.size < 100000000 →
  ∃ j':Int,∀ kx,C8 (A5B R) n (.m (B6 d) a b i j) kx=kx (.o (B6 (insInner A8 a j d)) a b i j'):=by
 intro j
 induction j with
 | zero =>
  intro n d b i hn hj hz
  obtain ⟨n,rfl⟩:∃ m,n=m+1:=⟨n - 1,by omega⟩
  refine ⟨0,fun kx=>?_⟩
  rw [C8,A5B]
  rw [F0,decide_eq_false (by omega)];rfl
 | succ j ih =>
  intro n d b i hn hj hz
  obtain ⟨n,rfl⟩:∃ m,n=m+1:=⟨n - 1,by omega⟩
  have hw:B3 (((j+1:Nat):Int) - 1)=(j:Int):=F6 (by omega) (by omega)
  by_cases h1:j+1 > a
  ·cases h2:A8 d[j+1]! d[j]! with
   | false =>
    refine ⟨(j+1:Nat),fun kx=>?_⟩
    rw [C8,A5B]
    rw [F0,decide_eq_true (by omega)]
    simp only [cond_true]
    rw [hw,J1 rfl rfl hj (by omega),h2,insInner,if_neg (by simp [h2])];rfl
   | true =>
    obtain ⟨j',h⟩:=ih n (swp d (j+1) j) b i (by omega) (by rw [C0];omega) (by rw [C0];omega)
    refine ⟨j',fun kx=>?_⟩
    rw [C8,A5B]
    rw [F0,decide_eq_true (by omega)]
    simp only [cond_true]
    rw [hw,J1 rfl rfl hj (by omega),h2,cond_true,N6 rfl rfl hj (by omega),h,insInner,if_pos (by simp [h1,h2])]
  ·refine ⟨(j+1:Nat),fun kx=>?_⟩
   rw [C8,A5B]
   rw [F0,decide_eq_false (by omega),insInner,if_neg (by simp;omega)];rfl
theorem A2R (a:Nat):∀ (j:Nat) (d:Array V),(insInner A8 a j d).size=d.size:=by
 intro j
 induction j with
 | zero=>intro d;rfl
 | succ j ih=>intro d;rw [insInner];split;rw [ih,C0];rfl
theorem B9Z (h f:Nat):∀ (m r n:Nat) (d:Array V),h - r≤m→m < n→f+h≤d.size→d.size < 100000000→r < 100000000 →
  ∃ (r':Int) (q:B2m),(q=.o (B6 (siftDown A8 h f r d)) r' h f∨q=.r (B6 (siftDown A8 h f r d)) r' h f)∧∀ kx,C8 (A2Q R) n (.m (B6 d) r h f) kx=kx q:=by
 intro m
 induction m with
 | zero =>
  intro r n d hm hn hz hz2 hr
  obtain ⟨n,rfl⟩:∃ m,n=m+1:=⟨n - 1,by omega⟩
  refine ⟨r,_,Or.inl rfl,fun kx=>?_⟩
  rw [C8,A2Q]
  rw [show B3 (B3 (2 * (r:Int))+1)=((2 * r+1:Nat):Int) from F6 (by rw [F6 (n:=2 * r) (by omega) (by omega)];omega) (by omega),E0,decide_eq_true (by omega),siftDown,dif_pos (by omega)];rfl
 | succ m ih =>
  intro r n d hm hn hz hz2 hr
  obtain ⟨n,rfl⟩:∃ m,n=m+1:=⟨n - 1,by omega⟩
  have hw1:B3 (B3 (2 * (r:Int))+1)=((2 * r+1:Nat):Int):=F6 (by rw [F6 (n:=2 * r) (by omega) (by omega)];omega) (by omega)
  have hw2:B3 (((2 * r+1:Nat):Int)+1)=((2 * r+2:Nat):Int):=F6 (by omega) (by omega)
  by_cases h1:2 * r+1 ≥ h
  ·refine ⟨r,_,Or.inl rfl,fun kx=>?_⟩
   rw [C8,A2Q]
   rw [hw1,E0,decide_eq_true (by omega),siftDown,dif_pos (by omega)];rfl
  ·-- one round at a child
   have step:∀ c:Nat,(c=2 * r+1∨c=2 * r+2)→c < h→∃ (r':Int) (q:B2m),(q=.o (B6 (if !A8 d[f+r]! d[f+c]! then d else siftDown A8 h f c (swp d (f+r) (f+c)))) r' h f∨q=.r (B6 (if !A8 d[f+r]! d[f+c]! then d else siftDown A8 h f c (swp d (f+r) (f+c)))) r' h f) ∧
     ∀ kx:B2m→Option R,B7W (B6 d) f r c (fun ys=>C8 (A2Q R) n (.m ys c h f) kx) (kx (.r (B6 d) r h f))=kx q:=by
    intro c hc1 hc2
    have e1:B3 ((f:Int)+r)=((f+r:Nat):Int):=F6 (by omega) (by omega)
    have e2:B3 ((f:Int)+c)=((f+c:Nat):Int):=F6 (by omega) (by omega)
    cases h2:A8 d[f+r]! d[f+c]! with
    | false =>
     refine ⟨r,.r (B6 d) r h f,Or.inr ?_,fun kx=>?_⟩
     ·rw [if_pos (by simp [h2])]
     ·unfold B7W
      rw [e1,e2,J1 rfl rfl (by omega) (by omega),h2];rfl
    | true =>
     obtain ⟨r',q,hq,h3⟩:=ih c n (swp d (f+r) (f+c)) (by omega) (by omega) (by rw [C0];omega) (by rw [C0];omega) (by omega)
     refine ⟨r',q,?_,fun kx=>?_⟩
     ·rw [if_neg (by simp [h2])];exact hq
     ·unfold B7W
      rw [e1,e2,J1 rfl rfl (by omega) (by omega),h2,cond_true,N6 rfl rfl (by omega) (by omega)]
      exact h3 kx
   by_cases h2:2 * r+1+1 < h
   ·cases h3:A8 d[f+(2 * r+1)]! d[f+(2 * r+1)+1]! with
    | true =>
     obtain ⟨r',q,hq,h4⟩:=step (2 * r+2) (Or.inr rfl) (by omega)
     refine ⟨r',q,?_,fun kx=>?_⟩
     ·rw [siftDown,dif_neg h1,if_pos (by simp [h2,h3])]
      simp only [show 2 * r+2 < h from by omega,dif_pos]
      exact hq
     ·rw [C8,A2Q]
      rw [hw1,E0,decide_eq_false (by omega),cond_false,hw2,F0,decide_eq_true (by omega),cond_true,
       show B3 ((f:Int)+((2 * r+1:Nat):Int))=((f+(2 * r+1):Nat):Int) from F6 (by omega) (by omega),
       show B3 (((f+(2 * r+1):Nat):Int)+1)=((f+(2 * r+1)+1:Nat):Int) from F6 (by omega) (by omega),
       J1 rfl rfl (by omega) (by omega),h3,cond_true]
      exact h4 kx
    | false =>
     obtain ⟨r',q,hq,h4⟩:=step (2 * r+1) (Or.inl rfl) (by omega)
     refine ⟨r',q,?_,fun kx=>?_⟩
     ·rw [siftDown,dif_neg h1,if_neg (by simp [h3])]
      exact hq
     ·rw [C8,A2Q]
      rw [hw1,E0,decide_eq_false (by omega),cond_false,hw2,F0,decide_eq_true (by omega),cond_true,
       show B3 ((f:Int)+((2 * r+1:Nat):Int))=((f+(2 * r+1):Nat):Int) from F6 (by omega) (by omega),
       show B3 (((f+(2 * r+1):Nat):Int)+1)=((f+(2 * r+1)+1:Nat):Int) from F6 (by omega) (by omega),
       J1 rfl rfl (by omega) (by omega),h3,cond_false]
      exact h4 kx
   ·obtain ⟨r',q,hq,h4⟩:=step (2 * r+1) (Or.inl rfl) (by omega)
    refine ⟨r',q,?_,fun kx=>?_⟩
    ·rw [siftDown,dif_neg h1,if_neg (by simp;omega)]
     exact hq
    ·rw [C8,A2Q]
     rw [hw1,E0,decide_eq_false (by omega),cond_false,hw2,F0,decide_eq_false (by omega),cond_false]
     exact h4 kx
theorem B90:∀ (m i j n:Nat) (d:Array V),j - i≤m→m < n→j < d.size→d.size < 100000000→i < 100000000 →
  ∃ i' j':Int,∀ kx,C8 (A5C R) n (.m (B6 d) i j) kx=kx (.o (B6 (reverseLoop i j d)) i' j'):=by
 intro m
 induction m with
 | zero =>
  intro i j n d hm hn hj hz hi
  obtain ⟨n,rfl⟩:∃ m,n=m+1:=⟨n - 1,by omega⟩
  refine ⟨i,j,fun kx=>?_⟩
  rw [C8,A5C]
  rw [F0,decide_eq_false (by omega),reverseLoop,if_neg (by omega)];rfl
 | succ m ih =>
  intro i j n d hm hn hj hz hi
  obtain ⟨n,rfl⟩:∃ m,n=m+1:=⟨n - 1,by omega⟩
  by_cases h:i < j
  ·obtain ⟨i',j',h2⟩:=ih (i+1) (j - 1) n (swp d i j) (by omega) (by omega) (by rw [C0];omega) (by rw [C0];omega) (by omega)
   refine ⟨i',j',fun kx=>?_⟩
   rw [C8,A5C]
   rw [F0,decide_eq_true (by omega),cond_true,N6 rfl rfl (by omega) hj,F6 (n:=i+1) (by omega) (by omega),F6 (n:=j - 1) (by omega) (by omega),h2]
   conv=>rhs;rw [reverseLoop,if_pos h]
  ·refine ⟨i,j,fun kx=>?_⟩
   rw [C8,A5C]
   rw [F0,decide_eq_false (by omega),reverseLoop,if_neg h];rfl
theorem B91 (b:Nat) (a s:Int):∀ (m i n:Nat) (d:Array V),b - i≤m→m < n→b≤d.size→1≤i→d.size < 100000000→i < 100000000 →
  ∀ kx,C8 (A9e R) n (.m (B6 d) a b i s) kx=kx (.o (B6 d) a b (scanSorted A8 d b i:Nat) s):=by
 intro m
 induction m with
 | zero =>
  intro i n d hm hn hb h1 hz hi kx
  obtain ⟨n,rfl⟩:∃ m,n=m+1:=⟨n - 1,by omega⟩
  rw [C8,A9e]
  rw [F0,decide_eq_false (by omega),scanSorted,if_neg (by simp;omega)];rfl
 | succ m ih =>
  intro i n d hm hn hb h1 hz hi kx
  obtain ⟨n,rfl⟩:∃ m,n=m+1:=⟨n - 1,by omega⟩
  rw [C8,A9e]
  by_cases h:i < b
  ·rw [F0,decide_eq_true (by omega),cond_true,J1 (b:=i - 1) rfl (F6 (by omega) (by omega)) (by omega) (by omega)]
   cases h2:A8 d[i]! d[i - 1]! with
   | true=>rw [scanSorted,if_neg (by simp [h2])];rfl
   | false=>rw [cond_false,F6 (n:=i+1) (by omega) (by omega),ih (i+1) n d (by omega) (by omega) hb (by omega) hz (by omega)]
            conv=>rhs;rw [scanSorted,if_pos (by simp [h,h2])]
  ·rw [F0,decide_eq_false (by omega),scanSorted,if_neg (by simp;omega)];rfl
theorem B92 (a b i s:Int):∀ (j n:Nat) (d:Array V),j < n→j < d.size→d.size < 100000000 →
  ∃ j':Int,∀ kx,C8 (A5D R) n (.m (B6 d) a b i s j) kx=kx (.o (B6 (shiftDown A8 j d)) a b i s j'):=by
 intro j
 induction j with
 | zero =>
  intro n d hn hj hz
  obtain ⟨n,rfl⟩:∃ m,n=m+1:=⟨n - 1,by omega⟩
  refine ⟨(0:Nat),fun kx=>?_⟩
  rw [C8,A5D]
  rw [E0,decide_eq_false (by omega)];rfl
 | succ j ih =>
  intro n d hn hj hz
  obtain ⟨n,rfl⟩:∃ m,n=m+1:=⟨n - 1,by omega⟩
  have hw:B3 (((j+1:Nat):Int) - 1)=(j:Int):=F6 (by omega) (by omega)
  cases h2:A8 d[j+1]! d[j]! with
  | false =>
   refine ⟨(j+1:Nat),fun kx=>?_⟩
   rw [C8,A5D]
   rw [E0,decide_eq_true (by omega),cond_true,hw,J1 rfl rfl hj (by omega),h2,shiftDown,if_pos (by simp [h2])];rfl
  | true =>
   obtain ⟨j',h⟩:=ih n (swp d (j+1) j) (by omega) (by rw [C0];omega) (by rw [C0];omega)
   refine ⟨j',fun kx=>?_⟩
   rw [C8,A5D]
   rw [E0,decide_eq_true (by omega),cond_true,hw,J1 rfl rfl hj (by omega),h2,cond_true,N6 rfl rfl hj (by omega),h,shiftDown,if_neg (by simp [h2])]
theorem A2H:∀ (j:Nat) (d:Array V),(shiftDown A8 j d).size=d.size:=by
 intro j
 induction j with
 | zero=>intro d;rfl
 | succ j ih=>intro d;rw [shiftDown];split;rfl;rw [ih,C0]
theorem B93 (b:Nat) (a i s:Int):∀ (m j n:Nat) (d:Array V),b - j≤m→m < n→b≤d.size→1≤j→d.size < 100000000→j < 100000000 →
  ∃ j':Int,∀ kx,C8 (A5E R) n (.m (B6 d) a b i s j) kx=kx (.o (B6 (shiftUp A8 b j d)) a b i s j'):=by
 intro m
 induction m with
 | zero =>
  intro j n d hm hn hb h1 hz hi
  obtain ⟨n,rfl⟩:∃ m,n=m+1:=⟨n - 1,by omega⟩
  refine ⟨j,fun kx=>?_⟩
  rw [C8,A5E]
  rw [F0,decide_eq_false (by omega),shiftUp,if_neg (by omega)];rfl
 | succ m ih =>
  intro j n d hm hn hb h1 hz hi
  obtain ⟨n,rfl⟩:∃ m,n=m+1:=⟨n - 1,by omega⟩
  by_cases h:j < b
  ·have hw:B3 ((j:Int) - 1)=((j - 1:Nat):Int):=F6 (by omega) (by omega)
   cases h2:A8 d[j]! d[j - 1]! with
   | false =>
    refine ⟨j,fun kx=>?_⟩
    rw [C8,A5E]
    rw [F0,decide_eq_true (by omega),cond_true,hw,J1 rfl rfl (by omega) (by omega),h2,shiftUp,if_pos h,if_pos (by simp [h2])];rfl
   | true =>
    obtain ⟨j',h3⟩:=ih (j+1) n (swp d j (j - 1)) (by omega) (by omega) (by rw [C0];omega) (by omega) (by rw [C0];omega) (by omega)
    refine ⟨j',fun kx=>?_⟩
    rw [C8,A5E]
    rw [F0,decide_eq_true (by omega),cond_true,hw,J1 rfl rfl (by omega) (by omega),h2,cond_true,N6 rfl rfl (by omega) (by omega),F6 (n:=j+1) (by omega) (by omega),h3]
    conv=>rhs;rw [shiftUp,if_pos h,if_neg (by simp [h2])]
  ·refine ⟨j,fun kx=>?_⟩
   rw [C8,A5E]
   rw [F0,decide_eq_false (by omega),shiftUp,if_neg (by omega)];rfl
theorem A1C (b:Nat):∀ (m j:Nat) (d:Array V),b - j≤m→(shiftUp A8 b j d).size=d.size:=by
 intro m
 induction m with
 | zero=>intro j d h;rw [shiftUp,if_neg (by omega)]
 | succ m ih =>
  intro j d h
  rw [shiftUp]
  split
  ·split
   ·rfl
   ·rw [ih _ _ (by omega),C0]
  ·rfl
theorem A6L (a j:Nat):∀ (m i n:Nat) (d:Array V),j+1 - i≤m→m < n→a < d.size→j < d.size→d.size < 100000000→i < 100000000 →
  ∀ kx,C8 (A9f R) n (.m (B6 d) a i j) kx=kx (.o (B6 d) a (scanUp (fun x=>!A8 d[a]! x) d j i:Nat) j):=by
 intro m
 induction m with
 | zero =>
  intro i n d hm hn ha hj hz hi kx
  obtain ⟨n,rfl⟩:∃ m,n=m+1:=⟨n - 1,by omega⟩
  rw [C8,A9f]
  rw [E0,decide_eq_false (by omega),scanUp,if_neg (by simp;omega)];rfl
 | succ m ih =>
  intro i n d hm hn ha hj hz hi kx
  obtain ⟨n,rfl⟩:∃ m,n=m+1:=⟨n - 1,by omega⟩
  rw [C8,A9f]
  by_cases h:i≤j
  ·rw [E0,decide_eq_true (by omega),cond_true,J1 rfl rfl ha (by omega)]
   cases h2:A8 d[a]! d[i]! with
   | true=>rw [scanUp,if_neg (by simp [h2])];rfl
   | false=>rw [cond_false,F6 (n:=i+1) (by omega) (by omega),ih (i+1) n d (by omega) (by omega) ha hj hz (by omega)]
            conv=>rhs;rw [scanUp,if_pos (by simp [h,h2])]
  ·rw [E0,decide_eq_false (by omega),scanUp,if_neg (by simp;omega)];rfl
theorem A6M (a i:Nat) (h1:1≤i):∀ (j n:Nat) (d:Array V),j < n→a < d.size→j < d.size→d.size < 100000000 →
  ∀ kx,C8 (A9g R) n (.m (B6 d) a i j) kx=kx (.o (B6 d) a i (scanDown (fun x=>A8 d[a]! x) d i j:Nat)):=by
 intro j
 induction j with
 | zero =>
  intro n d hn ha hj hz kx
  obtain ⟨n,rfl⟩:∃ m,n=m+1:=⟨n - 1,by omega⟩
  rw [C8,A9g]
  rw [E0,decide_eq_false (by omega)];rfl
 | succ j ih =>
  intro n d hn ha hj hz kx
  obtain ⟨n,rfl⟩:∃ m,n=m+1:=⟨n - 1,by omega⟩
  rw [C8,A9g]
  by_cases h:i≤j+1
  ·rw [E0,decide_eq_true (by omega),cond_true,J1 rfl rfl ha (by omega)]
   cases h2:A8 d[a]! d[j+1]! with
   | false=>rw [scanDown,if_neg (by simp [h2])];rfl
   | true=>rw [cond_true,F6 (n:=j) (by omega) (by omega),ih n d (by omega) ha (by omega) hz]
           conv=>rhs;rw [scanDown,if_pos (by simp [h,h2])]
  ·rw [E0,decide_eq_false (by omega),scanDown,if_neg (by simp;omega)];rfl
theorem B94 (a j:Nat):∀ (m i n:Nat) (d:Array V),j+1 - i≤m→m < n→a < d.size→j < d.size→d.size < 100000000→i < 100000000 →
  ∀ kx,C8 (A9h R) n (.m (B6 d) a i j) kx=kx (.o (B6 d) a (scanUp (fun x=>A8 x d[a]!) d j i:Nat) j):=by
 intro m
 induction m with
 | zero =>
  intro i n d hm hn ha hj hz hi kx
  obtain ⟨n,rfl⟩:∃ m,n=m+1:=⟨n - 1,by omega⟩
  rw [C8,A9h]
  rw [E0,decide_eq_false (by omega),scanUp,if_neg (by simp;omega)];rfl
 | succ m ih =>
  intro i n d hm hn ha hj hz hi kx
  obtain ⟨n,rfl⟩:∃ m,n=m+1:=⟨n - 1,by omega⟩
  rw [C8,A9h]
  by_cases h:i≤j
  ·rw [E0,decide_eq_true (by omega),cond_true,J1 rfl rfl (by omega) ha]
   cases h2:A8 d[i]! d[a]! with
   | false=>rw [scanUp,if_neg (by simp [h2])];rfl
   | true=>rw [cond_true,F6 (n:=i+1) (by omega) (by omega),ih (i+1) n d (by omega) (by omega) ha hj hz (by omega)]
           conv=>rhs;rw [scanUp,if_pos (by simp [h,h2])]
  ·rw [E0,decide_eq_false (by omega),scanUp,if_neg (by simp;omega)];rfl
theorem B95 (a i:Nat) (h1:1≤i):∀ (j n:Nat) (d:Array V),j < n→a < d.size→j < d.size→d.size < 100000000 →
  ∀ kx,C8 (A9j R) n (.m (B6 d) a i j) kx=kx (.o (B6 d) a i (scanDown (fun x=>!A8 x d[a]!) d i j:Nat)):=by
 intro j
 induction j with
 | zero =>
  intro n d hn ha hj hz kx
  obtain ⟨n,rfl⟩:∃ m,n=m+1:=⟨n - 1,by omega⟩
  rw [C8,A9j]
  rw [E0,decide_eq_false (by omega)];rfl
 | succ j ih =>
  intro n d hn ha hj hz kx
  obtain ⟨n,rfl⟩:∃ m,n=m+1:=⟨n - 1,by omega⟩
  rw [C8,A9j]
  by_cases h:i≤j+1
  ·rw [E0,decide_eq_true (by omega),cond_true,J1 rfl rfl (by omega) ha]
   cases h2:A8 d[j+1]! d[a]! with
   | true=>rw [scanDown,if_neg (by simp [h2])];rfl
   | false=>rw [cond_false,F6 (n:=j) (by omega) (by omega),ih n d (by omega) ha (by omega) hz]
            conv=>rhs;rw [scanDown,if_pos (by simp [h,h2])]
  ·rw [E0,decide_eq_false (by omega),scanDown,if_neg (by simp;omega)];rfl
theorem A6N (a j:Nat):∀ (m i n:Nat) (d:Array V),j+1 - i≤m→m < n→a < d.size→j < d.size→d.size < 100000000→i < 100000000 →
  ∀ kx,C8 (A9i R) n (.m (B6 d) a i j) kx=kx (.o (B6 d) a (scanUp (fun x=>A8 x d[a]!) d j i:Nat) j):=by
 intro m
 induction m with
 | zero =>
  intro i n d hm hn ha hj hz hi kx
  obtain ⟨n,rfl⟩:∃ m,n=m+1:=⟨n - 1,by omega⟩
  rw [C8,A9i]
  rw [E0,decide_eq_false (by omega),scanUp,if_neg (by simp;omega)];rfl
 | succ m ih =>
  intro i n d hm hn ha hj hz hi kx
  obtain ⟨n,rfl⟩:∃ m,n=m+1:=⟨n - 1,by omega⟩
  rw [C8,A9i]
  by_cases h:i≤j
  ·rw [E0,decide_eq_true (by omega),cond_true,J1 rfl rfl (by omega) ha]
   cases h2:A8 d[i]! d[a]! with
   | false=>rw [scanUp,if_neg (by simp [h2])];rfl
   | true=>rw [cond_true,F6 (n:=i+1) (by omega) (by omega),ih (i+1) n d (by omega) (by omega) ha hj hz (by omega)]
           conv=>rhs;rw [scanUp,if_pos (by simp [h,h2])]
  ·rw [E0,decide_eq_false (by omega),scanUp,if_neg (by simp;omega)];rfl
theorem A6O (a i:Nat) (h1:1≤i):∀ (j n:Nat) (d:Array V),j < n→a < d.size→j < d.size→d.size < 100000000 →
  ∀ kx,C8 (A9k R) n (.m (B6 d) a i j) kx=kx (.o (B6 d) a i (scanDown (fun x=>!A8 x d[a]!) d i j:Nat)):=by
 intro j
 induction j with
 | zero =>
  intro n d hn ha hj hz kx
  obtain ⟨n,rfl⟩:∃ m,n=m+1:=⟨n - 1,by omega⟩
  rw [C8,A9k]
  rw [E0,decide_eq_false (by omega)];rfl
 | succ j ih =>
  intro n d hn ha hj hz kx
  obtain ⟨n,rfl⟩:∃ m,n=m+1:=⟨n - 1,by omega⟩
  rw [C8,A9k]
  by_cases h:i≤j+1
  ·rw [E0,decide_eq_true (by omega),cond_true,J1 rfl rfl (by omega) ha]
   cases h2:A8 d[j+1]! d[a]! with
   | true=>rw [scanDown,if_neg (by simp [h2])];rfl
   | false=>rw [cond_false,F6 (n:=j) (by omega) (by omega),ih n d (by omega) ha (by omega) hz]
            conv=>rhs;rw [scanDown,if_pos (by simp [h,h2])]
  ·rw [E0,decide_eq_false (by omega),scanDown,if_neg (by simp;omega)];rfl
end
noncomputable section
open Go.RowKit Go.Sort
variable {R:Type}
structure Z5 where
 xs:List V
 a:Int
 b:Int
 c:Int
def Z5.d (s:Z5):Array V:=A1s s.xs
def A5F:Z5→List V:=A1P fun s=>B6 (insertionSort A8 s.d s.a.toNat s.b.toNat)
def A3F:Z5→List V:=A1P fun s=>B6 (siftDown A8 s.b.toNat s.c.toNat s.a.toNat s.d)
def A5G:Z5→List V:=A1P fun s=>B6 (heapSort A8 s.d s.a.toNat s.b.toNat)
def A3G:Z5→List V:=A1P fun s=>B6 (reverseRange s.d s.a.toNat s.b.toNat)
def A5H:Z5→List V:=A1P fun s=>B6 (breakPatterns s.d s.a.toNat s.b.toNat)
def A36:Z5→List V:=A1P fun s=>B6 (partialInsertionSort A8 s.d s.a.toNat s.b.toNat).1
def A5I:Z5→Bool:=A1P fun s=>(partialInsertionSort A8 s.d s.a.toNat s.b.toNat).2
def A5J:Z5→List V:=A1P fun s=>B6 (partitionEqual A8 s.d s.a.toNat s.b.toNat s.c.toNat).2
def A5K:Z5→Int:=A1P fun s=>((partitionEqual A8 s.d s.a.toNat s.b.toNat s.c.toNat).1:Nat)
def A5L:Z5→List V:=A1P fun s=>B6 (partition A8 s.d s.a.toNat s.b.toNat s.c.toNat).2.2
def A0G:Z5→Bool:=A1P fun s=>(partition A8 s.d s.a.toNat s.b.toNat s.c.toNat).2.1
def A5M:Z5→Int:=A1P fun s=>((partition A8 s.d s.a.toNat s.b.toNat s.c.toNat).1:Nat)
def A1Q:Z5→Int:=A1P fun s=>((choosePivot A8 s.d s.a.toNat s.b.toNat).1:Nat)
def A5N:Z5→Int:=A1P fun s=>match (choosePivot A8 s.d s.a.toNat s.b.toNat).2 with | .unknown=>0 | .increasing=>1 | .decreasing=>2
def T1:Z5→List V:=A1P fun s=>B6 (pdq A8 s.d s.a.toNat s.b.toNat s.c.toNat true true)
def B7X (xs:List V):Bool:=Nat.ble xs.length 1000000
def A03 (s:Z5):Bool:=F2 0 s.a&&(F2 s.a s.b&&(F2 s.b (s.xs.length:Nat)&&B7X s.xs))
def A2l (s:Z5):Bool:=D4 s.a s.b&&A03 s
def A4W (s:Z5):Bool:=F2 s.a s.c&&(D4 s.c s.b&&A03 s)
def B0z (s:Z5):Bool:=F2 0 s.a&&(F2 0 s.b&&(F2 0 s.c&&(F2 (s.c+s.b) (s.xs.length:Nat)&&(F2 s.a 1000000&&B7X s.xs))))
def A0b (n:Nat) (s:Z5):Bool:=D4 (s.b - s.a) (n:Nat)&&(F2 0 s.c&&(F2 s.c 1000000&&A03 s))
def B7Y (el:Nat) (args:List A) (of:Nat→Option Ob) (nx:Nat):Option (List A×List V) :=
 match args with
 | .o id ver::as0=>bif Nat.beq id 0&&(Nat.beq ver 1&&Nat.beq nx 1) then
  (match of 0 with
  | some (.row el' v xs nl sh)=>bif Nat.beq el el'&&(Nat.beq v 1&&(!nl&&!sh)) then some (as0,xs) else none
  | _=>none) else none
 | _=>none
def B4g (el gn:Nat) (args:List A) (of:Nat→Option Ob) (nx:Nat):Option Z5 :=
 match B7Y el args of nx with
 | some ([.f h []],xs)=>bif Nat.beq h gn then some ⟨xs,0,0,0⟩ else none
 | _=>none
def A37 (el gn:Nat) (args:List A) (of:Nat→Option Ob) (nx:Nat):Option Z5 :=
 match B7Y el args of nx with
 | some ([.i .i64 a,.i .i64 b,.f h []],xs)=>bif Nat.beq h gn then some ⟨xs,a,b,0⟩ else none
 | _=>none
def A2m (el gn:Nat) (args:List A) (of:Nat→Option Ob) (nx:Nat):Option Z5 :=
 match B7Y el args of nx with
 | some ([.i .i64 a,.i .i64 b,.i .i64 c,.f h []],xs)=>bif Nat.beq h gn then some ⟨xs,a,b,c⟩ else none
 | _=>none
def M1 (el N:Nat) (val:Z5→A) (out:Z5→List V):Z5→H9:=fun s=>⟨val s,[(0,.row el 1 (out s) false false)],[0],N⟩
theorem A4X {el:Nat} {args as0:List A} {of:Nat→Option Ob} {nx:Nat} {xs:List V} (h:B7Y el args of nx=some (as0,xs)) :
  args=.o 0 1::as0∧nx=1∧of 0=some (.row el 1 xs false false):=by
 unfold B7Y at h
 split at h<;>try (cases h;done)
 rename_i id ver as0'
 cases h1:(Nat.beq id 0&&(Nat.beq ver 1&&Nat.beq nx 1)) with
 | false=>rw [h1] at h;cases h
 | true =>
 rw [h1] at h
 simp only [D5V] at h1
 obtain ⟨e1,e2,e3⟩:=h1
 obtain rfl:=D5U e1
 obtain rfl:=D5U e2
 obtain rfl:=D5U e3
 simp only [cond_true] at h
 split at h<;>try (cases h;done)
 rename_i el' v xs' nl sh ho
 cases h2:(Nat.beq el el'&&(Nat.beq v 1&&(!nl&&!sh))) with
 | false=>rw [h2] at h;cases h
 | true =>
 rw [h2] at h
 simp only [D5V,Bool.not_eq_true'] at h2
 obtain ⟨e1,e2,rfl,rfl⟩:=h2
 obtain rfl:=D5U e1
 obtain rfl:=D5U e2
 cases h
 exact ⟨rfl,rfl,ho⟩
variable {P:Program} {T:TT}
theorem C6b {el gn f N:Nat} {g:Z5→Bool} {val:Z5→A} {out:Z5→List V} {s:Sym} (hs:J2 P T f s)
  (h:∀ xs,g ⟨xs,0,0,0⟩=true→∃ n ro,n≤N∧s [.o 0 1,.f gn []] (ofL [.row el 1 xs false false]) 1=some ⟨val ⟨xs,0,0,0⟩,[(0,.row el 1 (out ⟨xs,0,0,0⟩) false false)],ro,n⟩∧∀ id∈ro,id=0) :
  R0 P T f (N3 (B4g el gn) g (M1 el N val out)).dir:=A6e hs (fun args of nx x hx hg=>by
 unfold B4g at hx
 split at hx<;>try (cases hx;done)
 rename_i h' xs ha
 cases hh:Nat.beq h' gn with
 | false=>rw [hh] at hx;cases hx
 | true =>
 rw [hh] at hx
 obtain rfl:=D5U hh
 cases hx
 obtain ⟨rfl,rfl,ho⟩:=A4X ha
 obtain ⟨n,ro,h1,h2,h3⟩:=h xs hg
 exact ⟨n,ro,_,h1,h2,A34 ho h3⟩)
theorem A3f {el gn f N:Nat} {g:Z5→Bool} {val:Z5→A} {out:Z5→List V} {s:Sym} (hs:J2 P T f s)
  (h:∀ xs a b,g ⟨xs,a,b,0⟩=true→∃ n ro,n≤N∧s [.o 0 1,.i .i64 a,.i .i64 b,.f gn []] (ofL [.row el 1 xs false false]) 1=some ⟨val ⟨xs,a,b,0⟩,[(0,.row el 1 (out ⟨xs,a,b,0⟩) false false)],ro,n⟩∧∀ id∈ro,id=0) :
  R0 P T f (N3 (A37 el gn) g (M1 el N val out)).dir:=A6e hs (fun args of nx x hx hg=>by
 unfold A37 at hx
 split at hx<;>try (cases hx;done)
 rename_i a b h' xs ha
 cases hh:Nat.beq h' gn with
 | false=>rw [hh] at hx;cases hx
 | true =>
 rw [hh] at hx
 obtain rfl:=D5U hh
 cases hx
 obtain ⟨rfl,rfl,ho⟩:=A4X ha
 obtain ⟨n,ro,h1,h2,h3⟩:=h xs a b hg
 exact ⟨n,ro,_,h1,h2,A34 ho h3⟩)
theorem A1t {el gn f N:Nat} {g:Z5→Bool} {val:Z5→A} {out:Z5→List V} {s:Sym} (hs:J2 P T f s)
  (h:∀ xs a b c,g ⟨xs,a,b,c⟩=true→∃ n ro,n≤N∧s [.o 0 1,.i .i64 a,.i .i64 b,.i .i64 c,.f gn []] (ofL [.row el 1 xs false false]) 1=some ⟨val ⟨xs,a,b,c⟩,[(0,.row el 1 (out ⟨xs,a,b,c⟩) false false)],ro,n⟩∧∀ id∈ro,id=0) :
  R0 P T f (N3 (A2m el gn) g (M1 el N val out)).dir:=A6e hs (fun args of nx x hx hg=>by
 unfold A2m at hx
 split at hx<;>try (cases hx;done)
 rename_i a b c h' xs ha
 cases hh:Nat.beq h' gn with
 | false=>rw [hh] at hx;cases hx
 | true =>
 rw [hh] at hx
 obtain rfl:=D5U hh
 cases hx
 obtain ⟨rfl,rfl,ho⟩:=A4X ha
 obtain ⟨n,ro,h1,h2,h3⟩:=h xs a b c hg
 exact ⟨n,ro,_,h1,h2,A34 ho h3⟩)
end
noncomputable section
open Go.RowKit Go.Sort
variable {R:Type}
inductive B6t where | m (xs:List V) (a b i:Int)
inductive C95 where | o (xs:List V) (a b i:Int)
def A5O (R:Type) (p:B6t) (K:B6t→Option R) (kx:C95→Option R):Option R:=match p with
 | .m xs a b i=>bif D4 i b then C8 (A5B R) (A3 FU) (.m xs a b i i) (fun | .o xs a b i _=>K (.m xs a b (B3 (i+1)))) else kx (.o xs a b i)
inductive B6u where | m (xs:List V) (a i j:Int)
inductive C96 where | o (xs:List V) (a i j:Int)
def A5P (R:Type) (p:B6u) (K:B6u→Option R) (kx:C96→Option R):Option R:=match p with
 | .m xs a i j=>C8 (A9f R) (A3 FU) (.m xs a i j) (fun | .o xs a i j=>C8 (A9g R) (A3 FU) (.m xs a i j) (fun | .o xs a i j=>bif D4 j i then kx (.o xs a i j) else A02 xs i j fun ys=>K (.m ys a (B3 (i+1)) (B3 (j - 1)))))
inductive B6v where | m (xs:List V) (a i j:Int)
inductive C97 where | o (xs:List V) (a i j:Int)
def A6P (R:Type) (p:B6v) (K:B6v→Option R) (kx:C97→Option R):Option R:=match p with
 | .m xs a i j=>C8 (A9i R) (A3 FU) (.m xs a i j) (fun | .o xs a i j=>C8 (A9k R) (A3 FU) (.m xs a i j) (fun | .o xs a i j=>bif D4 j i then kx (.o xs a i j) else A02 xs i j fun ys=>K (.m ys a (B3 (i+1)) (B3 (j - 1)))))
inductive B2n where | m (xs:List V) (a b i s:Int)
inductive B6w where | o (xs:List V) (a b i s:Int) | r (xs:List V) (a b i s:Int) | t (xs:List V) (a b i s:Int)
def A6Q (R:Type) (K:B2n→Option R) (xs:List V) (a b i s:Int):Option R :=
 bif F2 2 (B3 (b - i)) then C8 (A5E R) (A3 FU) (.m xs a b i s (B3 (i+1))) (fun | .o xs a b i s _=>K (.m xs a b i (B3 (s+1)))) else K (.m xs a b i (B3 (s+1)))
def A1R (R:Type) (p:B2n) (K:B2n→Option R) (kx:B6w→Option R):Option R:=match p with
 | .m xs a b i s=>bif D4 s 5 then C8 (A9e R) (A3 FU) (.m xs a b i s) (fun | .o xs a b i s=>bif Y6 i b then kx (.t xs a b i s) else bif D4 (B3 (b - a)) 50 then kx (.r xs a b i s) else A02 xs i (B3 (i - 1)) fun xs=>bif F2 2 (B3 (i - a)) then C8 (A5D R) (A3 FU) (.m xs a b i s (B3 (i - 1))) (fun | .o xs a b i s _=>A6Q R K xs a b i s) else A6Q R K xs a b i s) else kx (.o xs a b i s)
theorem A3g {s:Z5} (h:A03 s=true):∃ (a b:Nat) (d:Array V),s.a=(a:Int)∧s.b=(b:Int)∧s.xs=B6 d∧s.d=d∧a≤b∧b≤d.size∧d.size≤1000000:=by
 obtain ⟨xs,a,b,c⟩:=s
 simp only [A03,B7X,D5V,D3] at h
 obtain ⟨h1,h2,h3,h4⟩:=h
 obtain ⟨a,rfl⟩:=Int.eq_ofNat_of_zero_le h1
 obtain ⟨b,rfl⟩:=Int.eq_ofNat_of_zero_le (Int.le_trans h1 h2)
 have:=D50 h4
 have e:B6 (A1s xs)=xs:=rfl
 have hs:(A1s xs).size=xs.length:=by rw [← Q5,e]
 exact ⟨a,b,A1s xs,rfl,rfl,e.symm,rfl,by omega,by omega,by omega⟩
theorem B96 (a b:Nat):∀ (m i n:Nat) (d:Array V),b - i≤m→m < n→b≤d.size→d.size≤1000000→i≤2000000 →
  ∃ i':Int,∀ kx,C8 (A5O R) n (.m (B6 d) a b i) kx=kx (.o (B6 (insOuter A8 a b i d)) a b i'):=by
 intro m
 induction m with
 | zero =>
  intro i n d hm hn hb hz hi
  obtain ⟨n,rfl⟩:∃ m,n=m+1:=⟨n - 1,by omega⟩
  refine ⟨i,fun kx=>?_⟩
  rw [C8,A5O,F0,decide_eq_false (by omega),insOuter,if_neg (by omega)];rfl
 | succ m ih =>
  intro i n d hm hn hb hz hi
  obtain ⟨n,rfl⟩:∃ m,n=m+1:=⟨n - 1,by omega⟩
  by_cases h:i < b
  ·obtain ⟨j',h2⟩:=B9Y (R:=R) a i (A3 FU) d b i (R7 (by omega)) (by omega) (by omega)
   obtain ⟨i',h3⟩:=ih (i+1) n (insInner A8 a i d) (by omega) (by omega) (by rw [A2R];omega) (by rw [A2R];omega) (by omega)
   refine ⟨i',fun kx=>?_⟩
   rw [C8,A5O,F0,decide_eq_true (by omega),cond_true,h2]
   simp only
   rw [F6 (n:=i+1) (by omega) (by omega),h3]
   conv=>rhs;rw [insOuter,if_pos h]
  ·refine ⟨i,fun kx=>?_⟩
   rw [C8,A5O,F0,decide_eq_false (by omega),insOuter,if_neg (by omega)];rfl
theorem B97 {xs:List V} {a b:Int} (h:A03 ⟨xs,a,b,0⟩=true) (k:List V→Option R) :
  C8 (A5O R) (A3 FU) (.m xs a b (B3 (a+1))) (fun | .o ys _ _ _=>k ys)=k (A5F ⟨xs,a,b,0⟩):=by
 obtain ⟨a',b',d,h1,h2,h3,h4,h5,h6,h7⟩:=A3g h
 simp only at h1 h2 h3
 subst h1 h2 h3
 obtain ⟨i',h8⟩:=B96 (R:=R) a' b' b' (a'+1) (A3 FU) d (by omega) (R7 (by omega)) h6 h7 (by omega)
 rw [F6 (n:=a'+1) (by omega) (by omega),h8]
 simp only
 rw [A5F,E2,h4];rfl
theorem A3N (p:V→Bool) (d:Array V) (j:Nat):∀ (m i:Nat),j+1 - i≤m→i≤j+2→scanUp p d j i≤j+2:=by
 intro m
 induction m with
 | zero=>intro i h1 h2;rw [scanUp,if_neg (by simp;omega)];omega
 | succ m ih =>
  intro i h1 h2
  rw [scanUp]
  split
  ·rename_i h;simp at h;exact ih (i+1) (by omega) (by omega)
  ·omega
theorem B98 (a:Nat):∀ (m i j n:Nat) (d:Array V),j+1 - i≤m→m < n→1≤i→i≤j+2→a < d.size→j < d.size→d.size≤1000000 →
  ∃ j':Int,∀ kx,C8 (A5P R) n (.m (B6 d) a i j) kx=kx (.o (B6 (partEqLoop A8 a i j d).2) a (partEqLoop A8 a i j d).1 j'):=by
 intro m
 induction m with
 | zero =>
  intro i j n d hm hn h1 hij ha hj hz
  obtain ⟨n,rfl⟩:∃ m,n=m+1:=⟨n - 1,by omega⟩
  have u:scanUp (fun x=>!A8 d[a]! x) d j i=i:=by rw [scanUp,if_neg (by simp;omega)]
  have v:scanDown (fun x=>A8 d[a]! x) d i j=j:=by cases j with
   | zero=>rfl
   | succ j=>rw [scanDown,if_neg (by simp;omega)]
  refine ⟨j,fun kx=>?_⟩
  rw [C8,A5P,A6L a j j i _ d (by omega) (R7 (by omega)) ha hj (by omega) (by omega),u]
  simp only
  rw [A6M a i h1 j _ d (R7 (by omega)) ha hj (by omega),v]
  simp only
  rw [F0,decide_eq_true (by omega),partEqLoop]
  try simp only
  rw [u,v,if_pos (by omega)];rfl
 | succ m ih =>
  intro i j n d hm hn h1 hij ha hj hz
  obtain ⟨n,rfl⟩:∃ m,n=m+1:=⟨n - 1,by omega⟩
  have hu:=A3N (fun x=>!A8 d[a]! x) d j (j+1 - i) i (Nat.le_refl _) hij
  have hu2:=scanUp_ge (fun x=>!A8 d[a]! x) d j i
  have hv:=scanDown_le (fun x=>A8 d[a]! x) d (scanUp (fun x=>!A8 d[a]! x) d j i) j
  by_cases h2:scanUp (fun x=>!A8 d[a]! x) d j i > scanDown (fun x=>A8 d[a]! x) d (scanUp (fun x=>!A8 d[a]! x) d j i) j
  ·refine ⟨(scanDown (fun x=>A8 d[a]! x) d (scanUp (fun x=>!A8 d[a]! x) d j i) j:Nat),fun kx=>?_⟩
   rw [C8,A5P,A6L a j (j+1) i _ d (by omega) (R7 (by omega)) ha hj (by omega) (by omega)]
   simp only
   rw [A6M a _ (by omega) j _ d (R7 (by omega)) ha hj (by omega)]
   simp only
   rw [F0,decide_eq_true (by omega),partEqLoop]
   try simp only
   rw [if_pos h2];rfl
  ·have hpe:partEqLoop A8 a i j d=partEqLoop A8 a (scanUp (fun x=>!A8 d[a]! x) d j i+1) (scanDown (fun x=>A8 d[a]! x) d (scanUp (fun x=>!A8 d[a]! x) d j i) j - 1) (swp d (scanUp (fun x=>!A8 d[a]! x) d j i) (scanDown (fun x=>A8 d[a]! x) d (scanUp (fun x=>!A8 d[a]! x) d j i) j)):=by
    conv=>lhs;rw [partEqLoop]
    try simp only
    rw [if_neg h2,dif_pos (by omega)]
   obtain ⟨j',h3⟩:=ih (scanUp (fun x=>!A8 d[a]! x) d j i+1) (scanDown (fun x=>A8 d[a]! x) d (scanUp (fun x=>!A8 d[a]! x) d j i) j - 1) n (swp d (scanUp (fun x=>!A8 d[a]! x) d j i) (scanDown (fun x=>A8 d[a]! x) d (scanUp (fun x=>!A8 d[a]! x) d j i) j)) (by omega) (by omega) (by omega) (by omega) (by rw [C0];omega) (by rw [C0];omega) (by rw [C0];omega)
   refine ⟨j',fun kx=>?_⟩
   rw [C8,A5P,A6L a j (j+1) i _ d (by omega) (R7 (by omega)) ha hj (by omega) (by omega)]
   simp only
   rw [A6M a _ (by omega) j _ d (R7 (by omega)) ha hj (by omega)]
   simp only
   rw [F0,decide_eq_false (by omega),cond_false,N6 rfl rfl (by omega) (by omega),F6 (n:=scanUp (fun x=>!A8 d[a]! x) d j i+1) (by omega) (by omega),
    F6 (n:=scanDown (fun x=>A8 d[a]! x) d (scanUp (fun x=>!A8 d[a]! x) d j i) j - 1) (by omega) (by omega),h3,hpe]
theorem B99 (a:Nat):∀ (m i j n:Nat) (d:Array V),j+1 - i≤m→m < n→1≤i→i≤j+2→a < d.size→j < d.size→d.size≤1000000 →
  ∃ i':Int,∀ kx,C8 (A6P R) n (.m (B6 d) a i j) kx=kx (.o (B6 (partLoop A8 a i j d).2) a i' (partLoop A8 a i j d).1):=by
 intro m
 induction m with
 | zero =>
  intro i j n d hm hn h1 hij ha hj hz
  obtain ⟨n,rfl⟩:∃ m,n=m+1:=⟨n - 1,by omega⟩
  have u:scanUp (fun x=>A8 x d[a]!) d j i=i:=by rw [scanUp,if_neg (by simp;omega)]
  have v:scanDown (fun x=>!A8 x d[a]!) d i j=j:=by cases j with
   | zero=>rfl
   | succ j=>rw [scanDown,if_neg (by simp;omega)]
  refine ⟨i,fun kx=>?_⟩
  rw [C8,A6P,A6N a j j i _ d (by omega) (R7 (by omega)) ha hj (by omega) (by omega),u]
  simp only
  rw [A6O a i h1 j _ d (R7 (by omega)) ha hj (by omega),v]
  simp only
  rw [F0,decide_eq_true (by omega),partLoop]
  try simp only
  rw [u,v,if_pos (by omega)];rfl
 | succ m ih =>
  intro i j n d hm hn h1 hij ha hj hz
  obtain ⟨n,rfl⟩:∃ m,n=m+1:=⟨n - 1,by omega⟩
  have hu:=A3N (fun x=>A8 x d[a]!) d j (j+1 - i) i (Nat.le_refl _) hij
  have hu2:=scanUp_ge (fun x=>A8 x d[a]!) d j i
  have hv:=scanDown_le (fun x=>!A8 x d[a]!) d (scanUp (fun x=>A8 x d[a]!) d j i) j
  by_cases h2:scanUp (fun x=>A8 x d[a]!) d j i > scanDown (fun x=>!A8 x d[a]!) d (scanUp (fun x=>A8 x d[a]!) d j i) j
  ·refine ⟨(scanUp (fun x=>A8 x d[a]!) d j i:Nat),fun kx=>?_⟩
   rw [C8,A6P,A6N a j (j+1) i _ d (by omega) (R7 (by omega)) ha hj (by omega) (by omega)]
   simp only
   rw [A6O a _ (by omega) j _ d (R7 (by omega)) ha hj (by omega)]
   simp only
   rw [F0,decide_eq_true (by omega),partLoop]
   try simp only
   rw [if_pos h2];rfl
  ·have hpe:partLoop A8 a i j d=partLoop A8 a (scanUp (fun x=>A8 x d[a]!) d j i+1) (scanDown (fun x=>!A8 x d[a]!) d (scanUp (fun x=>A8 x d[a]!) d j i) j - 1) (swp d (scanUp (fun x=>A8 x d[a]!) d j i) (scanDown (fun x=>!A8 x d[a]!) d (scanUp (fun x=>A8 x d[a]!) d j i) j)):=by
    conv=>lhs;rw [partLoop]
    try simp only
    rw [if_neg h2,dif_pos (by omega)]
   obtain ⟨j',h3⟩:=ih (scanUp (fun x=>A8 x d[a]!) d j i+1) (scanDown (fun x=>!A8 x d[a]!) d (scanUp (fun x=>A8 x d[a]!) d j i) j - 1) n (swp d (scanUp (fun x=>A8 x d[a]!) d j i) (scanDown (fun x=>!A8 x d[a]!) d (scanUp (fun x=>A8 x d[a]!) d j i) j)) (by omega) (by omega) (by omega) (by omega) (by rw [C0];omega) (by rw [C0];omega) (by rw [C0];omega)
   refine ⟨j',fun kx=>?_⟩
   rw [C8,A6P,A6N a j (j+1) i _ d (by omega) (R7 (by omega)) ha hj (by omega) (by omega)]
   simp only
   rw [A6O a _ (by omega) j _ d (R7 (by omega)) ha hj (by omega)]
   simp only
   rw [F0,decide_eq_false (by omega),cond_false,N6 rfl rfl (by omega) (by omega),F6 (n:=scanUp (fun x=>A8 x d[a]!) d j i+1) (by omega) (by omega),
    F6 (n:=scanDown (fun x=>!A8 x d[a]!) d (scanUp (fun x=>A8 x d[a]!) d j i) j - 1) (by omega) (by omega),h3,hpe]
theorem A6R (d:Array V) (b:Nat):∀ (m i:Nat),b - i≤m→i≤b→i≤scanSorted A8 d b i∧scanSorted A8 d b i≤b:=by
 intro m
 induction m with
 | zero=>intro i h1 h2;rw [scanSorted,if_neg (by simp;omega)];omega
 | succ m ih =>
  intro i h1 h2
  rw [scanSorted]
  split
  ·rename_i h;simp at h;have:=ih (i+1) (by omega) (by omega);omega
  ·omega
theorem C0a (a b:Nat):∀ (m s i n:Nat) (d:Array V),s+m=5→m < n→a < i→i≤b→b≤d.size→d.size≤1000000 →
  ∃ (i' s':Int) (q:B6w),(∀ kx,C8 (A1R R) n (.m (B6 d) a b i s) kx=kx q) ∧
   ((q=.o (B6 (partialIns A8 a b m i d).1) a b i' s'∧(partialIns A8 a b m i d).2=false)∨(q=.r (B6 (partialIns A8 a b m i d).1) a b i' s'∧(partialIns A8 a b m i d).2=false) ∨
    (q=.t (B6 (partialIns A8 a b m i d).1) a b i' s'∧(partialIns A8 a b m i d).2=true)):=by
 intro m
 induction m with
 | zero =>
  intro s i n d hs hn hai hib hb hz
  obtain ⟨n,rfl⟩:∃ m,n=m+1:=⟨n - 1,by omega⟩
  refine ⟨i,s,_,fun kx=>?_,Or.inl ⟨rfl,rfl⟩⟩
  rw [C8,A1R,F0,decide_eq_false (by omega)];rfl
 | succ m ih =>
  intro s i n d hs hn hai hib hb hz
  obtain ⟨n,rfl⟩:∃ m,n=m+1:=⟨n - 1,by omega⟩
  obtain ⟨c1,c2⟩:=A6R d b (b - i) i (Nat.le_refl _) hib
  generalize hc:scanSorted A8 d b i=c at c1 c2
  have head:∀ kx,C8 (A1R R) (n+1) (.m (B6 d) a b i s) kx=bif Y6 (c:Int) b then kx (.t (B6 d) a b c s) else bif D4 (B3 ((b:Int) - a)) 50 then kx (.r (B6 d) a b c s) else
    A02 (B6 d) c (B3 ((c:Int) - 1)) fun xs=>bif F2 2 (B3 ((c:Int) - a)) then C8 (A5D R) (A3 FU) (.m xs a b c s (B3 ((c:Int) - 1))) (fun | .o xs a b i s _=>A6Q R (fun p=>C8 (A1R R) n p kx) xs a b i s) else A6Q R (fun p=>C8 (A1R R) n p kx) xs a b c s:=by
   intro kx
   rw [C8,A1R,F0,decide_eq_true (by omega),cond_true,B91 b a s b i _ d (by omega) (R7 (by omega)) hb (by omega) (by omega) (by omega),hc]
  by_cases h1:c=b
  ·refine ⟨c,s,.t (B6 d) a b c s,fun kx=>?_,Or.inr (Or.inr ⟨?_,?_⟩)⟩
   ·rw [head,A0P (by omega),cond_true]
   ·rw [partialIns];simp only [hc];rw [if_pos h1]
   ·rw [partialIns];simp only [hc];rw [if_pos h1]
  ·have hw:B3 ((b:Int) - a)=((b - a:Nat):Int):=F6 (by omega) (by omega)
   by_cases h2:b - a < 50
   ·refine ⟨c,s,.r (B6 d) a b c s,fun kx=>?_,Or.inr (Or.inl ⟨?_,?_⟩)⟩
    ·rw [head,A2t (by omega),cond_false,hw,F0,decide_eq_true (by omega),cond_true]
    ·rw [partialIns];simp only [hc];rw [if_neg h1,if_pos h2]
    ·rw [partialIns];simp only [hc];rw [if_neg h1,if_pos h2]
   ·have hc1:B3 ((c:Int) - 1)=((c - 1:Nat):Int):=F6 (by omega) (by omega)
    have hca:B3 ((c:Int) - a)=((c - a:Nat):Int):=F6 (by omega) (by omega)
    have hbc:B3 ((b:Int) - c)=((b - c:Nat):Int):=F6 (by omega) (by omega)
    have hc2:B3 ((c:Int)+1)=((c+1:Nat):Int):=F6 (by omega) (by omega)
    have hs1:B3 ((s:Int)+1)=((s+1:Nat):Int):=F6 (by omega) (by omega)
    have up:∀ d1:Array V,d1.size=d.size→∃ (i' s':Int) (q:B6w),(∀ kx,A6Q R (fun p=>C8 (A1R R) n p kx) (B6 d1) a b c s=kx q) ∧
      ((q=.o (B6 (partialIns A8 a b m c (if b - c ≥ 2 then shiftUp A8 b (c+1) d1 else d1)).1) a b i' s'∧(partialIns A8 a b m c (if b - c ≥ 2 then shiftUp A8 b (c+1) d1 else d1)).2=false) ∨
       (q=.r (B6 (partialIns A8 a b m c (if b - c ≥ 2 then shiftUp A8 b (c+1) d1 else d1)).1) a b i' s'∧(partialIns A8 a b m c (if b - c ≥ 2 then shiftUp A8 b (c+1) d1 else d1)).2=false) ∨
       (q=.t (B6 (partialIns A8 a b m c (if b - c ≥ 2 then shiftUp A8 b (c+1) d1 else d1)).1) a b i' s'∧(partialIns A8 a b m c (if b - c ≥ 2 then shiftUp A8 b (c+1) d1 else d1)).2=true)):=by
     intro d1 hd1
     by_cases h3:b - c ≥ 2
     ·rw [if_pos h3]
      obtain ⟨j',h4⟩:=B93 (R:=R) b a c s b (c+1) (A3 FU) d1 (by omega) (R7 (by omega)) (by omega) (by omega) (by omega) (by omega)
      obtain ⟨i',s',q,h5,h6⟩:=ih (s+1) c n (shiftUp A8 b (c+1) d1) (by omega) (by omega) (by omega) (by omega) (by rw [A1C b b _ _ (by omega)];omega) (by rw [A1C b b _ _ (by omega)];omega)
      refine ⟨i',s',q,fun kx=>?_,h6⟩
      rw [A6Q,hbc,E0,decide_eq_true (by omega),cond_true,hc2,h4]
      simp only
      rw [hs1,h5]
     ·rw [if_neg h3]
      obtain ⟨i',s',q,h5,h6⟩:=ih (s+1) c n d1 (by omega) (by omega) (by omega) (by omega) (by omega) (by omega)
      refine ⟨i',s',q,fun kx=>?_,h6⟩
      rw [A6Q,hbc,E0,decide_eq_false (by omega),cond_false,hs1,h5]
    by_cases h3:c - a ≥ 2
    ·obtain ⟨j',h4⟩:=B92 (R:=R) a b c s (c - 1) (A3 FU) (swp d c (c - 1)) (R7 (by omega)) (by rw [C0];omega) (by rw [C0];omega)
     obtain ⟨i',s',q,h5,h6⟩:=up (shiftDown A8 (c - 1) (swp d c (c - 1))) (by rw [A2H,C0])
     refine ⟨i',s',q,fun kx=>?_,?_⟩
     ·rw [head,A2t (by omega),cond_false,hw,F0,decide_eq_false (by omega),cond_false,hc1,N6 rfl rfl (by omega) (by omega),hca,E0,decide_eq_true (by omega),cond_true,h4]
      exact h5 kx
     ·rw [partialIns];simp only [hc];rw [if_neg h1,if_neg h2,if_pos h3];exact h6
    ·obtain ⟨i',s',q,h5,h6⟩:=up (swp d c (c - 1)) (by rw [C0])
     refine ⟨i',s',q,fun kx=>?_,?_⟩
     ·rw [head,A2t (by omega),cond_false,hw,F0,decide_eq_false (by omega),cond_false,hc1,N6 rfl rfl (by omega) (by omega),hca,E0,decide_eq_false (by omega),cond_false]
      exact h5 kx
     ·rw [partialIns];simp only [hc];rw [if_neg h1,if_neg h2,if_neg h3];exact h6
end
noncomputable section
open Go.RowKit Go.Sort
variable {R:Type}
theorem B6x {xs:List V} (h:B7X xs=true):∃ d:Array V,xs=B6 d∧A1s xs=d∧d.size≤1000000∧d.size=xs.length:=by
 have h:Nat.ble xs.length 1000000=true:=h
 have e:B6 (A1s xs)=xs:=rfl
 have hs:(A1s xs).size=xs.length:=by rw [← Q5,e]
 have:=D50 h
 exact ⟨A1s xs,e.symm,rfl,by omega,hs⟩
theorem B0A {s:Z5} (h:A2l s=true):∃ (a b:Nat) (d:Array V),s.a=(a:Int)∧s.b=(b:Int)∧s.xs=B6 d∧s.d=d∧a < b∧b≤d.size∧d.size≤1000000:=by
 simp only [A2l,D5V,H8] at h
 obtain ⟨a,b,d,h1,h2,h3,h4,h5,h6,h7⟩:=A3g h.2
 exact ⟨a,b,d,h1,h2,h3,h4,by omega,h6,h7⟩
theorem B6y {s:Z5} (h:A4W s=true):∃ (a b c:Nat) (d:Array V),s.a=(a:Int)∧s.b=(b:Int)∧s.c=(c:Int)∧s.xs=B6 d∧s.d=d∧a≤c∧c < b∧b≤d.size∧d.size≤1000000:=by
 simp only [A4W,D5V,H8,D3] at h
 obtain ⟨a,b,d,h1,h2,h3,h4,h5,h6,h7⟩:=A3g h.2.2
 obtain ⟨c,hc⟩:=Int.eq_ofNat_of_zero_le (show 0≤s.c by omega)
 exact ⟨a,b,c,d,h1,h2,hc,h3,h4,by omega,by omega,h6,h7⟩
theorem C0b {xs:List V} {a b c:Int} (h:B0z ⟨xs,a,b,c⟩=true) (k:List V→Option R) :
  C8 (A2Q R) (A3 FU) (.m xs a b c) (fun | .o ys _ _ _=>k ys | .r ys _ _ _=>k ys)=k (A3F ⟨xs,a,b,c⟩):=by
 simp only [B0z,D5V,D3] at h
 obtain ⟨h1,h2,h3,h4,h5,h6⟩:=h
 obtain ⟨d,rfl,h7,h8,h9⟩:=B6x h6
 obtain ⟨a,rfl⟩:=Int.eq_ofNat_of_zero_le h1
 obtain ⟨b,rfl⟩:=Int.eq_ofNat_of_zero_le h2
 obtain ⟨c,rfl⟩:=Int.eq_ofNat_of_zero_le h3
 rw [Q5] at h4
 obtain ⟨r',q,hq,h10⟩:=B9Z (R:=R) b c b a (A3 FU) d (by omega) (R7 (by omega)) (by omega) (by omega) (by omega)
 rw [h10]
 have e:A3F ⟨B6 d,a,b,c⟩=B6 (siftDown A8 b c a d):=by rw [A3F,E2];simp only [Z5.d,h7,Int.toNat_natCast]
 rw [e]
 rcases hq with rfl | rfl<;>rfl
theorem C0c {xs:List V} {a b:Int} (h:A2l ⟨xs,a,b,0⟩=true) (k:List V→Option R) :
  C8 (A5C R) (A3 FU) (.m xs a (B3 (b - 1))) (fun | .o ys _ _=>k ys)=k (A3G ⟨xs,a,b,0⟩):=by
 obtain ⟨a',b',d,h1,h2,h3,h4,h5,h6,h7⟩:=B0A h
 simp only at h1 h2 h3
 subst h1 h2 h3
 obtain ⟨i',j',h8⟩:=B90 (R:=R) b' a' (b' - 1) (A3 FU) d (by omega) (R7 (by omega)) (by omega) (by omega) (by omega)
 rw [F6 (n:=b' - 1) (by omega) (by omega),h8]
 simp only
 rw [A3G,E2,h4];rfl
theorem C0d {xs:List V} {a b:Int} (h:A2l ⟨xs,a,b,0⟩=true) (k:Bool→List V→Option R) :
  C8 (A1R R) (A3 FU) (.m xs a b (B3 (a+1)) 0) (fun | .o ys _ _ _ _=>k false ys | .r ys _ _ _ _=>k false ys | .t ys _ _ _ _=>k true ys)=k (A5I ⟨xs,a,b,0⟩) (A36 ⟨xs,a,b,0⟩):=by
 obtain ⟨a',b',d,h1,h2,h3,h4,h5,h6,h7⟩:=B0A h
 simp only at h1 h2 h3
 subst h1 h2 h3
 obtain ⟨i',s',q,h8,h9⟩:=C0a (R:=R) a' b' 5 0 (a'+1) (A3 FU) d (by omega) (R7 (by omega)) (by omega) (by omega) h6 h7
 have e:C8 (A1R R) (A3 FU) (.m (B6 d) a' b' (B3 ((a':Int)+1)) 0)=C8 (A1R R) (A3 FU) (.m (B6 d) a' b' ((a'+1:Nat):Int) ((0:Nat):Int)):=by
  rw [F6 (n:=a'+1) (by omega) (by omega)];rfl
 rw [e,h8]
 rw [A5I,A36,E2,E2,h4]
 show _=k (partialIns A8 a' b' 5 (a'+1) d).2 (B6 (partialIns A8 a' b' 5 (a'+1) d).1)
 rcases h9 with ⟨rfl,h10⟩ | ⟨rfl,h10⟩ | ⟨rfl,h10⟩<;>rw [h10]
theorem C0e {xs:List V} {a b c:Int} (h:A4W ⟨xs,a,b,c⟩=true) (k:Int→List V→Option R) :
  A02 xs a c (fun ys=>C8 (A5P R) (A3 FU) (.m ys a (B3 (a+1)) (B3 (b - 1))) (fun | .o zs _ i _=>k i zs))=k (A5K ⟨xs,a,b,c⟩) (A5J ⟨xs,a,b,c⟩):=by
 obtain ⟨a',b',c',d,h1,h2,h3,h4,h5,h6,h7,h8,h9⟩:=B6y h
 simp only at h1 h2 h3 h4
 subst h1 h2 h3 h4
 rw [N6 rfl rfl (by omega) (by omega),F6 (n:=a'+1) (by omega) (by omega),F6 (n:=b' - 1) (by omega) (by omega)]
 obtain ⟨j',h10⟩:=B98 (R:=R) a' b' (a'+1) (b' - 1) (A3 FU) (swp d a' c') (by omega) (R7 (by omega)) (by omega) (by omega) (by rw [C0];omega) (by rw [C0];omega) (by rw [C0];omega)
 rw [h10]
 simp only
 rw [A5K,A5J,E2,E2,h5];rfl
theorem B0B (a:Nat):∀ (m i j:Nat) (d:Array V),j+1 - i≤m→(partLoop A8 a i j d).1≤j∧(partLoop A8 a i j d).2.size=d.size:=by
 intro m
 induction m with
 | zero =>
  intro i j d hm
  rw [partLoop]
  have hv:=scanDown_le (fun x=>!A8 x d[a]!) d (scanUp (fun x=>A8 x d[a]!) d j i) j
  split
  ·exact ⟨hv,rfl⟩
  ·rw [dif_neg (by omega)];exact ⟨hv,rfl⟩
 | succ m ih =>
  intro i j d hm
  rw [partLoop]
  have hv:=scanDown_le (fun x=>!A8 x d[a]!) d (scanUp (fun x=>A8 x d[a]!) d j i) j
  split
  ·exact ⟨hv,rfl⟩
  ·split
   ·rename_i h1 h2
    obtain ⟨h3,h4⟩:=ih (scanUp (fun x=>A8 x d[a]!) d j i+1) (scanDown (fun x=>!A8 x d[a]!) d (scanUp (fun x=>A8 x d[a]!) d j i) j - 1) (swp d (scanUp (fun x=>A8 x d[a]!) d j i) (scanDown (fun x=>!A8 x d[a]!) d (scanUp (fun x=>A8 x d[a]!) d j i) j)) (by omega)
    exact ⟨by omega,by rw [h4,C0]⟩
   ·exact ⟨hv,rfl⟩
def C98 (R:Type) (k:Int→Bool→List V→Option R) (xs:List V) (a i j:Int):Option R :=
 bif D4 j i then A02 xs j a (k j true) else A02 xs i j (fun xs=>C8 (A6P R) (A3 FU) (.m xs a (B3 (i+1)) (B3 (j - 1))) (fun | .o xs a i j=>A02 xs j a (k j false)))
def C0f (R:Type) (xs:List V) (a b c:Int) (k:Int→Bool→List V→Option R):Option R :=
 A02 xs a c (fun xs=>C8 (A9h R) (A3 FU) (.m xs a (B3 (a+1)) (B3 (b - 1))) (fun | .o xs a i j=>C8 (A9j R) (A3 FU) (.m xs a i j) (fun | .o xs a i j=>C98 R k xs a i j)))
theorem C0g {xs:List V} {a b c:Int} (h:A4W ⟨xs,a,b,c⟩=true) (k:Int→Bool→List V→Option R) :
  C0f R xs a b c k=k (A5M ⟨xs,a,b,c⟩) (A0G ⟨xs,a,b,c⟩) (A5L ⟨xs,a,b,c⟩):=by
 obtain ⟨a',b',c',d,h1,h2,h3,h4,h5,h6,h7,h8,h9⟩:=B6y h
 simp only at h1 h2 h3 h4
 subst h1 h2 h3 h4
 have hsz:=C0 d a' c'
 rw [C0f,N6 rfl rfl (by omega) (by omega),F6 (n:=a'+1) (by omega) (by omega),F6 (n:=b' - 1) (by omega) (by omega)]
 rw [B94 a' (b' - 1) b' (a'+1) _ (swp d a' c') (by omega) (R7 (by omega)) (by omega) (by omega) (by omega) (by omega)]
 simp only
 rw [B95 a' _ (Nat.le_trans (by omega) (scanUp_ge _ _ _ _)) (b' - 1) _ (swp d a' c') (R7 (by omega)) (by omega) (by omega) (by omega)]
 simp only
 rw [C98]
 have hu:=A3N (fun x=>A8 x (swp d a' c')[a']!) (swp d a' c') (b' - 1) b' (a'+1) (by omega) (by omega)
 have hu2:=scanUp_ge (fun x=>A8 x (swp d a' c')[a']!) (swp d a' c') (b' - 1) (a'+1)
 rw [A5M,A0G,A5L,E2,E2,E2,h5]
 simp only [Int.toNat_natCast,partition]
 generalize scanUp (fun x=>A8 x (swp d a' c')[a']!) (swp d a' c') (b' - 1) (a'+1)=i at hu hu2 ⊢
 have hv:=scanDown_le (fun x=>!A8 x (swp d a' c')[a']!) (swp d a' c') i (b' - 1)
 generalize scanDown (fun x=>!A8 x (swp d a' c')[a']!) (swp d a' c') i (b' - 1)=j at hv ⊢
 by_cases hij:i > j
 ·rw [F0,decide_eq_true (by omega),cond_true,N6 rfl rfl (by omega) (by omega),if_pos hij]
 ·rw [F0,decide_eq_false (by omega),cond_false,N6 rfl rfl (by omega) (by omega),F6 (n:=i+1) (by omega) (by omega),F6 (n:=j - 1) (by omega) (by omega),if_neg hij]
  have hs2:=C0 (swp d a' c') i j
  obtain ⟨i',h10⟩:=B99 (R:=R) a' b' (i+1) (j - 1) (A3 FU) (swp (swp d a' c') i j) (by omega) (R7 (by omega)) (by omega) (by omega) (by omega) (by omega) (by omega)
  obtain ⟨h11,h12⟩:=B0B a' b' (i+1) (j - 1) (swp (swp d a' c') i j) (by omega)
  rw [h10]
  simp only
  rw [N6 rfl rfl (by omega) (by omega)]
def C99 (R:Type) (xs:List V) (a b:Int) (k:List V→Option R):Option R:=C8 (A5O R) (A3 FU) (.m xs a b (B3 (a+1))) (fun | .o ys _ _ _=>k ys)
def D0a (R:Type) (xs:List V) (a b c:Int) (k:List V→Option R):Option R:=C8 (A2Q R) (A3 FU) (.m xs a b c) (fun | .o ys _ _ _=>k ys | .r ys _ _ _=>k ys)
def D0b (R:Type) (xs:List V) (a b:Int) (k:List V→Option R):Option R:=C8 (A5C R) (A3 FU) (.m xs a (B3 (b - 1))) (fun | .o ys _ _=>k ys)
def D0c (R:Type) (xs:List V) (a b:Int) (k:Bool→List V→Option R):Option R:=C8 (A1R R) (A3 FU) (.m xs a b (B3 (a+1)) 0) (fun | .o ys _ _ _ _=>k false ys | .r ys _ _ _ _=>k false ys | .t ys _ _ _ _=>k true ys)
def D0d (R:Type) (xs:List V) (a b c:Int) (k:Int→List V→Option R):Option R:=A02 xs a c (fun ys=>C8 (A5P R) (A3 FU) (.m ys a (B3 (a+1)) (B3 (b - 1))) (fun | .o zs _ i _=>k i zs))
def C0h (R:Type) (xs:List V) (a b n:Int) (k:Int→Int→Int→Option R):Option R:=A3w xs b a (k b a (B3 (n+1))) (k a b n)
theorem B7Z {xs:List V} {a b:Int} (h:A03 ⟨xs,a,b,0⟩=true) (k:List V→Option R):C99 R xs a b k=k (A5F ⟨xs,a,b,0⟩):=B97 h k
theorem B70 {xs:List V} {a b c:Int} (h:B0z ⟨xs,a,b,c⟩=true) (k:List V→Option R):D0a R xs a b c k=k (A3F ⟨xs,a,b,c⟩):=C0b h k
theorem B71 {xs:List V} {a b:Int} (h:A2l ⟨xs,a,b,0⟩=true) (k:List V→Option R):D0b R xs a b k=k (A3G ⟨xs,a,b,0⟩):=C0c h k
theorem B72 {xs:List V} {a b:Int} (h:A2l ⟨xs,a,b,0⟩=true) (k:Bool→List V→Option R):D0c R xs a b k=k (A5I ⟨xs,a,b,0⟩) (A36 ⟨xs,a,b,0⟩):=C0d h k
theorem B73 {xs:List V} {a b c:Int} (h:A4W ⟨xs,a,b,c⟩=true) (k:Int→List V→Option R):D0d R xs a b c k=k (A5K ⟨xs,a,b,c⟩) (A5J ⟨xs,a,b,c⟩):=C0e h k
end
noncomputable section
open Go.RowKit Go.Sort
variable {R:Type}
inductive B6z where | m (xs:List V) (f h i:Int)
inductive D0e where | o (xs:List V) (f h i:Int)
def A9l (R:Type) (p:B6z) (K:B6z→Option R) (kx:D0e→Option R):Option R:=match p with
 | .m xs f h i=>bif F2 0 i then (bif B0z ⟨xs,i,h,f⟩ then K (.m (A3F ⟨xs,i,h,f⟩) f h (B3 (i - 1))) else none) else kx (.o xs f h i)
inductive B6A where | m (xs:List V) (f h i:Int)
inductive D0f where | o (xs:List V) (f h i:Int)
def A9m (R:Type) (p:B6A) (K:B6A→Option R) (kx:D0f→Option R):Option R:=match p with
 | .m xs f h i=>bif F2 0 i then A02 xs f (B3 (f+i)) (fun ys=>bif B0z ⟨ys,0,i,f⟩ then K (.m (A3F ⟨ys,0,i,f⟩) f h (B3 (i - 1))) else none) else kx (.o xs f h i)
def C0i (R:Type) (xs:List V) (a b:Int) (k:List V→Option R):Option R :=
 C8 (A9l R) (A3 FU) (.m xs a (B3 (b - a)) (B3 (Int.tdiv (B3 (B3 (b - a) - 1)) 2))) (fun | .o xs f h _=>C8 (A9m R) (A3 FU) (.m xs f h (B3 (h - 1))) (fun | .o xs _ _ _=>k xs))
inductive B6B where | m (xs:List V) (a b l m i r:Int)
inductive D0g where | o (xs:List V) (a b l m i r:Int)
def A3H (R:Type) (p:B6B) (K:B6B→Option R) (kx:D0g→Option R):Option R:=match p with
 | .m xs a b l m i r=>bif F2 i (B3 (B3 (a+B3 (B3 (Int.tdiv l 4) * 2))+1)) then
   (bif F2 l (xrO (xrN r) m) then A02 xs i (B3 (a+B3 (xrO (xrN r) m - l))) (fun ys=>K (.m ys a b l m (B3 (i+1)) (xrN r)))
   else A02 xs i (B3 (a+xrO (xrN r) m)) (fun ys=>K (.m ys a b l m (B3 (i+1)) (xrN r)))) else kx (.o xs a b l m i r)
theorem A6S {d:Array V} (h:d.size≤1000000):B7X (B6 d)=true:=by
 exact D54 (by rw [Q5];exact h)
theorem B2o {d:Array V} {a b c:Nat} (h:c+b≤d.size) (h2:d.size≤1000000) (h3:a≤1000000):B0z ⟨B6 d,a,b,c⟩=true:=by
 simp only [B0z,A6S h2,Bool.and_true,D5V,D3,Q5]
 refine ⟨?_,?_,?_,?_,?_⟩<;>omega
theorem B2p {d:Array V} {a b c:Nat}:A3F ⟨B6 d,a,b,c⟩=B6 (siftDown A8 b c a d):=by
 rw [A3F,E2];simp only [Z5.d,L3,Int.toNat_natCast]
theorem V1 (h f:Nat):∀ (m r:Nat) (d:Array V),h - r≤m→(siftDown A8 h f r d).size=d.size:=by
 intro m
 induction m with
 | zero=>intro r d hm;rw [siftDown,dif_pos (by omega)]
 | succ m ih =>
  intro r d hm
  rw [siftDown]
  split
  ·rfl
  ·split
   ·split
    ·rfl
    ·split
     ·rw [ih _ _ (by omega),C0]
     ·rfl
   ·split
    ·rfl
    ·rw [ih _ _ (by omega),C0]
theorem C0j (f h:Nat):∀ (k n:Nat) (d:Array V),k < n→f+h≤d.size→d.size≤1000000→k≤1000000 →
  ∀ kx,C8 (A9l R) n (.m (B6 d) f h ((k:Int) - 1)) kx=kx (.o (B6 (heapBuild A8 h f k d)) f h (-1)):=by
 intro k
 induction k with
 | zero =>
  intro n d hn hz hs hk kx
  obtain ⟨n,rfl⟩:∃ m,n=m+1:=⟨n - 1,by omega⟩
  rw [C8,A9l,E0,decide_eq_false (by omega)];rfl
 | succ k ih =>
  intro n d hn hz hs hk kx
  obtain ⟨n,rfl⟩:∃ m,n=m+1:=⟨n - 1,by omega⟩
  have e:(((k+1:Nat):Int) - 1)=(k:Int):=by omega
  rw [C8,A9l,e,E0,decide_eq_true (by omega),cond_true,B2o hz hs (by omega),cond_true,B2p,G8 (by omega) (by omega),
   ih n _ (by omega) (by rw [V1 h f h _ _ (by omega)];exact hz) (by rw [V1 h f h _ _ (by omega)];exact hs) (by omega)]
  rfl
theorem A2I (h f:Nat):∀ (k:Nat) (d:Array V),(heapBuild A8 h f k d).size=d.size:=by
 intro k
 induction k with
 | zero=>intro d;rfl
 | succ k ih=>intro d;rw [heapBuild,ih,V1 h f h _ _ (by omega)]
theorem C0k (f h:Nat):∀ (k n:Nat) (d:Array V),k < n→f+k≤d.size→d.size≤1000000 →
  ∀ kx,C8 (A9m R) n (.m (B6 d) f h ((k:Int) - 1)) kx=kx (.o (B6 (heapPop A8 f k d)) f h (-1)):=by
 intro k
 induction k with
 | zero =>
  intro n d hn hz hs kx
  obtain ⟨n,rfl⟩:∃ m,n=m+1:=⟨n - 1,by omega⟩
  rw [C8,A9m,E0,decide_eq_false (by omega)];rfl
 | succ k ih =>
  intro n d hn hz hs kx
  obtain ⟨n,rfl⟩:∃ m,n=m+1:=⟨n - 1,by omega⟩
  have e:(((k+1:Nat):Int) - 1)=(k:Int):=by omega
  have hsz:=C0 d f (f+k)
  rw [C8,A9m,e,E0,decide_eq_true (by omega),cond_true,F6 (n:=f+k) (by omega) (by omega),N6 rfl rfl (by omega) (by omega)]
  have e0:(⟨B6 (swp d f (f+k)),0,(k:Int),(f:Int)⟩:Z5)=⟨B6 (swp d f (f+k)),((0:Nat):Int),(k:Int),(f:Int)⟩:=rfl
  rw [e0,B2o (by omega) (by omega) (by omega),cond_true,B2p,G8 (by omega) (by omega),
   ih n _ (by omega) (by rw [V1 k f k _ _ (by omega)];omega) (by rw [V1 k f k _ _ (by omega)];omega)]
  rfl
theorem B74 {xs:List V} {a b:Int} (h:A03 ⟨xs,a,b,0⟩=true) (k:List V→Option R):C0i R xs a b k=k (A5G ⟨xs,a,b,0⟩):=by
 obtain ⟨a',b',d,h1,h2,h3,h4,h5,h6,h7⟩:=A3g h
 simp only at h1 h2 h3
 subst h1 h2 h3
 have hw:B3 ((b':Int) - a')=((b' - a':Nat):Int):=F6 (by omega) (by omega)
 have hi:B3 (Int.tdiv (B3 (((b' - a':Nat):Int) - 1)) 2)=((((b' - a' - 1) / 2+1:Nat):Int) - 1):=by
  rw [G8 (n:=((b' - a':Nat):Int) - 1) (by omega) (by omega)]
  have:Int.tdiv (((b' - a':Nat):Int) - 1) 2=(((b' - a' - 1) / 2+1:Nat):Int) - 1:=by
   by_cases h0:b' - a'=0
   ·rw [h0];rfl
   ·rw [Int.tdiv_eq_ediv_of_nonneg (by omega)];omega
  rw [this,G8 (by omega) (by omega)]
 rw [C0i,hw,hi,C0j a' (b' - a') _ (A3 FU) d (R7 (by omega)) (by omega) h7 (by omega)]
 simp only
 rw [G8 (n:=((b' - a':Nat):Int) - 1) (by omega) (by omega),C0k a' (b' - a') (b' - a') (A3 FU) _ (R7 (by omega)) (by rw [A2I];omega) (by rw [A2I];exact h7)]
 simp only
 rw [A5G,E2,h4];rfl
theorem C0l (a b l m:Nat) (ha:a+l≤1000000) (h8:8≤l) (hm1:1≤m) (hm:m≤2 * l):∀ (q n:Nat) (r:UInt64) (d:Array V),q≤3→q < n→a+l≤d.size→d.size≤1000000 →
  ∃ r':Int,∃ i':Int,∀ kx,C8 (A3H R) n (.m (B6 d) a b l m ((a+l / 4 * 2+2 - q:Nat):Int) (r.toNat:Nat)) kx =
   kx (.o (B6 ((List.range q).foldl (fun st j=>breakStep a l m st (a+l / 4 * 2+2 - q+j)) (r,d)).2) a b l m i' r'):=by
 have hlim:B3 (B3 ((a:Int)+B3 (B3 (Int.tdiv (l:Int) 4) * 2))+1)=((a+l / 4 * 2+1:Nat):Int):=by
  rw [show Int.tdiv (l:Int) 4=((l / 4:Nat):Int) from by rw [Int.tdiv_eq_ediv_of_nonneg (by omega)];omega,
   F6 (x:=((l / 4:Nat):Int)) rfl (by omega),F6 (x:=((l / 4:Nat):Int) * 2) (n:=l / 4 * 2) (by omega) (by omega),
   F6 (x:=(a:Int)+((l / 4 * 2:Nat):Int)) (n:=a+l / 4 * 2) (by omega) (by omega),F6 (x:=((a+l / 4 * 2:Nat):Int)+1) (n:=a+l / 4 * 2+1) (by omega) (by omega)]
 intro q
 induction q with
 | zero =>
  intro n r d hq hn hz hs
  obtain ⟨n,rfl⟩:∃ m,n=m+1:=⟨n - 1,by omega⟩
  refine ⟨r.toNat,(a+l / 4 * 2+2:Nat),fun kx=>?_⟩
  rw [C8,A3H,hlim,E0,decide_eq_false (by omega)]
  rfl
 | succ q ih =>
  intro n r d hq hn hz hs
  obtain ⟨n,rfl⟩:∃ m,n=m+1:=⟨n - 1,by omega⟩
  obtain ⟨x1,x2⟩:=D06 r.toNat_lt
  obtain ⟨o1,o2⟩:=C6a (m:=m) x2 hm1 (by omega)
  have hx:xorNextN r.toNat=(xorNext r).toNat:=(xorNext_toNat r).symm
  have hi:a+l / 4 * 2+2 - (q+1)+1=a+l / 4 * 2+2 - q:=by omega
  generalize hidx:a+l / 4 * 2+2 - (q+1)=idx at hi
  have hw:B3 ((idx:Int)+1)=((a+l / 4 * 2+2 - q:Nat):Int):=F6 (by omega) (by omega)
  have step:∀ oth:Nat,oth < l→(if (xorNext r).toNat &&& (m - 1) ≥ l then ((xorNext r).toNat &&& (m - 1)) - l else (xorNext r).toNat &&& (m - 1))=oth →
    ∃ r':Int,∃ i':Int,∀ kx,A02 (B6 d) idx (B3 ((a:Int)+(oth:Int))) (fun ys=>C8 (A3H R) n (.m ys a b l m (B3 ((idx:Int)+1)) (xrN (r.toNat:Nat))) kx) =
     kx (.o (B6 ((List.range (q+1)).foldl (fun st j=>breakStep a l m st (idx+j)) (r,d)).2) a b l m i' r'):=by
   intro oth ho he
   obtain ⟨r',i',h⟩:=ih n (xorNext r) (swp d idx (a+oth)) (by omega) (by omega) (by rw [C0];exact hz) (by rw [C0];exact hs)
   refine ⟨r',i',fun kx=>?_⟩
   have hb:breakStep a l m (r,d) (idx+0)=(xorNext r,swp d idx (a+oth)):=by
    simp only [breakStep,Nat.add_zero]
    rw [he]
   have hf:(List.range (q+1)).foldl (fun st j=>breakStep a l m st (idx+j)) (r,d)=(List.range q).foldl (fun st j=>breakStep a l m st (a+l / 4 * 2+2 - q+j)) (xorNext r,swp d idx (a+oth)):=by
    rw [List.range_succ_eq_map,List.foldl_cons,List.foldl_map,hb]
    congr 1
    funext st j
    rw [show idx+(j+1)=a+l / 4 * 2+2 - q+j by omega]
   rw [F6 (n:=a+oth) (by omega) (by omega),N6 rfl rfl (by omega) (by omega),hw,x1,hx,h,hf]
  have head:∀ kx,C8 (A3H R) (n+1) (.m (B6 d) a b l m (idx:Nat) (r.toNat:Nat)) kx=bif F2 (l:Int) (xrO (xrN (r.toNat:Nat)) m) then A02 (B6 d) idx (B3 ((a:Int)+B3 (xrO (xrN (r.toNat:Nat)) m - l))) (fun ys=>C8 (A3H R) n (.m ys a b l m (B3 ((idx:Int)+1)) (xrN (r.toNat:Nat))) kx)
   else A02 (B6 d) idx (B3 ((a:Int)+xrO (xrN (r.toNat:Nat)) m)) (fun ys=>C8 (A3H R) n (.m ys a b l m (B3 ((idx:Int)+1)) (xrN (r.toNat:Nat))) kx):=by
   intro kx
   rw [C8,A3H,hlim,E0,decide_eq_true (by omega),cond_true]
  rw [hx] at x1 x2 o1 o2
  by_cases hc:(xorNext r).toNat &&& (m - 1) ≥ l
  ·obtain ⟨r',i',h⟩:=step (((xorNext r).toNat &&& (m - 1)) - l) (by omega) (by rw [if_pos hc])
   refine ⟨r',i',fun kx=>?_⟩
   rw [head,x1,o1,E0,decide_eq_true (by omega),cond_true,F6 (x:=(((xorNext r).toNat &&& (m - 1):Nat):Int) - (l:Int)) (n:=((xorNext r).toNat &&& (m - 1)) - l) (by omega) (by omega),← x1]
   exact h kx
  ·obtain ⟨r',i',h⟩:=step ((xorNext r).toNat &&& (m - 1)) (by omega) (by rw [if_neg hc])
   refine ⟨r',i',fun kx=>?_⟩
   rw [head,x1,o1,E0,decide_eq_false (by omega),cond_false,← x1]
   exact h kx
end
end Go.Vm
end