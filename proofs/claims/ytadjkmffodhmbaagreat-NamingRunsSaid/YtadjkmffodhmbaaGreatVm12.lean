/- What the operations of a program do, shown once for all programs; and numbers. -/
import Derived.Test.YtadjkmffodhmbaaGreatVm11
import Derived.Test.YtadjkmffodhmbaaGreatVm10
set_option linter.constructorNameAsVariable false
set_option linter.unusedVariables false
set_option linter.unusedSimpArgs false
noncomputable section
namespace Go.Vm
open Go.RowKit
variable {R:Type}
def T1 (x:List Nat):List Nat:=if x.length < 76 then x.length::x else if x.length < 256 then 76::x.length::x else 77::(x.length % 256)::(x.length / 256)::x
def A6k (x:V):List V:=(T1 (H0 x)).map nv
def P1 (l:List V):List V:=(l.map A6k).flatten
theorem A0d {x:V} {ns:List Nat} (h:x.els=ns.map nv):A6k x=(T1 ns).map nv:=by unfold A6k;rw [J1 h]
theorem A4k (x:List Nat):(T1 x).length≤x.length+3:=by
 unfold T1
 split
 ·simp
 ·split<;>simp
def dpG (t:Nat) (bs:List V):Option (List Rs) :=
 ln bs.length <| bif B5 (bs.length:Nat) 76 then (N0 (1+bs.length) <| some [.r t (.i (IntKind.wrap .u8 (bs.length:Nat))::bs) false]) else
 bif B5 (bs.length:Nat) 256 then (N0 (2+bs.length) <| some [.r t (.i 76::.i (IntKind.wrap .u8 (bs.length:Nat))::bs) false]) else
 N0 (3+bs.length) <| some [.r t (.i 77::.i (IntKind.wrap .u8 (Int.tmod (bs.length:Nat) 256))::.i (IntKind.wrap .u8 (D7 (Int.tdiv (bs.length:Nat) 256)))::bs) false]
def psg:List V→Bool
 | [x]=>Nat.ble x.els.length 60000
 | _=>false
def psr (t:Nat):List V→List Rs
 | [x]=>[.r t (A6k x) false]
 | _=>[]
theorem C3e {t:Nat} {ns:List Nat} (hl:ns.length≤60000):dpG t (ns.map nv)=some [.r t ((T1 ns).map nv) false]:=by
 unfold dpG T1
 rw [D2L,B7 (by omega),G5,G5]
 by_cases h1:ns.length < 76
 ·rw [show decide ((ns.length:Int) < 76)=true by simp;omega,cond_true,B3 (by omega),if_pos h1,u8w (by omega) (by omega)];rfl
 ·rw [show decide ((ns.length:Int) < 76)=false by simp;omega,cond_false,if_neg h1]
  by_cases h2:ns.length < 256
  ·rw [show decide ((ns.length:Int) < 256)=true by simp;omega,cond_true,B3 (by omega),if_pos h2,u8w (by omega) (by omega)];rfl
  ·rw [show decide ((ns.length:Int) < 256)=false by simp;omega,cond_false,B3 (by omega),if_neg h2]
   have e1:Int.tmod (ns.length:Nat) 256=((ns.length % 256:Nat):Int):=by rw [Int.tmod_eq_emod_of_nonneg (by omega)];omega
   have e2:Int.tdiv (ns.length:Nat) 256=((ns.length / 256:Nat):Int):=by rw [Int.tdiv_eq_ediv_of_nonneg (by omega)];omega
   rw [e1,e2,A1I (by omega),u8w (by omega) (by omega),u8w (by omega) (by omega)];rfl
theorem C7A {kx:QPs→Option R} {l:V}:∀ (r a xs:List V) (fuel:Nat),l.els=a++r→(∀ x∈r,(D.slice (.int .u8)).has x∧x.els.length≤60000)→xs.length+r.length * 60003≤1000000000→a.length+r.length≤10000→r.length < fuel →
  E1 (BPs R) fuel (.m xs l (l.els.length:Nat) (a.length:Nat)) kx=kx (.o (xs++P1 r) l (l.els.length:Nat) (l.els.length:Nat)):=by
 intro r
 induction r with
 | nil =>
  intro a xs fuel he hg hx ha hf
  obtain ⟨f,rfl⟩:∃ f,fuel=f+1:=⟨fuel - 1,by omega⟩
  rw [List.append_nil] at he
  rw [E1,C6y,A3l he,cond_false]
  simp [P1,he]
 | cons x r ih =>
  intro a xs fuel he hg hx ha hf
  obtain ⟨f,rfl⟩:∃ f,fuel=f+1:=⟨fuel - 1,by omega⟩
  simp only [D2P] at hx ha hf
  have hle:l.els.length=a.length+(r.length+1):=by rw [he];simp
  have hat:l.nth ((a.length:Nat):Int).toNat=x:=S7 he
  obtain ⟨h1,h2⟩:=hg x (by simp)
  obtain ⟨ns,hns,hnb⟩:=A0F h1
  have hpl:=A4k ns
  rw [hns,D2L] at h2
  have ih:=ih (a++[x]) (xs++A6k x) f (by rw [he];simp) (fun y hy=>hg y (by simp [hy])) (by rw [A0d hns,D2J,D2L];omega) (by simp;omega) (by omega)
  simp only [D2J,D2Q] at ih
  rw [E1,C6y,A3k he,cond_true,C9 (by omega) (by omega),hat,hns,D2L,B7 (by omega),L9 (by omega)]
  refine Eq.trans ?_ (ih.trans ?_)
  ·rw [A0d hns]
   unfold T1
   rw [Q0,G5]
   by_cases c1:ns.length < 76
   ·rw [show decide ((ns.length:Int)≤75)=true by simp;omega,cond_true,u8w (by omega) (by omega),B3 (by simp;omega),B3 (by simp;omega),if_pos c1]
    simp [nv]
   ·rw [show decide ((ns.length:Int)≤75)=false by simp;omega,cond_false,if_neg c1]
    by_cases c2:ns.length < 256
    ·rw [show decide ((ns.length:Int) < 256)=true by simp;omega,cond_true,u8w (by omega) (by omega),B3 (by simp;omega),B3 (by simp;omega),if_pos c2]
     simp [nv]
    ·have e1:IntKind.wrap .u8 (ns.length:Nat)=((ns.length % 256:Nat):Int):=by
      show (if (false&&decide (((ns.length:Nat):Int) % 2 ^ 8 ≥ 2 ^ (8 - 1)))=true then ((ns.length:Nat):Int) % 2 ^ 8 - 2 ^ 8 else ((ns.length:Nat):Int) % 2 ^ 8)=_
      simp<;>omega
     have e2:Int.fdiv (ns.length:Nat) 256=((ns.length / 256:Nat):Int):=by rw [Int.fdiv_eq_ediv_of_nonneg _ (by omega)];omega
     rw [show decide ((ns.length:Int) < 256)=false by simp;omega,cond_false,e1,e2,u8w (by omega) (by omega),B3 (by simp;omega),B3 (by simp;omega),if_neg c2]
     simp [nv]
  ·simp [P1]
def ppG (t:Nat) (bs:List V) (l:V):Option (List Rs) :=
 N0 ((List.replicate 0 (V.i 0)).length+bs.length) <| ln l.els.length <| E1 (BPs (List Rs)) (A2 FU) (.m (List.replicate 0 (V.i 0)++bs) l (l.els.length:Nat) 0) fun q=>match q with
  | .o xs1 l1 n1 i1=>some [.r t xs1 false]
def ppg:List V→Bool
 | [b,l]=>(!(isN b)&&Nat.ble b.els.length 100000)&&(Nat.ble l.els.length 1000&&l.els.all fun x=>Nat.ble x.els.length 60000)
 | _=>false
theorem D0O {l:V} (h:ppg [.n,l]=true):False:=by cases h
def ppr (t:Nat):List V→List Rs
 | [b,l]=>[.r t (b.els++P1 l.els) false]
 | _=>[]
theorem C3f {t:Nat} {bs:List V} {l:V} (hl:(D.slice (.slice (.int .u8))).has l) (hg:ppg [.l bs,l]=true):ppG t bs l=some (ppr t [.l bs,l]):=by
 have hg:((!(isN (.l bs))&&Nat.ble bs.length 100000)&&(Nat.ble l.els.length 1000&&l.els.all fun x=>Nat.ble x.els.length 60000))=true:=hg
 simp only [D2I,Nat.ble_eq,List.all_eq_true] at hg
 obtain ⟨⟨_,g1⟩,g2,g3⟩:=hg
 have hq:=U0
 unfold ppG
 rw [B3 (by simp;omega),B7 (by omega)]
 refine (C7A (l:=l) l.els [] _ (A2 FU) rfl (fun x hx=>⟨V3 hl x hx,g3 x hx⟩) (by simp;omega) (by simp;omega) (by omega)).trans ?_
 simp [ppr,V.els]
theorem C7B {kx:QEq→Option R} {a b c:V} {n:Nat} {A B:List Nat} (ha:a.els=A.map nv) (hb:b.els=B.map nv) (hA:A.length=n) (hB:B.length=n) (hn:n≤1000000):∀ (k i fuel:Nat),i+k=n→k < fuel→A.take i=B.take i →
  E1 (BEq R) fuel (.m a b c (n:Nat) (i:Nat)) kx=(if A=B then kx (.o a b c (n:Nat) (n:Nat)) else E1 (BEq R) fuel (.m a b c (n:Nat) (i:Nat)) kx) ∧
  (A≠B→∃ j:Int,E1 (BEq R) fuel (.m a b c (n:Nat) (i:Nat)) kx=kx (.r a b c (n:Nat) j)):=by
 intro k
 induction k with
 | zero =>
  intro i fuel hi hf ht
  have:A=B:=by rw [← List.take_length (l:=A),← List.take_length (l:=B),hA,hB,← hi];exact ht
  obtain ⟨f,rfl⟩:∃ f,fuel=f+1:=⟨fuel - 1,by omega⟩
  refine ⟨?_,fun h=>absurd this h⟩
  rw [if_pos this,E1,C6z,G5,show decide (((i:Nat):Int) < ((n:Nat):Int))=false by simp;omega,cond_false,show i=n by omega]
 | succ k ih =>
  intro i fuel hi hf ht
  obtain ⟨f,rfl⟩:∃ f,fuel=f+1:=⟨fuel - 1,by omega⟩
  have iA:i < A.length:=by omega
  have iB:i < B.length:=by omega
  have eA:(V.nth a ((i:Nat):Int).toNat).int=(A[i]:Nat):=A8V ha (by simp [iA])
  have eB:(V.nth b ((i:Nat):Int).toNat).int=(B[i]:Nat):=A8V hb (by simp [iB])
  have step:E1 (BEq R) (f+1) (.m a b c (n:Nat) (i:Nat)) kx=bif !(decide (((A[i]:Nat):Int)=((B[i]:Nat):Int))) then kx (.r a b c (n:Nat) (i:Nat)) else E1 (BEq R) f (.m a b c (n:Nat) ((i+1:Nat):Int)) kx:=by
   rw [E1,C6z,G5,show decide (((i:Nat):Int) < ((n:Nat):Int))=true by simp;omega,cond_true,C9 (by omega) (by rw [ha,D2L];omega),C9 (by omega) (by rw [hb,D2L];omega),eA,eB,X7,L9 (by omega)]
  by_cases h:A[i]=B[i]
  ·have hd:decide (((A[i]:Nat):Int)=((B[i]:Nat):Int))=true:=by simp [h]
   obtain ⟨h1,h2⟩:=ih (i+1) f (by omega) (by omega) (by rw [List.take_succ_eq_append_getElem iA,List.take_succ_eq_append_getElem iB,ht,h])
   rw [step,hd,Bool.not_true,cond_false]
   exact ⟨h1,h2⟩
  ·have hd:decide (((A[i]:Nat):Int)=((B[i]:Nat):Int))=false:=by simp;omega
   have hne:A≠B:=by intro hh;subst hh;exact h rfl
   rw [step,hd,Bool.not_false,cond_true]
   exact ⟨by rw [if_neg hne],fun _=>⟨_,rfl⟩⟩
def eqG (t:Nat) (a b:V):Option (List Rs) :=
 ln a.els.length <| ln b.els.length <| bif !(L5 (a.els.length:Nat) (b.els.length:Nat)) then some [.d t (.b false)] else
 ln a.els.length <| E1 (BEq (List Rs)) (A2 FU) (.m a b a (a.els.length:Nat) 0) fun q=>match q with
  | .o a1 b1 c1 n1 i1=>some [.d t (.b true)]
  | .r a1 b1 c1 n1 i1=>some [.d t (.b false)]
def eqg:List V→Bool
 | [a,b]=>Nat.ble a.els.length 100000&&Nat.ble b.els.length 100000
 | _=>false
def eqr (t:Nat):List V→List Rs
 | [a,b]=>[.d t (.b (F5 a.els b.els))]
 | _=>[]
theorem B8i:∀ {a b:List Nat},a.map nv=b.map nv→a=b:=by
 intro a b h
 exact (List.map_inj_right (f:=nv) (fun x y h=>by injection h with h;omega)).1 h
theorem C3g (a b:List Nat):F5 (a.map nv) (b.map nv)=decide (a=b):=by
 by_cases h:a=b
 ·subst h;simp [G9]
 ·simp only [h,decide_false]
  rw [← Bool.not_eq_true,G9]
  exact fun hh=>h (B8i hh)
theorem C3h {t:Nat} {a b:V} (ha:(D.slice (.int .u8)).has a) (hb:(D.slice (.int .u8)).has b) (hg:eqg [a,b]=true):eqG t a b=some (eqr t [a,b]):=by
 have hg:(Nat.ble a.els.length 100000&&Nat.ble b.els.length 100000)=true:=hg
 simp only [D2I,Nat.ble_eq] at hg
 obtain ⟨g1,g2⟩:=hg
 have hq:=U0
 obtain ⟨A,hA,_⟩:=A0F ha
 obtain ⟨B,hB,_⟩:=A0F hb
 have lA:a.els.length=A.length:=by rw [hA,D2L]
 have lB:b.els.length=B.length:=by rw [hB,D2L]
 show eqG t a b=some [.d t (.b (F5 a.els b.els))]
 unfold eqG
 rw [B7 (by omega),B7 (by omega),X7,hA,hB,C3g,D2L,D2L]
 by_cases hl:A.length=B.length
 ·rw [show decide ((A.length:Int)=(B.length:Int))=true by simp;omega,Bool.not_true,cond_false,B7 (by omega)]
  obtain ⟨h1,h2⟩:=C7B (R:=List Rs) (c:=a) (kx:=fun q=>match q with
   | .o a1 b1 c1 n1 i1=>some [.d t (.b true)]
   | .r a1 b1 c1 n1 i1=>some [.d t (.b false)]) hA hB rfl hl.symm (by omega) A.length 0 (A2 FU) (by omega) (by omega) rfl
  by_cases h:A=B
  ·rw [if_pos h] at h1
   refine h1.trans ?_
   simp [h]
  ·obtain ⟨j,hj⟩:=h2 h
   refine hj.trans ?_
   simp [h]
 ·rw [show decide ((A.length:Int)=(B.length:Int))=false by simp;omega,Bool.not_false,cond_true]
  have:A≠B:=fun h=>hl (by rw [h])
  simp [this]
inductive PPd where
 | m (bs:List V) (xs:List V) (nl:Bool) (n:Int) (i:Int)
inductive QPd where
 | o (bs:List V) (xs:List V) (nl:Bool) (n:Int) (i:Int)
 | r (bs:List V) (xs:List V) (nl:Bool) (n:Int) (i:Int)
def BPd (R:Type) (p:PPd) (K:PPd→Option R) (kx:QPd→Option R):Option R :=
 match p with
 | .m bs xs nl n i =>
  bif B5 i n then
   bif Nat.ble bs.length 1000000 then
   bif !(L5 (nxE (.l bs)) 0) then
   kx (.r bs xs nl n i)
   else
   N0 (xs.length+([(nxD (.l bs))]).length) <|
   bif ((C0 0 (nxU (.l bs)))&&(C0 (nxU (.l bs)) (bs.length:Nat)))&&(C0 (bs.length:Nat) (bs.length:Nat)) then
   K (.m (List.take ((((bs.length:Nat) - (nxU (.l bs)))).toNat) (List.drop (((nxU (.l bs))).toNat) bs)) (xs++[(nxD (.l bs))]) (nl&&([(nxD (.l bs))]).isEmpty) n (D7 (i+1)))
   else
   none
   else
   none
   else
   kx (.o bs xs nl n i)
abbrev C54:=@BPd.eq_1
inductive PPu where
 | m (xs:List V) (l:V) (n:Int) (i:Int)
inductive QPu where
 | o (xs:List V) (l:V) (n:Int) (i:Int)
def BPu (R:Type) (p:PPu) (K:PPu→Option R) (kx:QPu→Option R):Option R :=
 match p with
 | .m xs l n i =>
  bif B5 i n then
   ck i ((l.els).length) <|
   bif Nat.ble ((((V.nth l i.toNat)).els).length) 60000 then
   N0 (xs.length+((A6k (.l (((V.nth l i.toNat)).els)))).length) <|
   K (.m (xs++(A6k (.l (((V.nth l i.toNat)).els)))) l n (D7 (i+1)))
   else
   none
   else
   kx (.o xs l n i)
abbrev C55:=@BPu.eq_1
inductive B40 where
 | m (bs:List V) (z:V) (e:V) (xs:List V) (a:Int)
inductive C7C where
 | o (bs:List V) (z:V) (e:V) (xs:List V) (a:Int)
def B8j (R:Type) (p:B40) (K:B40→Option R) (kx:C7C→Option R):Option R :=
 match p with
 | .m bs z e xs a =>
  ln xs.length <|
   bif B5 (xs.length:Nat) 3 then
   ln bs.length <|
   bif C0 a (bs.length:Nat) then
   bif ((C0 0 a)&&(C0 a (bs.length:Nat)))&&(C0 (bs.length:Nat) (bs.length:Nat)) then
   bif Nat.ble (((List.take ((((bs.length:Nat) - a)).toNat) (List.drop a.toNat bs))).length) 1000000 then
   bif !(L5 (nxE (.l (List.take ((((bs.length:Nat) - a)).toNat) (List.drop a.toNat bs)))) 0) then
   kx (.o bs z e xs a)
   else
   N0 (xs.length+([(V.s (((nxD (.l (List.take ((((bs.length:Nat) - a)).toNat) (List.drop a.toNat bs))))).els))]).length) <|
   K (.m bs z e (xs++[(V.s (((nxD (.l (List.take ((((bs.length:Nat) - a)).toNat) (List.drop a.toNat bs))))).els))]) (D7 (a+(nxU (.l (List.take ((((bs.length:Nat) - a)).toNat) (List.drop a.toNat bs)))))))
   else
   none
   else
   none
   else
   kx (.o bs z e xs a)
   else
   kx (.o bs z e xs a)
abbrev B8k:=@B8j.eq_1
inductive B41 where
 | m (bs:List V) (z:V) (e:V) (xs:List V)
inductive C7D where
 | o (bs:List V) (z:V) (e:V) (xs:List V)
def B42 (R:Type) (p:B41) (K:B41→Option R) (kx:C7D→Option R):Option R :=
 match p with
 | .m bs z e xs =>
  ln xs.length <|
   bif B5 (xs.length:Nat) 3 then
   N0 (xs.length+([(V.s ([]:List V))]).length) <|
   K (.m bs z e (xs++[(V.s ([]:List V))]))
   else
   kx (.o bs z e xs)
abbrev B8l:=@B42.eq_1
inductive B43 where
 | m (bs:List V) (z:V) (e:V) (xs:List V) (i:Int)
inductive C7E where
 | o (bs:List V) (z:V) (e:V) (xs:List V) (i:Int)
def B1y (R:Type) (p:B43) (K:B43→Option R) (kx:C7E→Option R):Option R :=
 match p with
 | .m bs z e xs i =>
  bif B5 i 20 then
   ck 0 xs.length <|
   ck i ((((List.getD xs 0 .n)).els).length) <|
   ck i 20 <|
   K (.m bs z (V.put e 4 (V.put (V.nth e 4) i.toNat (.i (((List.getD (((List.getD xs 0 .n)).els) i.toNat .n)).int)))) xs (D7 (i+1)))
   else
   kx (.o bs z e xs i)
abbrev B8m:=@B1y.eq_1
variable {R:Type}
def pcs:Nat→List Nat→Option (List (List Nat)×List Nat)
 | 0,b=>some ([],b)
 | n+1,b=>match nxS b with
  | none=>none
  | some q=>match pcs n (b.drop q.2.2) with
   | none=>none
   | some p=>some (q.2.1::p.1,p.2)
def lsW (l:List (List Nat)):List V:=l.map fun x=>.l (x.map nv)
def pdO (x:V) (n:Int):Bool:=(pcs n.toNat (H0 x)).isSome
def pdL (x:V) (n:Int):List V:=match pcs n.toNat (H0 x) with
 | some q=>lsW q.1
 | none=>[]
def pdB (x:V) (n:Int):V:=match pcs n.toNat (H0 x) with
 | some q=>.l (q.2.map nv)
 | none=>.n
theorem C7F {c h n:Nat} {l:List Nat} {q:Nat×List Nat×Nat} (h1:tkS c h n l=some q):q.2.2≤l.length∧h≤q.2.2∧∀ x∈q.2.1,x∈l:=by
 unfold tkS at h1
 split at h1
 ·rename_i hc
  cases h1
  exact ⟨hc,Nat.le_add_right ..,fun x hx=>List.mem_of_mem_drop (List.mem_of_mem_take hx)⟩
 ·cases h1
theorem A8Q {b:List Nat} {q:Nat×List Nat×Nat} (h:nxS b=some q) (hb:∀ x∈b,x < 256):q.2.2≤b.length∧1≤q.2.2∧(∀ x∈q.2.1,x < 256)∧q.2.1.length≤b.length:=by
 have tk:∀ {c hh n:Nat},1≤hh→tkS c hh n b=some q→q.2.2≤b.length∧1≤q.2.2∧(∀ x∈q.2.1,x < 256)∧q.2.1.length≤b.length:=by
  intro c hh n h1 ht
  obtain ⟨p1,p2,p3⟩:=C7F ht
  refine ⟨p1,by omega,fun x hx=>hb x (p3 x hx),?_⟩
  unfold tkS at ht
  split at ht
  ·cases ht;simp;omega
  ·cases ht
 cases b with
 | nil=>cases h
 | cons c r =>
  have hc:=hb c (by simp)
  simp only [nxS] at h
  by_cases c1:c≤75
  ·rw [if_pos c1] at h;exact tk (by omega) h
  rw [if_neg c1] at h
  by_cases c2:c=76
  ·rw [if_pos c2] at h
   cases r with
   | nil=>cases h
   | cons n r=>exact tk (by omega) h
  rw [if_neg c2] at h
  by_cases c3:c=77
  ·rw [if_pos c3] at h
   match r,h with
   | [],h=>cases h
   | [_],h=>cases h
   | n::m::r,h=>exact tk (by omega) h
  rw [if_neg c3] at h
  by_cases c4:81≤c∧c≤96
  ·rw [if_pos c4] at h
   cases h
   refine ⟨by simp,by simp,fun x hx=>?_,by simp⟩
   simp only [List.mem_singleton] at hx;omega
  ·rw [if_neg c4] at h;exact tk (by omega) h
theorem A98 {B:List Nat}:(∀ q,nxS B=some q→nxE (.l (B.map nv))=0∧nxD (.l (B.map nv))=.l (q.2.1.map nv)∧nxU (.l (B.map nv))=(q.2.2:Nat))∧(nxS B=none→nxE (.l (B.map nv))=71):=by
 have e:H0 (.l (B.map nv))=B:=J1 rfl
 unfold nxE nxD nxU
 rw [e]
 exact ⟨fun q h=>by rw [h];exact ⟨rfl,rfl,rfl⟩,fun h=>by rw [h]⟩
theorem C3i {kx:QPd→Option R} {ko:List V→List V→Bool→Option R} {kr:Option R} {n:Nat} (ho:∀ b x nl i,kx (.o b x nl (n:Nat) i)=ko b x nl) (hr:∀ b x nl i,kx (.r b x nl (n:Nat) i)=kr) (hn:n≤10):∀ (m i:Nat) (B:List Nat) (xs:List V) (nl:Bool) (fuel:Nat),i+m=n→(∀ x∈B,x < 256)→B.length≤1000000→xs.length≤i→m < fuel →
  E1 (BPd R) fuel (.m (B.map nv) xs nl (n:Nat) (i:Nat)) kx=(match pcs m B with
   | some p=>ko (p.2.map nv) (xs++lsW p.1) (nl&&p.1.isEmpty)
   | none=>kr):=by
 intro m
 induction m with
 | zero =>
  intro i B xs nl fuel hi hb hl hx hf
  obtain ⟨f,rfl⟩:∃ f,fuel=f+1:=⟨fuel - 1,by omega⟩
  rw [E1,C54,G5,show decide (((i:Nat):Int) < ((n:Nat):Int))=false by simp;omega,cond_false,ho]
  simp [pcs,lsW]
 | succ m ih =>
  intro i B xs nl fuel hi hb hl hx hf
  obtain ⟨f,rfl⟩:∃ f,fuel=f+1:=⟨fuel - 1,by omega⟩
  obtain ⟨n1,n2⟩:=@A98 B
  rw [E1,C54,G5,show decide (((i:Nat):Int) < ((n:Nat):Int))=true by simp;omega,cond_true,D2L,D2R hl,cond_true]
  simp only [pcs]
  cases hq:nxS B with
  | none =>
   rw [n2 hq,X7,show decide ((71:Int)=0)=false by decide,Bool.not_false,cond_true,hr]
  | some q =>
   obtain ⟨e1,e2,e3⟩:=n1 q hq
   obtain ⟨u1,u2,u3,_⟩:=A8Q hq hb
   rw [e1,e2,e3,X7,show decide ((0:Int)=0)=true by decide,Bool.not_true,cond_false,B3 (by simp;omega),show ((C0 0 (q.2.2:Nat)&&C0 (q.2.2:Nat) (B.length:Nat))&&C0 (B.length:Nat) (B.length:Nat))=true by simp only [Q0,D2I,D2T];omega,cond_true,L9 (by omega)]
   have c1:List.take ((B.length:Int) - (q.2.2:Nat)).toNat (List.drop (((q.2.2:Nat):Int)).toNat (B.map nv))=(B.drop q.2.2).map nv:=by
    rw [show (((q.2.2:Nat):Int)).toNat=q.2.2 by omega,List.take_of_length_le (by simp<;>omega),List.map_drop]
   rw [c1]
   refine (ih (i+1) (B.drop q.2.2) (xs++[.l (q.2.1.map nv)]) _ f (by omega) (fun x hx=>hb x (List.mem_of_mem_drop hx)) (by simp;omega) (by simp;omega) (by omega)).trans ?_
   cases hp:pcs m (B.drop q.2.2) with
   | none=>simp only [hp]
   | some p=>simp [lsW,hp]
def pdG (ts t b:Nat) (bs:List V) (n:Int):Option (List Rs) :=
 E1 (BPd (List Rs)) (A2 FU) (.m bs [] true n 0) fun q=>match q with
  | .o b1 x1 nl1 n1 i1=>some [.r ts x1 nl1,.d t (.l b1),.d b (.b true)]
  | .r b1 x1 nl1 n1 i1=>some [.r ts [] true,.d t .n,.d b (.b false)]
def pdg:List V→Bool
 | [x,n]=>(!(isN x)&&Nat.ble x.els.length 1000000)&&(C0 1 n.int&&C0 n.int 3)
 | _=>false
def pdr (ts t b:Nat):List V→List Rs
 | [x,n]=>[.r ts (pdL x n.int) (!(pdO x n.int)),.d t (pdB x n.int),.d b (.b (pdO x n.int))]
 | _=>[]
theorem D0P {n:V} (h:pdg [.n,n]=true):False:=by cases h
theorem C3j {ts t b:Nat} {ns:List Nat} {n:Int} (hb:∀ x∈ns,x < 256) (hg:pdg [.l (ns.map nv),.i n]=true):pdG ts t b (ns.map nv) n=some (pdr ts t b [.l (ns.map nv),.i n]):=by
 have hg:((!(isN (.l (ns.map nv)))&&Nat.ble (ns.map nv).length 1000000)&&(C0 1 n&&C0 n 3))=true:=hg
 simp only [D2I,Nat.ble_eq,Q0,D2T,D2L] at hg
 obtain ⟨⟨_,g1⟩,g2,g3⟩:=hg
 have hq:=U0
 obtain ⟨m,rfl⟩:∃ m:Nat,n=m:=⟨n.toNat,by omega⟩
 unfold pdG
 refine (C3i (n:=m) (ko:=fun b1 x1 nl1=>some [Rs.r ts x1 nl1,.d t (.l b1),.d b (.b true)]) (kr:=some [Rs.r ts [] true,.d t .n,.d b (.b false)]) (fun _ _ _ _=>rfl) (fun _ _ _ _=>rfl) (by omega) m 0 ns [] true (A2 FU) (by omega) hb g1 (by simp) (by omega)).trans ?_
 show _=some [Rs.r ts (pdL (.l (ns.map nv)) m) (!(pdO (.l (ns.map nv)) m)),.d t (pdB (.l (ns.map nv)) m),.d b (.b (pdO (.l (ns.map nv)) m))]
 have e:H0 (.l (ns.map nv))=ns:=J1 rfl
 unfold pdL pdO pdB
 rw [e,show ((m:Int)).toNat=m by omega]
 cases hp:pcs m ns with
 | none=>rfl
 | some p =>
  have:p.1.isEmpty=false:=by
   match m,hp,g2 with
   | k+1,hp,_ =>
    simp only [pcs] at hp
    split at hp
    ·cases hp
    ·split at hp
     ·cases hp
     ·cases hp;rfl
  simp [this]
theorem C7G {kx:QPu→Option R} {l:V}:∀ (r a xs:List V) (fuel:Nat),l.els=a++r→(∀ x∈r,D.str.has x∧x.els.length≤60000)→xs.length+r.length * 60003≤1000000000→a.length+r.length≤10000→r.length < fuel →
  E1 (BPu R) fuel (.m xs l (l.els.length:Nat) (a.length:Nat)) kx=kx (.o (xs++P1 r) l (l.els.length:Nat) (l.els.length:Nat)):=by
 intro r
 induction r with
 | nil =>
  intro a xs fuel he hg hx ha hf
  obtain ⟨f,rfl⟩:∃ f,fuel=f+1:=⟨fuel - 1,by omega⟩
  rw [List.append_nil] at he
  rw [E1,C55,A3l he,cond_false]
  simp [P1,he]
 | cons x r ih =>
  intro a xs fuel he hg hx ha hf
  obtain ⟨f,rfl⟩:∃ f,fuel=f+1:=⟨fuel - 1,by omega⟩
  simp only [D2P] at hx ha hf
  have hle:l.els.length=a.length+(r.length+1):=by rw [he];simp
  have hat:l.nth ((a.length:Nat):Int).toNat=x:=S7 he
  obtain ⟨⟨ns,rfl,hns⟩,h2⟩:=hg x (by simp)
  have hpl:=A4k ns
  have hps:A6k (.l (V.s (ns.map nv)).els)=(T1 ns).map nv:=A0d (x:=.l (ns.map nv)) rfl
  have hps2:A6k (V.s (ns.map nv))=(T1 ns).map nv:=A0d (x:=.s (ns.map nv)) rfl
  have h2':ns.length≤60000:=by rw [← D2L (f:=nv)];exact h2
  have ih:=ih (a++[.s (ns.map nv)]) (xs++(T1 ns).map nv) f (by rw [he];simp) (fun y hy=>hg y (by simp [hy])) (by rw [D2J,D2L];omega) (by simp;omega) (by omega)
  simp only [D2J,D2Q] at ih
  rw [E1,C55,A3k he,cond_true,C9 (by omega) (by omega),hat,D2R h2,cond_true,hps,B3 (by rw [D2L];omega),L9 (by omega)]
  refine ih.trans ?_
  simp [P1,hps2]
def puG (t:Nat) (l:V):Option (List Rs) :=
 ln l.els.length <| E1 (BPu (List Rs)) (A2 FU) (.m (List.replicate 0 (V.i 0)) l (l.els.length:Nat) 0) fun q=>match q with
  | .o xs1 l1 n1 i1=>some [.r t xs1 false]
def pug:List V→Bool
 | [l]=>Nat.ble l.els.length 1000&&l.els.all fun x=>Nat.ble x.els.length 60000
 | _=>false
def pur (t:Nat):List V→List Rs
 | [l]=>[.r t (P1 l.els) false]
 | _=>[]
theorem C3k {t:Nat} {l:V} (hl:(D.slice .str).has l) (hg:pug [l]=true):puG t l=some (pur t [l]):=by
 have hg:(Nat.ble l.els.length 1000&&l.els.all fun x=>Nat.ble x.els.length 60000)=true:=hg
 simp only [D2I,Nat.ble_eq,List.all_eq_true] at hg
 obtain ⟨g2,g3⟩:=hg
 have hq:=U0
 unfold puG
 rw [B7 (by omega)]
 refine (C7G (l:=l) l.els [] _ (A2 FU) rfl (fun x hx=>⟨V3 hl x hx,g3 x hx⟩) (by simp;omega) (by simp;omega) (by omega)).trans ?_
 simp [pur]
variable {R:Type}
abbrev B3s:D:=.struct [.int .i64,.str,.str,.str,.arr 20 (.int .u8)]
def z20:V:=.l (List.replicate 20 (.i 0))
def kD (x:V):Int:=(x.nth 0).int
def w1L (c:List V):List V:=[V.i 81]++P1 [.l c]++[V.i 109]
def w2L (nm rd vl:List V):List V:=[V.i 82]++P1 [.l nm,.l rd,.l vl]++[V.i 109,V.i 109]
def w3L (nm vl:List V):List V:=[V.i 83]++P1 [.l nm,.l vl]++[V.i 109,V.i 117]
def D9 (x:V):List V:=bif L5 (kD x) 1 then w1L (x.nth 4).els else bif L5 (kD x) 2 then w2L (x.nth 1).els (x.nth 3).els (x.nth 2).els else w3L (x.nth 1).els (x.nth 2).els
def A2b (x:V):Bool :=
 bif L5 (kD x) 1 then F5 (((x.nth 1).els++(x.nth 3).els)++(x.nth 2).els) [] else
 bif L5 (kD x) 2 then (C0 1 ((x.nth 1).els.length:Nat)&&(C0 ((x.nth 1).els.length:Nat) 64&&(C0 1 ((x.nth 3).els.length:Nat)&&(C0 ((x.nth 3).els.length:Nat) 32&&(C0 ((x.nth 2).els.length:Nat) 200&&Q5 (x.nth 4) z20)))))
 else (C0 1 ((x.nth 1).els.length:Nat)&&(C0 ((x.nth 1).els.length:Nat) 64&&(C0 ((x.nth 3).els.length:Nat) 0&&(C0 ((x.nth 2).els.length:Nat) 200&&Q5 (x.nth 4) z20))))
def dkB (x:V):Bool:=(C0 1 (kD x)&&C0 (kD x) 3)&&(Nat.ble (x.nth 1).els.length 60000&&(Nat.ble (x.nth 2).els.length 60000&&Nat.ble (x.nth 3).els.length 60000))
def dkg:List V→Bool
 | [x]=>dkB x
 | _=>false
def wdr (t:Nat):List V→List Rs
 | [x]=>[.r t (D9 x) false]
 | _=>[]
def D1L (t:Nat):List V→List Rs
 | [x]=>[.d t (.b (A2b x))]
 | _=>[]
theorem A2H (x:V):(A6k x).length≤x.els.length+3:=by
 unfold A6k
 rw [D2L]
 have:=A4k (H0 x)
 have e:(H0 x).length=x.els.length:=by unfold H0;rw [D2L]
 omega
theorem B1z (c:List V):(w1L c).length≤c.length+5:=by
 have:=A2H (.l c)
 simp only [V.els] at this
 unfold w1L P1
 simp;omega
theorem B1A (a b c:List V):(w2L a b c).length≤a.length+b.length+c.length+12:=by
 have h1:=A2H (.l a)
 have h2:=A2H (.l b)
 have h3:=A2H (.l c)
 simp only [V.els] at h1 h2 h3
 unfold w2L P1
 simp;omega
theorem B1B (a b:List V):(w3L a b).length≤a.length+b.length+9:=by
 have h1:=A2H (.l a)
 have h2:=A2H (.l b)
 simp only [V.els] at h1 h2
 unfold w3L P1
 simp;omega
theorem B1C {x:V} (h:B3s.has x):∃ (k:Int) (nm vl rd c:List Nat),x=.l [.i k,.s (nm.map nv),.s (vl.map nv),.s (rd.map nv),.l (c.map nv)]∧inR .i64 k∧(∀ a∈nm,a < 256)∧(∀ a∈vl,a < 256)∧(∀ a∈rd,a < 256)∧(∀ a∈c,a < 256)∧c.length=20:=by
 obtain ⟨ys,rfl,hy⟩:=h
 obtain ⟨a,b,c,d,e,rfl,⟨k,rfl,hk⟩,⟨nm,rfl,h1⟩,⟨vl,rfl,h2⟩,⟨rd,rfl,h3⟩,zs,rfl,hl,hz⟩:=D0G hy
 obtain ⟨c,rfl,hc⟩:=u8s hz
 exact ⟨k,nm,vl,rd,c,rfl,hk,h1,h2,h3,hc,by rw [← hl,D2L]⟩
theorem A6l {k:Int} {r:List V} (h:dkB (.l (.i k::r))=true):k=1∨k=2∨k=3:=by
 have h:((C0 1 k&&C0 k 3)&&_)=true:=h
 simp only [D2I,Q0,D2T] at h
 omega
theorem B1D {k:Int} {nm vl rd:List V} {c:V} (h:dkB (.l [.i k,.s nm,.s vl,.s rd,c])=true):nm.length≤60000∧vl.length≤60000∧rd.length≤60000:=by
 have h:((C0 1 k&&C0 k 3)&&(Nat.ble nm.length 60000&&(Nat.ble vl.length 60000&&Nat.ble rd.length 60000)))=true:=h
 simp only [D2I,Nat.ble_eq] at h
 exact ⟨h.2.1,h.2.2.1,h.2.2.2⟩
def C7H (t:Nat) (c:List V):Option (List Rs) :=
 bif ppg [.l [.i 81],.l [.l ((c.drop 0).take 20)]] then (N0 (([V.i 81]++P1 [.l ((c.drop 0).take 20)]).length+1) <| some [.r t (w1L ((c.drop 0).take 20)) false]) else none
def C7I (t:Nat) (nm rd vl:List V):Option (List Rs) :=
 bif ppg [.l [.i 82],.l [.l nm,.l rd,.l vl]] then (N0 (([V.i 82]++P1 [.l nm,.l rd,.l vl]).length+2) <| some [.r t (w2L nm rd vl) false]) else none
def C7J (t:Nat) (nm vl:List V):Option (List Rs) :=
 bif ppg [.l [.i 83],.l [.l nm,.l vl]] then (N0 (([V.i 83]++P1 [.l nm,.l vl]).length+2) <| some [.r t (w3L nm vl) false]) else none
theorem B8n {t:Nat} {c:List Nat} (hc:c.length=20):C7H t (c.map nv)=some [.r t (w1L (c.map nv)) false]:=by
 unfold C7H
 have e:((c.map nv).drop 0).take 20=c.map nv:=List.take_of_length_le (by simp;omega)
 have hl:=B1z (c.map nv)
 rw [D2L] at hl
 rw [e,show ppg [.l [.i 81],.l [.l (c.map nv)]]=true by
  show ((!(isN (.l [.i 81]))&&Nat.ble 1 100000)&&(Nat.ble 1 1000&&([V.l (c.map nv)].all fun x=>Nat.ble x.els.length 60000)))=true
  simp [isN,V.els];omega,cond_true,B3 (by unfold w1L at hl;simp at hl ⊢;omega)]
theorem B8o {t:Nat} {a b c:List V} (ha:a.length≤60000) (hb:b.length≤60000) (hc:c.length≤60000):C7I t a b c=some [.r t (w2L a b c) false]:=by
 unfold C7I
 have hl:=B1A a b c
 rw [show ppg [.l [.i 82],.l [.l a,.l b,.l c]]=true by
  show ((!(isN (.l [.i 82]))&&Nat.ble 1 100000)&&(Nat.ble 3 1000&&([V.l a,.l b,.l c].all fun x=>Nat.ble x.els.length 60000)))=true
  simp [isN,V.els];omega,cond_true,B3 (by unfold w2L at hl;simp at hl ⊢;omega)]
theorem B8p {t:Nat} {a b:List V} (ha:a.length≤60000) (hb:b.length≤60000):C7J t a b=some [.r t (w3L a b) false]:=by
 unfold C7J
 have hl:=B1B a b
 rw [show ppg [.l [.i 83],.l [.l a,.l b]]=true by
  show ((!(isN (.l [.i 83]))&&Nat.ble 1 100000)&&(Nat.ble 2 1000&&([V.l a,.l b].all fun x=>Nat.ble x.els.length 60000)))=true
  simp [isN,V.els];omega,cond_true,B3 (by unfold w3L at hl;simp at hl ⊢;omega)]
def rb (t:Nat) (q:Bool):Option (List Rs):=some [.d t (.b q)]
def C7K (t:Nat) (nm rd vl:List V):Option (List Rs):=N0 (nm.length+rd.length) <| N0 ((nm++rd).length+vl.length) <| bif F5 ((nm++rd)++vl) [] then rb t true else rb t false
def C7L (t:Nat) (nm rd vl:List V) (c:V):Option (List Rs) :=
 ln nm.length <| bif C0 1 (nm.length:Nat) then (ln nm.length <| bif C0 (nm.length:Nat) 64 then (ln rd.length <| bif C0 1 (rd.length:Nat) then (ln rd.length <| bif C0 (rd.length:Nat) 32 then (ln vl.length <| ln vl.length <| bif C0 (vl.length:Nat) 200 then (bif Q5 c z20 then rb t true else rb t false) else rb t false) else rb t false) else rb t false) else rb t false) else rb t false
def C7M (t:Nat) (nm rd vl:List V) (c:V):Option (List Rs) :=
 ln nm.length <| bif C0 1 (nm.length:Nat) then (ln nm.length <| bif C0 (nm.length:Nat) 64 then (ln rd.length <| ln rd.length <| bif C0 (rd.length:Nat) 0 then (ln vl.length <| ln vl.length <| bif C0 (vl.length:Nat) 200 then (bif Q5 c z20 then rb t true else rb t false) else rb t false) else rb t false) else rb t false) else rb t false
theorem C3l {α:Type} (a b:Bool) (x y:α):(bif a then (bif b then x else y) else y)=bif (a&&b) then x else y:=by cases a<;>rfl
theorem B8q (t:Nat) (q:Bool):(bif q then rb t true else rb t false)=rb t q:=by cases q<;>rfl
theorem B8r (t:Nat) (a b:Bool):(bif a then rb t b else rb t false)=rb t (a&&b):=by cases a<;>rfl
theorem B8s {t:Nat} {nm rd vl:List V} {c:V} (h1:nm.length≤60000) (h2:rd.length≤60000) (h3:vl.length≤60000):C7K t nm rd vl=rb t (A2b (.l [.i 1,.s nm,.s vl,.s rd,c])):=by
 unfold C7K
 rw [B3 (by omega),B3 (by simp;omega),B8q];rfl
theorem B8t {t:Nat} {nm rd vl:List V} {c:V} (h1:nm.length≤60000) (h2:rd.length≤60000) (h3:vl.length≤60000):C7L t nm rd vl c=rb t (A2b (.l [.i 2,.s nm,.s vl,.s rd,c])):=by
 unfold C7L
 simp only [B7 (show nm.length≤_ by omega),B7 (show rd.length≤_ by omega),B7 (show vl.length≤_ by omega),B8q,B8r,Bool.and_true];rfl
theorem B8u {t:Nat} {nm rd vl:List V} {c:V} (h1:nm.length≤60000) (h2:rd.length≤60000) (h3:vl.length≤60000):C7M t nm rd vl c=rb t (A2b (.l [.i 3,.s nm,.s vl,.s rd,c])):=by
 unfold C7M
 simp only [B7 (show nm.length≤_ by omega),B7 (show rd.length≤_ by omega),B7 (show vl.length≤_ by omega),B8q,B8r,Bool.and_true];rfl
def lkE (t e:Nat):Option (List Rs):=some [.r t [] true,.d e (.i 81)]
def lkR (t e:Nat) (w:List V):Option (List Rs):=N0 (w.length+0) <| some [.r t (w++[]) false,.d e (.i 0)]
def C7N (t e:Nat) (nm rd vl c:List V):Option (List Rs) :=
 bif pug [.l [.s ((c.drop 0).take 20)]] then (N0 (1+(P1 [.s ((c.drop 0).take 20)]).length) <| N0 (([V.i 81]++P1 [.s ((c.drop 0).take 20)]).length+1) <|
  bif F5 nm [] then (bif F5 vl [] then (bif F5 rd [] then lkR t e (w1L ((c.drop 0).take 20)) else lkE t e) else lkE t e) else lkE t e) else none
def C7O (t e:Nat) (nm rd vl:List V) (c:V):Option (List Rs) :=
 bif pug [.l [.s nm,.s rd,.s vl]] then (N0 (1+(P1 [.s nm,.s rd,.s vl]).length) <| N0 (([V.i 82]++P1 [.s nm,.s rd,.s vl]).length+2) <|
  ln nm.length <| bif B5 0 (nm.length:Nat) then (ln nm.length <| bif C0 (nm.length:Nat) 64 then (ln rd.length <| bif B5 0 (rd.length:Nat) then (ln rd.length <| bif C0 (rd.length:Nat) 32 then (ln vl.length <| bif C0 (vl.length:Nat) 200 then (bif Q5 c z20 then lkR t e (w2L nm rd vl) else lkE t e) else lkE t e) else lkE t e) else lkE t e) else lkE t e) else lkE t e) else none
def C7P (t e:Nat) (nm rd vl:List V) (c:V):Option (List Rs) :=
 bif pug [.l [.s nm,.s vl]] then (N0 (1+(P1 [.s nm,.s vl]).length) <| N0 (([V.i 83]++P1 [.s nm,.s vl]).length+2) <|
  ln nm.length <| bif B5 0 (nm.length:Nat) then (ln nm.length <| bif C0 (nm.length:Nat) 64 then (bif F5 rd [] then (ln vl.length <| bif C0 (vl.length:Nat) 200 then (bif Q5 c z20 then lkR t e (w3L nm vl) else lkE t e) else lkE t e) else lkE t e) else lkE t e) else lkE t e) else none
def lkF (t e:Nat) (x:V):Option (List Rs):=some [.r t (bif A2b x then D9 x else []) (!(A2b x)),.d e (.i (bif A2b x then 0 else 81))]
def lkg:List V→Bool
 | [x,r]=>dkB x&&isN r
 | _=>false
def lkr (t e:Nat):List V→List Rs
 | [x,r]=>[.r t (bif A2b x then D9 x else []) (!(A2b x)),.d e (.i (bif A2b x then 0 else 81))]
 | _=>[]
theorem B8v (t e:Nat) {x:V} {w:List V} {q:Bool} (hq:q=A2b x) (hw:w=D9 x) (hl:w.length≤1000000):(bif q then lkR t e w else lkE t e)=lkF t e x:=by
 unfold lkR lkE lkF
 rw [B3 (by omega),← hq,← hw,List.append_nil]
 cases q<;>rfl
theorem A99 (l:List V):F5 l []=l.isEmpty:=by
 cases l with
 | nil=>rfl
 | cons a r=>simp [F5]
theorem B1E {l:List V} (h:l.length≤1000) (h2:∀ x∈l,x.els.length≤60000):pug [.l l]=true:=by
 show (Nat.ble l.length 1000&&l.all fun x=>Nat.ble x.els.length 60000)=true
 simp only [D2I,Nat.ble_eq,List.all_eq_true]
 exact ⟨h,h2⟩
theorem B8w {t e:Nat} {nm rd vl:List V} {c:List Nat} (hc:c.length=20):C7N t e nm rd vl (c.map nv)=lkF t e (.l [.i 1,.s nm,.s vl,.s rd,.l (c.map nv)]):=by
 unfold C7N
 have eq:((c.map nv).drop 0).take 20=c.map nv:=List.take_of_length_le (by simp;omega)
 have hl:=B1z (c.map nv)
 rw [D2L] at hl
 have e2:P1 [.s (c.map nv)]=P1 [.l (c.map nv)]:=rfl
 have hl2:=hl
 unfold w1L at hl2
 simp only [D2J,D2P,List.length_nil] at hl2
 rw [eq,B1E (by simp) (by intro x hx;simp only [List.mem_singleton] at hx;subst hx;simp [V.els];omega),cond_true,e2,B3 (by omega),B3 (by simp only [D2J,D2P,List.length_nil];omega)]
 rw [C3l,C3l]
 refine B8v t e ?_ rfl (by omega)
 show _=F5 ((nm++rd)++vl) []
 simp only [A99]
 cases nm<;>cases rd<;>cases vl<;>rfl
theorem lt0 (n:Nat):B5 0 (n:Nat)=C0 1 (n:Nat):=by rw [G5,Q0];simp;omega
theorem B8x {t e:Nat} {nm rd vl:List V} {c:V} (h1:nm.length≤60000) (h2:rd.length≤60000) (h3:vl.length≤60000):C7O t e nm rd vl c=lkF t e (.l [.i 2,.s nm,.s vl,.s rd,c]):=by
 unfold C7O
 have hl:=B1A nm rd vl
 have e2:P1 [.s nm,.s rd,.s vl]=P1 [.l nm,.l rd,.l vl]:=rfl
 have hl2:=hl
 unfold w2L at hl2
 simp only [D2J,D2P,List.length_nil] at hl2
 rw [B1E (by simp) (by intro x hx;simp only [List.mem_cons,List.not_mem_nil,or_false] at hx;rcases hx with rfl | rfl | rfl<;>simpa [V.els]),cond_true,e2,B3 (by omega),B3 (by simp only [D2J,D2P,List.length_nil];omega)]
 simp only [B7 (show nm.length≤_ by omega),B7 (show rd.length≤_ by omega),B7 (show vl.length≤_ by omega),C3l,lt0]
 exact B8v t e rfl rfl (by omega)
theorem B8y {t e:Nat} {nm rd vl:List V} {c:V} (h1:nm.length≤60000) (h2:rd.length≤60000) (h3:vl.length≤60000):C7P t e nm rd vl c=lkF t e (.l [.i 3,.s nm,.s vl,.s rd,c]):=by
 unfold C7P
 have hl:=B1B nm vl
 have e2:P1 [.s nm,.s vl]=P1 [.l nm,.l vl]:=rfl
 have hl2:=hl
 unfold w3L at hl2
 simp only [D2J,D2P,List.length_nil] at hl2
 have e3:F5 rd []=C0 (rd.length:Nat) 0:=by rw [A99,Q0];cases rd<;>simp<;>omega
 rw [B1E (by simp) (by intro x hx;simp only [List.mem_cons,List.not_mem_nil,or_false] at hx;rcases hx with rfl | rfl<;>simpa [V.els]),cond_true,e2,B3 (by omega),B3 (by simp only [D2J,D2P,List.length_nil];omega)]
 simp only [B7 (show nm.length≤_ by omega),B7 (show vl.length≤_ by omega),C3l,lt0,e3]
 exact B8v t e rfl rfl (by omega)
variable {R:Type}
def kS (q:Int):Int:=D7 (D7 (IntKind.wrap .u8 (q - 81))+1)
def mS (q:Int):Int:=(V.nth (V.put (V.put (V.put (.l (List.replicate 4 (V.i 0))) 1 (.i 1)) 2 (.i 3)) 3 (.i 2)) (kS q).toNat).int
def xS (bs:List V):V:=.l (List.take (((bs.length:Nat):Int) - 1).toNat (List.drop 1 bs))
def spE (t a e:Nat):Option (List Rs):=some [.d t J0,.r a [] true,.d e (.i 81)]
def spN (t a e:Nat) (bs:List V):Option (List Rs):=N0 ((List.replicate 0 (V.i 0)).length+bs.length) <| some [.d t J0,.r a (List.replicate 0 (V.i 0)++bs) false,.d e (.i 0)]
def spT (t a e:Nat) (bs:List V) (d:V):Option (List Rs) :=
 bif dkB d then (bif dkB d then (bif A2b d then (ln (D9 d).length <| ln bs.length <| bif B5 (bs.length:Nat) ((D9 d).length:Nat) then spE t a e else
  ln (D9 d).length <| bif ((C0 0 (0:Nat))&&(C0 (0:Nat) ((D9 d).length:Nat)))&&(C0 ((D9 d).length:Nat) (bs.length:Nat)) then
   (bif eqg [.l (D9 d),.l (List.take ((((D9 d).length:Nat):Int) - (0:Nat)).toNat (List.drop 0 bs))] then
    (bif F5 (D9 d) (List.take ((((D9 d).length:Nat):Int) - (0:Nat)).toNat (List.drop 0 bs)) then
     (ln (D9 d).length <| bif ((C0 0 ((D9 d).length:Nat))&&(C0 ((D9 d).length:Nat) (bs.length:Nat)))&&(C0 (bs.length:Nat) (bs.length:Nat)) then
      (N0 ((List.replicate 0 (V.i 0)).length+(List.take (((bs.length:Nat):Int) - ((D9 d).length:Nat)).toNat (List.drop (((D9 d).length:Nat):Int).toNat bs)).length) <|
       some [.d t d,.r a (List.replicate 0 (V.i 0)++List.take (((bs.length:Nat):Int) - ((D9 d).length:Nat)).toNat (List.drop (((D9 d).length:Nat):Int).toNat bs)) false,.d e (.i 0)]) else none)
    else spE t a e) else none) else none) else spE t a e) else none) else none
def C3m (t a e:Nat) (bs:List V) (k:Int) (L:List V):Option (List Rs) :=
 bif L5 k 2 then (ck 0 L.length <| ck 1 L.length <| ck 2 L.length <| spT t a e bs (.l [.i k,.s (List.getD L 0 .n).els,.s (List.getD L 2 .n).els,.s (List.getD L 1 .n).els,.l (List.replicate 20 (V.i 0))]))
 else bif L5 k 3 then (ck 0 L.length <| ck 1 L.length <| spT t a e bs (.l [.i k,.s (List.getD L 0 .n).els,.s (List.getD L 1 .n).els,.s [],.l (List.replicate 20 (V.i 0))]))
 else spE t a e
def sp1 (t a e:Nat) (bs:List V) (k:Int) (L:List V):Option (List Rs) :=
 bif L5 k 1 then (ck 0 L.length <| ln (List.getD L 0 .n).els.length <| bif L5 ((List.getD L 0 .n).els.length:Nat) 20 then (ck 0 L.length <| bif Nat.ble 20 (List.getD L 0 .n).els.length then spT t a e bs (.l [.i k,.s [],.s [],.s [],.l (List.take 20 (List.getD L 0 .n).els)]) else none)
  else C3m t a e bs k L) else C3m t a e bs k L
def C3n (t a e:Nat) (bs:List V) (q:Int):Option (List Rs) :=
 ck 0 bs.length <| bif ((C0 0 1)&&(C0 1 (bs.length:Nat)))&&(C0 (bs.length:Nat) (bs.length:Nat)) then (ck (kS q) 4 <| bif pdg [xS bs,.i (mS q)] then (bif pdO (xS bs) (mS q) then sp1 t a e bs (kS q) (pdL (xS bs) (mS q)) else spE t a e) else none) else none
def C7Q (t a e:Nat) (bs:List V):Option (List Rs) :=
 ln bs.length <| bif B5 0 (bs.length:Nat) then (ck 0 bs.length <| bif C0 81 (V.nth (.l bs) 0).int then (ck 0 bs.length <| bif B5 (V.nth (.l bs) 0).int 84 then C3n t a e bs (V.nth (.l bs) 0).int else spN t a e bs) else spN t a e bs) else spN t a e bs
def lkW (d:V):List V:=bif A2b d then D9 d else []
def lkQ (d:V):Int:=bif A2b d then 0 else 81
def sqT (t a e:Nat) (bs:List V) (d:V):Option (List Rs) :=
 bif dkB d&&isN .n then (bif !(L5 (lkQ d) 0) then spE t a e else (ln (lkW d).length <| ln bs.length <| bif B5 (bs.length:Nat) ((lkW d).length:Nat) then spE t a e else
  ln (lkW d).length <| bif ((C0 0 (0:Nat))&&(C0 (0:Nat) ((lkW d).length:Nat)))&&(C0 ((lkW d).length:Nat) (bs.length:Nat)) then
   (bif !(F5 (lkW d) (List.take ((((lkW d).length:Nat):Int) - (0:Nat)).toNat (List.drop 0 bs))) then spE t a e else
     (ln (lkW d).length <| bif ((C0 0 ((lkW d).length:Nat))&&(C0 ((lkW d).length:Nat) (bs.length:Nat)))&&(C0 (bs.length:Nat) (bs.length:Nat)) then
      (N0 ((List.replicate 0 (V.i 0)).length+(List.take (((bs.length:Nat):Int) - ((lkW d).length:Nat)).toNat (List.drop (((lkW d).length:Nat):Int).toNat bs)).length) <|
       some [.d t d,.r a (List.replicate 0 (V.i 0)++List.take (((bs.length:Nat):Int) - ((lkW d).length:Nat)).toNat (List.drop (((lkW d).length:Nat):Int).toNat bs)) false,.d e (.i 0)]) else none)) else none)) else none
def sqB (t a e:Nat) (bs:List V) (k:V):Option (List Rs) :=
 E1 (B8j (List Rs)) (A2 FU) (.m bs J0 k (List.replicate 0 (V.s [])) 1) fun q=>match q with
 | .o bs1 z1 e1 xs1 a1=>E1 (B42 (List Rs)) (A2 FU) (.m bs1 z1 e1 xs1) fun q=>match q with
  | .o bs2 z2 e2 xs2 =>
   bif L5 (V.nth e2 0).int 1 then (ck 0 xs2.length <| ln (List.getD xs2 0 .n).els.length <| bif !(L5 ((List.getD xs2 0 .n).els.length:Nat) 20) then spE t a e else
    E1 (B1y (List Rs)) (A2 FU) (.m bs2 z2 e2 xs2 0) fun q=>match q with
    | .o bs3 z3 e3 xs3 i3=>sqT t a e bs3 e3)
   else bif L5 (V.nth e2 0).int 2 then (ck 0 xs2.length <| ck 1 xs2.length <| ck 2 xs2.length <| sqT t a e bs2 (V.put (V.put (V.put e2 1 (.s (List.getD xs2 0 .n).els)) 3 (.s (List.getD xs2 1 .n).els)) 2 (.s (List.getD xs2 2 .n).els)))
   else bif L5 (V.nth e2 0).int 3 then (ck 0 xs2.length <| ck 1 xs2.length <| sqT t a e bs2 (V.put (V.put e2 1 (.s (List.getD xs2 0 .n).els)) 2 (.s (List.getD xs2 1 .n).els)))
   else sqT t a e bs2 e2
def C7R (t a e:Nat) (bs:List V):Option (List Rs) :=
 ln bs.length <| bif L5 (bs.length:Nat) 0 then spN t a e bs else ck 0 bs.length <| bif B5 (V.nth (.l bs) 0).int 81 then spN t a e bs else
 ck 0 bs.length <| bif B5 83 (V.nth (.l bs) 0).int then spN t a e bs else ck 0 bs.length <| sqB t a e bs (V.put J0 0 (.i (D7 (D7 (V.nth (.l bs) 0).int - 80))))
variable {R:Type}
def B0a (c:Nat):Nat:=if c=81 then 1 else if c=82 then 3 else 2
def dOf (c:Nat) (l:List (List Nat)):Option V :=
 if c=81 then (match l with
  | [x]=>if x.length=20 then some (.l [.i 1,.s [],.s [],.s [],.l (x.map nv)]) else none
  | _=>none)
 else if c=82 then (match l with
  | [x,y,z]=>some (.l [.i 2,.s (x.map nv),.s (z.map nv),.s (y.map nv),z20])
  | _=>none)
 else (match l with
  | [x,y]=>some (.l [.i 3,.s (x.map nv),.s (y.map nv),.s [],z20])
  | _=>none)
def fits (b:List Nat) (d:V):Bool:=A2b d&&F5 (D9 d) ((b.map nv).take (D9 d).length)
def A4V (b:List Nat):Option (V×List Nat) :=
 match b with
 | []=>some (J0,[])
 | c::r=>if 81≤c∧c≤83 then
   (match pcs (B0a c) r with
   | none=>none
   | some p=>match dOf c p.1 with
    | none=>none
    | some d=>if fits (c::r) d then some (d,(c::r).drop (D9 d).length) else none)
  else some (J0,c::r)
def spD (x:V):V:=match A4V (H0 x) with
 | some q=>q.1
 | none=>J0
def spR (x:V):List V:=match A4V (H0 x) with
 | some q=>q.2.map nv
 | none=>[]
def spX (x:V):Bool:=(A4V (H0 x)).isNone
def spI (x:V):Int:=bif spX x then 81 else 0
def spg:List V→Bool
 | [x]=>Nat.ble x.els.length 30000
 | _=>false
def spr (t a e:Nat) (n:Bool):List V→List Rs
 | [x]=>[.d t (spD x),.r a (spR x) (spX x||(n&&isN x)),.d e (.i (spI x))]
 | _=>[]
theorem B0b {t a e:Nat} {b:List Nat} {n:Bool} {q:V×List Nat} (h:A4V b=some q):spr t a e n [.l (b.map nv)]=[.d t q.1,.r a (q.2.map nv) false,.d e (.i 0)]:=by
 have eb:H0 (.l (b.map nv))=b:=J1 rfl
 show [Rs.d t (spD (.l (b.map nv))),.r a (spR (.l (b.map nv))) (spX (.l (b.map nv))||(n&&isN (.l (b.map nv)))),.d e (.i (spI (.l (b.map nv))))]=_
 unfold spI spD spR spX
 rw [eb,h]
 cases n<;>rfl
theorem B8z {t a e:Nat} {b:List Nat} {n:Bool} (h:A4V b=none):spr t a e n [.l (b.map nv)]=[.d t J0,.r a [] true,.d e (.i 81)]:=by
 have eb:H0 (.l (b.map nv))=b:=J1 rfl
 show [Rs.d t (spD (.l (b.map nv))),.r a (spR (.l (b.map nv))) (spX (.l (b.map nv))||(n&&isN (.l (b.map nv)))),.d e (.i (spI (.l (b.map nv))))]=_
 unfold spI spD spR spX
 rw [eb,h]
 rfl
theorem A04:∀ {n:Nat} {b:List Nat} {p:List (List Nat)×List Nat},pcs n b=some p→(∀ x∈b,x < 256)→p.1.length=n∧∀ x∈p.1,(∀ a∈x,a < 256)∧x.length≤b.length:=by
 intro n
 induction n with
 | zero=>intro b p h hb;cases h;exact ⟨rfl,fun x hx=>by cases hx⟩
 | succ n ih =>
  intro b p h hb
  simp only [pcs] at h
  cases hq:nxS b with
  | none=>rw [hq] at h;cases h
  | some q =>
   rw [hq] at h
   simp only at h
   cases hp:pcs n (b.drop q.2.2) with
   | none=>rw [hp] at h;cases h
   | some p1 =>
    rw [hp] at h
    cases h
    obtain ⟨_,_,u3,u4⟩:=A8Q hq hb
    obtain ⟨i1,i2⟩:=ih hp (fun x hx=>hb x (List.mem_of_mem_drop hx))
    refine ⟨by simp [i1],fun x hx=>?_⟩
    rcases List.mem_cons.1 hx with rfl | hx
    ·exact ⟨u3,u4⟩
    ·obtain ⟨j1,j2⟩:=i2 x hx
     exact ⟨j1,by simp at j2;omega⟩
theorem A3C {t a e:Nat} {b:List Nat} {n:Bool} (h:A4V b=none):spE t a e=some (spr t a e n [.l (b.map nv)]):=by rw [B8z h];rfl
theorem C3o {b:List V} {n:Nat}:List.take ((((n:Nat):Int)) - (0:Nat)).toNat (List.drop 0 b)=b.take n:=by
 rw [List.drop_zero,show ((((n:Nat):Int)) - ((0:Nat):Int)).toNat=n by omega]
theorem A5a {t a e:Nat} {b:List Nat} {d:V} {n:Bool} (hl:b.length≤30000) (hw:(D9 d).length≤100000) (hk:dkB d=true) (hs:A4V b=if fits b d then some (d,b.drop (D9 d).length) else none) :
  spT t a e (b.map nv) d=some (spr t a e n [.l (b.map nv)])∧sqT t a e (b.map nv) d=some (spr t a e n [.l (b.map nv)]):=by
 unfold spT sqT lkW lkQ
 rw [hk]
 simp only [cond_true,show isN .n=true from rfl,Bool.and_self]
 by_cases hr:A2b d=true
 ·simp only [hr,cond_true,X7,decide_true,Bool.not_true,cond_false]
  have ln1:∀ k:Option (List Rs),ln (D9 d).length k=k:=fun k=>B7 (by omega)
  have ln2:∀ k:Option (List Rs),ln b.length k=k:=fun k=>B7 (by omega)
  simp only [ln1,D2L,ln2,G5]
  by_cases hc:b.length < (D9 d).length
  ·rw [show decide ((b.length:Int) < ((D9 d).length:Nat))=true by simp;omega,cond_true,cond_true]
   have hf:fits b d=false:=by
    unfold fits
    rw [hr,Bool.true_and,← Bool.not_eq_true,G9]
    intro h
    have:=congrArg List.length h
    simp at this;omega
   rw [hf] at hs
   exact ⟨A3C hs,A3C hs⟩
  ·rw [show decide ((b.length:Int) < ((D9 d).length:Nat))=false by simp;omega,cond_false,cond_false,show ((C0 0 ((0:Nat):Int)&&C0 ((0:Nat):Int) ((D9 d).length:Nat))&&C0 ((D9 d).length:Nat) (b.length:Nat))=true by simp only [Q0,D2I,D2T];omega,cond_true,cond_true,C3o]
   rw [show eqg [.l (D9 d),.l (List.take (D9 d).length (b.map nv))]=true by
    show (Nat.ble (D9 d).length 100000&&Nat.ble (List.take (D9 d).length (b.map nv)).length 100000)=true
    simp only [D2I,Nat.ble_eq,List.length_take,D2L];omega,cond_true]
   rw [show ((C0 0 ((D9 d).length:Nat)&&C0 ((D9 d).length:Nat) (b.length:Nat))&&C0 (b.length:Nat) (b.length:Nat))=true by simp only [Q0,D2I,D2T];omega,cond_true]
   have ed:List.take (((b.length:Nat):Int) - ((D9 d).length:Nat)).toNat (List.drop (((D9 d).length:Nat):Int).toNat (b.map nv))=(b.drop (D9 d).length).map nv:=by
    rw [show (((D9 d).length:Nat):Int).toNat=(D9 d).length by omega,List.take_of_length_le (by simp<;>omega),List.map_drop]
   rw [ed,B3 (by simp;omega)]
   have hf:fits b d=F5 (D9 d) ((b.map nv).take (D9 d).length):=by unfold fits;rw [hr,Bool.true_and]
   cases hv:F5 (D9 d) (List.take (D9 d).length (b.map nv)) with
   | true =>
    rw [hf,hv] at hs
    rw [B0b hs]
    exact ⟨rfl,rfl⟩
   | false =>
    rw [hf,hv] at hs
    exact ⟨A3C hs,A3C hs⟩
 ·simp only [Bool.not_eq_true] at hr
  have hf:fits b d=false:=by unfold fits;rw [hr];rfl
  rw [hf] at hs
  simp only [hr,cond_false,X7,show decide ((81:Int)=0)=false by decide,Bool.not_false,cond_true]
  exact ⟨A3C hs,A3C hs⟩
theorem A4l {k:Int} {nm vl rd c:List V} (h1:nm.length≤30000) (h2:vl.length≤30000) (h3:rd.length≤30000) (h4:c.length≤50):(D9 (.l [.i k,.s nm,.s vl,.s rd,.l c])).length≤100000:=by
 have l1:=B1z c
 have l2:=B1A nm rd vl
 have l3:=B1B nm vl
 show (bif L5 k 1 then w1L c else bif L5 k 2 then w2L nm rd vl else w3L nm vl).length≤100000
 cases L5 k 1
 ·cases L5 k 2
  ·simp only [cond_false];omega
  ·simp only [cond_false,cond_true];omega
 ·simp only [cond_true];omega
theorem A8R {c:Nat} {l:List (List Nat)} {d:V} (h:dOf c l=some d) (hx:∀ x∈l,x.length≤30000):dkB d=true∧(D9 d).length≤100000:=by
 have len:∀ {x:List Nat},x∈l→(x.map nv).length≤30000:=fun hm=>by rw [D2L];exact hx _ hm
 have dk:∀ (k:Int) (nm vl rd:List V) (z:V),(C0 1 k&&C0 k 3)=true→nm.length≤30000→vl.length≤30000→rd.length≤30000→dkB (.l [.i k,.s nm,.s vl,.s rd,z])=true:=by
  intro k nm vl rd z h0 h1 h2 h3
  show ((C0 1 k&&C0 k 3)&&(Nat.ble nm.length 60000&&(Nat.ble vl.length 60000&&Nat.ble rd.length 60000)))=true
  rw [h0];simp only [D2I,Nat.ble_eq];exact ⟨trivial,by omega,by omega,by omega⟩
 unfold dOf at h
 split at h
 ·split at h
  ·rename_i x
   split at h
   ·rename_i h20
    cases h
    exact ⟨dk 1 [] [] [] _ (by decide) (by simp) (by simp) (by simp),A4l (by simp) (by simp) (by simp) (by simp;omega)⟩
   ·cases h
  ·cases h
 ·split at h
  ·split at h
   ·rename_i x y z
    cases h
    exact ⟨dk 2 _ _ _ _ (by decide) (len (by simp)) (len (by simp)) (len (by simp)),A4l (len (by simp)) (len (by simp)) (len (by simp)) (by decide)⟩
   ·cases h
  ·split at h
   ·rename_i x y
    cases h
    exact ⟨dk 3 _ _ _ _ (by decide) (len (by simp)) (len (by simp)) (by simp),A4l (len (by simp)) (len (by simp)) (by simp) (by decide)⟩
   ·cases h
theorem A2I {t a e:Nat} {b:List Nat} {n:Bool} (hl:b.length≤30000) (h:A4V b=some (J0,b)):spN t a e (b.map nv)=some (spr t a e n [.l (b.map nv)]):=by
 unfold spN
 rw [B3 (by simp;omega),B0b h];rfl
theorem A2J {c:Nat} {r:List Nat} (h:¬ (81≤c∧c≤83)):A4V (c::r)=some (J0,c::r):=by
 simp only [A4V];rw [if_neg h]
theorem A5b {c:Nat} {r:List Nat} (h:81≤c∧c≤83):A4V (c::r)=(match pcs (B0a c) r with
   | none=>none
   | some p=>match dOf c p.1 with
    | none=>none
    | some d=>if fits (c::r) d then some (d,(c::r).drop (D9 d).length) else none):=by
 simp only [A4V];rw [if_pos h]
theorem C3p {t a e c m:Nat} {k:Int} {r:List Nat} (hk:kS c=k) (hm:mS c=(m:Nat)) (h1:1≤m∧m≤3) (hk4:0≤k∧k < 4) (hl:(c::r).length≤30000):C3n t a e ((c::r).map nv) (c:Nat)=(match pcs m r with
  | some p=>sp1 t a e ((c::r).map nv) k (lsW p.1)
  | none=>spE t a e):=by
 have ex:xS ((c::r).map nv)=.l (r.map nv):=by
  unfold xS
  show V.l (List.take _ (r.map nv))=_
  rw [List.take_of_length_le (by simp only [D2L,D2P];omega)]
 unfold C3n
 have hlen:(c::r).length=r.length+1:=rfl
 rw [hk,hm,ex,D2L,C9 (by omega) (by simp<;>omega),show ((C0 0 1&&C0 1 ((c::r).length:Nat))&&C0 ((c::r).length:Nat) ((c::r).length:Nat))=true by simp only [Q0,D2I,D2T];omega,cond_true,C9 (by omega) (by omega)]
 rw [show pdg [.l (r.map nv),.i (m:Nat)]=true by
  show ((!(isN (.l (r.map nv)))&&Nat.ble (r.map nv).length 1000000)&&(C0 1 (m:Nat)&&C0 (m:Nat) 3))=true
  simp only [Q0,D2I,D2T,Nat.ble_eq,D2L]
  exact ⟨⟨rfl,by omega⟩,by omega,by omega⟩,cond_true]
 have eb:H0 (.l (r.map nv))=r:=J1 rfl
 unfold pdO pdL
 rw [eb,show ((m:Int)).toNat=m by omega]
 cases pcs m r<;>rfl
theorem B8A {t a e:Nat} {b:List Nat} (hb:∀ x∈b,x < 256) (hl:b.length≤30000):C7Q t a e (b.map nv)=some (spr t a e true [.l (b.map nv)]):=by
 unfold C7Q
 have ln1:∀ k:Option (List Rs),ln (b.map nv).length k=k:=fun k=>B7 (by simp;omega)
 rw [ln1,D2L,G5]
 cases b with
 | nil=>exact A2I (b:=[]) (by simp) rfl
 | cons c r =>
  have hc:=hb c (by simp)
  have hlen:(c::r).length=r.length+1:=rfl
  rw [show decide ((0:Int) < ((c::r).length:Nat))=true by simp<;>omega,cond_true,C9 (by omega) (by simp<;>omega),C9 (by omega) (by simp<;>omega),A7m c r 0 rfl,Q0,G5]
  by_cases h1:81≤c
  ·rw [show decide (81≤(c:Int))=true by simp;omega,cond_true]
   by_cases h2:c≤83
   ·rw [show decide ((c:Int) < 84)=true by simp;omega,cond_true]
    have hs:=A5b (r:=r) ⟨h1,h2⟩
    have go:∀ (k:Int) (m:Nat),kS c=k→mS c=(m:Nat)→(1≤m∧m≤3)→(0≤k∧k < 4)→B0a c=m →
      (∀ p,pcs m r=some p→sp1 t a e ((c::r).map nv) k (lsW p.1)=match dOf c p.1 with
       | none=>spE t a e
       | some d=>spT t a e ((c::r).map nv) d)→C3n t a e ((c::r).map nv) (c:Nat)=some (spr t a e true [.l ((c::r).map nv)]):=by
     intro k m hk hm h3 h4 hcn hsp
     rw [C3p hk hm h3 h4 hl]
     rw [hcn] at hs
     cases hp:pcs m r with
     | none=>rw [hp] at hs;exact A3C hs
     | some p =>
      rw [hp] at hs
      simp only at hs ⊢
      rw [hsp p hp]
      cases hd:dOf c p.1 with
      | none=>rw [hd] at hs;exact A3C hs
      | some d =>
       rw [hd] at hs
       simp only at hs ⊢
       obtain ⟨_,q2⟩:=A04 hp (fun x hx=>hb x (by simp [hx]))
       obtain ⟨d1,d2⟩:=A8R hd (fun x hx=>by have:=(q2 x hx).2;omega)
       exact (A5a hl d2 d1 hs).1
    obtain rfl | rfl | rfl:c=81∨c=82∨c=83:=by omega
    ·refine go 1 1 (by decide) (by decide) (by omega) (by omega) rfl (fun p hp=>?_)
     obtain ⟨q1,q2⟩:=A04 hp (fun x hx=>hb x (by simp [hx]))
     match hpl:p.1,q1 with
     | [x],_ =>
      rw [hpl] at q2
      have hxl:=(q2 x (by simp)).2
      show (bif L5 1 1 then (ck 0 1 <| ln (x.map nv).length <| bif L5 ((x.map nv).length:Nat) 20 then (ck 0 1 <| bif Nat.ble 20 (x.map nv).length then spT t a e _ (.l [.i 1,.s [],.s [],.s [],.l (List.take 20 (x.map nv))]) else none) else C3m t a e _ 1 _) else C3m t a e _ 1 _)=(match (if x.length=20 then some (V.l [.i 1,.s [],.s [],.s [],.l (x.map nv)]) else none) with
       | none=>spE t a e
       | some d=>spT t a e _ d)
      rw [show L5 1 1=true by decide,cond_true,C9 (by omega) (by omega),D2L,B7 (by omega),X7]
      by_cases h20:x.length=20
      ·rw [if_pos h20,show decide ((x.length:Int)=20)=true by simp;omega,cond_true,C9 (by omega) (by omega),D2R (by omega),cond_true,List.take_of_length_le (by simp;omega)]
      ·rw [if_neg h20,show decide ((x.length:Int)=20)=false by simp;omega,cond_false];rfl
    ·refine go 2 3 (by decide) (by decide) (by omega) (by omega) rfl (fun p hp=>?_)
     obtain ⟨q1,q2⟩:=A04 hp (fun x hx=>hb x (by simp [hx]))
     match hpl:p.1,q1 with
     | [x,y,z],_=>rfl
    ·refine go 3 2 (by decide) (by decide) (by omega) (by omega) rfl (fun p hp=>?_)
     obtain ⟨q1,q2⟩:=A04 hp (fun x hx=>hb x (by simp [hx]))
     match hpl:p.1,q1 with
     | [x,y],_=>rfl
   ·rw [show decide ((c:Int) < 84)=false by simp;omega,cond_false]
    exact A2I hl (A2J (by omega))
  ·rw [show decide (81≤(c:Int))=false by simp;omega,cond_false]
   exact A2I hl (A2J (by omega))
variable {R:Type}
def pcl:Nat→List Nat→List (List Nat)
 | 0,_=>[]
 | n+1,b=>match nxS b with
  | none=>[]
  | some q=>q.2.1::pcl n (b.drop q.2.2)
def lsS (l:List (List Nat)):List V:=l.map fun x=>.s (x.map nv)
theorem C3q:∀ (n:Nat) (b:List Nat),(pcl n b).length≤n:=by
 intro n
 induction n with
 | zero=>intro b;simp [pcl]
 | succ n ih =>
  intro b
  simp only [pcl]
  cases nxS b with
  | none=>simp
  | some q=>have:=ih (b.drop q.2.2);simp;omega
theorem C7S:∀ (n:Nat) (b:List Nat),(∀ x∈b,x < 256)→∀ x∈pcl n b,(∀ a∈x,a < 256)∧x.length≤b.length:=by
 intro n
 induction n with
 | zero=>intro b hb x hx;cases hx
 | succ n ih =>
  intro b hb x hx
  simp only [pcl] at hx
  cases hq:nxS b with
  | none=>rw [hq] at hx;cases hx
  | some q =>
   rw [hq] at hx
   obtain ⟨_,_,u3,u4⟩:=A8Q hq hb
   rcases List.mem_cons.1 hx with rfl | hx
   ·exact ⟨u3,u4⟩
   ·obtain ⟨j1,j2⟩:=ih (b.drop q.2.2) (fun x hx=>hb x (List.mem_of_mem_drop hx)) x hx
    exact ⟨j1,by simp at j2;omega⟩
theorem A8S:∀ (n m:Nat) (b:List Nat) (p:List (List Nat)×List Nat),pcs n b=some p→pcl (n+m) b=p.1++pcl m p.2:=by
 intro n
 induction n with
 | zero=>intro m b p h;cases h;simp
 | succ n ih =>
  intro m b p h
  simp only [pcs] at h
  rw [show n+1+m=(n+m)+1 by omega]
  simp only [pcl]
  cases hq:nxS b with
  | none=>rw [hq] at h;cases h
  | some q =>
   rw [hq] at h
   simp only at h ⊢
   cases hp:pcs n (b.drop q.2.2) with
   | none=>rw [hp] at h;cases h
   | some p1 =>
    rw [hp] at h;cases h
    rw [ih m _ _ hp];rfl
theorem B8B:∀ (n m:Nat) (b:List Nat),pcs n b=none→(pcl (n+m) b).length < n:=by
 intro n
 induction n with
 | zero=>intro m b h;cases h
 | succ n ih =>
  intro m b h
  simp only [pcs] at h
  rw [show n+1+m=(n+m)+1 by omega]
  simp only [pcl]
  cases hq:nxS b with
  | none=>simp
  | some q =>
   rw [hq] at h
   simp only at h ⊢
   cases hp:pcs n (b.drop q.2.2) with
   | none=>have:=ih m _ hp;simp;omega
   | some p1=>rw [hp] at h;cases h
theorem C3r {x s:List Nat} (hx:x.length < 65536):∃ c,nxS (T1 x++s)=some (c,x,(T1 x).length):=by
 unfold T1
 by_cases h1:x.length < 76
 ·rw [if_pos h1]
  refine ⟨x.length,?_⟩
  show (if x.length≤75 then tkS x.length 1 x.length (x.length::(x++s)) else _)=_
  rw [if_pos (by omega)]
  unfold tkS
  rw [if_pos (by simp;omega)]
  simp;omega
 ·rw [if_neg h1]
  by_cases h2:x.length < 256
  ·rw [if_pos h2]
   refine ⟨76,?_⟩
   show tkS 76 2 x.length (76::x.length::(x++s))=_
   unfold tkS
   rw [if_pos (by simp;omega)]
   simp;omega
  ·rw [if_neg h2]
   refine ⟨77,?_⟩
   show tkS 77 3 (x.length % 256+256 * (x.length / 256)) (77::(x.length % 256)::(x.length / 256)::(x++s))=_
   rw [Nat.mod_add_div]
   unfold tkS
   rw [if_pos (by simp;omega)]
   simp;omega
theorem A2n {n:Nat} {x s:List Nat} (hx:x.length < 65536):pcs (n+1) (T1 x++s)=(match pcs n s with
  | none=>none
  | some p=>some (x::p.1,p.2)):=by
 obtain ⟨c,hc⟩:=C3r (s:=s) hx
 simp only [pcs]
 rw [hc]
 simp only [List.drop_left]
 all_goals (cases pcs n s<;>rfl)
theorem C3s {kx:C7C→Option R} {ko:List V→Option R} {z e:V} {B:List Nat} (hk:∀ xs a,kx (.o (B.map nv) z e xs a)=ko xs) (hb:∀ x∈B,x < 256) (hl:B.length≤100000):∀ (m at_:Nat) (xs:List V) (fuel:Nat),xs.length+m=3→at_≤B.length→m < fuel →
  E1 (B8j R) fuel (.m (B.map nv) z e xs (at_:Nat)) kx=ko (xs++lsS (pcl m (B.drop at_))):=by
 intro m
 induction m with
 | zero =>
  intro at_ xs fuel hx ha hf
  obtain ⟨f,rfl⟩:∃ f,fuel=f+1:=⟨fuel - 1,by omega⟩
  rw [E1,B8k,B7 (by omega),G5,show decide ((xs.length:Int) < 3)=false by simp;omega,cond_false,hk]
  simp [pcl,lsS]
 | succ m ih =>
  intro at_ xs fuel hx ha hf
  obtain ⟨f,rfl⟩:∃ f,fuel=f+1:=⟨fuel - 1,by omega⟩
  have e1:List.take (((B.map nv).length:Int) - (at_:Nat)).toNat (List.drop ((at_:Nat):Int).toNat (B.map nv))=(B.drop at_).map nv:=by
   rw [show ((at_:Nat):Int).toNat=at_ by omega,List.take_of_length_le (by simp<;>omega),List.map_drop]
  obtain ⟨n1,n2⟩:=@A98 (B.drop at_)
  rw [E1,B8k,B7 (by omega),G5,show decide ((xs.length:Int) < 3)=true by simp;omega,cond_true,e1]
  simp only [D2L]
  rw [B7 (by omega),Q0,show decide (((at_:Nat):Int)≤(B.length:Nat))=true by simp;omega,cond_true,show ((C0 0 ((at_:Nat):Int)&&true)&&C0 ((B.length:Nat):Int) ((B.length:Nat):Int))=true by simp only [Q0,D2I,D2T,Bool.and_true];omega,cond_true,D2R (by simp;omega),cond_true]
  simp only [pcl]
  cases hq:nxS (B.drop at_) with
  | none =>
   rw [n2 hq,X7,show decide ((71:Int)=0)=false by decide,Bool.not_false,cond_true,hk]
   simp [lsS]
  | some q =>
   obtain ⟨q1,q2,q3⟩:=n1 q hq
   obtain ⟨u1,u2,u3,_⟩:=A8Q hq (fun x hx=>hb x (List.mem_of_mem_drop hx))
   simp only [List.length_drop] at u1
   rw [q1,q2,q3,X7,show decide ((0:Int)=0)=true by decide,Bool.not_true,cond_false,B3 (by simp;omega),F8 (by omega) (by omega)]
   have:=ih (at_+q.2.2) (xs++[.s (q.2.1.map nv)]) f (by simp;omega) (by omega) (by omega)
   rw [show (((at_+q.2.2:Nat)):Int)=(at_:Int)+(q.2.2:Nat) by omega] at this
   refine this.trans ?_
   show ko (xs++[.s (q.2.1.map nv)]++lsS (pcl m (B.drop (at_+q.2.2))))=ko (xs++lsS (q.2.1::pcl m ((B.drop at_).drop q.2.2)))
   rw [List.drop_drop]
   simp [lsS]
theorem C3t {kx:C7D→Option R} {z e:V} {bs:List V}:∀ (m:Nat) (xs:List V) (fuel:Nat),xs.length+m=3→m < fuel →
  E1 (B42 R) fuel (.m bs z e xs) kx=kx (.o bs z e (xs++List.replicate m (.s []))):=by
 intro m
 induction m with
 | zero =>
  intro xs fuel hx hf
  obtain ⟨f,rfl⟩:∃ f,fuel=f+1:=⟨fuel - 1,by omega⟩
  rw [E1,B8l,B7 (by omega),G5,show decide ((xs.length:Int) < 3)=false by simp;omega,cond_false]
  simp
 | succ m ih =>
  intro xs fuel hx hf
  obtain ⟨f,rfl⟩:∃ f,fuel=f+1:=⟨fuel - 1,by omega⟩
  rw [E1,B8l,B7 (by omega),G5,show decide ((xs.length:Int) < 3)=true by simp;omega,cond_true,B3 (by simp;omega),ih _ _ (by simp;omega) (by omega)]
  simp [List.replicate_succ]
theorem C3u {kx:C7E→Option R} {z k a b c:V} {bs xs:List V} {x:List Nat} (hx:List.getD xs 0 .n=.s (x.map nv)) (h0:0 < xs.length) (hxl:x.length=20):∀ (m i:Nat) (r:List V) (fuel:Nat),i+m=20→r.length=m→m < fuel →
  E1 (B1y R) fuel (.m bs z (.l [k,a,b,c,.l ((x.take i).map nv++r)]) xs (i:Nat)) kx=kx (.o bs z (.l [k,a,b,c,.l (x.map nv)]) xs ((20:Nat):Int)):=by
 intro m
 induction m with
 | zero =>
  intro i r fuel hi hr hf
  obtain ⟨f,rfl⟩:∃ f,fuel=f+1:=⟨fuel - 1,by omega⟩
  obtain rfl:i=20:=by omega
  obtain rfl:r=[]:=List.length_eq_zero_iff.1 hr
  rw [E1,B8m,G5,show decide (((20:Nat):Int) < 20)=false by decide,cond_false,List.append_nil,List.take_of_length_le (by omega)]
 | succ m ih =>
  intro i r fuel hi hr hf
  obtain ⟨f,rfl⟩:∃ f,fuel=f+1:=⟨fuel - 1,by omega⟩
  have il:i < x.length:=by omega
  have hel:(List.getD xs 0 .n).els=x.map nv:=by rw [hx];rfl
  have hg:(List.getD (x.map nv) i .n).int=(x[i]:Nat):=by
   rw [List.getD_eq_getElem?_getD,List.getElem?_map,D2U il];rfl
  rw [E1,B8m,G5,show decide (((i:Nat):Int) < 20)=true by simp;omega,cond_true,C9 (by omega) (by omega),hel,D2L,C9 (by omega) (by omega),C9 (by omega) (by omega),show ((i:Nat):Int).toNat=i by omega,hg,L9 (by omega)]
  cases r with
  | nil=>simp at hr
  | cons y r =>
   have e2:V.put (V.l [k,a,b,c,.l ((x.take i).map nv++y::r)]) 4 (V.put (V.nth (V.l [k,a,b,c,.l ((x.take i).map nv++y::r)]) 4) i (.i (x[i]:Nat)))=.l [k,a,b,c,.l ((x.take (i+1)).map nv++r)]:=by
    have:((x.take i).map nv++y::r).set i (.i (x[i]:Nat))=(x.take (i+1)).map nv++r:=by
     rw [List.set_append_right _ _ (by simp;omega)]
     simp only [D2L,List.length_take,show i - min i x.length=0 by omega,List.set_cons_zero]
     rw [List.take_succ_eq_append_getElem il,List.map_append,List.append_assoc];rfl
    show V.l [k,a,b,c,.l (((x.take i).map nv++y::r).set i (.i (x[i]:Nat)))]=_
    rw [this]
   rw [e2]
   exact ih (i+1) r f (by omega) (by simpa using hr) (by omega)
def w2N (a b c:List Nat):List Nat:=82::(T1 a++(T1 b++(T1 c++[109,109])))
def w3N (a b:List Nat):List Nat:=83::(T1 a++(T1 b++[109,117]))
theorem C7T (a b c:List Nat):w2L (a.map nv) (b.map nv) (c.map nv)=(w2N a b c).map nv:=by
 unfold w2L w2N P1
 simp only [List.map_cons,List.map_nil,A0d (x:=.l (a.map nv)) rfl,A0d (x:=.l (b.map nv)) rfl,A0d (x:=.l (c.map nv)) rfl,List.flatten_cons,List.flatten_nil,List.map_append]
 simp [nv]
theorem C7U (a b:List Nat):w3L (a.map nv) (b.map nv)=(w3N a b).map nv:=by
 unfold w3L w3N P1
 simp only [List.map_cons,List.map_nil,A0d (x:=.l (a.map nv)) rfl,A0d (x:=.l (b.map nv)) rfl,List.flatten_cons,List.flatten_nil,List.map_append]
 simp [nv]
theorem B8C {w b:List Nat} (h:F5 (w.map nv) ((b.map nv).take (w.map nv).length)=true):∃ s,b=w++s:=by
 rw [G9,← List.map_take] at h
 have:=B8i h
 rw [D2L] at this
 exact ⟨b.drop w.length,(List.take_append_drop w.length b).symm.trans (by rw [← this])⟩
theorem D0Q {c:Nat} {r x y z:List Nat} (hx:x.length≤30000) (hy:y.length≤30000) (hz:z.length≤30000) (h:fits (c::r) (.l [.i 2,.s (x.map nv),.s (z.map nv),.s (y.map nv),z20])=true):∃ s,pcs 3 r=some ([x,y,z],s):=by
 unfold fits at h
 rw [D2I] at h
 have h2:=h.2
 have e:D9 (.l [.i 2,.s (x.map nv),.s (z.map nv),.s (y.map nv),z20])=(w2N x y z).map nv:=C7T x y z
 rw [e] at h2
 obtain ⟨s,hs⟩:=B8C h2
 have:r=T1 x++(T1 y++(T1 z++([109,109]++s))):=by
  have:=(List.cons.inj hs).2
  rw [this];simp
 refine ⟨[109,109]++s,?_⟩
 rw [this,A2n (by omega),A2n (by omega),A2n (by omega)]
 rfl
theorem D0R {c:Nat} {r x y:List Nat} (hx:x.length≤30000) (hy:y.length≤30000) (h:fits (c::r) (.l [.i 3,.s (x.map nv),.s (y.map nv),.s [],z20])=true):∃ s,pcs 2 r=some ([x,y],s):=by
 unfold fits at h
 rw [D2I] at h
 have h2:=h.2
 have e:D9 (.l [.i 3,.s (x.map nv),.s (y.map nv),.s [],z20])=(w3N x y).map nv:=C7U x y
 rw [e] at h2
 obtain ⟨s,hs⟩:=B8C h2
 have:r=T1 x++(T1 y++([109,117]++s)):=by
  have:=(List.cons.inj hs).2
  rw [this];simp
 refine ⟨[109,117]++s,?_⟩
 rw [this,A2n (by omega),A2n (by omega)]
 rfl
theorem D1M (l:List (List Nat)) (h:l.length≤3):lsS l++List.replicate (3 - l.length) (.s [])=[.s ((l.getD 0 []).map nv),.s ((l.getD 1 []).map nv),.s ((l.getD 2 []).map nv)]:=by
 match l,h with
 | [],_=>rfl
 | [a],_=>rfl
 | [a,b],_=>rfl
 | [a,b,c],_=>rfl
 | _::_::_::_::_,h=>simp at h
theorem B8D {t a e:Nat} {b:List Nat} (hb:∀ x∈b,x < 256) (hl:b.length≤30000):C7R t a e (b.map nv)=some (spr t a e false [.l (b.map nv)]):=by
 unfold C7R
 have ln1:∀ k:Option (List Rs),ln (b.map nv).length k=k:=fun k=>B7 (by simp;omega)
 rw [ln1,D2L,X7]
 cases b with
 | nil=>exact A2I (b:=[]) (by simp) rfl
 | cons c r =>
  have hc:=hb c (by simp)
  have hlen:(c::r).length=r.length+1:=rfl
  have ck1:∀ k:Option (List Rs),ck 0 (c::r).length k=k:=fun k=>C9 (by omega) (by simp<;>omega)
  simp only [ck1]
  rw [show decide ((((c::r).length:Nat):Int)=0)=false by simp<;>omega,cond_false,A7m c r 0 rfl,G5,G5]
  by_cases h1:81≤c
  ·rw [show decide ((c:Int) < 81)=false by simp;omega,cond_false]
   by_cases h2:c≤83
   ·rw [show decide (83 < (c:Int))=false by simp;omega,cond_false,A1I (by omega),F8 (by omega) (by omega)]
    have hs:=A5b (r:=r) ⟨h1,h2⟩
    have hq:=U0
    have hlen3:=C3q 3 r
    have hpok:=C7S 3 r (fun x hx=>hb x (by simp [hx]))
    have hget:∀ i,((pcl 3 r).getD i []).length≤30000:=fun i=>by
     rw [List.getD_eq_getElem?_getD]
     cases hg:(pcl 3 r)[i]? with
     | none=>simp
     | some x=>have:=(hpok x (List.mem_of_getElem? hg)).2;simp;omega
    generalize hX:(pcl 3 r).getD 0 []=X at hget
    have hX0:=hget 0
    rw [hX] at hX0
    have hY0:=hget 1
    have hZ0:=hget 2
    generalize hY:(pcl 3 r).getD 1 []=Y at hY0
    generalize hZ:(pcl 3 r).getD 2 []=Z at hZ0
    unfold sqB
    refine (C3s (ko:=fun xs=>E1 (B42 (List Rs)) (A2 FU) (.m ((c::r).map nv) J0 _ xs) fun q=>match q with
     | .o bs2 z2 e2 xs2 =>
      bif L5 (V.nth e2 0).int 1 then (ck 0 xs2.length <| ln (List.getD xs2 0 .n).els.length <| bif !(L5 ((List.getD xs2 0 .n).els.length:Nat) 20) then spE t a e else
       E1 (B1y (List Rs)) (A2 FU) (.m bs2 z2 e2 xs2 0) fun q=>match q with
       | .o bs3 z3 e3 xs3 i3=>sqT t a e bs3 e3)
      else bif L5 (V.nth e2 0).int 2 then (ck 0 xs2.length <| ck 1 xs2.length <| ck 2 xs2.length <| sqT t a e bs2 (V.put (V.put (V.put e2 1 (.s (List.getD xs2 0 .n).els)) 3 (.s (List.getD xs2 1 .n).els)) 2 (.s (List.getD xs2 2 .n).els)))
      else bif L5 (V.nth e2 0).int 3 then (ck 0 xs2.length <| ck 1 xs2.length <| sqT t a e bs2 (V.put (V.put e2 1 (.s (List.getD xs2 0 .n).els)) 2 (.s (List.getD xs2 1 .n).els)))
      else sqT t a e bs2 e2) (fun _ _=>rfl) hb (by omega) 3 1 (List.replicate 0 (V.s [])) (A2 FU) rfl (by omega) (by omega)).trans ?_
    refine (C3t (3 - (pcl 3 r).length) _ (A2 FU) (by simp [lsS];omega) (by omega)).trans ?_
    rw [show (List.replicate 0 (V.s [])++lsS (pcl 3 ((c::r).drop 1)))++List.replicate (3 - (pcl 3 r).length) (V.s [])=[.s (X.map nv),.s (Y.map nv),.s (Z.map nv)] by
     rw [← hX,← hY,← hZ];exact D1M _ hlen3]
    obtain rfl | rfl | rfl:c=81∨c=82∨c=83:=by omega
    ·-- a first word
     show (ck 0 3 <| ln (X.map nv).length <| bif !(L5 ((X.map nv).length:Nat) 20) then spE t a e else
       E1 (B1y (List Rs)) (A2 FU) (.m ((81::r).map nv) J0 (.l [.i 1,.s [],.s [],.s [],.l (List.replicate 20 (.i 0))]) [.s (X.map nv),.s (Y.map nv),.s (Z.map nv)] 0) fun q=>match q with
       | .o bs3 z3 e3 xs3 i3=>sqT t a e bs3 e3)=_
     rw [C9 (by omega) (by omega),D2L,B7 (by omega),X7]
     rw [show B0a 81=1 from rfl] at hs
     have h20:∀ p,pcs 1 r=some p→p.1=[X]:=fun p hp=>by
      obtain ⟨q1,_⟩:=A04 hp (fun x hx=>hb x (by simp [hx]))
      have:=A8S 1 2 r p hp
      match hpl:p.1,q1 with
      | [x],_ =>
       rw [hpl] at this
       rw [show pcl 3 r=pcl (1+2) r from rfl,this] at hX
       simp at hX;rw [hX]
     by_cases hx:X.length=20
     ·rw [show decide ((X.length:Int)=20)=true by simp;omega,Bool.not_true,cond_false]
      have hsome:∃ p,pcs 1 r=some p:=by
       cases hp:pcs 1 r with
       | some p=>exact ⟨p,rfl⟩
       | none =>
        have:=B8B 1 2 r hp
        have hz:pcl 3 r=[]:=List.length_eq_zero_iff.1 (by show (pcl (1+2) r).length=0;omega)
        rw [hz] at hX
        have:X=[]:=by rw [← hX];rfl
        rw [this] at hx;cases hx
      obtain ⟨p,hp⟩:=hsome
      rw [hp] at hs
      have hd:dOf 81 p.1=some (.l [.i 1,.s [],.s [],.s [],.l (X.map nv)]):=by
       rw [h20 p hp];show (if X.length=20 then _ else _)=_;rw [if_pos hx]
      simp only [hd] at hs
      obtain ⟨d1,d2⟩:=A8R hd (fun x hx'=>by rw [h20 p hp] at hx';simp at hx';rw [hx'];omega)
      refine (C3u (x:=X) rfl (by simp) hx 20 0 (List.replicate 20 (.i 0)) (A2 FU) rfl (by simp) (by omega)).trans ?_
      exact (A5a hl d2 d1 hs).2
     ·rw [show decide ((X.length:Int)=20)=false by simp;omega,Bool.not_false,cond_true]
      refine A3C ?_
      rw [hs]
      cases hp:pcs 1 r with
      | none=>rfl
      | some p =>
       have hd:dOf 81 p.1=none:=by
        rw [h20 p hp];show (if X.length=20 then _ else _)=_;rw [if_neg hx]
       simp only [hd]
    ·show (ck 0 3 <| ck 1 3 <| ck 2 3 <| sqT t a e ((82::r).map nv) (.l [.i 2,.s (X.map nv),.s (Z.map nv),.s (Y.map nv),z20]))=_
     rw [C9 (by omega) (by omega),C9 (by omega) (by omega),C9 (by omega) (by omega)]
     rw [show B0a 82=3 from rfl] at hs
     obtain ⟨d1,d2⟩:=A8R (c:=82) (l:=[X,Y,Z]) (d:=.l [.i 2,.s (X.map nv),.s (Z.map nv),.s (Y.map nv),z20]) rfl (fun x hx=>by
      simp only [List.mem_cons,List.not_mem_nil,or_false] at hx
      rcases hx with rfl | rfl | rfl<;>assumption)
     refine (A5a hl d2 d1 ?_).2
     rw [hs]
     cases hp:pcs 3 r with
     | none =>
      have:fits (82::r) (.l [.i 2,.s (X.map nv),.s (Z.map nv),.s (Y.map nv),z20])=false:=by
       rw [← Bool.not_eq_true]
       intro hf
       obtain ⟨s,h3⟩:=D0Q hX0 hY0 hZ0 hf
       rw [hp] at h3;cases h3
      rw [this];rfl
     | some p =>
      obtain ⟨q1,_⟩:=A04 hp (fun x hx=>hb x (by simp [hx]))
      have:=A8S 3 0 r p hp
      have hp1:p.1=[X,Y,Z]:=by
       have e3:pcl 3 r=p.1:=by rw [show pcl 3 r=pcl (3+0) r from rfl,this];simp [pcl]
       rw [e3] at hX hY hZ
       match hpl:p.1,q1 with
       | [x,y,z],_=>rw [hpl] at hX hY hZ;simp at hX hY hZ;rw [hX,hY,hZ]
      simp only [hp1]
      rfl
    ·show (ck 0 3 <| ck 1 3 <| sqT t a e ((83::r).map nv) (.l [.i 3,.s (X.map nv),.s (Y.map nv),.s [],z20]))=_
     rw [C9 (by omega) (by omega),C9 (by omega) (by omega)]
     rw [show B0a 83=2 from rfl] at hs
     obtain ⟨d1,d2⟩:=A8R (c:=83) (l:=[X,Y]) (d:=.l [.i 3,.s (X.map nv),.s (Y.map nv),.s [],z20]) rfl (fun x hx=>by
      simp only [List.mem_cons,List.not_mem_nil,or_false] at hx
      rcases hx with rfl | rfl<;>assumption)
     refine (A5a hl d2 d1 ?_).2
     rw [hs]
     cases hp:pcs 2 r with
     | none =>
      have:fits (83::r) (.l [.i 3,.s (X.map nv),.s (Y.map nv),.s [],z20])=false:=by
       rw [← Bool.not_eq_true]
       intro hf
       obtain ⟨s,h3⟩:=D0R hX0 hY0 hf
       rw [hp] at h3;cases h3
      rw [this];rfl
     | some p =>
      obtain ⟨q1,_⟩:=A04 hp (fun x hx=>hb x (by simp [hx]))
      have:=A8S 2 1 r p hp
      have hp1:p.1=[X,Y]:=by
       match hpl:p.1,q1 with
       | [x,y],_ =>
        have e3:pcl 3 r=[x,y]++pcl 1 p.2:=by rw [show pcl 3 r=pcl (2+1) r from rfl,this,hpl]
        rw [e3] at hX hY
        simp at hX hY;rw [hX,hY]
      simp only [hp1]
      rfl
   ·rw [show decide (83 < (c:Int))=true by simp;omega,cond_true]
    exact A2I hl (A2J (by omega))
  ·rw [show decide ((c:Int) < 81)=true by simp;omega,cond_true]
   exact A2I hl (A2J (by omega))
inductive B44 where
 | m (z:V) (u:Int) (v:Int) (d:V) (a:Int) (l:V) (n:Int) (i:Int)
inductive C7V where
 | o (z:V) (u:Int) (v:Int) (d:V) (a:Int) (l:V) (n:Int) (i:Int)
 | r (z:V) (u:Int) (v:Int) (d:V) (a:Int) (l:V) (n:Int) (i:Int)
def B8E (R:Type) (p:B44) (K:B44→Option R) (kx:C7V→Option R):Option R :=
 match p with
 | .m z u v d a l n i =>
  bif B5 i n then
   ck i ((l.els).length) <|
   bif Nat.ble ((((V.nth (V.nth l i.toNat) 1)).els).length) 30000 then
   bif !(L5 (spI (V.nth (V.nth l i.toNat) 1)) 0) then
   kx (.r J0 (.negSucc 0) 171 d a l n i)
   else
   bif !(L5 (((V.nth (spD (V.nth (V.nth l i.toNat) 1)) 0)).int) 0) then
   bif C0 0 a then
   kx (.r J0 (.negSucc 0) 171 d a l n i)
   else
   bif !(L5 (((V.nth (spD (V.nth (V.nth l i.toNat) 1)) 0)).int) 0) then
   K (.m z u v (spD (V.nth (V.nth l i.toNat) 1)) i l n (D7 (i+1)))
   else
   K (.m z u v d a l n (D7 (i+1)))
   else
   bif !(L5 (((V.nth (spD (V.nth (V.nth l i.toNat) 1)) 0)).int) 0) then
   K (.m z u v (spD (V.nth (V.nth l i.toNat) 1)) i l n (D7 (i+1)))
   else
   K (.m z u v d a l n (D7 (i+1)))
   else
   none
   else
   kx (.o z u v d a l n i)
abbrev B8F:=@B8E.eq_1
inductive B45 where
 | m (z:V) (u:Int) (v:Int) (d:V) (a:Int) (m:Int) (l:V) (n:Int) (i:Int)
inductive B8G where
 | o (z:V) (u:Int) (v:Int) (d:V) (a:Int) (m:Int) (l:V) (n:Int) (i:Int)
 | r (z:V) (u:Int) (v:Int) (d:V) (a:Int) (m:Int) (l:V) (n:Int) (i:Int)
def B46 (R:Type) (p:B45) (K:B45→Option R) (kx:B8G→Option R):Option R :=
 match p with
 | .m z u v d a m l n i =>
  bif B5 i n then
   ck i ((l.els).length) <|
   bif Nat.ble ((((V.nth (V.nth l i.toNat) 1)).els).length) 30000 then
   bif !(L5 (spI (V.nth (V.nth l i.toNat) 1)) 0) then
   kx (.r J0 (.negSucc 0) 171 d a m l n i)
   else
   bif !(L5 (((V.nth (spD (V.nth (V.nth l i.toNat) 1)) 0)).int) 0) then
   K (.m z u v (spD (V.nth (V.nth l i.toNat) 1)) i (D7 (m+1)) l n (D7 (i+1)))
   else
   K (.m z u v d a m l n (D7 (i+1)))
   else
   none
   else
   kx (.o z u v d a m l n i)
abbrev A8T:=@B46.eq_1
inductive B47 where
 | m (t:V) (l:V) (n:Int) (i:Int)
inductive C7W where
 | o (t:V) (l:V) (n:Int) (i:Int)
 | r (t:V) (l:V) (n:Int) (i:Int)
def B8H (R:Type) (p:B47) (K:B47→Option R) (kx:C7W→Option R):Option R :=
 match p with
 | .m t l n i =>
  bif B5 i n then
   ck i ((l.els).length) <|
   ln ((((V.nth (V.nth l i.toNat) 1)).els).length) <|
   bif B5 500 ((((V.nth (V.nth l i.toNat) 1)).els).length:Nat) then
   kx (.r t l n i)
   else
   K (.m t l n (D7 (i+1)))
   else
   kx (.o t l n i)
abbrev B8I:=@B8H.eq_1
inductive B48 where
 | m (t:V) (l:V) (n:Int) (i:Int)
inductive C7X where
 | o (t:V) (l:V) (n:Int) (i:Int)
 | r (t:V) (l:V) (n:Int) (i:Int)
def B49 (R:Type) (p:B48) (K:B48→Option R) (kx:C7X→Option R):Option R :=
 match p with
 | .m t l n i =>
  bif B5 i n then
   ck i ((l.els).length) <|
   ln ((((V.nth (V.nth l i.toNat) 1)).els).length) <|
   bif B5 300 ((((V.nth (V.nth l i.toNat) 1)).els).length:Nat) then
   kx (.r t l n i)
   else
   K (.m t l n (D7 (i+1)))
   else
   kx (.o t l n i)
abbrev B8J:=@B49.eq_1
variable {R:Type}
def tdL:List V→Int→V→Int→Option (V×Int)
 | [],_,d,a=>some (d,a)
 | o::r,i,d,a=>bif spX (o.nth 1) then none else bif !(L5 (V.nth (spD (o.nth 1)) 0).int 0) then (bif C0 0 a then none else tdL r (i+1) (spD (o.nth 1)) i) else tdL r (i+1) d a
def tdS (t:V):Option (V×Int):=tdL (t.nth 2).els 0 J0 (-1)
def W0 (t:V):V:=match tdS t with
 | some q=>q.1
 | none=>J0
def tdA (t:V):Int:=match tdS t with
 | some q=>q.2
 | none => -1
def tdE (t:V):Int:=match tdS t with
 | some _=>0
 | none=>171
def N1 (l:List V):Bool:=Nat.ble l.length 1000&&l.all fun o=>Nat.ble (o.nth 1).els.length 30000
def tdg:List V→Bool
 | [t]=>N1 (t.nth 2).els
 | _=>false
def tdr (a b c:Nat):List V→List Rs
 | [t]=>[.d a (W0 t),.d b (.i (tdA t)),.d c (.i (tdE t))]
 | _=>[]
def tdF (a b c:Nat):Option (V×Int)→Option (List Rs)
 | some q=>some [.d a q.1,.d b (.i q.2),.d c (.i 0)]
 | none=>some [.d a J0,.d b (.i (-1)),.d c (.i 171)]
theorem C7Y {a b c:Nat} {t:V}:tdF a b c (tdS t)=some (tdr a b c [t]):=by
 show _=some [Rs.d a (W0 t),.d b (.i (tdA t)),.d c (.i (tdE t))]
 unfold W0 tdA tdE
 cases tdS t<;>rfl
theorem A4Q {l:List V} (h:N1 l=true):l.length≤1000∧∀ o∈l,(o.nth 1).els.length≤30000:=by
 unfold N1 at h
 simpa only [D2I,Nat.ble_eq,List.all_eq_true] using h
theorem B1F (x:V):(!(L5 (spI x) 0))=spX x:=by unfold spI;cases spX x<;>rfl
theorem C7Z {kx:C7V→Option R} {ko:V→Int→Option R} {kr:Option R} {z l:V} {u v:Int} (ho:∀ d a n i,kx (.o z u v d a l n i)=ko d a) (hr:∀ d a n i,kx (.r J0 (-1) 171 d a l n i)=kr):∀ (r b:List V) (d:V) (a:Int) (fuel:Nat),l.els=b++r→(∀ o∈r,(o.nth 1).els.length≤30000)→b.length+r.length≤1000→r.length < fuel →
  E1 (B8E R) fuel (.m z u v d a l (l.els.length:Nat) (b.length:Nat)) kx=(match tdL r (b.length:Nat) d a with
   | some q=>ko q.1 q.2
   | none=>kr):=by
 intro r
 induction r with
 | nil =>
  intro b d a fuel he hg hb hf
  obtain ⟨f,rfl⟩:∃ f,fuel=f+1:=⟨fuel - 1,by omega⟩
  rw [List.append_nil] at he
  rw [E1,B8F,A3l he,cond_false,ho];rfl
 | cons o r ih =>
  intro b d a fuel he hg hb hf
  obtain ⟨f,rfl⟩:∃ f,fuel=f+1:=⟨fuel - 1,by omega⟩
  simp only [D2P] at hb hf
  have hle:l.els.length=b.length+(r.length+1):=by rw [he];simp
  have hat:l.nth ((b.length:Nat):Int).toNat=o:=S7 he
  have ih:=fun d a=>ih (b++[o]) d a f (by rw [he];simp) (fun x hx=>hg x (by simp [hx])) (by simp;omega) (by omega)
  simp only [D2J,D2Q] at ih
  rw [E1,B8F,A3k he,cond_true,C9 (by omega) (by omega),hat,D2R (hg o (by simp)),cond_true,B1F,L9 (by omega),ih,ih]
  simp only [tdL]
  cases spX (o.nth 1) with
  | true=>rw [cond_true,cond_true];exact hr _ _ _ _
  | false =>
   rw [cond_false,cond_false]
   cases !(L5 (V.nth (spD (o.nth 1)) 0).int 0) with
   | true =>
    simp only [cond_true]
    cases C0 0 a with
    | true=>simp only [cond_true];exact hr _ _ _ _
    | false=>simp only [cond_false];rw [show ((b.length+1:Nat):Int)=(b.length:Nat)+1 by omega]
   | false=>simp only [cond_false];rw [show ((b.length+1:Nat):Int)=(b.length:Nat)+1 by omega]
theorem C3v {kx:B8G→Option R} {kr:Option R} {z l:V} {u v:Int} (ho:∀ d a m n i,2≤m→kx (.o z u v d a m l n i)=kr) (hr:∀ d a m n i,kx (.r J0 (-1) 171 d a m l n i)=kr):∀ (r b:List V) (d:V) (a m:Int) (fuel:Nat),l.els=b++r→(∀ o∈r,(o.nth 1).els.length≤30000)→b.length+r.length≤1000→r.length < fuel→2≤m→m+r.length≤2000 →
  E1 (B46 R) fuel (.m z u v d a m l (l.els.length:Nat) (b.length:Nat)) kx=kr:=by
 intro r
 induction r with
 | nil =>
  intro b d a m fuel he hg hb hf hm hm2
  obtain ⟨f,rfl⟩:∃ f,fuel=f+1:=⟨fuel - 1,by omega⟩
  rw [List.append_nil] at he
  rw [E1,A8T,A3l he,cond_false,ho _ _ _ _ _ hm]
 | cons o r ih =>
  intro b d a m fuel he hg hb hf hm hm2
  obtain ⟨f,rfl⟩:∃ f,fuel=f+1:=⟨fuel - 1,by omega⟩
  simp only [D2P] at hb hf hm2
  have hle:l.els.length=b.length+(r.length+1):=by rw [he];simp
  have hat:l.nth ((b.length:Nat):Int).toNat=o:=S7 he
  have ih:=fun d a m=>ih (b++[o]) d a m f (by rw [he];simp) (fun x hx=>hg x (by simp [hx])) (by simp;omega) (by omega)
  simp only [D2J,D2Q] at ih
  rw [E1,A8T,A3k he,cond_true,C9 (by omega) (by omega),hat,D2R (hg o (by simp)),cond_true,B1F,L9 (by omega),F8 (n:=m+1) (by omega) (by omega),ih _ _ _ (by omega) (by omega),ih _ _ _ (by omega) (by omega),show kx (B8G.r J0 (Int.negSucc 0) 171 d a m l (l.els.length:Nat) (b.length:Nat))=kr from hr _ _ _ _ _]
  cases spX (o.nth 1)<;>cases !(L5 (V.nth (spD (o.nth 1)) 0).int 0)<;>rfl
theorem C70 {kx:B8G→Option R} {ko:V→Int→Option R} {kr:Option R} {z l:V} {u v:Int} (ho:∀ d a m n i,m≤1→kx (.o z u v d a m l n i)=ko d a) (ho2:∀ d a m n i,2≤m→kx (.o z u v d a m l n i)=kr) (hr:∀ d a m n i,kx (.r J0 (-1) 171 d a m l n i)=kr):∀ (r b:List V) (d:V) (a m:Int) (fuel:Nat),l.els=b++r→(∀ o∈r,(o.nth 1).els.length≤30000)→b.length+r.length≤1000→r.length < fuel→(m=0∧a < 0∨m=1∧0≤a) →
  E1 (B46 R) fuel (.m z u v d a m l (l.els.length:Nat) (b.length:Nat)) kx=(match tdL r (b.length:Nat) d a with
   | some q=>ko q.1 q.2
   | none=>kr):=by
 intro r
 induction r with
 | nil =>
  intro b d a m fuel he hg hb hf hm
  obtain ⟨f,rfl⟩:∃ f,fuel=f+1:=⟨fuel - 1,by omega⟩
  rw [List.append_nil] at he
  rw [E1,A8T,A3l he,cond_false,ho _ _ _ _ _ (by omega)];rfl
 | cons o r ih =>
  intro b d a m fuel he hg hb hf hm
  obtain ⟨f,rfl⟩:∃ f,fuel=f+1:=⟨fuel - 1,by omega⟩
  simp only [D2P] at hb hf
  have hle:l.els.length=b.length+(r.length+1):=by rw [he];simp
  have hat:l.nth ((b.length:Nat):Int).toNat=o:=S7 he
  have ih:=fun d a m=>ih (b++[o]) d a m f (by rw [he];simp) (fun x hx=>hg x (by simp [hx])) (by simp;omega) (by omega)
  simp only [D2J,D2Q] at ih
  rw [E1,A8T,A3k he,cond_true,C9 (by omega) (by omega),hat,D2R (hg o (by simp)),cond_true,B1F,L9 (by omega),F8 (n:=m+1) (by omega) (by omega)]
  simp only [tdL]
  cases spX (o.nth 1) with
  | true=>rw [cond_true,cond_true];exact hr _ _ _ _ _
  | false =>
   rw [cond_false,cond_false]
   cases !(L5 (V.nth (spD (o.nth 1)) 0).int 0) with
   | true =>
    simp only [cond_true,Q0]
    rcases hm with ⟨rfl,ha⟩ | ⟨rfl,ha⟩
    ·rw [show decide (0≤a)=false by simp;omega,cond_false]
     refine (ih _ _ _ (.inr ⟨rfl,by omega⟩)).trans ?_
     rw [show ((b.length+1:Nat):Int)=(b.length:Nat)+1 by omega]
    ·rw [show decide (0≤a)=true by simp;omega,cond_true]
     have:=C3v (R:=R) (kx:=kx) (kr:=kr) (z:=z) (l:=l) (u:=u) (v:=v) ho2 hr r (b++[o]) (spD (o.nth 1)) ((b.length:Nat):Int) (1+1) f (by rw [he];simp) (fun x hx=>hg x (by simp [hx])) (by simp;omega) (by omega) (by omega) (by omega)
     simp only [D2J,D2Q] at this
     exact this
   | false =>
    simp only [cond_false]
    refine (ih _ _ _ hm).trans ?_
    rw [show ((b.length+1:Nat):Int)=(b.length:Nat)+1 by omega]
def C71 (p q e:Nat) (y:V):Option (List Rs):=ln y.els.length <| E1 (B8E (List Rs)) (A2 FU) (.m J0 0 0 J0 (-1) y (y.els.length:Nat) 0) fun s=>match s with
 | .o z1 u1 v1 d1 a1 l1 n1 i1=>some [.d p d1,.d q (.i a1),.d e (.i 0)]
 | .r z1 u1 v1 d1 a1 l1 n1 i1=>some [.d p z1,.d q (.i u1),.d e (.i v1)]
def C72 (p q e:Nat) (y:V):Option (List Rs):=ln y.els.length <| E1 (B46 (List Rs)) (A2 FU) (.m J0 0 0 J0 (-1) 0 y (y.els.length:Nat) 0) fun s=>match s with
 | .o z1 u1 v1 d1 a1 m1 l1 n1 i1=>bif B5 1 m1 then some [.d p J0,.d q (.i (-1)),.d e (.i 171)] else some [.d p d1,.d q (.i a1),.d e (.i 0)]
 | .r z1 u1 v1 d1 a1 m1 l1 n1 i1=>some [.d p z1,.d q (.i u1),.d e (.i v1)]
theorem B3t {p q e:Nat} {v u:Int} {x y:V} (hg:tdg [.l [.i v,x,y,.i u]]=true):C71 p q e y=some (tdr p q e [.l [.i v,x,y,.i u]])∧C72 p q e y=some (tdr p q e [.l [.i v,x,y,.i u]]):=by
 obtain ⟨h1,h2⟩:=A4Q (l:=y.els) hg
 have hq:=U0
 rw [← C7Y]
 have et:tdS (.l [.i v,x,y,.i u])=tdL y.els 0 J0 (-1):=rfl
 rw [et]
 constructor
 ·unfold C71
  rw [B7 (by omega)]
  refine (C7Z (l:=y) (ko:=fun d a=>some [.d p d,.d q (.i a),.d e (.i 0)]) (kr:=some [.d p J0,.d q (.i (-1)),.d e (.i 171)]) (fun _ _ _ _=>rfl) (fun _ _ _ _=>rfl) y.els [] J0 (-1) (A2 FU) rfl h2 (by simp;omega) (by omega)).trans ?_
  show (match tdL y.els 0 J0 (-1) with
   | some q=>_
   | none=>_)=_
  cases tdL y.els 0 J0 (-1)<;>rfl
 ·unfold C72
  rw [B7 (by omega)]
  refine (C70 (l:=y) (ko:=fun d a=>some [.d p d,.d q (.i a),.d e (.i 0)]) (kr:=some [.d p J0,.d q (.i (-1)),.d e (.i 171)]) (fun d a m n i hm=>?_) (fun d a m n i hm=>?_) (fun _ _ _ _ _=>rfl) y.els [] J0 (-1) 0 (A2 FU) rfl h2 (by simp;omega) (by omega) (.inl ⟨rfl,by omega⟩)).trans ?_
  ·show (bif B5 1 m then _ else _)=_
   rw [G5,show decide (1 < m)=false by simp;omega];rfl
  ·show (bif B5 1 m then _ else _)=_
   rw [G5,show decide (1 < m)=true by simp;omega];rfl
  ·show (match tdL y.els 0 J0 (-1) with
    | some q=>_
    | none=>_)=_
   cases tdL y.els 0 J0 (-1)<;>rfl
def A8U (t:V):Bool:=B5 12 ((t.nth 1).els.length:Nat)||(B5 12 ((t.nth 2).els.length:Nat)||(((t.nth 2).els.any fun o=>B5 500 ((o.nth 1).els.length:Nat))||((t.nth 1).els.any fun o=>B5 300 ((o.nth 1).els.length:Nat))))
def szB (l:List V):Bool:=Nat.ble l.length MX&&l.all fun o=>Nat.ble (o.nth 1).els.length MX
def gkg:List V→Bool
 | [t]=>szB (t.nth 1).els&&szB (t.nth 2).els
 | _=>false
def gkr (b:Nat):List V→List Rs
 | [t]=>[.d b (.b (A8U t))]
 | _=>[]
theorem C73 {kx:C7W→Option R} {ko kr:Option R} {t l:V} (ho:∀ n i,kx (.o t l n i)=ko) (hr:∀ n i,kx (.r t l n i)=kr):∀ (r b:List V) (fuel:Nat),l.els=b++r→(∀ o∈r,(o.nth 1).els.length≤MX)→b.length+r.length≤1000→r.length < fuel →
  E1 (B8H R) fuel (.m t l (l.els.length:Nat) (b.length:Nat)) kx=bif (r.any fun o=>B5 500 ((o.nth 1).els.length:Nat)) then kr else ko:=by
 intro r
 induction r with
 | nil =>
  intro b fuel he hg hb hf
  obtain ⟨f,rfl⟩:∃ f,fuel=f+1:=⟨fuel - 1,by omega⟩
  rw [List.append_nil] at he
  rw [E1,B8I,A3l he,cond_false,ho];rfl
 | cons o r ih =>
  intro b fuel he hg hb hf
  obtain ⟨f,rfl⟩:∃ f,fuel=f+1:=⟨fuel - 1,by omega⟩
  simp only [D2P] at hb hf
  have hle:l.els.length=b.length+(r.length+1):=by rw [he];simp
  have hat:l.nth ((b.length:Nat):Int).toNat=o:=S7 he
  have ih:=ih (b++[o]) f (by rw [he];simp) (fun x hx=>hg x (by simp [hx])) (by simp;omega) (by omega)
  simp only [D2J,D2Q] at ih
  rw [E1,B8I,A3k he,cond_true,C9 (by omega) (by omega),hat,B7 (Nat.le_trans (hg o (by simp)) (by decide)),L9 (by omega),ih,hr]
  simp only [List.any_cons]
  cases B5 500 ((o.nth 1).els.length:Nat)<;>rfl
theorem C74 {kx:C7X→Option R} {ko kr:Option R} {t l:V} (ho:∀ n i,kx (.o t l n i)=ko) (hr:∀ n i,kx (.r t l n i)=kr):∀ (r b:List V) (fuel:Nat),l.els=b++r→(∀ o∈r,(o.nth 1).els.length≤MX)→b.length+r.length≤1000→r.length < fuel →
  E1 (B49 R) fuel (.m t l (l.els.length:Nat) (b.length:Nat)) kx=bif (r.any fun o=>B5 300 ((o.nth 1).els.length:Nat)) then kr else ko:=by
 intro r
 induction r with
 | nil =>
  intro b fuel he hg hb hf
  obtain ⟨f,rfl⟩:∃ f,fuel=f+1:=⟨fuel - 1,by omega⟩
  rw [List.append_nil] at he
  rw [E1,B8J,A3l he,cond_false,ho];rfl
 | cons o r ih =>
  intro b fuel he hg hb hf
  obtain ⟨f,rfl⟩:∃ f,fuel=f+1:=⟨fuel - 1,by omega⟩
  simp only [D2P] at hb hf
  have hle:l.els.length=b.length+(r.length+1):=by rw [he];simp
  have hat:l.nth ((b.length:Nat):Int).toNat=o:=S7 he
  have ih:=ih (b++[o]) f (by rw [he];simp) (fun x hx=>hg x (by simp [hx])) (by simp;omega) (by omega)
  simp only [D2J,D2Q] at ih
  rw [E1,B8J,A3k he,cond_true,C9 (by omega) (by omega),hat,B7 (Nat.le_trans (hg o (by simp)) (by decide)),L9 (by omega),ih,hr]
  simp only [List.any_cons]
  cases B5 300 ((o.nth 1).els.length:Nat)<;>rfl
def gkG (q:Nat) (v u:Int) (x y:V):Option (List Rs) :=
 ln x.els.length <| bif B5 12 (x.els.length:Nat) then some [.d q (.b true)] else ln y.els.length <| bif B5 12 (y.els.length:Nat) then some [.d q (.b true)] else
 ln y.els.length <| E1 (B8H (List Rs)) (A2 FU) (.m (.l [.i v,x,y,.i u]) y (y.els.length:Nat) 0) fun s=>match s with
  | .o t1 l1 n1 i1=>ln (V.nth t1 1).els.length <| E1 (B49 (List Rs)) (A2 FU) (.m t1 (V.nth t1 1) ((V.nth t1 1).els.length:Nat) 0) fun s=>match s with
   | .o t2 l2 n2 i2=>some [.d q (.b false)]
   | .r t2 l2 n2 i2=>some [.d q (.b true)]
  | .r t1 l1 n1 i1=>some [.d q (.b true)]
theorem C3w {q:Nat} {v u:Int} {x y:V} (hg:gkg [.l [.i v,x,y,.i u]]=true):gkG q v u x y=some (gkr q [.l [.i v,x,y,.i u]]):=by
 have hg:((Nat.ble x.els.length MX&&x.els.all fun o=>Nat.ble (o.nth 1).els.length MX)&&(Nat.ble y.els.length MX&&y.els.all fun o=>Nat.ble (o.nth 1).els.length MX))=true:=hg
 simp only [D2I,Nat.ble_eq,List.all_eq_true] at hg
 obtain ⟨⟨x1,x2⟩,y1,y2⟩:=hg
 have hq:=U0
 have l1:∀ k:Option (List Rs),ln x.els.length k=k:=fun k=>B7 (Nat.le_trans x1 (by decide))
 have l2:∀ k:Option (List Rs),ln y.els.length k=k:=fun k=>B7 (Nat.le_trans y1 (by decide))
 unfold gkG
 show _=some [Rs.d q (.b (B5 12 (x.els.length:Nat)||(B5 12 (y.els.length:Nat)||((y.els.any fun o=>B5 500 ((o.nth 1).els.length:Nat))||(x.els.any fun o=>B5 300 ((o.nth 1).els.length:Nat))))))]
 rw [l1,l2,l2]
 cases hx:B5 12 (x.els.length:Nat) with
 | true=>rfl
 | false =>
  cases hy:B5 12 (y.els.length:Nat) with
  | true=>rfl
  | false =>
   rw [G5] at hx hy
   simp only [decide_eq_false_iff_not] at hx hy
   rw [cond_false,cond_false]
   refine (C73 (l:=y) (ko:=E1 (B49 (List Rs)) (A2 FU) (.m (.l [.i v,x,y,.i u]) x (x.els.length:Nat) 0) fun s=>match s with
     | .o t2 l2 n2 i2=>some [.d q (.b false)]
     | .r t2 l2 n2 i2=>some [.d q (.b true)]) (kr:=some [.d q (.b true)]) (fun n i=>l1 _) (fun n i=>rfl) y.els [] (A2 FU) rfl y2 (by simp;omega) (by omega)).trans ?_
   have hgi:=C74 (R:=List Rs) (t:=.l [.i v,x,y,.i u]) (l:=x) (kx:=fun s=>match s with
     | .o t2 l2 n2 i2=>some [.d q (.b false)]
     | .r t2 l2 n2 i2=>some [.d q (.b true)]) (ko:=some [.d q (.b false)]) (kr:=some [.d q (.b true)]) (fun n i=>rfl) (fun n i=>rfl) x.els [] (A2 FU) rfl x2 (by simp;omega) (by omega)
   simp only [List.length_nil,Int.ofNat_zero,Int.natCast_zero] at hgi
   refine (congrArg (fun z=>bif (y.els.any fun o=>B5 500 ((o.nth 1).els.length:Nat)) then some [.d q (.b true)] else z) hgi).trans ?_
   cases (y.els.any fun o=>B5 500 ((o.nth 1).els.length:Nat))<;>cases (x.els.any fun o=>B5 300 ((o.nth 1).els.length:Nat))<;>rfl
variable {R:Type}
theorem B8K {c:Nat} {l:List (List Nat)} {d:V} (h:dOf c l=some d) (hx:∀ x∈l,x.length≤30000):(1≤kD d∧kD d≤3)∧(d.nth 1).els.length≤30000∧(d.nth 3).els.length≤30000:=by
 unfold dOf at h
 split at h
 ·split at h
  ·split at h
   ·cases h;exact ⟨⟨(by decide:(1:Int)≤1),(by decide:(1:Int)≤3)⟩,(by decide:([]:List V).length≤30000),(by decide:([]:List V).length≤30000)⟩
   ·cases h
  ·cases h
 ·split at h
  ·split at h
   ·rename_i x y z
    cases h
    refine ⟨⟨(by decide:(1:Int)≤2),(by decide:(2:Int)≤3)⟩,?_,?_⟩
    ·show (x.map nv).length≤30000;rw [D2L];exact hx x (by simp)
    ·show (y.map nv).length≤30000;rw [D2L];exact hx y (by simp)
   ·cases h
  ·split at h
   ·rename_i x y
    cases h
    refine ⟨⟨(by decide:(1:Int)≤3),(by decide:(3:Int)≤3)⟩,?_,(by decide:([]:List V).length≤30000)⟩
    show (x.map nv).length≤30000;rw [D2L];exact hx x (by simp)
   ·cases h
theorem C75 {x:V} (h:(D.slice (.int .u8)).has x) (hl:x.els.length≤30000):(0≤kD (spD x)∧kD (spD x)≤3)∧((spD x).nth 1).els.length≤30000∧((spD x).nth 3).els.length≤30000:=by
 obtain ⟨b,hb,hb2⟩:=A0F h
 rw [hb,D2L] at hl
 unfold spD
 rw [J1 hb]
 have z:(0≤kD J0∧kD J0≤3)∧(J0.nth 1).els.length≤30000∧(J0.nth 3).els.length≤30000:=by decide
 cases b with
 | nil=>exact z
 | cons c r =>
  by_cases hc:81≤c∧c≤83
  ·rw [A5b hc]
   cases hp:pcs (B0a c) r with
   | none=>exact z
   | some p =>
    simp only
    cases hd:dOf c p.1 with
    | none=>exact z
    | some d =>
     simp only
     obtain ⟨_,q2⟩:=A04 hp (fun x hx=>hb2 x (by simp [hx]))
     obtain ⟨k1,k2,k3⟩:=B8K hd (fun x hx=>by have:=(q2 x hx).2;simp at hl;omega)
     by_cases hf:fits (c::r) d=true
     ·rw [if_pos hf];exact ⟨⟨by show 0≤kD d;omega,k1.2⟩,k2,k3⟩
     ·rw [if_neg hf];exact z
  ·rw [A2J hc];exact z
theorem C76:∀ (r:List V) (i:Int) (d:V) (a:Int),(∀ o∈r,(D.slice (.int .u8)).has (o.nth 1)∧(o.nth 1).els.length≤30000)→((0≤kD d∧kD d≤3)∧(d.nth 1).els.length≤30000∧(d.nth 3).els.length≤30000)→(a < 0∨a < i)→0≤i→∀ q,tdL r i d a=some q →
  ((0≤kD q.1∧kD q.1≤3)∧(q.1.nth 1).els.length≤30000∧(q.1.nth 3).els.length≤30000)∧(q.2 < 0∨q.2 < i+r.length):=by
 intro r
 induction r with
 | nil=>intro i d a hr hd ha hi q h;cases h;exact ⟨hd,by simpa using ha⟩
 | cons o r ih =>
  intro i d a hr hd ha hi q h
  obtain ⟨o1,o2⟩:=hr o (by simp)
  have hk:=C75 o1 o2
  simp only [tdL] at h
  have hr':∀ o∈r,(D.slice (.int .u8)).has (o.nth 1)∧(o.nth 1).els.length≤30000:=fun x hx=>hr x (by simp [hx])
  simp only [D2P]
  cases hx:spX (o.nth 1) with
  | true=>rw [hx] at h;cases h
  | false =>
   rw [hx] at h
   simp only [cond_false] at h
   cases hk0:!(L5 (V.nth (spD (o.nth 1)) 0).int 0) with
   | false =>
    rw [hk0] at h
    obtain ⟨p1,p2⟩:=ih (i+1) d a hr' hd (by omega) (by omega) q h
    exact ⟨p1,by omega⟩
   | true =>
    rw [hk0] at h
    simp only [cond_true] at h
    cases ha0:C0 0 a with
    | true=>rw [ha0] at h;cases h
    | false =>
     rw [ha0] at h
     obtain ⟨p1,p2⟩:=ih (i+1) _ i hr' hk (by omega) (by omega) q h
     exact ⟨p1,by omega⟩
theorem B0c {t:V} (ht:DTx.has t):∀ o∈(t.nth 2).els,(D.slice (.int .u8)).has (o.nth 1):=by
 obtain ⟨v,a,b,u,rfl,_,_,hb,_⟩:=A5A ht
 intro o ho
 obtain ⟨ys,rfl,hy⟩:=V3 hb o ho
 obtain ⟨p,q,rfl,_,hq⟩:=A14 hy
 exact hq
theorem C3x {t:V} (ht:DTx.has t) (hg:N1 (t.nth 2).els=true) {q:V×Int} (h:tdS t=some q):((0≤kD q.1∧kD q.1≤3)∧(q.1.nth 1).els.length≤30000∧(q.1.nth 3).els.length≤30000)∧(q.2 < 0∨q.2 < (t.nth 2).els.length):=by
 obtain ⟨g1,g2⟩:=A4Q hg
 have hl:=B0c ht
 obtain ⟨p1,p2⟩:=C76 (t.nth 2).els 0 J0 (-1) (fun o ho=>⟨hl o ho,g2 o ho⟩) (by decide) (.inl (by omega)) (by omega) q h
 exact ⟨p1,by omega⟩
variable {R:Type}
variable {R:Type}
variable {R:Type}
theorem C3y {v u:Int} {x y:V} (h:A8U (.l [.i v,x,y,.i u])=false):x.els.length≤12∧y.els.length≤12∧(∀ o∈y.els,(o.nth 1).els.length≤500)∧∀ o∈x.els,(o.nth 1).els.length≤300:=by
 have h:(B5 12 (x.els.length:Nat)||(B5 12 (y.els.length:Nat)||((y.els.any fun o=>B5 500 ((o.nth 1).els.length:Nat))||(x.els.any fun o=>B5 300 ((o.nth 1).els.length:Nat)))))=false:=h
 simp only [Bool.or_eq_false_iff,G5,decide_eq_false_iff_not,List.any_eq_false,D2T] at h
 obtain ⟨h1,h2,h3,h4⟩:=h
 exact ⟨by omega,by omega,fun o ho=>by have:=h3 o ho;omega,fun o ho=>by have:=h4 o ho;omega⟩
theorem B5a {l:List V} (h1:l.length≤1000) (h2:∀ o∈l,(o.nth 1).els.length≤30000):N1 l=true:=by
 unfold N1
 simp only [D2I,Nat.ble_eq,List.all_eq_true]
 exact ⟨h1,h2⟩
inductive B5b where
 | m (l:V) (d:V) (a:Int) (e:V) (n:Int) (i:Int)
inductive C77 where
 | o (l:V) (d:V) (a:Int) (e:V) (n:Int) (i:Int)
def B8L (R:Type) (p:B5b) (K:B5b→Option R) (kx:C77→Option R):Option R :=
 match p with
 | .m l d a e n i =>
  bif B5 i n then
   ck i ((e.els).length) <|
   bif C0 2 (((V.nth d 0)).int) then
   bif F5 (((V.nth (V.nth e i.toNat) 0)).els) (((V.nth d 1)).els) then
   K (.m l d i e n (D7 (i+1)))
   else
   K (.m l d a e n (D7 (i+1)))
   else
   K (.m l d a e n (D7 (i+1)))
   else
   kx (.o l d a e n i)
abbrev B8M:=@B8L.eq_1
variable {R:Type}
def B5c:V:=.l [.s [],.s [],.i 0,.l [.l (List.replicate 32 (.i 0)),.i 0]]
def Q8 (t:V) (h:Int):V:=.l [.s (V.nth (W0 t) 1).els,.s (V.nth (W0 t) 2).els,.i h,.l [A5z (A3d (H0 (.l (txL t)))),.i (IntKind.wrap .u32 (tdA t))]]
def apV (l t:V) (h:Int):V:=bif B5 (V.nth (W0 t) 0).int 2 then l else .l (l.els++[Q8 t h])
def luL (d:V):List V→Int→Int→Int
 | [],_,a=>a
 | e::r,i,a=>luL d r (i+1) (bif C0 2 (d.nth 0).int&&F5 (e.nth 0).els (d.nth 1).els then i else a)
def unV (l t:V):V:=bif B5 (luL (W0 t) l.els 0 (-1)) 0 then l else .l (l.els.take (luL (W0 t) l.els 0 (-1)).toNat++l.els.drop ((luL (W0 t) l.els 0 (-1)).toNat+1))
def D0S:List V→Bool
 | [l,t,h]=>(N1 (t.nth 2).els&&txg [t])&&Nat.ble l.els.length 10000
 | _=>false
def D0T (p:Nat):List V→List Rs
 | [l,t,h]=>[.d p (apV l t h.int)]
 | _=>[]
def D0U:List V→Bool
 | [l,t]=>N1 (t.nth 2).els&&Nat.ble l.els.length 10000
 | _=>false
def D0V (p:Nat):List V→List Rs
 | [l,t]=>[.d p (unV l t)]
 | _=>[]
def C78 (p:Nat) (l:V) (v u h:Int) (x y:V):Option (List Rs) :=
 bif N1 y.els then (bif B5 (V.nth (W0 (.l [.i v,x,y,.i u])) 0).int 2 then some [.d p l] else
  N0 ((List.replicate 0 B5c).length+l.els.length) <| bif txg [.l [.i v,x,y,.i u]] then
   (N0 ((List.replicate 0 B5c++l.els).length+1) <| some [.d p (.l ((List.replicate 0 B5c++l.els)++[Q8 (.l [.i v,x,y,.i u]) h]))]) else none) else none
theorem B8N {p:Nat} {l:V} {v u h:Int} {x y:V} (hg:D0S [l,.l [.i v,x,y,.i u],.i h]=true):C78 p l v u h x y=some (D0T p [l,.l [.i v,x,y,.i u],.i h]):=by
 have hg:((N1 y.els&&txg [.l [.i v,x,y,.i u]])&&Nat.ble l.els.length 10000)=true:=hg
 simp only [D2I,Nat.ble_eq] at hg
 obtain ⟨⟨g1,g2⟩,g3⟩:=hg
 show _=some [Rs.d p (apV l (.l [.i v,x,y,.i u]) h)]
 unfold C78 apV
 rw [g1,g2,cond_true,cond_true]
 cases B5 (V.nth (W0 (.l [.i v,x,y,.i u])) 0).int 2 with
 | true=>rfl
 | false=>rw [cond_false,cond_false,B3 (by simp;omega),B3 (by simp;omega)];simp
theorem C79 {kx:C77→Option R} {l e d:V}:∀ (r b:List V) (a:Int) (fuel:Nat),e.els=b++r→b.length+r.length≤10000→r.length < fuel →
  E1 (B8L R) fuel (.m l d a e (e.els.length:Nat) (b.length:Nat)) kx=kx (.o l d (luL d r (b.length:Nat) a) e (e.els.length:Nat) (e.els.length:Nat)):=by
 intro r
 induction r with
 | nil =>
  intro b a fuel he hb hf
  obtain ⟨f,rfl⟩:∃ f,fuel=f+1:=⟨fuel - 1,by omega⟩
  rw [List.append_nil] at he
  rw [E1,B8M,A3l he,cond_false]
  simp only [luL,he]
 | cons o r ih =>
  intro b a fuel he hb hf
  obtain ⟨f,rfl⟩:∃ f,fuel=f+1:=⟨fuel - 1,by omega⟩
  simp only [D2P] at hb hf
  have hle:e.els.length=b.length+(r.length+1):=by rw [he];simp
  have hat:V.nth e ((b.length:Nat):Int).toNat=o:=S7 he
  have ih:=fun a=>ih (b++[o]) a f (by rw [he];simp) (by simp;omega) (by omega)
  simp only [D2J,D2Q] at ih
  rw [E1,B8M,A3k he,cond_true,C9 (by omega) (by omega),hat,L9 (by omega)]
  simp only [ih,luL]
  rw [show ((b.length+1:Nat):Int)=(b.length:Nat)+1 by omega]
  cases C0 2 (d.nth 0).int with
  | false=>rfl
  | true=>cases F5 (o.nth 0).els (d.nth 1).els<;>rfl
theorem C3z (d:V):∀ (r:List V) (i a:Int),0≤i→(a=luL d r i a∨(i≤luL d r i a∧luL d r i a < i+r.length)):=by
 intro r
 induction r with
 | nil=>intro i a hi;exact .inl rfl
 | cons o r ih =>
  intro i a hi
  simp only [luL,D2P]
  cases C0 2 (d.nth 0).int&&F5 (o.nth 0).els (d.nth 1).els with
  | false=>rcases ih (i+1) a (by omega) with h | h;exact .inl h;exact .inr ⟨by simp only [cond_false];omega,by simp only [cond_false];omega⟩
  | true=>rcases ih (i+1) i (by omega) with h | h<;>(right;simp only [cond_true];omega)
theorem B8O (l:V) (a n:Nat):(A00 l a n).els=(l.els.drop a).take n:=by
 cases l<;>simp [A00,V.els]
def C8a (p:Nat) (l:V) (v u:Int) (x y:V):Option (List Rs) :=
 bif N1 y.els then (ln l.els.length <| E1 (B8L (List Rs)) (A2 FU) (.m l (W0 (.l [.i v,x,y,.i u])) (-1) l (l.els.length:Nat) 0) fun s=>match s with
 | .o l1 d1 a1 e1 n1 i1=>bif B5 a1 0 then some [.d p l1] else
  bif ((C0 0 (0:Nat))&&(C0 (0:Nat) a1))&&(C0 a1 (l1.els.length:Nat)) then (N0 ((List.replicate 0 B5c).length+(A00 l1 0 (a1 - (0:Nat)).toNat).els.length) <|
   bif ((C0 0 (D7 (a1+1)))&&(C0 (D7 (a1+1)) (l1.els.length:Nat)))&&(C0 (l1.els.length:Nat) (l1.els.length:Nat)) then
    (N0 ((List.replicate 0 B5c++(A00 l1 0 (a1 - (0:Nat)).toNat).els).length+(A00 l1 (D7 (a1+1)).toNat ((l1.els.length:Nat) - D7 (a1+1)).toNat).els.length) <|
     some [.d p (.l ((List.replicate 0 B5c++(A00 l1 0 (a1 - (0:Nat)).toNat).els)++(A00 l1 (D7 (a1+1)).toNat ((l1.els.length:Nat) - D7 (a1+1)).toNat).els))]) else none) else none) else none
theorem B8P {p:Nat} {l:V} {v u:Int} {x y:V} (hg:D0U [l,.l [.i v,x,y,.i u]]=true):C8a p l v u x y=some (D0V p [l,.l [.i v,x,y,.i u]]):=by
 have hg:(N1 y.els&&Nat.ble l.els.length 10000)=true:=hg
 simp only [D2I,Nat.ble_eq] at hg
 obtain ⟨g1,g3⟩:=hg
 have hq:=U0
 show _=some [Rs.d p (unV l (.l [.i v,x,y,.i u]))]
 unfold C8a unV
 rw [g1,cond_true,B7 (by omega)]
 refine (C79 (l:=l) (e:=l) l.els [] (-1) (A2 FU) rfl (by simp;omega) (by omega)).trans ?_
 simp only [List.length_nil,Int.natCast_zero]
 have hr:=C3z (W0 (.l [.i v,x,y,.i u])) l.els 0 (-1) (by omega)
 generalize luL (W0 (.l [.i v,x,y,.i u])) l.els 0 (-1)=a at *
 cases ha:B5 a 0 with
 | true=>rfl
 | false =>
  rw [G5,decide_eq_false_iff_not] at ha
  obtain ⟨n,rfl⟩:∃ n:Nat,a=n:=⟨a.toNat,by omega⟩
  have hn:n < l.els.length:=by omega
  rw [cond_false,cond_false,show ((C0 0 (0:Int)&&C0 (0:Int) (n:Nat))&&C0 (n:Nat) (l.els.length:Nat))=true by simp only [Q0,D2I,D2T];omega,cond_true,F8 (by omega) (by omega)]
  rw [show ((C0 0 ((n:Int)+1)&&C0 ((n:Int)+1) (l.els.length:Nat))&&C0 (l.els.length:Nat) (l.els.length:Nat))=true by simp only [Q0,D2I,D2T];omega,cond_true]
  simp only [B8O]
  have e1:(((n:Nat):Int) - (0:Int)).toNat=n:=by omega
  have e2:((n:Int)+1).toNat=n+1:=by omega
  have e3:(((l.els.length:Nat):Int) - ((n:Int)+1)).toNat=l.els.length - (n+1):=by omega
  have e4:((n:Nat):Int).toNat=n:=by omega
  rw [e1,e2,e3,e4,B3 (by simp;omega),B3 (by simp;omega),List.take_of_length_le (l:=List.drop (n+1) l.els) (by simp)]
  simp
variable {R:Type}
abbrev Es:=List (V×V×Bool)
def apX (es:Es) (kv t:V) (h:Int) (k:Es→Option R):Option R :=
 bif J5 kv es then (bif A0r kv es then (bif txg [t] then (N0 ((N6 kv es).els.length+1) <| bif Q5 kv kv then k (V1 kv (.l ((N6 kv es).els++[Q8 t h])) true es) else none) else none) else none)
 else (bif txg [t] then k (V1 kv (.l [Q8 t h]) true es) else none)
def apW (es:Es) (t:V) (h:Int) (k:Es→Option R):Option R :=
 bif N1 (t.nth 2).els then (bif L5 (V.nth (W0 t) 0).int 2 then apX es (.s (V.nth (W0 t) 1).els) t h k else bif L5 (V.nth (W0 t) 0).int 3 then apX es (.s (V.nth (W0 t) 1).els) t h k else k es) else none
def C3A (nl:Bool) (xs ys:List V) (ky kn:Option R):Option R :=
 bif Nat.ble (bif nl then V.n else .l xs).els.length 100000&&Nat.ble ys.length 100000 then
  bif F5 (bif nl then V.n else .l xs).els ys then ky else kn
 else none
def A2Z (es:Es) (w:V) (ky kn:Es→Option R):Option R :=
 B6b 0 es fun ks=>E1 (BAw R) (A2 FU) (.m es [] true ks ks.isEmpty (ks.length:Nat) 0) fun q=>match q with
  | .o es1 xs1 nl1 ks1 nk1 n1 i1=>bif Nat.ble w.els.length 10000 then C3A nl1 xs1 (A25 w.els (J4 [] w.els) []) (ky es1) (kn es1) else none
inductive B5d where
 | m (l:V) (x:V) (h:Int) (es:Es) (ek:Es) (w:V) (y:V) (n:Int) (i:Int)
inductive C8b where
 | o (l:V) (x:V) (h:Int) (es:Es) (ek:Es) (w:V) (y:V) (n:Int) (i:Int)
 | r (l:V) (x:V) (h:Int) (es:Es) (ek:Es) (w:V) (y:V) (n:Int) (i:Int)
 | s (l:V) (x:V) (h:Int) (es:Es) (ek:Es) (w:V) (y:V) (n:Int) (i:Int)
def A7y (R:Type) (p:B5d) (K:B5d→Option R) (kx:C8b→Option R):Option R :=
 match p with
 | .m l x h es ek w y n i =>
  bif B5 i n then (ck i y.els.length <| bif szB (V.nth (y.nth i.toNat) 1).els&&szB (V.nth (y.nth i.toNat) 2).els then (bif A8U (y.nth i.toNat) then kx (.r l x h es ek w y n i) else
   apW es (y.nth i.toNat) (D7 (h+i)) fun es1=>bif (N1 (V.nth (y.nth i.toNat) 2).els&&txg [y.nth i.toNat])&&Nat.ble w.els.length 10000 then
    A2Z es1 (apV w (y.nth i.toNat) (D7 (h+i))) (fun es2=>K (.m l x h es2 ek (apV w (y.nth i.toNat) (D7 (h+i))) y n (D7 (i+1)))) (fun es2=>kx (.s l x h es2 ek (apV w (y.nth i.toNat) (D7 (h+i))) y n i)) else none) else none)
  else kx (.o l x h es ek w y n i)
def unX (es:Es) (kv:V) (k:Es→Option R):Option R :=
 ln (N6 kv es).els.length <| bif L5 ((N6 kv es).els.length:Nat) 0 then k es else ln (N6 kv es).els.length <| bif L5 ((N6 kv es).els.length:Nat) 1 then k (U5 kv es) else
 ln (N6 kv es).els.length <| bif ((C0 0 (0:Nat))&&(C0 (0:Nat) (D7 (((N6 kv es).els.length:Nat) - 1))))&&(C0 (D7 (((N6 kv es).els.length:Nat) - 1)) ((N6 kv es).els.length:Nat)) then
  k (V1 kv (A00 (N6 kv es) 0 (D7 (((N6 kv es).els.length:Nat) - 1) - (0:Nat)).toNat) false es) else none
def unW (es:Es) (t:V) (k:Es→Option R):Option R :=
 bif N1 (t.nth 2).els then (bif J5 (.s (V.nth (W0 t) 1).els) es then (bif L5 (V.nth (W0 t) 0).int 2 then unX es (.s (V.nth (W0 t) 1).els) k else bif L5 (V.nth (W0 t) 0).int 3 then unX es (.s (V.nth (W0 t) 1).els) k else k es)
  else (bif L5 (V.nth (W0 t) 0).int 2 then k es else bif L5 (V.nth (W0 t) 0).int 3 then k es else k es)) else none
inductive B5e where
 | m (l:V) (x:V) (es:Es) (ek:Es) (w:V) (i:Int)
inductive C8c where
 | o (l:V) (x:V) (es:Es) (ek:Es) (w:V) (i:Int)
 | s (l:V) (x:V) (es:Es) (ek:Es) (w:V) (i:Int)
def A7z (R:Type) (p:B5e) (K:B5e→Option R) (kx:C8c→Option R):Option R :=
 match p with
 | .m l x es ek w i =>
  bif C0 0 i then (ck i x.els.length <| unW es (x.nth i.toNat) fun es1=>ck i x.els.length <| bif N1 (V.nth (x.nth i.toNat) 2).els&&Nat.ble w.els.length 10000 then
    A2Z es1 (unV w (x.nth i.toNat)) (fun es2=>K (.m l x es2 ek (unV w (x.nth i.toNat)) (D7 (i - 1)))) (fun es2=>kx (.s l x es2 ek (unV w (x.nth i.toNat)) i)) else none)
  else kx (.o l x es ek w i)
def B8Q (l x:V) (h:Int):Option Unit :=
 bif rng [l] then bif A0c l.els 0 then
  ln x.els.length <| bif B5 15 (x.els.length:Nat) then some () else bif B5 h 0 then some () else bif B5 1000 h then some () else
  ln l.els.length <| E1 (BNn Unit) (A2 FU) (.m l [] (l.els.length:Nat) 0) fun q=>match q with
  | .o l2 es n2 i2=>bif A1j es then (ln x.els.length <| E1 (A7y Unit) (A2 FU) (.m l x h es (L1 es) l x (x.els.length:Nat) 0) fun q=>match q with
   | .o l1 x1 h1 es1 ek1 w1 y1 n1 i1=>ln x1.els.length <| E1 (A7z Unit) (A2 FU) (.m l1 x1 es1 ek1 w1 (D7 ((x1.els.length:Nat) - 1))) fun q=>match q with
    | .o l3 x3 es3 ek3 w3 i3=>A2Z es3 l3 (fun _=>A2Z ek3 l3 (fun _=>some ()) (fun _=>none)) (fun _=>none)
    | .s l3 x3 es3 ek3 w3 i3=>none
   | .r l1 x1 h1 es1 ek1 w1 y1 n1 i1=>some ()
   | .s l1 x1 h1 es1 ek1 w1 y1 n1 i1=>none) else none
  else some () else none
end Go.Vm
end