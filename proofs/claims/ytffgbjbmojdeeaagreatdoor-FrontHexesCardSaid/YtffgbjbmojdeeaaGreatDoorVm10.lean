/- What the operations of a program do, shown once for all programs; and numbers. -/
import Derived.Test.YtffgbjbmojdeeaaGreatDoorVm9
import Derived.Test.YtffgbjbmojdeeaaGreatDoorVm7
import Derived.Test.YtffgbjbmojdeeaaGreatDoorVm6
import Derived.Maps.RangeRun
import Derived.WalkKit
import Derived.Sort.AssemblyPlain
import Derived.OwnWalkIn
import Derived.Lib.UnsafeStr
set_option linter.constructorNameAsVariable false
set_option linter.unusedVariables false
set_option linter.unusedSimpArgs false
set_option linter.unnecessarySimpa false
noncomputable section
namespace Go.Vm
open Go.RowKit
variable {P:Program} {T:TT} {R:Type}
inductive D where
 | int (k:IntKind) | bool | str | slice (d:D) | arr (n:Nat) (d:D) | struct (ds:List D)
mutual
def D.has:D→V→Prop
 | .int k,x=>∃ n,x=.i n∧inR k n
 | .bool,x=>∃ b,x=.b b
 | .str,x=>∃ ns:List Nat,x=.s (ns.map nv)∧∀ a∈ns,a < 256
 | .slice d,x=>x=.n∨∃ ys,x=.l ys∧∀ y∈ys,D.has d y
 | .arr n d,x=>∃ ys,x=.l ys∧ys.length=n∧∀ y∈ys,D.has d y
 | .struct ds,x=>∃ ys,x=.l ys∧D.hasL ds ys
def D.hasL:List D→List V→Prop
 | [],[]=>True
 | d::ds,x::xs=>D.has d x∧D.hasL ds xs
 | _,_=>False
end
mutual
def S6 (T:TT):Nat→Nat→Option D
 | 0,_=>none
 | n+1,t=>match B2 T t with
  | some (.int k)=>some (.int k)
  | some .bool=>some .bool
  | some .str=>some .str
  | some (.slice el)=>match S6 T n el with
   | some d=>some (.slice d)
   | none=>none
  | some (.arr m el)=>match S6 T n el with
   | some d=>some (.arr m d)
   | none=>none
  | some (.struct fs)=>match S7 T n fs with
   | some ds=>some (.struct ds)
   | none=>none
  | _=>none
def S7 (T:TT):Nat→List Nat→Option (List D)
 | _,[]=>some []
 | 0,_::_=>none
 | n+1,t::ts=>match S6 T n t with
  | some d=>match S7 T n ts with
   | some ds=>some (d::ds)
   | none=>none
  | none=>none
end
theorem A96 {e:A8} {t:Nat} {ts:List Nat} {xs:List V} {cs:List Value} (h:RV T e (t::ts) xs cs):∃ x r c1 c2,xs=x::r∧RV T e [t] [x] c1∧RV T e ts r c2:=by
 obtain ⟨as0,bs,c1,c2,rfl,rfl,h1,h2⟩:=RV.split [t] (ts':=ts) h
 obtain ⟨a,rfl⟩:=List.length_eq_one_iff.1 h1.length.2
 exact ⟨a,bs,c1,c2,rfl,h1,h2⟩
theorem B2y {e:A8} {el:Nat} {p:V→Prop} (hp:∀ x cs,RV T e [el] [x] cs→p x):∀ {n:Nat} {xs:List V} {cs:List Value},RV T e (List.replicate n el) xs cs→∀ x∈xs,p x:=by
 intro n
 induction n with
 | zero=>intro xs cs h x hx;cases h;cases hx
 | succ n ih =>
  intro xs cs h x hx
  rw [List.replicate_succ] at h
  obtain ⟨y,r,c1,c2,rfl,h1,h2⟩:=A96 h
  rcases List.mem_cons.1 hx with rfl | hx
  ·exact hp _ _ h1
  ·exact ih h2 x hx
theorem B2z:∀ (n:Nat) {e:A8},(∀ (t:Nat) (d:D),S6 T n t=some d→∀ x cs,RV T e [t] [x] cs→d.has x)∧(∀ (ts:List Nat) (ds:List D),S7 T n ts=some ds→∀ xs cs,RV T e ts xs cs→D.hasL ds xs):=by
 intro n
 induction n with
 | zero =>
  intro e
  refine ⟨fun t d h=>(by rw [S6] at h;cases h),fun ts ds h xs cs hx=>?_⟩
  cases ts with
  | nil=>rw [S7] at h;cases h;cases hx;trivial
  | cons t ts=>rw [S7] at h;cases h
 | succ n ih =>
  intro e
  refine ⟨fun t d h x cs hx=>?_,fun ts ds h xs cs hx=>?_⟩
  ·rw [S6] at h
   split at h
   ·rename_i k hk;cases h;obtain ⟨m,rfl,_,hr⟩:=hx.int_inv hk;exact ⟨m,rfl,hr⟩
   ·rename_i hk;cases h
    cases hx with
    | bool _ _ _=>exact ⟨_,rfl⟩
    | int g1=>rw [hk] at g1;cases g1
    | str g1=>rw [hk] at g1;cases g1
    | ptr g1=>rw [hk] at g1;cases g1
    | nils g1=>rw [hk] at g1;cases g1
    | map g1=>rw [hk] at g1;cases g1
    | func g1=>rw [hk] at g1;cases g1
    | fn g1=>rw [hk] at g1;cases g1
    | slice g1=>rw [hk] at g1;cases g1
    | arr g1=>rw [hk] at g1;cases g1
    | struct g1=>rw [hk] at g1;cases g1
   ·rename_i hk;cases h
    cases hx with
    | @str _ s _ _ _ _ _ _ =>
     refine ⟨s.data.toList.map fun b=>b.toNat,?_,fun a ha=>?_⟩
     ·unfold W9;rw [List.map_map];rfl
     ·obtain ⟨b,_,rfl⟩:=List.mem_map.1 ha;exact b.toNat_lt
    | int g1=>rw [hk] at g1;cases g1
    | bool g1=>rw [hk] at g1;cases g1
    | ptr g1=>rw [hk] at g1;cases g1
    | nils g1=>rw [hk] at g1;cases g1
    | map g1=>rw [hk] at g1;cases g1
    | func g1=>rw [hk] at g1;cases g1
    | fn g1=>rw [hk] at g1;cases g1
    | slice g1=>rw [hk] at g1;cases g1
    | arr g1=>rw [hk] at g1;cases g1
    | struct g1=>rw [hk] at g1;cases g1
   ·rename_i el hk
    split at h<;>cases h
    rename_i d hd
    rcases hx.slice_inv hk with ⟨rfl,_⟩ | ⟨ys,ds,a,cap,rfl,_,_,_,g⟩
    ·exact .inl rfl
    ·exact .inr ⟨ys,rfl,B2y (fun x cs hx=>(ih (e:=e)).1 el d hd x cs hx) g⟩
   ·rename_i m el hk
    split at h<;>cases h
    rename_i d hd
    obtain ⟨ys,rfl,hl,g⟩:=hx.arr_inv hk
    exact ⟨ys,rfl,hl,B2y (fun x cs hx=>(ih (e:=e)).1 el d hd x cs hx) g⟩
   ·rename_i fs hk
    split at h<;>cases h
    rename_i ds hd
    obtain ⟨ys,rfl,g⟩:=hx.struct_inv hk
    exact ⟨ys,rfl,(ih (e:=e)).2 fs ds hd _ _ g⟩
   ·cases h
  ·cases ts with
   | nil=>rw [S7] at h;cases h;cases hx;trivial
   | cons t ts =>
    rw [S7] at h
    split at h<;>try (cases h;done)
    rename_i d hd
    split at h<;>cases h
    rename_i ds hds
    obtain ⟨x,r,c1,c2,rfl,h1,h2⟩:=A96 hx
    exact ⟨(ih (e:=e)).1 t d hd _ _ h1,(ih (e:=e)).2 ts ds hds _ _ h2⟩
theorem TV.has:∀ {ts:List Nat} {xs:List V} (n:Nat) {ds:List D},TV T ts xs→S7 T n ts=some ds→D.hasL ds xs:=by
 intro ts
 induction ts with
 | nil =>
  intro xs n ds h hd
  have:=h.len
  cases xs with
  | nil=>cases n<;>(rw [S7] at hd;cases hd;trivial)
  | cons _ _=>cases this
 | cons t ts ih =>
  intro xs n ds h hd
  cases n with
  | zero=>rw [S7] at hd;cases hd
  | succ n =>
   rw [S7] at hd
   split at hd<;>try (cases hd;done)
   rename_i d hd1
   split at hd<;>cases hd
   rename_i ds hd2
   cases xs with
   | nil=>have:=h.len;cases this
   | cons x xs =>
    obtain ⟨e,cs,hx⟩:=h.head
    exact ⟨(B2z n).1 t d hd1 x cs hx,ih n h.tail hd2⟩
theorem B7J {d0:D} {xs:List V} (h:D.hasL [d0] xs):∃ a,xs=[a]∧d0.has a:=by
 cases xs with
 | nil=>exact (h).elim
 | cons x0 r0 =>
 cases r0 with
 | cons _ _=>exact (h.2).elim
 | nil=>exact ⟨x0,rfl,h.1⟩
theorem C0y {d0 d1 d2:D} {xs:List V} (h:D.hasL [d0,d1,d2] xs):∃ a b c,xs=[a,b,c]∧d0.has a∧d1.has b∧d2.has c:=by
 cases xs with
 | nil=>exact (h).elim
 | cons x0 r0 =>
 cases r0 with
 | nil=>exact (h.2).elim
 | cons x1 r1 =>
 cases r1 with
 | nil=>exact (h.2.2).elim
 | cons x2 r2 =>
 cases r2 with
 | cons _ _=>exact (h.2.2.2).elim
 | nil=>exact ⟨x0,x1,x2,rfl,h.1,h.2.1,h.2.2.1⟩
theorem u8s {ys:List V} (h:∀ y∈ys,(D.int .u8).has y):∃ ns:List Nat,ys=ns.map nv∧∀ a∈ns,a < 256:=by
 induction ys with
 | nil=>exact ⟨[],rfl,fun a ha=>by cases ha⟩
 | cons y ys ih =>
  obtain ⟨ns,rfl,hn⟩:=ih (fun z hz=>h z (List.mem_cons_of_mem _ hz))
  obtain ⟨m,rfl,h1,h2⟩:=h y (List.mem_cons_self ..)
  simp only [lo,hi] at h1 h2
  refine ⟨m.toNat::ns,?_,fun a ha=>?_⟩
  ·simp only [List.map_cons,nv];rw [show ((m.toNat:Nat):Int)=m by omega]
  ·rcases List.mem_cons.1 ha with rfl | ha
   ·omega
   ·exact hn a ha
def gF (g:List V→Bool) (r:List V→List Rs):FC:=fun R xs k=>bif g xs then k (r xs) else none
theorem A8I (g:List V→Bool) (r:List V→List Rs):FC.nat (gF g r):=by
 intro R xs k
 unfold gF
 cases g xs<;>rfl
theorem B7K {g:List V→Bool} {r:List V→List Rs} {xs:List V} {rs:List Rs} (h:gF g r (List Rs) xs some=some rs):g xs=true∧rs=r xs:=by
 unfold gF at h
 cases hg:g xs with
 | false=>rw [hg] at h;cases h
 | true=>rw [hg] at h;simp only [cond_true,C3q] at h;exact ⟨rfl,h.symm⟩
theorem A5h (hm:P.follows .mixedOrders=true) (hT:F4 T P) {tab:List (Nat×J4)} (h:M3 P T tab) {f d fu:Nat} {Lo:Nat→LC} {sh:Bool} {ts:List Nat} {rk:List RK} {g:List V→Bool} {r:List V→List Rs} (hts:ts.all (fun t=>(T t).isSome)=true)
  (hL:A0e P T f Lo) (n:Nat) {ds:List D} (hd:S7 T n ts=some ds)
  (hF:∀ xs,D.hasL ds xs→g xs=true→P4 P T (U3 P T tab false fu d) Lo false fu f (List Rs) (E0 T ts xs) (fun _=>none) 0 (fun out=>E7 T sh rk out)=some (r xs)) :
  M3 P T ((f,C1 T sh ts (gF g r))::tab) :=
 A8q hm hT h (A8I g r) hts hL fun xs rs htv hrs=>by
  obtain ⟨h1,rfl⟩:=B7K hrs
  exact hF xs (htv.has n hd) h1
variable {P:Program} {T:TT} {R:Type}
def B5u (xs:List V):List V:=C0w (xs.length:Nat)++xs
theorem B5v (n:Int):IntKind.wrap .u8 n=n % 256:=by
 unfold IntKind.wrap
 simp [IntKind.bits,IntKind.signed]
def C22 (x:V):List V:=(x.nth 0).els++leV 4 (x.nth 1).int
variable {P:Program} {T:TT} {R:Type}
def C0z (e:V):List V:=B5u (e.nth 1).els++(leV 8 (WU (e.nth 2).int)++C22 (e.nth 3))
variable {P:Program} {T:TT}
abbrev ML:Nat:=9223372036854775807
mutual
def D.sm:D→V→Prop
 | .str,x=>x.els.length≤ML
 | .slice d,x=>x.els.length≤ML∧∀ y∈x.els,D.sm d y
 | .arr _ d,x=>∀ y∈x.els,D.sm d y
 | .struct ds,x=>D.smL ds x.els
 | _,_=>True
def D.smL:List D→List V→Prop
 | d::ds,x::xs=>D.sm d x∧D.smL ds xs
 | _,_=>True
end
theorem F4.zero (hT:F4 T P) {t:Nat} {k:TK} (hk:B2 T t=some k) (ho:k≠.other):∃ x cs,∀ e,RV T e [t] [x] cs:=by
 obtain ⟨te,h1,rfl⟩:=A6 hk
 obtain ⟨i,d,z,_,_,_,_,_,_,h7,_⟩:=(hT _ _ h1).fits
 rcases h7 with h7 | h7
 ·exact ⟨_,_,h7⟩
 ·exact absurd h7 ho
theorem RV.sz1 {e:A8} {t:Nat} {x:V} {cs:List Value} {k:TK} (hk:B2 T t=some k) (ha:k.agg=false) (h:RV T e [t] [x] cs):B1 T t=1:=by
 cases h with
 | int _ h2=>exact h2
 | bool _ h2=>exact h2
 | str _ h2=>exact h2
 | ptr _ h2=>exact h2
 | nils _ h2=>exact h2
 | map _ h2=>exact h2
 | func _ h2=>exact h2
 | fn _ h2=>exact h2
 | slice _ h2=>exact h2
 | arr h1=>rw [hk] at h1;cases h1;cases ha
 | struct h1=>rw [hk] at h1;cases h1;cases ha
def e0:A8:={ w:=default,ι:=fun _=>none,S:=fun _ _=>False,bn:=fun _=>0,U:=fun _=>False,ty:=fun _=>0,ln:=fun _=>0,G:=fun _ _=>False }
theorem F4.sz1 (hT:F4 T P) {t:Nat} {k:TK} (hk:B2 T t=some k) (ha:k.agg=false) (ho:k≠.other):B1 T t=1:=by
 obtain ⟨x,cs,h⟩:=hT.zero hk ho
 exact (h e0).sz1 hk ha
theorem F4.szS (hT:F4 T P) {t:Nat} {fs:List Nat} (hk:B2 T t=some (.struct fs)):B1 T t=szs T fs:=by
 obtain ⟨x,cs,h⟩:=hT.zero hk (by intro h;cases h)
 obtain ⟨ys,rfl,g⟩:=(h e0).struct_inv hk
 have h1:=(h e0).length.1
 have h2:=g.length.1
 simp only [szs] at h1;omega
theorem F4.szA (hT:F4 T P) {t n el:Nat} (hk:B2 T t=some (.arr n el)):B1 T t=n * B1 T el:=by
 obtain ⟨x,cs,h⟩:=hT.zero hk (by intro h;cases h)
 obtain ⟨ys,rfl,_,g⟩:=(h e0).arr_inv hk
 have h1:=(h e0).length.1
 have h2:=g.length.1
 rw [B4] at h2
 simp only [szs] at h1;omega
theorem F4.cells (hT:F4 T P) {t:Nat} {k:TK} (hk:B2 T t=some k):P.cellsOf t=B1 T t:=by
 obtain ⟨te,h1,rfl⟩:=A6 hk
 obtain ⟨i,d,z,g1,_,g3,_⟩:=(hT _ _ h1).fits
 unfold Program.cellsOf
 rw [g1,E4 h1,← g3];rfl
theorem B8z {k:IntKind} {n:Int} (h:(Lit.int k n).wf=true):inR k n:=by
 have:k.min≤n∧n≤k.max:=by simpa [Lit.wf,C3o,C3z] using h
 cases k<;>simpa [inR,lo,hi,IntKind.min,IntKind.max,IntKind.signed,IntKind.bits] using this
theorem add_add (a:Addr) (p q:Nat):(a.add p).add q=a.add (p+q):=by
 unfold Addr.add
 by_cases h1:p=0
 ·subst h1;simp
 ·by_cases h2:q=0
  ·subst h2;simp [h1]
  ·simp [h1,h2,show p+q≠0 by omega,Nat.add_assoc]
theorem B03 {w:World} {b0:Nat} {a:Addr} {n:Nat} {l:List Value} (h:w.cells? b0 a n=some l):l.length=n∧∀ k,k < n→w.cell? (a.add k)=l[k]? := by
 unfold World.cells? at h
 split at h<;>try (cases h;done)
 have h1:=mapM_some_length h
 refine ⟨by simpa using h1,fun k hk=>?_⟩
 exact mapM_some_get h k k (by simp [hk])
section
variable {w:World} {H:Type} {enc:TypeId×Value→H}
theorem A7o {el:Nat} {e:A8} {q:V→Prop}:∀ (n:Nat) (cs:List Value),cs.length=n * B1 T el→(∀ i,i < n→∃ y,RV T e [el] [y] ((cs.drop (i * B1 T el)).take (B1 T el))∧q y)→∃ ys,ys.length=n∧RV T e (List.replicate n el) ys cs∧∀ y∈ys,q y:=by
 intro n
 induction n with
 | zero =>
  intro cs hl _
  have:cs=[]:=List.eq_nil_of_length_eq_zero (by simpa using hl)
  subst this
  exact ⟨[],rfl,.nil,fun y hy=>by cases hy⟩
 | succ n ih =>
  intro cs hl hp
  rw [Nat.succ_mul] at hl
  obtain ⟨y,hy,hq⟩:=hp 0 (by omega)
  rw [Nat.zero_mul,List.drop_zero] at hy
  obtain ⟨ys,h1,h2,h3⟩:=ih (cs.drop (B1 T el)) (by rw [List.length_drop];omega) (fun i hi=>by
   obtain ⟨z,hz,hqz⟩:=hp (i+1) (by omega)
   refine ⟨z,?_,hqz⟩
   rw [List.drop_drop,show B1 T el+i * B1 T el=(i+1) * B1 T el by rw [Nat.succ_mul];omega]
   exact hz)
  refine ⟨y::ys,by simp [h1],?_,fun z hz=>?_⟩
  ·have:=RV.append hy h2
   rw [List.take_append_drop] at this
   exact this
  ·rcases List.mem_cons.1 hz with rfl | hz
   ·exact hq
   ·exact h3 z hz
theorem B04 {e:A8}:∀ (fs:List Nat) (n:Nat) (ds:List D) (cs:List Value),S7 T n fs=some ds→cs.length=szs T fs→(∀ (j f m:Nat) (d:D),m≤n→fs[j]? = some f→S6 T m f=some d→∃ y,RV T e [f] [y] ((cs.drop (szs T (fs.take j))).take (B1 T f))∧d.sm y)→∃ ys,RV T e fs ys cs∧D.smL ds ys:=by
 intro fs
 induction fs with
 | nil =>
  intro n ds cs hd hl _
  have:cs=[]:=List.eq_nil_of_length_eq_zero hl
  subst this
  rw [S7] at hd;cases hd
  exact ⟨[],.nil,trivial⟩
 | cons f r ih =>
  intro n ds cs hd hl hp
  cases n with
  | zero=>rw [S7] at hd;cases hd
  | succ n =>
  rw [S7] at hd
  split at hd<;>try (cases hd;done)
  rename_i d hd1
  split at hd<;>cases hd
  rename_i ds' hds
  simp only [szs] at hl
  obtain ⟨y,hy,hq⟩:=hp 0 f n d (by omega) rfl hd1
  simp only [List.take_zero,szs,List.drop_zero] at hy
  obtain ⟨ys,h2,h3⟩:=ih n ds' (cs.drop (B1 T f)) hds (by rw [List.length_drop];omega) (fun j g m d' hm hj hd'=>by
   obtain ⟨z,hz,hqz⟩:=hp (j+1) g m d' (by omega) (by simpa using hj) hd'
   refine ⟨z,?_,hqz⟩
   rw [List.drop_drop]
   simpa only [List.take_succ_cons,szs] using hz)
  refine ⟨y::ys,?_,hq,h3⟩
  have:=RV.append hy h2
  rw [List.take_append_drop] at this
  exact this
theorem B5w (hT:F4 T P):∀ (n m:Nat),m≤n→∀ (t:Nat) (d:D),S6 T m t=some d→∀ (fuel:Nat) (cs:List Value) (x:DataW H×List MemPlace),DataW.trod enc P w 0 (fun _=>true) true fuel t cs=some x→∃ y,RV T (L6 w) [t] [y] cs∧d.sm y:=by
 intro n
 induction n with
 | zero=>intro m hm t d h;obtain rfl:m=0:=by omega
         rw [S6] at h;cases h
 | succ n ih =>
  intro m hm t d h fuel cs x hx
  cases m with
  | zero=>rw [S6] at h;cases h
  | succ m =>
  have hm:m≤n:=by omega
  rw [S6] at h
  split at h
  ·rename_i k hk
   obtain ⟨te,h1,h2⟩:=A6 hk
   obtain ⟨v,rfl,_,hw⟩:=DataW.trod_int (N7 (hT _ _ h1) h2) hx
   cases h;exact ⟨.i v,.int hk (hT.sz1 hk rfl (by intro h;cases h)) (B8z hw) .nil,trivial⟩
  ·rename_i hk
   obtain ⟨te,h1,h2⟩:=A6 hk
   obtain ⟨b,rfl,_⟩:=DataW.trod_bool (Z5 (hT _ _ h1) h2) hx
   cases h;exact ⟨.b b,.bool hk (hT.sz1 hk rfl (by intro h;cases h)) .nil,trivial⟩
  ·rename_i hk
   obtain ⟨te,h1,h2⟩:=A6 hk
   obtain ⟨s,rfl,_,hsz⟩:=DataW.trod_string (L8 (hT _ _ h1) h2) hx
   cases h
   refine ⟨.s (W9 s),.str hk (hT.sz1 hk rfl (by intro h;cases h)) .nil,?_⟩
   show (W9 s).length≤ML
   unfold W9
   rw [C3r,C3u]
   exact Nat.le_trans hsz (by decide)
  ·rename_i el hk
   split at h<;>cases h
   rename_i d hd
   obtain ⟨te,h1,h2⟩:=A6 hk
   have hz1:=hT.sz1 hk rfl (by intro h;cases h)
   rcases DataW.trod_slice (D4 (hT _ _ h1) h2) hx with ⟨rfl,_⟩ | ⟨a,len,cap,elems,rest,k,_,rfl,_,_,hcap,hmx,hel,he,_,_⟩
   ·exact ⟨.n,.nils hk hz1 .nil,Nat.zero_le _,fun y hy=>by cases hy⟩
   ·have hsz:P.cellsOf el=B1 T el:=by
     cases hke:B2 T el with
     | none=>cases m with
      | zero=>rw [S6] at hd;cases hd
      | succ m=>rw [S6,hke] at hd;cases hd
     | some ke=>exact hT.cells hke
    rw [hsz] at he
    have key:∀ i,i < len→∃ l y,l.length=B1 T el∧(∀ k,k < B1 T el→w.cell? (a.add (i * B1 T el+k))=l[k]?)∧RV T (L6 w) [el] [y] l∧d.sm y:=fun i hi=>by
     have h3:=he i hi
     rw [C3A (by omega)] at h3
     obtain ⟨l,g1,g2⟩:=Option.bind_eq_some_iff.1 h3
     obtain ⟨g3,g4⟩:=B03 g1
     obtain ⟨y,hy,hq⟩:=ih m hm el d hd _ _ _ g2
     exact ⟨l,y,g3,fun k hk=>by rw [← g4 k hk,add_add],hy,hq⟩
    have hcell:∀ j,j < len * B1 T el→∃ v,w.cell? (a.add j)=some v:=fun j hj=>by
     have hpos:0 < B1 T el:=by
      rcases Nat.eq_zero_or_pos (B1 T el) with h0 | h0
      ·rw [h0] at hj;omega
      ·exact h0
     have hi:j / B1 T el < len:=Nat.div_lt_of_lt_mul (by rw [Nat.mul_comm];exact hj)
     obtain ⟨l,y,g1,g2,_⟩:=key _ hi
     have hk:=Nat.mod_lt j hpos
     have:=g2 _ hk
     rw [show j / B1 T el * B1 T el+j % B1 T el=j by rw [Nat.mul_comm];exact Nat.div_add_mod j _,C3A (by omega)] at this
     exact ⟨_,this⟩
    let ds:List Value:=(List.range (len * B1 T el)).map fun j=>(w.cell? (a.add j)).getD undef
    have hds:ds.length=len * B1 T el:=by simp [ds]
    have hget:∀ j,j < len * B1 T el→ds[j]? = w.cell? (a.add j):=fun j hj=>by
     obtain ⟨v,hv⟩:=hcell j hj
     simp only [ds,List.getElem?_map,List.getElem?_range hj,Option.map_some,hv,Option.getD_some]
    have hparts:∀ i,i < len→∃ y,RV T (L6 w) [el] [y] ((ds.drop (i * B1 T el)).take (B1 T el))∧d.sm y:=fun i hi=>by
     obtain ⟨l,y,g1,g2,g3,g4⟩:=key i hi
     refine ⟨y,?_,g4⟩
     have:(ds.drop (i * B1 T el)).take (B1 T el)=l:=by
      apply List.ext_getElem?
      intro k
      rcases Nat.lt_or_ge k (B1 T el) with hk | hk
      ·have:(i+1) * B1 T el≤len * B1 T el:=Nat.mul_le_mul_right _ (by omega)
       rw [Nat.succ_mul] at this
       rw [List.getElem?_take_of_lt hk,List.getElem?_drop,hget _ (by omega),g2 k hk]
      ·rw [List.getElem?_eq_none (by simp;omega),List.getElem?_eq_none (by omega)]
     rw [this];exact g3
    obtain ⟨ys,h4,h5,h6⟩:=A7o len ds hds hparts
    refine ⟨.l ys,.slice hk hz1 h4 hcap ⟨fun hne=>?_,fun j y hj=>?_⟩ h5 .nil,?_,h6⟩
    ·have hpos:0 < len * B1 T el:=by
      rcases Nat.eq_zero_or_pos (len * B1 T el) with h0 | h0
      ·exact absurd (List.eq_nil_of_length_eq_zero (hds.trans h0)) hne
      ·exact h0
     obtain ⟨v,hv⟩:=hcell 0 hpos
     simpa [Addr.add] using World.cell?_spot hv
    ·have hjl:j < len * B1 T el:=by rw [← hds];exact (List.getElem?_eq_some_iff.1 hj).1
     rw [hget j hjl] at hj
     refine ⟨hj,?_⟩
     have:=A4X hj
     rw [A02] at this
     exact this
    ·show ys.length≤ML
     rw [h4];exact Nat.le_trans hcap (Nat.le_trans hmx (by decide))
  ·rename_i k el hk
   split at h<;>cases h
   rename_i d hd
   obtain ⟨te,h1,h2⟩:=A6 hk
   obtain ⟨xs,m',_,_,hl,hn,hi⟩:=DataW.trod_array (L9 (hT _ _ h1) h2) hx
   have hsz:P.cellsOf el=B1 T el:=by
    cases hke:B2 T el with
    | none=>cases m with
     | zero=>rw [S6] at hd;cases hd
     | succ m=>rw [S6,hke] at hd;cases hd
    | some ke=>exact hT.cells hke
   rw [hT.cells hk,hT.szA hk] at hl
   obtain ⟨ys,h4,h5,h6⟩:=A7o (q:=d.sm) k cs hl (fun i h=>by
    have h3:=hi i h
    rw [hsz,C3A (by omega)] at h3
    exact ih m hm el d hd _ _ _ h3)
   refine ⟨.l ys,?_,h6⟩
   have:=RV.arr hk (by rw [hT.szA hk,hl]) h5 (RV.nil (T:=T) (e:=L6 w))
   rwa [List.append_nil] at this
  ·rename_i fs hk
   split at h<;>cases h
   rename_i ds hd
   obtain ⟨te,h1,h2⟩:=A6 hk
   obtain ⟨gs,g1,g2,g3⟩:=J6 (hT _ _ h1) h2
   obtain ⟨xs,m',_,_,hl,hn,hi⟩:=DataW.trod_struct g1 hx
   rw [hT.cells hk,hT.szS hk] at hl
   obtain ⟨ys,h5,h6⟩:=B04 fs m ds cs hd hl (fun j f m1 d1 hm1 hj hd1=>by
    obtain ⟨g,q1,rfl⟩:=X7 g2 hj
    have h3:=hi j g q1
    have hlt:j < xs.length:=by rw [hn];exact (Array.getElem?_eq_some_iff.1 q1).1
    have hsz:P.cellsOf g.type=B1 T g.type:=by
     cases hke:B2 T g.type with
     | none=>cases m1 with
      | zero=>rw [S6] at hd1;cases hd1
      | succ m1=>rw [S6,hke] at hd1;cases hd1
     | some ke=>exact hT.cells hke
    rw [hsz,g3 j g q1,C3A hlt] at h3
    exact ih m1 (by omega) _ d1 hd1 _ _ _ h3)
   refine ⟨.l ys,?_,h6⟩
   have:=RV.struct hk (by rw [hT.szS hk,hl]) h5 (RV.nil (T:=T) (e:=L6 w))
   rwa [List.append_nil] at this
  ·cases h
theorem B2A (hT:F4 T P) {t m b:Nat} {v:Value} {d:D} (hd:S6 T m t=some d) {r:Reach} (h:Value.okWide P w r b t v):T3 T t v:=by
 cases m with
 | zero=>rw [S6] at hd;cases hd
 | succ m =>
 have no:∀ {k:TK} {u:TypeDesc},B2 T t=some k→k.agg=false→P.underlying t=some u→(u=.bool∨u=.string∨(∃ k,u=.int k)∨∃ e,u=.slice e)→T3 T t v:=fun {k u} hk ha hu hc=>by
  refine ⟨fun ⟨k',hk',ha'⟩=>(by rw [hk] at hk';cases hk';rw [ha] at ha';cases ha'),fun ⟨cs,hv⟩=>?_⟩
  subst hv
  rcases hc with rfl | rfl | ⟨k',rfl⟩ | ⟨e',rfl⟩<;>simp [Value.okWide,Cell.okWide,Cell.ok,hu] at h
 rw [S6] at hd
 split at hd
 ·rename_i k hk;obtain ⟨te,h1,h2⟩:=A6 hk
  exact no hk rfl (N7 (hT _ _ h1) h2) (.inr (.inr (.inl ⟨_,rfl⟩)))
 ·rename_i hk;obtain ⟨te,h1,h2⟩:=A6 hk
  exact no hk rfl (Z5 (hT _ _ h1) h2) (.inl rfl)
 ·rename_i hk;obtain ⟨te,h1,h2⟩:=A6 hk
  exact no hk rfl (L8 (hT _ _ h1) h2) (.inr (.inl rfl))
 ·rename_i el hk;obtain ⟨te,h1,h2⟩:=A6 hk
  exact no hk rfl (D4 (hT _ _ h1) h2) (.inr (.inr (.inr ⟨_,rfl⟩)))
 ·rename_i k el hk;obtain ⟨te,h1,h2⟩:=A6 hk
  have hu:=L9 (hT _ _ h1) h2
  unfold Value.okWide at h
  rw [hu] at h
  obtain ⟨cs,rfl,_⟩:=h
  exact ⟨fun _=>⟨cs,rfl⟩,fun _=>⟨_,hk,rfl⟩⟩
 ·rename_i fs hk;obtain ⟨te,h1,h2⟩:=A6 hk
  obtain ⟨gs,hu,_⟩:=J6 (hT _ _ h1) h2
  unfold Value.okWide at h
  rw [hu] at h
  obtain ⟨cs,rfl,_⟩:=h
  exact ⟨fun _=>⟨cs,rfl⟩,fun _=>⟨_,hk,rfl⟩⟩
 ·cases hd
theorem B05 (hT:F4 T P) {r:Reach} {b:Nat}:∀ (ts:List Nat) {n:Nat} {Ds:List D} (vs:List Value) {ds:List (DataW H)} {ps:List MemPlace},S7 T n ts=some Ds→DataW.TrodAll enc P w 0 (fun _=>true) true ts vs ds ps →
  (∀ (j:Nat) t v,ts[j]? = some t→vs[j]? = some v→Value.okWide P w r b t v)→∃ xs,RP T (L6 w) ts xs vs∧D.smL Ds xs:=by
 intro ts
 induction ts with
 | nil =>
  intro n Ds vs ds ps _ h _
  cases vs with
  | nil=>exact ⟨[],.nil,by cases Ds<;>exact trivial⟩
  | cons v vs=>cases ds<;>exact h.elim
 | cons t ts ih =>
  intro n Ds vs ds ps hd h hv
  cases vs with
  | nil=>cases ds<;>exact h.elim
  | cons v vs =>
   cases ds with
   | nil=>exact h.elim
   | cons d ds =>
    obtain ⟨p,q,⟨fuel,h1⟩,h2,_⟩:=h
    cases n with
    | zero=>rw [S7] at hd;cases hd
    | succ n =>
     rw [S7] at hd
     split at hd<;>try (cases hd;done)
     rename_i D hD
     split at hd<;>cases hd
     rename_i Ds' hDs
     obtain ⟨y,hy,hq⟩:=B5w hT n n (Nat.le_refl _) t D hD fuel _ _ h1
     obtain ⟨xs,hxs,hqs⟩:=ih vs hDs h2 (fun j t v h1 h2=>hv (j+1) t v (by simpa using h1) (by simpa using h2))
     exact ⟨y::xs,.cons hy (B2A hT hD (hv 0 t v rfl rfl)) hxs,hq,hqs⟩
end
def A7p:M8→Option Unit:=fun out=>bif B4n true (some out) then some () else none
theorem B8A {s:J4} (hn:s.nat) {args:List A} (h:s Unit args (fun _=>none) 0 A7p=some ()):B4n true (s.dir args (fun _=>none) 0)=true:=by
 rw [hn] at h
 obtain ⟨out,h1,h2⟩:=A3M h
 rw [h1]
 unfold A7p at h2
 cases hq:B4n true (some out) with
 | true=>rfl
 | false=>rw [hq] at h2;cases h2
theorem B06 (hT:F4 T P) {f:FuncId} {fn:Func} {code:Code} {s:J4} (hf:P.funcs[f]? = some fn) (hb:fn.body=some code) (hn:(fn.name == "runtime.NumGoroutine")=false) (hs:C0 P T f s.dir) (hnat:s.nat) {ts:List Nat} (hts:ts.all (fun t=>(T t).isSome)=true) (n:Nat) {Ds:List D} (hd:S7 T n ts=some Ds)
  (hrun:∀ xs,D.hasL Ds xs→D.smL Ds xs→s Unit (E0 T ts xs) (fun _=>none) 0 A7p=some ()) {w:World} {vals:Array Value} (ha:∃ xs,RP T (L6 w) ts xs vals.toList∧D.smL Ds xs):Calls P f vals w fun en w'=>en=.returned (.bool true)∧A76 w w':=by
 obtain ⟨xs,hx,hq⟩:=ha
 exact A6K hf hb hn hs (B8A hnat (hrun xs (TV.has n ⟨_,_,hx⟩ hd) hq)) (hx.reps hts)
def Byt (l:List Nat):Prop:=∀ a∈l,a < 256
theorem Byt.cons {a:Nat} {l:List Nat} (h:Byt (a::l)):a < 256∧Byt l:=⟨h a (by simp),fun b hb=>h b (by simp [hb])⟩
theorem Byt.app {a b:List Nat}:Byt (a++b)↔Byt a∧Byt b:=by
 constructor
 ·exact fun h=>⟨fun x hx=>h x (by simp [hx]),fun x hx=>h x (by simp [hx])⟩
 ·rintro ⟨h,g⟩ x hx
  rcases C3y.1 hx with hx | hx
  ·exact h x hx
  ·exact g x hx
theorem Byt.take {a:List Nat} (h:Byt a) (n:Nat):Byt (a.take n):=fun x hx=>h x (List.mem_of_mem_take hx)
theorem Byt.drop {a:List Nat} (h:Byt a) (n:Nat):Byt (a.drop n):=fun x hx=>h x (List.mem_of_mem_drop hx)
def leB:Nat→Nat→List Nat
 | 0,_=>[]
 | m+1,n=>n % 256::leB m (n / 256)
theorem A3w:∀ (m n:Nat),(leB m n).length=m:=by
 intro m
 induction m with
 | zero=>intro n;rfl
 | succ m ih=>intro n;simp [leB,ih]
theorem A18:∀ (m n:Nat),Byt (leB m n):=by
 intro m
 induction m with
 | zero=>intro n a ha;cases ha
 | succ m ih =>
  intro n a ha
  rcases List.mem_cons.1 ha with rfl | ha
  ·exact Nat.mod_lt _ (by decide)
  ·exact ih _ a ha
theorem A1r:∀ (m n:Nat),leV m (n:Int)=(leB m n).map nv:=by
 intro m
 induction m with
 | zero=>intro n;rfl
 | succ m ih =>
  intro n
  show V.i (IntKind.wrap .u8 (n:Int))::leV m ((n:Int).fdiv (2 ^ 8))=nv (n % 256)::(leB m (n / 256)).map nv
  rw [B5v,Int.fdiv_eq_ediv_of_nonneg _ (by decide),show ((n:Int) / 2 ^ 8)=((n / 256:Nat):Int) by omega,ih,show ((n:Int) % 256)=((n % 256:Nat):Int) by omega]
  rfl
def A41 (n:Nat):List Nat:=if n < 253 then [n] else if n < 65536 then 253::leB 2 n else if n < 4294967296 then 254::leB 4 n else 255::leB 8 n
theorem A6h (a b:Nat):E8 (a:Int) (b:Int)=decide (a < b):=by
 simp only [E8,iltN_dec]
 rw [Bool.eq_iff_iff,C3z,C3z];omega
theorem B07 (n:Nat):C0w (n:Int)=(A41 n).map nv:=by
 unfold C0w A41
 rw [show E8 (n:Int) 253=decide (n < 253) from A6h n 253,show E8 (n:Int) 65536=decide (n < 65536) from A6h n 65536,show E8 (n:Int) 4294967296=decide (n < 4294967296) from A6h n 4294967296,A1r,A1r,A1r,A1r]
 by_cases h1:n < 253
 ·simp [h1,leB,nv];omega
 ·by_cases h2:n < 65536
  ·simp [h1,h2,nv]
  ·by_cases h3:n < 4294967296
   ·simp [h1,h2,h3,nv]
   ·simp [h1,h2,h3,nv]
theorem B2B {n:Nat}:Byt (A41 n):=by
 unfold A41
 intro a ha
 split at ha
 ·simp at ha;omega
 ·split at ha
  ·rcases List.mem_cons.1 ha with rfl | ha
   ·decide
   ·exact A18 _ _ a ha
  ·split at ha
   ·rcases List.mem_cons.1 ha with rfl | ha
    ·decide
    ·exact A18 _ _ a ha
   ·rcases List.mem_cons.1 ha with rfl | ha
    ·decide
    ·exact A18 _ _ a ha
theorem B2C (n:Nat):(A41 n).length=if n < 253 then 1 else if n < 65536 then 3 else if n < 4294967296 then 5 else 9:=by
 unfold A41
 by_cases h1:n < 253
 ·simp [h1]
 ·by_cases h2:n < 65536
  ·simp [h1,h2,A3w]
  ·by_cases h3:n < 4294967296
   ·simp [h1,h2,h3,A3w]
   ·simp [h1,h2,h3,A3w]
def rd (r:List Nat):V:=.l [.l (r.map nv),.i 0]
def A8J (v:List Nat) (h:Nat) (hs:List Nat) (a:Nat):List Nat:=A41 v.length++v++(leB 8 h++(hs++leB 4 a))
def C0A (nm:List V) (v:List Nat) (h:Nat) (hs:List Nat) (a:Nat):V:=.l [.s nm,.s (v.map nv),.i (R2 (h:Int)),.l [.l (hs.map nv),.i (a:Int)]]
theorem B2D (v:List Nat):B5u (v.map nv)=(A41 v.length++v).map nv:=by
 unfold B5u
 rw [C3r,B07,List.map_append]
theorem B08 {nm:List V} {v hs:List Nat} {h a:Nat} (h8:h < 9223372036854775808):C0z (C0A nm v h hs a)=(A8J v h hs a).map nv:=by
 have e1:WU (R2 (h:Int))=(h:Int):=by rw [T9 (by omega) (by omega),B7r (by omega)]
 show B5u (v.map nv)++(leV 8 (WU (R2 (h:Int)))++((hs.map nv)++leV 4 (a:Int)))=_
 rw [e1,B2D,A1r,A1r]
 simp [A8J]
theorem B2E (v:List Nat) (h:Nat) (hs:List Nat) (a:Nat):v.length < (A8J v h hs a).length∧(A8J v h hs a).length≤v.length+hs.length+21:=by
 have:=B2C v.length
 have:1≤(A41 v.length).length∧(A41 v.length).length≤9:=by
  rw [this];split
  ·omega
  ·split
   ·omega
   ·split<;>omega
 simp only [A8J,C3p,A3w];omega
def B7L (nm:List V) (e:V):Prop:=∃ v h hs a,e=C0A nm v h hs a∧Byt v∧Byt hs∧v.length≤200∧hs.length=32∧h≤1000000000∧a < 4294967296
theorem B7L.len {nm:List V} {e:V} (h:B7L nm e):∃ ns,C0z e=ns.map nv∧Byt ns∧ns.length≤260:=by
 obtain ⟨v,h,hs,a,rfl,h1,h2,h3,h4,h5,h6⟩:=h
 have:=B2E v h hs a
 refine ⟨A8J v h hs a,B08 (by omega),?_,by omega⟩
 unfold A8J
 exact Byt.app.2 ⟨Byt.app.2 ⟨B2B,h1⟩,Byt.app.2 ⟨A18 _ _,Byt.app.2 ⟨h2,A18 _ _⟩⟩⟩
def two (f:V→V→Bool):List V→Bool
 | [a,b]=>f a b
 | _=>false
def c0:V:=.l [.l [.i 0,.n],.i 0,.b false]
variable {R:Type}
variable {R:Type}
theorem B8B {l:V} {a r:List V} {x:V} (h:l.els=a++x::r):l.nth ((a.length:Nat):Int).toNat=x:=by
 unfold V.nth
 rw [h];simp
end Go.Vm
namespace Go.Vm.Wd
open Go.RowKit
def L3 (n:Nat):Nat:=if n=0 then 0 else n.log2+1
def nd (x:Nat):Nat:=(L3 x+15) / 16
def bsz (a:Nat):Nat:=(L3 a+7) / 8
def C23 (a:Nat):Nat:=if bsz a < 3 then a * 256 ^ (3 - bsz a) else a / 256 ^ (bsz a - 3)
def byt (m x i:Nat):Int:=((x / 256 ^ (m - 1 - i) % 256:Nat):Int)
def szC (a:Nat):Nat:=if 8388608≤C23 a then bsz a+1 else bsz a
def keep (a:Nat):Nat:=if szC a≤3 then a else a / 256 ^ (szC a - 3) * 256 ^ (szC a - 3)
end Go.Vm.Wd
namespace Go.Vm.Wd
open Go.RowKit
variable {R:Type}
end Go.Vm.Wd
namespace Go.Vm.Wd
open Go.RowKit
variable {R:Type}
theorem A19 (x:Int):ieq x 1=(x == 1):=by
 rw [Bool.eq_iff_iff,Q9];simp
end Go.Vm.Wd
namespace Go.Vm.Wd
open Go.RowKit
variable {R:Type}
def p0 (i:Int) (k:Option R):Option R:=bif J1 0 i then k else none
end Go.Vm.Wd
namespace Go.Vm.Wd
open Go.RowKit
variable {R:Type}
end Go.Vm.Wd
namespace Go.Vm
open Go.RowKit
variable {P:Program} {T:TT} {R:Type} {c:F1} {e e':A8} {of:Nat→Option Ob}
structure REN (e e':A8) (ρ:Nat→Nat) (τ:Nat→Nat→Option Nat) (D:Nat→Prop):Prop where
 w:e'.w=e.w
 S:∀ b i,e'.S b i↔e.S b i
 use:∀ id,D id→e.U id→e'.U (ρ id)
 ι:∀ id,D id→e.U id→e'.ι (ρ id)=e.ι id
 ty:∀ id,D id→e.U id→e'.ty (ρ id)=e.ty id
 ln:∀ id,D id→e.U id→e'.ln (ρ id)=e.ln id
 bn0:∀ id,D id→e.U id→e.bn id=0→e'.bn (ρ id)=0
 ver:∀ id ver v,D id→e.U id→τ id ver=some v→0 < ver→ver≤e.bn id→0 < v∧v≤e'.bn (ρ id)∧(e'.bn (ρ id)=v→e.bn id=ver)
 G:∀ id a o b,D id→e.U id→e.ι id=some (a,o)→e.G a b→e'.G a b
variable {ρ:Nat→Nat} {τ:Nat→Nat→Option Nat} {D:Nat→Prop}
theorem REN.fz (h:REN e e' ρ τ D) {a:Addr} {ds:List Value} (q:Fz e a ds):Fz e' a ds:=⟨q.1,fun j y hj=>by
 obtain ⟨p1,p2⟩:=q.2 j y hj
 rw [h.w];exact ⟨p1,(h.S _ _).2 p2⟩⟩
variable {P:Program} {T:TT} {R:Type} {c:F1} {e:A8} {of:Nat→Option Ob}
def B2F (P:Program) (T:TT) (f:FuncId) (s:N9):Prop :=
 ∀ (c:F1) (e:A8) (of:Nat→Option Ob) (args:List A) (vals:Array Value) (nx:Nat) (out:M8),A5 T c e of→s args of nx=some out→(∀ id,nx≤id→id < out.nx→¬ e.U id)→P3 T e args vals.toList→B9 P (callFunc f vals) e.w (W2 T c e of nx out)
theorem B2F.same {f:FuncId} {s s':N9} (hs:B2F P T f s) (h:∀ (c:F1) (e:A8) (of:Nat→Option Ob) (args:List A) (vals:List Value) (nx:Nat) (out:M8),A5 T c e of→P3 T e args vals→s' args of nx=some out→s args of nx=some out):B2F P T f s' :=
 fun c e of args vals nx out hos hr hu hv=>hs c e of args vals nx out hos (h c e of args _ nx out hos hv hr) hu hv
variable {P:Program} {T:TT} {c:F1} {e eb:A8} {of of':Nat→Option Ob}
variable {R:Type}
variable {R:Type}
def bd3 (lo hi:Int) (n:Nat) (k:Option R):Option R:=bif J1 0 lo&&J1 lo hi&&J1 hi n then k else none
def mxO (s:V) (xs:List V) (K:V→Nat→Nat→Option R):Option R :=
 bd3 (0:Nat) 64 xs.length <| bif Nat.ble (0+0+64) xs.length then (bif Nat.ble 64 ((xs.drop (0+0)).take 64).length then bd3 64 (xs.length:Nat) xs.length <| K (B5g s (.l ((xs.drop (0+0)).take 64))) (0+64) (((xs.length:Nat):Int) - 64).toNat else none) else none
def mxW (s:V) (xs:List V) (off q:Nat) (K:V→Nat→Nat→Option R):Option R :=
 bd3 (0:Nat) 64 q <| bif Nat.ble (off+0+64) xs.length then (bif Nat.ble 64 ((xs.drop (off+0)).take 64).length then bd3 64 (q:Nat) q <| K (B5g s (.l ((xs.drop (off+0)).take 64))) (off+64) (((q:Nat):Int) - 64).toNat else none) else none
def hm0 (st:V) (xs:List V) (K:V→Nat→Nat→Option R) (kx:Option R):Option R:=ln xs.length <| bif E8 0 (xs.length:Nat) then mxO st xs K else kx
def hm1 (st:V) (xs:List V) (o2 q2:Nat) (K:V→Nat→Nat→Option R) (kx:Option R):Option R :=
 bif Nat.ble (o2+q2) xs.length then (ln ((xs.drop o2).take q2).length <| bif E8 0 (((xs.drop o2).take q2).length:Nat) then mxW st xs o2 q2 K else kx) else none
def hbV (n:Int) (j:Nat):V:=.i (IntKind.wrap .u8 (n.fdiv (2 ^ (8 * j))))
def hs4 (j:Nat) (n:Int) (h:V):V:=(((h.put (4 * j) (hbV n 3)).put (4 * j+1) (hbV n 2)).put (4 * j+2) (hbV n 1)).put (4 * j+3) (.i (IntKind.wrap .u8 n))
def hs8 (v:V):Nat→Nat→V→V
 | 0,_,h=>h
 | m+1,j,h=>hs8 v m (j+1) (hs4 j (elV v j) h)
variable {R:Type}
theorem A3Y {d:Nat} {S:S8} {L:List Nat} (h:L≠[]):A0s (d+1) S L=A0s d (B7q S (L.take 64)) (L.drop 64):=by
 cases L with
 | nil=>exact absurd rfl h
 | cons a r=>rfl
theorem A5i:∀ (a b:Nat) (S:S8) (X Y:List Nat),X.length=64 * a→A0s (a+b) S (X++Y)=A0s b (A0s a S X) Y:=by
 intro a
 induction a with
 | zero =>
  intro b S X Y h
  have:X=[]:=List.length_eq_zero_iff.1 (by omega)
  subst this
  rw [Nat.zero_add];rfl
 | succ a ih =>
  intro b S X Y h
  have hne:X≠[]:=by intro q;subst q;simp at h
  have hne2:X++Y≠[]:=by intro q;exact hne (List.append_eq_nil_iff.1 q).1
  rw [show a+1+b=(a+b)+1 by omega,A3Y hne2,A3Y hne,List.take_append_of_le_length (by omega),List.drop_append_of_le_length (by omega)]
  exact ih b _ _ _ (by rw [List.length_drop];omega)
theorem A8K:∀ (a:Nat) (S:S8) (X Y:List Nat),X.length=64 * a→A0s a S (X++Y)=A0s a S X:=by
 intro a S X Y h
 have:=A5i a 0 S X Y h
 rw [Nat.add_zero] at this
 rw [this];rfl
theorem B2G {X Y:List Nat} {a:Nat} (b:Nat) (h:X.length=a):(X++Y).drop (a+b)=Y.drop b:=by
 subst h
 rw [List.drop_append,List.drop_eq_nil_of_le (by omega)];simp
theorem B2H {X Y:List Nat} {a:Nat} (b:Nat) (h:X.length=a):(X++Y).take (a+b)=X++Y.take b:=by
 subst h
 rw [List.take_append,List.take_of_length_le (by omega)];simp
structure B2I (C:List Nat) (S:S8) (B:List Nat):Prop where
 s:S=A0s (C.length / 64) s0N (C.take (64 * (C.length / 64)))
 r:B=C.drop (64 * (C.length / 64))
theorem B2I.len {C B:List Nat} {S:S8} (h:B2I C S B):B.length=C.length % 64:=by
 rw [h.r,List.length_drop];omega
theorem B2I.add {C B D:List Nat} {S:S8} (h:B2I C S B):B2I (C++D) (A0s ((B++D).length / 64) S (B++D)) ((B++D).drop (64 * ((B++D).length / 64))):=by
 have hl:=h.len
 have hC:C.take (64 * (C.length / 64))++B=C:=by rw [h.r,List.take_append_drop]
 have hX:(C.take (64 * (C.length / 64))).length=64 * (C.length / 64):=by rw [List.length_take];omega
 have hn:(C++D).length / 64=C.length / 64+(B++D).length / 64:=by
  rw [C3p,C3p,hl];omega
 have hCD:C++D=C.take (64 * (C.length / 64))++(B++D):=by rw [← List.append_assoc,hC]
 have hq:(B++D).take (64 * ((B++D).length / 64))++(B++D).drop (64 * ((B++D).length / 64))=B++D:=List.take_append_drop _ _
 have hql:((B++D).take (64 * ((B++D).length / 64))).length=64 * ((B++D).length / 64):=by rw [List.length_take];omega
 refine ⟨?_,?_⟩
 ·have e1:(C++D).take (64 * ((C++D).length / 64))=C.take (64 * (C.length / 64))++(B++D).take (64 * ((B++D).length / 64)):=by
   rw [hn,Nat.mul_add]
   conv=>lhs;rw [hCD]
   exact B2H _ hX
  rw [e1,hn,A5i _ _ _ _ _ hX,← h.s]
  have:=A8K _ S _ ((B++D).drop (64 * ((B++D).length / 64))) hql
  rw [hq] at this
  exact this
 ·rw [hn,Nat.mul_add]
  conv=>rhs;rw [hCD]
  exact (B2G _ hX).symm
variable {R:Type}
variable {R:Type}
theorem B09 {y:V} (h:(Vm.D.slice (.int .u8)).has y):∃ D:List Nat,y.els=D.map nv∧∀ a∈D,a < 256:=by
 rcases h with rfl | ⟨ys,rfl,hy⟩
 ·exact ⟨[],rfl,fun a ha=>by cases ha⟩
 ·obtain ⟨ns,rfl,hn⟩:=u8s hy
  exact ⟨ns,rfl,hn⟩
variable {R:Type}
variable {R:Type}
variable {R:Type}
namespace Wd
end Wd
namespace Wd
end Wd
namespace Wd
end Wd
variable {T:TT} {P:Program} {c:F1} {e eb:A8} {of of':Nat→Option Ob}
variable {R:Type}
variable {R:Type}
variable {R:Type}
theorem Y9 (a b:Int):E8 a b=decide (a < b):=by simp [E8]
def B7M (x:V):Bool:=decide (300 < (x.nth 1).els.length)
def B8C (t:V):Bool:=decide (12 < (t.nth 1).els.length)||decide (12 < (t.nth 2).els.length)||(t.nth 1).els.any B7M||(t.nth 2).els.any B7M
def gtr (b:Nat):List V→List Rs
 | [t]=>[.d b (.b (B8C t))]
 | _=>[]
variable {T:TT} {P:Program} {c:F1} {e:A8} {of of':Nat→Option Ob}
variable {R:Type}
variable {R:Type}
variable {R:Type}
variable {R:Type}
theorem A3Z:∀ (x y:List V),sLt x y=!V4 y x:=by
 intro x
 induction x with
 | nil=>intro y;cases y<;>rfl
 | cons a x ih =>
  intro y
  cases y with
  | nil=>rfl
  | cons b y =>
   simp only [sLt,V4,ih]
   by_cases h1:b.int < a.int
   ·have e1:E8 b.int a.int=true:=by simp [E8,h1]
    have e2:E8 a.int b.int=false:=by simp [E8];omega
    have e3:ieq a.int b.int=false:=by rw [← Bool.not_eq_true,Q9];omega
    simp [e1,e2,e3]
   ·have e1:E8 b.int a.int=false:=by simp [E8];omega
    by_cases h2:a.int < b.int
    ·have e2:E8 a.int b.int=true:=by simp [E8,h2]
     simp [e1,e2]
    ·have e2:E8 a.int b.int=false:=by simp [E8];omega
     have e3:ieq a.int b.int=true:=by rw [Q9];omega
     simp [e1,e2,e3]
theorem B1a:∀ x:List V,V4 x x=true:=by
 intro x
 induction x with
 | nil=>rfl
 | cons a x ih =>
  have e1:E8 a.int a.int=false:=by simp [E8]
  simp only [V4,e1,cond_false,ih]
theorem A7q:∀ x y:List V,V4 x y=true∨V4 y x=true:=by
 intro x
 induction x with
 | nil=>intro y;exact .inl rfl
 | cons a x ih =>
  intro y
  cases y with
  | nil=>exact .inr rfl
  | cons b y =>
   simp only [V4]
   by_cases h1:a.int < b.int
   ·left;have:E8 a.int b.int=true:=by simp [E8,h1]
    rw [this];rfl
   ·have e1:E8 a.int b.int=false:=by simp [E8];omega
    by_cases h2:b.int < a.int
    ·right;have:E8 b.int a.int=true:=by simp [E8,h2]
     rw [this];rfl
    ·have e2:E8 b.int a.int=false:=by simp [E8];omega
     simp only [e1,e2,cond_false]
     exact ih y
theorem A97:∀ {x y z:List V},V4 x y=true→V4 y z=true→V4 x z=true:=by
 intro x
 induction x with
 | nil=>intro y z _ _;rfl
 | cons a x ih =>
  intro y z h1 h2
  cases y with
  | nil=>cases h1
  | cons b y=>cases z with
   | nil=>cases h2
   | cons c z =>
    simp only [V4] at h1 h2 ⊢
    simp only [Y9] at h1 h2 ⊢
    by_cases a1:a.int < b.int
    ·by_cases b1:b.int < c.int
     ·have:a.int < c.int:=by omega
      simp [this]
     ·by_cases b2:c.int < b.int
      ·simp [b1,b2] at h2
      ·have:a.int < c.int:=by omega
       simp [this]
    ·by_cases a2:b.int < a.int
     ·simp [a1,a2] at h1
     ·simp only [a1,a2,decide_false,cond_false] at h1
      by_cases b1:b.int < c.int
      ·have:a.int < c.int:=by omega
       simp [this]
      ·by_cases b2:c.int < b.int
       ·simp [b1,b2] at h2
       ·simp only [b1,b2,decide_false,cond_false] at h2
        have c1:¬ a.int < c.int:=by omega
        have c2:¬ c.int < a.int:=by omega
        simp only [c1,c2,decide_false,cond_false]
        exact ih h1 h2
def A6i (x:List V):Prop:=∃ ns:List Nat,x=ns.map nv
theorem A5j {x y:List V} (hx:A6i x) (hy:A6i y) (h1:V4 x y=true) (h2:V4 y x=true):x=y:=by
 obtain ⟨ns,rfl⟩:=hx
 obtain ⟨ms,rfl⟩:=hy
 induction ns generalizing ms with
 | nil=>cases ms with
  | nil=>rfl
  | cons b ms=>cases h2
 | cons a ns ih=>cases ms with
  | nil=>cases h1
  | cons b ms =>
   simp only [List.map_cons,V4,nv,V.int,Y9] at h1 h2
   by_cases a1:(a:Int) < b
   ·have:¬ (b:Int) < a:=by omega
    simp [a1,this] at h2
   ·by_cases a2:(b:Int) < a
    ·simp [a1,a2] at h1
    ·simp only [a1,a2,decide_false,cond_false] at h1 h2
     have:a=b:=by omega
     subst this
     rw [List.map_cons,List.map_cons,ih ms h1 h2]
def NmV (x:V):Prop:=∃ nm,x=.s nm∧A6i nm
def StS (xs:List V):Prop:=xs.Pairwise (fun a b=>sLt a.els b.els=true)∧∀ x∈xs,NmV x
def A1G (nm:List V):List V→List V
 | []=>[.s nm]
 | x::r=>bif sLt x.els nm then x::A1G nm r else bif N3 x.els nm then x::r else .s nm::x::r
theorem B2J {nm:List V}:∀ {xs:List V},StS xs→V.s nm∈xs→A1G nm xs=xs:=by
 intro xs
 induction xs with
 | nil=>intro _ h;cases h
 | cons x r ih =>
  intro hs h
  obtain ⟨h1,h2⟩:=hs
  rw [List.pairwise_cons] at h1
  rcases List.mem_cons.1 h with rfl | h
  ·have:sLt (V.s nm).els nm=false:=by rw [A3Z,show (V.s nm).els=nm from rfl,B1a];rfl
   have e2:N3 (V.s nm).els nm=true:=(N4 _ _).2 rfl
   simp only [A1G,this,cond_false,e2,cond_true]
  ·have:sLt x.els nm=true:=h1.1 _ h
   simp only [A1G,this,cond_true]
   rw [ih ⟨h1.2,fun y hy=>h2 y (by simp [hy])⟩ h]
theorem B2K {nm:List V}:∀ {xs:List V},(∀ x∈xs,NmV x)→V.s nm ∉ xs→A1G nm xs=A3u (.s nm) xs:=by
 intro xs
 induction xs with
 | nil=>intro _ _;rfl
 | cons x r ih =>
  intro hs h
  simp only [List.mem_cons,not_or] at h
  obtain ⟨nx,rfl,_⟩:=hs x (by simp)
  have hne:N3 (V.s nx).els nm=false:=by
   rw [← Bool.not_eq_true,N4]
   intro q;exact h.1 (by rw [← show nx=nm from q])
  simp only [A1G,A3u,A3Z,hne,cond_false,show (V.s nm).els=nm from rfl]
  cases V4 nm (V.s nx).els
  ·simp only [Bool.not_false,cond_true,cond_false]
   rw [ih (fun y hy=>hs y (by simp [hy])) h.2]
  ·rfl
theorem B2L {a x:V}:∀ {l:List V},x∈A3u a l↔x=a∨x∈l:=by
 intro l
 induction l with
 | nil=>simp [A3u]
 | cons b r ih =>
  simp only [A3u]
  cases V4 a.els b.els
  ·simp only [cond_false,List.mem_cons,ih]
   constructor
   ·rintro (h | h | h)<;>simp [h]
   ·rintro (h | h | h)<;>simp [h]
  ·simp
theorem B1b (a:V):∀ l:List V,(A3u a l).Perm (a::l):=by
 intro l
 induction l with
 | nil=>exact List.Perm.refl _
 | cons b r ih =>
  simp only [A3u]
  cases V4 a.els b.els
  ·exact (ih.cons b).trans (List.Perm.swap _ _ _)
  ·exact List.Perm.refl _
theorem V9:∀ l:List V,(A2C l).Perm l:=by
 intro l
 induction l with
 | nil=>exact List.Perm.refl _
 | cons a r ih=>exact (B1b a _).trans (ih.cons a)
theorem A7r (a:V):∀ l:List V,l.Pairwise (fun x y=>V4 x.els y.els=true)→(A3u a l).Pairwise (fun x y=>V4 x.els y.els=true):=by
 intro l
 induction l with
 | nil=>intro _;exact List.pairwise_singleton _ _
 | cons b r ih =>
  intro h
  rw [List.pairwise_cons] at h
  simp only [A3u]
  cases hab:V4 a.els b.els
  ·rw [cond_false,List.pairwise_cons]
   refine ⟨fun x hx=>?_,ih h.2⟩
   rcases B2L.1 hx with rfl | hx
   ·rcases A7q x.els b.els with q | q
    ·rw [q] at hab;cases hab
    ·exact q
   ·exact h.1 x hx
  ·rw [cond_true,List.pairwise_cons]
   refine ⟨fun x hx=>?_,List.pairwise_cons.2 h⟩
   rcases List.mem_cons.1 hx with rfl | hx
   ·exact hab
   ·exact A97 hab (h.1 x hx)
theorem A2a:∀ l:List V,(A2C l).Pairwise (fun x y=>V4 x.els y.els=true):=by
 intro l
 induction l with
 | nil=>exact List.Pairwise.nil
 | cons a r ih=>exact A7r a _ ih
theorem A8L {l m:List V} (h:l.Perm m) (hn:∀ x∈l,NmV x):A2C l=A2C m:=by
 have hp:(A2C l).Perm (A2C m):=((V9 l).trans h).trans (V9 m).symm
 refine List.Perm.eq_of_pairwise (le:=fun a b=>V4 a.els b.els=true) (fun a b ha hb h1 h2=>?_) (A2a l) (A2a m) hp
 obtain ⟨na,rfl,h3⟩:=hn a ((V9 l).mem_iff.1 ha)
 obtain ⟨nb,rfl,h4⟩:=hn b (h.mem_iff.2 ((V9 m).mem_iff.1 hb))
 rw [A5j h3 h4 h1 h2]
theorem A7s {nm:List V} {x:V}:∀ {xs:List V},x∈A1G nm xs→x=.s nm∨x∈xs:=by
 intro xs
 induction xs with
 | nil=>intro h;simpa [A1G] using h
 | cons y r ih =>
  intro h
  simp only [A1G] at h
  cases c1:sLt y.els nm with
  | true =>
   rw [c1,cond_true] at h
   rcases List.mem_cons.1 h with rfl | h
   ·exact .inr (by simp)
   ·exact (ih h).imp id (fun q=>by simp [q])
  | false =>
   rw [c1,cond_false] at h
   cases c2:N3 y.els nm with
   | true=>rw [c2,cond_true] at h;exact .inr h
   | false =>
    rw [c2,cond_false] at h
    rcases List.mem_cons.1 h with rfl | h
    ·exact .inl rfl
    ·exact .inr h
theorem B8D {x y:List V} (hx:A6i x) (hy:A6i y) (h1:V4 x y=true) (h2:x≠y):sLt x y=true:=by
 rw [A3Z]
 cases h:V4 y x with
 | false=>rfl
 | true=>exact absurd (A5j hx hy h1 h) h2
theorem B8E {x y z:List V} (h1:sLt x y=true) (h2:sLt y z=true):sLt x z=true:=by
 rw [A3Z] at *
 simp only [Bool.not_eq_true'] at *
 cases h:V4 z x with
 | false=>rfl
 | true =>
  rcases A7q y z with q | q
  ·have:=A97 q h
   rw [this] at h1;cases h1
  ·rw [q] at h2;cases h2
theorem B5x {nm:List V} (hn:A6i nm):∀ {xs:List V},StS xs→StS (A1G nm xs):=by
 intro xs
 induction xs with
 | nil=>intro _;exact ⟨List.pairwise_singleton _ _,fun x hx=>by simp only [A1G,List.mem_singleton] at hx;subst hx;exact ⟨nm,rfl,hn⟩⟩
 | cons y r ih =>
  intro hs
  have hm:∀ x∈A1G nm (y::r),NmV x:=fun x hx=>by
   rcases A7s hx with rfl | hx
   ·exact ⟨nm,rfl,hn⟩
   ·exact hs.2 x hx
  refine ⟨?_,hm⟩
  obtain ⟨h1,h2⟩:=hs
  have h1':=h1
  rw [List.pairwise_cons] at h1
  simp only [A1G]
  obtain ⟨ny,rfl,hny⟩:=h2 y (by simp)
  cases c1:sLt (V.s ny).els nm with
  | true =>
   rw [cond_true,List.pairwise_cons]
   refine ⟨fun x hx=>?_,(ih ⟨h1.2,fun z hz=>h2 z (by simp [hz])⟩).1⟩
   rcases A7s hx with rfl | hx
   ·exact c1
   ·exact h1.1 x hx
  | false =>
   rw [cond_false]
   cases c2:N3 (V.s ny).els nm with
   | true=>exact h1'
   | false =>
    rw [cond_false,List.pairwise_cons]
    have hlt:sLt nm (V.s ny).els=true:=by
     rw [A3Z] at c1
     simp only [Bool.not_eq_false'] at c1
     exact B8D hn hny c1 (fun q=>by
      have:N3 (V.s ny).els nm=true:=(N4 _ _).2 q.symm
      rw [this] at c2;cases c2)
    refine ⟨fun x hx=>?_,h1'⟩
    rcases List.mem_cons.1 hx with rfl | hx
    ·exact hlt
    ·exact B8E hlt (h1.1 x hx)
abbrev nmE (e:V):List V:=(e.nth 0).els
def A1S (xs l:List V):List V:=l.foldl (fun xs e=>A1G (nmE e) xs) xs
def A3c (nm:List V) (l:List V):List V:=l.filter fun e=>N3 (nmE e) nm
variable {R:Type}
variable {R:Type}
variable {T:TT} {P:Program}
variable {R:Type}
theorem B2M:∀ {l xs:List V},StS xs→(∀ e∈l,A6i (nmE e))→StS (A1S xs l):=by
 intro l
 induction l with
 | nil=>intro xs h _;exact h
 | cons e r ih=>intro xs h hn;exact ih (xs:=A1G (nmE e) xs) (B5x (hn e (by simp)) h) (fun x hx=>hn x (by simp [hx]))
variable {R:Type}
variable {R:Type}
theorem B2N {k kv:V} (hne:P7 k kv=false):∀ es:List (V×V×Bool),P6 kv (A0h k es)=P6 kv es:=by
 have hk:k≠kv:=fun q=>by rw [(F0 _ _).2 q] at hne;cases hne
 intro es
 induction es with
 | nil=>rfl
 | cons p r ih =>
  simp only [A0h,P6]
  cases h:P7 p.1 k with
  | true =>
   have:p.1=k:=(F0 _ _).1 h
   rw [cond_true,ih,this,hne,Bool.false_or]
  | false=>simp only [cond_false,P6,ih]
theorem A7t {k kv:V} (hne:P7 k kv=false):∀ es:List (V×V×Bool),A0W kv (A0h k es)=A0W kv es∧A1f kv (A0h k es)=A1f kv es:=by
 intro es
 induction es with
 | nil=>exact ⟨rfl,rfl⟩
 | cons p r ih =>
  simp only [A0h,A0W,A1f]
  cases h:P7 p.1 k with
  | true =>
   have:p.1=k:=(F0 _ _).1 h
   rw [cond_true,ih.1,ih.2,this,hne];exact ⟨rfl,rfl⟩
  | false=>simp only [cond_false,A0W,A1f,ih.1,ih.2,and_self]
theorem A7u {k kv x:V} {q:Bool} {es:List (V×V×Bool)}:P6 kv (A04 k x q es)=(P7 k kv||P6 kv es):=by
 show (P7 k kv||P6 kv (A0h k es))=_
 cases h:P7 k kv with
 | true=>rfl
 | false=>rw [B2N h]
theorem B2O {k kv x:V} {q:Bool} {es:List (V×V×Bool)}:A0W kv (A04 k x q es)=(bif P7 k kv then x else A0W kv es):=by
 show (bif P7 k kv then x else A0W kv (A0h k es))=_
 cases h:P7 k kv with
 | true=>rfl
 | false=>rw [(A7t h es).1]
theorem B2P {k kv x:V} {q:Bool} {es:List (V×V×Bool)}:A1f kv (A04 k x q es)=(bif P7 k kv then q else A1f kv es):=by
 show (bif P7 k kv then q else A1f kv (A0h k es))=_
 cases h:P7 k kv with
 | true=>rfl
 | false=>rw [(A7t h es).2]
theorem A30 {kv:V}:∀ {es:List (V×V×Bool)},P6 kv es=true↔kv∈es.map (·.1):=by
 intro es
 induction es with
 | nil=>simp [P6]
 | cons p r ih =>
  simp only [P6,Bool.or_eq_true,F0,ih,List.map_cons,List.mem_cons]
  exact ⟨fun h=>h.imp (fun q=>q.symm) id,fun h=>h.imp (fun q=>q.symm) id⟩
theorem A5k {kv:V} {es:List (V×V×Bool)} (h:P6 kv es=false):A0h kv es=es:=by
 rw [M5]
 refine X8 (fun p hp q=>?_)
 have:P6 kv es=true:=A30.2 (List.mem_map.2 ⟨p,hp,q⟩)
 rw [this] at h;cases h
theorem B1c {kv:V}:∀ {es:List (V×V×Bool)},(es.map (·.1)).Nodup→P6 kv es=true→(kv::(A0h kv es).map (·.1)).Perm (es.map (·.1)):=by
 intro es
 induction es with
 | nil=>intro _ h;cases h
 | cons p r ih =>
  intro hn h
  simp only [List.map_cons,List.nodup_cons] at hn
  simp only [A0h]
  cases hb:P7 p.1 kv with
  | true =>
   have hp:p.1=kv:=(F0 _ _).1 hb
   have:P6 kv r=false:=by
    cases hh:P6 kv r with
    | false=>rfl
    | true=>exact absurd (hp ▸ A30.1 hh) hn.1
   rw [cond_true,A5k this,List.map_cons,hp]
  | false =>
   simp only [P6,hb,Bool.false_or] at h
   rw [cond_false,List.map_cons,List.map_cons]
   exact (List.Perm.swap _ _ _).trans ((ih hn.2 h).cons _)
structure A8M (p:List V) (es:List (V×V×Bool)):Prop where
 nd:(es.map (·.1)).Nodup
 ks:A2C (es.map (·.1))=A1S [] p
 gd:∀ q∈es,NmV q.1
 has:∀ nm,P6 (.s nm) es=!(A3c nm p).isEmpty
 val:∀ nm,P6 (.s nm) es=true→A0W (.s nm) es=.l (A3c nm p)
 own:∀ kv,A1f kv es=true
theorem A5l (nm:List V) (p:List V) (x:V):A3c nm (p++[x])=bif N3 (nmE x) nm then A3c nm p++[x] else A3c nm p:=by
 simp only [A3c,List.filter_append,List.filter_cons,List.filter_nil]
 cases N3 (nmE x) nm<;>simp
theorem A8M.nil:A8M [] []:=⟨List.nodup_nil,rfl,fun q h=>(by cases h),fun nm=>rfl,fun nm h=>(by cases h),fun kv=>rfl⟩
theorem B2Q (a b:List V):P7 (.s a) (.s b)=N3 a b:=rfl
theorem A8M.mem {p:List V} {es:List (V×V×Bool)} (h:A8M p es) {k:V}:k∈A1S [] p↔P6 k es=true:=by
 rw [← h.ks,A30]
 exact (V9 _).mem_iff
theorem A8M.snoc {p:List V} {es:List (V×V×Bool)} (h:A8M p es) {x:V} (hx:A6i (nmE x)) (hp:∀ e∈p,A6i (nmE e)):A8M (p++[x]) (A04 (.s (nmE x)) (.l (A3c (nmE x) p++[x])) true es):=by
 have hst:StS (A1S [] p):=B2M ⟨List.Pairwise.nil,fun _ h=>by cases h⟩ hp
 have hnames:A1S [] (p++[x])=A1G (nmE x) (A1S [] p):=by simp [A1S,List.foldl_append]
 have hkeys:∀ q∈(A04 (.s (nmE x)) (.l (A3c (nmE x) p++[x])) true es).map (·.1),NmV q:=by
  intro q hq
  simp only [A04,List.map_cons,List.mem_cons] at hq
  rcases hq with rfl | hq
  ·exact ⟨_,rfl,hx⟩
  ·obtain ⟨y,hy,rfl⟩:=List.mem_map.1 hq
   rw [M5] at hy
   exact h.gd y (List.mem_filter.1 hy).1
 refine ⟨A11 h.nd,?_,fun q hq=>hkeys q.1 (List.mem_map_of_mem hq),fun nm=>?_,fun nm hh=>?_,fun kv=>?_⟩
 ·rw [hnames]
  cases hh:P6 (.s (nmE x)) es with
  | true =>
   rw [B2J hst (h.mem.2 hh),← h.ks]
   exact A8L (B1c h.nd hh) hkeys
  | false =>
   rw [B2K hst.2 (fun q=>by rw [h.mem.1 q] at hh;cases hh)]
   show A3u (.s (nmE x)) (A2C ((A0h (.s (nmE x)) es).map (·.1)))=_
   rw [A5k hh,h.ks]
 ·rw [A7u,h.has,A5l,B2Q]
  cases N3 (nmE x) nm with
  | true=>simp
  | false=>rfl
 ·rw [B2O,A5l,B2Q]
  rw [A7u,B2Q] at hh
  cases hq:N3 (nmE x) nm with
  | true=>rw [cond_true,cond_true,(N4 _ _).1 hq]
  | false =>
   rw [hq,Bool.false_or] at hh
   rw [cond_false,cond_false,h.val nm hh]
 ·rw [B2P,h.own]
  cases P7 (.s (nmE x)) kv<;>rfl
variable {R:Type}
variable {R:Type}
variable {P:Program} {T:TT} {c:F1} {e:A8} {of:Nat→Option Ob}
variable {a kt st el:Nat} {es es':List (V×V×Bool)} {bs:List Nat}
def B8F (T:TT) (e:A8) (kt st:Nat) (es:List (V×V×Bool)) (ms:List MapEntry):Prop :=
 es.length=ms.length∧∀ (i:Nat) k x q (m:MapEntry),es[i]? = some (k,x,q)→ms[i]? = some m→E2 T e (.v kt k) m.key∧RV T e [st] [x] [m.val]
variable {P:Program} {T:TT} {c:F1} {e:A8} {of:Nat→Option Ob}
theorem A5.alloc (h:A5 T c e of) (g:Go.Obj):A5 T c { e with w:=e.w.alloc g } of∧e.le { e with w:=e.w.alloc g }:=by
 have hsz:(e.w.alloc g).heap.size=e.w.heap.size+1:=C6 _ _
 have old:∀ j b q,(of j).isSome→e.ι j=some (b,q)→b < e.w.heap.size:=fun j b q hj hb=>by
  obtain ⟨x,hx⟩:=C3s.1 hj
  exact h.lt _ _ _ (h.ok _ _ hx).use hb
 have hle:e.le { e with w:=e.w.alloc g }:=by
  refine ⟨fun b i hs=>⟨hs,fun x hx=>?_⟩,fun _ hj=>hj,fun j hj _=>⟨rfl,rfl,fun b o hb=>C3 (B5 _ _ (h.lt _ _ _ hj hb))⟩,fun _ _ q=>q,fun _ _=>Nat.le_refl _,fun _ _=>rfl,by show _≤(e.w.alloc g).heap.size;omega,fun b hb=>C3 (B5 _ _ hb)⟩
  rw [← hx];exact C9 (B5 _ _ (h.slt _ _ hs))
 refine ⟨⟨fun j x hj=>(h.ok _ _ hj).keep hle rfl (fun b q hb=>B5 _ _ (old _ _ _ (by rw [hj];rfl) hb)) (fun _ _ _ _ hs=>hs) (fun a o' b _ hG=>⟨hG,B5 _ _ (h.g.lt _ _ hG),fun i hs=>hs⟩),h.sep,h.own,fun id b o hu hb=>?_,fun b i hs=>?_,h.s0,h.snew,h.os,h.tape,h.output,?_,fun k hk hm=>?_,⟨h.g.sep,h.g.uniq,h.g.own,fun a b hG=>?_⟩⟩,hle⟩
 ·show b < (e.w.alloc g).heap.size
  have:=h.lt _ _ _ hu hb;omega
 ·show b < (e.w.alloc g).heap.size
  have:=h.slt _ _ hs;omega
 ·show _≤(e.w.alloc g).heap.size
  have:=h.size;omega
 ·exact (B5 _ _ (by have:=h.size;omega)).trans (h.block k hk hm)
 ·show b < (e.w.alloc g).heap.size
  have:=h.g.lt _ _ hG;omega
open Classical in
variable {P:Program} {T:TT} {c:F1} {e:A8} {of:Nat→Option Ob}
variable {P:Program} {T:TT} {c:F1} {e:A8} {of:Nat→Option Ob}
variable {P:Program} {T:TT} {c:F1} {e:A8} {of:Nat→Option Ob}
variable {R:Type}
theorem B2R (a b:Int):ieq a b=decide (a=b):=by
 by_cases h:a=b
 ·rw [Q9.2 h];simp [h]
 ·simp only [h,decide_false]
  rw [← Bool.not_eq_true,Q9];exact h
theorem A5m {n:Nat} (h:n < 1000000000):R2 (n:Int)=(n:Nat):=T9 (by omega) (by omega)
theorem u8w {n:Int} (h1:0≤n) (h2:n < 256):IntKind.wrap .u8 n=n:=by
 show (if (false&&decide (n % 2 ^ 8 ≥ 2 ^ (8 - 1)))=true then n % 2 ^ 8 - 2 ^ 8 else n % 2 ^ 8)=n
 simp;omega
variable {R:Type}
open Go.RowKit Go.Sort
variable {R:Type}
def C24 (xs:List V):Array Int:=(xs.map V.int).toArray
open Go.RowKit Go.Sort
variable {R:Type}
open Go.RowKit Go.Sort
variable {R:Type}
open Go.RowKit Go.Sort
variable {R:Type}
open Go.RowKit Go.Sort
variable {R:Type}
def B1d {α β:Type} (f:α→β):α→β:=Classical.choose (⟨f,rfl⟩:∃ g,g=f)
theorem A2b {α β:Type} (f:α→β):B1d f=f:=Classical.choose_spec (⟨f,rfl⟩:∃ g,g=f)
structure Sa where
 xs:List V
 a:Int
 b:Int
 c:Int
def Sa.d (s:Sa):Array Int:=C24 s.xs
variable {P:Program} {T:TT}
variable {P:Program} {T:TT} {c:F1} {e:A8} {of:Nat→Option Ob}
variable {a kt st el:Nat} {es es':List (V×V×Bool)}
theorem B8F.mono {e e':A8} (he:e.le e') {ms:List MapEntry} (h:B8F T e kt st es ms):B8F T e' kt st es ms:=⟨h.1,fun i k x q m p1 p2=>⟨(h.2 i k x q m p1 p2).1.mono he,(h.2 i k x q m p1 p2).2.mono he⟩⟩
variable {P:Program} {T:TT} {c:F1} {e eb:A8} {of of':Nat→Option Ob}
section
variable {F:Fence} {n:Nat} {ops opsA:Array Oper} {k:Nat} {Q:Exit→Act→World→Prop} {C:Act→World→Prop}
def B8G (ops:Array Oper) (listed:Array Bool) (j:Nat):Prop:=listed.size=ops.size∧∀ i,i < ops.size→listed.getD i false=decide (i < j)
theorem B8G.next {listed:Array Bool} {j:Nat} (h:B8G ops listed j) (hj:j < ops.size):B8G ops (listed.setIfInBounds j true) (j+1):=by
 refine ⟨by simp [h.1],fun i hi=>?_⟩
 have:=h.2 i hi
 by_cases hij:i=j
 ·subst hij
  simp [Array.getD,h.1,hi]
 ·have e1:(listed.setIfInBounds j true).getD i false=listed.getD i false:=by
   simp [Array.getD,h.1,hi,Array.getElem_setIfInBounds,Ne.symm hij]
  rw [e1,this]
  simp;omega
end
variable {P:Program} {T:TT} {c:F1} {e eb:A8} {of of':Nat→Option Ob}
variable {kt st el:Nat} {es:List (V×V×Bool)}
variable {P:Program} {T:TT} {c:F1} {e eb:A8} {of of':Nat→Option Ob}
variable {P:Program} {T:TT} {c:F1} {e eb:A8} {of of':Nat→Option Ob}
variable {P:Program} {T:TT} {c:F1} {e eb:A8} {of of':Nat→Option Ob}
open Go.ChangeMaps (setBlock)
variable {P:Program} {T:TT} {c:F1} {e eb:A8} {of of':Nat→Option Ob}
theorem A5.add (h:A5 T c e of) {id:Nat} {o:Ob} (hn:of id=none) (ho:OK T e id o) {b0:Nat} (hι:e.ι id=some (b0,0)) (hsep:∀ j b q,(of j).isSome→e.ι j=some (b,q)→b≠b0) (hown:c.w0.heap.size≤b0∨c.M b0) (hG:∀ a,¬ e.G a b0):A5 T c e (D3 of id (some o)):=by
 have ne:∀ j,(D3 of id (some o) j).isSome→j≠id→(of j).isSome:=fun j hj hne=>by rwa [A3 _ _ hne] at hj
 refine ⟨fun j x hj=>?_,fun j k b q b' q' hj hk hb hb' hne=>?_,fun j b q hj hb=>?_,h.lt,h.slt,h.s0,h.snew,h.os,h.tape,h.output,h.size,h.block,⟨fun a b hG' j b' q hj hb=>?_,h.g.uniq,h.g.own,h.g.lt⟩⟩
 ·by_cases A7:j=id
  ·subst A7;rw [upd_same] at hj;cases hj;exact ho
  ·rw [A3 _ _ A7] at hj;exact h.ok _ _ hj
 ·by_cases h1:j=id
  ·subst h1
   rw [hι] at hb;cases hb
   exact (hsep k b' q' (ne k hk (Ne.symm hne)) hb').symm
  ·by_cases h2:k=id
   ·subst h2
    rw [hι] at hb';cases hb'
    exact hsep j b q (ne j hj h1) hb
   ·exact h.sep _ _ _ _ _ _ (ne j hj h1) (ne k hk h2) hb hb' hne
 ·by_cases h1:j=id
  ·subst h1;rw [hι] at hb;cases hb;exact hown
  ·exact h.own _ _ _ (ne j hj h1) hb
 ·by_cases h1:j=id
  ·subst h1;rw [hι] at hb;cases hb;intro q;subst q;exact hG a hG'
  ·exact h.g.sep _ _ hG' _ _ _ (ne j hj h1) hb
open Go.ChangeMaps (setBlock)
variable {P:Program} {T:TT} {c:F1} {e eb:A8} {of of':Nat→Option Ob}
open Go.ChangeMaps (setBlock)
variable {P:Program} {T:TT} {c:F1} {e eb:A8} {of of':Nat→Option Ob}
open Go.ChangeMaps (setBlock)
variable {P:Program} {T:TT} {c:F1} {e eb:A8} {of of':Nat→Option Ob}
open Go.ChangeMaps (setBlock)
variable {P:Program} {T:TT} {c:F1} {e eb:A8} {of of':Nat→Option Ob}
variable {P:Program} {T:TT} {c:F1} {e eb:A8} {of of':Nat→Option Ob}
variable {P:Program} {T:TT} {c:F1} {e eb:A8} {of of':Nat→Option Ob}
variable {P:Program} {T:TT} {c:F1} {e eb:A8} {of of':Nat→Option Ob}
variable {kt st el:Nat} {es:List (V×V×Bool)}
def RO {α:Type} (s:Sem α):Prop:=∀ (P:Program) (w w':World) (x:α),s.run P w=.ok x w'→w'=w
theorem RO.pure {α:Type} (a:α):RO (pure a:Sem α):=fun P w w' x h=>by simp at h;exact h.2.symm
theorem RO.bind {α β:Type} {s:Sem α} {k:α→Sem β} (h1:RO s) (h2:∀ a,RO (k a)):RO (s >>= k):=fun P w w' x h=>by
 simp only [Sem.run_bind] at h
 cases hs:s.run P w with
 | ok a w1=>rw [hs] at h;have:=h1 P w w1 a hs;subst this;exact h2 a P _ w' x h
 | halt q w1=>rw [hs] at h;cases h
variable {P:Program} {T:TT} {c:F1} {e eb:A8} {of of':Nat→Option Ob}
variable {kt st el:Nat} {es:List (V×V×Bool)}
variable {P:Program} {T:TT} {c:F1} {e eb:A8} {of of':Nat→Option Ob}
variable {kt st el:Nat} {es:List (V×V×Bool)}
variable {P:Program} {T:TT} {c:F1} {e eb:A8} {of of':Nat→Option Ob}
variable {P:Program} {T:TT}
variable {P:Program} {T:TT} {c:F1} {e eb:A8} {of of':Nat→Option Ob}
variable {P:Program} {T:TT} {c:F1} {e:A8} {of of':Nat→Option Ob}
def A8N:List Nat→Bool
 | []=>true
 | 0::r=>A8N r
 | _=>false
theorem A31:∀ {p:List Nat} {t t' off:Nat},A8N p=true→Pth T t p t' off→off=0:=by
 intro p
 induction p with
 | nil=>intro t t' off _ h;cases h;rfl
 | cons i r ih =>
  intro t t' off hz h
  cases i with
  | succ n=>cases hz
  | zero =>
   cases h with
   | fld _ _ h3=>rw [ih hz h3];rfl
   | idx _ _ h3=>rw [ih hz h3,Nat.zero_mul]
def A2c (T:TT) (L:List Nat) (st pt:Nat):N9:=fun args of nx =>
 match args with
 | [.p id t path]=>match of id with
  | some (.box t0 a false)=>if L.contains t0&&A8N path&&same T st t then
    match atA T a (path++[0]) with
    | some (.p id' _ path')=>if Nat.beq id' id&&A8N path' then some ⟨.t [],[],[id],nx⟩ else none
    | some (.v t1 .n)=>if Nat.beq t1 pt then (match A1k T of pt (.p id pt (path++[0])) (.p id t path) with
     | some (wo,ro)=>some ⟨.t [],wo,id::ro,nx⟩
     | none=>none) else none
    | _=>none
   else none
  | _=>none
 | _=>none
def CCU (P:Program) (f:Nat):Prop:=∀ (b:Nat) (w:World),w.cell? ⟨b,0,none⟩=some (.pointer (some ⟨b,0,none⟩))→Calls P f #[.pointer (some ⟨b,0,none⟩)] w fun e w'=>e=.returned (.tuple #[])∧w'=w
def CCF (P:Program) (f st:Nat):Prop:=∀ (b:Nat) (w:World) (t0 cells:Nat),w.cell? ⟨b,0,none⟩=some (.pointer none)→w.shape? b=some (t0,cells)→0 < cells→liesAt P P.depth t0 (cells / P.cellsOf t0) 0 st 1=true→w.frozen? ⟨b,0,none⟩=false →
 Calls P f #[.pointer (some ⟨b,0,none⟩)] w fun e w'=>e=.returned (.tuple #[])∧w'=w.setCell ⟨b,0,none⟩ (.pointer (some ⟨b,0,none⟩))
theorem B2S {t el:Nat} {d:List Value} (hk:B2 T t=some (.ptr el)) (h:RV T e [t] [.n] d):d=[.pointer none]:=by
 cases h with
 | ptr _ _ h3=>cases h3;rfl
 | nils h1=>rw [hk] at h1;cases h1
 | map h1=>rw [hk] at h1;cases h1
 | func h1=>rw [hk] at h1;cases h1
theorem A8O {t el:Nat} {d:List Value} (hk:B2 T t=some (.slice el)) (h:RV T e [t] [.n] d):d=[.slice none 0 0]:=by
 cases h with
 | nils _ _ h3=>cases h3;rfl
 | ptr h1=>rw [hk] at h1;cases h1
 | map h1=>rw [hk] at h1;cases h1
 | func h1=>rw [hk] at h1;cases h1
theorem B2T:B3 T e (.t []) (.tuple #[]):=⟨#[],rfl,rfl,fun i v x h=>by simp at h⟩
theorem A98 {a:A} {vals:Array Value} (h:P3 T e [a] vals.toList):∃ v,vals=#[v]∧B3 T e a v:=by
 obtain ⟨vals⟩:=vals
 cases h with | cons h1 h2=>cases h2;exact ⟨_,rfl,h1⟩
theorem A8P (hT:F4 T P) {f st pt bt:Nat} {L:List Nat} (hst:B2 T st=some (.struct [pt,bt])) (hpt:B1 T pt=1) (hkp:B2 T pt=some (.ptr st)) (hU:CCU P f) (hF:CCF P f st) (hL:∀ t0,L.contains t0=true→liesAt P P.depth t0 (B1 T t0 / P.cellsOf t0) 0 st 1=true)
  (hen:∀ args w,(callFunc f args).run P w=.ok (.enter f args) w):C0 P T f (A2c T L st pt):=by
 intro c e of of' args vals nx out hos hs hro hu hvals
 unfold A2c at hs
 split at hs<;>try (cases hs;done)
 rename_i id t path
 split at hs<;>try (cases hs;done)
 rename_i t0 a hob
 split at hs<;>try (cases hs;done)
 rename_i hc
 simp only [C3o] at hc
 obtain ⟨⟨c1,c2⟩,c3⟩:=hc
 obtain ⟨v,rfl,hv⟩:=A98 hvals
 obtain ⟨b,off,u1,u2,u3,u4,rfl⟩:=F6 hv
 have:=A31 c2 u4;subst this
 have key:∀ (a1:A),of' id=of id→atA T a (path++[0])=some a1→∃ cs fz d,e.w.heap[b]? = some (.cells cs t0 fz)∧A0y e.w b cs∧cs.size=B1 T t0∧RA T e [a1] d∧(∀ x,d=[x]→e.w.cell? ⟨b,0,none⟩=some x∧0 < cs.size):=by
  intro a1 A7 hat
  obtain ⟨w1,w2,w3,w4,b',cs,ty,fz,g1,g2,g3,g4,g5,g6,rfl⟩:=Q8 hos (A7.trans hob)
  rw [g1] at u3;cases u3
  rw [w3] at u4
  have k2:Pth T _ (path++[0]) pt 0:=u4.append (.fld (r:=[]) ((A9 c3).1.symm.trans hst) rfl .nil)
  obtain ⟨pre,d,post,q1,q2,q3,q4,q5⟩:=R6 _ g5 w4 k2 hat
  refine ⟨cs,fz,d,g2,g3,g4,q4,fun x hx=>?_⟩
  subst hx
  have hp:pre=[]:=List.length_eq_zero_iff.1 q2
  subst hp
  have hc:cs[0]? = some x:=by rw [← Array.getElem?_toList,q1];rfl
  exact ⟨by simp [World.cell?,g2,hc],by rw [← C3u,q1];simp⟩
 split at hs<;>try (cases hs;done)
 ·rename_i id' t' path' hat
  split at hs<;>try (cases hs;done)
  rename_i hc2
  simp only [C3o] at hc2
  have:=C3n hc2.1;subst this
  injection hs with hs;subst hs
  obtain ⟨cs,fz,d,h1,h2,h3,h4,h5⟩:=key _ (hro _ (by simp)) hat
  obtain ⟨x,rfl⟩:=h4.single rfl
  obtain ⟨b2,off2,_,_,k3,k4,rfl⟩:=F6 h4
  rw [u3] at k3;cases k3
  have:=A31 hc2.2 k4;subst this
  refine .inr (.inr (.inl ⟨f,_,e.w,hen _ _,(hU b e.w (h5 _ rfl).1).mono fun en w' ⟨p1,p2⟩=>⟨_,p1,?_⟩⟩))
  subst p2
  exact ⟨e,rfl,hos,.refl e,fun _ h=>.inl h,B2T⟩
 ·rename_i t1 hat
  split at hs<;>try (cases hs;done)
  rename_i ht1
  have:=(C3n ht1).symm;subst this
  split at hs<;>try (cases hs;done)
  rename_i wo ro hst'
  injection hs with hs;subst hs
  obtain ⟨cs,fz,d,h1,h2,h3,h4,h5⟩:=key _ (hro _ (by simp)) hat
  have hx:d=[.pointer none]:=B2S hkp h4.v_inv
  subst hx
  obtain ⟨h6,h7⟩:=h5 _ rfl
  have kst:B3 T e (.p id pt (path++[0])) (.pointer (some ⟨b,0,none⟩)):=A2r u1 u2 u3 (u4.append (.fld (r:=[]) ((A9 c3).1.symm.trans hst) rfl .nil))
  have D:=A56 hT hos hst' (fun j hj=>hro j (by simp [hj])) kst hv
  obtain ⟨te,hte⟩:∃ te,T pt=some te:=by
   cases hq:T pt with
   | none=>simp [B1,hq] at hpt
   | some te=>exact ⟨te,rfl⟩
  have hsz:te.size=1:=by rw [← E4 hte];exact hpt
  have hrun:(do Instr.storeAt pt (.pointer (some ⟨b,0,none⟩)) (.pointer (some ⟨b,0,none⟩));pure .skip:Sem Next).run P e.w=.ok .skip (e.w.setCell ⟨b,0,none⟩ (.pointer (some ⟨b,0,none⟩))):=by
   have:=A0U (P:=P) (hT _ _ hte) (o:=0) (v:=.pointer (some ⟨b,0,none⟩)) h1 h2 (by intro u hu;simp [Value.cells] at hu;subst hu;rfl) (by rw [hsz];rfl) (by omega)
   simp [Instr.storeAt,Instr.sureAddr,this]
   rfl
  rcases D with ⟨x',w',d1,_⟩ | ⟨w',d1,d2⟩ | ⟨_,_,_,d1,_⟩ | ⟨_,_,_,_,_,_,d1,_⟩<;>rw [hrun] at d1<;>cases d1
  obtain ⟨e',p1,p2,p3,p4,_⟩:=d2
  refine .inr (.inr (.inl ⟨f,_,e.w,hen _ _,(hF b e.w t0 cs.size h6 (by simp [World.shape?,h1]) h7 (by rw [h3];exact hL _ c1) (h2.1 0 h7)).mono fun en w' ⟨q1,q2⟩=>⟨_,q1,?_⟩⟩))
  subst q2
  exact ⟨e',p1,p2,p3,fun j hj=>(p4 j hj).imp (fun q=>q) (fun q=>by cases q),B2T⟩
def A3d (T:TT) (st bt el:Nat):N9:=fun args of nx =>
 match args with
 | [.p id t path]=>match of id with
  | some (.box t0 a _)=>if A8N path&&same T st t then
    match atA T a (path++[1]) with
    | some (.o rid ver)=>match of rid with
     | some (.row el' v (x::xs) false _)=>if Nat.beq v ver&&Nat.beq el' el&&Nat.ble (x::xs).length LIM then some ⟨.s (x::xs),[(rid,.row el' (v+1) [] true false)],[id,rid],nx⟩ else none
     | _=>none
    | some (.v t1 .n)=>if Nat.beq t1 bt then some ⟨.s [],[],[id],nx⟩ else none
    | _=>none
   else none
  | _=>none
 | _=>none
def STR (P:Program) (f el:Nat):Prop:=∀ (b g k cap cnt:Nat) (l:List UInt8) (w:World),w.cell? ⟨b,1,none⟩=some (.slice (some ⟨g,k,none⟩) l.length cap)→cap≠0→l≠[]→l.length≤9223372036854775807→w.shape? g=some (el,cnt)→k+l.length≤cnt →
 (∀ j x,l[j]? = some x→w.cell? ((⟨g,k,none⟩:Addr).add j)=some (.int .u8 x.toNat))→Calls P f #[.pointer (some ⟨b,0,none⟩)] w fun e w'=>e=.returned (.string ⟨l.toArray⟩)∧w'=w.drew.freeze ⟨g,k,none⟩ l.length
def STN (P:Program) (f:Nat):Prop:=∀ (b:Nat) (w:World),w.cell? ⟨b,1,none⟩=some (.slice none 0 0)→Calls P f #[.pointer (some ⟨b,0,none⟩)] w fun e w'=>e=.returned (.string ⟨#[]⟩)∧w'=w.drew
theorem A6j (w:World) (g k n:Nat):(∀ j,j≠g→(w.freeze ⟨g,k,none⟩ n).heap[j]? = w.heap[j]?)∧(w.freeze ⟨g,k,none⟩ n).heap.size=w.heap.size∧(∀ b i,(w.freeze ⟨g,k,none⟩ n).cell? ⟨b,i,none⟩=w.cell? ⟨b,i,none⟩)∧(∀ b,L3 (w.freeze ⟨g,k,none⟩ n) b=L3 w b) ∧
  (w.freeze ⟨g,k,none⟩ n).os=w.os∧(w.freeze ⟨g,k,none⟩ n).tape=w.tape∧(w.freeze ⟨g,k,none⟩ n).output=w.output:=by
 unfold World.freeze
 split
 ·exact ⟨fun _ _=>rfl,rfl,fun _ _=>rfl,fun _=>rfl,rfl,rfl,rfl⟩
 ·refine ⟨fun j hj=>by simp only [Array.getElem?_modify];rw [if_neg (Ne.symm hj)],by simp,fun b i=>?_,fun b=>?_,rfl,rfl,rfl⟩
  ·unfold World.cell?
   simp only [Array.getElem?_modify]
   by_cases hg:g=b
   ·rw [if_pos hg]
    cases w.heap[b]? with
    | none=>rfl
    | some o=>cases o<;>rfl
   ·rw [if_neg hg]
  ·unfold L3
   simp only [Array.getElem?_modify]
   by_cases hg:g=b
   ·rw [if_pos hg]
    cases w.heap[b]? with
    | none=>rfl
    | some o=>cases o<;>rfl
   ·rw [if_neg hg]
theorem B2U (hT:F4 T P) {f st pt bt el:Nat} (hst:B2 T st=some (.struct [pt,bt])) (hpt:B1 T pt=1) (hkb:B2 T bt=some (.slice el)) (hel:B2 T el=some (.int .u8)) (hz:B1 T el=1) (hR:STR P f el) (hN:STN P f)
  (hen:∀ args w,(callFunc f args).run P w=.ok (.enter f args) w):C0 P T f (A3d T st bt el):=by
 intro c e of of' args vals nx out hos hs hro hu hvals
 unfold A3d at hs
 split at hs<;>try (cases hs;done)
 rename_i id t path
 split at hs<;>try (cases hs;done)
 rename_i t0 a sh0 hob
 split at hs<;>try (cases hs;done)
 rename_i hc
 simp only [C3o] at hc
 obtain ⟨c2,c3⟩:=hc
 obtain ⟨v,rfl,hv⟩:=A98 hvals
 obtain ⟨b,off,u1,u2,u3,u4,rfl⟩:=F6 hv
 have:=A31 c2 u4;subst this
 have key:∀ (a1:A),of' id=of id→atA T a (path++[1])=some a1→∃ d,RA T e [a1] d∧(∀ x,d=[x]→e.w.cell? ⟨b,1,none⟩=some x):=by
  intro a1 A7 hat
  obtain ⟨w1,w2,w3,w4,b',cs,ty,fz,g1,g2,g3,g4,g5,g6,rfl⟩:=Q8 hos (A7.trans hob)
  rw [g1] at u3;cases u3
  rw [w3] at u4
  have k2:=u4.append (.fld (i:=1) (r:=[]) ((A9 c3).1.symm.trans hst) rfl .nil)
  simp only [List.take_succ_cons,List.take_zero,szs,hpt,Nat.add_zero,Nat.zero_add] at k2
  obtain ⟨pre,d,post,q1,q2,q3,q4,q5⟩:=R6 _ g5 w4 k2 hat
  refine ⟨d,q4,fun x hx=>?_⟩
  subst hx
  have hc:cs[1]? = some x:=by rw [← Array.getElem?_toList,q1,List.getElem?_append_right (by omega),q2];rfl
  simp [World.cell?,g2,hc]
 split at hs<;>try (cases hs;done)
 ·rename_i rid ver hat
  split at hs<;>try (cases hs;done)
  rename_i el' v' x0 xs0 sh hrow
  split at hs<;>try (cases hs;done)
  rename_i hc2
  simp only [C3o] at hc2
  obtain ⟨⟨e1,e2⟩,e3⟩:=hc2
  have:=C3n e1;subst this
  have:=C3n e2;subst this
  have e3:=C3t e3
  generalize hxs:x0::xs0=xs at *
  have hne:xs≠[]:=by rw [← hxs];simp
  injection hs with hs;subst hs
  obtain ⟨d,h4,h5⟩:=key _ (hro _ (by simp)) hat
  obtain ⟨x,rfl⟩:=h4.single rfl
  have hcell:=h5 _ rfl
  have hrow':=(hro rid (by simp)).trans hrow
  obtain ⟨r1,r2,r3,r4,r5,r6,r7⟩:=G3 hos hrow'
  rcases r7 with ⟨q,_⟩ | ⟨_,g,o,cs,ty,fz,pre,ys,post,j1,j2,j3,j4,j5,j6,j7,j8,rfl⟩
  ·cases q
  rcases F7 h4 r3 with ⟨k1,_,_⟩ | ⟨g',o',cap,k,k1,k2,k3,k4,rfl⟩
  ·rw [j1] at k1;cases k1
  rw [j1] at k1;cases k1
  have hlen:0 < xs.length:=List.length_pos_iff.2 hne
  rw [r5] at k2 hcell
  have hk:=k4 (by omega);subst hk
  obtain ⟨ns,rfl,rfl,hb⟩:=A8v hel rfl j6
  rw [C3r] at *
  have hl:(ns.map fun n=>n.toUInt8).length=ns.length:=C3r _
  have hrd:∀ n∈ns,n.toUInt8.toNat=n:=fun n hn=>by
   have:=hb n hn
   simp only [hi] at this
   show n % 256=n
   omega
  have hcs:∀ j x,(ns.map fun n=>n.toUInt8)[j]? = some x→e.w.cell? ((⟨g,k,none⟩:Addr).add j)=some (.int .u8 x.toNat):=by
   intro j x hj
   rw [List.getElem?_map] at hj
   obtain ⟨n,hn,rfl⟩:=Option.map_eq_some_iff.1 hj
   rw [C2,D6 j2,j4,← j5]
   rw [hrd n (List.mem_of_getElem? hn),List.append_assoc]
   refine J7 ?_
   rw [List.getElem?_map,hn];rfl
  have hcnt:k+ns.length≤cs.size:=by
   rw [← C3u,j4];simp;omega
  have:=hR b g k cap cs.size (ns.map fun n=>n.toUInt8) e.w (by rw [hl];exact hcell) (by omega) (by simpa using hne) (by rw [hl];unfold LIM at e3;omega) (by simp [World.shape?,j2]) (by rw [hl];exact hcnt) hcs
  refine .inr (.inr (.inl ⟨f,_,e.w,hen _ _,this.mono fun en w' ⟨q1,q2⟩=>⟨_,q1,?_⟩⟩))
  obtain ⟨f1,f2,f3,f4,f5,f6,f7⟩:=A6j e.w.drew g k (ns.map fun n=>n.toUInt8).length
  rw [← q2] at f1 f2 f3 f4 f5 f6 f7
  have hle:e.le (e.turned w' rid (v'+1) 0 none):=Y2 (by omega) (by omega) (fun b i hs x hx=>(f3 b i).trans hx) (fun b _=>f4 b) (fun j b o hj hb=>hos.lt _ _ _ hj hb) (by rw [f2];exact Nat.le_refl _)
  refine ⟨_,rfl,hos.turn hrow' hle (fun _ hj=>A3 _ _ hj) (fun _ hj=>A3 _ _ hj) (fun _ hj=>hj) (fun j _ hq=>f1 j (fun hjg=>hq k (by rw [hjg];exact j1))) (by show _≤w'.heap.size;rw [f2];exact Nat.le_refl _) (fun _ _ hs=>.inl hs) (fun b q hb=>?_) f5 f6 f7
   ⟨r1,Nat.succ_pos _,upd_same _ _ _,r4,upd_same _ _ _,r6,.inl ⟨rfl,upd_same _ _ _,rfl⟩⟩,hle,fun _ hj=>.inl hj,?_⟩
  ·have:(none:Option (Nat×Nat))=some (b,q):=by rw [← hb];exact (upd_same _ _ _).symm
   cases this
  ·have:(ns.map nv)=W9 ⟨(ns.map fun n=>n.toUInt8).toArray⟩:=by
    unfold W9
    simp only [List.map_map]
    refine List.map_congr_left fun n hn=>?_
    show V.i (n:Int)=V.i ((n.toUInt8.toNat:Nat):Int)
    rw [hrd n hn]
   rw [this]
   exact A3S _
 ·rename_i t1 hat
  split at hs<;>try (cases hs;done)
  rename_i ht1
  have:=(C3n ht1).symm;subst this
  injection hs with hs;subst hs
  obtain ⟨d,h4,h5⟩:=key _ (hro _ (by simp)) hat
  have hx:d=[.slice none 0 0]:=A8O hkb h4.v_inv
  subst hx
  refine .inr (.inr (.inl ⟨f,_,e.w,hen _ _,(hN b e.w (h5 _ rfl)).mono fun en w' ⟨q1,q2⟩=>⟨_,q1,?_⟩⟩))
  subst q2
  have hle:e.le { e with w:=e.w.drew }:=⟨fun _ _ h=>⟨h,fun _ hx=>hx⟩,fun _ h=>h,fun _ _ _=>⟨rfl,rfl,fun _ _ _=>rfl⟩,fun _ _ h=>h,fun _ _=>Nat.le_refl _,fun _ _=>rfl,Nat.le_refl _,fun _ _=>rfl⟩
  exact ⟨_,rfl,⟨fun j o hj=>(hos.ok j o hj).keep hle rfl (fun _ _ _=>rfl) (fun _ _ _ _ hs=>hs) (fun _ _ _ _ hG=>⟨hG,rfl,fun _ hs=>hs⟩),hos.sep,hos.own,hos.lt,hos.slt,hos.s0,hos.snew,hos.os,hos.tape,hos.output,hos.size,hos.block,⟨hos.g.sep,hos.g.uniq,hos.g.own,hos.g.lt⟩⟩,hle,fun _ h=>.inl h,A3S ⟨#[]⟩⟩
variable {P:Program}
theorem B1e {e:TypeId} (hc:P.cellsOf e=1) (count k n:Nat) (hn:k+n≤count):liesAt P P.depth e count k e n=true:=by
 have hd:P.depth=(2 * (P.types.size+Made.depth)+1)+1:=rfl
 rw [hd]
 simp only [liesAt,Bool.or_eq_true]
 left
 rw [hd]
 simp [rowAt,hc,hn,sameLayout,Nat.mod_one]
theorem A1H (w:World) (pt it ty e:TypeId) (hp:P.underlying pt=some (.pointer e)) (hc:P.cellsOf e=1) (g k cells:Nat) (hsh:w.shape? g=some (e,cells)) (l:List UInt8) (h0:l≠[]) (hn:k+l.length≤cells) (h63:l.length≤9223372036854775807)
  (hcell:∀ j x,l[j]? = some x→w.cell? ((⟨g,k,none⟩:Addr).add j)=some (.int .u8 x.toNat)) :
  (Builtin.unsafeString_ #[pt,it] ty #[.pointer (some ⟨g,k,none⟩),.int .i64 l.length]).run P w=.ok (.string ⟨l.toArray⟩) (w.freeze ⟨g,k,none⟩ l.length):=by
 have hl:l.length≠0:=by simpa using h0
 have hlb:=Lib.run_loadBytes (P:=P) w l ⟨g,k,none⟩ .empty hcell
 have hlies:=B1e (P:=P) hc (cells / P.cellsOf e) k l.length (by rw [hc];simpa using hn)
 have h63':¬ (9223372036854775807:Int) < (l.length:Int):=by omega
 have hdef:Builtin.unsafeString_ #[pt,it] ty #[.pointer (some ⟨g,k,none⟩),.int .i64 l.length] =
   (do
    let n ← asInt (.int .i64 l.length)
    if n < 0 then runtimePanic (.error "unsafe.String: len out of range")
    if n > IntKind.i64.max then unsupported (.unsafePointer "String: a length above the largest int")
    if n=0 then pure (.string .empty)
    else if ← variablesAt ⟨g,k,none⟩ (← elemOf pt) n.toNat then do
     let s ← loadBytes ⟨g,k,none⟩ .empty n.toNat
     freeze ⟨g,k,none⟩ n.toNat
     pure (.string s)
    else unsupported (.unsafePointer "String: not so many bytes at ptr")):=rfl
 rw [hdef]
 have hmax:IntKind.i64.max=9223372036854775807:=rfl
 have hneg:¬ (l.length:Int) < 0:=by omega
 simp [asInt,asIntOf,hmax,h63',hneg,hl,variablesAt,hsh,elemOf,run_underlying hp,hlies,hlb]
variable {P:Program} {T:TT} {R:Type} {c:F1} {e:A8} {of of':Nat→Option Ob}
theorem A7v {a b:A} {vals:Array Value} (h:P3 T e [a,b] vals.toList):∃ v w,vals=#[v,w]∧B3 T e a v∧B3 T e b w:=by
 obtain ⟨vals⟩:=vals
 cases h with | cons h1 h2=>cases h2 with | cons h2 h3=>cases h3;exact ⟨_,_,rfl,h1,h2⟩
theorem A7w (b:UInt8) {n:Int} (h:inR .u8 n):ieq (b.toNat:Int) n=(b == n.toNat.toUInt8):=by
 have hb:=b.toNat_lt
 simp only [inR,lo,hi] at h
 rw [Bool.eq_iff_iff,Q9,beq_iff_eq]
 constructor
 ·intro q
  subst q
  simp
 ·intro q
  rw [q]
  show ((n.toNat % 256:Nat):Int)=n
  omega
def btV (l:List UInt8):List V:=l.map fun b=>V.i (b.toNat:Int)
theorem B8H {n:Int} (h:inR .u8 n) (l:List UInt8):A7a n (btV l)=Lib.countByte l n.toNat.toUInt8:=by
 induction l with
 | nil=>rfl
 | cons b l ih =>
  show (bif ieq (b.toNat:Int) n then A7a n (btV l)+1 else A7a n (btV l))=_
  unfold Lib.countByte at ih ⊢
  rw [A7w b h,List.count_cons,ih]
  cases b == n.toNat.toUInt8<;>simp
theorem B8I {n:Int} (h:inR .u8 n) (l:List UInt8):∀ k:Nat,A27 n k (btV l)=if Lib.indexByte l n.toNat.toUInt8 = -1 then -1 else k+Lib.indexByte l n.toNat.toUInt8:=by
 induction l with
 | nil=>intro k;rfl
 | cons b l ih =>
  intro k
  show (bif ieq (b.toNat:Int) n then ((k:Nat):Int) else A27 n (k+1) (btV l))=_
  have hg:=Lib.indexByte_ge l n.toNat.toUInt8
  rw [A7w b h,Lib.indexByte,ih]
  cases b == n.toNat.toUInt8
  ·by_cases hq:Lib.indexByte l n.toNat.toUInt8 = -1
   ·simp [hq]
   ·have h1:¬ Lib.indexByte l n.toNat.toUInt8+1 = -1:=by omega
    simp only [hq,if_false,cond_false,Bool.false_eq_true,beq_iff_eq,h1]
    omega
  ·simp
theorem B8J (n:Int):∀ l:List V,A7a n l≤l.length:=by
 intro l
 induction l with
 | nil=>exact Nat.le_refl _
 | cons a l ih=>simp only [A7a,C3v];cases ieq a.int n<;>simp<;>omega
theorem B5y (n:Int):∀ (l:List V) (k:Nat),-1≤A27 n k l∧A27 n k l≤k+l.length:=by
 intro l
 induction l with
 | nil=>intro k;simp only [A27,List.length_nil];omega
 | cons a l ih =>
  intro k
  have:=ih (k+1)
  simp only [A27,C3v]
  cases ieq a.int n<;>simp<;>omega
theorem B2V {f:FuncId} {fn:Func} (hf:P.funcs[f]? = some fn) (hname:(fn.name == "runtime.NumGoroutine")=false) (hb:fn.body.isNone=true) (hn:Extern.findNext fn=none) (he:Extern.find fn=some Extern.BytealgCount.count):C0 P T f A7b:=by
 intro c e of of' as0 vals nx out hos hs hro hu hvals
 unfold A7b at hs
 split at hs<;>try (cases hs;done)
 rename_i l n
 split at hs<;>try (cases hs;done)
 rename_i hl
 have hl:=C3t hl
 injection hs with hs;subst hs
 obtain ⟨v,w,rfl,h1,h2⟩:=A7v hvals
 obtain ⟨s,rfl,rfl⟩:=N5 h1
 have hr:=L1 h2
 rw [B8 h2]
 have hrun:(callFunc f #[.string s,.int .u8 n]).run P e.w=.ok (.value (.int .i64 (A7a n (W9 s):Nat))) e.w:=by
  rw [run_callFunc_extern hf hname hb hn he,Lib.run_countString,show W9 s=btV s.data.toList from rfl,B8H hr]
  rfl
 have hle:=B8J n (W9 s)
 unfold LIM at hl
 exact E5 (.inl ⟨_,e.w,hrun,A4 hos (G6 ⟨by simp only [lo];omega,by simp only [hi];omega⟩)⟩)
theorem B2W {f:FuncId} {fn:Func} (hf:P.funcs[f]? = some fn) (hname:(fn.name == "runtime.NumGoroutine")=false) (hb:fn.body.isNone=true) (hn:Extern.findNext fn=none) (he:Extern.find fn=some Extern.BytealgIndexByte.indexByte):C0 P T f A28:=by
 intro c e of of' as0 vals nx out hos hs hro hu hvals
 unfold A28 at hs
 split at hs<;>try (cases hs;done)
 rename_i l n
 split at hs<;>try (cases hs;done)
 rename_i hl
 have hl:=C3t hl
 injection hs with hs;subst hs
 obtain ⟨v,w,rfl,h1,h2⟩:=A7v hvals
 obtain ⟨s,rfl,rfl⟩:=N5 h1
 have hr:=L1 h2
 rw [B8 h2]
 have hrun:(callFunc f #[.string s,.int .u8 n]).run P e.w=.ok (.value (.int .i64 (A27 n 0 (W9 s)))) e.w:=by
  rw [run_callFunc_extern hf hname hb hn he,Lib.run_indexByteString,show W9 s=btV s.data.toList from rfl,B8I hr]
  split<;>rename_i hq<;>simp [hq]<;>rfl
 have hle:=B5y n (W9 s) 0
 unfold LIM at hl
 exact E5 (.inl ⟨_,e.w,hrun,A4 hos (G6 ⟨by simp only [lo];omega,by simp only [hi];omega⟩)⟩)
def B2X (l:List V) (n:Int):Int:=B1d (fun p:List V×Int=>A27 p.2 0 p.1) (l,n)
theorem A99 (l:List V) (n:Int):B2X l n=A27 n 0 l:=by rw [B2X,A2b]
def A6k:N9:=fun args of nx =>
 match args with
 | [.s l,.i .u8 c]=>if Nat.ble l.length LIM then some (.pv nx (.i .i64 (B2X l c)) []) else none
 | _=>none
theorem B1f:A6k=A28:=by
 unfold A6k A28
 simp only [A99]
 rfl
def A5n (T:TT) (st bt el:Nat):J4:=fun R args of nx k =>
 match args with
 | [.p id t path]=>match of id with
  | some (.box t0 a _)=>bif A8N path&&same T st t then
    (match atA T a (path++[1]) with
    | some (.o rid ver)=>match of rid with
     | some (.row el' v (x::xs) false _)=>bif Nat.beq v ver&&Nat.beq el' el&&Nat.ble (x::xs).length LIM then k ⟨.s (x::xs),[(rid,.row el' (v+1) [] true false)],[id,rid],nx⟩ else none
     | _=>none
    | some (.v t1 .n)=>bif Nat.beq t1 bt then k ⟨.s [],[],[id],nx⟩ else none
    | _=>none)
   else none
  | _=>none
 | _=>none
theorem A7x (st bt el:Nat) (R:Type) (args:List A) (of:Nat→Option Ob) (nx:Nat) (k:M8→Option R):A5n T st bt el R args of nx k=ob (A3d T st bt el args of nx) k:=by
 unfold A5n A3d
 split
 ·rename_i id t path
  try dsimp only
  cases of id with
  | none=>rfl
  | some o =>
   cases o with
   | box t0 a sh =>
    simp only [A6t]
    cases A8N path&&same T st t with
    | false=>rfl
    | true =>
     simp only [cond_true]
     cases atA T a (path++[1]) with
     | none=>rfl
     | some a1 =>
      cases a1 with
      | o rid ver =>
       dsimp only
       cases of rid with
       | none=>rfl
       | some o2 =>
        cases o2 with
        | row el' v xs nl sh =>
         cases xs with
         | nil=>rfl
         | cons x xs =>
          cases nl with
          | true=>rfl
          | false=>simp only [A6t];rfl
        | _=>rfl
      | v t1 y =>
       cases y with
       | n=>simp only [A6t];rfl
       | _=>rfl
      | _=>rfl
   | _=>rfl
 ·first
  | rfl
  | (rename_i h;split;exact (h _ _ _ rfl).elim;rfl)
theorem A5o (st bt el:Nat):(A5n T st bt el).dir=A3d T st bt el:=by
 funext args of nx
 show A5n T st bt el M8 args of nx some=_
 rw [A7x]
 cases A3d T st bt el args of nx<;>rfl
theorem B1g (st bt el:Nat):(A5n T st bt el).nat:=by
 intro R args of nx k
 rw [A5o,A7x]
variable {R:Type}
def A2d:List Nat:=[48,49,50,51,52,53,54,55,56,57,97,98,99,100,101,102]
def A6l:List V:=[V.i (48:Nat),V.i (49:Nat),V.i (50:Nat),V.i (51:Nat),V.i (52:Nat),V.i (53:Nat),V.i (54:Nat),V.i (55:Nat),V.i (56:Nat),V.i (57:Nat),V.i (97:Nat),V.i (98:Nat),V.i (99:Nat),V.i (100:Nat),V.i (101:Nat),V.i (102:Nat)]
abbrev hi4 (x:Int):Int:=Int.fdiv x 16
abbrev lo4 (x:Int):Int:=F5 .and .u8 x 15
abbrev dgA (x:Int):V:=V.i (List.getD A6l (Int.toNat x) .n).int
inductive PHe where
 | n (bs:List V) (n:Int) (i:Int)
 | r (a:V) (r:List V) (bs:List V) (n:Int) (i:Int)
inductive QHe where
 | n (bs:List V) (n:Int) (i:Int)
 | o (a:V) (r:List V) (bs:List V) (n:Int) (i:Int)
def BHe (R:Type) (p:PHe) (K:PHe→Option R) (kx:QHe→Option R):Option R :=
 match p with
 | .n bs n i =>
  bif E8 i n then
   ck i bs.length <|
   ck (hi4 ((V.nth (.l bs) i.toNat)).int) A6l.length <|
   ck (lo4 ((V.nth (.l bs) i.toNat)).int) A6l.length <|
   K (.r (dgA (hi4 ((V.nth (.l bs) i.toNat)).int)) [dgA (lo4 ((V.nth (.l bs) i.toNat)).int)] bs n (R2 (i+1)))
  else kx (.n bs n i)
 | .r a r bs n i =>
  bif E8 i n then
   ck i bs.length <|
   ck (hi4 ((V.nth (.l bs) i.toNat)).int) A6l.length <|
   lim ((a::r).length+[dgA (hi4 ((V.nth (.l bs) i.toNat)).int)].length) <|
   ck (lo4 ((V.nth (.l bs) i.toNat)).int) A6l.length <|
   lim (((a::r)++[dgA (hi4 ((V.nth (.l bs) i.toNat)).int)]).length+[dgA (lo4 ((V.nth (.l bs) i.toNat)).int)].length) <|
   K (.r a ((r++[dgA (hi4 ((V.nth (.l bs) i.toNat)).int)])++[dgA (lo4 ((V.nth (.l bs) i.toNat)).int)]) bs n (R2 (i+1)))
  else kx (.o a r bs n i)
def hxN (ns:List Nat):List Nat:=ns.flatMap fun n=>[A2d.getD (n / 16) 0,A2d.getD (n % 16) 0]
def A2H (ns:List Nat):List Nat:=if ns=[] then [45] else hxN ns
theorem A3x (ns:List Nat):(hxN ns).length=2 * ns.length:=by
 induction ns with
 | nil=>rfl
 | cons n r ih=>simp only [hxN,List.flatMap_cons,C3p,C3v,List.length_nil] at ih ⊢;omega
theorem B0a {n:Nat} (h:n < 256):F5 .and .u8 (n:Int) 15=((n % 16:Nat):Int):=by
 have:∀ n:Fin 256,F5 .and .u8 ((n.val:Nat):Int) 15=((n.val % 16:Nat):Int):=by decide +kernel
 exact this ⟨n,h⟩
theorem A6m {k:Nat} (h:k < 16):dgA ((k:Nat):Int)=nv (A2d.getD k 0):=by
 rcases k with _ | _ | _ | _ | _ | _ | _ | _ | _ | _ | _ | _ | _ | _ | _ | _ | k<;>first | rfl | omega
theorem B0b (n:Nat):hi4 (n:Int)=((n / 16:Nat):Int):=by
 show Int.fdiv _ _=_
 rw [Int.fdiv_eq_ediv_of_nonneg _ (by omega)];omega
theorem B8K {kx:QHe→Option R} {bs:List V}:∀ (r a:List Nat) (x:V) (xs:List V) (fuel:Nat),bs=(a++r).map nv→(∀ n∈r,n < 256)→xs.length+2 * r.length≤1000000000→a.length+r.length≤100000000→r.length < fuel →
  lpC (BHe R) fuel (.r x xs bs (bs.length:Nat) (a.length:Nat)) kx=kx (.o x (xs++(hxN r).map nv) bs (bs.length:Nat) (bs.length:Nat)):=by
 intro r
 induction r with
 | nil =>
  intro a x xs fuel he hg hx ha hf
  obtain ⟨f,rfl⟩:∃ f,fuel=f+1:=⟨fuel - 1,by omega⟩
  have hl:bs.length=a.length:=by rw [he];simp
  rw [lpC,BHe,hl,Y9]
  simp [hxN]
 | cons n r ih =>
  intro a x xs fuel he hg hx ha hf
  obtain ⟨f,rfl⟩:∃ f,fuel=f+1:=⟨fuel - 1,by omega⟩
  simp only [C3v] at hx ha hf
  have hn:=hg n (by simp)
  have hl:bs.length=a.length+(r.length+1):=by rw [he];simp
  have hat:V.nth (.l bs) ((a.length:Nat):Int).toNat=nv n:=by
   have:(V.l bs).els=a.map nv++nv n::r.map nv:=by rw [he];simp [V.els]
   rw [← B8B this,C3r]
  rw [lpC,BHe,Y9,show decide (((a.length:Nat):Int) < (bs.length:Nat))=true by simp;omega,cond_true,hat]
  show ck _ _ (ck (hi4 (n:Int)) 16 (lim _ (ck (lo4 (n:Int)) 16 _)))=_
  rw [T0 (by omega) (by omega),B0b,show lo4 (n:Int)=((n % 16:Nat):Int) from B0a hn,T0 (by omega) (by omega),A69 (by simp only [C3v,List.length_nil];omega),T0 (by omega) (by omega),A69 (by simp only [C3v,C3p,List.length_nil];omega),
   show ((nv n).int)=((n:Nat):Int) from rfl,B0b,show lo4 (n:Int)=((n % 16:Nat):Int) from B0a hn,A6m (by omega),A6m (by omega),show (((a.length:Nat):Int)+1)=((a.length+1:Nat):Int) by simp,A5m (by omega)]
  have:=ih (a++[n]) x (xs++[nv (A2d.getD (n / 16) 0)]++[nv (A2d.getD (n % 16) 0)]) f (by rw [he];simp) (fun m hm=>hg m (by simp [hm])) (by simp only [C3p,C3v,List.length_nil];omega) (by simp only [C3p,C3v,List.length_nil];omega) (by omega)
  rw [C3p,C3w] at this
  rw [this]
  simp [hxN]
def hxG (st:Nat) (bs:List V):Option (List Rs) :=
 ln bs.length <| bif ieq (bs.length:Nat) 0 then some [.d st (.s [V.i (45:Nat)])] else
 ln bs.length <| lpC (BHe (List Rs)) (A7 FU) (.n bs (bs.length:Nat) 0) fun
 | .n _ _ _=>some [.d st (.s [])]
 | .o a r _ _ _=>lim (a::r).length (some [.d st (.s (a::r))])
def A42 (x:V):List V:=B1d (fun x:V=>(A2H (V3 x)).map nv) x
theorem A1s (x:V):A42 x=(A2H (V3 x)).map nv:=by rw [A42,A2b]
def hxg:List V→Bool
 | [x]=>Nat.ble x.els.length 1000000
 | _=>false
def hxr (st:Nat):List V→List Rs
 | [x]=>[.d st (.s (A42 x))]
 | _=>[]
theorem B5z {st:Nat} {ns:List Nat} (hn:∀ n∈ns,n < 256) (hl:ns.length≤1000000):hxG st (ns.map nv)=some [.d st (.s ((A2H ns).map nv))]:=by
 unfold hxG A2H
 rw [C3r,A1n (by omega),B2R]
 cases ns with
 | nil=>rfl
 | cons n r =>
  have hn0:=hn n (by simp)
  simp only [C3v] at hl
  rw [if_neg (by simp),show decide ((((n::r).length:Nat):Int)=0)=false by simp;omega,cond_false,A1n (by simp only [C3v];omega)]
  obtain ⟨f,hf⟩:∃ f,A7 FU=f+1:=⟨4611686018427387903,by rw [A4M]⟩
  have hf2:r.length < f:=by have:=A4M FU;unfold FU at this hf;omega
  rw [hf,lpC,BHe,Y9,show decide ((0:Int) < (((n::r).length:Nat):Int))=true by simp only [C3v,C3z];omega,cond_true]
  have hat:V.nth (.l ((n::r).map nv)) (0:Int).toNat=nv n:=rfl
  rw [hat]
  show ck _ _ (ck (hi4 (n:Int)) 16 (ck (lo4 (n:Int)) 16 _))=_
  rw [T0 (by omega) (by simp),B0b,show lo4 (n:Int)=((n % 16:Nat):Int) from B0a hn0,T0 (by omega) (by omega),T0 (by omega) (by omega),show ((nv n).int)=((n:Nat):Int) from rfl,B0b,show lo4 (n:Int)=((n % 16:Nat):Int) from B0a hn0,A6m (by omega),A6m (by omega),
   show R2 (0+1)=(([n].length:Nat):Int) from rfl,show (((n::r).length:Nat):Int)=(((n::r).map nv).length:Nat) by rw [C3r]]
  rw [B8K (bs:=(n::r).map nv) r [n] _ _ f rfl (fun m hm=>hn m (by simp [hm])) (by simp only [C3v,List.length_nil];omega) (by simp only [C3v,List.length_nil];omega) hf2]
  have:=A3x r
  show lim _ _=_
  rw [A69 (by simp only [C3v,C3p,List.length_nil,C3r];omega)]
  simp [hxN]
abbrev fx (s:List V) (k:Nat):Int:=B2X A6l (List.getD s k .n).int
abbrev ubt (a b:Int):V:=V.i (IntKind.wrap .u8 (R2 (R2 (16 * a)+b)))
inductive PUh where
 | m (xs:List V) (nl:Bool) (s:List V) (i:Int)
inductive QUh where
 | o (xs:List V) (nl:Bool) (s:List V) (i:Int)
 | b (xs:List V) (nl:Bool) (s:List V) (i:Int)
def BUh (R:Type) (p:PUh) (K:PUh→Option R) (kx:QUh→Option R):Option R :=
 match p with
 | .m xs nl s i =>
  ln s.length <|
  bif E8 i (s.length:Nat) then
   ck i s.length <|
   ck (R2 (i+1)) s.length <|
   bif E8 (fx s i.toNat) 0 then kx (.b xs nl s i) else
   bif E8 (fx s (R2 (i+1)).toNat) 0 then kx (.b xs nl s i) else
   lim (xs.length+[ubt (fx s i.toNat) (fx s (R2 (i+1)).toNat)].length) <|
   K (.m (xs++[ubt (fx s i.toNat) (fx s (R2 (i+1)).toNat)]) (nl&&false) s (R2 (i+2)))
  else kx (.o xs nl s i)
def dgI (c:Nat):Nat:=A2d.idxOf c
def A1I:List Nat→Option (List Nat)
 | []=>some []
 | [_]=>none
 | a::b::r=>if dgI a < 16∧dgI b < 16 then (A1I r).map (fun l=>(16 * dgI a+dgI b)::l) else none
theorem B8L {c:Nat} (h:c < 256):A27 (c:Int) 0 A6l=if dgI c < 16 then (dgI c:Int) else -1:=by
 have:∀ c:Fin 256,A27 ((c.val:Nat):Int) 0 A6l=if dgI c.val < 16 then (dgI c.val:Int) else -1:=by decide +kernel
 exact this ⟨c,h⟩
theorem B7N {s a r:List Nat} {c:Nat} (hs:s=a++c::r) (h:c < 256):fx (s.map nv) a.length=if dgI c < 16 then (dgI c:Int) else -1:=by
 have:List.getD (s.map nv) a.length .n=nv c:=by rw [hs];simp [List.getD]
 show B2X A6l _=_
 rw [A99,this]
 exact B8L h
theorem B8M {kx:QUh→Option R} {z:Option R} (hz:∀ xs nl s i,kx (.b xs nl s i)=z) {s:List Nat} (hn:∀ n∈s,n < 256) (hl:s.length≤1000000):∀ (k:Nat) (r a:List Nat) (xs:List V) (nl:Bool) (fuel:Nat),r.length=2 * k→s=a++r→xs.length+k≤1000000→k < fuel →
  lpC (BUh R) fuel (.m xs nl (s.map nv) (a.length:Nat)) kx=match A1I r with
   | some ys=>kx (.o (xs++ys.map nv) (nl&&r.isEmpty) (s.map nv) (s.length:Nat))
   | none=>z:=by
 intro k
 induction k with
 | zero =>
  intro r a xs nl fuel hr hs hx hf
  obtain ⟨f,rfl⟩:∃ f,fuel=f+1:=⟨fuel - 1,by omega⟩
  have hr:=List.length_eq_zero_iff.1 hr
  subst hr
  rw [List.append_nil] at hs
  subst hs
  rw [lpC,BUh,C3r,A1n (by omega),Y9,show decide (((s.length:Nat):Int) < ((s.length:Nat):Int))=false by simp,cond_false]
  simp [A1I]
 | succ k ih =>
  intro r a xs nl fuel hr hs hx hf
  obtain ⟨f,rfl⟩:∃ f,fuel=f+1:=⟨fuel - 1,by omega⟩
  obtain ⟨c,d,r,rfl⟩:∃ c d r',r=c::d::r':=by
   match r,hr with
   | [],hr=>simp at hr
   | [_],hr=>simp at hr;omega
   | c::d::r',_=>exact ⟨c,d,r',rfl⟩
  simp only [C3v] at hr
  have hsl:s.length=a.length+(r.length+2):=by rw [hs];simp
  have hc:=hn c (by rw [hs];simp)
  have hd:=hn d (by rw [hs];simp)
  have e1:R2 (((a.length:Nat):Int)+1)=(((a++[c]).length:Nat):Int):=by rw [show (((a.length:Nat):Int)+1)=((a.length+1:Nat):Int) by simp,A5m (by omega)];simp
  have e2:R2 (((a.length:Nat):Int)+2)=(((a++[c,d]).length:Nat):Int):=by rw [show (((a.length:Nat):Int)+2)=((a.length+2:Nat):Int) by simp,A5m (by omega)];simp
  have hs1:s=(a++[c])++d::r:=by rw [hs];simp
  have hs2:s=(a++[c,d])++r:=by rw [hs];simp
  rw [lpC,BUh,C3r,A1n (by omega),Y9,show decide (((a.length:Nat):Int) < ((s.length:Nat):Int))=true by simp;omega,cond_true,T0 (by omega) (by omega),e1,e2,T0 (by omega) (by simp only [C3p,C3v,List.length_nil];omega)]
  rw [Int.toNat_natCast,Int.toNat_natCast,B7N hs hc,B7N hs1 hd]
  unfold A1I
  by_cases h1:dgI c < 16
  ·rw [if_pos h1,Y9,show decide (((dgI c:Nat):Int) < 0)=false by simp,cond_false]
   by_cases h2:dgI d < 16
   ·rw [if_pos h2,Y9,show decide (((dgI d:Nat):Int) < 0)=false by simp,cond_false,A69 (by simp only [C3v,List.length_nil];omega),if_pos ⟨h1,h2⟩]
    have hub:ubt ((dgI c:Nat):Int) ((dgI d:Nat):Int)=nv (16 * dgI c+dgI d):=by
     show V.i _=V.i _
     rw [show (16 * ((dgI c:Nat):Int))=((16 * dgI c:Nat):Int) by simp,A5m (by omega),show (((16 * dgI c:Nat):Int)+((dgI d:Nat):Int))=((16 * dgI c+dgI d:Nat):Int) by simp,A5m (by omega),u8w (by omega) (by omega)]
    rw [hub,ih r (a++[c,d]) _ _ f (by omega) hs2 (by simp only [C3p,C3v,List.length_nil];omega) (by omega)]
    cases A1I r with
    | none=>rfl
    | some ys=>simp
   ·rw [if_neg h2,Y9,show decide ((-1:Int) < 0)=true from rfl,cond_true,hz,if_neg (fun h=>h2 h.2)]
  ·rw [if_neg h1,Y9,show decide ((-1:Int) < 0)=true from rfl,cond_true,hz,if_neg (fun h=>h1 h.1)]
def uhG (u b:Nat) (s:List V):Option (List Rs) :=
 bif N3 s [V.i (45:Nat)] then some [.r u [] true,.d b (.b true)] else
 bif N3 s [] then some [.r u [] true,.d b (.b false)] else
 ln s.length <| bif ieq (Int.tmod (s.length:Nat) 2) 1 then some [.r u [] true,.d b (.b false)] else
 lpC (BUh (List Rs)) (A7 FU) (.m [] true s 0) fun
 | .o xs nl _ _=>some [.r u xs nl,.d b (.b true)]
 | .b _ _ _ _=>some [.r u [] true,.d b (.b false)]
def S1 (s:List Nat):Option (List Nat):=if s=[45] then some [] else if s=[] then none else A1I s
def uhB (x:V):Bool:=B1d (fun x:V=>(S1 (V3 x)).isSome) x
def uhL (x:V):List V:=B1d (fun x:V=>((S1 (V3 x)).getD []).map nv) x
def uhE (x:V):Bool:=B1d (fun x:V=>((S1 (V3 x)).getD []).isEmpty) x
theorem B2Y (x:V):uhB x=(S1 (V3 x)).isSome:=by rw [uhB,A2b]
theorem A8Q (x:V):uhL x=((S1 (V3 x)).getD []).map nv:=by rw [uhL,A2b]
theorem B2Z (x:V):uhE x=((S1 (V3 x)).getD []).isEmpty:=by rw [uhE,A2b]
def uhr (u b:Nat):List V→List Rs
 | [x]=>[.r u (uhL x) (uhE x),.d b (.b (uhB x))]
 | _=>[]
theorem B20:∀ (k:Nat) (r:List Nat),r.length=2 * k+1→A1I r=none:=by
 intro k
 induction k with
 | zero=>intro r h;match r,h with | [_],_=>rfl
 | succ k ih =>
  intro r h
  match r,h with
  | c::d::r',h =>
   simp only [C3v] at h
   unfold A1I
   split
   ·rw [ih r' (by omega)];rfl
   ·rfl
theorem B21:∀ (k:Nat) (r ys:List Nat),r.length=2 * k→A1I r=some ys→ys.length=k:=by
 intro k
 induction k with
 | zero=>intro r ys h hy;have:=List.length_eq_zero_iff.1 h;subst this;cases hy;rfl
 | succ k ih =>
  intro r ys h hy
  match r,h,hy with
  | c::d::r',h,hy =>
   simp only [C3v] at h
   unfold A1I at hy
   split at hy
   ·obtain ⟨z,hz,rfl⟩:=Option.map_eq_some_iff.1 hy
    rw [C3v,ih r' z (by omega) hz]
   ·cases hy
theorem A8R {a b:List V} (h:a=b):N3 a b=true:=(N4 a b).2 h
theorem A6n {a b:List V} (h:a≠b):N3 a b=false:=by rw [← Bool.not_eq_true,N4];exact h
theorem A6o {a b:List Nat}:a.map nv=b.map nv↔a=b:=by
 constructor
 ·intro h
  have:=congrArg (List.map fun v:V=>v.int.toNat) h
  simpa [nv,V.int,Function.comp_def] using this
 ·rintro rfl;rfl
theorem B5A {u b:Nat} {s:List Nat} (hn:∀ n∈s,n < 256) (hl:s.length≤1000000):uhG u b (s.map nv)=some [.r u (((S1 s).getD []).map nv) ((S1 s).getD []).isEmpty,.d b (.b (S1 s).isSome)]:=by
 unfold uhG S1
 rw [show [V.i (45:Nat)]=([45]:List Nat).map nv from rfl]
 by_cases h1:s=[45]
 ·subst h1;rfl
 ·rw [if_neg h1,A6n (fun h=>h1 (A6o.1 h)),cond_false]
  by_cases h2:s=[]
  ·subst h2;rfl
  ·rw [if_neg h2,A6n (by simpa using h2),cond_false,C3r,A1n (by omega),B2R]
   obtain ⟨k,hk⟩:∃ k,s.length=2 * k∨s.length=2 * k+1:=⟨s.length / 2,by omega⟩
   rcases hk with hk | hk
   ·have e:Int.tmod ((s.length:Nat):Int) 2=0:=by rw [hk,Int.tmod_eq_emod_of_nonneg (by omega)];omega
    rw [e,show decide ((0:Int)=1)=false from rfl,cond_false]
    have hf:k < A7 FU:=by rw [A4M];unfold FU;omega
    have:=B8M (R:=List Rs) (kx:=fun
     | .o xs nl _ _=>some [.r u xs nl,.d b (.b true)]
     | .b _ _ _ _=>some [.r u [] true,.d b (.b false)]) (z:=some [.r u [] true,.d b (.b false)]) (fun _ _ _ _=>rfl) hn hl k s [] [] true (A7 FU) hk rfl (by simp;omega) hf
    refine this.trans ?_
    cases hy:A1I s with
    | none=>rfl
    | some ys =>
     have hlen:=B21 k s ys hk hy
     have h3:s.isEmpty=false:=by cases s with | nil=>exact absurd rfl h2 | cons _ _=>rfl
     have h4:ys.isEmpty=false:=by
      cases ys with
      | nil =>
       simp at hlen
       subst hlen
       exact absurd (List.length_eq_zero_iff.1 (by omega)) h2
      | cons _ _=>rfl
     simp [h3,h4]
   ·have e:Int.tmod ((s.length:Nat):Int) 2=1:=by rw [hk,Int.tmod_eq_emod_of_nonneg (by omega)];omega
    rw [e,show decide ((1:Int)=1)=true from rfl,cond_true,B20 k s hk]
    rfl
variable {R:Type}
theorem B22 {k:Nat} (h:k < 16):dgI (A2d.getD k 0)=k:=by
 rcases k with _ | _ | _ | _ | _ | _ | _ | _ | _ | _ | _ | _ | _ | _ | _ | _ | k<;>first | rfl | omega
theorem B23 {c:Nat} (h:dgI c < 16):A2d.getD (dgI c) 0=c:=by
 unfold dgI at h ⊢
 have hm:c∈A2d:=List.idxOf_lt_length_iff.1 h
 simp only [A2d,List.mem_cons,List.not_mem_nil,or_false] at hm
 rcases hm with rfl | rfl | rfl | rfl | rfl | rfl | rfl | rfl | rfl | rfl | rfl | rfl | rfl | rfl | rfl | rfl<;>rfl
theorem B5B {ns:List Nat} (h:∀ n∈ns,n < 256):A1I (hxN ns)=some ns:=by
 induction ns with
 | nil=>rfl
 | cons n r ih =>
  have hn:=h n (by simp)
  show A1I (A2d.getD (n / 16) 0::A2d.getD (n % 16) 0::hxN r)=_
  rw [A1I,B22 (by omega),B22 (by omega),if_pos ⟨by omega,by omega⟩,ih (fun m hm=>h m (by simp [hm]))]
  show some (_::r)=some (n::r)
  rw [show 16 * (n / 16)+n % 16=n by omega]
theorem A32 {ns:List Nat} (h:∀ n∈ns,n < 256):S1 (A2H ns)=some ns:=by
 unfold A2H
 by_cases h0:ns=[]
 ·subst h0;rfl
 ·rw [if_neg h0,S1]
  have hl:=A3x ns
  have h1:=List.length_pos_iff.2 h0
  rw [if_neg (fun q=>by rw [q] at hl;simp at hl;omega),if_neg (fun q=>by rw [q] at hl;simp at hl;omega),B5B h]
theorem B24 {a b:List Nat} (ha:∀ n∈a,n < 256) (hb:∀ n∈b,n < 256) (h:A2H a=A2H b):a=b:=by
 have:=A32 ha
 rw [h,A32 hb] at this
 injection this with this;exact this.symm
theorem B5C:∀ (k:Nat) (s ys:List Nat),s.length≤k→A1I s=some ys→hxN ys=s:=by
 intro k
 induction k with
 | zero=>intro s ys hk h;have:=List.length_eq_zero_iff.1 (Nat.le_zero.1 hk);subst this;cases h;rfl
 | succ k ih =>
  intro s ys hk h
  match s,hk,h with
  | [],_,h=>cases h;rfl
  | [_],_,h=>cases h
  | a::b::r,hk,h =>
   unfold A1I at h
   split at h
   ·rename_i hd
    obtain ⟨z,hz,rfl⟩:=Option.map_eq_some_iff.1 h
    simp only [C3v] at hk
    show A2d.getD ((16 * dgI a+dgI b) / 16) 0::A2d.getD ((16 * dgI a+dgI b) % 16) 0::hxN z=_
    rw [show (16 * dgI a+dgI b) / 16=dgI a by omega,show (16 * dgI a+dgI b) % 16=dgI b by omega,B23 hd.1,B23 hd.2,ih r z (by omega) hz]
   ·cases h
theorem A8S {s ys:List Nat} (h:S1 s=some ys):A2H ys=s:=by
 unfold S1 at h
 split at h
 ·rename_i q;cases h;rw [q];rfl
 ·split at h
  ·cases h
  ·rename_i h0
   have:=B5C s.length s ys (Nat.le_refl _) h
   unfold A2H
   by_cases hy:ys=[]
   ·subst hy;exact absurd this.symm h0
   ·rw [if_neg hy];exact this
def zUh (s:List V):V :=
 match uhE (.s s) with
 | true=>.n
 | false=>.l (uhL (.s s))
def fhZ (s:List V):Option Unit :=
 bif Nat.ble s.length 1000000 then
  bif uhB (.s s) then
   bif Nat.ble (zUh s).els.length 1000000 then bif N3 (A42 (zUh s)) s then some () else none else none
  else ln (uhL (.s s)).length <| bif ieq ((uhL (.s s)).length:Nat) 0 then some () else none
 else none
def fhA (a:V) (s:List V):Option Unit :=
 ln a.els.length <| bif E8 0 (a.els.length:Nat) then
  (ln (A42 a).length <| ln a.els.length <| bif !(ieq ((A42 a).length:Nat) (R2 (2 * (a.els.length:Nat)))) then none else fhZ s)
 else fhZ s
def fhG (a c:V) (s:List V):Option Unit :=
 ln a.els.length <| bif E8 500 (a.els.length:Nat) then some () else
 ln c.els.length <| bif E8 500 (c.els.length:Nat) then some () else
 ln s.length <| bif E8 500 (s.length:Nat) then some () else
 bif Nat.ble a.els.length 1000000 then bif Nat.ble c.els.length 1000000 then
  bif N3 (A42 a) (A42 c) then (bif N3 a.els c.els then fhA a s else none)
  else bif N3 a.els c.els then none else fhA a s
 else none else none
theorem B5D {s:List Nat} (hl:s.length≤500):fhZ (s.map nv)=some ():=by
 unfold fhZ
 have hb:V3 (.s (s.map nv))=s:=P2 rfl
 rw [C3x (by rw [C3r];omega),cond_true,B2Y,A8Q,hb]
 cases h:S1 s with
 | none=>rfl
 | some ys =>
  have hhex:=A8S h
  have hlen:ys.length≤500:=by
   by_cases hy:ys=[]
   ·subst hy;simp
   ·rw [A2H,if_neg hy] at hhex
    have:=A3x ys
    rw [hhex] at this;omega
  have hz:(zUh (s.map nv)).els=ys.map nv:=by
   unfold zUh
   rw [B2Z,A8Q,hb,h]
   cases ys with
   | nil=>rfl
   | cons _ _=>rfl
  rw [show (some ys).isSome=true from rfl,cond_true,hz,C3x (by rw [C3r];omega),cond_true,A1s,P2 hz,A8R (by rw [hhex]),cond_true]
theorem B5E {a:V} {na s:List Nat} (ha:a.els=na.map nv) (hla:na.length≤500) (hl:s.length≤500):fhA a (s.map nv)=some ():=by
 unfold fhA
 rw [B5D hl,ha,C3r,A1n (by omega),Y9,A1s,P2 ha,C3r]
 by_cases h0:na=[]
 ·subst h0;rfl
 ·have h1:=List.length_pos_iff.2 h0
  have h2:(A2H na).length=2 * na.length:=by rw [A2H,if_neg h0,A3x]
  rw [show decide ((0:Int) < ((na.length:Nat):Int))=true by simp;omega,cond_true,h2,A1n (by omega),A1n (by omega),show (2 * ((na.length:Nat):Int))=((2 * na.length:Nat):Int) by simp,A5m (by omega),B2R]
  simp
theorem B5F {a c:V} {na nc s:List Nat} (ha:a.els=na.map nv) (hc:c.els=nc.map nv) (hna:∀ n∈na,n < 256) (hnc:∀ n∈nc,n < 256) (q1:na.length≤9223372036854775807) (q2:nc.length≤9223372036854775807) (q3:s.length≤9223372036854775807):fhG a c (s.map nv)=some ():=by
 unfold fhG
 rw [ha,hc,C3r,C3r,C3r,A1n (by omega),A1n (by omega),A1n (by omega),Y9,Y9,Y9]
 by_cases h1:500 < na.length
 ·rw [show decide ((500:Int) < ((na.length:Nat):Int))=true by simp;omega];rfl
 rw [show decide ((500:Int) < ((na.length:Nat):Int))=false by simp;omega,cond_false]
 by_cases h2:500 < nc.length
 ·rw [show decide ((500:Int) < ((nc.length:Nat):Int))=true by simp;omega];rfl
 rw [show decide ((500:Int) < ((nc.length:Nat):Int))=false by simp;omega,cond_false]
 by_cases h3:500 < s.length
 ·rw [show decide ((500:Int) < ((s.length:Nat):Int))=true by simp;omega];rfl
 rw [show decide ((500:Int) < ((s.length:Nat):Int))=false by simp;omega,cond_false,C3x (by omega),C3x (by omega),cond_true,cond_true,B5E ha (by omega) (by omega),A1s,A1s,P2 ha,P2 hc]
 by_cases he:na=nc
 ·subst he
  rw [A8R rfl,cond_true,A8R rfl,cond_true]
 ·rw [A6n (fun q=>he (B24 hna hnc (A6o.1 q))),cond_false,A6n (fun q=>he (A6o.1 q)),cond_false]
theorem A5p {a:V} (h:(Vm.D.slice (.int .u8)).has a) (hm:(Vm.D.slice (.int .u8)).sm a):∃ ns:List Nat,a.els=ns.map nv∧(∀ n∈ns,n < 256)∧ns.length≤9223372036854775807:=by
 obtain ⟨ns,h1,h2⟩:=B09 h
 have hm:a.els.length≤9223372036854775807:=hm.1
 rw [h1,C3r] at hm
 exact ⟨ns,h1,h2,hm⟩
end Go.Vm
end