/- What the operations of a program do, shown once for all programs; and numbers. -/
import Derived.Orders
import Derived.Tactics
import Derived.Below
import Derived.RangeFuncIn
import Derived.Laws.MakeOwn
import Derived.Laws.OwnMore
set_option linter.constructorNameAsVariable false
set_option linter.unusedVariables false
set_option linter.unusedSimpArgs false
set_option linter.unnecessarySimpa false
noncomputable section
namespace Go.Vm
open Go.RowKit
abbrev C3n := @Nat.eq_of_beq_eq_true
abbrev C3o := @Bool.and_eq_true
abbrev C3p := @List.length_append
abbrev C3q := @Option.some.injEq
abbrev C3r := @List.length_map
abbrev C3s := @Option.isSome_iff_exists
abbrev C3t := @Nat.le_of_ble_eq_true
abbrev C3u := @Array.length_toList
abbrev C3v := @List.length_cons
abbrev C3w := @List.length_singleton
abbrev C3x := @Nat.ble_eq_true_of_le
abbrev C3y := @List.mem_append
abbrev C3z := @decide_eq_true_eq
abbrev C3A := @List.getElem?_eq_getElem
inductive V where
 | i (n:Int)
 | b (x:Bool)
 | s (l:List V)
 | l (xs:List V)
 | n
 | f (fn:Nat)
 deriving Inhabited
def V.int:V→Int
 | .i k=>k
 | _=>0
def V.bl:V→Bool
 | .b q=>q
 | _=>false
def V.els:V→List V
 | .l q=>q
 | .s q=>q
 | _=>[]
def V.nth (x:V) (k:Nat):V:=x.els.getD k .n
def V.put (x:V) (k:Nat) (y:V):V:=.l (x.els.set k y)
inductive TK where
 | int (k:IntKind) | bool | str | ptr (e:Nat) | slice (e:Nat) | arr (n e:Nat) | struct (fs:List Nat) | map (k e:Nat) | func | other
 deriving Inhabited
structure TE where
 k:TK
 size:Nat
 bytes:Nat
 zero:V
 eq:Bool
def TK.notOther:TK→Bool
 | .other=>false
 | _=>true
def TK.agg:TK→Bool
 | .arr _ _ | .struct _=>true
 | _=>false
abbrev TT:=Nat→Option TE
def B2 (T:TT) (t:Nat):Option TK :=
 match T t with
 | some te=>some te.k
 | none=>none
def B1 (T:TT) (t:Nat):Nat :=
 match T t with
 | some te=>te.size
 | none=>0
def szs (T:TT):List Nat→Nat
 | []=>0
 | t::r=>B1 T t+szs T r
theorem B4 (T:TT) (n t:Nat):szs T (List.replicate n t)=n * B1 T t:=by
 induction n with
 | zero=>simp [szs]
 | succ n ih=>rw [List.replicate_succ,szs,ih,Nat.succ_mul];omega
def one:Value→Bool
 | .agg _ | .tuple _=>false
 | _=>true
theorem B4p {w:World} {a:Addr} {j:Nat} (h:a.spot=none):w.cell? (a.add j)=w.cell? ⟨a.block,a.off+j,none⟩:=by
 obtain ⟨b,o,s⟩:=a
 simp only at h
 subst h
 unfold Addr.add
 split<;>simp_all
def L3 (w:World) (b:Nat):Nat :=
 match w.heap[b]? with
 | some (.cells cs _ _)=>cs.size
 | _=>0
structure A8 where
 w:World
 ι:Nat→Option (Nat×Nat)
 S:Nat→Nat→Prop
 bn:Nat→Nat
 U:Nat→Prop
 ty:Nat→Nat
 ln:Nat→Nat
 G:Nat→Nat→Prop
def Fz (e:A8) (a:Addr) (ds:List Value):Prop:=(ds≠[]→a.spot=none)∧∀ (j:Nat) y,ds[j]? = some y→e.w.cell? (a.add j)=some y∧e.S a.block (a.off+j)
def W9 (s:ByteArray):List V:=s.data.toList.map fun b=>V.i (b.toNat:Int)
def lo:IntKind→Int
 | .i8 => -128
 | .i16 => -32768
 | .i32 => -2147483648
 | .i64 => -9223372036854775808
 | _=>0
def hi:IntKind→Int
 | .i8=>127
 | .i16=>32767
 | .i32=>2147483647
 | .i64=>9223372036854775807
 | .u8=>255
 | .u16=>65535
 | .u32=>4294967295
 | .u64=>18446744073709551615
def inR (k:IntKind) (n:Int):Prop:=lo k≤n∧n≤hi k
theorem J5 (k:IntKind) (n:Int):inR k (k.wrap n):=by
 cases k<;>simp only [inR,lo,hi,IntKind.wrap,IntKind.bits,IntKind.signed]<;>(try split)<;>simp_all<;>omega
inductive RV (T:TT) (e:A8):List Nat→List V→List Value→Prop
 | nil:RV T e [] [] []
 | int {t k n ts xs cs}:B2 T t=some (.int k)→B1 T t=1→inR k n→RV T e ts xs cs→RV T e (t::ts) (.i n::xs) (.int k n::cs)
 | bool {t x ts xs cs}:B2 T t=some .bool→B1 T t=1→RV T e ts xs cs→RV T e (t::ts) (.b x::xs) (.bool x::cs)
 | str {t s ts xs cs}:B2 T t=some .str→B1 T t=1→RV T e ts xs cs→RV T e (t::ts) (.s (W9 s)::xs) (.string s::cs)
 | ptr {t el ts xs cs}:B2 T t=some (.ptr el)→B1 T t=1→RV T e ts xs cs→RV T e (t::ts) (.n::xs) (.pointer none::cs)
 | nils {t el ts xs cs}:B2 T t=some (.slice el)→B1 T t=1→RV T e ts xs cs→RV T e (t::ts) (.n::xs) (.slice none 0 0::cs)
 | map {t k el ts xs cs}:B2 T t=some (.map k el)→B1 T t=1→RV T e ts xs cs→RV T e (t::ts) (.n::xs) (.map none::cs)
 | func {t ts xs cs}:B2 T t=some .func→B1 T t=1→RV T e ts xs cs→RV T e (t::ts) (.n::xs) (.nilFunc::cs)
 | fn {t f ts xs cs}:B2 T t=some .func→B1 T t=1→RV T e ts xs cs→RV T e (t::ts) (.f f::xs) (.func (.func f) #[] #[]::cs)
 | slice {t el ys ds a n cap ts xs cs}:B2 T t=some (.slice el)→B1 T t=1→ys.length=n→n≤cap→Fz e a ds→RV T e (List.replicate n el) ys ds→RV T e ts xs cs→RV T e (t::ts) (.l ys::xs) (.slice (some a) n cap::cs)
 | arr {t n el ys ds ts xs cs}:B2 T t=some (.arr n el)→B1 T t=ds.length→RV T e (List.replicate n el) ys ds→RV T e ts xs cs→RV T e (t::ts) (.l ys::xs) (ds++cs)
 | struct {t fs ys ds ts xs cs}:B2 T t=some (.struct fs)→B1 T t=ds.length→RV T e fs ys ds→RV T e ts xs cs→RV T e (t::ts) (.l ys::xs) (ds++cs)
variable {T:TT}
theorem RV.length {e:A8} {ts:List Nat} {xs:List V} {cs:List Value} (h:RV T e ts xs cs):cs.length=szs T ts∧xs.length=ts.length:=by
 induction h with
 | nil=>exact ⟨rfl,rfl⟩
 | arr _ h2 _ _ _ ih=>obtain ⟨p,q⟩:=ih;constructor<;>simp only [C3p,szs,C3v]<;>omega
 | struct _ h2 _ _ _ ih=>obtain ⟨p,q⟩:=ih;constructor<;>simp only [C3p,szs,C3v]<;>omega
 | slice _ h2 _ _ _ _ _ _ ih=>obtain ⟨p,q⟩:=ih;constructor<;>simp only [szs,C3v]<;>omega
 | int _ h2 _ _ ih=>obtain ⟨p,q⟩:=ih;constructor<;>simp only [szs,C3v]<;>omega
 | _=>rename_i h2 _ ih;obtain ⟨p,q⟩:=ih;constructor<;>simp only [szs,C3v]<;>omega
theorem RV.append {e:A8} {ts ts':List Nat} {xs xs':List V} {cs cs':List Value} (h:RV T e ts xs cs) (h':RV T e ts' xs' cs'):RV T e (ts++ts') (xs++xs') (cs++cs'):=by
 induction h with
 | nil=>exact h'
 | int h1 h2 hr _ ih=>exact .int h1 h2 hr ih
 | bool h1 h2 _ ih=>exact .bool h1 h2 ih
 | str h1 h2 _ ih=>exact .str h1 h2 ih
 | ptr h1 h2 _ ih=>exact .ptr h1 h2 ih
 | nils h1 h2 _ ih=>exact .nils h1 h2 ih
 | map h1 h2 _ ih=>exact .map h1 h2 ih
 | func h1 h2 _ ih=>exact .func h1 h2 ih
 | fn h1 h2 _ ih=>exact .fn h1 h2 ih
 | slice h1 h2 h3 h4 h5 h6 _ _ ih=>exact .slice h1 h2 h3 h4 h5 h6 ih
 | arr h1 h2 h3 _ _ ih=>rw [List.append_assoc];exact .arr h1 h2 h3 ih
 | struct h1 h2 h3 _ _ ih=>rw [List.append_assoc];exact .struct h1 h2 h3 ih
theorem RV.split {e:A8} {ts':List Nat}:∀ (ts:List Nat) {xs:List V} {cs:List Value},RV T e (ts++ts') xs cs →
  ∃ as0 bs cs1 cs2,xs=as0++bs∧cs=cs1++cs2∧RV T e ts as0 cs1∧RV T e ts' bs cs2:=by
 intro ts
 induction ts with
 | nil=>intro xs cs h;exact ⟨[],xs,[],cs,rfl,rfl,.nil,h⟩
 | cons t r ih =>
  intro xs cs h
  rw [List.cons_append] at h
  cases h with
  | int h1 h2 hr h=>obtain ⟨as0,bs,c1,c2,rfl,rfl,p,q⟩:=ih h;exact ⟨_::as0,bs,_::c1,c2,rfl,rfl,.int h1 h2 hr p,q⟩
  | bool h1 h2 h=>obtain ⟨as0,bs,c1,c2,rfl,rfl,p,q⟩:=ih h;exact ⟨_::as0,bs,_::c1,c2,rfl,rfl,.bool h1 h2 p,q⟩
  | str h1 h2 h=>obtain ⟨as0,bs,c1,c2,rfl,rfl,p,q⟩:=ih h;exact ⟨_::as0,bs,_::c1,c2,rfl,rfl,.str h1 h2 p,q⟩
  | ptr h1 h2 h=>obtain ⟨as0,bs,c1,c2,rfl,rfl,p,q⟩:=ih h;exact ⟨_::as0,bs,_::c1,c2,rfl,rfl,.ptr h1 h2 p,q⟩
  | nils h1 h2 h=>obtain ⟨as0,bs,c1,c2,rfl,rfl,p,q⟩:=ih h;exact ⟨_::as0,bs,_::c1,c2,rfl,rfl,.nils h1 h2 p,q⟩
  | map h1 h2 h=>obtain ⟨as0,bs,c1,c2,rfl,rfl,p,q⟩:=ih h;exact ⟨_::as0,bs,_::c1,c2,rfl,rfl,.map h1 h2 p,q⟩
  | func h1 h2 h=>obtain ⟨as0,bs,c1,c2,rfl,rfl,p,q⟩:=ih h;exact ⟨_::as0,bs,_::c1,c2,rfl,rfl,.func h1 h2 p,q⟩
  | fn h1 h2 h=>obtain ⟨as0,bs,c1,c2,rfl,rfl,p,q⟩:=ih h;exact ⟨_::as0,bs,_::c1,c2,rfl,rfl,.fn h1 h2 p,q⟩
  | slice h1 h2 h3 h4 h5 h6 h=>obtain ⟨as0,bs,c1,c2,rfl,rfl,p,q⟩:=ih h;exact ⟨_::as0,bs,_::c1,c2,rfl,rfl,.slice h1 h2 h3 h4 h5 h6 p,q⟩
  | arr h1 h2 h3 h=>obtain ⟨as0,bs,c1,c2,rfl,rfl,p,q⟩:=ih h;exact ⟨_::as0,bs,_++c1,c2,rfl,by rw [List.append_assoc],.arr h1 h2 h3 p,q⟩
  | struct h1 h2 h3 h=>obtain ⟨as0,bs,c1,c2,rfl,rfl,p,q⟩:=ih h;exact ⟨_::as0,bs,_++c1,c2,rfl,by rw [List.append_assoc],.struct h1 h2 h3 p,q⟩
theorem RV.one {e:A8} {ts:List Nat} {xs:List V} {cs:List Value} (h:RV T e ts xs cs):∀ x∈cs,one x=true:=by
 induction h with
 | nil=>intro x hx;cases hx
 | arr _ _ _ _ ih1 ih2=>intro x hx;rcases C3y.1 hx with hx | hx;exact ih1 x hx;exact ih2 x hx
 | struct _ _ _ _ ih1 ih2=>intro x hx;rcases C3y.1 hx with hx | hx;exact ih1 x hx;exact ih2 x hx
 | slice _ _ _ _ _ _ _ _ ih=>intro x hx;rcases List.mem_cons.1 hx with rfl | hx;rfl;exact ih x hx
 | _=>rename_i ih;intro x hx;rcases List.mem_cons.1 hx with rfl | hx;rfl;exact ih x hx
theorem RV.cast {e:A8} {t t':Nat} {x:V} {cs:List Value} (h:RV T e [t] [x] cs) (hk:B2 T t'=B2 T t) (hz:B1 T t'=B1 T t):RV T e [t'] [x] cs:=by
 cases h with
 | int h1 h2 hr h=>exact .int (hk.trans h1) (hz.trans h2) hr h
 | bool h1 h2 h=>exact .bool (hk.trans h1) (hz.trans h2) h
 | str h1 h2 h=>exact .str (hk.trans h1) (hz.trans h2) h
 | ptr h1 h2 h=>exact .ptr (hk.trans h1) (hz.trans h2) h
 | nils h1 h2 h=>exact .nils (hk.trans h1) (hz.trans h2) h
 | map h1 h2 h=>exact .map (hk.trans h1) (hz.trans h2) h
 | func h1 h2 h=>exact .func (hk.trans h1) (hz.trans h2) h
 | fn h1 h2 h=>exact .fn (hk.trans h1) (hz.trans h2) h
 | slice h1 h2 h3 h4 h5 h6 h=>exact .slice (hk.trans h1) (hz.trans h2) h3 h4 h5 h6 h
 | arr h1 h2 h3 h=>exact .arr (hk.trans h1) (hz.trans h2) h3 h
 | struct h1 h2 h3 h=>exact .struct (hk.trans h1) (hz.trans h2) h3 h
structure A8.le (e e':A8):Prop where
 S:∀ b i,e.S b i→e'.S b i∧∀ x,e.w.cell? ⟨b,i,none⟩=some x→e'.w.cell? ⟨b,i,none⟩=some x
 use:∀ id,e.U id→e'.U id
 obj:∀ id,e.U id→e'.bn id=e.bn id→e'.ι id=e.ι id∧e'.ln id=e.ln id∧∀ b o,e.ι id=some (b,o)→L3 e'.w b=L3 e.w b
 box:∀ id,e.U id→e.bn id=0→e'.bn id=0
 up:∀ id,e.U id→e.bn id≤e'.bn id
 ty:∀ id,e.U id→e'.ty id=e.ty id
 grow:e.w.heap.size≤e'.w.heap.size
 keep:∀ b,b < e.w.heap.size→L3 e'.w b=L3 e.w b
theorem A8.le.refl (e:A8):e.le e:=⟨fun _ _ h=>⟨h,fun _ h=>h⟩,fun _ h=>h,fun _ _ _=>⟨rfl,rfl,fun _ _ _=>rfl⟩,fun _ _ h=>h,fun _ _=>Nat.le_refl _,fun _ _=>rfl,Nat.le_refl _,fun _ _=>rfl⟩
theorem A8.le.trans {a b c:A8} (h:a.le b) (k:b.le c):a.le c:=by
 refine ⟨fun q i hs=>⟨(k.S _ _ (h.S _ _ hs).1).1,fun x hx=>(k.S _ _ (h.S _ _ hs).1).2 _ ((h.S _ _ hs).2 _ hx)⟩,fun id hu=>k.use _ (h.use _ hu),fun id hu he=>?_,fun id hu h0=>k.box _ (h.use _ hu) (h.box _ hu h0),fun id hu=>Nat.le_trans (h.up _ hu) (k.up _ (h.use _ hu)),fun id hu=>(k.ty _ (h.use _ hu)).trans (h.ty _ hu),Nat.le_trans h.grow k.grow,fun b hb=>(k.keep b (Nat.lt_of_lt_of_le hb h.grow)).trans (h.keep b hb)⟩
 have h1:=h.up id hu
 have h2:=k.up id (h.use _ hu)
 have e1:b.bn id=a.bn id:=by omega
 obtain ⟨p1,p3,p2⟩:=h.obj id hu e1
 obtain ⟨q1,q3,q2⟩:=k.obj id (h.use _ hu) (by omega)
 exact ⟨q1.trans p1,q3.trans p3,fun q o h0=>(q2 q o (by rw [p1];exact h0)).trans (p2 q o h0)⟩
theorem Fz.mono {e e':A8} (he:e.le e') {a:Addr} {ds:List Value} (h:Fz e a ds):Fz e' a ds:=by
 refine ⟨h.1,fun j y hj=>?_⟩
 obtain ⟨p,q⟩:=h.2 j y hj
 rw [B4p (h.1 (fun hn=>by rw [hn] at hj;simp at hj))] at p ⊢
 exact ⟨(he.S _ _ q).2 _ p,(he.S _ _ q).1⟩
theorem RV.mono {e e':A8} (he:e.le e') {ts:List Nat} {xs:List V} {cs:List Value} (h:RV T e ts xs cs):RV T e' ts xs cs:=by
 induction h with
 | nil=>exact .nil
 | int h1 h2 hr _ ih=>exact .int h1 h2 hr ih
 | bool h1 h2 _ ih=>exact .bool h1 h2 ih
 | str h1 h2 _ ih=>exact .str h1 h2 ih
 | ptr h1 h2 _ ih=>exact .ptr h1 h2 ih
 | nils h1 h2 _ ih=>exact .nils h1 h2 ih
 | map h1 h2 _ ih=>exact .map h1 h2 ih
 | func h1 h2 _ ih=>exact .func h1 h2 ih
 | fn h1 h2 _ ih=>exact .fn h1 h2 ih
 | slice h1 h2 h3 h4 h5 _ _ ih1 ih=>exact .slice h1 h2 h3 h4 (h5.mono he) ih1 ih
 | arr h1 h2 _ _ ih1 ih=>exact .arr h1 h2 ih1 ih
 | struct h1 h2 _ _ ih1 ih=>exact .struct h1 h2 ih1 ih
inductive A where
 | i (k:IntKind) (n:Int)
 | b (x:Bool)
 | s (l:List V)
 | z (v:Value)
 | v (t:Nat) (x:V)
 | p (id t:Nat) (path:List Nat)
 | e (id ver i t:Nat) (path:List Nat)
 | c (t:Nat) (x:V)
 | q (t:Nat) (x:V)
 | o (id ver:Nat)
 | w (id ver off n:Nat)
 | a (id t:Nat) (path:List Nat) (lo m:Nat)
 | m (id:Nat)
 | y (id:Nat)
 | f (fn:Nat) (cap:List A)
 | g (t:Nat) (l:List A)
 | t (l:List A)
 | x
 deriving Inhabited
inductive Pth (T:TT):Nat→List Nat→Nat→Nat→Prop
 | nil {t}:Pth T t [] t 0
 | fld {t fs i ft r t' off}:B2 T t=some (.struct fs)→fs[i]? = some ft→Pth T ft r t' off→Pth T t (i::r) t' (szs T (fs.take i)+off)
 | idx {t n el i r t' off}:B2 T t=some (.arr n el)→i < n→Pth T el r t' off→Pth T t (i::r) t' (i * B1 T el+off)
theorem Pth.append {t:Nat} {p q:List Nat} {t1 o1 t2 o2:Nat} (h:Pth T t p t1 o1) (h':Pth T t1 q t2 o2):Pth T t (p++q) t2 (o1+o2):=by
 induction h with
 | nil=>simpa using h'
 | fld h1 h2 _ ih=>rw [List.cons_append,Nat.add_assoc];exact .fld h1 h2 (ih h')
 | idx h1 h2 _ ih=>rw [List.cons_append,Nat.add_assoc];exact .idx h1 h2 (ih h')
def Q7 (T:TT) (t:Nat):Bool :=
 (match B2 T t with
 | some k=>!k.agg
 | none=>false)&&Nat.beq (B1 T t) 1
def B6 (T:TT) (t:Nat):A→Bool
 | .v t' _ | .g t' _=>Nat.beq t t'
 | .i k _=>(match B2 T t with
  | some (.int k')=>k == k'
  | _=>false)&&Nat.beq (B1 T t) 1
 | .b _=>(match B2 T t with
  | some .bool=>true
  | _=>false)&&Nat.beq (B1 T t) 1
 | .s _=>(match B2 T t with
  | some .str=>true
  | _=>false)&&Nat.beq (B1 T t) 1
 | .t _=>false
 | _=>Q7 T t
def X6 (T:TT):List Nat→List A→Bool
 | [],[]=>true
 | t::ts,a::as0=>B6 T t a&&X6 T ts as0
 | _,_=>false
def chT (T:TT) (t:Nat):Option (List Nat) :=
 match B2 T t with
 | some (.struct fs)=>some fs
 | some (.arr n el)=>some (List.replicate n el)
 | _=>none
def A1Y:Value→Bool
 | .pointer none | .slice none 0 0 | .map none | .nilFunc=>true
 | _=>false
theorem B4q {v:Value} (h:A1Y v=true):one v=true:=by
 cases v<;>first | rfl | (simp [A1Y] at h;done)
theorem E1 {t:Nat} (h:Q7 T t=true):B1 T t=1:=by
 simp only [Q7,C3o] at h;exact C3n h.2
def RB (T:TT) (e:A8) (fn:Nat):List A→Value→Prop
 | [.t [.p id t path]],v=>∃ b off,e.U id∧e.bn id=0∧e.ι id=some (b,0)∧Pth T (e.ty id) path t off∧v=.func (.func fn) #[.pointer (some ⟨b,off,none⟩)] #[]
 | _,_=>False
theorem A0R {T:TT} {e:A8} {fn:Nat} {cap:List A} {v:Value} (h:RB T e fn cap v):∃ id t path,cap=[.t [.p id t path]]∧∃ b off,e.U id∧e.bn id=0∧e.ι id=some (b,0)∧Pth T (e.ty id) path t off∧v=.func (.func fn) #[.pointer (some ⟨b,off,none⟩)] #[]:=by
 unfold RB at h
 split at h
 ·exact ⟨_,_,_,rfl,h⟩
 ·exact h.elim
def bdP:List A→Option A
 | [.t [.p id t path]]=>some (.p id t path)
 | _=>none
def bdF (fn:Nat):List A→List A→Option A
 | [.p id t path],[]=>some (.f fn [.t [.p id t path]])
 | _,_=>none
def R1 (T:TT) (e:A8):A→Value→Prop
 | .x,v=>one v=true
 | .p id t path,v=>∃ b off,e.U id∧e.bn id=0∧e.ι id=some (b,0)∧Pth T (e.ty id) path t off∧v=.pointer (some ⟨b,off,none⟩)
 | .e id ver i t path,v=>one v=true∧e.U id∧ver≤e.bn id∧0 < ver∧(e.bn id=ver→∃ b o off,e.ι id=some (b,o)∧Pth T (e.ty id) path t off∧i < e.ln id∧v=.pointer (some ⟨b,o+i * B1 T (e.ty id)+off,none⟩))
 | .o id ver,v=>one v=true∧e.U id∧ver≤e.bn id∧0 < ver∧(e.bn id=ver→(e.ι id=none∧e.ln id=0∧v=.slice none 0 0) ∨
   ∃ b o cap k,e.ι id=some (b,o)∧e.ln id≤cap∧o+cap * B1 T (e.ty id)=L3 e.w b∧(0 < cap→k=o)∧v=.slice (some ⟨b,k,none⟩) (e.ln id) cap)
 | .w id ver off n,v=>one v=true∧e.U id∧ver≤e.bn id∧0 < ver∧(e.bn id=ver→∃ b o cap k,e.ι id=some (b,o)∧n≤cap∧off+n≤e.ln id∧o+(off+cap) * B1 T (e.ty id)=L3 e.w b∧(0 < cap→k=o+off * B1 T (e.ty id))∧v=.slice (some ⟨b,k,none⟩) n cap)
 | .a id t path lo m,v=>∃ b off n el k cap,e.U id∧e.bn id=0∧e.ι id=some (b,0)∧Pth T (e.ty id) path t off∧B2 T t=some (.arr n el)∧lo+m≤n∧m≤cap∧(0 < cap→k=off+lo * B1 T el)∧v=.slice (some ⟨b,k,none⟩) m cap
 | .m id,v=>∃ b,e.U id∧e.bn id=0∧e.ι id=some (b,0)∧v=.map (some b)
 | .y id,v=>∃ b,e.U id∧e.bn id=0∧e.ι id=some (b,0)∧v=.func (.yield b) #[] #[]
 | .f fn cap,v=>RB T e fn cap v
 | _,_=>False
inductive RA (T:TT) (e:A8):List A→List Value→Prop
 | nil:RA T e [] []
 | i {k n r cs}:inR k n→RA T e r cs→RA T e (.i k n::r) (.int k n::cs)
 | b {x r cs}:RA T e r cs→RA T e (.b x::r) (.bool x::cs)
 | s {s r cs}:RA T e r cs→RA T e (.s (W9 s)::r) (.string s::cs)
 | z {v r cs}:A1Y v=true→RA T e r cs→RA T e (.z v::r) (v::cs)
 | v {t x ds r cs}:RV T e [t] [x] ds→RA T e r cs→RA T e (.v t x::r) (ds++cs)
 | c {t x ds a r cs}:RV T e [t] [x] ds→Fz e a ds→RA T e r cs→RA T e (.c t x::r) (.pointer (some a)::cs)
 | q {t x A n r cs}:RV T e [t] [x] [.slice A n n]→RA T e r cs→RA T e (.q t x::r) (.slice A n n::cs)
 | f {fn cap vs r cs}:RA T e cap vs→RA T e r cs→RA T e (.f fn cap::r) (.func (.func fn) #[] vs.toArray::cs)
 | g {t l ts ds r cs}:chT T t=some ts→X6 T ts l=true→B1 T t=ds.length→RA T e l ds→RA T e r cs→RA T e (.g t l::r) (ds++cs)
 | r {a v r cs}:R1 T e a v→one v=true→RA T e r cs→RA T e (a::r) (v::cs)
theorem R1.mono {e e':A8} (he:e.le e') {a:A} {v:Value} (h:R1 T e a v):R1 T e' a v:=by
 cases a with
 | x=>exact h
 | p id t path =>
  obtain ⟨b,off,h1,h2,h3,h4,h5⟩:=h
  have hb:=he.box _ h1 h2
  exact ⟨b,off,he.use _ h1,hb,by rw [(he.obj _ h1 (by omega)).1];exact h3,by rw [he.ty _ h1];exact h4,h5⟩
 | e id ver i t path =>
  obtain ⟨h0,h1,h2,h3,h4⟩:=h
  have hup:=he.up _ h1
  refine ⟨h0,he.use _ h1,by omega,h3,fun hv=>?_⟩
  obtain ⟨p1,p2,p3⟩:=he.obj _ h1 (by omega)
  obtain ⟨b,o,off,g1,g2,g3,g4⟩:=h4 (by omega)
  exact ⟨b,o,off,by rw [p1];exact g1,by rw [he.ty _ h1];exact g2,by rw [p2];exact g3,by rw [he.ty _ h1];exact g4⟩
 | o id ver =>
  obtain ⟨h0,h1,h2,h3,h4⟩:=h
  have hup:=he.up _ h1
  refine ⟨h0,he.use _ h1,by omega,h3,fun hv=>?_⟩
  obtain ⟨p1,p2,p3⟩:=he.obj _ h1 (by omega)
  rcases h4 (by omega) with ⟨g1,g2,g3⟩ | ⟨b,o,cap,k,g1,g2,g3,g5,g4⟩
  ·exact .inl ⟨by rw [p1];exact g1,by rw [p2];exact g2,g3⟩
  ·exact .inr ⟨b,o,cap,k,by rw [p1];exact g1,by rw [p2];exact g2,by rw [he.ty _ h1,p3 _ _ g1];exact g3,g5,by rw [p2];exact g4⟩
 | w id ver off n =>
  obtain ⟨h0,h1,h2,h3,h4⟩:=h
  have hup:=he.up _ h1
  refine ⟨h0,he.use _ h1,by omega,h3,fun hv=>?_⟩
  obtain ⟨p1,p2,p3⟩:=he.obj _ h1 (by omega)
  obtain ⟨b,o,cap,k,g1,g2,g3,g4,g5,g6⟩:=h4 (by omega)
  exact ⟨b,o,cap,k,by rw [p1];exact g1,g2,by rw [p2];exact g3,by rw [he.ty _ h1,p3 _ _ g1];exact g4,by rw [he.ty _ h1];exact g5,g6⟩
 | a id t path lo m =>
  obtain ⟨b,off,n,el,k,cap,h1,h2,h3,h4,h5⟩:=h
  have hb:=he.box _ h1 h2
  exact ⟨b,off,n,el,k,cap,he.use _ h1,hb,by rw [(he.obj _ h1 (by omega)).1];exact h3,by rw [he.ty _ h1];exact h4,h5⟩
 | m id =>
  obtain ⟨b,h1,h2,h3,h4⟩:=h
  have hb:=he.box _ h1 h2
  exact ⟨b,he.use _ h1,hb,by rw [(he.obj _ h1 (by omega)).1];exact h3,h4⟩
 | y id =>
  obtain ⟨b,h1,h2,h3,h4⟩:=h
  have hb:=he.box _ h1 h2
  exact ⟨b,he.use _ h1,hb,by rw [(he.obj _ h1 (by omega)).1];exact h3,h4⟩
 | f fn cap =>
  obtain ⟨id,t,path,rfl,b,off,h1,h2,h3,h4,h5⟩:=A0R h
  have hb:=he.box _ h1 h2
  exact ⟨b,off,he.use _ h1,hb,by rw [(he.obj _ h1 (by omega)).1];exact h3,by rw [he.ty _ h1];exact h4,h5⟩
 | _=>exact h.elim
theorem RA.mono {e e':A8} (he:e.le e') {l:List A} {cs:List Value} (h:RA T e l cs):RA T e' l cs:=by
 induction h with
 | nil=>exact .nil
 | i hr _ ih=>exact .i hr ih
 | b _ ih=>exact .b ih
 | s _ ih=>exact .s ih
 | z h1 _ ih=>exact .z h1 ih
 | v h1 _ ih=>exact .v (h1.mono he) ih
 | c h1 h2 _ ih=>exact .c (h1.mono he) (h2.mono he) ih
 | q h1 _ ih=>exact .q (h1.mono he) ih
 | f _ _ ih1 ih=>exact .f ih1 ih
 | g h1 h2 h3 _ _ ih1 ih=>exact .g h1 h2 h3 ih1 ih
 | r h1 h2 _ ih=>exact .r (h1.mono he) h2 ih
theorem RA.one_ {e:A8} {l:List A} {cs:List Value} (h:RA T e l cs):∀ x∈cs,one x=true:=by
 induction h with
 | nil=>intro x hx;cases hx
 | v h1 _ ih=>intro x hx;rcases C3y.1 hx with hx | hx;exact h1.one x hx;exact ih x hx
 | g _ _ _ _ _ ih1 ih=>intro x hx;rcases C3y.1 hx with hx | hx;exact ih1 x hx;exact ih x hx
 | r _ h2 _ ih=>intro x hx;rcases List.mem_cons.1 hx with rfl | hx;exact h2;exact ih x hx
 | f _ _ _ ih=>intro x hx;rcases List.mem_cons.1 hx with rfl | hx;rfl;exact ih x hx
 | q _ _ ih=>intro x hx;rcases List.mem_cons.1 hx with rfl | hx;rfl;exact ih x hx
 | c _ _ _ ih=>intro x hx;rcases List.mem_cons.1 hx with rfl | hx;rfl;exact ih x hx
 | i _ _ ih=>intro x hx;rcases List.mem_cons.1 hx with rfl | hx;rfl;exact ih x hx
 | b _ ih=>intro x hx;rcases List.mem_cons.1 hx with rfl | hx;rfl;exact ih x hx
 | s _ ih=>intro x hx;rcases List.mem_cons.1 hx with rfl | hx;rfl;exact ih x hx
 | z h1 _ ih=>intro x hx;rcases List.mem_cons.1 hx with rfl | hx;exact B4q h1;exact ih x hx
theorem RA.append {e:A8} {l m:List A} {xs ys:List Value} (h:RA T e l xs) (k:RA T e m ys):RA T e (l++m) (xs++ys):=by
 induction h with
 | nil=>exact k
 | i hr _ ih=>exact .i hr ih
 | b _ ih=>exact .b ih
 | s _ ih=>exact .s ih
 | z h1 _ ih=>exact .z h1 ih
 | v h1 _ ih=>rw [List.append_assoc];exact .v h1 ih
 | c h1 h2 _ ih=>exact .c h1 h2 ih
 | q h1 _ ih=>exact .q h1 ih
 | f h1 _ _ ih=>exact .f h1 ih
 | g h1 h2 h3 h4 _ _ ih=>rw [List.append_assoc];exact .g h1 h2 h3 h4 ih
 | r h1 h2 _ ih=>exact .r h1 h2 ih
theorem RA.split {e:A8} {m:List A}:∀ (l:List A) {zs:List Value},RA T e (l++m) zs→∃ xs ys,zs=xs++ys∧RA T e l xs∧RA T e m ys:=by
 intro l
 induction l with
 | nil=>intro zs h;exact ⟨[],zs,rfl,.nil,h⟩
 | cons c r ih =>
  intro zs h
  rw [List.cons_append] at h
  cases h with
  | i hr h=>obtain ⟨xs,ys,rfl,a,b⟩:=ih h;exact ⟨_::xs,ys,rfl,.i hr a,b⟩
  | b h=>obtain ⟨xs,ys,rfl,a,b⟩:=ih h;exact ⟨_::xs,ys,rfl,.b a,b⟩
  | s h=>obtain ⟨xs,ys,rfl,a,b⟩:=ih h;exact ⟨_::xs,ys,rfl,.s a,b⟩
  | z h1 h=>obtain ⟨xs,ys,rfl,a,b⟩:=ih h;exact ⟨_::xs,ys,rfl,.z h1 a,b⟩
  | v h1 h=>obtain ⟨xs,ys,rfl,a,b⟩:=ih h;exact ⟨_++xs,ys,by rw [List.append_assoc],.v h1 a,b⟩
  | q h1 h=>obtain ⟨xs,ys,rfl,a,b⟩:=ih h;exact ⟨_::xs,ys,rfl,.q h1 a,b⟩
  | c h1 h2 h=>obtain ⟨xs,ys,rfl,a,b⟩:=ih h;exact ⟨_::xs,ys,rfl,.c h1 h2 a,b⟩
  | f h1 h=>obtain ⟨xs,ys,rfl,a,b⟩:=ih h;exact ⟨_::xs,ys,rfl,.f h1 a,b⟩
  | g h1 h2 h3 h4 h=>obtain ⟨xs,ys,rfl,a,b⟩:=ih h;exact ⟨_++xs,ys,by rw [List.append_assoc],.g h1 h2 h3 h4 a,b⟩
  | r h1 h2 h=>obtain ⟨xs,ys,rfl,a,b⟩:=ih h;exact ⟨_::xs,ys,rfl,.r h1 h2 a,b⟩
def E2 (T:TT) (e:A8) (a:A) (x:Value):Prop :=
 match a with
 | .x=>True
 | .t _=>False
 | .v t v=>RV T e [t] [v] x.cells.toList∧((∃ k,B2 T t=some k∧k.agg=true)↔∃ cs,x=.agg cs)
 | .g t l=>RA T e [.g t l] x.cells.toList∧∃ cs,x=.agg cs
 | a=>RA T e [a] [x]
def B3 (T:TT) (e:A8) (a:A) (x:Value):Prop :=
 match a with
 | .t l=>∃ xs:Array Value,x=.tuple xs∧xs.size=l.length∧∀ (i:Nat) v x,l[i]? = some v→xs[i]? = some x→E2 T e v x
 | a=>E2 T e a x
theorem E2.mono {e e':A8} (he:e.le e') {a:A} {x:Value} (h:E2 T e a x):E2 T e' a x:=by
 cases a<;>simp only [E2] at h ⊢<;>first | exact h.mono he | exact ⟨h.1.mono he,h.2⟩
theorem B3.mono {e e':A8} (he:e.le e') {a:A} {x:Value} (h:B3 T e a x):B3 T e' a x:=by
 cases a<;>simp only [B3] at h ⊢<;>first | exact h.mono he | skip
 obtain ⟨xs,h1,h2,h3⟩:=h
 exact ⟨xs,h1,h2,fun i v x a b=>(h3 i v x a b).mono he⟩
variable {T:TT}
structure LR where
 nt:Nat
 sl:List (Nat×A)
 ps:Array Nat
 asg:Code
 body:Code
 st:LoopState
 pend:Option Code
inductive Ob where
 | box (t:Nat) (a:A) (sh:Bool)
 | row (el ver:Nat) (xs:List V) (nl sh:Bool)
 | map (kt et:Nat) (es:List (V×A))
 | lp (q:Option LR)
 | it (m:Option Nat)
 | vm (kt et:Nat) (es:List (V×V))
 | sm (kt st el:Nat) (es:List (V×V×Bool)) (ho:Option V)
 deriving Inhabited
def A0y (w:World) (b:Nat) (cs:Array Value):Prop:=(∀ i,i < cs.size→w.frozen? ⟨b,i,none⟩=false)∧∀ c t l h,w.heap[b]? = some (.cells c t (l,h))→l≤h
def vms (et:Nat):List (V×V)→List (V×A)
 | []=>[]
 | p::r=>(p.1,.v et p.2)::vms et r
inductive MR (T:TT) (e:A8) (kt et:Nat):List (V×A)→List MapEntry→Prop
 | nil:MR T e kt et [] []
 | cons {k a r m ms}:E2 T e (.v kt k) m.key→E2 T e a m.val→B6 T et a=true→MR T e kt et r ms→MR T e kt et ((k,a)::r) (m::ms)
theorem MR.mono {e e':A8} (he:e.le e') {kt et:Nat} {es:List (V×A)} {ms:List MapEntry} (h:MR T e kt et es ms):MR T e' kt et es ms:=by
 induction h with
 | nil=>exact .nil
 | cons h1 h2 h3 _ ih=>exact .cons (h1.mono he) (h2.mono he) h3 ih
inductive A0z (T:TT) (e:A8) (a kt st el:Nat) (ho:Option V):V×V×Bool→MapEntry→List Nat→Prop
 | lent {k x q m}:E2 T e (.v kt k) m.key→one m.val=true→ho=some k→A0z T e a kt st el ho (k,x,q) m []
 | data {k x m}:E2 T e (.v kt k) m.key→RV T e [st] [x] [m.val]→A0z T e a kt st el ho (k,x,false) m []
 | own {k xs m b o j cap cs fz pre ys post}:E2 T e (.v kt k) m.key→m.val=.slice (some ⟨b,j,none⟩) xs.length cap→(0 < cap→j=o)→e.G a b→e.w.heap[b]? = some (.cells cs el fz)→A0y e.w b cs→cs.toList=pre++ys++post→pre.length=o→RV T e (List.replicate xs.length el) xs ys→xs.length≤cap→o+cap * B1 T el=cs.size→(∀ i,o+ys.length≤i→¬ e.S b i)→A0z T e a kt st el ho (k,.l xs,true) m [b]
inductive SR (T:TT) (e:A8) (a kt st el:Nat) (ho:Option V):List (V×V×Bool)→List MapEntry→List Nat→Prop
 | nil:SR T e a kt st el ho [] [] []
 | cons {p r m ms bs cs}:A0z T e a kt st el ho p m bs→(∀ b∈bs,b ∉ cs)→SR T e a kt st el ho r ms cs→SR T e a kt st el ho (p::r) (m::ms) (bs++cs)
def StB (ms:Array MapEntry) (clock:Nat):Prop:=(∀ x∈ms.toList,x.born < clock)∧(ms.toList.map (·.born)).Nodup
theorem B0G {clock:Nat}:StB #[] clock:=⟨fun x h=>by simp at h,by simp⟩
def OK (T:TT) (e:A8) (id:Nat):Ob→Prop
 | .box t a sh=>e.U id∧e.bn id=0∧e.ty id=t∧B6 T t a=true∧∃ b cs ty fz,e.ι id=some (b,0)∧e.w.heap[b]? = some (.cells cs ty fz)∧A0y e.w b cs∧cs.size=B1 T t∧RA T e [a] cs.toList∧(sh=false→∀ i,¬ e.S b i)∧ty=t
 | .row el ver xs nl sh=>e.U id∧0 < ver∧e.bn id=ver∧e.ty id=el∧e.ln id=xs.length∧0 < B1 T el ∧
   ((nl=true∧e.ι id=none∧xs=[]) ∨
    (nl=false∧∃ b o cs t fz pre ys post,e.ι id=some (b,o)∧e.w.heap[b]? = some (.cells cs t fz)∧A0y e.w b cs∧cs.toList=pre++ys++post∧pre.length=o∧RV T e (List.replicate xs.length el) xs ys ∧
     (∀ i,o+ys.length≤i→¬ e.S b i)∧(sh=false→∀ i,o≤i→¬ e.S b i)∧t=el))
 | .map kt et es=>e.U id∧e.bn id=0∧∃ b ms clock,e.ι id=some (b,0)∧e.w.heap[b]? = some (.map ms clock)∧((es.map (·.1)).Nodup∧StB ms clock)∧∃ es',es'.Perm es∧MR T e kt et es' ms.toList
 | .vm kt et es=>e.U id∧e.bn id=0∧∃ b ms clock,e.ι id=some (b,0)∧e.w.heap[b]? = some (.map ms clock)∧(((vms et es).map (·.1)).Nodup∧StB ms clock)∧∃ es',es'.Perm (vms et es)∧MR T e kt et es' ms.toList
 | .sm kt st el es ho=>e.U id∧e.bn id=0∧B2 T st=some (.slice el)∧B1 T st=1∧0 < B1 T el∧∃ b ms clock,e.ι id=some (b,0)∧e.w.heap[b]? = some (.map ms clock)∧((es.map (·.1)).Nodup∧StB ms clock)∧∃ es' bs,es'.Perm es∧SR T e b kt st el ho es' ms.toList bs
 | .it none=>e.U id∧e.bn id=0∧∃ b x y z,e.ι id=some (b,0)∧e.w.heap[b]? = some (.mapIter none x y z)
 | .it (some m)=>e.U id∧e.bn id=0∧∃ b bm x z,e.ι id=some (b,0)∧e.w.heap[b]? = some (.mapIter (some bm) x #[] z)∧e.U m∧e.bn m=0∧e.ι m=some (bm,0)
 | .lp none=>e.U id∧e.bn id=0∧∃ b,e.ι id=some (b,0)∧e.w.heap[b]? = some (.deferred (some []))
 | .lp (some r)=>e.U id∧e.bn id=0∧∃ b tm df fn,e.ι id=some (b,0)∧e.w.heap[b]? = some (.loop { state:=r.st,pending:=r.pend,fn:=fn,tmps:=tm,params:=r.ps,assign:=r.asg,body:=r.body,defers:=df })∧tm.size=r.nt∧∀ p∈r.sl,E2 T e p.2 (tm.getD p.1 undef)
structure F1 where
 w0:World
 M:Nat→Prop
 S0:Nat→Nat→Prop
 rd:Option Nat:=none
structure GOK (c:F1) (e:A8) (ob:Nat→Option Ob):Prop where
 sep:∀ a b,e.G a b→∀ j b' o,(ob j).isSome→e.ι j=some (b',o)→b'≠b
 uniq:∀ a a' b,e.G a b→e.G a' b→a=a'
 own:∀ a b,e.G a b→c.w0.heap.size≤b∨c.M b
 lt:∀ a b,e.G a b→b < e.w.heap.size
theorem GOK.mono {c c':F1} {e e':A8} {ob ob':Nat→Option Ob} (h:GOK c e ob) (hG:∀ a b,e'.G a b→e.G a b) (hc:c'.w0.heap.size=c.w0.heap.size) (hM:∀ b,c.M b→c'.M b) (hs:e.w.heap.size≤e'.w.heap.size)
  (hι:∀ j b o,(ob' j).isSome→e'.ι j=some (b,o)→(∃ j' o',(ob j').isSome∧e.ι j'=some (b,o'))∨e.w.heap.size≤b):GOK c' e' ob':=by
 refine ⟨fun a b hg j b' o hj hb=>?_,fun a a' b h1 h2=>h.uniq a a' b (hG _ _ h1) (hG _ _ h2),fun a b hg=>?_,fun a b hg=>Nat.lt_of_lt_of_le (h.lt _ _ (hG _ _ hg)) hs⟩
 ·rcases hι j b' o hj hb with ⟨j',o',h1,h2⟩ | h1
  ·exact h.sep a b (hG _ _ hg) j' b' o' h1 h2
  ·have:=h.lt a b (hG _ _ hg);omega
 ·rw [hc];exact (h.own _ _ (hG _ _ hg)).imp id (hM b)
structure A5 (T:TT) (c:F1) (e:A8) (ob:Nat→Option Ob):Prop where
 ok:∀ id o,ob id=some o→OK T e id o
 sep:∀ id id' b o b' o',(ob id).isSome→(ob id').isSome→e.ι id=some (b,o)→e.ι id'=some (b',o')→id≠id'→b≠b'
 own:∀ id b o,(ob id).isSome→e.ι id=some (b,o)→c.w0.heap.size≤b∨c.M b
 lt:∀ id b o,e.U id→e.ι id=some (b,o)→b < e.w.heap.size
 slt:∀ b i,e.S b i→b < e.w.heap.size
 s0:∀ b i,c.S0 b i→e.S b i
 snew:∀ b i,e.S b i→c.S0 b i∨c.w0.heap.size≤b∨c.M b
 os:e.w.os=c.w0.os
 tape:e.w.tape=c.w0.tape
 output:e.w.output=c.w0.output
 size:c.w0.heap.size≤e.w.heap.size
 block:∀ k,k < c.w0.heap.size→¬ c.M k→e.w.heap[k]? = c.w0.heap[k]?
 g:GOK c e ob
theorem Z4 {w w':World} {b i:Nat} {s:Option Nat} (h:w'.heap[b]? = w.heap[b]?):w'.frozen? ⟨b,i,s⟩=w.frozen? ⟨b,i,s⟩:=by
 simp [World.frozen?,h]
theorem C9 {w w':World} {b i:Nat} {s:Option Nat} (h:w'.heap[b]? = w.heap[b]?):w'.cell? ⟨b,i,s⟩=w.cell? ⟨b,i,s⟩:=by
 simp [World.cell?,h]
theorem C3 {w w':World} {b:Nat} (h:w'.heap[b]? = w.heap[b]?):L3 w' b=L3 w b:=by
 simp [L3,h]
theorem A5.ctx {c:F1} {e:A8} {of:Nat→Option Ob} (h:A5 T c e of) (rd:Option Nat):A5 T { c with rd:=rd } e of:=⟨h.ok,h.sep,h.own,h.lt,h.slt,h.s0,h.snew,h.os,h.tape,h.output,h.size,h.block,⟨h.g.sep,h.g.uniq,h.g.own,h.g.lt⟩⟩
theorem A5.unctx {c:F1} {e:A8} {of:Nat→Option Ob} {rd:Option Nat} (h:A5 T { c with rd:=rd } e of):A5 T c e of:=⟨h.ok,h.sep,h.own,h.lt,h.slt,h.s0,h.snew,h.os,h.tape,h.output,h.size,h.block,⟨h.g.sep,h.g.uniq,h.g.own,h.g.lt⟩⟩
theorem A5Y {w w':World} {b:Nat} {cs:Array Value} (h:A0y w b cs) (hh:w'.heap[b]? = w.heap[b]?):A0y w' b cs :=
 ⟨fun i hi=>by rw [Z4 hh];exact h.1 i hi,fun c t l h' hc=>h.2 c t l h' (by rw [← hh];exact hc)⟩
theorem A0z.keep {e e':A8} (he:e.le e') {a kt st el:Nat} {ho:Option V} {p:V×V×Bool} {m:MapEntry} {bs:List Nat} (h:A0z T e a kt st el ho p m bs) (hg:∀ b∈bs,e.G a b→e'.G a b∧e'.w.heap[b]? = e.w.heap[b]? ∧ ∀ i,e'.S b i→e.S b i):A0z T e' a kt st el ho p m bs:=by
 cases h with
 | lent h1 h2 h3=>exact .lent (h1.mono he) h2 h3
 | data h1 h2=>exact .data (h1.mono he) (h2.mono he)
 | own h1 h2 h0 h3 h5 h6 h7 h8 h9 h10 h11 h12 =>
  obtain ⟨g1,g2,g3⟩:=hg _ (by simp) h3
  exact .own (h1.mono he) h2 h0 g1 (by rw [g2];exact h5) (A5Y h6 g2) h7 h8 (h9.mono he) h10 h11 (fun i hi hs=>h12 i hi (g3 i hs))
theorem SR.keep' {e e':A8} (he:e.le e') {a kt st el:Nat} {ho:Option V} {es:List (V×V×Bool)} {ms:List MapEntry} {bs:List Nat} (h:SR T e a kt st el ho es ms bs):(∀ b∈bs,e.G a b→e'.G a b∧e'.w.heap[b]? = e.w.heap[b]? ∧ ∀ i,e'.S b i→e.S b i)→SR T e' a kt st el ho es ms bs:=by
 induction h with
 | nil=>intro _;exact .nil
 | cons h1 h2 _ ih=>intro hg;exact .cons (h1.keep he (fun b hb=>hg b (by simp [hb]))) h2 (ih (fun b hb=>hg b (by simp [hb])))
theorem SR.keep {e e':A8} (he:e.le e') {a kt st el:Nat} {ho:Option V} {es:List (V×V×Bool)} {ms:List MapEntry} {bs:List Nat} (h:SR T e a kt st el ho es ms bs) (hg:∀ b,e.G a b→e'.G a b∧e'.w.heap[b]? = e.w.heap[b]? ∧ ∀ i,e'.S b i→e.S b i):SR T e' a kt st el ho es ms bs:=h.keep' he (fun b _=>hg b)
theorem OK.keep {e e':A8} {id:Nat} {o:Ob} (h:OK T e id o) (he:e.le e') (hb:e'.bn id=e.bn id)
  (hk:∀ b o',e.ι id=some (b,o')→e'.w.heap[b]? = e.w.heap[b]?) (hs:∀ b o' i,e.ι id=some (b,o')→e'.S b i→e.S b i)
  (hg:∀ a o' b,e.ι id=some (a,o')→e.G a b→e'.G a b∧e'.w.heap[b]? = e.w.heap[b]? ∧ ∀ i,e'.S b i→e.S b i):OK T e' id o:=by
 cases o with
 | sm kt st el es ho =>
  obtain ⟨h1,h2,ha,hb',hc,b,ms,clock,h3,h4,h5,es',bs,h6,h7⟩:=h
  exact ⟨he.use _ h1,by omega,ha,hb',hc,b,ms,clock,by rw [(he.obj _ h1 hb).1];exact h3,by rw [hk _ _ h3];exact h4,h5,es',bs,h6,h7.keep he (fun b' hG=>hg b 0 b' h3 hG)⟩
 | box t a sh =>
  obtain ⟨h1,h2,h2',h2'',b,cs,ty,fz,h3,h4,h5,h5',h6,h7⟩:=h
  refine ⟨he.use _ h1,by omega,by rw [he.ty _ h1];exact h2',h2'',b,cs,ty,fz,by rw [(he.obj _ h1 hb).1];exact h3,by rw [hk _ _ h3];exact h4,⟨fun i hi=>by rw [Z4 (hk _ _ h3)];exact h5.1 i hi,fun c t l h hc=>h5.2 c t l h (by rw [← hk _ _ h3];exact hc)⟩,h5',h6.mono he,fun hh i hc=>h7.1 hh i (hs _ _ _ h3 hc),h7.2⟩
 | row el ver xs nl sh =>
  obtain ⟨h1,h2,h3,h4,h4',h5,h6⟩:=h
  refine ⟨he.use _ h1,h2,by omega,by rw [he.ty _ h1];exact h4,by rw [(he.obj _ h1 hb).2.1];exact h4',h5,?_⟩
  rcases h6 with ⟨p,q,r⟩ | ⟨nn,b,o,cs,t,fz,pre,ys,post,g1,g2,g3,g4,g5,g6,g7,g8⟩
  ·exact .inl ⟨p,by rw [(he.obj _ h1 hb).1];exact q,r⟩
  ·exact .inr ⟨nn,b,o,cs,t,fz,pre,ys,post,by rw [(he.obj _ h1 hb).1];exact g1,by rw [hk _ _ g1];exact g2,⟨fun i hi=>by rw [Z4 (hk _ _ g1)];exact g3.1 i hi,fun c t l h hc=>g3.2 c t l h (by rw [← hk _ _ g1];exact hc)⟩,g4,g5,g6.mono he,fun i hi hc=>g7 i hi (hs _ _ _ g1 hc),fun hh i hi hc=>g8.1 hh i hi (hs _ _ _ g1 hc),g8.2⟩
 | map kt et es =>
  obtain ⟨h1,h2,b,ms,clock,h3,h4,h5,es',h6,h7⟩:=h
  exact ⟨he.use _ h1,by omega,b,ms,clock,by rw [(he.obj _ h1 hb).1];exact h3,by rw [hk _ _ h3];exact h4,h5,es',h6,h7.mono he⟩
 | vm kt et es =>
  obtain ⟨h1,h2,b,ms,clock,h3,h4,h5,es',h6,h7⟩:=h
  exact ⟨he.use _ h1,by omega,b,ms,clock,by rw [(he.obj _ h1 hb).1];exact h3,by rw [hk _ _ h3];exact h4,h5,es',h6,h7.mono he⟩
 | it q =>
  cases q with
  | none =>
   obtain ⟨h1,h2,b,x,y,z,h3,h4⟩:=h
   exact ⟨he.use _ h1,by omega,b,x,y,z,by rw [(he.obj _ h1 hb).1];exact h3,by rw [hk _ _ h3];exact h4⟩
  | some m =>
   obtain ⟨h1,h2,b,bm,x,z,h3,h4,h5,h6,h7⟩:=h
   have h0:=he.box _ h5 h6
   exact ⟨he.use _ h1,by omega,b,bm,x,z,by rw [(he.obj _ h1 hb).1];exact h3,by rw [hk _ _ h3];exact h4,he.use _ h5,h0,by rw [(he.obj _ h5 (by omega)).1];exact h7⟩
 | lp q =>
  cases q with
  | none =>
   obtain ⟨h1,h2,b,h3,h4⟩:=h
   exact ⟨he.use _ h1,by omega,b,by rw [(he.obj _ h1 hb).1];exact h3,by rw [hk _ _ h3];exact h4⟩
  | some r =>
   obtain ⟨h1,h2,b,tm,df,fn,h3,h4,h5,h6⟩:=h
   exact ⟨he.use _ h1,by omega,b,tm,df,fn,by rw [(he.obj _ h1 hb).1];exact h3,by rw [hk _ _ h3];exact h4,h5,fun p hp=>(h6 p hp).mono he⟩
theorem OK.use {e:A8} {id:Nat} {o:Ob} (h:OK T e id o):e.U id:=by
 cases o with
 | lp q=>cases q<;>exact h.1
 | it q=>cases q<;>exact h.1
 | _=>exact h.1
def D3 {α:Type} (f:Nat→α) (i:Nat) (x:α):Nat→α:=fun j=>if j=i then x else f j
@[simp] theorem upd_same {α:Type} (f:Nat→α) (i:Nat) (x:α):D3 f i x i=x:=by simp [D3]
theorem A3 {α:Type} (f:Nat→α) {i j:Nat} (x:α) (h:j≠i):D3 f i x j=f j:=by simp [D3,h]
section
variable {c:F1} {e:A8} {ob:Nat→Option Ob}
def A8.new (e:A8) (id ver ty ln:Nat) (cs:Array Value) (t:TypeId) (fz:Nat×Nat):A8 :=
 {w:=e.w.alloc (.cells cs t fz),ι:=D3 e.ι id (some (e.w.heap.size,0)),S:=e.S,bn:=D3 e.bn id ver,U:=fun j=>j=id∨e.U j,ty:=D3 e.ty id ty,ln:=D3 e.ln id ln,G:=e.G }
theorem B5 (w:World) (o:Go.Obj) {k:Nat} (h:k < w.heap.size):(w.alloc o).heap[k]? = w.heap[k]? := Below.heap_alloc w o k h
theorem J2 (w:World) (o:Go.Obj):(w.alloc o).heap[w.heap.size]? = some o:=by show (w.heap.push o)[_]? = _;simp
theorem C6 (w:World) (o:Go.Obj):(w.alloc o).heap.size=w.heap.size+1:=by show (w.heap.push o).size=_;simp
theorem A5.le_new (h:A5 T c e ob) {id:Nat} (hu:¬ e.U id) (ver ty ln:Nat) (cs:Array Value) (t:TypeId) (fz:Nat×Nat):e.le (e.new id ver ty ln cs t fz):=by
 refine ⟨fun b i hs=>⟨hs,fun x hx=>?_⟩,fun _ hj=>.inr hj,fun j hj _=>?_,fun j hj h0=>?_,fun j hj=>?_,fun j hj=>A3 _ _ (fun e=>hu (e ▸ hj)),by show _≤(e.w.alloc _).heap.size;rw [C6];omega,fun b hb=>C3 (B5 _ _ hb)⟩
 ·rw [← hx];exact C9 (B5 _ _ (h.slt _ _ hs))
 ·have hne:j≠id:=fun e=>hu (e ▸ hj)
  exact ⟨A3 _ _ hne,A3 _ _ hne,fun b o hb=>C3 (B5 _ _ (h.lt _ _ _ hj hb))⟩
 ·have hne:j≠id:=fun e=>hu (e ▸ hj)
  show D3 e.bn id ver j=0
  rw [A3 _ _ hne];exact h0
 ·have hne:j≠id:=fun e=>hu (e ▸ hj)
  show _≤D3 e.bn id ver j
  rw [A3 _ _ hne];exact Nat.le_refl _
theorem A5.new (h:A5 T c e ob) {id:Nat} (hu:¬ e.U id) {ver ty ln:Nat} {cs:Array Value} {t:TypeId} {fz:Nat×Nat} {o:Ob} (ho:OK T (e.new id ver ty ln cs t fz) id o) :
  A5 T c (e.new id ver ty ln cs t fz) (D3 ob id (some o)):=by
 have hle:=h.le_new hu ver ty ln cs t fz
 have hnone:ob id=none:=by
  cases hob:ob id with
  | none=>rfl
  | some x=>exact absurd (h.ok _ _ hob).use hu
 have ιne:∀ j,j≠id→(e.new id ver ty ln cs t fz).ι j=e.ι j:=fun j hj=>A3 _ _ hj
 have obne:∀ j,j≠id→D3 ob id (some o) j=ob j:=fun j hj=>A3 _ _ hj
 have old:∀ j b q,(ob j).isSome→e.ι j=some (b,q)→b < e.w.heap.size:=fun j b q hj hb=>by
  obtain ⟨x,hx⟩:=C3s.1 hj
  exact h.lt _ _ _ (h.ok _ _ hx).use hb
 refine ⟨fun j x hj=>?_,fun j k b q b' q' hj hk hb hb' hne=>?_,fun j b q hj hb=>?_,fun j b q hj hb=>?_,fun b i hs=>?_,h.s0,h.snew,h.os,h.tape,h.output,?_,fun k hk hm=>?_,?_⟩
 ·by_cases he:j=id
  ·subst he;rw [upd_same] at hj;cases hj;exact ho
  ·rw [obne _ he] at hj
   exact (h.ok _ _ hj).keep hle (A3 _ _ he) (fun b q hb=>B5 _ _ (old _ _ _ (by rw [hj];rfl) hb)) (fun _ _ _ _ hs=>hs) (fun a o' b _ hG=>⟨hG,B5 _ _ (h.g.lt _ _ hG),fun i hs=>hs⟩)
 ·by_cases h1:j=id
  ·subst h1
   have hk':k≠j:=Ne.symm hne
   rw [obne _ hk'] at hk;rw [ιne _ hk'] at hb'
   have:=old _ _ _ hk hb'
   have hb1:(e.w.heap.size,0)=(b,q):=by simpa [A8.new] using hb
   cases hb1;omega
  ·by_cases h2:k=id
   ·subst h2
    rw [obne _ h1] at hj;rw [ιne _ h1] at hb
    have:=old _ _ _ hj hb
    have hb1:(e.w.heap.size,0)=(b',q'):=by simpa [A8.new] using hb'
    cases hb1;omega
   ·rw [obne _ h1] at hj;rw [obne _ h2] at hk;rw [ιne _ h1] at hb;rw [ιne _ h2] at hb'
    exact h.sep _ _ _ _ _ _ hj hk hb hb' hne
 ·by_cases h1:j=id
  ·subst h1
   have hb1:(e.w.heap.size,0)=(b,q):=by simpa [A8.new] using hb
   cases hb1;exact .inl h.size
  ·rw [obne _ h1] at hj;rw [ιne _ h1] at hb
   exact h.own _ _ _ hj hb
 ·have hsz:(e.new id ver ty ln cs t fz).w.heap.size=e.w.heap.size+1:=C6 _ _
  rw [hsz]
  by_cases h1:j=id
  ·subst h1
   have hb1:(e.w.heap.size,0)=(b,q):=by simpa [A8.new] using hb
   cases hb1;omega
  ·rw [ιne _ h1] at hb
   rcases hj with hj | hj
   ·exact absurd hj h1
   ·have:=h.lt _ _ _ hj hb;omega
 ·have:=h.slt _ _ hs
  show b < (e.w.alloc _).heap.size
  rw [C6];omega
 ·show _≤(e.w.alloc _).heap.size
  rw [C6];have:=h.size;omega
 ·exact (B5 _ _ (by have:=h.size;omega)).trans (h.block k hk hm)
 ·refine h.g.mono (fun _ _ q=>q) rfl (fun _ q=>q) (by show _≤(e.w.alloc _).heap.size;rw [C6];omega) (fun j b o hj hb=>?_)
  by_cases h1:j=id
  ·subst h1
   have hb1:(e.w.heap.size,0)=(b,o):=by simpa [A8.new] using hb
   cases hb1;exact .inr (Nat.le_refl _)
  ·rw [obne _ h1] at hj;rw [ιne _ h1] at hb
   exact .inl ⟨j,o,hj,hb⟩
end
section
variable {c:F1} {e e':A8} {ob:Nat→Option Ob} {id:Nat} {o o':Ob}
theorem A5.turn (h:A5 T c e ob) (hob:ob id=some o) (hle:e.le e')
  (hι:∀ j,j≠id→e'.ι j=e.ι j) (hbn:∀ j,j≠id→e'.bn j=e.bn j) (hU:∀ j,e'.U j→e.U j)
  (hb:∀ k,k < e.w.heap.size→(∀ q,e.ι id≠some (k,q))→e'.w.heap[k]? = e.w.heap[k]?)
  (hsz:e.w.heap.size≤e'.w.heap.size)
  (hS:∀ k i,e'.S k i→e.S k i∨∃ q,e.ι id=some (k,q))
  (hnew:∀ b q,e'.ι id=some (b,q)→(∃ q0,e.ι id=some (b,q0))∨(e.w.heap.size≤b∧b < e'.w.heap.size))
  (hos:e'.w.os=e.w.os) (htape:e'.w.tape=e.w.tape) (hout:e'.w.output=e.w.output)
  (ho:OK T e' id o') (hGe:e'.G=e.G:=by rfl):A5 T c e' (D3 ob id (some o')):=by
 have hsome:(ob id).isSome:=by rw [hob];rfl
 have hu:e.U id:=(h.ok _ _ hob).use
 have obne:∀ j,j≠id→D3 ob id (some o') j=ob j:=fun j hj=>A3 _ _ hj
 have old:∀ j b q,(ob j).isSome→e.ι j=some (b,q)→b < e.w.heap.size:=fun j b q hj hb=>by
  obtain ⟨x,hx⟩:=C3s.1 hj
  exact h.lt _ _ _ (h.ok _ _ hx).use hb
 refine ⟨fun j x hj=>?_,fun j k b q b' q' hj hk hb1 hb2 hne=>?_,fun j b q hj hb1=>?_,fun j b q hj hb1=>?_,fun b i hs=>?_,fun b i hs=>(hle.S _ _ (h.s0 _ _ hs)).1,fun b i hs=>?_,hos.trans h.os,htape.trans h.tape,hout.trans h.output,Nat.le_trans h.size hsz,fun k hk hm=>?_,?_⟩
 ·by_cases he:j=id
  ·subst he;rw [upd_same] at hj;cases hj;exact ho
  ·rw [obne _ he] at hj
   have hj':(ob j).isSome:=by rw [hj];rfl
   refine (h.ok _ _ hj).keep hle (hbn _ he) (fun b q hq=>hb _ (old _ _ _ hj' hq) (fun q' hq'=>?_)) (fun b q i hq hs=>?_) (fun a q b hq hG=>⟨hGe ▸ hG,hb _ (h.g.lt _ _ hG) (fun q' hq'=>h.g.sep _ _ hG _ _ _ hsome hq' rfl),fun i hs=>(hS _ _ hs).elim (fun q=>q) (fun ⟨q',hq'⟩=>absurd rfl (h.g.sep _ _ hG _ _ _ hsome hq'))⟩)
   ·exact absurd rfl (h.sep _ _ _ _ _ _ hj' hsome hq hq' he)
   ·rcases hS _ _ hs with hs | ⟨q',hq'⟩
    ·exact hs
    ·exact absurd rfl (h.sep _ _ _ _ _ _ hj' hsome hq hq' he)
 ·by_cases h1:j=id
  ·subst h1
   have hk':k≠j:=Ne.symm hne
   rw [obne _ hk'] at hk;rw [hι _ hk'] at hb2
   rcases hnew _ _ hb1 with ⟨q0,h0⟩ | ⟨h0,_⟩
   ·exact h.sep _ _ _ _ _ _ hsome hk h0 hb2 hne
   ·have:=old _ _ _ hk hb2;omega
  ·by_cases h2:k=id
   ·subst h2
    rw [obne _ h1] at hj;rw [hι _ h1] at hb1
    rcases hnew _ _ hb2 with ⟨q0,h0⟩ | ⟨h0,_⟩
    ·exact h.sep _ _ _ _ _ _ hj hsome hb1 h0 hne
    ·have:=old _ _ _ hj hb1;omega
   ·rw [obne _ h1] at hj;rw [obne _ h2] at hk;rw [hι _ h1] at hb1;rw [hι _ h2] at hb2
    exact h.sep _ _ _ _ _ _ hj hk hb1 hb2 hne
 ·by_cases h1:j=id
  ·subst h1
   rcases hnew _ _ hb1 with ⟨q0,h0⟩ | ⟨h0,_⟩
   ·exact h.own _ _ _ hsome h0
   ·have:=h.size;exact .inl (by omega)
  ·rw [obne _ h1] at hj;rw [hι _ h1] at hb1
   exact h.own _ _ _ hj hb1
 ·by_cases h1:j=id
  ·subst h1
   rcases hnew _ _ hb1 with ⟨q0,h0⟩ | ⟨_,h0⟩
   ·have:=h.lt _ _ _ hu h0;omega
   ·exact h0
  ·rw [hι _ h1] at hb1
   have:=h.lt _ _ _ (hU _ hj) hb1;omega
 ·rcases hS _ _ hs with hs | ⟨q,hq⟩
  ·have:=h.slt _ _ hs;omega
  ·have:=h.lt _ _ _ hu hq;omega
 ·rcases hS _ _ hs with hs | ⟨q,hq⟩
  ·exact h.snew _ _ hs
  ·exact .inr (h.own _ _ _ hsome hq)
 ·refine (hb k (by have:=h.size;omega) (fun q hq=>?_)).trans (h.block k hk hm)
  rcases h.own _ _ _ hsome hq with h0 | h0
  ·omega
  ·exact hm h0
 ·refine h.g.mono (fun _ _ q=>hGe ▸ q) rfl (fun _ q=>q) hsz (fun j b o hj hb1=>?_)
  by_cases h1:j=id
  ·subst h1
   rcases hnew _ _ hb1 with ⟨q0,h0⟩ | ⟨h0,_⟩
   ·exact .inl ⟨j,q0,hsome,h0⟩
   ·exact .inr h0
  ·rw [obne _ h1] at hj;rw [hι _ h1] at hb1
   exact .inl ⟨j,o,hj,hb1⟩
end
theorem A3o (w:World) (p:Addr) (u:Value) {k:Nat} (h:k≠p.block):(w.setCell p u).heap[k]? = w.heap[k]? := Below.heap_setCell w p u k h
theorem A6M (w:World) (p:Addr) (u:Value):(w.setCell p u).heap.size=w.heap.size:=by simp [World.setCell]
theorem R9 {w:World} {b i:Nat} {cs:Array Value} {t:TypeId} {fz:Nat×Nat} (u:Value) (h:w.heap[b]? = some (.cells cs t fz)) :
  (w.setCell ⟨b,i,none⟩ u).heap[b]? = some (.cells (cs.setIfInBounds i u) t fz):=by
 simp [World.setCell,Array.getElem?_modify,h]
def D0 (w:World) (b:Nat):Nat→List Value→World
 | _,[]=>w
 | i,u::us=>D0 (w.setCell ⟨b,i,none⟩ u) b (i+1) us
theorem F2 (us:List Value):∀ (w:World) (b i:Nat) {k:Nat},k≠b→(D0 w b i us).heap[k]? = w.heap[k]? := by
 induction us with
 | nil=>intro w b i k _;rfl
 | cons u us ih=>intro w b i k h;exact (ih _ _ _ h).trans (A3o _ _ _ h)
theorem N6 (us:List Value):∀ (w:World) (b i:Nat),(D0 w b i us).heap.size=w.heap.size:=by
 induction us with
 | nil=>intro w b i;rfl
 | cons u us ih=>intro w b i;exact (ih _ _ _).trans (A6M _ _ _)
theorem Q1 (us:List Value):∀ (w:World) (b i:Nat),(D0 w b i us).os=w.os∧(D0 w b i us).tape=w.tape∧(D0 w b i us).output=w.output:=by
 induction us with
 | nil=>intro w b i;exact ⟨rfl,rfl,rfl⟩
 | cons u us ih=>intro w b i;exact ih (w.setCell ⟨b,i,none⟩ u) b (i+1)
theorem L7 (us:List Value):∀ {w:World} {b i:Nat} {cs:Array Value} {t:TypeId} {fz:Nat×Nat},w.heap[b]? = some (.cells cs t fz)→i+us.length≤cs.size →
  ∃ cs':Array Value,(D0 w b i us).heap[b]? = some (.cells cs' t fz)∧cs'.toList=cs.toList.take i++us++cs.toList.drop (i+us.length):=by
 induction us with
 | nil=>intro w b i cs t fz h _;exact ⟨cs,h,by simp⟩
 | cons u us ih =>
  intro w b i cs t fz h hl
  simp only [C3v] at hl
  obtain ⟨cs',h1,h2⟩:=ih (i:=i+1) (R9 (i:=i) u h) (by simp;omega)
  refine ⟨cs',h1,h2.trans ?_⟩
  have hlt:i < cs.toList.length:=by simp;omega
  have hti:(cs.toList.take i).length=i:=by rw [List.length_take];omega
  have e1:(cs.toList.take i++u::cs.toList.drop (i+1)).take (i+1)=cs.toList.take i++[u]:=by
   rw [List.take_append,hti,List.take_of_length_le (by omega),show i+1 - i=1 from by omega];rfl
  have e2:(cs.toList.take i++u::cs.toList.drop (i+1)).drop (i+1+us.length)=cs.toList.drop (i+(us.length+1)):=by
   rw [List.drop_append,hti,List.drop_of_length_le (by omega),show i+1+us.length - i=us.length+1 from by omega,List.drop_succ_cons,List.drop_drop,List.nil_append]
   congr 1
   omega
  rw [Array.toList_setIfInBounds,List.set_eq_take_append_cons_drop,if_pos hlt,e1,e2]
  simp
def TK.fits (T:TT):TK→TypeDesc→Prop
 | .int k,.int k'=>k=k'
 | .bool,.bool=>True
 | .str,.string=>True
 | .ptr e,.pointer e'=>e=e'
 | .slice e,.slice e'=>e=e'
 | .arr n e,.array n' e'=>n=n'∧e=e'
 | .struct fs,.struct gs=>gs.toList.map (·.type)=fs∧∀ (j:Nat) g,gs[j]? = some g→g.offset=szs T (fs.take j)
 | .map k e,.map k' e'=>k=k'∧e=e'
 | .func,.func _ _ _=>True
 | .other,d=>(∀ gs,d≠.struct gs)∧∀ n e,d≠.array n e
 | _,_=>False
structure A0A (P:Program) (T:TT) (t:Nat) (te:TE):Prop where
 fits:∃ i d z,P.info? t=some i∧P.underlying t=some d∧i.size=te.size∧i.bytes=te.bytes∧te.k.fits T d∧i.zero=some z∧((∀ e,RV T e [t] [te.zero] z.cells.toList)∨te.k=.other)∧(te.k.agg=true↔∃ cs,z=.agg cs)
 eqok:te.eq=true→P.eqGuardType P.depth t=false∧P.stoodInHeld t=false∧∀ gs,P.underlying t=some (.struct gs)→∀ f∈gs.toList,f.name≠"_"
def F4 (T:TT) (P:Program):Prop:=∀ t te,T t=some te→A0A P T t te
theorem A6 {T:TT} {t:Nat} {k:TK} (h:B2 T t=some k):∃ te,T t=some te∧te.k=k:=by
 unfold B2 at h
 split at h
 ·rename_i te hte;injection h with h;exact ⟨te,hte,h⟩
 ·cases h
theorem E4 {T:TT} {t:Nat} {te:TE} (h:T t=some te):B1 T t=te.size:=by simp [B1,h]
theorem G2 {T:TT} {t:Nat} {te:TE} (h:T t=some te):B2 T t=some te.k:=by simp [B2,h]
variable {P:Program} {T:TT}
theorem A4u {t:Nat} {i:TypeInfo} (h:P.info? t=some i) (w:World):(typeInfo t).run P w=.ok i w:=by
 simp [typeInfo,h]
theorem A2 {t:Nat} {d:TypeDesc} (h:P.underlying t=some d) (w:World):(underlying t).run P w=.ok d w:=by
 simp [underlying,h]
theorem C7 {t:Nat} {te:TE} (h:A0A P T t te) (w:World):(sizeOf t).run P w=.ok te.size w:=by
 obtain ⟨i,d,z,h1,h2,h3,h4,h5,h6,h7,h8⟩:=h.fits
 simp [sizeOf,A4u h1,h3]
theorem A2p {t:Nat} {te:TE} (h:A0A P T t te) (w:World):(isAgg t).run P w=.ok te.k.agg w:=by
 obtain ⟨i,d,z,h1,h2,h3,h4,h5,h6,h7,h8⟩:=h.fits
 simp only [isAgg,Sem.run_bind,A2 h2,Result.andThen_ok]
 cases hk:te.k<;>cases d<;>simp only [hk,TK.fits,TK.agg] at h5 ⊢<;>first | rfl | (cases h5;done) | skip
 all_goals first | exact absurd rfl (h5.1 _) | exact absurd rfl (h5.2 _ _)
theorem A4v {t:Nat} {te:TE} (h:A0A P T t te) (w:World):∃ z,(zeroValue t).run P w=.ok z w∧((∀ e,RV T e [t] [te.zero] z.cells.toList)∨te.k=.other)∧(te.k.agg=true↔∃ cs,z=.agg cs):=by
 obtain ⟨i,d,z,h1,h2,h3,h4,h5,h6,h7,h8⟩:=h.fits
 exact ⟨z,by simp [zeroValue,A4u h1,h6],h7,h8⟩
theorem R5 {t:Nat} {te:TE} (h:A0A P T t te):∃ d,P.underlying t=some d∧te.k.fits T d:=by
 obtain ⟨i,d,z,h1,h2,h3,h4,h5,h6,h7,h8⟩:=h.fits
 exact ⟨d,h2,h5⟩
theorem N7 {t:Nat} {te:TE} {k:IntKind} (h:A0A P T t te) (hk:te.k=.int k):P.underlying t=some (.int k):=by
 obtain ⟨d,h1,h2⟩:=R5 h
 rw [hk] at h2;cases d<;>simp only [TK.fits] at h2;subst h2;exact h1
theorem D4 {t el:Nat} {te:TE} (h:A0A P T t te) (hk:te.k=.slice el):P.underlying t=some (.slice el):=by
 obtain ⟨d,h1,h2⟩:=R5 h
 rw [hk] at h2;cases d<;>simp only [TK.fits] at h2;subst h2;exact h1
theorem L8 {t:Nat} {te:TE} (h:A0A P T t te) (hk:te.k=.str):P.underlying t=some .string:=by
 obtain ⟨d,h1,h2⟩:=R5 h
 rw [hk] at h2;cases d<;>simp only [TK.fits] at h2;exact h1
theorem Z5 {t:Nat} {te:TE} (h:A0A P T t te) (hk:te.k=.bool):P.underlying t=some .bool:=by
 obtain ⟨d,h1,h2⟩:=R5 h
 rw [hk] at h2;cases d<;>simp only [TK.fits] at h2;exact h1
theorem L9 {t n el:Nat} {te:TE} (h:A0A P T t te) (hk:te.k=.arr n el):P.underlying t=some (.array n el):=by
 obtain ⟨d,h1,h2⟩:=R5 h
 rw [hk] at h2;cases d<;>simp only [TK.fits] at h2;obtain ⟨rfl,rfl⟩:=h2;exact h1
theorem H2 {t k el:Nat} {te:TE} (h:A0A P T t te) (hk:te.k=.map k el):P.underlying t=some (.map k el):=by
 obtain ⟨d,h1,h2⟩:=R5 h
 rw [hk] at h2;cases d<;>simp only [TK.fits] at h2;obtain ⟨rfl,rfl⟩:=h2;exact h1
theorem J6 {t:Nat} {fs:List Nat} {te:TE} (h:A0A P T t te) (hk:te.k=.struct fs):∃ gs:Array Field,P.underlying t=some (.struct gs)∧gs.toList.map (·.type)=fs∧∀ (j:Nat) g,gs[j]? = some g→g.offset=szs T (fs.take j):=by
 obtain ⟨d,h1,h2⟩:=R5 h
 rw [hk] at h2;cases d<;>simp only [TK.fits] at h2;exact ⟨_,h1,h2⟩
theorem X7 {fs:List Nat} {gs:Array Field} {i ft:Nat} (h:gs.toList.map (·.type)=fs) (hf:fs[i]? = some ft):∃ g,gs[i]? = some g∧g.type=ft:=by
 subst h
 rw [List.getElem?_map,Option.map_eq_some_iff] at hf
 obtain ⟨g,hg,rfl⟩:=hf
 exact ⟨g,by simpa using hg,rfl⟩
theorem A6N (w:World) (a:Addr):∀ (ys:List Value) (i:Nat) (acc:Array Value),(∀ j y,ys[j]? = some y→w.cell? (a.add (i+j))=some y) →
  (loadCellsFrom a i ys.length acc).run P w=.ok (acc++ys.toArray) w:=by
 intro ys
 induction ys with
 | nil=>intro i acc _;simp [loadCellsFrom]
 | cons y ys ih =>
  intro i acc h
  have h0:=h 0 y (by simp)
  simp only [C3v,loadCellsFrom,Sem.run_bind]
  have hl:(load (a.add i)).run P w=.ok y w:=by simp only [Nat.add_zero] at h0;simp [load,Sem.run,h0]
  rw [hl,Result.andThen_ok,ih (i+1) (acc.push y) (fun j z hj=>by rw [show i+1+j=i+(j+1) from by omega];exact h (j+1) z (by simpa using hj))]
  simp
theorem V6 (w:World) (a:Addr) (ys:List Value) (h:∀ j y,ys[j]? = some y→w.cell? (a.add j)=some y):(loadCells a ys.length).run P w=.ok ys.toArray w:=by
 simp [loadCells,A6N w a ys 0 #[] (by simpa using h)]
theorem A48 (b o:Nat):∀ (us:List Value) (i:Nat) (w:World) (cs:Array Value) (t:TypeId) (fz:Nat×Nat),w.heap[b]? = some (.cells cs t fz)→A0y w b cs→(∀ u∈us,one u=true) →
  o+i+us.length≤cs.size→(storeCells ⟨b,o,none⟩ us i).run P w=.ok () (D0 w b (o+i) us):=by
 intro us
 induction us with
 | nil=>intro i w cs t fz _ _ _ _;simp [storeCells,D0]
 | cons u us ih =>
  intro i w cs t fz h hf h1 hl
  simp only [C3v] at hl
  have ha:(⟨b,o,none⟩:Addr).add i=⟨b,o+i,none⟩:=by unfold Addr.add;split<;>simp_all
  have hc:w.cell? ⟨b,o+i,none⟩=some (cs[o+i]'(by omega)):=by simp [World.cell?,h]
  have hs:(store ((⟨b,o,none⟩:Addr).add i) u).run P w=.ok () (w.setCell ⟨b,o+i,none⟩ u):=by
   have hu:=h1 u (by simp)
   rw [ha]
   cases u<;>first | (simp [one] at hu;done) | simp [store,Sem.run,hc,hf.1 _ (show o+i < cs.size by omega)]
  simp only [storeCells,Sem.run_bind,hs,Result.andThen_ok]
  have hfr:A0y (w.setCell ⟨b,o+i,none⟩ u) b (cs.setIfInBounds (o+i) u):=by
   refine ⟨fun j hj=>?_,fun c t l hh hc=>?_⟩
   ·have:=hf.1 j (by simpa using hj)
    simp only [World.frozen?,h,R9 u h] at this ⊢
    exact this
   ·rw [R9 u h] at hc
    injection hc with hc;injection hc with e1 e2 e3
    exact hf.2 cs _ l hh (by rw [h,e3])
  have:=ih (i+1) (w.setCell ⟨b,o+i,none⟩ u) (cs.setIfInBounds (o+i) u) t fz (R9 u h) hfr (fun u hu=>h1 u (by simp [hu])) (by simp;omega)
  rw [this]
  rfl
theorem T7 {b o:Nat} {us:List Value} {w:World} {cs:Array Value} {t:TypeId} {fz:Nat×Nat} (h:w.heap[b]? = some (.cells cs t fz)) (hf:A0y w b cs) (h1:∀ u∈us,one u=true)
  (hl:o+us.length≤cs.size):(storeCells ⟨b,o,none⟩ us).run P w=.ok () (D0 w b o us):=A48 b o us 0 w cs t fz h hf h1 hl
def B9 (P:Program) (s:Sem Next) (w:World) (R:Value→World→Prop):Prop :=
 (∃ x w',s.run P w=.ok (.value x) w'∧R x w')∨(∃ w',s.run P w=.ok .skip w'∧R undef w') ∨
  (∃ f args w1,s.run P w=.ok (.enter f args) w1∧Calls P f args w1 fun en w'=>∃ x,en=.returned x∧R x w') ∨
  ∃ l f tmps asg body w1,s.run P w=.ok (.round l f tmps asg body) w1∧RoundIn Fence.wide 0 P l f tmps asg body w1 fun en w'=>∃ x,en=.returned x∧R x w'
structure Out where
 val:A
 wo:List (Nat×Ob)
 ro:List Nat
 nw:List Nat
def Out.pure (v:A):Out:=⟨v,[],[],[]⟩
def put (of:Nat→Option Ob):List (Nat×Ob)→Nat→Option Ob
 | []=>of
 | (id,o)::r=>put (D3 of id (some o)) r
def C4 (T:TT) (c:F1) (e:A8) (of:Nat→Option Ob) (out:Out) (x:Value) (w':World):Prop :=
 ∃ e':A8,e'.w=w'∧A5 T c e' (put of out.wo)∧e.le e'∧(∀ id,e'.U id→e.U id∨id∈out.nw)∧B3 T e' out.val x
theorem A4 {c:F1} {e:A8} {of:Nat→Option Ob} {v:A} {x:Value} (h:A5 T c e of) (hv:B3 T e v x) {ro:List Nat}:C4 T c e of ⟨v,[],ro,[]⟩ x e.w :=
 ⟨e,rfl,h,A8.le.refl e,fun _ hu=>.inl hu,hv⟩
theorem A1 {s:Sem Value} {w:World} {x:Value} {w':World} {R:Value→World→Prop} (h:s.run P w=.ok x w') (hr:R x w') :
  B9 P (do pure (.value (← s))) w R:=.inl ⟨x,w',by simp [h],hr⟩
variable {P:Program} {T:TT} {c:F1} {e:A8} {of:Nat→Option Ob}
theorem RV.cons_inv {t:Nat} {ts:List Nat} {x:V} {xs:List V} {cs:List Value} (h:RV T e (t::ts) (x::xs) cs):∃ d r,cs=d++r∧RV T e [t] [x] d∧RV T e ts xs r:=by
 obtain ⟨as0,bs,c1,c2,h1,rfl,p,q⟩:=RV.split [t] h
 obtain ⟨a,rfl⟩:∃ a,as0=[a]:=by
  have:=p.length.2
  match as0,this with
  | [a],_=>exact ⟨a,rfl⟩
 injection h1 with h1 h2
 subst h1;subst h2
 exact ⟨c1,c2,rfl,p,q⟩
theorem RV.at {ts:List Nat} {ys:List V} {ds:List Value} (h:RV T e ts ys ds) {i t:Nat} (hi:ts[i]? = some t) :
  ∃ y pre d post,ys[i]? = some y∧ds=pre++(d++post)∧pre.length=szs T (ts.take i)∧d.length=B1 T t∧RV T e [t] [y] d:=by
 have hlt:=(List.getElem?_eq_some_iff.1 hi).1
 have hsp:ts=ts.take i++(t::ts.drop (i+1)):=by
  have h1:=(List.getElem?_eq_some_iff.1 hi).2
  rw [← h1,List.getElem_cons_drop,List.take_append_drop]
 rw [hsp] at h
 obtain ⟨as0,bs,c1,c2,rfl,rfl,p,q⟩:=h.split
 obtain ⟨y,r,rfl⟩:∃ y r,bs=y::r:=by
  have:=q.length.2
  match bs,this with
  | y::r,_=>exact ⟨y,r,rfl⟩
 obtain ⟨d,post,rfl,p1,p2⟩:=q.cons_inv
 have hal:as0.length=i:=by rw [p.length.2,List.length_take];omega
 refine ⟨y,c1,d,post,?_,rfl,p.length.1,?_,p1⟩
 ·rw [List.getElem?_append_right (by omega),hal];simp
 ·rw [p1.length.1];simp [szs]
theorem RV.put {ts:List Nat} {ys:List V} {ds:List Value} (h:RV T e ts ys ds) {i t:Nat} (hi:ts[i]? = some t) {y':V} {d':List Value} (hy:RV T e [t] [y'] d') :
  ∀ {pre d post:List Value},ds=pre++(d++post)→pre.length=szs T (ts.take i)→d.length=B1 T t→RV T e ts (ys.set i y') (pre++(d'++post)):=by
 intro pre d post hds hp hd
 have hlt:=(List.getElem?_eq_some_iff.1 hi).1
 have hsp:ts=ts.take i++(t::ts.drop (i+1)):=by
  have h1:=(List.getElem?_eq_some_iff.1 hi).2
  rw [← h1,List.getElem_cons_drop,List.take_append_drop]
 rw [hsp] at h
 obtain ⟨as0,bs,c1,c2,rfl,h0,p,q⟩:=h.split
 obtain ⟨y,r,rfl⟩:∃ y r,bs=y::r:=by
  have:=q.length.2
  match bs,this with
  | y::r,_=>exact ⟨y,r,rfl⟩
 obtain ⟨d0,post0,rfl,p1,p2⟩:=q.cons_inv
 have hal:as0.length=i:=by rw [p.length.2,List.length_take];omega
 have hd0:d0.length=B1 T t:=by rw [p1.length.1];simp [szs]
 rw [hds] at h0
 obtain ⟨rfl,h1⟩:=List.append_inj h0 (by rw [hp,p.length.1])
 obtain ⟨rfl,rfl⟩:=List.append_inj h1 (by rw [hd,hd0])
 rw [List.set_append_right _ _ (by omega),hal,Nat.sub_self,List.set_cons_zero]
 rw [hsp]
 exact p.append (hy.append p2)
theorem RV.one_len {t:Nat} {x:V} {d:List Value} (h:RV T e [t] [x] d):d.length=B1 T t:=by rw [h.length.1];simp [szs]
def mkA (T:TT) (t:Nat) (x:V):A :=
 match B2 T t with
 | some (.int k)=>.i k x.int
 | some .bool=>.b x.bl
 | some .str=>.s x.els
 | some .func=>match x with
  | .f fn=>.f fn []
  | x=>.v t x
 | _=>.v t x
def norm (T:TT):A→A
 | .v t x=>mkA T t x
 | a=>a
theorem RA.v1 {t:Nat} {x:V} {cs:List Value} (h:RV T e [t] [x] cs):RA T e [.v t x] cs:=by
 have:=RA.v h (.nil (T:=T) (e:=e));simpa using this
theorem RV.int_inv {t:Nat} {k:IntKind} {x:V} {cs:List Value} (h:RV T e [t] [x] cs) (hk:B2 T t=some (.int k)):∃ n,x=.i n∧cs=[.int k n]∧inR k n:=by
 cases h with
 | int h1 h2 hr h=>rw [hk] at h1;cases h1;cases h;exact ⟨_,rfl,rfl,hr⟩
 | bool h1=>rw [hk] at h1;cases h1
 | str h1=>rw [hk] at h1;cases h1
 | ptr h1=>rw [hk] at h1;cases h1
 | nils h1=>rw [hk] at h1;cases h1
 | map h1=>rw [hk] at h1;cases h1
 | func h1=>rw [hk] at h1;cases h1
 | fn h1=>rw [hk] at h1;cases h1
 | slice h1=>rw [hk] at h1;cases h1
 | arr h1=>rw [hk] at h1;cases h1
 | struct h1=>rw [hk] at h1;cases h1
theorem RV.bool_inv {t:Nat} {x:V} {cs:List Value} (h:RV T e [t] [x] cs) (hk:B2 T t=some .bool):∃ q,x=.b q∧cs=[.bool q]:=by
 cases h with
 | bool h1 h2 h=>cases h;exact ⟨_,rfl,rfl⟩
 | int h1=>rw [hk] at h1;cases h1
 | str h1=>rw [hk] at h1;cases h1
 | ptr h1=>rw [hk] at h1;cases h1
 | nils h1=>rw [hk] at h1;cases h1
 | map h1=>rw [hk] at h1;cases h1
 | func h1=>rw [hk] at h1;cases h1
 | fn h1=>rw [hk] at h1;cases h1
 | slice h1=>rw [hk] at h1;cases h1
 | arr h1=>rw [hk] at h1;cases h1
 | struct h1=>rw [hk] at h1;cases h1
theorem RV.str_inv {t:Nat} {x:V} {cs:List Value} (h:RV T e [t] [x] cs) (hk:B2 T t=some .str):∃ s,x=.s (W9 s)∧cs=[.string s]:=by
 cases h with
 | str h1 h2 h=>cases h;exact ⟨_,rfl,rfl⟩
 | int h1=>rw [hk] at h1;cases h1
 | bool h1=>rw [hk] at h1;cases h1
 | ptr h1=>rw [hk] at h1;cases h1
 | nils h1=>rw [hk] at h1;cases h1
 | map h1=>rw [hk] at h1;cases h1
 | func h1=>rw [hk] at h1;cases h1
 | fn h1=>rw [hk] at h1;cases h1
 | slice h1=>rw [hk] at h1;cases h1
 | arr h1=>rw [hk] at h1;cases h1
 | struct h1=>rw [hk] at h1;cases h1
theorem RV.struct_inv {t:Nat} {fs:List Nat} {x:V} {cs:List Value} (h:RV T e [t] [x] cs) (hk:B2 T t=some (.struct fs)):∃ ys,x=.l ys∧RV T e fs ys cs:=by
 cases h with
 | struct h1 h2 h3 h=>rw [hk] at h1;cases h1;cases h;exact ⟨_,rfl,by simpa using h3⟩
 | int h1=>rw [hk] at h1;cases h1
 | str h1=>rw [hk] at h1;cases h1
 | bool h1=>rw [hk] at h1;cases h1
 | ptr h1=>rw [hk] at h1;cases h1
 | nils h1=>rw [hk] at h1;cases h1
 | map h1=>rw [hk] at h1;cases h1
 | func h1=>rw [hk] at h1;cases h1
 | fn h1=>rw [hk] at h1;cases h1
 | slice h1=>rw [hk] at h1;cases h1
 | arr h1=>rw [hk] at h1;cases h1
theorem RV.arr_inv {t n el:Nat} {x:V} {cs:List Value} (h:RV T e [t] [x] cs) (hk:B2 T t=some (.arr n el)):∃ ys,x=.l ys∧ys.length=n∧RV T e (List.replicate n el) ys cs:=by
 cases h with
 | arr h1 h2 h3 h=>rw [hk] at h1;cases h1;cases h;exact ⟨_,rfl,by rw [h3.length.2];simp,by simpa using h3⟩
 | int h1=>rw [hk] at h1;cases h1
 | str h1=>rw [hk] at h1;cases h1
 | bool h1=>rw [hk] at h1;cases h1
 | ptr h1=>rw [hk] at h1;cases h1
 | nils h1=>rw [hk] at h1;cases h1
 | map h1=>rw [hk] at h1;cases h1
 | func h1=>rw [hk] at h1;cases h1
 | fn h1=>rw [hk] at h1;cases h1
 | slice h1=>rw [hk] at h1;cases h1
 | struct h1=>rw [hk] at h1;cases h1
theorem RV.slice_inv {t el:Nat} {x:V} {cs:List Value} (h:RV T e [t] [x] cs) (hk:B2 T t=some (.slice el)) :
  (x=.n∧cs=[.slice none 0 0])∨∃ ys ds a cap,x=.l ys∧cs=[.slice (some a) ys.length cap]∧ys.length≤cap∧Fz e a ds∧RV T e (List.replicate ys.length el) ys ds:=by
 cases h with
 | nils h1 h2 h=>cases h;exact .inl ⟨rfl,rfl⟩
 | slice h1 h2 h3 h4 h5 h6 h=>rw [hk] at h1;cases h1;cases h;subst h3;exact .inr ⟨_,_,_,_,rfl,rfl,h4,h5,h6⟩
 | int h1=>rw [hk] at h1;cases h1
 | str h1=>rw [hk] at h1;cases h1
 | bool h1=>rw [hk] at h1;cases h1
 | ptr h1=>rw [hk] at h1;cases h1
 | map h1=>rw [hk] at h1;cases h1
 | func h1=>rw [hk] at h1;cases h1
 | fn h1=>rw [hk] at h1;cases h1
 | arr h1=>rw [hk] at h1;cases h1
 | struct h1=>rw [hk] at h1;cases h1
theorem RV.func_inv {t:Nat} {x:V} {cs:List Value} (h:RV T e [t] [x] cs) (hk:B2 T t=some .func):(x=.n∧cs=[.nilFunc])∨∃ fn,x=.f fn∧cs=[.func (.func fn) #[] #[]]:=by
 cases h with
 | func h1 h2 h=>cases h;exact .inl ⟨rfl,rfl⟩
 | fn h1 h2 h=>cases h;exact .inr ⟨_,rfl,rfl⟩
 | int h1=>rw [hk] at h1;cases h1
 | bool h1=>rw [hk] at h1;cases h1
 | str h1=>rw [hk] at h1;cases h1
 | ptr h1=>rw [hk] at h1;cases h1
 | nils h1=>rw [hk] at h1;cases h1
 | map h1=>rw [hk] at h1;cases h1
 | slice h1=>rw [hk] at h1;cases h1
 | arr h1=>rw [hk] at h1;cases h1
 | struct h1=>rw [hk] at h1;cases h1
theorem A2V {t:Nat} {x:V} {cs:List Value} (h:RV T e [t] [x] cs):RA T e [mkA T t x] cs:=by
 unfold mkA
 split
 ·rename_i k hk
  obtain ⟨m,rfl,rfl,hr⟩:=h.int_inv hk
  exact .i hr .nil
 ·rename_i hk
  obtain ⟨m,rfl,rfl⟩:=h.bool_inv hk
  exact .b .nil
 ·rename_i hk
  obtain ⟨m,rfl,rfl⟩:=h.str_inv hk
  exact .s .nil
 ·rename_i hk
  rcases h.func_inv hk with ⟨rfl,rfl⟩ | ⟨fn,rfl,rfl⟩
  ·exact .v1 h
  ·exact RA.f .nil .nil
 ·exact .v1 h
theorem RA.v_inv {t:Nat} {x:V} {cs:List Value} (h:RA T e [.v t x] cs):RV T e [t] [x] cs:=by
 cases h with
 | v h1 h2=>cases h2;simpa using h1
 | r h1 _ _=>exact h1.elim
theorem B6L {a:A} {cs:List Value} (h:RA T e [a] cs):RA T e [norm T a] cs:=by
 cases a<;>first | exact h | exact A2V h.v_inv
theorem RA.width {t:Nat} {a:A} {d:List Value} (h:RA T e [a] d) (hf:B6 T t a=true):d.length=B1 T t:=by
 cases h with
 | i _ h=>cases h;simp only [B6,C3o] at hf;exact (C3n hf.2).symm
 | b h=>cases h;simp only [B6,C3o] at hf;exact (C3n hf.2).symm
 | s h=>cases h;simp only [B6,C3o] at hf;exact (C3n hf.2).symm
 | z h1 h=>cases h;simp only [B6] at hf;exact (E1 hf).symm
 | v h1 h=>cases h;simp only [B6] at hf;rw [C3n hf];simpa using h1.one_len
 | c h1 h2 h=>cases h;simp only [B6] at hf;exact (E1 hf).symm
 | q h1 h=>cases h;simp only [B6] at hf;exact (E1 hf).symm
 | f h1 h=>cases h;simp only [B6] at hf;exact (E1 hf).symm
 | g h1 h2 h3 h4 h=>cases h;simp only [B6] at hf;rw [C3n hf];simpa using h3.symm
 | @r a v _ _ h1 h2 h =>
  cases h
  cases a<;>simp only [B6] at hf<;>first | exact (E1 hf).symm | exact h1.elim
def B4r (T:TT) (t i:Nat):Option Nat :=
 match B2 T t with
 | some (.struct fs)=>fs[i]?
 | some (.arr _ el)=>some el
 | _=>none
def atA (T:TT):A→List Nat→Option A
 | a,[]=>some (norm T a)
 | .v t x,i::r=>match B4r T t i with
  | some ct=>atA T (.v ct (x.nth i)) r
  | none=>none
 | .g _ l,i::r=>match l[i]? with
  | some a=>atA T a r
  | none=>none
 | _,_::_=>none
def A2q:A→Option V
 | .i _ k=>some (.i k)
 | .b q=>some (.b q)
 | .s l=>some (.s l)
 | .v _ x=>some x
 | _=>none
def B4s (T:TT) (x:V):Nat→List Nat→List A
 | _,[]=>[]
 | j,t::r=>mkA T t (x.nth j)::B4s T x (j+1) r
def A0S (T:TT):A→List Nat→A→Option A
 | _,[],b=>some b
 | .v t x,i::r,b=>match B4r T t i,chT T t with
  | some ct,some ts=>match A0S T (.v ct (x.nth i)) r b with
   | some a=>match A2q a with
    | some y=>some (.v t (x.put i y))
    | none=>some (.g t ((B4s T x 0 ts).set i a))
   | none=>none
  | _,_=>none
 | .g t l,i::r,b=>match l[i]? with
  | some a=>match A0S T a r b with
   | some a'=>some (.g t (l.set i a'))
   | none=>none
  | none=>none
 | _,_::_,_=>none
theorem A1Z {ys:List V} {i:Nat} {y:V} (h:ys[i]? = some y):(V.l ys).nth i=y:=by
 show ys.getD i .n=y
 simp [List.getD,h]
theorem Pth.cons_inv {t i t' off:Nat} {r:List Nat} (h:Pth T t (i::r) t' off):∃ ts ct o',chT T t=some ts∧ts[i]? = some ct∧B4r T t i=some ct∧Pth T ct r t' o'∧off=szs T (ts.take i)+o':=by
 cases h with
 | fld h1 h2 h3=>exact ⟨_,_,_,by simp [chT,h1],h2,by simp [B4r,h1,h2],h3,rfl⟩
 | idx h1 h2 h3 =>
  refine ⟨List.replicate _ _,_,_,by simp only [chT,h1];rfl,by rw [List.getElem?_replicate,if_pos h2],by simp [B4r,h1],h3,?_⟩
  rw [List.take_replicate,B4,Nat.min_eq_left (by omega)]
theorem RV.parts {t:Nat} {ts:List Nat} {x:V} {cs:List Value} (h:RV T e [t] [x] cs) (hc:chT T t=some ts):∃ ys,x=.l ys∧RV T e ts ys cs:=by
 unfold chT at hc
 split at hc
 ·rename_i fs hk;injection hc with hc;subst hc;exact h.struct_inv hk
 ·rename_i n el hk;injection hc with hc;subst hc;obtain ⟨ys,h1,_,h2⟩:=h.arr_inv hk;exact ⟨ys,h1,h2⟩
 ·cases hc
theorem RV.whole {t:Nat} {ts:List Nat} {ys:List V} {cs:List Value} (h:RV T e ts ys cs) (hc:chT T t=some ts) (hs:B1 T t=cs.length):RV T e [t] [.l ys] cs:=by
 unfold chT at hc
 split at hc
 ·rename_i fs hk;injection hc with hc;subst hc;have:=RV.struct hk hs h .nil;simpa using this
 ·rename_i n el hk;injection hc with hc;subst hc;have:=RV.arr hk hs h .nil;simpa using this
 ·cases hc
theorem RA.uncons {a:A} {l:List A} {cs:List Value} (h:RA T e (a::l) cs):∃ d r,cs=d++r∧RA T e [a] d∧RA T e l r:=RA.split [a] h
theorem RA.at:∀ {ts:List Nat} {l:List A} {ds:List Value},RA T e l ds→X6 T ts l=true→∀ {i t:Nat},ts[i]? = some t →
  ∃ a pre d post,l[i]? = some a∧ds=pre++(d++post)∧pre.length=szs T (ts.take i)∧d.length=B1 T t∧RA T e [a] d∧B6 T t a=true:=by
 intro ts
 induction ts with
 | nil=>intro l ds _ _ i t h;simp at h
 | cons t0 ts ih =>
  intro l ds h hf i t hi
  cases l with
  | nil=>simp [X6] at hf
  | cons a l =>
   simp only [X6,C3o] at hf
   obtain ⟨d,r,rfl,h1,h2⟩:=h.uncons
   cases i with
   | zero =>
    simp only [List.getElem?_cons_zero,C3q] at hi
    subst hi
    exact ⟨a,[],d,r,rfl,rfl,by simp [szs],h1.width hf.1,h1,hf.1⟩
   | succ i =>
    simp only [List.getElem?_cons_succ] at hi
    obtain ⟨a',pre,d',post,g1,rfl,g2,g3,g4,g5⟩:=ih h2 hf.2 hi
    refine ⟨a',d++pre,d',post,g1,by simp,?_,g3,g4,g5⟩
    rw [C3p,h1.width hf.1,g2,List.take_succ_cons,szs]
theorem RA.put:∀ {ts:List Nat} {l:List A} {ds:List Value},RA T e l ds→X6 T ts l=true→∀ {i t:Nat},ts[i]? = some t→∀ {a':A} {d':List Value},RA T e [a'] d'→B6 T t a'=true →
  ∀ {pre d post:List Value},ds=pre++(d++post)→pre.length=szs T (ts.take i)→d.length=B1 T t→RA T e (l.set i a') (pre++(d'++post))∧X6 T ts (l.set i a')=true:=by
 intro ts
 induction ts with
 | nil=>intro l ds _ _ i t h;simp at h
 | cons t0 ts ih =>
  intro l ds h hf i t hi a' d' ha' hfa pre d post hds hp hd
  cases l with
  | nil=>simp [X6] at hf
  | cons a l =>
   simp only [X6,C3o] at hf
   obtain ⟨d0,r,rfl,h1,h2⟩:=h.uncons
   cases i with
   | zero =>
    simp only [List.getElem?_cons_zero,C3q] at hi
    subst hi
    have:pre=[]:=by simpa [szs] using hp
    subst this
    rw [List.nil_append] at hds
    obtain ⟨rfl,rfl⟩:=List.append_inj hds (by rw [h1.width hf.1];exact hd.symm)
    exact ⟨ha'.append h2,by simp [X6,hfa,hf.2]⟩
   | succ i =>
    simp only [List.getElem?_cons_succ] at hi
    rw [List.take_succ_cons,szs] at hp
    obtain ⟨q,rfl⟩:∃ q,pre=d0++q:=by
     have hl:d0.length≤pre.length:=by rw [h1.width hf.1];omega
     refine ⟨pre.drop d0.length,?_⟩
     have h3:=congrArg (List.take d0.length) hds
     rw [List.take_left,List.take_append_of_le_length hl] at h3
     conv=>lhs;rw [← List.take_append_drop d0.length pre]
     rw [← h3]
    rw [List.append_assoc] at hds
    have hds':=List.append_cancel_left hds
    obtain ⟨g1,g2⟩:=ih h2 hf.2 hi ha' hfa hds' (by rw [C3p,h1.width hf.1] at hp;omega) hd
    refine ⟨?_,by simp only [List.set_cons_succ,X6,hf.1,g2];rfl⟩
    rw [List.set_cons_succ,List.append_assoc]
    exact h1.append g1
theorem G9 (t:Nat) (x:V):B6 T t (.v t x)=true:=by simp [B6]
theorem A1w {t:Nat} {x:V} {d:List Value} (h:RV T e [t] [x] d):B6 T t (mkA T t x)=true:=by
 unfold mkA
 split
 ·rename_i k hk
  obtain ⟨m,rfl,rfl,hr⟩:=h.int_inv hk
  have:=h.one_len
  simp only [C3v,List.length_nil] at this
  simp [B6,hk,← this]
 ·rename_i hk
  obtain ⟨m,rfl,rfl⟩:=h.bool_inv hk
  have:=h.one_len
  simp only [C3v,List.length_nil] at this
  simp [B6,hk,← this]
 ·rename_i hk
  obtain ⟨m,rfl,rfl⟩:=h.str_inv hk
  have:=h.one_len
  simp only [C3v,List.length_nil] at this
  simp [B6,hk,← this]
 ·rename_i hk
  rcases h.func_inv hk with ⟨rfl,rfl⟩ | ⟨fn,rfl,rfl⟩
  ·exact G9 t _
  ·have:=h.one_len
   simp only [C3v,List.length_nil] at this
   simp [B6,Q7,hk,← this,TK.agg]
 ·exact G9 t x
theorem B11 {t:Nat} {a:A} {d:List Value} (h:RA T e [a] d) (hf:B6 T t a=true):B6 T t (norm T a)=true:=by
 cases a<;>first | exact hf | skip
 simp only [B6] at hf
 have:=C3n hf
 subst this
 exact A1w h.v_inv
theorem R6:∀ (path:List Nat) {t t' off:Nat} {a a':A} {cs:List Value},RA T e [a] cs→B6 T t a=true→Pth T t path t' off→atA T a path=some a' →
  ∃ pre d post,cs=pre++(d++post)∧pre.length=off∧d.length=B1 T t'∧RA T e [a'] d∧B6 T t' a'=true:=by
 intro path
 induction path with
 | nil =>
  intro t t' off a a' cs h hf hp hat
  cases hp
  simp only [atA,C3q] at hat
  subst hat
  exact ⟨[],cs,[],by simp,rfl,h.width hf,B6L h,B11 h hf⟩
 | cons i r ih =>
  intro t t' off a a' cs h hf hp hat
  obtain ⟨ts,ct,o',h1,h2,h3,h4,rfl⟩:=hp.cons_inv
  cases a with
  | v t0 x =>
   simp only [B6] at hf
   have:=C3n hf
   subst this
   simp only [atA,h3] at hat
   obtain ⟨ys,rfl,hy⟩:=h.v_inv.parts h1
   obtain ⟨y,pre,d,post,g1,rfl,g2,g3,g4⟩:=hy.at h2
   rw [A1Z g1] at hat
   obtain ⟨p2,d2,q2,rfl,k1,k2,k3,k4⟩:=ih (.v1 g4) (G9 ct y) h4 hat
   exact ⟨pre++p2,d2,q2++post,by simp,by rw [C3p,g2,k1],k2,k3,k4⟩
  | g t0 l =>
   simp only [B6] at hf
   have:=C3n hf
   subst this
   cases h with
   | g g1 g2 g3 g4 g5 =>
    cases g5
    rw [h1] at g1;cases g1
    obtain ⟨a1,pre,d,post,k1,rfl,k2,k3,k4,k5⟩:=g4.at g2 h2
    simp only [atA,k1] at hat
    obtain ⟨p2,d2,q2,rfl,k6,k7,k8,k9⟩:=ih k4 k5 h4 hat
    exact ⟨pre++p2,d2,q2++post,by simp,by rw [C3p,k2,k6],k7,k8,k9⟩
   | r g1 _ _=>exact g1.elim
  | _=>simp [atA] at hat
theorem A3H {t:Nat} {a:A} {y:V} {d:List Value} (h:RA T e [a] d) (hf:B6 T t a=true) (hp:A2q a=some y):RV T e [t] [y] d:=by
 cases a<;>simp only [A2q,C3q] at hp<;>try (cases hp;done)
 ·subst hp
  cases h with
  | i hr h =>
   cases h
   simp only [B6,C3o] at hf
   obtain ⟨q1,q2⟩:=hf
   split at q1
   ·rename_i k' hk
    simp only [beq_iff_eq] at q1
    subst q1
    exact .int hk (C3n q2) hr .nil
   ·cases q1
  | r g1 _ _=>exact g1.elim
 ·subst hp
  cases h with
  | b h =>
   cases h
   simp only [B6,C3o] at hf
   obtain ⟨q1,q2⟩:=hf
   split at q1
   ·rename_i hk
    exact .bool hk (C3n q2) .nil
   ·cases q1
  | r g1 _ _=>exact g1.elim
 ·subst hp
  cases h with
  | s h =>
   cases h
   simp only [B6,C3o] at hf
   obtain ⟨q1,q2⟩:=hf
   split at q1
   ·rename_i hk
    exact .str hk (C3n q2) .nil
   ·cases q1
  | r g1 _ _=>exact g1.elim
 ·subst hp
  simp only [B6] at hf
  have:=C3n hf
  subst this
  exact h.v_inv
theorem B12:∀ {ts:List Nat} {ys:List V} {ds:List Value} (x:V) (j:Nat),RV T e ts ys ds→(∀ (k:Nat) y,ys[k]? = some y→x.nth (j+k)=y)→RA T e (B4s T x j ts) ds∧X6 T ts (B4s T x j ts)=true:=by
 intro ts
 induction ts with
 | nil =>
  intro ys ds x j h _
  have h1:=h.length.2
  have h2:=h.length.1
  cases ys<;>simp at h1
  simp only [szs,List.length_eq_zero_iff] at h2
  subst h2
  exact ⟨.nil,rfl⟩
 | cons t ts ih =>
  intro ys ds x j h hx
  cases ys with
  | nil=>have:=h.length.2;simp at this
  | cons y ys =>
   obtain ⟨d,r,rfl,h1,h2⟩:=h.cons_inv
   have e0:=hx 0 y rfl
   obtain ⟨g1,g2⟩:=ih x (j+1) h2 (fun k y' hk=>by rw [show j+1+k=j+(k+1) by omega];exact hx (k+1) y' hk)
   simp only [Nat.add_zero] at e0
   simp only [B4s,e0]
   exact ⟨(A2V h1).append g1,by simp only [X6,A1w h1,g2];rfl⟩
theorem A1x:∀ (path:List Nat) {t t' off:Nat} {a a' b:A} {cs ns:List Value},RA T e [a] cs→B6 T t a=true→Pth T t path t' off→RA T e [b] ns→B6 T t' b=true→A0S T a path b=some a' →
  ∃ pre d post,cs=pre++(d++post)∧pre.length=off∧d.length=B1 T t'∧RA T e [a'] (pre++(ns++post))∧B6 T t a'=true:=by
 intro path
 induction path with
 | nil =>
  intro t t' off a a' b cs ns h hf hp hb hfb hput
  cases hp
  cases a<;>simp only [A0S,C3q] at hput<;>subst hput<;>exact ⟨[],cs,[],by simp,rfl,h.width hf,by simpa using hb,hfb⟩
 | cons i r ih =>
  intro t t' off a a' b cs ns h hf hp hb hfb hput
  obtain ⟨ts,ct,o',h1,h2,h3,h4,rfl⟩:=hp.cons_inv
  cases a with
  | v t0 x =>
   simp only [B6] at hf
   have:=C3n hf
   subst this
   have hv:=h.v_inv
   obtain ⟨ys,rfl,hy⟩:=hv.parts h1
   obtain ⟨y,pre,d,post,g1,rfl,g2,g3,g4⟩:=hy.at h2
   simp only [A0S,h3,h1,A1Z g1] at hput
   split at hput
   ·rename_i a1 ha1
    obtain ⟨p2,d2,q2,rfl,k1,k2,k3,k4⟩:=ih (.v1 g4) (G9 ct y) h4 hb hfb ha1
    refine ⟨pre++p2,d2,q2++post,by simp,by rw [C3p,g2,k1],k2,?_⟩
    have hw:=k3.width k4
    split at hput
    ·rename_i y' hy'
     injection hput with hput
     subst hput
     have hyy:=hy.put h2 (A3H k3 k4 hy') rfl g2 g3
     have hsz:B1 T t=(pre++((p2++(ns++q2))++post)).length:=by
      have:=hv.one_len
      simp only [C3p] at this hw g3 ⊢
      omega
     have:=RV.whole hyy h1 hsz
     simp only [V.put,V.els,List.append_assoc] at this ⊢
     exact ⟨.v1 this,G9 _ _⟩
    ·injection hput with hput
     subst hput
     obtain ⟨x1,x2⟩:=B12 (.l ys) 0 hy (fun k y hk=>by rw [Nat.zero_add];exact A1Z hk)
     obtain ⟨x3,x4⟩:=x1.put x2 h2 k3 k4 rfl g2 g3
     have hsz:B1 T t=(pre++((p2++(ns++q2))++post)).length:=by
      have:=hv.one_len
      simp only [C3p] at this hw g3 ⊢
      omega
     have:=RA.g h1 x4 hsz x3 .nil
     simp only [List.append_assoc,List.append_nil] at this ⊢
     exact ⟨this,by simp [B6]⟩
   ·cases hput
  | g t0 l =>
   simp only [B6] at hf
   have:=C3n hf
   subst this
   cases h with
   | g g1 g2 g3 g4 g5 =>
    cases g5
    rw [h1] at g1;cases g1
    obtain ⟨a1,pre,d,post,k1,rfl,k2,k3,k4,k5⟩:=g4.at g2 h2
    simp only [A0S,k1] at hput
    split at hput
    ·rename_i a2 ha2
     injection hput with hput
     subst hput
     obtain ⟨p2,d2,q2,rfl,k6,k7,k8,k9⟩:=ih k4 k5 h4 hb hfb ha2
     refine ⟨pre++p2,d2,q2++post,by simp,by rw [C3p,k2,k6],k7,?_⟩
     have hw:=k8.width k9
     obtain ⟨x3,x4⟩:=g4.put g2 h2 k8 k9 rfl k2 k3
     have hsz:B1 T t=(pre++((p2++(ns++q2))++post)).length:=by
      simp only [C3p] at g3 hw k3 ⊢
      omega
     have:=RA.g h1 x4 hsz x3 .nil
     simp only [List.append_assoc,List.append_nil] at this ⊢
     exact ⟨this,by simp [B6]⟩
    ·cases hput
   | r g1 _ _=>exact g1.elim
  | _=>simp [A0S] at hput
variable {P:Program} {T:TT} {c:F1} {e:A8} {of:Nat→Option Ob}
def A2W:IntKind→IntKind→Bool
 | .i8,.i8 | .i16,.i16 | .i32,.i32 | .i64,.i64 | .u8,.u8 | .u16,.u16 | .u32,.u32 | .u64,.u64=>true
 | _,_=>false
def A9E:List Nat→List Nat→Bool
 | [],[]=>true
 | a::r,b::s=>Nat.beq a b&&A9E r s
 | _,_=>false
def TK.beq:TK→TK→Bool
 | .int a,.int b=>A2W a b
 | .bool,.bool | .str,.str | .func,.func=>true
 | .ptr a,.ptr b | .slice a,.slice b=>Nat.beq a b
 | .arr n a,.arr m b=>Nat.beq n m&&Nat.beq a b
 | .struct a,.struct b=>A9E a b
 | .map a b,.map c d=>Nat.beq a c&&Nat.beq b d
 | _,_=>false
theorem A0T {a b:IntKind} (h:A2W a b=true):a=b:=by cases a<;>cases b<;>first | rfl | (simp [A2W] at h;done)
theorem B0H:∀ {a b:List Nat},A9E a b=true→a=b:=by
 intro a
 induction a with
 | nil=>intro b h;cases b<;>first | rfl | (simp [A9E] at h;done)
 | cons x r ih =>
  intro b h
  cases b with
  | nil=>simp [A9E] at h
  | cons y s=>simp only [A9E,C3o] at h;rw [C3n h.1,ih h.2]
theorem TK.beq_eq {a b:TK} (h:TK.beq a b=true):a=b:=by
 cases a<;>cases b<;>simp only [TK.beq,C3o] at h<;>first | rfl | (cases h;done) | skip
 ·rw [A0T h]
 ·rw [C3n h]
 ·rw [C3n h]
 ·rw [C3n h.1,C3n h.2]
 ·rw [B0H h]
 ·rw [C3n h.1,C3n h.2]
def same (T:TT) (t t':Nat):Bool :=
 Nat.beq t t'||(match T t,T t' with
  | some a,some b=>TK.beq a.k b.k&&Nat.beq a.size b.size
  | _,_=>false)
theorem A9 {t t':Nat} (h:same T t t'=true):B2 T t=B2 T t'∧B1 T t=B1 T t':=by
 simp only [same,Bool.or_eq_true] at h
 rcases h with h | h
 ·rw [C3n h];exact ⟨rfl,rfl⟩
 ·split at h
  ·rename_i a b ha hb
   simp only [C3o] at h
   simp only [B2,B1,ha,hb]
   exact ⟨by rw [TK.beq_eq h.1],C3n h.2⟩
  ·cases h
theorem B13 (t:Nat):same T t t=true:=by simp [same]
def H7 (T:TT) (t:Nat) (a:A):Option A :=
 match a with
 | .v t' x=>if same T t t' then some (.v t x) else none
 | .g t' l=>if same T t t' then some (.g t l) else none
 | .z v=>match B2 T t,v with
  | some (.ptr _),.pointer none=>if Q7 T t then some (.v t .n) else none
  | some (.slice _),.slice none 0 0=>if Q7 T t then some (.v t .n) else none
  | some (.map _ _),.map none=>if Q7 T t then some (.v t .n) else none
  | some .func,.nilFunc=>if Q7 T t then some (.v t .n) else none
  | _,_=>none
 | .t _=>none
 | .x=>none
 | a=>if B6 T t a then some a else none
theorem E6 {x:Value} (h:one x=true):x.cells.toList=[x]:=by cases x<;>first | rfl | (simp [one] at h;done)
theorem Z6 {t t':Nat} (h:B2 T t=B2 T t'):chT T t=chT T t':=by simp [chT,h]
theorem A1e {t:Nat} {a a':A} {x:Value} (h:B3 T e a x) (ha:H7 T t a=some a'):RA T e [a'] x.cells.toList∧B6 T t a'=true:=by
 have key:∀ a,RA T e [a] [x]→B6 T t a=true→RA T e [a] x.cells.toList∧B6 T t a=true:=fun a h hf=>by
  rw [E6 (h.one_ x (by simp))];exact ⟨h,hf⟩
 cases a with
 | v t' y =>
  simp only [H7] at ha
  split at ha
  ·rename_i hs
   injection ha with ha
   subst ha
   obtain ⟨p,q⟩:=A9 hs
   exact ⟨.v1 (h.1.cast p q),G9 _ _⟩
  ·cases ha
 | g t' l =>
  simp only [H7] at ha
  split at ha
  ·rename_i hs
   injection ha with ha
   subst ha
   obtain ⟨p,q⟩:=A9 hs
   refine ⟨?_,by simp [B6]⟩
   obtain ⟨h1,_⟩:=h
   generalize x.cells.toList=cs at h1
   cases h1 with
   | g g1 g2 g3 g4 g5=>exact .g ((Z6 p).trans g1) g2 (q.trans g3) g4 g5
   | r g1 _ _=>exact g1.elim
  ·cases ha
 | z v =>
  simp only [H7] at ha
  have hz:x=v:=by
   cases h with
   | z _ _=>rfl
   | r g1 _ _=>exact g1.elim
  subst hz
  split at ha<;>try (cases ha;done)
  all_goals
   rename_i hk
   split at ha
   ·rename_i hs
    injection ha with ha
    subst ha
    refine ⟨.v1 ?_,G9 _ _⟩
    first | exact .ptr hk (E1 hs) .nil | exact .nils hk (E1 hs) .nil | exact .map hk (E1 hs) .nil | exact .func hk (E1 hs) .nil
   ·cases ha
 | t l=>simp [H7] at ha
 | x=>simp [H7] at ha
 | _ =>
  simp only [H7] at ha
  split at ha
  ·rename_i hs
   injection ha with ha
   subst ha
   exact key _ h hs
  ·cases ha
theorem Z7 {t:Nat} {te:TE} {a:A} {d:List Value} (ht:T t=some te) (h:RA T e [a] d) (hf:B6 T t a=true) :
  (te.k.agg=true∧B3 T e a (.agg d.toArray))∨(te.k.agg=false∧∃ x,d=[x]∧B3 T e a x):=by
 have hk:=G2 ht
 have sc:∀ a,B6 T t a=true→Q7 T t=true→RA T e [a] d→(∀ x,RA T e [a] [x]→B3 T e a x)→(te.k.agg=true∧B3 T e a (.agg d.toArray))∨(te.k.agg=false∧∃ x,d=[x]∧B3 T e a x):=fun a hf hs h hr=>by
  have hw:=h.width hf
  rw [E1 hs] at hw
  simp only [Q7,hk,C3o,Bool.not_eq_true'] at hs
  match d,hw with
  | [x],_=>exact .inr ⟨hs.1,x,rfl,hr x h⟩
 cases a with
 | v t' x =>
  simp only [B6] at hf
  have:=C3n hf
  subst this
  have hv:=h.v_inv
  cases hag:te.k.agg with
  | true =>
   refine .inl ⟨rfl,?_⟩
   exact ⟨by simpa [Value.cells] using hv,fun _=>⟨_,rfl⟩,fun _=>⟨_,hk,hag⟩⟩
  | false =>
   refine .inr ⟨rfl,?_⟩
   have hl:d.length=1:=by
    have aux:∀ cs,RV T e [t] [x] cs→cs.length=1:=by
     intro cs hv
     cases hv with
     | arr h1=>rw [hk] at h1;injection h1 with h1;rw [h1] at hag;cases hag
     | struct h1=>rw [hk] at h1;injection h1 with h1;rw [h1] at hag;cases hag
     | int _ _ _ g=>cases g;rfl
     | bool _ _ g=>cases g;rfl
     | str _ _ g=>cases g;rfl
     | ptr _ _ g=>cases g;rfl
     | nils _ _ g=>cases g;rfl
     | map _ _ g=>cases g;rfl
     | func _ _ g=>cases g;rfl
     | fn _ _ g=>cases g;rfl
     | slice _ _ _ _ _ _ g=>cases g;rfl
    exact aux _ hv
   match d,hl with
   | [y],_ =>
    have ho:=h.one_ y (by simp)
    refine ⟨y,rfl,by rw [E6 ho];exact hv,?_⟩
    constructor
    ·rintro ⟨k,h1,h2⟩;rw [hk] at h1;injection h1 with h1;rw [← h1,hag] at h2;cases h2
    ·rintro ⟨cs,rfl⟩;simp [one] at ho
 | g t' l =>
  simp only [B6] at hf
  have:=C3n hf
  subst this
  have hag:te.k.agg=true:=by
   cases h with
   | g g1 _ _ _ _ =>
    unfold chT at g1
    rw [hk] at g1
    cases hkk:te.k<;>simp [hkk,TK.agg] at g1 ⊢
   | r g1 _ _=>exact g1.elim
  exact .inl ⟨hag,by simpa [Value.cells] using h,_,rfl⟩
 | t l=>simp [B6] at hf
 | i k n =>
  refine sc _ hf ?_ h (fun x hx=>hx)
  simp only [B6,C3o] at hf
  simp only [Q7,C3o]
  refine ⟨?_,hf.2⟩
  have:=hf.1
  split at this
  ·rename_i k' h1;rw [h1];rfl
  ·cases this
 | b x =>
  refine sc _ hf ?_ h (fun x hx=>hx)
  simp only [B6,C3o] at hf
  simp only [Q7,C3o]
  refine ⟨?_,hf.2⟩
  have:=hf.1
  split at this
  ·rename_i h1;rw [h1];rfl
  ·cases this
 | s x =>
  refine sc _ hf ?_ h (fun x hx=>hx)
  simp only [B6,C3o] at hf
  simp only [Q7,C3o]
  refine ⟨?_,hf.2⟩
  have:=hf.1
  split at this
  ·rename_i h1;rw [h1];rfl
  ·cases this
 | x=>exact sc _ hf (by simpa only [B6] using hf) h (fun x hx=>True.intro)
 | _=>exact sc _ hf (by simpa only [B6] using hf) h (fun x hx=>hx)
variable {P:Program} {T:TT} {c:F1} {e:A8} {of:Nat→Option Ob}
theorem A2X {t:Nat} {a a':A} {d:List Value} (h:RA T e [a] d) (ha:H7 T t a=some a'):RA T e [a'] d∧B6 T t a'=true:=by
 cases a with
 | v t' y =>
  simp only [H7] at ha
  split at ha
  ·rename_i hs;injection ha with ha;subst ha
   obtain ⟨p,q⟩:=A9 hs
   exact ⟨.v1 (h.v_inv.cast p q),G9 _ _⟩
  ·cases ha
 | g t' l =>
  simp only [H7] at ha
  split at ha
  ·rename_i hs;injection ha with ha;subst ha
   obtain ⟨p,q⟩:=A9 hs
   refine ⟨?_,by simp [B6]⟩
   cases h with
   | g g1 g2 g3 g4 g5=>exact .g ((Z6 p).trans g1) g2 (q.trans g3) g4 g5
   | r g1 _ _=>exact g1.elim
  ·cases ha
 | z v =>
  simp only [H7] at ha
  have hz:d=[v]:=by
   cases h with
   | z _ g=>cases g;rfl
   | r g1 _ _=>exact g1.elim
  subst hz
  split at ha<;>try (cases ha;done)
  all_goals
   rename_i hk
   split at ha
   ·rename_i hs
    injection ha with ha
    subst ha
    refine ⟨.v1 ?_,G9 _ _⟩
    first | exact .ptr hk (E1 hs) .nil | exact .nils hk (E1 hs) .nil | exact .map hk (E1 hs) .nil | exact .func hk (E1 hs) .nil
   ·cases ha
 | t l=>simp [H7] at ha
 | x=>simp [H7] at ha
 | _ =>
  simp only [H7] at ha
  split at ha
  ·rename_i hs;injection ha with ha;subst ha;exact ⟨h,hs⟩
  ·cases ha
theorem W1 (e:A8) (id ver ty ln:Nat) (cs:Array Value) (t:TypeId) (fz:Nat×Nat):(e.new id ver ty ln cs t fz).w.heap[e.w.heap.size]? = some (.cells cs t fz):=J2 _ _
theorem A1y {w:World} {b:Nat} {cs:Array Value} {t:TypeId} (h:w.heap[b]? = some (.cells cs t (0,0))):A0y w b cs:=⟨fun i _=>by simp [World.frozen?,h],fun c t l hh hc=>by rw [h] at hc;injection hc with hc;injection hc with e1 e2 e3;injection e3 with e3 e4;omega⟩
theorem Z8 {id ver ty ln:Nat} {cs:Array Value} {t:TypeId} {fz:Nat×Nat} {o:Ob} {v:A} {x:Value} {ro:List Nat} (h:A5 T c e of) (hu:¬ e.U id) (ho:OK T (e.new id ver ty ln cs t fz) id o)
  (hv:B3 T (e.new id ver ty ln cs t fz) v x):C4 T c e of ⟨v,[(id,o)],ro,[id]⟩ x (e.w.alloc (.cells cs t fz)) :=
 ⟨e.new id ver ty ln cs t fz,rfl,h.new hu ho,h.le_new hu _ _ _ _ _ _,fun j hj=>hj.elim (fun q=>.inr (by simp [q])) .inl,hv⟩
theorem B4t {id t:Nat} {a:A} {cs:Array Value} (h:A5 T c e of) (hu:¬ e.U id) (hr:RA T e [a] cs.toList) (hf:B6 T t a=true):OK T (e.new id 0 t 0 cs t (0,0)) id (.box t a false) :=
 ⟨.inl rfl,upd_same _ _ _,upd_same _ _ _,hf,e.w.heap.size,cs,t,(0,0),upd_same _ _ _,W1 _ _ _ _ _ _ _ _,A1y (W1 _ _ _ _ _ _ _ _),by rw [← C3u];exact hr.width hf,hr.mono (h.le_new hu 0 t 0 cs t (0,0)),fun _ i hs=>absurd (h.slt _ _ hs) (by omega),rfl⟩
theorem B8t {id t:Nat} {cs:Array Value}:B3 T (e.new id 0 t 0 cs t (0,0)) (.p id t []) (.pointer (some ⟨e.w.heap.size,0,none⟩)) :=
 RA.r ⟨e.w.heap.size,0,.inl rfl,upd_same _ _ _,upd_same _ _ _,by rw [show (e.new id 0 t 0 cs t (0,0)).ty id=t from upd_same _ _ _];exact .nil,rfl⟩ rfl .nil
theorem B14 {id t:Nat} {te:TE} (h:A5 T c e of) (hT:F4 T P) (ht:T t=some te) (hne:TK.notOther te.k=true) (hu:¬ e.U id) :
  B9 P (do pure (.value (← Instr.alloc t true (.tuple #[])))) e.w (C4 T c e of ⟨.p id t [],[(id,.box t (.v t te.zero) false)],[],[id]⟩):=by
 obtain ⟨z,h1,h2,h3⟩:=A4v (hT _ _ ht) e.w
 have hz:RV T e [t] [te.zero] z.cells.toList:=h2.elim (fun q=>q e) (fun q=>by rw [q] at hne;cases hne)
 refine A1 (x:=.pointer (some ⟨e.w.heap.size,0,none⟩)) (w':=e.w.alloc (.cells z.cells t (0,0))) ?_ (Z8 h hu (B4t h hu (.v1 hz) (G9 _ _)) B8t)
 simp [Instr.alloc,h1,newVar,newRow]
theorem B6M {id t:Nat} {v a:A} {x:Value} (h:A5 T c e of) (hu:¬ e.U id) (hv:B3 T e v x) (hp:H7 T t v=some a) :
  B9 P (do pure (.value (← Instr.box t x))) e.w (C4 T c e of ⟨.p id t [],[(id,.box t a false)],[],[id]⟩):=by
 obtain ⟨h1,h2⟩:=A1e hv hp
 refine A1 (x:=.pointer (some ⟨e.w.heap.size,0,none⟩)) (w':=e.w.alloc (.cells x.cells t (0,0))) ?_ (Z8 h hu (B4t h hu h1 h2) B8t)
 simp [Instr.box,newVar,newRow]
theorem A78 {t:Nat} {te:TE} (ht:A0A P T t te) {w:World} {a:Addr} {ys:List Value} (hl:ys.length=te.size) (hc:∀ (j:Nat) y,ys[j]? = some y→w.cell? (a.add j)=some y) :
  (loadVar t a).run P w=if te.k.agg then .ok (.agg ys.toArray) w else (load a).run P w:=by
 simp only [loadVar,Sem.run_bind,A2p ht,Result.andThen_ok]
 split
 ·simp only [Sem.run_bind,C7 ht,Result.andThen_ok]
  rw [← hl,V6 w a ys hc]
  rfl
 ·rfl
theorem run_load {t:Nat} {te:TE} (hT:F4 T P) (ht:T t=some te) {ad:Addr} {a:A} {d:List Value} (hr:RA T e [a] d) (hf:B6 T t a=true) (hc:∀ (j:Nat) y,d[j]? = some y→e.w.cell? (ad.add j)=some y) :
  ∃ x,(loadVar t ad).run P e.w=.ok x e.w∧B3 T e a x:=by
 have hlen:d.length=te.size:=by rw [hr.width hf,E4 ht]
 have hrun:=A78 (P:=P) (hT _ _ ht) (w:=e.w) (a:=ad) (ys:=d) hlen hc
 rcases Z7 ht hr hf with ⟨ha,hx⟩ | ⟨ha,x,rfl,hx⟩
 ·exact ⟨_,by rw [hrun,ha];rfl,hx⟩
 ·have:=hc 0 x (by simp)
  have e0:ad.add 0=ad:=by unfold Addr.add;simp
  rw [e0] at this
  exact ⟨x,by rw [hrun,ha];simp [load,Sem.run,this],hx⟩
theorem Z9 {t:Nat} {te:TE} (h:A5 T c e of) (hT:F4 T P) (ht:T t=some te) {ad:Addr} {a:A} {d:List Value} (hr:RA T e [a] d) (hf:B6 T t a=true)
  (hc:∀ (j:Nat) y,d[j]? = some y→e.w.cell? (ad.add j)=some y) {ro:List Nat} :
  B9 P (do pure (.value (← Instr.loadAt t (.pointer (some ad))))) e.w (C4 T c e of ⟨a,[],ro,[]⟩):=by
 obtain ⟨x,h1,h2⟩:=run_load (P:=P) hT ht hr hf hc
 refine A1 ?_ (A4 h h2)
 simp [Instr.loadAt,Instr.sureAddr,h1]
theorem C2 (b o j:Nat):(⟨b,o,none⟩:Addr).add j=⟨b,o+j,none⟩:=by unfold Addr.add;split<;>simp_all
theorem D6 {w:World} {b:Nat} {cs:Array Value} {t:TypeId} {fz:Nat×Nat} (h:w.heap[b]? = some (.cells cs t fz)) (i:Nat):w.cell? ⟨b,i,none⟩=cs.toList[i]? := by
 simp [World.cell?,h]
theorem Q8 {id t:Nat} {a:A} {sh:Bool} (h:A5 T c e of) (ho:of id=some (.box t a sh)):e.U id∧e.bn id=0∧e.ty id=t∧B6 T t a=true ∧
  ∃ b cs ty fz,e.ι id=some (b,0)∧e.w.heap[b]? = some (.cells cs ty fz)∧A0y e.w b cs∧cs.size=B1 T t∧RA T e [a] cs.toList∧(sh=false→∀ i,¬ e.S b i)∧ty=t:=h.ok _ _ ho
theorem J7 {pre d post:List Value} {j:Nat} {y:Value} (hj:d[j]? = some y):(pre++(d++post))[pre.length+j]? = some y:=by
 rw [List.getElem?_append_right (by omega),Nat.add_sub_cancel_left,List.getElem?_append_left (List.getElem?_eq_some_iff.1 hj).1,hj]
theorem F6 {id t:Nat} {path:List Nat} {x:Value} (h:B3 T e (.p id t path) x):∃ b off,e.U id∧e.bn id=0∧e.ι id=some (b,0)∧Pth T (e.ty id) path t off∧x=.pointer (some ⟨b,off,none⟩):=by
 have h:RA T e [.p id t path] [x]:=h
 cases h with
 | r h1 _ _=>exact h1
theorem A2r {id t:Nat} {path:List Nat} {b off:Nat} (h1:e.U id) (h2:e.bn id=0) (h3:e.ι id=some (b,0)) (h4:Pth T (e.ty id) path t off):B3 T e (.p id t path) (.pointer (some ⟨b,off,none⟩)) :=
 RA.r ⟨b,off,h1,h2,h3,h4,rfl⟩ rfl .nil
theorem A9F {t t0 t':Nat} {te:TE} (h:A5 T c e of) (hT:F4 T P) (ht:T t=some te) {id:Nat} {path:List Nat} {a a1 a2:A} {sh:Bool} {x:Value} (ho:of id=some (.box t0 a sh)) (h1:atA T a path=some a1) (h2:H7 T t a1=some a2)
  (hx:B3 T e (.p id t' path) x):B9 P (do pure (.value (← Instr.loadAt t x))) e.w (C4 T c e of ⟨a2,[],[id],[]⟩):=by
 obtain ⟨u1,u2,u3,u4,b,cs,ty,fz,g1,g2,g3,g4,g5,g6⟩:=Q8 h ho
 obtain ⟨b',off,_,_,k1,k2,rfl⟩:=F6 hx
 rw [g1] at k1;cases k1
 rw [u3] at k2
 obtain ⟨pre,d,post,q1,q2,q3,q4,q5⟩:=R6 path g5 u4 k2 h1
 obtain ⟨r1,r2⟩:=A2X q4 h2
 refine Z9 h hT ht r1 r2 (fun j y hj=>?_)
 rw [C2,D6 g2,q1,← q2]
 exact J7 hj
theorem A0U {t:Nat} {te:TE} (ht:A0A P T t te) {b o:Nat} {v:Value} {w:World} {cs:Array Value} {ty:TypeId} {fz:Nat×Nat} (h:w.heap[b]? = some (.cells cs ty fz)) (hf:A0y w b cs) (h1:∀ u∈v.cells.toList,one u=true)
  (hs:v.cells.size=te.size) (hl:o+te.size≤cs.size):(storeVar t ⟨b,o,none⟩ v).run P w=.ok () (D0 w b o v.cells.toList):=by
 simp only [storeVar,Sem.run_bind,C7 ht,Result.andThen_ok]
 rw [if_neg (by omega)]
 exact T7 h hf h1 (by rw [C3u];omega)
theorem N1 {w:World} {b:Nat} {cs:Array Value} {t:TypeId} {fz:Nat×Nat} (h:w.heap[b]? = some (.cells cs t fz)):L3 w b=cs.size:=by simp [L3,h]
theorem A5.write (h:A5 T c e of) {id:Nat} {o o':Ob} (ho:of id=some o) {b q:Nat} (hι:e.ι id=some (b,q)) {w':World} {cs cs':Array Value} {t:TypeId} {fz fz':Nat×Nat}
  (h0:e.w.heap[b]? = some (.cells cs t fz)) (h1:w'.heap[b]? = some (.cells cs' t fz')) (hsz:cs'.size=cs.size) (hne:∀ k,k≠b→w'.heap[k]? = e.w.heap[k]?) (hhs:w'.heap.size=e.w.heap.size)
  (hos:w'.os=e.w.os∧w'.tape=e.w.tape∧w'.output=e.w.output) (hS:∀ i,e.S b i→cs'[i]? = cs[i]?) (hok:e.le { e with w:=w' }→OK T { e with w:=w' } id o') :
  A5 T c { e with w:=w' } (D3 of id (some o'))∧e.le { e with w:=w' }:=by
 have hle:e.le { e with w:=w' }:=by
  have hln:∀ k,L3 w' k=L3 e.w k:=fun k=>by
   by_cases hk':k=b
   ·subst hk';rw [N1 h0,N1 h1,hsz]
   ·exact C3 (hne _ hk')
  refine ⟨fun k i hs=>⟨hs,fun x hx=>?_⟩,fun _ hu=>hu,fun j hu _=>⟨rfl,rfl,fun k q' hk=>hln k⟩,fun _ _ h=>h,fun _ _=>Nat.le_refl _,fun _ _=>rfl,by show _≤w'.heap.size;omega,fun k _=>hln k⟩
  ·by_cases hk:k=b
   ·subst hk
    rw [D6 h0] at hx
    show w'.cell? _=_
    rw [D6 h1,Array.getElem?_toList,hS _ hs,← Array.getElem?_toList];exact hx
   ·rw [← hx];exact C9 (hne _ hk)
 refine ⟨h.turn ho hle (fun _ _=>rfl) (fun _ _=>rfl) (fun _ hu=>hu) (fun k _ hk=>hne k (fun hkb=>hk q (by rw [hkb];exact hι))) (by show _≤w'.heap.size;omega) (fun _ _ hs=>.inl hs) (fun k q' hk=>.inl ⟨q',hk⟩) hos.1 hos.2.1 hos.2.2 (hok hle),hle⟩
theorem A2s {w w':World} {b:Nat} {cs cs':Array Value} {t:TypeId} {fz:Nat×Nat} (h:A0y w b cs) (h0:w.heap[b]? = some (.cells cs t fz)) (h1:w'.heap[b]? = some (.cells cs' t fz)) (hs:cs'.size=cs.size):A0y w' b cs':=by
 refine ⟨fun i hi=>?_,fun c t' l hh hc=>?_⟩
 ·have:=h.1 i (by omega)
  simp only [World.frozen?,h0,h1] at this ⊢
  exact this
 ·rw [h1] at hc
  injection hc with hc;injection hc with e1 e2 e3
  exact h.2 cs t l hh (by rw [h0,e3])
theorem A1z {pre d post ns X:List Value} {o:Nat} (hX:X=pre++(d++post)) (hp:pre.length=o) (hl:ns.length=d.length):X.take o++ns++X.drop (o+ns.length)=pre++(ns++post):=by
 subst hX;subst hp
 rw [List.take_left,List.append_assoc,hl,← List.append_assoc pre d post,← C3p,List.drop_left]
theorem A79 {t t0 t':Nat} {te:TE} (h:A5 T c e of) (hT:F4 T P) (ht:T t=some te) (hsame:same T t t'=true) {id:Nat} {path:List Nat} {a a' v v':A} {x y:Value} (ho:of id=some (.box t0 a false)) (hv:H7 T t' v=some v') (hput:A0S T a path v'=some a')
  (hx:B3 T e (.p id t' path) x) (hy:B3 T e v y):B9 P (do Instr.storeAt t x y;pure .skip) e.w (C4 T c e of ⟨.x,[(id,.box t0 a' false)],[id],[]⟩):=by
 obtain ⟨u1,u2,u3,u4,b,cs,ty,fz,g1,g2,g3,g4,g5,g6⟩:=Q8 h ho
 obtain ⟨b',off,_,_,k1,k2,rfl⟩:=F6 hx
 rw [g1] at k1;cases k1
 rw [u3] at k2
 obtain ⟨r1,r2⟩:=A1e hy hv
 obtain ⟨pre,d,post,q1,q2,q3,q4,q5⟩:=A1x path g5 u4 k2 r1 r2 hput
 have hw:=r1.width r2
 have hcl:cs.size=pre.length+(d.length+post.length):=by
  have:=congrArg List.length q1;simpa using this
 have hte:te.size=B1 T t':=by rw [← E4 ht,(A9 hsame).2]
 obtain ⟨cs',p1,p2⟩:=L7 y.cells.toList g2 (i:=off) (by omega)
 rw [A1z q1 q2 (by omega)] at p2
 have hsz:cs'.size=cs.size:=by
  have:=congrArg List.length p2
  simp only [C3u,C3p] at this hw
  omega
 obtain ⟨hos,hll⟩:=h.write ho g1 g2 p1 hsz (fun k hk=>F2 _ _ _ _ hk) (N6 _ _ _ _) (Q1 _ _ _ _) (fun i hs=>absurd hs (g6.1 rfl i))
  (o':=.box t0 a' false) (fun hle=>⟨u1,u2,u3,q5,b,cs',ty,fz,g1,p1,A2s g3 g2 p1 hsz,by omega,by rw [p2];exact q4.mono hle,fun _ i=>g6.1 rfl i,g6.2⟩)
 refine .inr (.inl ⟨D0 e.w b off y.cells.toList,?_,_,rfl,hos,hll,fun _ hu=>.inl hu,True.intro⟩)
 have hrun:=A0U (P:=P) (hT _ _ ht) (o:=off) (v:=y) g2 g3 r1.one_ (by rw [← C3u];omega) (by omega)
 simp [Instr.storeAt,Instr.sureAddr,hrun]
variable {P:Program} {T:TT} {c:F1} {e:A8} {of:Nat→Option Ob}
theorem RV.split_at {el n:Nat} {xs:List V} {ys:List Value} (h:RV T e (List.replicate n el) xs ys) (k:Nat) (hk:k≤n) :
  ∃ as0 bs,ys=as0++bs∧as0.length=k * B1 T el∧RV T e (List.replicate k el) (xs.take k) as0∧RV T e (List.replicate (n - k) el) (xs.drop k) bs:=by
 have e1:List.replicate n el=List.replicate k el++List.replicate (n - k) el:=by rw [List.replicate_append_replicate];congr 1;omega
 rw [e1] at h
 obtain ⟨as0,bs,c1,c2,rfl,rfl,p,q⟩:=h.split
 have hl:as0.length=k:=by rw [p.length.2];simp
 subst hl
 refine ⟨c1,c2,rfl,by rw [p.length.1,B4],by simpa using p,by simpa using q⟩
theorem G3 {id el ver:Nat} {xs:List V} {nl sh:Bool} (h:A5 T c e of) (ho:of id=some (.row el ver xs nl sh)):e.U id∧0 < ver∧e.bn id=ver∧e.ty id=el∧e.ln id=xs.length∧0 < B1 T el ∧
   ((nl=true∧e.ι id=none∧xs=[]) ∨
    (nl=false∧∃ b o cs t fz pre ys post,e.ι id=some (b,o)∧e.w.heap[b]? = some (.cells cs t fz)∧A0y e.w b cs∧cs.toList=pre++ys++post∧pre.length=o∧RV T e (List.replicate xs.length el) xs ys ∧
     (∀ i,o+ys.length≤i→¬ e.S b i)∧(sh=false→∀ i,o≤i→¬ e.S b i)∧t=el)):=h.ok _ _ ho
theorem A2Y {id ver i t:Nat} {path:List Nat} {x:Value} (h:B3 T e (.e id ver i t path) x) (hv:e.bn id=ver):∃ b o off,e.ι id=some (b,o)∧Pth T (e.ty id) path t off∧i < e.ln id∧x=.pointer (some ⟨b,o+i * B1 T (e.ty id)+off,none⟩):=by
 have h:RA T e [.e id ver i t path] [x]:=h
 cases h with
 | r h1 _ _=>exact h1.2.2.2.2 hv
def elA (T:TT) (el:Nat) (xs:List V) (i:Nat) (path:List Nat):Option A:=atA T (.v el (xs.getD i .n)) path
theorem A9G {t el t':Nat} {te:TE} (h:A5 T c e of) (hT:F4 T P) (ht:T t=some te) {id ver i:Nat} {path:List Nat} {xs:List V} {nl sh:Bool} {a1 a2:A} {x:Value} (ho:of id=some (.row el ver xs nl sh)) (h1:elA T el xs i path=some a1) (h2:H7 T t a1=some a2)
  (hx:B3 T e (.e id ver i t' path) x):B9 P (do pure (.value (← Instr.loadAt t x))) e.w (C4 T c e of ⟨a2,[],[id],[]⟩):=by
 obtain ⟨u1,u2,u3,u4,u5,u6,u7⟩:=G3 h ho
 obtain ⟨b,o,off,k1,k2,k3,rfl⟩:=A2Y hx u3
 rcases u7 with ⟨_,q,_⟩ | ⟨_,b',o',cs,ty,fz,pre,ys,post,g1,g2,g3,g4,g5,g6,g7,g8⟩
 ·rw [q] at k1;cases k1
 rw [g1] at k1;cases k1
 rw [u5] at k3
 rw [u4] at k2 ⊢
 obtain ⟨y,pr,d,po,q1,rfl,q3,q4,q5⟩:=g6.at (i:=i) (t:=el) (by rw [List.getElem?_replicate,if_pos k3])
 rw [List.take_replicate,B4,Nat.min_eq_left (by omega)] at q3
 have hg:xs.getD i .n=y:=by simp [List.getD,q1]
 rw [elA,hg] at h1
 obtain ⟨p2,d2,s2,rfl,r2,r3,r4,r5⟩:=R6 path (.v1 q5) (G9 _ _) k2 h1
 obtain ⟨r6,r7⟩:=A2X r4 h2
 refine Z9 h hT ht r6 r7 (fun j z hj=>?_)
 rw [C2,D6 g2,g4]
 have e1:pre++(pr++((p2++(d2++s2))++po))++post=(pre++pr++p2)++(d2++(s2++po++post)):=by simp
 rw [e1,show o+i * B1 T el+off+j=(pre++pr++p2).length+j by simp only [C3p];omega]
 exact J7 hj
theorem A8a {t el t':Nat} {te:TE} (h:A5 T c e of) (hT:F4 T P) (ht:T t=some te) (hsame:same T t t'=true) {id ver i:Nat} {path:List Nat} {xs:List V} {nl:Bool} {v':A} {y':V} {x y:Value} (ho:of id=some (.row el ver xs nl false)) (r1:RA T e [v'] y.cells.toList) (r2:B6 T t' v'=true)
  (hput:A0S T (.v el (xs.getD i .n)) path v'=some (.v el y')) (hx:B3 T e (.e id ver i t' path) x):B9 P (do Instr.storeAt t x y;pure .skip) e.w (C4 T c e of ⟨.x,[(id,.row el ver (xs.set i y') nl false)],[id],[]⟩):=by
 obtain ⟨u1,u2,u3,u4,u5,u6,u7⟩:=G3 h ho
 obtain ⟨b,o,off,k1,k2,k3,rfl⟩:=A2Y hx u3
 rcases u7 with ⟨_,q,_⟩ | ⟨hnl,b',o',cs,ty,fz,pre,ys,post,g1,g2,g3,g4,g5,g6,g7,g8⟩
 ·rw [q] at k1;cases k1
 rw [g1] at k1;cases k1
 rw [u5] at k3
 rw [u4] at k2 ⊢
 obtain ⟨z,pr,d,po,q1,rfl,q3,q4,q5⟩:=g6.at (i:=i) (t:=el) (by rw [List.getElem?_replicate,if_pos k3])
 have q3':=q3
 rw [List.take_replicate,B4,Nat.min_eq_left (by omega)] at q3
 have hg:xs.getD i .n=z:=by simp [List.getD,q1]
 rw [hg] at hput
 obtain ⟨p2,d2,s2,rfl,w2,w3,w4,w5⟩:=A1x path (.v1 q5) (G9 _ _) k2 r1 r2 hput
 have hw:=r1.width r2
 have hte:te.size=B1 T t':=by rw [← E4 ht,(A9 hsame).2]
 have e1:pre++(pr++((p2++(d2++s2))++po))++post=(pre++pr++p2)++(d2++(s2++po++post)):=by simp
 have hoff:(pre++pr++p2).length=o+i * B1 T el+off:=by simp only [C3p];omega
 rw [e1] at g4
 have hcl:cs.size=(pre++pr++p2).length+(d2.length+(s2++po++post).length):=by
  have:=congrArg List.length g4;simpa only [C3u,C3p] using this
 obtain ⟨cs',f1,f2⟩:=L7 y.cells.toList g2 (i:=o+i * B1 T el+off) (by omega)
 rw [A1z g4 hoff (by omega)] at f2
 have hsz:cs'.size=cs.size:=by
  have:=congrArg List.length f2
  simp only [C3u,C3p] at this hw hcl
  omega
 have hnew:=g6.put (i:=i) (t:=el) (by rw [List.getElem?_replicate,if_pos k3]) w4.v_inv rfl q3' q4
 obtain ⟨hos,hll⟩:=h.write ho g1 g2 f1 hsz (fun k hk=>F2 _ _ _ _ hk) (N6 _ _ _ _) (Q1 _ _ _ _)
  (fun j hs=>by
   have hj:j < o:=Nat.lt_of_not_le (fun hoj=>g8.1 rfl j hoj hs)
   have key:∀ X:List Value,((pre++pr++p2)++X)[j]? = (pre++pr++p2)[j]? := fun X=>List.getElem?_append_left (by simp only [C3p];omega)
   rw [← Array.getElem?_toList,← Array.getElem?_toList,f2,g4,key,key])
  (o':=.row el ver (xs.set i y') nl false)
  (fun hle=>⟨u1,u2,u3,u4,by rw [List.length_set];exact u5,u6,.inr ⟨hnl,b,o,cs',ty,fz,pre,pr++((p2++(y.cells.toList++s2))++po),post,g1,f1,A2s g3 g2 f1 hsz,by rw [f2];simp,g5,by rw [List.length_set];exact hnew.mono hle,
   fun j hj=>g7 j (by simp only [C3p] at hj hw w3 ⊢;omega),fun hh j hj=>g8.1 hh j hj,g8.2⟩⟩)
 refine .inr (.inl ⟨D0 e.w b (o+i * B1 T el+off) y.cells.toList,?_,_,rfl,hos,hll,fun _ hu=>.inl hu,True.intro⟩)
 have hrun:=A0U (P:=P) (hT _ _ ht) (o:=o+i * B1 T el+off) (v:=y) g2 g3 r1.one_ (by rw [← C3u];omega) (by omega)
 simp [Instr.storeAt,Instr.sureAddr,hrun]
def A8.share (e:A8) (b lo hi:Nat):A8:={ e with S:=fun k i=>e.S k i∨(k=b∧lo≤i∧i < hi) }
theorem G7 (e:A8) (b lo hi:Nat):e.le (e.share b lo hi) :=
 ⟨fun _ _ h=>⟨.inl h,fun _ hx=>hx⟩,fun _ h=>h,fun _ _ _=>⟨rfl,rfl,fun _ _ _=>rfl⟩,fun _ _ h=>h,fun _ _=>Nat.le_refl _,fun _ _=>rfl,Nat.le_refl _,fun _ _=>rfl⟩
theorem A0V (h:A5 T c e of) {id:Nat} {o o':Ob} (ho:of id=some o) {b q lo hi:Nat} (hι:e.ι id=some (b,q)) (hok:OK T (e.share b lo hi) id o') :
  A5 T c (e.share b lo hi) (D3 of id (some o')) :=
 h.turn ho (G7 _ _ _ _) (fun _ _=>rfl) (fun _ _=>rfl) (fun _ hu=>hu) (fun _ _ _=>rfl) (Nat.le_refl _)
  (fun k i hs=>hs.elim .inl (fun ⟨hk,_⟩=>.inr ⟨q,by rw [hk];exact hι⟩)) (fun k q' hk=>.inl ⟨q',hk⟩) rfl rfl rfl hok
theorem F7 {id ver:Nat} {x:Value} (h:B3 T e (.o id ver) x) (hv:e.bn id=ver):(e.ι id=none∧e.ln id=0∧x=.slice none 0 0) ∨
   ∃ b o cap k,e.ι id=some (b,o)∧e.ln id≤cap∧o+cap * B1 T (e.ty id)=L3 e.w b∧(0 < cap→k=o)∧x=.slice (some ⟨b,k,none⟩) (e.ln id) cap:=by
 have h:RA T e [.o id ver] [x]:=h
 cases h with
 | r h1 _ _=>exact h1.2.2.2.2 hv
theorem N8 {id ver off n:Nat} {x:Value} (h:B3 T e (.w id ver off n) x) (hv:e.bn id=ver):∃ b o cap k,e.ι id=some (b,o)∧n≤cap∧off+n≤e.ln id∧o+(off+cap) * B1 T (e.ty id)=L3 e.w b∧(0 < cap→k=o+off * B1 T (e.ty id))∧x=.slice (some ⟨b,k,none⟩) n cap:=by
 have h:RA T e [.w id ver off n] [x]:=h
 cases h with
 | r h1 _ _=>exact h1.2.2.2.2 hv
theorem A4w {id ver:Nat} {x:Value} (h:B3 T e (.o id ver) x) (hv:e.bn id=ver) (h0:0 < ver) (hι:e.ι id≠none) (hu:e.U id):B3 T e (.w id ver 0 (e.ln id)) x:=by
 rcases F7 h hv with ⟨h1,_,_⟩ | ⟨b,o,cap,k,h1,h2,h3,h4,rfl⟩
 ·exact absurd h1 hι
 ·exact RA.r ⟨rfl,hu,by omega,h0,fun _=>⟨b,o,cap,k,h1,h2,by omega,by rw [Nat.zero_add];exact h3,fun hc=>by rw [h4 hc];omega,rfl⟩⟩ rfl .nil
theorem G4 {xs:List V} {el:Nat} {ys:List Value} (h:RV T e (List.replicate xs.length el) xs ys) {off n:Nat} (hn:off+n≤xs.length) :
  ∃ as0 bs zs,ys=as0++(bs++zs)∧as0.length=off * B1 T el∧bs.length=n * B1 T el∧RV T e (List.replicate n el) ((xs.drop off).take n) bs∧RV T e (List.replicate off el) (xs.take off) as0:=by
 obtain ⟨as0,q,rfl,h1,h2,h3⟩:=h.split_at off (by omega)
 obtain ⟨bs,zs,rfl,g1,g2,g3⟩:=h3.split_at n (by omega)
 exact ⟨as0,bs,zs,rfl,h1,g1,g2,h2⟩
theorem A5Z (h:A5 T c e of) {id el ver:Nat} {xs:List V} {nl sh:Bool} (ho:of id=some (.row el ver xs nl sh)) :
  ∃ e':A8,e'.w=e.w∧A5 T c e' (D3 of id (some (.row el ver xs nl true)))∧e.le e'∧(∀ j,e'.U j→e.U j) ∧
   (∀ t x,B2 T t=some (.slice el)→B1 T t=1→B3 T e (.o id ver) x→RV T e' [t] [bif nl then .n else .l xs] [x]) ∧
   ∀ t off n x,B2 T t=some (.slice el)→B1 T t=1→off+n≤xs.length→B3 T e (.w id ver off n) x→RV T e' [t] [.l ((xs.drop off).take n)] [x]:=by
 obtain ⟨v0,v1,v2,v3,v4,v5,h6⟩:=G3 h ho
 rcases h6 with ⟨rfl,g1,rfl⟩ | ⟨rfl,b,o,cs,ty,fz,pre,ys,post,h1,h2,h3,h4,h5,h6,h7,h8⟩
 ·refine ⟨e,rfl,?_,A8.le.refl e,fun _ hu=>hu,fun t x hk hz hx=>?_,fun t off n x hk hz hn hx=>?_⟩
  ·exact h.turn ho (A8.le.refl e) (fun _ _=>rfl) (fun _ _=>rfl) (fun _ hu=>hu) (fun _ _ _=>rfl) (Nat.le_refl _) (fun _ _ hs=>.inl hs) (fun k q hk=>.inl ⟨q,hk⟩) rfl rfl rfl
    ⟨v0,v1,v2,v3,v4,v5,.inl ⟨rfl,g1,rfl⟩⟩
  ·rcases F7 hx v2 with ⟨_,_,rfl⟩ | ⟨b,o,cap,k,k1,_⟩
   ·exact .nils hk hz .nil
   ·rw [g1] at k1;cases k1
  ·obtain ⟨b,o,cap,k,k1,_⟩:=N8 hx v2
   rw [g1] at k1;cases k1
 ·have hok:OK T (e.share b o (o+ys.length)) id (.row el ver xs false true) :=
   ⟨v0,v1,v2,v3,v4,v5,.inr ⟨rfl,b,o,cs,ty,fz,pre,ys,post,h1,h2,h3,h4,h5,h6.mono (G7 _ _ _ _),fun i hi hs=>hs.elim (h7 i hi) (fun ⟨_,_,hlt⟩=>by omega),(fun hh=>by cases hh),h8.2⟩⟩
  have key:∀ t off n x,B2 T t=some (.slice el)→B1 T t=1→off+n≤xs.length→B3 T e (.w id ver off n) x→RV T (e.share b o (o+ys.length)) [t] [.l ((xs.drop off).take n)] [x]:=by
   intro t off n x hk hz hn hx
   obtain ⟨b',o',cap,k,k1,k2,k3,k4,k5,rfl⟩:=N8 hx v2
   rw [h1] at k1;cases k1
   rw [v3] at k4 k5
   obtain ⟨as0,bs,zs,rfl,q1,q2,q3,q4⟩:=G4 h6 hn
   have hlen:((xs.drop off).take n).length=n:=by rw [List.length_take,List.length_drop];omega
   refine .slice hk hz hlen k2 ⟨fun _=>rfl,fun j y hj=>?_⟩ (q3.mono (G7 _ _ _ _)) .nil
   have hjl:=(List.getElem?_eq_some_iff.1 hj).1
   have hn0:0 < n:=by
    rcases Nat.eq_zero_or_pos n with h0 | h0
    ·subst h0;simp at q2;rw [q2] at hjl;simp at hjl
    ·exact h0
   have hkk:=k5 (by omega)
   refine ⟨?_,.inr ⟨rfl,by show o≤k+j;omega,by show k+j < _;simp only [C3p];omega⟩⟩
   show e.w.cell? _=_
   rw [C2,D6 h2,h4,hkk]
   have e1:pre++(as0++(bs++zs))++post=(pre++as0)++(bs++(zs++post)):=by simp
   rw [e1,show o+off * B1 T el+j=(pre++as0).length+j by simp only [C3p];omega]
   exact J7 hj
  refine ⟨e.share b o (o+ys.length),rfl,A0V h ho h1 hok,G7 _ _ _ _,fun _ hu=>hu,fun t x hk hz hx=>?_,key⟩
  have:=key t 0 xs.length x hk hz (by omega) (by rw [← v4];exact A4w hx v2 v1 (by rw [h1];intro q;cases q) v0)
  simpa using this
end Go.Vm
end