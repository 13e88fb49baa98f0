/- What the operations of a program do, shown once for all programs; and numbers. -/
import Derived.Test.YtadjkmffodhmbaaGreatVm7
set_option linter.constructorNameAsVariable false
set_option linter.unusedVariables false
set_option linter.unusedSimpArgs false
noncomputable section
namespace Go.Vm
open Go.RowKit
variable {T:TT} {R:Type}
structure KC where
 f:Nat→E5
 y:Nat→E5
 ord:Nat→Bool
def KC.dir (K:KC):KS:=⟨fun f=>(K.f f).dir,fun id=>(K.y id).dir,K.ord⟩
structure KC.nat (K:KC):Prop where
 f:∀ f,(K.f f).nat
 y:∀ id,(K.y id).nat
def B0d (nx:Nat) (o:Out) (k:W8→Option R):Option R :=
 match o with
 | ⟨v,wo,ro,nw⟩=>match nw with
  | []=>k ⟨v,wo,ro,nx⟩
  | [j]=>bif Nat.beq j nx then k ⟨v,wo,ro,nx+1⟩ else none
  | _=>none
theorem B0e (nx:Nat) (o:Option Out) (k:W8→Option R):ob o (fun x=>B0d nx x k)=ob (A4i nx o) k:=by
 cases o with
 | none=>rfl
 | some x =>
  obtain ⟨v,wo,ro,nw⟩:=x
  simp only [ob,B0d,A4i]
  cases nw with
  | nil=>rfl
  | cons j r=>cases r with
   | nil=>simp only;cases Nat.beq j nx<;>rfl
   | cons _ _=>rfl
def B1G (T:TT) (t:Nat) (k:A) (okk:Bool) (q:Nat×Nat×Nat×Nat×List (V×V×Bool)×Option V) (kk:A×List Nat→Option R):Option R :=
 match q.2.2.2.2.2 with
 | none=>match D4 T t with
  | some (.map kt et)=>match T et,A1f T kt k with
   | some te,some kv=>bif TK.notOther te.k then (bif Nat.beq kt q.2.1&&Nat.beq et q.2.2.1 then
     (bif J5 kv q.2.2.2.2.1 then kk (okA okk (mkA T et (N6 kv q.2.2.2.2.1)) true,[q.1]) else kk (okA okk (mkA T et te.zero) false,[q.1])) else none) else none
   | _,_=>none
  | _=>none
 | some _=>none
theorem B5f (t:Nat) (k:A) (okk:Bool) (q:Nat×Nat×Nat×Nat×List (V×V×Bool)×Option V) (kk:A×List Nat→Option R):B1G T t k okk q kk=ob (A6O T t k okk q) kk:=by
 unfold B1G A6O
 cases q.2.2.2.2.2 with
 | some _=>rfl
 | none=>cases D4 T t with
  | none=>rfl
  | some k1=>cases k1 with
   | map kt et =>
    simp only
    cases T et with
    | none=>rfl
    | some te=>cases A1f T kt k with
     | none=>rfl
     | some kv =>
      simp only [P5]
      cases TK.notOther te.k
      ·rfl
      ·simp only [cond_true]
       cases (Nat.beq kt q.2.1&&Nat.beq et q.2.2.1)
       ·rfl
       ·simp only [cond_true]
        cases J5 kv q.2.2.2.2.1<;>rfl
   | _=>rfl
def B1H (T:TT) (nx t:Nat) (k:A) (q:Nat×Nat×Nat×Nat×List (V×V×Bool)×Option V) (kk:Out→Option R):Option R :=
 match q.2.2.2.2.2 with
 | none=>match D4 T t with
  | some (.map kt et)=>match T et,A1f T kt k with
   | some te,some kv=>bif TK.notOther te.k then (bif Nat.beq kt q.2.1&&Nat.beq et q.2.2.1 then
     (bif J5 kv q.2.2.2.2.1 then (bif A0r kv q.2.2.2.2.1 then kk ⟨.o nx 1,[(q.1,.sm q.2.1 q.2.2.1 q.2.2.2.1 q.2.2.2.2.1 (some kv)),(nx,.row q.2.2.2.1 1 (N6 kv q.2.2.2.2.1).els false true)],[q.1],[nx]⟩ else none) else kk ⟨mkA T et te.zero,[],[q.1],[]⟩) else none) else none
   | _,_=>none
  | _=>none
 | some _=>none
theorem B5g (nx t:Nat) (k:A) (q:Nat×Nat×Nat×Nat×List (V×V×Bool)×Option V) (kk:Out→Option R):B1H T nx t k q kk=ob (A7T T nx t k q) kk:=by
 unfold B1H A7T
 cases q.2.2.2.2.2 with
 | some _=>rfl
 | none=>cases D4 T t with
  | none=>rfl
  | some k1=>cases k1 with
   | map kt et =>
    simp only
    cases T et with
    | none=>rfl
    | some te=>cases A1f T kt k with
     | none=>rfl
     | some kv =>
      simp only [P5]
      cases TK.notOther te.k
      ·rfl
      ·simp only [cond_true]
       cases (Nat.beq kt q.2.1&&Nat.beq et q.2.2.1)
       ·rfl
       ·simp only [cond_true]
        cases J5 kv q.2.2.2.2.1
        ·rfl
        ·simp only [cond_true,P5]
         cases A0r kv q.2.2.2.2.1<;>rfl
   | _=>rfl
def B1I (T:TT) (lend:Bool) (nx:Nat) (of:Nat→Option Ob) (t:Nat) (m k:A) (okk:Bool) (kk:Out→Option R):Option R :=
 match A4X of m with
 | some q=>bif lend&&!okk then B1H T nx t k q kk else B1G T t k okk q fun p=>kk ⟨p.1,[],p.2,[]⟩
 | none=>B3K T of t m k okk fun p=>kk ⟨p.1,[],p.2,[]⟩
theorem B5h (lend:Bool) (nx:Nat) (of:Nat→Option Ob) (t:Nat) (m k:A) (okk:Bool) (kk:Out→Option R):B1I T lend nx of t m k okk kk=ob (A92 T lend nx of t m k okk) kk:=by
 unfold B1I A92
 cases A4X of m with
 | some q =>
  simp only
  cases lend&&!okk
  ·simp only [cond_false,B5f]
   cases A6O T t k okk q<;>rfl
  ·simp only [cond_true,B5g]
 | none =>
  simp only [B91]
  cases A8h T of t m k okk<;>rfl
def B8R (T:TT) (of:Nat→Option Ob) (t:Nat) (k v:A) (q:Nat×Nat×Nat×Nat×List (V×V×Bool)×Option V) (kk:List (Nat×Ob)×List Nat→Option R):Option R :=
 match D4 T t with
 | some (.map kt et)=>match A1f T kt k with
  | some kv=>bif Nat.beq kt q.2.1&&Nat.beq et q.2.2.1 then (bif C2X q.2.2.2.2.2 kv then (match v with
    | .o rid ver=>match of rid with
     | some (.row el v' xs false sh)=>bif Nat.beq el q.2.2.2.1&&Nat.beq v' ver then kk ([(rid,.row el (ver+1) [] true false),(q.1,.sm q.2.1 q.2.2.1 q.2.2.2.1 (V1 kv (.l xs) true q.2.2.2.2.1) none)],[q.1,rid]) else none
     | _=>none
    | v=>match P6 T DEP of et v with
     | some (x,wo)=>bif !(W2 wo).contains q.1 then kk (wo++[(q.1,.sm q.2.1 q.2.2.1 q.2.2.2.1 (V1 kv x false q.2.2.2.2.1) none)],q.1::W2 wo) else none
     | none=>none) else none) else none
  | none=>none
 | _=>none
theorem B8S (of:Nat→Option Ob) (t:Nat) (k v:A) (q:Nat×Nat×Nat×Nat×List (V×V×Bool)×Option V) (kk:List (Nat×Ob)×List Nat→Option R):B8R T of t k v q kk=ob (B4R T of t k v q) kk:=by
 unfold B8R B4R
 cases D4 T t with
 | none=>rfl
 | some k1=>cases k1 with
  | map kt et =>
   simp only
   cases A1f T kt k with
   | none=>rfl
   | some kv =>
    simp only [P5]
    cases (Nat.beq kt q.2.1&&Nat.beq et q.2.2.1)
    ·rfl
    ·simp only [cond_true]
     cases C2X q.2.2.2.2.2 kv
     ·rfl
     ·simp only [cond_true]
      have gen:∀ v:A,(match P6 T DEP of et v with
        | some (x,wo)=>bif !(W2 wo).contains q.1 then kk (wo++[(q.1,.sm q.2.1 q.2.2.1 q.2.2.2.1 (V1 kv x false q.2.2.2.2.1) none)],q.1::W2 wo) else none
        | none=>none)=ob (match P6 T DEP of et v with
        | some (x,wo)=>if !(W2 wo).contains q.1 then some (wo++[(q.1,.sm q.2.1 q.2.2.1 q.2.2.2.1 (V1 kv x false q.2.2.2.2.1) none)],q.1::W2 wo) else none
        | none=>none) kk:=by
       intro v
       cases P6 T DEP of et v with
       | none=>rfl
       | some p =>
        obtain ⟨x,wo⟩:=p
        simp only [P5]
        cases !(W2 wo).contains q.1<;>rfl
      cases v with
      | o rid ver =>
       simp only
       cases of rid with
       | none=>rfl
       | some o=>cases o with
        | row el v' xs nl sh=>cases nl
                              ·simp only [P5];cases (Nat.beq el q.2.2.2.1&&Nat.beq v' ver)<;>rfl
                              ·rfl
        | _=>rfl
      | i k n=>exact gen (.i k n)
      | b y=>exact gen (.b y)
      | s l=>exact gen (.s l)
      | z v=>exact gen (.z v)
      | v t x=>exact gen (.v t x)
      | p i t r=>exact gen (.p i t r)
      | e i v j t r=>exact gen (.e i v j t r)
      | c t x=>exact gen (.c t x)
      | q t x=>exact gen (.q t x)
      | w i v o n=>exact gen (.w i v o n)
      | a i t r l m=>exact gen (.a i t r l m)
      | m i=>exact gen (.m i)
      | y i=>exact gen (.y i)
      | f n c=>exact gen (.f n c)
      | g t l=>exact gen (.g t l)
      | t l=>exact gen (.t l)
      | x=>exact gen .x
  | _=>rfl
def B3u (T:TT) (of:Nat→Option Ob) (nx t:Nat) (m k v:A) (kk:W8→Option R):Option R :=
 match A4X of m with
 | some q=>B8R T of t k v q fun p=>kk ⟨.x,p.1,p.2,nx⟩
 | none=>ob (B9x T of t m k v) fun p=>kk ⟨.x,p.1,p.2,nx⟩
theorem B8T (of:Nat→Option Ob) (nx t:Nat) (m k v:A) (kk:W8→Option R):B3u T of nx t m k v kk=ob (B4W T of nx t m k v) kk:=by
 unfold B3u B4W C21
 cases A4X of m with
 | some q =>
  simp only [B8S]
  cases B4R T of t k v q<;>rfl
 | none =>
  simp only
  cases B9x T of t m k v<;>rfl
def B8U (T:TT) (of:Nat→Option Ob) (t:Nat) (u:A) (k:A×List Nat→Option R):Option R :=
 match A4X of u with
 | some q=>(match D4 T t with
  | some (.map _ _)=>bif Nat.ble q.2.2.2.2.1.length 9223372036854775807 then k (.i .i64 (q.2.2.2.2.1.length:Nat),[q.1]) else none
  | _=>none)
 | none=>C4s T of t u k
theorem B8V (of:Nat→Option Ob) (t:Nat) (u:A) (k:A×List Nat→Option R):B8U T of t u k=ob (B4S T of t u) k:=by
 unfold B8U B4S
 cases A4X of u with
 | none=>exact C4t _ _ _ _
 | some q =>
  unfold C2Z
  cases D4 T t with
  | none=>rfl
  | some kk=>cases kk with
   | map kt et=>simp only;cases Nat.ble q.2.2.2.2.1.length 9223372036854775807<;>rfl
   | _=>rfl
def B8W (T:TT) (K:KC) (ev:Operand→A) (of:Nat→Option Ob) (nx:Nat) (k:Call) (kk:W8→Option R):Option R :=
 match k.callee with
 | .value f=>match ev f with
  | .f fn cap=>bif cap.all (A0k T) then K.f fn R (k.args.toList.map ev++cap) of nx kk else none
  | .y id=>K.y id R (k.args.toList.map ev) of nx kk
  | _=>none
 | .builtin .len=>match k.argTypes.toList,k.args.toList with
  | [t],[x]=>B8U T of t (ev x) fun p=>kk (.pv nx p.1 p.2)
  | _,_=>none
 | .builtin .append=>match k.argTypes.toList,k.args.toList with
  | [t,xt],[x,y]=>bif A3x T xt (ev y) then A9i T of nx t (ev x) (ev y) fun o=>B0d nx o kk else bif isQ T (ev x) then ob (A4i nx (A87 T nx t xt (ev x) (ev y))) kk else none
  | _,_=>none
 | .builtin .copy=>match k.argTypes.toList,k.args.toList with
  | [t,xt],[x,y]=>B94 T of t xt (ev x) (ev y) fun p=>kk ⟨p.1,p.2.1,p.2.2,nx⟩
  | _,_=>none
 | _=>ob (A1t T (.no fun _ _ _ _=>none) ev of nx k) kk
theorem B8X {K:KC} (hK:K.nat) (ev:Operand→A) (of:Nat→Option Ob) (nx:Nat) (k:Call) (kk:W8→Option R):B8W T K ev of nx k kk=ob (A1t T K.dir ev of nx k) kk:=by
 unfold B8W
 split
 ·rename_i f hk
  simp only [A1t,hk]
  cases ev f with
  | f fn cap =>
   simp only [P5]
   cases cap.all (A0k T)
   ·rfl
   ·simp only [cond_true];exact hK.f fn R _ of nx kk
  | y id=>exact hK.y id R _ of nx kk
  | _=>rfl
 ·rename_i hk
  simp only [A1t,hk]
  split
  ·rename_i t x h1 h2
   rw [h1,h2]
   simp only [B8V]
   cases B4S T of t (ev x)<;>rfl
  ·rename_i hne
   split
   ·rename_i t x h1 h2;exact absurd h2 (hne _ _ h1)
   ·rfl
 ·rename_i hk
  simp only [A1t,hk]
  split
  ·rename_i t xt x y h1 h2
   rw [h1,h2]
   simp only [B2g,B0e]
   cases A3x T xt (ev y)
   ·simp only [cond_false,Bool.false_eq_true,if_false]
    cases isQ T (ev x)<;>rfl
   ·simp only [cond_true,if_true]
  ·rename_i hne
   split
   ·rename_i t xt x y h1 h2;exact absurd h2 (hne _ _ _ _ h1)
   ·rfl
 ·rename_i hk
  simp only [A1t,hk]
  split
  ·rename_i t xt x y h1 h2
   rw [h1,h2]
   simp only [B95]
   cases A0u T of t xt (ev x) (ev y)<;>rfl
  ·rename_i hne
   split
   ·rename_i t xt x y h1 h2;exact absurd h2 (hne _ _ _ _ h1)
   ·rfl
 ·rename_i h1 h2 h3 h4
  have:A1t T (.no fun _ _ _ _=>none) ev of nx k=A1t T K.dir ev of nx k:=by
   unfold A1t
   split
   ·rename_i f hk;exact absurd hk (h1 f)
   all_goals rfl
  rw [this]
def B3v (T:TT) (K:KC) (ev:Operand→A) (of:Nat→Option Ob) (nx:Nat) (o:Oper) (k:W8→Option R):Option R :=
 match o.op with
 | .pick q a b=>match ev q with
  | .b t=>k (.pv nx (bif t then ev a else ev b) [])
  | _=>none
 | .binOp op t x y _=>C8P T of op t (ev x) (ev y) fun p=>k (.pv nx p.1 p.2)
 | .unOp op _ x=>unC op (ev x) fun v=>k (.pv nx v [])
 | .convert s t x=>B92 T of nx s t (ev x) fun o=>B0d nx o k
 | .sliceToArrayPointer t x=>C8R T of t (ev x) fun p=>k ⟨p.1,p.2.1,p.2.2,nx⟩
 | .makeSlice t l c=>A3i T nx t (ev l) (ev c) k
 | .lookup t m c okk=>B1I T (C53 o.pos) nx of t (ev m) (ev c) okk fun o=>B0d nx o k
 | .mapUpdate t m c v=>B3u T of nx t (ev m) (ev c) (ev v) k
 | .insert t m c v=>B3u T of nx t (ev m) (ev c) (ev v) k
 | .slice t x lo hi mx=>B2h T of t (ev x) (lo.map ev) (hi.map ev) (mx.map ev) fun p=>k ⟨p.1,p.2.1,p.2.2,nx⟩
 | .indexAddr t x ix=>match ev ix with
  | .i _ i=>A3h T of t i (ev x) fun p=>k (.pv nx p.1 p.2)
  | _=>none
 | .index t x ix=>match ev ix with
  | .i _ i=>B2f T t i (ev x) fun v=>k (.pv nx v [])
  | _=>none
 | .call c=>B8W T K ev of nx c k
 | _=>ob (V7 T (.no fun _ _ _ _=>none) ev of nx o) k
theorem B8Y {nx:Nat} (o:Option (A×List Nat)) (k:W8→Option R):ob (pvR nx o) k=ob o fun p=>k (.pv nx p.1 p.2):=by cases o<;>rfl
theorem B8Z {nx:Nat} (o:Option A) (k:W8→Option R):ob (pvO nx o) k=ob o fun v=>k (.pv nx v []):=by cases o<;>rfl
theorem C8d {nx:Nat} (o:Option (A×List (Nat×Ob)×List Nat)) (k:W8→Option R):ob (pvW nx o) k=ob o fun p=>k ⟨p.1,p.2.1,p.2.2,nx⟩:=by cases o<;>rfl
theorem B0f {K:KC} (hK:K.nat) (ev:Operand→A) (of:Nat→Option Ob) (nx:Nat) (o:Oper) (k:W8→Option R):B3v T K ev of nx o k=ob (V7 T K.dir ev of nx o) k:=by
 obtain ⟨dst,op,ty,pos,after,guard⟩:=o
 cases op<;>simp only [B3v,V7,C4r,C8Q,B93,C4u,A7I,B5h,B8T,B5V,B8Y,B8Z,C8d,B0e,B8X hK]
 case pick q a b=>cases ev q<;>rfl
 case indexAddr t x ix=>cases ev ix<;>simp only [A7H,B8Y]<;>rfl
 case index t x ix=>cases ev ix<;>simp only [B5U,B8Z]<;>rfl
def C8e (T:TT) (K:KC) (ops:Array Oper) (sl:Nat→A) (of:Nat→Option Ob) (nx:Nat) (o:Oper) (k:Ent→Option R):Option R :=
 match o.guard with
 | none=>B3v T K (evO sl) of nx o fun out=>bif Nat.ble nx out.nx then k (.mk1 o (o.looksAt ops) nx out) else none
 | some (g,want)=>match (ops[g]?).bind (·.dst) with
  | some d=>match sl d with
   | .t _=>k (.skip o (o.looksAt ops) nx)
   | .b q=>bif (bif want then q else !q) then (B3v T K (evO sl) of nx o fun out=>bif Nat.ble nx out.nx then k (.mk1 o (o.looksAt ops) nx out) else none) else k (.skip o (o.looksAt ops) nx)
   | _=>none
  | none=>none
theorem C3B {K:KC} (hK:K.nat) (ops:Array Oper) (sl:Nat→A) (of:Nat→Option Ob) (nx:Nat) (o:Oper) (k:Ent→Option R):C8e T K ops sl of nx o k=ob (A15 T K.dir ops sl of nx o) k:=by
 have go:ob (V7 T K.dir (evO sl) of nx o) (fun out=>bif Nat.ble nx out.nx then k (.mk1 o (o.looksAt ops) nx out) else none)=ob (match V7 T K.dir (evO sl) of nx o with
   | some out=>if Nat.ble nx out.nx=true then some (Ent.mk1 o (o.looksAt ops) nx out) else none
   | none=>none) k:=by
  cases V7 T K.dir (evO sl) of nx o with
  | none=>rfl
  | some out=>simp only [ob];cases Nat.ble nx out.nx<;>rfl
 unfold C8e A15
 cases o.guard with
 | none=>simp only [B0f hK];exact go
 | some p =>
  obtain ⟨g,want⟩:=p
  simp only
  cases (ops[g]?).bind (·.dst) with
  | none=>rfl
  | some d =>
   simp only
   cases sl d with
   | t _=>rfl
   | b q =>
    simp only [B0f hK,go]
    cases q<;>cases want<;>rfl
   | _=>rfl
def D0W {α:Type} (a:A) (k:A→α):α :=
 match a with
 | .b q=>match q with
  | true=>k (.b true)
  | false=>k (.b false)
 | a=>k a
theorem C3C {α:Type} (a:A) (k:A→α):D0W a k=k a:=by
 cases a with
 | b q=>cases q<;>rfl
 | _=>rfl
def D0X (fl:Bool) (a:A) (k:A→Option R):Option R :=
 match fl with
 | true=>C7y a k
 | false=>D0W a k
theorem C3D (fl:Bool) (a:A) (k:A→Option R):D0X fl a k=k a:=by
 cases fl
 ·exact C3C a k
 ·exact B3r a k
def ob2 {α β:Type} (o:Option (α×β)) (k:α→β→Option R):Option R :=
 match o with
 | some p=>k p.1 p.2
 | none=>none
def B5i (T:TT) (K:KC) (fl:Bool) (ops:Array Oper) (of:Nat→Option Ob):List Oper→St→(List Ent→St→Option R)→Option R
 | [],σ,k=>k [] σ
 | o::r,σ,k=>C8e T K ops (G8 σ.sl) (D1 σ.ob of) σ.nx o fun E=>D0X fl E.val fun v=>A2a E.hi fun h=>C3c (A1c σ.ob E.ro σ.rd) fun rd =>
   B5i T K fl ops of r { sl:=match E.dst with | some d=>(d,v)::σ.sl | none=>σ.sl,ob:=A01 σ.ob E.wo,rd:=rd,nx:=h,mks:=σ.mks } fun Es σ'=>k ({ E with val:=v,hi:=h }::Es) σ'
theorem B3w {K:KC} (hK:K.nat) (fl:Bool) (ops:Array Oper) (of:Nat→Option Ob):∀ (l:List Oper) (σ:St) (k:List Ent→St→Option R),B5i T K fl ops of l σ k=ob2 (P7 T K.dir ops of l σ) k:=by
 intro l
 induction l with
 | nil=>intro σ k;rfl
 | cons o r ih =>
  intro σ k
  rw [A03]
  simp only [B5i,C3B hK,C3D,Q1,A49,ih]
  cases A15 T K.dir ops (G8 σ.sl) (D1 σ.ob of) σ.nx o with
  | none=>rfl
  | some E =>
   simp only [ob,St.app]
   cases P7 T K.dir ops of r _ with
   | none=>rfl
   | some p=>rfl
abbrev LC:=Code→Option ((R:Type)→(Nat→Option Ob)→St→(Exit→St→Option R)→Option R)
def A5c (ks:List Nat) (f:St→(Exit→St→Option R)→Option R):Nat→St→(Exit→St→Option R)→Option R
 | 0,_,_=>none
 | n+1,σ,k=>f (σ.tidy ks) fun ex σ1=>match ex with
  | .normal=>A5c ks f n σ1 k
  | ex=>k ex σ1
def B1J (T:TT) (K:KC) (nt:Nat) (of:Nat→Option Ob) (R:Type) (g:Operand) (ps:Array Nat) (asg body:Code) (σ:St) (k:Exit→St→Option R):Option R :=
 match σ.mks with
 | some l=>match evO (G8 σ.sl) g with
  | .f f cap=>bif K.ord f&&cap.all (A0k T) then
    (fun (ob1:Tr)=>K.f f R (.y (σ.nx+1)::cap) (D1 ob1 of) (σ.nx+2) fun out=>bif Nat.ble (σ.nx+2) out.nx then
     (fun (ob2:Tr)=>match ob2.get (σ.nx+1) with
     | some (.lp (some r))=>(match A81 r.st with
      | true=>(match B0o r.pend with
       | some ex=>k ex ⟨σ.sl,ob2.set (σ.nx+1) (.lp (some { r with st:=.exhausted })),A1c ob1 out.ro σ.rd,out.nx,some (σ.nx::l)⟩
       | none=>none)
      | false=>none)
     | _=>none) (A01 ob1 out.wo) else none) ((σ.ob.set σ.nx (.lp none)).set (σ.nx+1) (.lp (some ⟨nt,A4S σ.sl (A4R σ.sl []),ps,asg,body,.ready,none⟩)))
   else none
  | _=>none
 | none=>none
theorem B5j {K:KC} (hK:K.nat) {nt:Nat} {of:Nat→Option Ob} {R:Type} {g:Operand} {ps:Array Nat} {asg body:Code} {σ:St} {k:Exit→St→Option R}:B1J T K nt of R g ps asg body σ k=ob2 (A6x T K.dir nt of g ps asg body σ) k:=by
 unfold B1J A6x
 cases σ.mks with
 | none=>rfl
 | some l =>
  simp only
  cases evO (G8 σ.sl) g with
  | f f cap =>
   simp only
   show (bif K.ord f&&cap.all (A0k T) then _ else _)=ob2 (if (K.ord f&&cap.all (A0k T))=true then _ else _) k
   cases (K.ord f&&cap.all (A0k T))
   ·rfl
   ·simp only [cond_true,if_true]
    generalize (σ.ob.set σ.nx (.lp none)).set (σ.nx+1) (.lp (some ⟨nt,A4S σ.sl (A4R σ.sl []),ps,asg,body,.ready,none⟩))=ob1
    rw [hK.f f]
    show ob ((K.f f).dir _ _ _) _=ob2 (match (K.f f).dir _ _ _ with | some out=>_ | none=>none) k
    cases (K.f f).dir (.y (σ.nx+1)::cap) (D1 ob1 of) (σ.nx+2) with
    | none=>rfl
    | some out =>
     simp only [ob]
     cases Nat.ble (σ.nx+2) out.nx
     ·rfl
     ·simp only [cond_true,if_true]
      cases (A01 ob1 out.wo).get (σ.nx+1) with
      | none=>rfl
      | some o =>
       cases o with
       | lp q =>
        cases q with
        | none=>rfl
        | some r =>
         simp only
         cases A81 r.st
         ·rfl
         ·simp only
          cases B0o r.pend<;>rfl
       | _=>rfl
  | _=>rfl
def E8 (T:TT) (K:KC) (Lo:LC) (fl:Bool) (fu nt:Nat) (of:Nat→Option Ob) (R:Type):Code→St→(Exit→St→Option R)→Option R
 | .skip,σ,k=>k .normal σ
 | .ret,σ,k=>k .ret σ
 | .exit id,σ,k=>k (.exit id) σ
 | .region _ ops draw,σ,k =>
  match draw with
  | false=>bif ops.toList.all (A3B nt) then B5i T K fl ops of ops.toList σ fun _ σ'=>k .normal σ' else none
  | true=>bif B0l nt ops then (B5i T K fl ops of ops.toList σ fun Es σ'=>bif A7A (A16 ops.toList []) Es 0 Es then k .normal σ' else
    B5i T K fl ops of ops.toList (σ.pre of (C3X (D1 σ.ob of) Es)) fun Es2 σ2=>bif A7A (A16 ops.toList []) Es2 0 Es2 then k .normal σ2 else none) else none
 | .seq x y,σ,k=>E8 T K Lo fl fu nt of R x σ fun ex σ1=>match ex with
  | .normal=>E8 T K Lo fl fu nt of R y σ1 k
  | ex=>k ex σ1
 | .cond q x y,σ,k=>match evO (G8 σ.sl) q with
  | .b t=>bif t then E8 T K Lo fl fu nt of R x σ k else E8 T K Lo fl fu nt of R y σ k
  | _=>none
 | .block id body,σ,k=>E8 T K Lo fl fu nt of R body σ fun ex σ'=>match ex with
  | .exit id'=>k (bif Nat.beq id' id then .normal else .exit id') σ'
  | ex=>k ex σ'
 | .loop body,σ,k=>match Lo body with
  | some s=>s R of σ k
  | none=>A5c (A4R σ.sl []) (fun σ k=>E8 T K Lo fl fu nt of R body σ k) fu σ k
 | .rangeFunc g ps asg body,σ,k=>B1J T K nt of R g ps asg body σ k
 | _,_,_=>none
abbrev LS:=(R:Type)→(Nat→Option Ob)→St→(Exit→St→Option R)→Option R
def LS.nat (s:LS):Prop:=∀ (R:Type) (of:Nat→Option Ob) (σ:St) (k:Exit→St→Option R),s R of σ k=ob2 (s (Exit×St) of σ fun ex σ=>some (ex,σ)) k
def LS.dir (s:LS) (of:Nat→Option Ob) (σ:St):Option (Exit×St):=s (Exit×St) of σ fun ex σ=>some (ex,σ)
def V8 (Lo:LC):A4o:=fun b=>match Lo b with
 | some s=>some (LS.dir s)
 | none=>none
def A17 (Lo:LC):Prop:=∀ b s,Lo b=some s→LS.nat s
theorem B2:A17 (fun _=>none):=fun b s h=>by cases h
theorem B1K {ks:List Nat} {f:St→(Exit→St→Option R)→Option R} {g:St→Option (Exit×St)} (h:∀ σ k,f σ k=ob2 (g σ) k):∀ (n:Nat) (σ:St) (k:Exit→St→Option R),A5c ks f n σ k=ob2 (A4p ks g n σ) k:=by
 intro n
 induction n with
 | zero=>intro σ k;rfl
 | succ n ih =>
  intro σ k
  simp only [A5c,A4p,h]
  cases hg:g (σ.tidy ks) with
  | none=>rfl
  | some p =>
   obtain ⟨ex,σ1⟩:=p
   simp only [ob2]
   cases ex with
   | normal=>exact ih σ1 k
   | _=>rfl
theorem A1x {K:KC} (hK:K.nat) {Lo:LC} (hLo:A17 Lo) {fl:Bool} {fu nt:Nat} (of:Nat→Option Ob) (R:Type):∀ (c:Code) (σ:St) (k:Exit→St→Option R),E8 T K Lo fl fu nt of R c σ k=ob2 (R3 T K.dir (V8 Lo) fu nt of c σ) k:=by
 intro c
 induction c with
 | skip=>intro σ k;rfl
 | ret=>intro σ k;rfl
 | exit id=>intro σ k;rfl
 | region id ops draw =>
  intro σ k
  cases draw with
  | false =>
   simp only [E8,R3,B3w hK]
   cases ops.toList.all (A3B nt)
   ·rfl
   ·simp only [cond_true,if_true]
    cases P7 T K.dir ops of ops.toList σ<;>rfl
  | true =>
   simp only [E8,R3,B3w hK]
   cases B0l nt ops
   ·rfl
   ·simp only [cond_true,if_true]
    cases P7 T K.dir ops of ops.toList σ with
    | none=>rfl
    | some p =>
     obtain ⟨Es,σ'⟩:=p
     simp only [ob2]
     cases A7A (A16 ops.toList []) Es 0 Es
     ·simp only [cond_false,Bool.false_eq_true,if_false]
      cases P7 T K.dir ops of ops.toList (σ.pre of (C3X (D1 σ.ob of) Es)) with
      | none=>rfl
      | some p2 =>
       obtain ⟨Es2,σ2⟩:=p2
       simp only
       cases A7A (A16 ops.toList []) Es2 0 Es2<;>rfl
     ·rfl
 | seq x y ihx ihy =>
  intro σ k
  simp only [E8,R3]
  rw [ihx]
  cases R3 T K.dir (V8 Lo) fu nt of x σ with
  | none=>rfl
  | some p =>
   obtain ⟨ex,σ1⟩:=p
   simp only [ob2]
   cases ex with
   | normal=>exact ihy σ1 k
   | _=>rfl
 | cond q x y ihx ihy =>
  intro σ k
  simp only [E8,R3]
  cases evO (G8 σ.sl) q with
  | b t=>cases t
         ·exact ihy σ k
         ·exact ihx σ k
  | _=>rfl
 | block id body ih =>
  intro σ k
  simp only [E8,R3]
  rw [ih]
  cases R3 T K.dir (V8 Lo) fu nt of body σ with
  | none=>rfl
  | some p =>
   obtain ⟨ex,σ1⟩:=p
   simp only [ob2]
   cases ex with
   | exit id'=>simp only;cases Nat.beq id' id<;>rfl
   | _=>rfl
 | loop body ih =>
  intro σ k
  simp only [E8,R3]
  cases hb:Lo body with
  | none =>
   simp only [V8,hb]
   exact B1K (fun σ k=>ih σ k) fu σ k
  | some s =>
   simp only [V8,hb]
   exact hLo body s hb R of σ k
 | rangeFunc g ps asg body _ _ =>
  intro σ k
  simp only [E8,R3]
  exact B5j hK
 | _=>intro σ k;rfl
def C4 (P:Program) (T:TT) (K:KC) (Lo:Nat→LC) (fl:Bool) (fu f:Nat):E5:=fun R args of nx k =>
 match P.funcs[f]? with
 | some fn=>match fn.body with
  | some code=>bif !(fn.name == "runtime.NumGoroutine")&&Nat.ble args.length fn.ntmps then
    E8 T K (Lo nx) fl fu fn.ntmps of R code ⟨A3K 0 args,.e,[],nx,some []⟩ fun ex σ=>bif B5B ex then
     (match σ.mks with
     | some ms=>bif A83 nx σ.nx σ.ob.get ms then
      (match A4r T (G8 σ.sl) (D1 σ.ob of) fn.results.toList with
      | some p=>k (A4T ms (A3J nx p.1 σ p.2))
      | none=>none) else none
     | none=>none) else none
    else none
  | none=>none
 | none=>none
theorem A6m {P:Program} {K:KC} (hK:K.nat) {Lo:Nat→LC} (hL:∀ n0,A17 (Lo n0)) {fl:Bool} {fu f:Nat} (R:Type) (args:List A) (of:Nat→Option Ob) (nx:Nat) (k:W8→Option R) :
  C4 P T K Lo fl fu f R args of nx k=ob (A7B P T K.dir (fun n0=>V8 (Lo n0)) fu f args of nx) k:=by
 unfold C4 A7B
 cases hf:P.funcs[f]? with
 | none=>rfl
 | some fn =>
  simp only
  cases hb:fn.body with
  | none=>rfl
  | some code =>
   simp only [P5]
   cases (!(fn.name == "runtime.NumGoroutine")&&Nat.ble args.length fn.ntmps)
   ·rfl
   ·simp only [cond_true]
    rw [A1x hK (hL nx) of R code]
    cases R3 T K.dir (V8 (Lo nx)) fu fn.ntmps of code ⟨A3K 0 args,.e,[],nx,some []⟩ with
    | none=>rfl
    | some p =>
     obtain ⟨ex,σ⟩:=p
     simp only [ob2,P5]
     cases B5B ex
     ·rfl
     ·simp only [cond_true]
      cases σ.mks with
      | none=>rfl
      | some ms =>
       simp only [P5]
       cases A83 nx σ.nx σ.ob.get ms
       ·rfl
       ·simp only [cond_true]
        cases A4r T (G8 σ.sl) (D1 σ.ob of) fn.results.toList<;>rfl
theorem A4m {P:Program} {K:KC} (hK:K.nat) {Lo:Nat→LC} (hL:∀ n0,A17 (Lo n0)) {fl:Bool} {fu f:Nat}:(C4 P T K Lo fl fu f).nat:=by
 intro R args of nx k
 rw [A6m hK hL]
 have:(C4 P T K Lo fl fu f).dir args of nx=A7B P T K.dir (fun n0=>V8 (Lo n0)) fu f args of nx:=by
  show C4 P T K Lo fl fu f W8 args of nx some=_
  rw [A6m hK hL]
  cases A7B P T K.dir (fun n0=>V8 (Lo n0)) fu f args of nx<;>rfl
 rw [this]
theorem A6n {P:Program} (hm:P.follows .mixedOrders=true) (hT:L8 T P) {K:KC} (hK:K.nat) (hS:W5 P T K.dir) {Lo:Nat→LC} (hL:∀ n0,A17 (Lo n0)) {fl:Bool} {fu f:Nat} (hO:∀ n0 fn code,P.funcs[f]? = some fn→fn.body=some code→N2 P T fn.ntmps n0 (V8 (Lo n0)) code):N4 P T f (C4 P T K Lo fl fu f).dir:=by
 have:(C4 P T K Lo fl fu f).dir=A7B P T K.dir (fun n0=>V8 (Lo n0)) fu f:=by
  funext args of nx
  show C4 P T K Lo fl fu f W8 args of nx some=_
  rw [A6m hK hL]
  cases A7B P T K.dir (fun n0=>V8 (Lo n0)) fu f args of nx<;>rfl
 rw [this]
 exact B3F hm hT hS hO
theorem A7Y:V8 (fun _=>none)=fun _=>none:=rfl
def A3b (T:TT) (K:KC) (fl:Bool) (fu id:Nat):E5:=fun R args of nx k =>
 match lpE A2O (of id) with
 | some r=>bif Nat.beq args.length r.ps.size&&r.ps.toList.all (fun p=>Nat.blt p r.nt) then
   E8 T K (fun _=>none) fl fu r.nt of R r.asg ⟨B12 r.ps.toList args r.sl,.e,[id],nx,none⟩ fun ex σ1=>match ex with
    | .normal=>(match lpE A2O (D1 σ1.ob of id) with
     | some r1=>E8 T K (fun _=>none) fl fu r.nt of R r.body (setLp σ1 id { r1 with st:=.busy }) fun ex2 σ2=>ob (C8x id nx of (some (ex2,σ2))) k
     | none=>none)
    | _=>none
   else none
 | none=>none
theorem A7Z {K:KC} (hK:K.nat) {fl:Bool} {fu id:Nat} (R:Type) (args:List A) (of:Nat→Option Ob) (nx:Nat) (k:W8→Option R):A3b T K fl fu id R args of nx k=ob (A3e T K.dir fu id args of nx) k:=by
 unfold A3b A3e
 cases lpE A2O (of id) with
 | none=>rfl
 | some r =>
  simp only [P5]
  cases (Nat.beq args.length r.ps.size&&r.ps.toList.all (fun p=>Nat.blt p r.nt))
  ·rfl
  ·simp only [cond_true]
   rw [A1x hK B2 of R r.asg,A7Y]
   cases R3 T K.dir (fun _=>none) fu r.nt of r.asg ⟨B12 r.ps.toList args r.sl,.e,[id],nx,none⟩ with
   | none=>rfl
   | some p =>
    obtain ⟨ex,σ1⟩:=p
    simp only [ob2]
    cases ex with
    | normal =>
     simp only
     cases lpE A2O (D1 σ1.ob of id) with
     | none=>rfl
     | some r1 =>
      simp only
      rw [A1x hK B2 of R r.body,A7Y]
      cases R3 T K.dir (fun _=>none) fu r.nt of r.body (setLp σ1 id { r1 with st:=.busy }) with
      | none=>rfl
      | some p2=>rfl
    | _=>rfl
theorem A6o {K:KC} (hK:K.nat) {fl:Bool} {fu id:Nat}:(A3b T K fl fu id).dir=A3e T K.dir fu id:=by
 funext args of nx
 show A3b T K fl fu id W8 args of nx some=_
 rw [A7Z hK]
 cases A3e T K.dir fu id args of nx<;>rfl
theorem B1L {K:KC} (hK:K.nat) {fl:Bool} {fu id:Nat}:(A3b T K fl fu id).nat:=by
 intro R args of nx k
 rw [A6o hK,A7Z hK]
variable {P:Program} {T:TT} {R:Type} {c:L0} {e:A9} {of:Nat→Option Ob}
mutual
def A1y (T:TT):Nat→Nat→Bool
 | 0,_=>false
 | d+1,t=>match D4 T t with
  | some (.int _) | some .bool | some .str=>true
  | some (.arr _ el)=>A1y T d el
  | some (.struct fs)=>B0g T d fs
  | _=>false
def B0g (T:TT):Nat→List Nat→Bool
 | 0,_=>false
 | _+1,[]=>true
 | d+1,t::r=>A1y T d t&&B0g T d r
end
theorem RV.flat:∀ (d:Nat) {e e':A9},(∀ {t:Nat} {xs:List V} {cs:List Value},A1y T d t=true→∀ n,RV T e (List.replicate n t) xs cs→RV T e' (List.replicate n t) xs cs) ∧
  (∀ {ts:List Nat} {xs:List V} {cs:List Value},B0g T d ts=true→RV T e ts xs cs→RV T e' ts xs cs):=by
 intro d
 induction d with
 | zero=>intro e e';exact ⟨fun h=>by simp [A1y] at h,fun h=>by simp [B0g] at h⟩
 | succ d ih =>
  intro e e'
  have one:∀ {t:Nat} {x:V} {cs:List Value},A1y T (d+1) t=true→RV T e [t] [x] cs→RV T e' [t] [x] cs:=by
   intro t x cs hf h
   simp only [A1y] at hf
   cases h with
   | int h1 h2 hr g=>cases g;exact .int h1 h2 hr .nil
   | bool h1 h2 g=>cases g;exact .bool h1 h2 .nil
   | str h1 h2 g=>cases g;exact .str h1 h2 .nil
   | ptr h1=>rw [h1] at hf;cases hf
   | nils h1=>rw [h1] at hf;cases hf
   | map h1=>rw [h1] at hf;cases hf
   | func h1=>rw [h1] at hf;cases hf
   | fn h1=>rw [h1] at hf;cases hf
   | slice h1=>rw [h1] at hf;cases hf
   | arr h1 h2 g1 g=>rw [h1] at hf;cases g;exact .arr h1 h2 ((ih (e:=e) (e':=e')).1 hf _ g1) .nil
   | struct h1 h2 g1 g=>rw [h1] at hf;cases g;exact .struct h1 h2 ((ih (e:=e) (e':=e')).2 hf g1) .nil
  refine ⟨fun {t xs cs} hf n=>?_,fun {ts xs cs} hf h=>?_⟩
  ·induction n generalizing xs cs with
   | zero=>intro h;cases h;exact .nil
   | succ n ihn =>
    intro h
    rw [List.replicate_succ] at h ⊢
    cases xs with
    | nil=>cases h
    | cons x xs =>
     obtain ⟨d1,r,rfl,g1,g2⟩:=h.cons_inv
     exact (one hf g1).append (ts:=[t]) (xs:=[x]) (ihn g2)
  ·cases ts with
   | nil=>cases h;exact .nil
   | cons t ts =>
    simp only [B0g,D2I] at hf
    cases xs with
    | nil=>cases h
    | cons x xs =>
     obtain ⟨d1,r,rfl,g1,g2⟩:=h.cons_inv
     exact ((ih (e:=e) (e':=e')).1 hf.1 1 g1).append (ts:=[t]) (xs:=[x]) ((ih (e:=e) (e':=e')).2 hf.2 g2)
theorem B1M {t:Nat} {y:V} {v:Value} (ht:(T t).isSome=true) (h:RV T e [t] [y] v.cells.toList) (ha:Z8 T t v):C3 T e (mkA T t y) v:=by
 obtain ⟨te,hte⟩:=D2M.1 ht
 exact A0h (a:=.v t y) hte ⟨h,ha⟩ (M1 t y)
inductive RP (T:TT) (e:A9):List Nat→List V→List Value→Prop
 | nil:RP T e [] [] []
 | cons {t ts x xs v vs}:RV T e [t] [x] v.cells.toList→Z8 T t v→RP T e ts xs vs→RP T e (t::ts) (x::xs) (v::vs)
theorem RP.change {e e':A9} (hf:∀ a ds,Fz e a ds→Fz e' a ds) {ts:List Nat} {xs:List V} {vs:List Value} (h:RP T e ts xs vs):RP T e' ts xs vs:=by
 induction h with
 | nil=>exact .nil
 | cons h1 h2 _ ih=>exact .cons (h1.change hf) h2 ih
def A0R (T:TT):(Nat→Option Ob)→List Nat→List A→Option (List V×List (Nat×Ob))
 | _,[],[]=>some ([],[])
 | of,t::ts,a::as=>match P6 T DEP of t a with
  | some (x,wo)=>match A0R T (put of wo) ts as with
   | some (xs,wo')=>some (x::xs,wo++wo')
   | none=>none
  | none=>none
 | _,_,_=>none
theorem B1N:∀ {ts:List Nat} {as:List A} {vals:List Value} {e:A9} {of of':Nat→Option Ob} {xs:List V} {wo:List (Nat×Ob)},A5 T c e of'→A0R T of ts as=some (xs,wo)→(∀ id∈W2 wo,of' id=of id)→U3 T e as vals→Shd T c e of' wo fun e'=>RP T e' ts xs vals:=by
 intro ts
 induction ts with
 | nil =>
  intro as vals e of of' xs wo h hv ho hr
  cases as with
  | nil =>
   simp only [A0R,D2K,Prod.mk.injEq] at hv
   obtain ⟨rfl,rfl⟩:=hv
   cases hr
   exact ⟨e,rfl,h,A9.le.refl e,fun _ hu=>hu,.nil⟩
  | cons a as=>simp [A0R] at hv
 | cons t ts ih =>
  intro as vals e of of' xs wo h hv ho hr
  cases as with
  | nil=>simp [A0R] at hv
  | cons a as =>
   simp only [A0R] at hv
   split at hv<;>try (cases hv;done)
   rename_i x1 w1 h1
   split at hv<;>try (cases hv;done)
   rename_i xs2 w2 h2
   injection hv with hv;injection hv with hv1 hv2
   subst hv1;subst hv2
   have ho1:∀ id∈W2 w1,of' id=of id:=fun id A2=>ho id (by simp only [W2,List.map_append,D2S];exact .inl A2)
   have h1':=(A0I DEP).1 of of' t a x1 w1 h1 ho1
   cases hr with
   | @cons _ v _ vs r1 r2 =>
   obtain ⟨e1,p1,p2,p3,p4,p5⟩:=A0O h h1' r1
   have ag:=A5g h1' r1
   obtain ⟨e2,q1,q2,q3,q4,q5⟩:=ih p2 h2 (fun id A2=>A8I _ _ _ _ (ho id (by simp only [W2,List.map_append,D2S];exact .inr A2))) (r2.mono p3)
   exact ⟨e2,q1.trans p1,by rw [H3];exact q2,p3.trans q3,fun j hj=>p4 j (q4 j hj),.cons (p5.mono q3) ag q5⟩
theorem B80:∀ {ts:List Nat} {as:List A} {of:Nat→Option Ob} {xs:List V} {wo:List (Nat×Ob)},A0R T of ts as=some (xs,wo)→A0i of wo:=by
 intro ts
 induction ts with
 | nil =>
  intro as of xs wo h
  cases as with
  | nil=>simp only [A0R,D2K,Prod.mk.injEq] at h;rw [← h.2];intro p hp;cases hp
  | cons a as=>simp [A0R] at h
 | cons t ts ih =>
  intro as of xs wo h
  cases as with
  | nil=>simp [A0R] at h
  | cons a as =>
   simp only [A0R] at h
   split at h<;>try (cases h;done)
   rename_i x1 w1 h1
   split at h<;>try (cases h;done)
   rename_i xs2 w2 h2
   injection h with h;injection h with _ hv2
   subst hv2
   exact A1O ((B71 DEP).1 _ _ _ _ _ h1) (ih h2)
def G2 (T:TT):List Nat→List V→List A
 | t::ts,x::xs=>mkA T t x::G2 T ts xs
 | _,_=>[]
theorem RP.reps {ts:List Nat} {xs:List V} {vs:List Value} (h:RP T e ts xs vs) (ht:ts.all (fun t=>(T t).isSome)=true):U3 T e (G2 T ts xs) vs:=by
 induction h with
 | nil=>exact .nil
 | cons h1 h2 _ ih =>
  simp only [List.all_cons,D2I] at ht
  exact .cons (B1M ht.1 h1 h2) (ih ht.2)
inductive RK where
 | d (t:Nat)
 | r (el:Nat)
inductive Rs where
 | d (t:Nat) (y:V)
 | r (el:Nat) (xs:List V) (nl:Bool)
def C3E:A→List A
 | .t l=>l
 | a=>[a]
def dL (T:TT) (sh:Bool):(Nat→Option Ob)→List A→List RK→Option (List V×List (Nat×Ob))
 | _,[],[]=>some ([],[])
 | of,a::l,.d t::r=>match P6 T DEP of t a with
  | some (y,wo)=>bif (T t).isSome&&(sh||A1y T 8 t) then (match dL T sh (put of wo) l r with
   | some (ys,wo')=>some (y::ys,wo++wo')
   | none=>none) else none
  | none=>none
 | of,_::l,.r _::r=>match dL T sh of l r with
  | some (ys,wo)=>some (.n::ys,wo)
  | none=>none
 | _,_,_=>none
def C3F (T:TT) (sh:Bool) (of:Nat→Option Ob) (el:Nat) (a:A):Option (List V×Bool) :=
 match a with
 | .o id ver=>match of id with
  | some (.row el' v xs nl false)=>bif Nat.beq el el'&&Nat.beq v ver&&(sh||A1y T 8 el) then some (xs,nl) else none
  | _=>none
 | .z v=>bif A59 v&&Nat.blt 0 (B9 T el) then some ([],true) else none
 | _=>none
def rL (T:TT) (sh:Bool) (of:Nat→Option Ob):List A→List V→List RK→Option (List Rs)
 | [],[],[]=>some []
 | _::l,y::ys,.d t::r=>match rL T sh of l ys r with
  | some rs=>some (.d t y::rs)
  | none=>none
 | a::l,_::ys,.r el::r=>match C3F T sh of el a with
  | some (xs,nl)=>match rL T sh of l ys r with
   | some rs=>some (.r el xs nl::rs)
   | none=>none
  | none=>none
 | _,_,_=>none
def A4W:List RK→Nat
 | []=>0
 | .d _::r=>A4W r
 | .r _::r=>A4W r+1
def isT:A→Bool
 | .t _=>true
 | _=>false
def H2 (T:TT) (sh:Bool) (rk:List RK) (out:W8):Option (List Rs) :=
 bif Nat.beq rk.length 1 == isT out.val then none else
 match dL T sh (put (fun _=>none) out.wo) (C3E out.val) rk with
 | some (ys,wo)=>bif Nat.ble (A4W rk) 1 then rL T sh (put (put (fun _=>none) out.wo) wo) (C3E out.val) ys rk else none
 | none=>none
def U4 (T:TT):Nat→List Rs→List A×List (Nat×Ob)×Nat
 | nx,[]=>([],[],nx)
 | nx,.d t y::r=>let p:=U4 T nx r
  (mkA T t y::p.1,p.2.1,p.2.2)
 | nx,.r el xs nl::r=>let p:=U4 T (nx+1) r
  (.o nx 1::p.1,(nx,.row el 1 xs nl false)::p.2.1,p.2.2)
def C3G:List A→A
 | [a]=>a
 | l=>.t l
abbrev FC:=(R:Type)→List V→(List Rs→Option R)→Option R
def FC.nat (F:FC):Prop:=∀ (R:Type) (xs:List V) (k:List Rs→Option R),F R xs k=ob (F (List Rs) xs some) k
def toC {R:Type} (T:TT) (of:Nat→Option Ob) (t:Nat) (a:A) (k:V×List (Nat×Ob)→Option R):Option R :=
 match a with
 | .w id ver off n=>(match D4 T t,of id with
  | some (.slice el),some (.row el' v xs nl _)=>bif Nat.beq el el'&&Nat.beq v ver&&Nat.beq (B9 T t) 1 then bif Nat.ble (off+n) xs.length then k (.l ((xs.drop off).take n),[(id,.row el' v xs nl true)]) else none else none
  | _,_=>none)
 | a=>ob (P6 T DEP of t a) k
theorem C8f {R:Type} (of:Nat→Option Ob) (t:Nat) (a:A) (k:V×List (Nat×Ob)→Option R):toC T of t a k=ob (P6 T DEP of t a) k:=by
 unfold toC
 cases a with
 | w id ver off n =>
  simp only [DEP,P6,A0x]
  cases D4 T t with
  | none=>rfl
  | some kk=>cases kk with
   | slice el=>cases of id with
    | none=>rfl
    | some o=>cases o with
     | row el' v xs nl sh =>
      simp only
      cases (Nat.beq el el'&&Nat.beq v ver&&Nat.beq (B9 T t) 1)<;>cases Nat.ble (off+n) xs.length<;>rfl
     | _=>rfl
   | _=>rfl
 | _=>rfl
def B3x {R:Type} (T:TT):(Nat→Option Ob)→List Nat→List A→(List V×List (Nat×Ob)→Option R)→Option R
 | _,[],[],k=>k ([],[])
 | of,t::ts,a::as,k=>toC T of t a fun p=>B3x T (put of p.2) ts as fun q=>k (p.1::q.1,p.2++q.2)
 | _,_,_,_=>none
theorem B0h {R:Type}:∀ (ts:List Nat) (of:Nat→Option Ob) (as:List A) (k:List V×List (Nat×Ob)→Option R),B3x T of ts as k=ob (A0R T of ts as) k:=by
 intro ts
 induction ts with
 | nil=>intro of as k;cases as<;>rfl
 | cons t ts ih =>
  intro of as k
  cases as with
  | nil=>rfl
  | cons a as =>
   simp only [B3x,C8f,ih,A0R]
   cases P6 T DEP of t a with
   | none=>rfl
   | some p =>
    simp only [ob]
    cases A0R T (put of p.2) ts as<;>rfl
def F6 (T:TT) (sh:Bool) (ts:List Nat) (F:FC):E5:=fun R args of nx k =>
 B3x T of ts args fun p=>F R p.1 fun rs=>k ⟨C3G (U4 T nx rs).1,(bif sh then A1s of p.2 else [])++(U4 T nx rs).2.1,W2 p.2,(U4 T nx rs).2.2⟩
theorem A70 {sh:Bool} {ts:List Nat} {F:FC} (hF:F.nat):(F6 T sh ts F).nat:=by
 intro R args of nx k
 simp only [F6,E5.dir,B0h]
 cases A0R T of ts args with
 | none=>rfl
 | some p =>
  simp only [ob]
  rw [hF R,hF W8]
  cases F (List Rs) p.1 some<;>rfl
variable {P:Program} {T:TT} {R:Type} {c:L0} {e:A9} {of:Nat→Option Ob}
def A9.grown (e:A9) (w:World) (S2:Nat→Nat→Prop):A9:={ e with w:=w,S:=fun b i=>e.S b i∨(e.w.heap.size≤b∧S2 b i) }
theorem A5.grown (h:A5 T c e of) {w':World} {S2:Nat→Nat→Prop} (hsz:e.w.heap.size≤w'.heap.size) (hb:∀ b,b < e.w.heap.size→w'.heap[b]? = e.w.heap[b]?) (h1:w'.os=e.w.os) (h2:w'.tape=e.w.tape) (h3:w'.output=e.w.output) (hS:∀ b i,S2 b i→b < w'.heap.size) :
  A5 T c (e.grown w' S2) of∧e.le (e.grown w' S2):=by
 have hle:e.le (e.grown w' S2):=by
  refine ⟨fun b i hs=>⟨.inl hs,fun x hx=>?_⟩,fun _ h=>h,fun id hu _=>⟨rfl,rfl,fun b o hι=>D8 (hb b (h.lt _ _ _ hu hι))⟩,fun _ _ h=>h,fun _ _=>Nat.le_refl _,fun _ _=>rfl,hsz,fun b hb'=>D8 (hb b hb')⟩
  show w'.cell? ⟨b,i,none⟩=some x
  rw [F4 (hb b (h.slt _ _ hs))];exact hx
 refine ⟨⟨fun id o ho=>?_,h.sep,h.own,fun id b o hu hι=>Nat.lt_of_lt_of_le (h.lt id b o hu hι) hsz,fun b i hs=>?_,fun b i hs=>.inl (h.s0 _ _ hs),fun b i hs=>?_,h1.trans h.os,h2.trans h.tape,h3.trans h.output,Nat.le_trans h.size hsz,fun k hk hm=>?_,h.g.mono (fun _ _ q=>q) rfl (fun _ q=>q) hsz (fun j b o hj hb=>.inl ⟨j,o,hj,hb⟩)⟩,hle⟩
 ·exact (h.ok id o ho).keep hle rfl (fun b o' hι=>hb b (h.lt _ _ _ (h.ok id o ho).use hι)) (fun b o' i hι hs=>by
   rcases hs with hs | ⟨hs,_⟩
   ·exact hs
   ·exact absurd (h.lt _ _ _ (h.ok id o ho).use hι) (by omega)) (fun a o' b _ hG=>⟨hG,hb b (h.g.lt _ _ hG),fun i hs=>by
   rcases hs with hs | ⟨hs,_⟩
   ·exact hs
   ·exact absurd (h.g.lt _ _ hG) (by omega)⟩)
 ·rcases hs with hs | ⟨_,hs⟩
  ·exact Nat.lt_of_lt_of_le (h.slt _ _ hs) hsz
  ·exact hS _ _ hs
 ·rcases hs with hs | ⟨hs,_⟩
  ·exact h.snew _ _ hs
  ·exact .inr (.inl (Nat.le_trans h.size hs))
 ·show w'.heap[k]? = _
  rw [hb k (Nat.lt_of_lt_of_le hk h.size)];exact h.block k hk hm
def A9.adopt (e:A9) (id b o el n:Nat):A9:={ e with ι:=F9 e.ι id (some (b,o)),bn:=F9 e.bn id 1,U:=fun j=>j=id∨e.U j,ty:=F9 e.ty id el,ln:=F9 e.ln id n }
theorem A5.adopt (h:A5 T c e of) {id b o el:Nat} {xs:List V} {cs:Array Value} {t:TypeId} {fz:Nat×Nat} {pre ys post:List Value} (hu:¬ e.U id) (hz:0 < B9 T el) (hb:e.w.heap[b]? = some (.cells cs t fz)) (hf:A1h e.w b cs) (hcs:cs.toList=pre++ys++post) (hp:pre.length=o) (hr:RV T e (List.replicate xs.length el) xs ys)
  (h1:∀ i,o+ys.length≤i→¬ e.S b i) (h2:∀ i,o≤i→¬ e.S b i) (hnew:c.w0.heap.size≤b) (hown:∀ j b' o',(of j).isSome→e.ι j=some (b',o')→b'≠b) (hnG:∀ a,¬ e.G a b) :
  A5 T c (e.adopt id b o el xs.length) (F9 of id (some (.row el 1 xs false false)))∧e.le (e.adopt id b o el xs.length):=by
 have hne:∀ j,e.U j→j≠id:=fun j hj hq=>hu (hq ▸ hj)
 have hblt:b < e.w.heap.size:=(Array.getElem?_eq_some_iff.1 hb).1
 have hle:e.le (e.adopt id b o el xs.length):=by
  refine ⟨fun b i hs=>⟨hs,fun x hx=>hx⟩,fun j hj=>.inr hj,fun j hj _=>⟨upd_ne _ _ (hne j hj),upd_ne _ _ (hne j hj),fun _ _ _=>rfl⟩,fun j hj h0=>?_,fun j hj=>?_,fun j hj=>upd_ne _ _ (hne j hj),Nat.le_refl _,fun _ _=>rfl⟩
  ·show F9 e.bn id 1 j=0
   rw [upd_ne _ _ (hne j hj)];exact h0
  ·show _≤F9 e.bn id 1 j
   rw [upd_ne _ _ (hne j hj)];exact Nat.le_refl _
 have hιid:(e.adopt id b o el xs.length).ι id=some (b,o):=upd_same _ _ _
 have hι:∀ j,j≠id→(e.adopt id b o el xs.length).ι j=e.ι j:=fun j hj=>upd_ne _ _ hj
 refine ⟨⟨fun j ob hj=>?_,fun j k b1 q b2 q' hj hk hb1 hb2 hjk=>?_,fun j b1 q hj hb1=>?_,fun j b1 q hj hb1=>?_,h.slt,h.s0,h.snew,h.os,h.tape,h.output,h.size,h.block,?_⟩,hle⟩
 ·by_cases hjid:j=id
  ·subst hjid
   rw [upd_same] at hj;cases hj
   refine ⟨.inl rfl,by omega,upd_same _ _ _,upd_same _ _ _,upd_same _ _ _,hz,.inr ⟨rfl,b,o,cs,t,fz,pre,ys,post,hιid,hb,hf,hcs,hp,hr.mono hle,h1,fun _=>h2⟩⟩
  ·rw [upd_ne _ _ hjid] at hj
   exact (h.ok j ob hj).keep hle (upd_ne _ _ hjid) (fun _ _ _=>rfl) (fun _ _ _ _ hs=>hs) (fun a o' b _ hG=>⟨hG,rfl,fun i hs=>hs⟩)
 ·by_cases h1':j=id
  ·have h2':k≠id:=fun hq=>hjk (h1'.trans hq.symm)
   subst h1'
   rw [hιid] at hb1;cases hb1
   rw [hι _ h2'] at hb2
   rw [upd_ne _ _ h2'] at hk
   exact fun hq=>hown k b2 q' hk hb2 hq.symm
  ·rw [hι _ h1'] at hb1
   rw [upd_ne _ _ h1'] at hj
   by_cases h2':k=id
   ·subst h2'
    rw [hιid] at hb2;cases hb2
    exact hown j b1 q hj hb1
   ·rw [hι _ h2'] at hb2
    rw [upd_ne _ _ h2'] at hk
    exact h.sep j k b1 q b2 q' hj hk hb1 hb2 hjk
 ·by_cases h1':j=id
  ·subst h1';rw [hιid] at hb1;cases hb1;exact .inl hnew
  ·rw [hι _ h1'] at hb1
   rw [upd_ne _ _ h1'] at hj
   exact h.own j b1 q hj hb1
 ·by_cases h1':j=id
  ·subst h1';rw [hιid] at hb1;cases hb1;exact hblt
  ·rw [hι _ h1'] at hb1
   rcases hj with hj | hj
   ·exact absurd hj h1'
   ·exact h.lt j b1 q hj hb1
 ·refine ⟨fun a b1 hG j b2 q hj hb2=>?_,h.g.uniq,h.g.own,h.g.lt⟩
  by_cases h1':j=id
  ·subst h1';rw [hιid] at hb2;cases hb2;exact fun hq=>hnG a (hq ▸ hG)
  ·rw [hι _ h1'] at hb2
   rw [upd_ne _ _ h1'] at hj
   exact h.g.sep a b1 hG j b2 q hj hb2
inductive RR (T:TT) (sh:Bool) (e:A9) (B:Nat):List RK→List Rs→List Value→Prop
 | nil:RR T sh e B [] [] []
 | d {t y v rk rs vs}:(T t).isSome=true→(sh||A1y T 8 t)=true→RV T e [t] [y] v.cells.toList→Z8 T t v→RR T sh e B rk rs vs→RR T sh e B (.d t::rk) (.d t y::rs) (v::vs)
 | n {el rk rs vs}:0 < B9 T el→RR T sh e B rk rs vs→RR T sh e B (.r el::rk) (.r el [] true::rs) (.slice none 0 0::vs)
 | r {el xs b o cs t fz pre ys post k cap rk rs vs}:0 < B9 T el→(sh||A1y T 8 el)=true→B≤b→e.w.heap[b]? = some (.cells cs t fz)→A1h e.w b cs→cs.toList=pre++ys++post→pre.length=o→RV T e (List.replicate xs.length el) xs ys →
   (∀ i,o+ys.length≤i→¬ e.S b i)→(∀ i,o≤i→¬ e.S b i)→xs.length≤cap→o+cap * B9 T el=cs.size→(0 < cap→k=o)→RR T sh e B rk rs vs→RR T sh e B (.r el::rk) (.r el xs false::rs) (.slice (some ⟨b,k,none⟩) xs.length cap::vs)
theorem C3H {sh:Bool}:∀ {rk:List RK} {l:List A} {vs:List Value} {e:A9} {of:Nat→Option Ob} {ys:List V} {wo:List (Nat×Ob)},A5 T c e of→dL T sh of l rk=some (ys,wo)→U3 T e l vs →
  ∃ e':A9,e'.w=e.w∧A5 T c e' (put of wo)∧e.le e'∧(∀ j,e'.U j→e.U j)∧U3 T e' l vs ∧
   ∀ rs,rL T sh (put of wo) l ys rk=some rs→∀ B,(∀ id el v xs nl sh' b o,put of wo id=some (.row el v xs nl sh')→e'.ι id=some (b,o)→B≤b)→RR T sh e' B rk rs vs:=by
 intro rk
 induction rk with
 | nil =>
  intro l vs e of ys wo h hd hr
  cases l with
  | nil =>
   simp only [dL,D2K,Prod.mk.injEq] at hd
   obtain ⟨rfl,rfl⟩:=hd
   refine ⟨e,rfl,h,A9.le.refl e,fun _ hu=>hu,hr,fun rs hrs B _=>?_⟩
   simp only [rL,D2K] at hrs
   subst hrs
   cases hr;exact .nil
  | cons a l=>simp [dL] at hd
 | cons k rk ih =>
  intro l vs e of ys wo h hd hr
  cases l with
  | nil=>cases k<;>simp [dL] at hd
  | cons a l =>
   cases k with
   | d t =>
    simp only [dL] at hd
    split at hd<;>try (cases hd;done)
    rename_i y w1 h1
    cases hc:((T t).isSome&&(sh||A1y T 8 t)) with
    | false=>rw [hc] at hd;cases hd
    | true =>
     rw [hc] at hd
     simp only [cond_true] at hd
     split at hd<;>try (cases hd;done)
     rename_i ys2 w2 h2
     simp only [D2K,Prod.mk.injEq] at hd
     obtain ⟨rfl,rfl⟩:=hd
     simp only [D2I] at hc
     cases hr with
     | @cons _ v _ vs r1 r2 =>
     obtain ⟨e1,p1,p2,p3,p4,p5⟩:=A0O h h1 r1
     have ag:=A5g h1 r1
     obtain ⟨e2,q1,q2,q3,q4,q6,q5⟩:=ih p2 h2 (r2.mono p3)
     refine ⟨e2,q1.trans p1,by rw [H3];exact q2,p3.trans q3,fun j hj=>p4 j (q4 j hj),.cons ((r1.mono p3).mono q3) q6,fun rs hrs B hB=>?_⟩
     simp only [rL] at hrs
     split at hrs<;>try (cases hrs;done)
     rename_i rs2 hrs2
     simp only [D2K] at hrs
     subst hrs
     rw [H3] at hrs2 hB
     exact .d hc.1 hc.2 (p5.mono q3) ag (q5 _ hrs2 B hB)
   | r el =>
    simp only [dL] at hd
    split at hd<;>try (cases hd;done)
    rename_i ys2 w2 h2
    simp only [D2K,Prod.mk.injEq] at hd
    obtain ⟨rfl,rfl⟩:=hd
    cases hr with
    | @cons _ v _ vs r1 r2 =>
    obtain ⟨e2,q1,q2,q3,q4,q6,q5⟩:=ih h h2 r2
    refine ⟨e2,q1,q2,q3,q4,.cons (r1.mono q3) q6,fun rs hrs B hB=>?_⟩
    simp only [rL] at hrs
    split at hrs<;>try (cases hrs;done)
    rename_i xs nl hn
    split at hrs<;>try (cases hrs;done)
    rename_i rs2 hrs2
    simp only [D2K] at hrs
    subst hrs
    have rest:=q5 _ hrs2 B hB
    have r1':=r1.mono q3
    cases a with
    | o id ver =>
     simp only [C3F] at hn
     split at hn<;>try (cases hn;done)
     rename_i el' v' xs' nl' hof
     cases hc:(Nat.beq el el'&&Nat.beq v' ver&&(sh||A1y T 8 el)) with
     | false=>rw [hc] at hn;cases hn
     | true =>
      rw [hc] at hn
      simp only [cond_true,D2K,Prod.mk.injEq] at hn
      obtain ⟨rfl,rfl⟩:=hn
      simp only [D2I] at hc
      obtain ⟨⟨c1,c2⟩,c3⟩:=hc
      have:=D2H c1;subst this
      have:=D2H c2;subst this
      obtain ⟨g1,g2,g3,g4,g4',g5,g6⟩:=q2.ok _ _ hof
      rcases N9 r1' g3 with ⟨k1,k2,rfl⟩ | ⟨b,o,cap,k,k1,k2,k3,k4,rfl⟩
      ·rcases g6 with ⟨rfl,_,rfl⟩ | ⟨_,b,o,cs,t,fz,pre,ys,post,m1,_⟩
       ·exact .n g5 rest
       ·rw [k1] at m1;cases m1
      ·rcases g6 with ⟨_,m1,_⟩ | ⟨rfl,b',o',cs,t,fz,pre,ys,post,m1,m2,m3,m4,m5,m6,m7,m8⟩
       ·rw [k1] at m1;cases m1
       ·rw [k1] at m1;cases m1
        rw [g4'] at k2 ⊢
        rw [g4] at k3
        rw [T3 m2] at k3
        exact .r g5 c3 (hB _ _ _ _ _ _ _ _ hof k1) m2 m3 m4 m5 m6 m7 (m8 rfl) k2 k3 k4 rest
    | z v0 =>
     simp only [C3F] at hn
     cases hc:(A59 v0&&Nat.blt 0 (B9 T el)) with
     | false=>rw [hc] at hn;cases hn
     | true =>
      rw [hc] at hn
      simp only [cond_true,D2K,Prod.mk.injEq] at hn
      obtain ⟨rfl,rfl⟩:=hn
      simp only [D2I] at hc
      have hx:RA T e2 [.z v0] [v]:=r1'
      have hv:v=.slice none 0 0:=by
       cases hx with
       | z _ _=>exact A1M hc.1
       | r g1 _ _=>exact g1.elim
      subst hv
      exact .n (by simpa [Nat.blt_eq] using hc.2) rest
    | _=>simp [C3F] at hn
theorem RR.flat {sh:Bool} {B:Nat} {e e':A9} (hw:e'.w=e.w) (hf:sh=true→∀ a ds,Fz e a ds→Fz e' a ds) (hS:∀ b i,B≤b→e'.S b i→e.S b i):∀ {rk:List RK} {rs:List Rs} {vs:List Value},RR T sh e B rk rs vs→RR T sh e' B rk rs vs:=by
 intro rk rs vs h
 have one:∀ {t:Nat} {ts:List Nat} (n:Nat) {xs:List V} {cs:List Value},(sh||A1y T 8 t)=true→ts=List.replicate n t→RV T e ts xs cs→RV T e' ts xs cs:=fun {t ts} n {xs cs} hc hts g=>by
  cases hsh:sh with
  | true=>exact g.change (hf hsh)
  | false =>
   rw [hsh,Bool.false_or] at hc
   subst hts
   exact (RV.flat 8 (e:=e) (e':=e')).1 hc n g
 induction h with
 | nil=>exact .nil
 | d h1 h2 h3 h4 _ ih=>exact .d h1 h2 (one 1 h2 rfl h3) h4 ih
 | n h1 _ ih=>exact .n h1 ih
 | r h1 h2 h3 h4 h5 h6 h7 h8 h9 h10 h11 h12 h13 _ ih =>
  exact .r h1 h2 h3 (by rw [hw];exact h4) (by rw [hw];exact h5) h6 h7 (one _ h2 rfl h8) (fun i hi hs=>h9 i hi (hS _ _ h3 hs)) (fun i hi hs=>h10 i hi (hS _ _ h3 hs)) h11 h12 h13 ih
theorem RR.data {sh:Bool} {B nx:Nat}:∀ {rk:List RK} {rs:List Rs} {vs:List Value},RR T sh e B rk rs vs→A4W rk=0→(U4 T nx rs).2=([],nx)∧U3 T e (U4 T nx rs).1 vs:=by
 intro rk rs vs h
 induction h with
 | nil=>intro _;exact ⟨rfl,.nil⟩
 | d h1 h2 h3 h4 _ ih =>
  intro hc
  obtain ⟨p,q⟩:=ih hc
  refine ⟨?_,.cons (B1M h1 h3 h4) q⟩
  simp only [U4]
  exact Prod.ext (congrArg Prod.fst p) (congrArg Prod.snd p)
 | n _ _ _=>intro hc;simp [A4W] at hc
 | r _ _ _ _ _ _ _ _ _ _ _ _ _ _ _=>intro hc;simp [A4W] at hc
theorem RR.take {sh:Bool} {B nx:Nat}:∀ {rk:List RK} {rs:List Rs} {vs:List Value} {e:A9} {of:Nat→Option Ob},A5 T c e of→RR T sh e B rk rs vs→A4W rk≤1→(∀ id,nx≤id→id < (U4 T nx rs).2.2→¬ e.U id)→c.w0.heap.size≤B→(∀ j b o,(of j).isSome→e.ι j=some (b,o)→b < B)→(∀ a b,e.G a b→b < B) →
  nx≤(U4 T nx rs).2.2∧∃ e':A9,e'.w=e.w∧A5 T c e' (put of (U4 T nx rs).2.1)∧e.le e'∧(∀ id,e'.U id→e.U id∨(nx≤id∧id < (U4 T nx rs).2.2))∧U3 T e' (U4 T nx rs).1 vs:=by
 intro rk rs vs e of hos h
 induction h with
 | nil=>intro _ _ _ _ _;exact ⟨Nat.le_refl _,e,rfl,hos,A9.le.refl e,fun _ hu=>.inl hu,.nil⟩
 | d h1 h2 h3 h4 hr ih =>
  intro hc hu hB hb hGB
  obtain ⟨g0,e',g1,g2,g3,g4,g5⟩:=ih hc hu hB hb hGB
  exact ⟨g0,e',g1,g2,g3,g4,.cons (B1M h1 (h3.mono g3) h4) g5⟩
 | @n el rk rs vs hz hr ih =>
  intro hc hu hB hb hGB
  have hc0:A4W rk=0:=by simp only [A4W] at hc;omega
  obtain ⟨p,q⟩:=hr.data (nx:=nx+1) hc0
  have e1:(U4 T nx (.r el [] true::rs)).2.2=nx+1:=by simp only [U4];rw [p]
  have e2:(U4 T nx (.r el [] true::rs)).2.1=[(nx,.row el 1 [] true false)]:=by simp only [U4];rw [p]
  have hun:¬ e.U nx:=hu nx (Nat.le_refl _) (by rw [e1];omega)
  have hle:=hos.le_nil (el:=el) hun
  refine ⟨by rw [e1];omega,e.nil nx el,rfl,by rw [e2];exact hos.nil hun rfl hz,hle,fun id A2=>?_,?_⟩
  ·rcases A2 with rfl | A2
   ·exact .inr ⟨Nat.le_refl _,by rw [e1];omega⟩
   ·exact .inl A2
  ·simp only [U4]
   exact .cons (A2D (.inl rfl) (upd_same _ _ _) (by omega) (upd_same _ _ _) (upd_same _ _ _)) (q.mono hle)
 | @r el xs b o cs t fz pre ys post k cap rk rs vs hz hfl hb1 h4 h5 h6 h7 h8 h9 h10 h11 h12 h13 hr ih =>
  intro hc hu hB hb hGB
  have hc0:A4W rk=0:=by simp only [A4W] at hc;omega
  obtain ⟨p,q⟩:=hr.data (nx:=nx+1) hc0
  have e1:(U4 T nx (.r el xs false::rs)).2.2=nx+1:=by simp only [U4];rw [p]
  have e2:(U4 T nx (.r el xs false::rs)).2.1=[(nx,.row el 1 xs false false)]:=by simp only [U4];rw [p]
  have hun:¬ e.U nx:=hu nx (Nat.le_refl _) (by rw [e1];omega)
  obtain ⟨g1,hle⟩:=hos.adopt (id:=nx) hun hz h4 h5 h6 h7 h8 h9 h10 (Nat.le_trans hB hb1) (fun j b' o' hj hι hq=>by have:=hb j b' o' hj hι;omega) (fun a hG=>by have:=hGB a b hG;omega)
  refine ⟨by rw [e1];omega,e.adopt nx b o el xs.length,rfl,by rw [e2];exact g1,hle,fun id A2=>?_,?_⟩
  ·rcases A2 with rfl | A2
   ·exact .inr ⟨Nat.le_refl _,by rw [e1];omega⟩
   ·exact .inl A2
  ·simp only [U4]
   refine .cons ?_ (q.mono hle)
   have ln:(e.adopt nx b o el xs.length).ln nx=xs.length:=upd_same _ _ _
   have:=A0P (T:=T) (e:=e.adopt nx b o el xs.length) (id:=nx) (ver:=1) (b:=b) (o:=o) (cap:=cap) (.inl rfl) (upd_same _ _ _) (by omega) (upd_same _ _ _) (by rw [ln];exact h11) (by
    rw [show (e.adopt nx b o el xs.length).ty nx=el from upd_same _ _ _,T3 (show (e.adopt nx b o el xs.length).w.heap[b]? = _ from h4)];exact h12) (k:=k) h13
   rw [ln] at this
   exact this
variable {P:Program} {T:TT} {R:Type} {c:L0} {e:A9} {of:Nat→Option Ob}
def TV (T:TT) (ts:List Nat) (xs:List V):Prop:=∃ e vs,RP T e ts xs vs
theorem A3D {α β:Type} {o:Option α} {k:α→Option β} {b:β} (h:ob o k=some b):∃ a,o=some a∧k a=some b:=by
 cases o with
 | none=>cases h
 | some a=>exact ⟨a,rfl,h⟩
theorem B81 {nx:Nat}:∀ {rs:List Rs} {nx:Nat},∀ a∈(U4 T nx rs).1,∀ l,a≠.t l:=by
 intro rs
 induction rs with
 | nil=>intro nx a ha;simp [U4] at ha
 | cons r rs ih =>
  intro nx a ha
  cases r with
  | d t y =>
   simp only [U4,List.mem_cons] at ha
   rcases ha with rfl | ha
   ·exact A2P _ _
   ·exact ih a ha
  | r el xs nl =>
   simp only [U4,List.mem_cons] at ha
   rcases ha with rfl | ha
   ·intro l h;cases h
   ·exact ih a ha
theorem B82 {nx:Nat} {rs:List Rs}:(U4 T nx rs).1.length=rs.length:=by
 induction rs generalizing nx with
 | nil=>rfl
 | cons r rs ih=>cases r<;>simp [U4,ih]
theorem C8g {sh:Bool} {of:Nat→Option Ob}:∀ {rk:List RK} {l:List A} {ys:List V} {rs:List Rs},rL T sh of l ys rk=some rs→rs.length=rk.length:=by
 intro rk
 induction rk with
 | nil=>intro l ys rs h;cases l<;>cases ys<;>simp [rL] at h;subst h;rfl
 | cons k rk ih =>
  intro l ys rs h
  cases l with
  | nil=>cases k<;>simp [rL] at h
  | cons a l=>cases ys with
   | nil=>cases k<;>simp [rL] at h
   | cons y ys =>
    cases k with
    | d t =>
     simp only [rL] at h
     split at h<;>try (cases h;done)
     rename_i rs' h'
     simp only [D2K] at h;subst h
     simp [ih h']
    | r el =>
     simp only [rL] at h
     split at h<;>try (cases h;done)
     split at h<;>try (cases h;done)
     rename_i rs' h'
     simp only [D2K] at h;subst h
     simp [ih h']
theorem B1O:∀ {l:List A} {xs:List Value},xs.length=l.length→(∀ (i:Nat) v x,l[i]? = some v→xs[i]? = some x→H6 T e v x)→U3 T e l xs:=by
 intro l
 induction l with
 | nil=>intro xs h _;cases xs with
  | nil=>exact .nil
  | cons _ _=>simp at h
 | cons a l ih =>
  intro xs h hr
  cases xs with
  | nil=>simp at h
  | cons x xs =>
   refine .cons ?_ (ih (by simpa using h) (fun i v x hv hx=>hr (i+1) v x (by simpa using hv) (by simpa using hx)))
   have:=hr 0 a x rfl rfl
   cases a with
   | t l=>exact this.elim
   | _=>exact this
theorem B1P {l:List A} {xs:List Value} (h:U3 T e l xs) (hn:∀ a∈l,∀ m,a≠.t m):C3 T e (.t l) (.tuple xs.toArray):=by
 obtain ⟨h1,h2⟩:=h.get
 refine ⟨xs.toArray,rfl,by simpa using h1,fun i v x hv hx=>?_⟩
 exact A5e (h2 i v x hv (by simpa using hx)) (hn v (List.mem_of_getElem? hv))
theorem B3y {f:FuncId} {s:E5} (hn:s.nat) (hs:N4 P T f s.dir) {sh:Bool} {ts:List Nat} {rk:List RK} {F:FC} (hFn:F.nat) (hts:ts.all (fun t=>(T t).isSome)=true)
  (hF:∀ xs rs,TV T ts xs→F (List Rs) xs some=some rs→s (List Rs) (G2 T ts xs) (fun _=>none) 0 (fun out=>H2 T sh rk out)=some rs):N4 P T f (F6 T sh ts F).dir:=by
 intro c e of of' args vals nx out hos hrun hro hu hvals
 unfold E5.dir F6 at hrun
 rw [B0h] at hrun
 obtain ⟨⟨xs,wo⟩,hargs,hrun⟩:=A3D hrun
 simp only at hrun
 rw [hFn W8] at hrun
 obtain ⟨rs,hrs,hout⟩:=A3D hrun
 injection hout with hout
 subst hout
 obtain ⟨eS,s1,s2,s3,s4,s5⟩:=B1N hos hargs hro hvals
 have hrun0:=hF xs rs ⟨_,_,s5⟩ hrs
 rw [hn] at hrun0
 obtain ⟨out0,hout0,hres⟩:=A3D hrun0
 let e0:A9:={ w:=e.w,ι:=fun _=>none,S:=eS.S,bn:=fun _=>0,U:=fun _=>False,ty:=fun _=>0,ln:=fun _=>0,G:=fun _ _=>False }
 let c0:L0:={ w0:=e.w,M:=fun _=>False,S0:=eS.S }
 have hos0:A5 T c0 e0 (fun _=>none):=⟨fun _ _ h=>(by cases h),fun _ _ _ _ _ _ h=>(by cases h),fun _ _ _ h=>(by cases h),fun _ _ _ h=>False.elim h,fun b i h=>by have:=s2.slt b i h;rwa [s1] at this,fun _ _ h=>h,fun _ _ h=>.inl h,rfl,rfl,rfl,Nat.le_refl _,fun _ _ _=>rfl,⟨fun _ _ h=>h.elim,fun _ _ _ h=>h.elim,fun _ _ h=>h.elim,fun _ _ h=>h.elim⟩⟩
 have hreps0:U3 T e0 (G2 T ts xs) vals.toList:=(s5.change (e':=e0) (fun a ds q=>⟨q.1,fun j y hj=>by
  obtain ⟨p1,p2⟩:=q.2 j y hj
  rw [s1] at p1
  exact ⟨p1,p2⟩⟩)).reps hts
 refine F7 (hs c0 e0 (fun _=>none) (fun _=>none) _ vals 0 out0 hos0 hout0 (fun _ _=>rfl) (fun _ _ _ h=>h) hreps0) ?_
 rintro x w' ⟨e1,rfl,k1,k2,k3,k4⟩
 obtain ⟨vs,hvs,hx⟩:∃ vs,U3 T e1 (C3E out0.val) vs∧((isT out0.val=true∧x=.tuple vs.toArray)∨(isT out0.val=false∧vs=[x])):=by
  cases hv:out0.val with
  | t l =>
   rw [hv] at k4
   obtain ⟨X,rfl,h2,h3⟩:=k4
   exact ⟨X.toList,B1O (by simpa [C3E] using h2) (fun i v x a b=>h3 i v x a (by simpa using b)),.inl ⟨rfl,by simp⟩⟩
  | _=>rw [hv] at k4;exact ⟨[x],.cons k4 .nil,.inr ⟨rfl,rfl⟩⟩
 unfold H2 at hres
 cases hsh1:(Nat.beq rk.length 1 == isT out0.val) with
 | true=>rw [hsh1] at hres;cases hres
 | false =>
 rw [hsh1] at hres
 simp only [cond_false] at hres
 split at hres<;>try (cases hres;done)
 rename_i ys w2 hdl
 cases hcnt:Nat.ble (A4W rk) 1 with
 | false=>rw [hcnt] at hres;cases hres
 | true =>
 rw [hcnt] at hres
 simp only [cond_true] at hres
 obtain ⟨e2,q1,q2,q3,q4,q6,q5⟩:=C3H k1 hdl hvs
 have hRR:=q5 rs hres e.w.heap.size (fun id el v xs nl sh' b o A2 hι=>by
  rcases q2.own id b o (by rw [A2];rfl) hι with h | h
  ·exact h
  ·exact h.elim)
 obtain ⟨eK,ofK,t1,t2,t3,t4,t5,t6⟩:∃ (eK:A9) (ofK:Nat→Option Ob),eK.w=e.w∧A5 T c eK ofK∧e.le eK∧(∀ j,eK.U j→e.U j)∧(sh=true→∀ b i,eS.S b i→eK.S b i)∧put of' (bif sh then A1s of wo else [])=ofK:=by
  cases sh with
  | true =>
   refine ⟨eS,put of' wo,s1,s2,s3,s4,fun _ _ _ h=>h,?_⟩
   have hall:A0i of' wo:=fun p hp=>by
    rw [hro p.1 (List.mem_map.2 ⟨p,hp,rfl⟩)];exact B80 hargs p hp
   show put of' (A1s of wo)=_
   rw [A6d hro,A9Y hall]
  | false=>exact ⟨e,of',rfl,hos,A9.le.refl e,fun _ h=>h,fun h=>(by cases h),rfl⟩
 have hsz:eK.w.heap.size=e.w.heap.size:=by rw [t1]
 obtain ⟨g1,g2⟩:=t2.grown (w':=e2.w) (S2:=e2.S) (by rw [hsz];exact q2.size) (fun b hb=>by rw [t1];exact q2.block b (by rw [← hsz];exact hb) (fun h=>h)) (by rw [t1];exact q2.os) (by rw [t1];exact q2.tape) (by rw [t1];exact q2.output) (fun b i h=>q2.slt b i h)
 have hRA:RR T sh (eK.grown e2.w e2.S) e.w.heap.size rk rs vs:=RR.flat (e:=e2) (e':=eK.grown e2.w e2.S) rfl (fun hsh a ds q=>⟨q.1,fun j y hj=>by
   obtain ⟨p1,p2⟩:=q.2 j y hj
   refine ⟨p1,?_⟩
   rcases q2.snew _ _ p2 with h | h | h
   ·exact .inl (t5 hsh _ _ h)
   ·exact .inr ⟨by rw [hsz];exact h,p2⟩
   ·exact h.elim⟩) (fun b i hB hS=>by
   rcases hS with h | h
   ·have:=t2.slt b i h;omega
   ·exact h.2) hRR
 obtain ⟨u0,e',u1,u2,u3,u4,u5⟩:=RR.take (nx:=nx) g1 hRA (D2N hcnt) (fun id h1 h2 hU=>hu id h1 h2 (t4 id hU)) hos.size (fun j b o hj hι=>by
  have:=t2.lt j b o (t2.ok j _ (Option.some_get hj).symm).use hι
  rwa [hsz] at this) (fun a b hG=>by
  have:=t2.g.lt a b hG
  rwa [hsz] at this)
 refine ⟨e',u1.trans q1,?_,t3.trans (g2.trans u3),fun id A2=>(u4 id A2).imp (t4 id) (fun h=>h),?_⟩
 ·show A5 T c e' (put of' ((bif sh then A1s of wo else [])++(U4 T nx rs).2.1))
  rw [H3,t6];exact u2
 ·show C3 T e' (C3G (U4 T nx rs).1) x
  have hlen:(U4 T nx rs).1.length=rk.length:=by rw [B82,C8g hres]
  rcases hx with ⟨ht,rfl⟩ | ⟨ht,rfl⟩
  ·have hne:(U4 T nx rs).1.length≠1:=by
    rw [hlen];intro h;rw [h,ht] at hsh1;cases hsh1
   have:C3G (U4 T nx rs).1=.t (U4 T nx rs).1:=by
    unfold C3G
    split
    ·rename_i a h;rw [h] at hne;exact absurd rfl hne
    ·rfl
   rw [this]
   exact B1P u5 (B81 (nx:=nx))
  ·have h1:=u5.get.1
   obtain ⟨a,ha⟩:∃ a,(U4 T nx rs).1=[a]:=List.length_eq_one_iff.1 (by simpa using h1.symm)
   rw [ha] at u5 ⊢
   cases u5 with
   | cons h _=>exact h
variable {P:Program} {T:TT} {R:Type}
def noC:E5:=fun _ _ _ _ _=>none
theorem B3z:noC.nat:=fun _ _ _ _ _=>rfl
theorem C8h {f:FuncId}:N4 P T f noC.dir:=fun c e of of' args vals nx out _ h=>by cases h
def A23:List (Nat×E5)→Nat→Option E5
 | [],_=>none
 | (k,s)::r,f=>bif Nat.beq k f then some s else A23 r f
def D2 (P:Program) (T:TT) (tab:List (Nat×E5)):Prop:=∀ f s,(f,s)∈tab→s.nat∧N4 P T f s.dir
theorem B5k:D2 P T []:=fun f s h=>by cases h
theorem D2.cons {tab:List (Nat×E5)} (h:D2 P T tab) {f:Nat} {s:E5} (hn:s.nat) (hs:N4 P T f s.dir):D2 P T ((f,s)::tab):=by
 intro g s' hg
 rcases List.mem_cons.1 hg with hq | hg
 ·cases hq;exact ⟨hn,hs⟩
 ·exact h g s' hg
theorem A1z:∀ {tab:List (Nat×E5)} {f:Nat} {s:E5},A23 tab f=some s→(f,s)∈tab:=by
 intro tab
 induction tab with
 | nil=>intro f s h;cases h
 | cons p r ih =>
  intro f s h
  obtain ⟨k,s'⟩:=p
  simp only [A23] at h
  cases hk:Nat.beq k f with
  | true =>
   rw [hk] at h;simp only [cond_true,D2K] at h
   have:=D2H hk;subst this;subst h
   exact List.mem_cons_self ..
  | false=>rw [hk] at h;exact List.mem_cons_of_mem _ (ih h)
def E9 (P:Program) (T:TT) (tab:List (Nat×E5)) (fl:Bool) (fu:Nat):Nat→KC
 | 0=>⟨fun f=>match A23 tab f with
  | some s=>s
  | none=>noC,fun _=>noC,fun _=>false⟩
 | d+1=>⟨fun f=>match A23 tab f with
  | some s=>s
  | none=>C4 P T (E9 P T tab fl fu d) (fun _ _=>none) fl fu f,fun id=>A3b T (E9 P T tab fl fu d) fl fu id,A84 P⟩
theorem A8 {tab:List (Nat×E5)} (h:D2 P T tab) {fl:Bool} {fu:Nat}:∀ d,(E9 P T tab fl fu d).nat:=by
 intro d
 induction d with
 | zero =>
  refine ⟨fun f=>?_,fun _=>B3z⟩
  show (match A23 tab f with
   | some s=>s
   | none=>noC).nat
  split
  ·rename_i s hs;exact (h f s (A1z hs)).1
  ·exact B3z
 | succ d ih =>
  refine ⟨fun f=>?_,fun id=>B1L ih⟩
  show (match A23 tab f with
   | some s=>s
   | none=>C4 P T (E9 P T tab fl fu d) (fun _ _=>none) fl fu f).nat
  split
  ·rename_i s hs;exact (h f s (A1z hs)).1
  ·exact A4m ih (fun _=>B2)
theorem B4 (hm:P.follows .mixedOrders=true) (hT:L8 T P) {tab:List (Nat×E5)} (h:D2 P T tab) {fl:Bool} {fu:Nat}:∀ d,W5 P T (E9 P T tab fl fu d).dir:=by
 intro d
 induction d with
 | zero =>
  refine ⟨fun f=>?_,fun id c e of of' args vals nx out b _ hr=>(by cases hr),fun f h=>(by cases h)⟩
  show N4 P T f (match A23 tab f with
   | some s=>s
   | none=>noC).dir
  split
  ·rename_i s hs;exact (h f s (A1z hs)).2
  ·exact C8h
 | succ d ih =>
  refine ⟨fun f=>?_,fun id=>?_,fun f h=>A8a h⟩
  ·show N4 P T f (match A23 tab f with
    | some s=>s
    | none=>C4 P T (E9 P T tab fl fu d) (fun _ _=>none) fl fu f).dir
   split
   ·rename_i s hs;exact (h f s (A1z hs)).2
   ·exact A6n hm hT (A8 h d) ih (fun _=>B2) (fun n0 fn code _ _=>A6 code)
  ·show YOK P T id (A3b T (E9 P T tab fl fu d) fl fu id).dir
   rw [A6o (A8 h d)]
   exact A79 hm hT ih
structure H8 (P:Program) (T:TT) (f:Nat) (Lo:Nat→LC):Prop where
 nat:∀ n0,A17 (Lo n0)
 ok:∀ n0 fn code,P.funcs[f]? = some fn→fn.body=some code→N2 P T fn.ntmps n0 (V8 (Lo n0)) code
theorem E3 {f:Nat}:H8 P T f (fun _ _=>none):=⟨fun _=>B2,fun n0 fn code _ _=>A6 code⟩
theorem B0i (hm:P.follows .mixedOrders=true) (hT:L8 T P) {tab:List (Nat×E5)} (h:D2 P T tab) {f d fu:Nat} {Lo:Nat→LC} {sh:Bool} {ts:List Nat} {rk:List RK} {F:FC} (hFn:F.nat) (hts:ts.all (fun t=>(T t).isSome)=true)
  (hL:H8 P T f Lo)
  (hF:∀ xs rs,TV T ts xs→F (List Rs) xs some=some rs→C4 P T (E9 P T tab false fu d) Lo false fu f (List Rs) (G2 T ts xs) (fun _=>none) 0 (fun out=>H2 T sh rk out)=some rs) :
  D2 P T ((f,F6 T sh ts F)::tab) :=
 h.cons (A70 hFn) (B3y (A4m (A8 h d) hL.nat) (A6n hm hT (A8 h d) (B4 hm hT h d) hL.nat hL.ok) hFn hts hF)
variable {P:Program} {T:TT} {R:Type}
def E1 {p q:Type} (B:p→(p→Option R)→(q→Option R)→Option R):Nat→p→(q→Option R)→Option R
 | 0,_,_=>none
 | n+1,x,kx=>B x (fun x'=>E1 B n x' kx) kx
def A2 (n:Nat):Nat:=Classical.choose (⟨n,rfl⟩:∃ m,m=n)
theorem A3c (n:Nat):A2 n=n:=Classical.choose_spec (⟨n,rfl⟩:∃ m,m=n)
abbrev FU:Nat:=4611686018427387904
def A0m (n0:Nat) (ks:List Nat) (M6:Nat) (f:St→(Exit→St→Option R)→Option R):Nat→St→(Exit→St→Option R)→Option R
 | 0,_,_=>none
 | n+1,σ,k=>bif Nat.ble σ.nx M6 then (match σ.norm n0 ks with
  | some σn=>f σn fun ex σ1=>match ex with
   | .normal=>A0m n0 ks M6 f n σ1 k
   | ex=>bif Nat.ble σ1.nx M6 then (match σ1.norm n0 ks with
    | some σ2=>bif Nat.ble σ2.nx M6 then k ex { σ2 with nx:=M6 } else none
    | none=>none) else none
  | none=>none) else none
theorem B0j {n0 M6:Nat} {ks:List Nat} {f:St→(Exit→St→Option R)→Option R} {g:St→Option (Exit×St)} (h:∀ σ k,f σ k=ob2 (g σ) k):∀ (n:Nat) (σ:St) (k:Exit→St→Option R),A0m n0 ks M6 f n σ k=ob2 (V5 n0 ks M6 g n σ) k:=by
 intro n
 induction n with
 | zero=>intro σ k;rfl
 | succ n ih =>
  intro σ k
  simp only [A0m,V5,h]
  cases Nat.ble σ.nx M6
  ·rfl
  ·simp only [cond_true]
   cases σ.norm n0 ks with
   | none=>rfl
   | some σn =>
    simp only
    cases g σn with
    | none=>rfl
    | some p =>
     obtain ⟨ex,σ1⟩:=p
     simp only [ob2]
     cases ex with
     | normal=>exact ih σ1 k
     | _ =>
      simp only
      cases Nat.ble σ1.nx M6
      ·rfl
      ·simp only [cond_true]
       cases σ1.norm n0 ks with
       | none=>rfl
       | some σ2=>simp only;cases Nat.ble σ2.nx M6<;>rfl
def H4 (n0:Nat) (ks:List Nat) (M6:Nat) (K:St→Option R) (kx:Exit→St→Option R):Exit→St→Option R:=fun ex σ1=>match ex with
 | .normal=>bif Nat.ble σ1.nx M6 then (match σ1.norm n0 ks with
  | some σn=>K σn
  | none=>none) else none
 | ex=>bif Nat.ble σ1.nx M6 then (match σ1.norm n0 ks with
  | some σ2=>bif Nat.ble σ2.nx M6 then kx ex { σ2 with nx:=M6 } else none
  | none=>none) else none
theorem B83 {p q:Type} {n0 M6:Nat} {ks:List Nat} {f:St→(Exit→St→Option R)→Option R} (tm:p→St) (B:p→(p→Option R)→(q→Option R)→Option R) (ek:(Exit→St→Option R)→q→Option R)
  (hstep:∀ (x:p) (K:St→Option R) (kx:Exit→St→Option R),f (tm x) (H4 n0 ks M6 K kx)=B x (fun x'=>K (tm x')) (ek kx)) :
  ∀ (n:Nat) (x:p) (σ:St) (k:Exit→St→Option R),σ.norm n0 ks=some (tm x)→Nat.ble σ.nx M6=true→A0m n0 ks M6 f n σ k=E1 B n x (ek k):=by
 intro n
 have key:∀ n (k:Exit→St→Option R),∃ G:St→Option R,(∀ x,G (tm x)=E1 B n x (ek k))∧∀ σ,A0m n0 ks M6 f n σ k=bif Nat.ble σ.nx M6 then (match σ.norm n0 ks with | some σn=>G σn | none=>none) else none:=by
  intro n
  induction n with
  | zero =>
   intro k
   refine ⟨fun _=>none,fun x=>rfl,fun σ=>?_⟩
   simp only [A0m]
   cases Nat.ble σ.nx M6
   ·rfl
   ·simp only [cond_true];cases σ.norm n0 ks<;>rfl
  | succ n ih =>
   intro k
   obtain ⟨G,g1,g2⟩:=ih k
   refine ⟨fun τ=>f τ (H4 n0 ks M6 G k),fun x=>?_,fun σ=>?_⟩
   ·simp only
    rw [hstep x G k,E1]
    congr 1
    funext x'
    exact g1 x'
   ·simp only [A0m]
    have:∀ σn,(f σn fun ex σ1=>match ex with
      | .normal=>A0m n0 ks M6 f n σ1 k
      | ex=>bif Nat.ble σ1.nx M6 then (match σ1.norm n0 ks with
       | some σ2=>bif Nat.ble σ2.nx M6 then k ex { σ2 with nx:=M6 } else none
       | none=>none) else none)=f σn (H4 n0 ks M6 G k):=by
     intro σn
     congr 1
     funext ex σ1
     cases ex with
     | normal=>exact g2 σ1
     | _=>rfl
    cases Nat.ble σ.nx M6
    ·rfl
    ·simp only [cond_true]
     cases σ.norm n0 ks with
     | none=>rfl
     | some σn=>exact this σn
 intro x σ k hn hb
 obtain ⟨G,g1,g2⟩:=key n k
 rw [g2,hb,cond_true,hn]
 exact g1 x
theorem A6p {n0 M6:Nat} {ks:List Nat} {f:St→Option (Exit×St)} {n:Nat} {σ:St} (h:Nat.ble σ.nx M6=false∨σ.norm n0 ks=none):V5 n0 ks M6 f n σ=none:=by
 cases n with
 | zero=>rfl
 | succ n =>
  simp only [V5]
  rcases h with h | h
  ·rw [h];rfl
  ·rw [h];cases Nat.ble σ.nx M6<;>rfl
def H9 {p q:Type} (T:TT) (K:KC) (LoI:LC) (nt:Nat) (b:Code) (n0:Nat) (ks:List Nat) (M6:Nat) (ext:St→Option p) (B:(R:Type)→p→(p→Option R)→(q→Option R)→Option R) (ek:(R:Type)→(Exit→St→Option R)→q→Option R):LS:=fun R of σ k =>
 bif Nat.ble σ.nx M6 then (match σ.norm n0 ks with
  | some τ=>match ext τ with
   | some x=>E1 (B R) (A2 FU) x (ek R k)
   | none=>ob2 (V5 n0 ks M6 (fun σ=>R3 T K.dir (V8 LoI) FU nt of b σ) FU σ) k
  | none=>none) else none
theorem B84 {p q:Type} {K:KC} (hK:K.nat) {LoI:LC} (hLI:A17 LoI) {nt:Nat} {b:Code} {n0:Nat} {ks:List Nat} {M6:Nat} {ext:St→Option p} {B:(R:Type)→p→(p→Option R)→(q→Option R)→Option R} {ek:(R:Type)→(Exit→St→Option R)→q→Option R} (tm:p→St)
  (hext:∀ τ x,ext τ=some x→τ=tm x)
  (hstep:∀ (R:Type) (of:Nat→Option Ob) (x:p) (K':St→Option R) (kx:Exit→St→Option R),E8 T K LoI false FU nt of R b (tm x) (H4 n0 ks M6 K' kx)=B R x (fun x'=>K' (tm x')) (ek R kx))
  (R:Type) (of:Nat→Option Ob) (σ:St) (k:Exit→St→Option R) :
  H9 T K LoI nt b n0 ks M6 ext B ek R of σ k=ob2 (V5 n0 ks M6 (fun σ=>R3 T K.dir (V8 LoI) FU nt of b σ) FU σ) k:=by
 have hun:=B0j (R:=R) (n0:=n0) (M6:=M6) (ks:=ks) (f:=fun σ k=>E8 T K LoI false FU nt of R b σ k) (g:=fun σ=>R3 T K.dir (V8 LoI) FU nt of b σ) (fun σ k=>A1x hK hLI of R b σ k) FU σ k
 unfold H9
 cases hb:Nat.ble σ.nx M6 with
 | false =>
  simp only [cond_false]
  rw [A6p (.inl hb)];rfl
 | true =>
  simp only [cond_true]
  cases hn:σ.norm n0 ks with
  | none =>
   rw [A6p (.inr hn)];rfl
  | some τ =>
   simp only
   cases hx:ext τ with
   | none=>rfl
   | some x =>
    simp only
    rw [A3c,← hun]
    exact (B83 tm (B R) (ek R) (hstep R of) FU x σ k (by rw [hn,hext τ x hx]) hb).symm
def F0 (P:Program) (T:TT) (nt n0:Nat) (b:Code) (s:LS):Prop:=s.nat∧∀ of σ ex σ',s.dir of σ=some (ex,σ')→A3I P T nt n0 of (.loop b) σ ex σ'
theorem C5 (hm:P.follows .mixedOrders=true) (hT:L8 T P) {p q:Type} {K:KC} (hK:K.nat) (hS:W5 P T K.dir) {LoI:LC} (hLI:A17 LoI) {nt:Nat} {b:Code} {n0:Nat} (hO:N2 P T nt n0 (V8 LoI) b) {ks:List Nat} {M6:Nat} {ext:St→Option p} {B:(R:Type)→p→(p→Option R)→(q→Option R)→Option R} {ek:(R:Type)→(Exit→St→Option R)→q→Option R} (tm:p→St)
  (hext:∀ τ x,ext τ=some x→τ=tm x)
  (hstep:∀ (R:Type) (of:Nat→Option Ob) (x:p) (K':St→Option R) (kx:Exit→St→Option R),E8 T K LoI false FU nt of R b (tm x) (H4 n0 ks M6 K' kx)=B R x (fun x'=>K' (tm x')) (ek R kx)) :
  F0 P T nt n0 b (H9 T K LoI nt b n0 ks M6 ext B ek):=by
 have heq:=B84 (M6:=M6) (ks:=ks) (n0:=n0) hK hLI tm hext hstep
 refine ⟨fun R of σ k=>?_,fun of σ ex σ' h=>?_⟩
 ·rw [heq R,heq (Exit×St)]
  cases V5 n0 ks M6 (fun σ=>R3 T K.dir (V8 LoI) FU nt of b σ) FU σ<;>rfl
 ·unfold LS.dir at h
  rw [heq] at h
  have h':V5 n0 ks M6 (fun σ=>R3 T K.dir (V8 LoI) FU nt of b σ) FU σ=some (ex,σ'):=by
   cases hq:V5 n0 ks M6 (fun σ=>R3 T K.dir (V8 LoI) FU nt of b σ) FU σ with
   | none=>rw [hq] at h;cases h
   | some p=>rw [hq] at h;exact h
  exact A7G (fun σ ex σ' h=>A2M hm hT hS b hO σ ex σ' h) h'
def P4:Code→List Code
 | .seq x y=>P4 x++P4 y
 | .cond _ x y=>P4 x++P4 y
 | .block _ b=>P4 b
 | .loop b=>b::P4 b
 | _=>[]
def A6q:Code→Nat
 | .region id _ _=>id
 | .seq x _=>A6q x
 | .cond _ x _=>A6q x
 | .block _ b=>A6q b
 | .loop b=>A6q b
 | _=>0
def lp (c:Code) (i:Nat):Code:=(P4 c).getD i .skip
def B3A:List (Nat×LS)→Nat→Option LS
 | [],_=>none
 | (k,s)::r,i=>bif Nat.beq k i then some s else B3A r i
def loT (l:List (Nat×LS)):LC:=fun b=>B3A l (A6q b)
theorem B5l:∀ {l:List (Nat×LS)} {i:Nat} {s:LS},B3A l i=some s→∃ k,(k,s)∈l:=by
 intro l
 induction l with
 | nil=>intro i s h;cases h
 | cons p r ih =>
  intro i s h
  obtain ⟨k,s'⟩:=p
  simp only [B3A] at h
  cases hk:Nat.beq k i with
  | true=>rw [hk] at h;simp only [cond_true,D2K] at h;subst h;exact ⟨k,List.mem_cons_self ..⟩
  | false=>rw [hk] at h;obtain ⟨j,hj⟩:=ih h;exact ⟨j,List.mem_cons_of_mem _ hj⟩
theorem A5d {l:List (Nat×LS)} (h:∀ p∈l,LS.nat p.2):A17 (loT l):=fun b s hs=>by
 obtain ⟨k,hk⟩:=B5l hs
 exact h _ hk
theorem B1Q {Lo:A4o} {nt n0:Nat}:∀ c:Code,(∀ b∈P4 c,∀ s,Lo b=some s→∀ of σ ex σ',s of σ=some (ex,σ')→A3I P T nt n0 of (.loop b) σ ex σ')→N2 P T nt n0 Lo c:=by
 intro c
 induction c with
 | seq x y ihx ihy=>intro h;exact ⟨ihx (fun b hb=>h b (by simp [P4,hb])),ihy (fun b hb=>h b (by simp [P4,hb]))⟩
 | cond q x y ihx ihy=>intro h;exact ⟨ihx (fun b hb=>h b (by simp [P4,hb])),ihy (fun b hb=>h b (by simp [P4,hb]))⟩
 | block id b ih=>intro h;exact ih (fun b hb=>h b (by simpa [P4] using hb))
 | loop b ih=>intro h;exact ⟨h b (by simp [P4]),ih (fun b' hb=>h b' (by simp [P4,hb]))⟩
 | _=>intro _;trivial
def C3I (P:Program) (T:TT) (Lo:LC) (nt n0:Nat) (c:Code):Nat→Prop
 | 0=>True
 | n+1=>C3I P T Lo nt n0 c n∧∀ s,Lo (lp c n)=some s→F0 P T nt n0 (lp c n) s
theorem loI {Lo:LC} {nt n0:Nat} {c:Code} {i:Nat} {s0:LS} (h0:Lo (lp c i)=some s0) (h:F0 P T nt n0 (lp c i) s0):∀ s,Lo (lp c i)=some s→F0 P T nt n0 (lp c i) s:=by
 intro s hs;rw [h0] at hs;cases hs;exact h
theorem loN {Lo:LC} {nt n0:Nat} {c:Code} {i:Nat} (h0:Lo (lp c i)=none):∀ s,Lo (lp c i)=some s→F0 P T nt n0 (lp c i) s:=by
 intro s hs;rw [h0] at hs;cases hs
theorem A1U {Lo:LC} {nt n0:Nat} {c:Code} (n:Nat) (hn:Nat.beq (P4 c).length n=true) (h:C3I P T Lo nt n0 c n):N2 P T nt n0 (V8 Lo) c:=by
 have hn:=D2H hn
 have key:∀ n,C3I P T Lo nt n0 c n→∀ i,i < n→∀ s,Lo (lp c i)=some s→F0 P T nt n0 (lp c i) s:=by
  intro n
  induction n with
  | zero=>intro _ i hi;omega
  | succ n ih =>
   intro h i hi
   by_cases hin:i=n
   ·subst hin;exact h.2
   ·exact ih h.1 i (by omega)
 refine B1Q c (fun b hb s hs=>?_)
 obtain ⟨i,hi,rfl⟩:=List.mem_iff_getElem.1 hb
 have e:lp c i=(P4 c)[i]:=by unfold lp;simp [List.getD,hi]
 rw [← e] at hs ⊢
 unfold V8 at hs
 cases hq:Lo (lp c i) with
 | none=>rw [hq] at hs;cases hs
 | some s0 =>
  rw [hq] at hs
  injection hs with hs;subst hs
  exact (key n h i (by omega) s0 hq).2
def A4 (P:Program) (f:Nat):Code :=
 match P.funcs[f]? with
 | some fn=>match fn.body with
  | some c=>c
  | none=>.skip
 | none=>.skip
def C2 (P:Program) (f:Nat):Nat :=
 match P.funcs[f]? with
 | some fn=>fn.ntmps
 | none=>0
def atN (n0:Nat) (l:List (Nat×LS)):Nat→LC:=fun n=>bif Nat.beq n n0 then loT l else fun _=>none
theorem E7 {f:Nat} (n0:Nat) {l:List (Nat×LS)} (hn:∀ p∈l,LS.nat p.2) (n:Nat) (hl:Nat.beq (P4 (A4 P f)).length n=true) (h:C3I P T (loT l) (C2 P f) n0 (A4 P f) n):H8 P T f (atN n0 l):=by
 refine ⟨fun m=>?_,fun m fn code h1 h2=>?_⟩
 ·unfold atN
  cases Nat.beq m n0
  ·exact B2
  ·exact A5d hn
 ·unfold atN
  cases hm:Nat.beq m n0 with
  | false=>exact A6 code
  | true =>
   have:=D2H hm;subst this
   simp only [cond_true]
   have:=A1U n hl h
   simpa only [A4,C2,h1,h2] using this
abbrev Q6:Nat:=4294967296
def A20 (x n:Nat):Nat:=(x >>> n) ||| ((x <<< (32 - n)) % Q6)
def sS0 (x:Nat):Nat:=(A20 x 7 ^^^ A20 x 18) ^^^ (x >>> 3)
def sS1 (x:Nat):Nat:=(A20 x 17 ^^^ A20 x 19) ^^^ (x >>> 10)
def bS0 (x:Nat):Nat:=(A20 x 2 ^^^ A20 x 13) ^^^ A20 x 22
def bS1 (x:Nat):Nat:=(A20 x 6 ^^^ A20 x 11) ^^^ A20 x 25
def chN (x y z:Nat):Nat:=(x &&& y) ^^^ ((4294967295 - x) &&& z)
def B1R (x y z:Nat):Nat:=((x &&& y) ^^^ (x &&& z)) ^^^ (y &&& z)
def A3E (l:List Nat):Nat:=(l.getD 15 0+sS0 (l.getD 14 0)+l.getD 6 0+sS1 (l.getD 1 0)) % Q6
def A1V:Nat→List Nat→List Nat
 | 0,l=>l
 | n+1,l=>A2a (A3E l) fun x=>A1V n (x::l)
structure S8 where
 a:Nat
 b:Nat
 c:Nat
 d:Nat
 e:Nat
 f:Nat
 g:Nat
 h:Nat
def B1S (s:S8) (k w:Nat):S8 :=
 A2a (s.h+bS1 s.e+chN s.e s.f s.g+k+w) fun t=>A2a ((t+(bS0 s.a+B1R s.a s.b s.c)) % Q6) fun a=>A2a ((s.d+t) % Q6) fun e=>⟨a,s.a,s.b,s.c,e,s.e,s.f,s.g⟩
def A71:List Nat→List Nat→S8→S8
 | k::ks,w::ws,s=>A71 ks ws (B1S s k w)
 | _,_,s=>s
def B1T (s x:S8):S8 :=
 A2a ((s.a+x.a) % Q6) fun a=>A2a ((s.b+x.b) % Q6) fun b=>A2a ((s.c+x.c) % Q6) fun c=>A2a ((s.d+x.d) % Q6) fun d=>A2a ((s.e+x.e) % Q6) fun e=>A2a ((s.f+x.f) % Q6) fun f=>A2a ((s.g+x.g) % Q6) fun g=>A2a ((s.h+x.h) % Q6) fun h=>⟨a,b,c,d,e,f,g,h⟩
def A72:List Nat:=[0x428a2f98,0x71374491,0xb5c0fbcf,0xe9b5dba5,0x3956c25b,0x59f111f1,0x923f82a4,0xab1c5ed5,
 0xd807aa98,0x12835b01,0x243185be,0x550c7dc3,0x72be5d74,0x80deb1fe,0x9bdc06a7,0xc19bf174,
 0xe49b69c1,0xefbe4786,0x0fc19dc6,0x240ca1cc,0x2de92c6f,0x4a7484aa,0x5cb0a9dc,0x76f988da,
 0x983e5152,0xa831c66d,0xb00327c8,0xbf597fc7,0xc6e00bf3,0xd5a79147,0x06ca6351,0x14292967,
 0x27b70a85,0x2e1b2138,0x4d2c6dfc,0x53380d13,0x650a7354,0x766a0abb,0x81c2c92e,0x92722c85,
 0xa2bfe8a1,0xa81a664b,0xc24b8b70,0xc76c51a3,0xd192e819,0xd6990624,0xf40e3585,0x106aa070,
 0x19a4c116,0x1e376c08,0x2748774c,0x34b0bcb5,0x391c0cb3,0x4ed8aa4a,0x5b9cca4f,0x682e6ff3,
 0x748f82ee,0x78a5636f,0x84c87814,0x8cc70208,0x90befffa,0xa4506ceb,0xbef9a3f7,0xc67178f2]
def M7:Nat→List Nat→List Nat→List Nat
 | n+1,b0::b1::b2::b3::r,acc=>A2a (((b0 * 256+b1) * 256+b2) * 256+b3) fun w=>M7 n r (w::acc)
 | _,_,acc=>acc
def A2o (s:S8) (bs:List Nat):S8:=B1T s (A71 A72 (A1V 48 (M7 16 bs [])).reverse s)
def s0N:S8:=⟨0x6a09e667,0xbb67ae85,0x3c6ef372,0xa54ff53a,0x510e527f,0x9b05688c,0x1f83d9ab,0x5be0cd19⟩
def be4 (n:Nat):List Nat:=[n / 16777216 % 256,n / 65536 % 256,n / 256 % 256,n % 256]
def C8i (s:S8):List Nat:=be4 s.a++(be4 s.b++(be4 s.c++(be4 s.d++(be4 s.e++(be4 s.f++(be4 s.g++be4 s.h))))))
def K0:Nat→S8→List Nat→S8
 | 0,s,_=>s
 | n+1,s,l=>match l with
  | []=>s
  | l=>K0 n (A2o s (l.take 64)) (l.drop 64)
def M0 (n:Nat):List Nat:=128::(List.replicate ((119 - n % 64) % 64) 0++[8 * n / 2 ^ 56 % 256,8 * n / 2 ^ 48 % 256,8 * n / 2 ^ 40 % 256,8 * n / 2 ^ 32 % 256,8 * n / 2 ^ 24 % 256,8 * n / 2 ^ 16 % 256,8 * n / 2 ^ 8 % 256,8 * n % 256])
def A3d (l:List Nat):List Nat:=C8i (K0 (l.length / 64+2) s0N (l++M0 l.length))
example:A3d [97,98,99]=[0xba,0x78,0x16,0xbf,0x8f,0x01,0xcf,0xea,0x41,0x41,0x40,0xde,0x5d,0xae,0x22,0x23,0xb0,0x03,0x61,0xa3,0x96,0x17,0x7a,0x9c,0xb4,0x10,0xff,0x61,0xf2,0x00,0x15,0xad]:=by kernel_rfl
variable {T:TT} {R:Type}
abbrev ck {R:Type} (i:Int) (n:Nat) (k:Option R):Option R:=bif C0 0 i&&B5 i n then k else none
abbrev D7 (n:Int):Int:=IntKind.wrap .i64 n
abbrev W32 (n:Int):Int:=IntKind.wrap .u32 n
abbrev WU (n:Int):Int:=IntKind.wrap .u64 n
def elV (w:V) (i:Int):Int:=(w.nth i.toNat).int
def nv (n:Nat):V:=.i (n:Int)
theorem A4n (n:Nat):W32 (n:Int)=((n % 4294967296:Nat):Int):=by
 unfold W32 IntKind.wrap
 simp [IntKind.bits,IntKind.signed]
theorem D1N (n:Nat):WU (n:Int)=((n % 18446744073709551616:Nat):Int):=by
 unfold WU IntKind.wrap
 simp [IntKind.bits,IntKind.signed]
theorem A1W {n:Nat} (h:n < 4294967296):W32 (n:Int)=(n:Int):=by rw [A4n,Nat.mod_eq_of_lt h]
theorem D5 {n:Nat} (h:n < 18446744073709551616):WU (n:Int)=(n:Int):=by rw [D1N,Nat.mod_eq_of_lt h]
theorem F8 {n:Int} (h1 : -9223372036854775808≤n) (h2:n≤9223372036854775807):D7 n=n:=by
 show (if (true&&decide (n % 2 ^ 64 ≥ 2 ^ (64 - 1)))=true then n % 2 ^ 64 - 2 ^ 64 else n % 2 ^ 64)=n
 by_cases h:n % 2 ^ 64 ≥ 2 ^ (64 - 1)
 ·rw [if_pos (by simpa using h)];omega
 ·rw [if_neg (by simpa using h)];omega
theorem C9 {i:Int} {n:Nat} {k:Option R} (h1:0≤i) (h2:i < n):ck i n k=k:=by
 unfold ck
 rw [J9.2 h1,show B5 i n=true by simp [B5,h2]]
 rfl
theorem P8 (w a:Nat):BitVec.ofInt w (a:Int)=BitVec.ofNat w a:=BitVec.ofInt_natCast w a
theorem B1U {a b:Nat} (ha:a < 4294967296) (hb:b < 4294967296):J8 .and .u32 (a:Int) (b:Int)=((a &&& b:Nat):Int):=by
 have hl:a &&& b < 4294967296:=Nat.lt_of_le_of_lt Nat.and_le_left ha
 show IntKind.wrap .u32 (((BitVec.ofInt 32 (a:Int) &&& BitVec.ofInt 32 (b:Int)).toNat:Nat):Int)=_
 rw [P8,P8,BitVec.toNat_and,BitVec.toNat_ofNat,BitVec.toNat_ofNat]
 rw [Nat.mod_eq_of_lt (by simpa using ha),Nat.mod_eq_of_lt (by simpa using hb)]
 exact A1W hl
theorem A2K {a b:Nat} (ha:a < 4294967296) (hb:b < 4294967296):J8 .or .u32 (a:Int) (b:Int)=((a ||| b:Nat):Int):=by
 have hl:a ||| b < 4294967296:=Nat.or_lt_two_pow (n:=32) ha hb
 show IntKind.wrap .u32 (((BitVec.ofInt 32 (a:Int) ||| BitVec.ofInt 32 (b:Int)).toNat:Nat):Int)=_
 rw [P8,P8,BitVec.toNat_or,BitVec.toNat_ofNat,BitVec.toNat_ofNat]
 rw [Nat.mod_eq_of_lt (by simpa using ha),Nat.mod_eq_of_lt (by simpa using hb)]
 exact A1W hl
theorem A6r {a b:Nat} (ha:a < 4294967296) (hb:b < 4294967296):J8 .xor .u32 (a:Int) (b:Int)=((a ^^^ b:Nat):Int):=by
 have hl:a ^^^ b < 4294967296:=Nat.xor_lt_two_pow (n:=32) ha hb
 show IntKind.wrap .u32 (((BitVec.ofInt 32 (a:Int) ^^^ BitVec.ofInt 32 (b:Int)).toNat:Nat):Int)=_
 rw [P8,P8,BitVec.toNat_xor,BitVec.toNat_ofNat,BitVec.toNat_ofNat]
 rw [Nat.mod_eq_of_lt (by simpa using ha),Nat.mod_eq_of_lt (by simpa using hb)]
 exact A1W hl
theorem B1V {a b:Nat} (ha:a < 18446744073709551616) (hb:b < 18446744073709551616):J8 .and .u64 (a:Int) (b:Int)=((a &&& b:Nat):Int):=by
 have hl:a &&& b < 18446744073709551616:=Nat.lt_of_le_of_lt Nat.and_le_left ha
 show IntKind.wrap .u64 (((BitVec.ofInt 64 (a:Int) &&& BitVec.ofInt 64 (b:Int)).toNat:Nat):Int)=_
 rw [P8,P8,BitVec.toNat_and,BitVec.toNat_ofNat,BitVec.toNat_ofNat]
 rw [Nat.mod_eq_of_lt (by simpa using ha),Nat.mod_eq_of_lt (by simpa using hb)]
 exact D5 hl
theorem B5m {a b:Nat} (ha:a < 18446744073709551616) (hb:b < 18446744073709551616):J8 .or .u64 (a:Int) (b:Int)=((a ||| b:Nat):Int):=by
 have hl:a ||| b < 18446744073709551616:=Nat.or_lt_two_pow (n:=64) ha hb
 show IntKind.wrap .u64 (((BitVec.ofInt 64 (a:Int) ||| BitVec.ofInt 64 (b:Int)).toNat:Nat):Int)=_
 rw [P8,P8,BitVec.toNat_or,BitVec.toNat_ofNat,BitVec.toNat_ofNat]
 rw [Nat.mod_eq_of_lt (by simpa using ha),Nat.mod_eq_of_lt (by simpa using hb)]
 exact D5 hl
theorem B1W {a b:Nat} (ha:a < 18446744073709551616) (hb:b < 18446744073709551616):J8 .xor .u64 (a:Int) (b:Int)=((a ^^^ b:Nat):Int):=by
 have hl:a ^^^ b < 18446744073709551616:=Nat.xor_lt_two_pow (n:=64) ha hb
 show IntKind.wrap .u64 (((BitVec.ofInt 64 (a:Int) ^^^ BitVec.ofInt 64 (b:Int)).toNat:Nat):Int)=_
 rw [P8,P8,BitVec.toNat_xor,BitVec.toNat_ofNat,BitVec.toNat_ofNat]
 rw [Nat.mod_eq_of_lt (by simpa using ha),Nat.mod_eq_of_lt (by simpa using hb)]
 exact D5 hl
theorem B85 (a b:Nat):(a:Int).fdiv (b:Int)=((a / b:Nat):Int):=by
 cases a with
 | zero=>simp
 | succ a=>cases b with
  | zero=>simp
  | succ b=>rfl
theorem A0n (a n:Nat):(a:Int).fdiv (2 ^ n)=((a >>> n:Nat):Int):=by
 rw [show ((2:Int) ^ n)=((2 ^ n:Nat):Int) by push_cast;rfl,B85,Nat.shiftRight_eq_div_pow]
theorem A3F (a n:Nat):(a:Int) * 2 ^ n=((a <<< n:Nat):Int):=by
 rw [Nat.shiftLeft_eq];push_cast;rfl
def xor (a b:Int):Int:=J8 .xor .u32 a b
def and (a b:Int):Int:=J8 .and .u32 a b
def rot (x:Int) (n:Nat):Int:=J8 .or .u32 (W32 (x * 2 ^ (32 - n))) (x.fdiv (2 ^ n))
def sg0 (x:Int):Int:=xor (xor (rot x 7) (rot x 18)) (x.fdiv (2 ^ 3))
def sg1 (x:Int):Int:=xor (xor (rot x 17) (rot x 19)) (x.fdiv (2 ^ 10))
theorem A1d {a n:Nat} (h:a < Q6):a >>> n < Q6:=by
 rw [Nat.shiftRight_eq_div_pow];exact Nat.lt_of_le_of_lt (Nat.div_le_self _ _) h
theorem C6 {a n:Nat} (h:a < Q6):A20 a n < Q6:=by
 unfold A20
 exact Nat.or_lt_two_pow (n:=32) (A1d h) (Nat.mod_lt _ (show 0 < Q6 by decide))
theorem A1e {a n:Nat} (h:a < Q6):rot (a:Int) n=((A20 a n:Nat):Int):=by
 unfold rot A20
 have hm:(a <<< (32 - n)) % 4294967296 < 4294967296:=Nat.mod_lt _ (by decide)
 rw [A3F,A0n,A4n,A2K hm (A1d h),Nat.or_comm]
theorem A0S {a b:Nat} (ha:a < Q6) (hb:b < Q6):xor (a:Int) (b:Int)=((a ^^^ b:Nat):Int):=A6r ha hb
theorem A6s {a b:Nat} (ha:a < Q6) (hb:b < Q6):and (a:Int) (b:Int)=((a &&& b:Nat):Int):=B1U ha hb
theorem Q9 {a b:Nat} (ha:a < Q6) (hb:b < Q6):a ^^^ b < Q6:=Nat.xor_lt_two_pow (n:=32) ha hb
theorem S9 {a b:Nat} (ha:a < Q6):a &&& b < Q6:=Nat.lt_of_le_of_lt Nat.and_le_left ha
theorem C8j {a:Nat} (h:a < Q6):sg0 (a:Int)=((sS0 a:Nat):Int):=by
 unfold sg0 sS0
 rw [A1e h,A1e h,A0n,A0S (C6 h) (C6 h),A0S (Q9 (C6 h) (C6 h)) (A1d h)]
theorem C8k {a:Nat} (h:a < Q6):sg1 (a:Int)=((sS1 a:Nat):Int):=by
 unfold sg1 sS1
 rw [A1e h,A1e h,A0n,A0S (C6 h) (C6 h),A0S (Q9 (C6 h) (C6 h)) (A1d h)]
theorem C8l {a:Nat} (h:a < Q6):sS0 a < Q6:=Q9 (Q9 (C6 h) (C6 h)) (A1d h)
theorem C8m {a:Nat} (h:a < Q6):sS1 a < Q6:=Q9 (Q9 (C6 h) (C6 h)) (A1d h)
theorem C8n {a:Nat} (h:a < Q6):bS0 a < Q6:=Q9 (Q9 (C6 h) (C6 h)) (C6 h)
theorem C8o {a:Nat} (h:a < Q6):bS1 a < Q6:=Q9 (Q9 (C6 h) (C6 h)) (C6 h)
theorem C3J {a:Nat} (h:a < Q6):4294967295 ^^^ a=4294967295 - a:=by
 have:(4294967295:Nat)=2 ^ 32 - 1:=by decide
 have h2:=Nat.testBit_two_pow_sub_succ (n:=32) (x:=a) (by simpa using h)
 apply Nat.eq_of_testBit_eq
 intro i
 rw [Nat.testBit_xor,show 4294967295 - a=2 ^ 32 - (a+1) by omega,h2]
 rw [this,Nat.testBit_two_pow_sub_one]
 by_cases hi:i < 32
 ·simp [hi]
 ·have:a.testBit i=false:=Nat.testBit_lt_two_pow (Nat.lt_of_lt_of_le (show a < 2 ^ 32 from h) (Nat.pow_le_pow_right (show 2 > 0 by decide) (show 32≤i by omega)))
  simp [hi,this]
def byt (x:V) (i:Int):Int:=W32 (x.nth i.toNat).int
def B86 (x:V) (i:Int):Int:=J8 .or .u32 (J8 .or .u32 (J8 .or .u32 (W32 (byt x (D7 (4 * i)) * 2 ^ 24)) (W32 (byt x (D7 (D7 (4 * i)+1)) * 2 ^ 16))) (W32 (byt x (D7 (D7 (4 * i)+2)) * 2 ^ 8))) (byt x (D7 (D7 (4 * i)+3)))
def e8 (x:V) (i:Nat):Int:=(x.nth i).int
def D0Y (x:V) (k w:Int):V :=
 let a:=e8 x 0
 let e:=e8 x 4
 let t:=W32 (W32 (W32 (W32 (e8 x 7+xor (xor (rot e 6) (rot e 11)) (rot e 25))+xor (and e (e8 x 5)) (and (J8 .xor .u32 4294967295 e) (e8 x 6)))+k)+w)
 let u:=W32 (xor (xor (rot a 2) (rot a 13)) (rot a 22)+xor (xor (and a (e8 x 1)) (and a (e8 x 2))) (and (e8 x 1) (e8 x 2)))
 .l [.i (W32 (t+u)),.i a,.i (e8 x 1),.i (e8 x 2),.i (W32 (e8 x 3+t)),.i e,.i (e8 x 5),.i (e8 x 6)]
inductive B5n where
 | m (x:V) (z:V) (i:Int) (w:V)
inductive C8p where
 | o (x:V) (z:V) (i:Int) (w:V)
def B87 (R:Type) (p:B5n) (K:B5n→Option R) (kx:C8p→Option R):Option R :=
 match p with
 | .m x z i w =>
  bif B5 i 16 then
   ck (D7 (4 * i)) x.els.length <| ck (D7 (D7 (4 * i)+1)) x.els.length <| ck (D7 (D7 (4 * i)+2)) x.els.length <| ck (D7 (D7 (4 * i)+3)) x.els.length <|
   ck i 64 <| K (.m x z (D7 (i+1)) (w.put i.toNat (.i (B86 x i))))
  else kx (.o x z i w)
inductive B5o where
 | m (z:V) (i:Int) (w:V)
inductive C8q where
 | o (z:V) (i:Int) (w:V)
def B5p (R:Type) (p:B5o) (K:B5o→Option R) (kx:C8q→Option R):Option R :=
 match p with
 | .m z i w =>
  bif B5 i 64 then
   ck (D7 (i - 15)) 64 <| ck (D7 (i - 2)) 64 <| ck (D7 (i - 16)) 64 <| ck (D7 (i - 7)) 64 <| ck i 64 <|
   K (.m z (D7 (i+1)) (w.put i.toNat (.i (W32 (W32 (W32 (elV w (D7 (i - 16))+elV w (D7 (i - 7)))+sg0 (elV w (D7 (i - 15))))+sg1 (elV w (D7 (i - 2))))))))
  else kx (.o z i w)
inductive B5q where
 | m (s:V) (z:V) (w:V) (k:V) (x:V) (i:Int)
inductive C8r where
 | o (s:V) (z:V) (w:V) (k:V) (x:V) (i:Int)
def B88 (R:Type) (p:B5q) (K:B5q→Option R) (kx:C8r→Option R):Option R :=
 match p with
 | .m s z w k x i =>
  bif B5 i 64 then ck i 64 <| ck i 64 <| K (.m s z w k (D0Y x (elV k i) (elV w i)) (D7 (i+1))) else kx (.o s z w k x i)
inductive B5r where
 | m (s:V) (z:V) (x:V) (i:Int)
inductive C8s where
 | o (s:V) (z:V) (x:V) (i:Int)
def B1X (R:Type) (p:B5r) (K:B5r→Option R) (kx:C8s→Option R):Option R :=
 match p with
 | .m s z x i =>
  bif B5 i 8 then ck i 8 <| ck i 8 <| ck i 8 <| K (.m (s.put i.toNat (.i (W32 (elV s i+elV x i)))) z x (D7 (i+1))) else kx (.o s z x i)
theorem A8V {x:V} {bs:List Nat} (hx:x.els=bs.map nv) {k b:Nat} (h:bs[k]? = some b):(x.nth k).int=(b:Int):=by
 unfold V.nth
 rw [hx,List.getD,List.getElem?_map,h]
 rfl
theorem B1Y {a b i:Nat} (h:b < 2 ^ i):(a <<< i) ||| b=a * 2 ^ i+b:=by
 rw [← Nat.shiftLeft_add_eq_or_of_lt h,Nat.shiftLeft_eq]
theorem C3K {b0 b1 b2 b3:Nat} (h0:b0 < 256) (h1:b1 < 256) (h2:b2 < 256) (h3:b3 < 256):(((b0 <<< 24) ||| (b1 <<< 16)) ||| (b2 <<< 8)) ||| b3=((b0 * 256+b1) * 256+b2) * 256+b3:=by
 have e1:(b0 <<< 24) ||| (b1 <<< 16)=(b0 * 256+b1) <<< 16:=by
  rw [B1Y (by rw [Nat.shiftLeft_eq];omega),Nat.shiftLeft_eq,Nat.shiftLeft_eq];omega
 have e2:((b0 * 256+b1) <<< 16) ||| (b2 <<< 8)=((b0 * 256+b1) * 256+b2) <<< 8:=by
  rw [B1Y (by rw [Nat.shiftLeft_eq];omega),Nat.shiftLeft_eq,Nat.shiftLeft_eq];omega
 rw [e1,e2,B1Y (by omega)]
theorem A8W {x:V} {bs:List Nat} (hx:x.els=bs.map nv) (hb:∀ b∈bs,b < 256) {k b:Nat} (h:bs[k]? = some b):byt x (k:Int)=(b:Int):=by
 have:=hb b (List.mem_of_getElem? h)
 unfold byt
 rw [show ((k:Int)).toNat=k from rfl,A8V hx h,A1W (by omega)]
theorem B89 {x:V} {bs:List Nat} (hx:x.els=bs.map nv) (hb:∀ b∈bs,b < 256) {j b0 b1 b2 b3:Nat} (hj:j < 1000) (h0:bs[4 * j]? = some b0) (h1:bs[4 * j+1]? = some b1) (h2:bs[4 * j+2]? = some b2) (h3:bs[4 * j+3]? = some b3) :
  B86 x (j:Int)=(((((b0 * 256+b1) * 256+b2) * 256+b3:Nat)):Int):=by
 have l0:=hb b0 (List.mem_of_getElem? h0)
 have l1:=hb b1 (List.mem_of_getElem? h1)
 have l2:=hb b2 (List.mem_of_getElem? h2)
 have l3:=hb b3 (List.mem_of_getElem? h3)
 have w0:D7 (4 * (j:Int))=((4 * j:Nat):Int):=by rw [F8 (by omega) (by omega)];push_cast;rfl
 have w1:D7 (D7 (4 * (j:Int))+1)=((4 * j+1:Nat):Int):=by rw [w0,F8 (by omega) (by omega)];push_cast;rfl
 have w2:D7 (D7 (4 * (j:Int))+2)=((4 * j+2:Nat):Int):=by rw [w0,F8 (by omega) (by omega)];push_cast;rfl
 have w3:D7 (D7 (4 * (j:Int))+3)=((4 * j+3:Nat):Int):=by rw [w0,F8 (by omega) (by omega)];push_cast;rfl
 unfold B86
 rw [w1,w2,w3,w0,A8W hx hb h0,A8W hx hb h1,A8W hx hb h2,A8W hx hb h3,A3F,A3F,A3F,← C3K l0 l1 l2 l3]
 have s0:b0 <<< 24 < 4294967296:=by rw [Nat.shiftLeft_eq];omega
 have s1:b1 <<< 16 < 4294967296:=by rw [Nat.shiftLeft_eq];omega
 have s2:b2 <<< 8 < 4294967296:=by rw [Nat.shiftLeft_eq];omega
 have o1:=Nat.or_lt_two_pow (n:=32) s0 s1
 have o2:=Nat.or_lt_two_pow (n:=32) o1 s2
 rw [A1W s0,A1W s1,A1W s2,A2K s0 s1,A2K o1 s2,A2K o2 (by omega)]
theorem A6t {l:List V} {m:Nat} {z y:V}:(V.l (l++List.replicate (m+1) z)).put l.length y=.l ((l++[y])++List.replicate m z):=by
 unfold V.put
 simp only [V.els]
 rw [List.set_append_right _ _ (Nat.le_refl _),Nat.sub_self,List.replicate_succ,List.set_cons_zero,List.append_assoc,List.singleton_append]
theorem D0Z {bs:List Nat} {k:Nat} (h:k+4≤bs.length):∃ b0 b1 b2 b3,bs[k]? = some b0∧bs[k+1]? = some b1∧bs[k+2]? = some b2∧bs[k+3]? = some b3∧bs.drop k=b0::b1::b2::b3::bs.drop (k+4):=by
 refine ⟨bs[k],bs[k+1],bs[k+2],bs[k+3],by simp,by simp,by simp,by simp,?_⟩
 rw [List.drop_eq_getElem_cons (by omega),List.drop_eq_getElem_cons (by omega),List.drop_eq_getElem_cons (by omega),List.drop_eq_getElem_cons (by omega)]
theorem D00 {R:Type} {x z:V} {bs:List Nat} (hx:x.els=bs.map nv) (hb:∀ b∈bs,b < 256) (hl:64≤bs.length):∀ (m j n:Nat) (l:List Nat) (k:C8p→Option R),j+m=16→l.length=j→m < n →
  E1 (B87 R) n (.m x z (j:Int) (.l (l.reverse.map nv++List.replicate (48+m) (.i 0)))) k=k (.o x z 16 (.l ((M7 m (bs.drop (4 * j)) l).reverse.map nv++List.replicate 48 (.i 0)))):=by
 intro m
 induction m with
 | zero =>
  intro j n l k hj hlen hn
  obtain ⟨n,rfl⟩:∃ n',n=n'+1:=⟨n - 1,by omega⟩
  have:j=16:=by omega
  subst this
  rfl
 | succ m ih =>
  intro j n l k hj hlen hn
  obtain ⟨n,rfl⟩:∃ n',n=n'+1:=⟨n - 1,by omega⟩
  obtain ⟨b0,b1,b2,b3,g0,g1,g2,g3,gd⟩:=D0Z (bs:=bs) (k:=4 * j) (by omega)
  have hxl:x.els.length=bs.length:=by rw [hx,D2L]
  have w0:D7 (4 * (j:Int))=((4 * j:Nat):Int):=by rw [F8 (by omega) (by omega)];push_cast;rfl
  have w1:D7 (D7 (4 * (j:Int))+1)=((4 * j+1:Nat):Int):=by rw [w0,F8 (by omega) (by omega)];push_cast;rfl
  have w2:D7 (D7 (4 * (j:Int))+2)=((4 * j+2:Nat):Int):=by rw [w0,F8 (by omega) (by omega)];push_cast;rfl
  have w3:D7 (D7 (4 * (j:Int))+3)=((4 * j+3:Nat):Int):=by rw [w0,F8 (by omega) (by omega)];push_cast;rfl
  have wj:D7 ((j:Int)+1)=((j+1:Nat):Int):=by rw [F8 (by omega) (by omega)];push_cast;rfl
  rw [E1]
  show (bif B5 (j:Int) 16 then _ else _)=_
  rw [show B5 (j:Int) 16=true by simp [B5];omega,cond_true]
  simp only
  rw [w1,w2,w3,w0,hxl,C9 (by omega) (by omega),C9 (by omega) (by omega),C9 (by omega) (by omega),C9 (by omega) (by omega),C9 (by omega) (by omega),wj,B89 hx hb (by omega) g0 g1 g2 g3]
  have hput:=A6t (l:=l.reverse.map nv) (m:=48+m) (z:=.i 0) (y:=nv (((b0 * 256+b1) * 256+b2) * 256+b3))
  rw [D2L,List.length_reverse,hlen] at hput
  rw [show ((j:Int)).toNat=j from rfl,show 48+(m+1)=48+m+1 from rfl,show V.i ((((b0 * 256+b1) * 256+b2) * 256+b3:Nat):Int)=nv (((b0 * 256+b1) * 256+b2) * 256+b3) from rfl,hput]
  have hl2:l.reverse.map nv++[nv (((b0 * 256+b1) * 256+b2) * 256+b3)]=((((b0 * 256+b1) * 256+b2) * 256+b3)::l).reverse.map nv:=by simp
  rw [hl2,ih (j+1) n _ k (by omega) (by simp [hlen]) (by omega),gd]
  simp only [M7,Q1]
  rfl
theorem A3G {l:List Nat} {r:List V} {q:Nat} (h:q < l.length):elV (.l (l.reverse.map nv++r)) ((l.length - 1 - q:Nat):Int)=((l.getD q 0:Nat):Int):=by
 unfold elV V.nth
 simp only [V.els]
 rw [show (((l.length - 1 - q:Nat):Int)).toNat=l.length - 1 - q from rfl,List.getD,List.getElem?_append_left (by simp;omega),List.getElem?_map,List.getElem?_reverse (by omega)]
 rw [show l.length - 1 - (l.length - 1 - q)=q by omega]
 simp [List.getD,h,nv,V.int]
theorem A2p:∀ (m:Nat) (bs acc:List Nat),(∀ b∈bs,b < 256)→(∀ a∈acc,a < Q6)→4 * m≤bs.length→(∀ a∈M7 m bs acc,a < Q6)∧(M7 m bs acc).length=m+acc.length:=by
 intro m
 induction m with
 | zero=>intro bs acc _ ha _;simp only [M7];exact ⟨ha,by simp⟩
 | succ m ih =>
  intro bs acc hb ha hl
  match bs,hb,hl with
  | b0::b1::b2::b3::r,hb,hl =>
   simp only [M7,Q1]
   have l0:=hb b0 (by simp)
   have l1:=hb b1 (by simp)
   have l2:=hb b2 (by simp)
   have l3:=hb b3 (by simp)
   obtain ⟨p,q⟩:=ih r ((((b0 * 256+b1) * 256+b2) * 256+b3)::acc) (fun b h=>hb b (by simp [h])) (fun a h=>by
    rcases List.mem_cons.1 h with rfl | h
    ·show _ < 4294967296;omega
    ·exact ha a h) (by simp at hl;omega)
   exact ⟨p,by rw [q];simp;omega⟩
  | [],_,hl=>simp at hl
  | [_],_,hl=>simp at hl;omega
  | [_,_],_,hl=>simp at hl;omega
  | [_,_,_],_,hl=>simp at hl;omega
theorem A05 {l:List Nat} (h:∀ a∈l,a < Q6) (q:Nat):l.getD q 0 < Q6:=by
 rw [List.getD]
 cases hq:l[q]? with
 | none=>show 0 < Q6;decide
 | some a=>exact h a (List.mem_of_getElem? hq)
theorem A73:∀ (m:Nat) (l:List Nat),(∀ a∈l,a < Q6)→(∀ a∈A1V m l,a < Q6)∧(A1V m l).length=m+l.length:=by
 intro m
 induction m with
 | zero=>intro l h;simp only [A1V];exact ⟨h,by simp⟩
 | succ m ih =>
  intro l h
  simp only [A1V,Q1]
  obtain ⟨p,q⟩:=ih (A3E l::l) (fun a ha=>by
   rcases List.mem_cons.1 ha with rfl | ha
   ·exact Nat.mod_lt _ (by decide)
   ·exact h a ha)
  exact ⟨p,by rw [q];simp;omega⟩
theorem D01 {R:Type} {z:V}:∀ (m n:Nat) (l:List Nat) (k:C8q→Option R),l.length+m=64→16≤l.length→(∀ a∈l,a < Q6)→m < n →
  E1 (B5p R) n (.m z (l.length:Int) (.l (l.reverse.map nv++List.replicate m (.i 0)))) k=k (.o z 64 (.l ((A1V m l).reverse.map nv))):=by
 intro m
 induction m with
 | zero =>
  intro n l k hj h16 hlt hn
  obtain ⟨n,rfl⟩:∃ n',n=n'+1:=⟨n - 1,by omega⟩
  have:l.length=64:=by omega
  rw [this]
  simp only [A1V,List.replicate_zero,List.append_nil]
  rfl
 | succ m ih =>
  intro n l k hj h16 hlt hn
  obtain ⟨n,rfl⟩:∃ n',n=n'+1:=⟨n - 1,by omega⟩
  have wi:∀ d:Nat,d≤16→D7 ((l.length:Int) - (d:Int))=((l.length - d:Nat):Int):=fun d hd=>by rw [F8 (by omega) (by omega)];omega
  have wj:D7 ((l.length:Int)+1)=((l.length+1:Nat):Int):=by rw [F8 (by omega) (by omega)];push_cast;rfl
  have e15:D7 ((l.length:Int) - 15)=((l.length - 1 - 14:Nat):Int):=(wi 15 (by omega)).trans (by omega)
  have e2:D7 ((l.length:Int) - 2)=((l.length - 1 - 1:Nat):Int):=(wi 2 (by omega)).trans (by omega)
  have e16:D7 ((l.length:Int) - 16)=((l.length - 1 - 15:Nat):Int):=(wi 16 (by omega)).trans (by omega)
  have e7:D7 ((l.length:Int) - 7)=((l.length - 1 - 6:Nat):Int):=(wi 7 (by omega)).trans (by omega)
  rw [E1]
  show (bif B5 (l.length:Int) 64 then _ else _)=_
  rw [show B5 (l.length:Int) 64=true by simp [B5];omega,cond_true]
  simp only
  rw [e15,e2,e16,e7,C9 (by omega) (by omega),C9 (by omega) (by omega),C9 (by omega) (by omega),C9 (by omega) (by omega),C9 (by omega) (by omega),wj]
  rw [A3G (by omega),A3G (by omega),A3G (by omega),A3G (by omega),C8j (A05 hlt _),C8k (A05 hlt _)]
  have hput:=A6t (l:=l.reverse.map nv) (m:=m) (z:=.i 0) (y:=nv (A3E l))
  rw [D2L,List.length_reverse] at hput
  have hval:W32 (W32 (W32 (((l.getD 15 0:Nat):Int)+((l.getD 6 0:Nat):Int))+((sS0 (l.getD 14 0):Nat):Int))+((sS1 (l.getD 1 0):Nat):Int))=((A3E l:Nat):Int):=by
   rw [← Int.natCast_add,A4n,← Int.natCast_add,A4n,← Int.natCast_add,A4n]
   congr 1
   unfold A3E
   show _=_ % 4294967296
   omega
  rw [hval,show ((l.length:Int)).toNat=l.length from rfl,show V.i ((A3E l:Nat):Int)=nv (A3E l) from rfl,hput]
  have hl2:l.reverse.map nv++[nv (A3E l)]=(A3E l::l).reverse.map nv:=by simp
  rw [hl2]
  have:=ih n (A3E l::l) k (by simp;omega) (by simp;omega) (fun a ha=>by
   rcases List.mem_cons.1 ha with rfl | ha
   ·exact Nat.mod_lt _ (by decide)
   ·exact hlt a ha) (by omega)
  rw [D2P] at this
  rw [this]
  simp only [A1V,Q1]
variable {T:TT} {R:Type} {P:Program}
theorem B3B {e:A9} {el:Nat} {kd:IntKind} (he:D4 T el=some (.int kd)) (hlo:lo kd=0):∀ {n:Nat} {xs:List V} {cs:List Value},RV T e (List.replicate n el) xs cs→∃ ns:List Nat,xs=ns.map nv∧∀ a∈ns,(a:Int)≤hi kd:=by
 intro n
 induction n with
 | zero=>intro xs cs h;cases h;exact ⟨[],rfl,fun a ha=>by cases ha⟩
 | succ n ih =>
  intro xs cs h
  rw [List.replicate_succ] at h
  cases xs with
  | nil=>cases h
  | cons x xs =>
   obtain ⟨d,r,rfl,g1,g2⟩:=h.cons_inv
   obtain ⟨m,rfl,_,hr⟩:=g1.int_inv he
   obtain ⟨ns,rfl,hn⟩:=ih g2
   unfold inR at hr
   rw [hlo] at hr
   refine ⟨m.toNat::ns,?_,fun a ha=>?_⟩
   ·simp only [List.map_cons,nv]
    rw [show ((m.toNat:Nat):Int)=m by omega]
   ·rcases List.mem_cons.1 ha with rfl | ha
    ·omega
    ·exact hn a ha
theorem RP.uncons {e:A9} {t:Nat} {ts:List Nat} {x:V} {xs:List V} {vs:List Value} (h:RP T e (t::ts) (x::xs) vs):∃ v vs',vs=v::vs'∧RV T e [t] [x] v.cells.toList∧RP T e ts xs vs':=by
 cases h with
 | cons h1 _ h2=>exact ⟨_,_,rfl,h1,h2⟩
theorem TV.head {t:Nat} {ts:List Nat} {x:V} {xs:List V} (h:TV T (t::ts) (x::xs)):∃ e cs,RV T e [t] [x] cs:=by
 obtain ⟨e,vs,h⟩:=h
 obtain ⟨v,vs',_,h1,_⟩:=h.uncons
 exact ⟨e,_,h1⟩
theorem TV.tail {t:Nat} {ts:List Nat} {x:V} {xs:List V} (h:TV T (t::ts) (x::xs)):TV T ts xs:=by
 obtain ⟨e,vs,h⟩:=h
 obtain ⟨v,vs',_,_,h2⟩:=h.uncons
 exact ⟨e,vs',h2⟩
theorem TV.len {ts:List Nat} {xs:List V} (h:TV T ts xs):xs.length=ts.length:=by
 obtain ⟨e,vs,h⟩:=h
 induction h with
 | nil=>rfl
 | cons _ _ _ ih=>simp [ih]
theorem A6u {t el:Nat} {kd:IntKind} {x:V} {e:A9} {cs:List Value} (ht:D4 T t=some (.slice el)) (he:D4 T el=some (.int kd)) (hlo:lo kd=0) (h:RV T e [t] [x] cs):∃ ns:List Nat,x.els=ns.map nv∧∀ a∈ns,(a:Int)≤hi kd:=by
 rcases h.slice_inv ht with ⟨rfl,_⟩ | ⟨ys,ds,a,cap,rfl,_,_,_,g⟩
 ·exact ⟨[],rfl,fun a ha=>by cases ha⟩
 ·exact B3B he hlo g
theorem C8t {t n el:Nat} {kd:IntKind} {x:V} {e:A9} {cs:List Value} (ht:D4 T t=some (.arr n el)) (he:D4 T el=some (.int kd)) (hlo:lo kd=0) (h:RV T e [t] [x] cs):∃ ns:List Nat,x=.l (ns.map nv)∧ns.length=n∧∀ a∈ns,(a:Int)≤hi kd:=by
 obtain ⟨ys,rfl,hl,g⟩:=h.arr_inv ht
 obtain ⟨ns,rfl,hn⟩:=B3B he hlo g
 exact ⟨ns,rfl,by simpa using hl,hn⟩
theorem D02 {α:Type} (o:Option α):ob o some=o:=by cases o<;>rfl
theorem A3H (hm:P.follows .mixedOrders=true) (hT:L8 T P) {tab:List (Nat×E5)} (h:D2 P T tab) {f d fu:Nat} {Lo:Nat→LC} {sh:Bool} {ts:List Nat} {rk:List RK} {F:FC} {G:(R:Type)→List V→(List Rs→Option R)→Option R} (hFn:F.nat) (hts:ts.all (fun t=>(T t).isSome)=true)
  (hL:H8 P T f Lo)
  (hrun:∀ (R:Type) xs (k:List Rs→Option R),TV T ts xs→C4 P T (E9 P T tab false fu d) Lo false fu f R (G2 T ts xs) (fun _=>none) 0 (fun out=>ob (H2 T sh rk out) k)=G R xs k)
  (hG:∀ xs rs,TV T ts xs→F (List Rs) xs some=some rs→G (List Rs) xs some=some rs) :
  D2 P T ((f,F6 T sh ts F)::tab) :=
 B0i hm hT h hFn hts hL (fun xs rs htv hrs=>by
  have:=hG xs rs htv hrs
  rw [← hrun (List Rs) xs some htv] at this
  simpa only [D02] using this)
def R2 (s:S8):V:=.l [nv s.a,nv s.b,nv s.c,nv s.d,nv s.e,nv s.f,nv s.g,nv s.h]
structure OkS (s:S8):Prop where
 a:s.a < Q6
 b:s.b < Q6
 c:s.c < Q6
 d:s.d < Q6
 e:s.e < Q6
 f:s.f < Q6
 g:s.g < Q6
 h:s.h < Q6
theorem A8X {s:S8} (h:OkS s) (k w:Nat):OkS (B1S s k w):=by
 unfold B1S
 simp only [Q1]
 exact ⟨Nat.mod_lt _ (by decide),h.a,h.b,h.c,Nat.mod_lt _ (by decide),h.e,h.f,h.g⟩
theorem C8u {a:Nat} (h:a < Q6):J8 .xor .u32 4294967295 (a:Int)=((4294967295 - a:Nat):Int):=by
 rw [show (4294967295:Int)=((4294967295:Nat):Int) from rfl,A6r (by decide) h,C3J h]
theorem C3L {s:S8} (h:OkS s) {k w:Nat} (hk:k < Q6) (hw:w < Q6):D0Y (R2 s) (k:Int) (w:Int)=R2 (B1S s k w):=by
 have hne:4294967295 - s.e < Q6:=by show _ < 4294967296;omega
 have c1:and (s.e:Int) (s.f:Int)=((s.e &&& s.f:Nat):Int):=A6s h.e h.f
 have c2:and ((4294967295 - s.e:Nat):Int) (s.g:Int)=(((4294967295 - s.e) &&& s.g:Nat):Int):=A6s hne h.g
 have hch:xor (and (s.e:Int) (s.f:Int)) (and (J8 .xor .u32 4294967295 (s.e:Int)) (s.g:Int))=((chN s.e s.f s.g:Nat):Int):=by
  rw [C8u h.e,c1,c2,A0S (S9 h.e) (S9 hne)];rfl
 have hb1:xor (xor (rot (s.e:Int) 6) (rot (s.e:Int) 11)) (rot (s.e:Int) 25)=((bS1 s.e:Nat):Int):=by
  rw [A1e h.e,A1e h.e,A1e h.e,A0S (C6 h.e) (C6 h.e),A0S (Q9 (C6 h.e) (C6 h.e)) (C6 h.e)];rfl
 have hb0:xor (xor (rot (s.a:Int) 2) (rot (s.a:Int) 13)) (rot (s.a:Int) 22)=((bS0 s.a:Nat):Int):=by
  rw [A1e h.a,A1e h.a,A1e h.a,A0S (C6 h.a) (C6 h.a),A0S (Q9 (C6 h.a) (C6 h.a)) (C6 h.a)];rfl
 have hmaj:xor (xor (and (s.a:Int) (s.b:Int)) (and (s.a:Int) (s.c:Int))) (and (s.b:Int) (s.c:Int))=((B1R s.a s.b s.c:Nat):Int):=by
  rw [A6s h.a h.b,A6s h.a h.c,A6s h.b h.c,A0S (S9 h.a) (S9 h.a),A0S (Q9 (S9 h.a) (S9 h.a)) (S9 h.b)];rfl
 have ht:W32 (W32 (W32 (W32 ((s.h:Int)+xor (xor (rot (s.e:Int) 6) (rot (s.e:Int) 11)) (rot (s.e:Int) 25))+xor (and (s.e:Int) (s.f:Int)) (and (J8 .xor .u32 4294967295 (s.e:Int)) (s.g:Int)))+(k:Int))+(w:Int))=(((s.h+bS1 s.e+chN s.e s.f s.g+k+w) % 4294967296:Nat):Int):=by
  rw [hb1,hch,← Int.natCast_add,A4n,← Int.natCast_add,A4n,← Int.natCast_add,A4n,← Int.natCast_add,A4n]
  congr 1;omega
 have hu:W32 (xor (xor (rot (s.a:Int) 2) (rot (s.a:Int) 13)) (rot (s.a:Int) 22)+xor (xor (and (s.a:Int) (s.b:Int)) (and (s.a:Int) (s.c:Int))) (and (s.b:Int) (s.c:Int)))=(((bS0 s.a+B1R s.a s.b s.c) % 4294967296:Nat):Int):=by
  rw [hb0,hmaj,← Int.natCast_add,A4n]
 show V.l [.i (W32 (W32 (W32 (W32 (W32 ((s.h:Int)+xor (xor (rot (s.e:Int) 6) (rot (s.e:Int) 11)) (rot (s.e:Int) 25))+xor (and (s.e:Int) (s.f:Int)) (and (J8 .xor .u32 4294967295 (s.e:Int)) (s.g:Int)))+(k:Int))+(w:Int))+W32 (xor (xor (rot (s.a:Int) 2) (rot (s.a:Int) 13)) (rot (s.a:Int) 22)+xor (xor (and (s.a:Int) (s.b:Int)) (and (s.a:Int) (s.c:Int))) (and (s.b:Int) (s.c:Int))))),.i s.a,.i s.b,.i s.c,.i (W32 ((s.d:Int)+W32 (W32 (W32 (W32 ((s.h:Int)+xor (xor (rot (s.e:Int) 6) (rot (s.e:Int) 11)) (rot (s.e:Int) 25))+xor (and (s.e:Int) (s.f:Int)) (and (J8 .xor .u32 4294967295 (s.e:Int)) (s.g:Int)))+(k:Int))+(w:Int)))),.i s.e,.i s.f,.i s.g]=_
 rw [ht,hu,← Int.natCast_add,← Int.natCast_add,A4n,A4n]
 unfold B1S R2
 simp only [Q1,nv]
 refine congrArg V.l ?_
 congr 1
 ·congr 1;congr 1;show _=_ % 4294967296;omega
 ·congr 3
  congr 1
  congr 1;congr 1;show _=_ % 4294967296;omega
theorem A6v {l:List Nat} {j:Nat} (h:j < l.length):elV (.l (l.map nv)) (j:Int)=((l[j]:Nat):Int):=by
 unfold elV V.nth
 simp only [V.els]
 rw [show ((j:Int)).toNat=j from rfl,List.getD,List.getElem?_map,D2U h]
 rfl
theorem D03 {s z:V} {K W:List Nat} (hK:K.length=64) (hW:W.length=64) (kK:∀ a∈K,a < Q6) (kW:∀ a∈W,a < Q6):∀ (m j n:Nat) (x:S8) (k:C8r→Option R),j+m=64→OkS x→m < n →
  E1 (B88 R) n (.m s z (.l (W.map nv)) (.l (K.map nv)) (R2 x) (j:Int)) k=k (.o s z (.l (W.map nv)) (.l (K.map nv)) (R2 (A71 (K.drop j) (W.drop j) x)) 64):=by
 intro m
 induction m with
 | zero =>
  intro j n x k hj hx hn
  obtain ⟨n,rfl⟩:∃ n',n=n'+1:=⟨n - 1,by omega⟩
  have:j=64:=by omega
  subst this
  rw [List.drop_of_length_le (by omega),List.drop_of_length_le (by omega)]
  rfl
 | succ m ih =>
  intro j n x k hj hx hn
  obtain ⟨n,rfl⟩:∃ n',n=n'+1:=⟨n - 1,by omega⟩
  have wj:D7 ((j:Int)+1)=((j+1:Nat):Int):=by rw [F8 (by omega) (by omega)];push_cast;rfl
  rw [E1]
  show (bif B5 (j:Int) 64 then _ else _)=_
  rw [show B5 (j:Int) 64=true by simp [B5];omega,cond_true]
  simp only
  rw [C9 (by omega) (by omega),C9 (by omega) (by omega),wj,A6v (by omega),A6v (by omega),C3L hx (kK _ (List.getElem_mem ..)) (kW _ (List.getElem_mem ..)),ih (j+1) n _ k (by omega) (A8X hx _ _) (by omega)]
  rw [List.drop_eq_getElem_cons (show j < K.length by omega),List.drop_eq_getElem_cons (show j < W.length by omega)]
  rfl
theorem C3M {s x:S8}:OkS (B1T s x):=by
 unfold B1T
 simp only [Q1]
 exact ⟨Nat.mod_lt _ (by decide),Nat.mod_lt _ (by decide),Nat.mod_lt _ (by decide),Nat.mod_lt _ (by decide),Nat.mod_lt _ (by decide),Nat.mod_lt _ (by decide),Nat.mod_lt _ (by decide),Nat.mod_lt _ (by decide)⟩
theorem D04 {s x:S8} {z:V} {n:Nat} {k:C8s→Option R} :
  E1 (B1X R) (n+9) (.m (R2 s) z (R2 x) 0) k=k (.o (R2 (B1T s x)) z (R2 x) 8):=by
 have h1:E1 (B1X R) (n+9) (.m (R2 s) z (R2 x) 0) k=k (.o (.l [.i (W32 ((s.a:Int)+(x.a:Int))),.i (W32 ((s.b:Int)+(x.b:Int))),.i (W32 ((s.c:Int)+(x.c:Int))),.i (W32 ((s.d:Int)+(x.d:Int))),.i (W32 ((s.e:Int)+(x.e:Int))),.i (W32 ((s.f:Int)+(x.f:Int))),.i (W32 ((s.g:Int)+(x.g:Int))),.i (W32 ((s.h:Int)+(x.h:Int)))]) z (R2 x) 8):=by kernel_rfl
 rw [h1]
 simp only [← Int.natCast_add,A4n]
 unfold B1T R2
 simp only [Q1]
 rfl
variable {T:TT} {R:Type} {P:Program}
def z64:V:=.l (List.replicate 64 (.i 0))
def z8:V:=.l (List.replicate 8 (.i 0))
def A2q:V:=.l (A72.map nv)
def H0 (x:V):List Nat:=x.els.map fun v=>v.int.toNat
def spW (x:V):V:=.l ((A1V 48 (M7 16 (H0 x) [])).reverse.map nv)
def s8 (x:V):S8:=⟨(x.nth 0).int.toNat,(x.nth 1).int.toNat,(x.nth 2).int.toNat,(x.nth 3).int.toNat,(x.nth 4).int.toNat,(x.nth 5).int.toNat,(x.nth 6).int.toNat,(x.nth 7).int.toNat⟩
def A8Y (s b:V):V:=R2 (A2o (s8 s) (H0 b))
def Fsp (t:Nat):FC:=fun R xs k=>match xs with
 | [x]=>bif Nat.ble 64 x.els.length then k [.d t (spW x)] else none
 | _=>none
def Fmx (t:Nat):FC:=fun R xs k=>match xs with
 | [s,b]=>bif Nat.ble 64 b.els.length then k [.d t (A8Y s b)] else none
 | _=>none
theorem C3N (t:Nat):FC.nat (Fsp t):=by
 intro R xs k
 unfold Fsp
 split
 ·rename_i x;cases Nat.ble 64 x.els.length<;>rfl
 ·rfl
theorem C3O (t:Nat):FC.nat (Fmx t):=by
 intro R xs k
 unfold Fmx
 split
 ·rename_i s b;cases Nat.ble 64 b.els.length<;>rfl
 ·rfl
theorem J1 {x:V} {bs:List Nat} (hx:x.els=bs.map nv):H0 x=bs:=by
 unfold H0
 rw [hx,List.map_map]
 conv=>rhs;rw [← List.map_id bs]
 apply List.map_congr_left
 intro a _
 rfl
theorem B1Z {x:V} {bs:List Nat} (hx:x.els=bs.map nv) (hb:∀ b∈bs,b < 256) (hl:64≤bs.length) {n:Nat} (hn:64 < n) (k:V→Option R) :
  E1 (B87 R) n (.m x z64 0 z64) (fun | .o _ z _ w=>E1 (B5p R) n (.m z 16 w) (fun | .o _ _ w=>k w))=k (spW x):=by
 have h1:=D00 (R:=R) (z:=z64) hx hb hl 16 0 n [] (fun | .o _ z _ w=>E1 (B5p R) n (.m z 16 w) (fun | .o _ _ w=>k w)) rfl rfl (by omega)
 obtain ⟨w1,w2⟩:=A2p 16 bs [] hb (fun a h=>by cases h) (by omega)
 have h2:=D01 (R:=R) (z:=z64) 48 n (M7 16 bs []) (fun | .o _ _ w=>k w) (by rw [w2];rfl) (by rw [w2];simp) w1 (by omega)
 rw [w2] at h2
 refine h1.trans (Eq.trans ?_ (h2.trans ?_))
 ·rfl
 ·show k _=_
  unfold spW
  rw [J1 hx]
theorem B0k:∀ a∈A72,a < Q6:=by decide
theorem C8v (s:S8):s8 (R2 s)=s:=rfl
theorem C3P {s:S8} {b:V} {bs:List Nat} (hs:OkS s) (hx:b.els=bs.map nv) (hb:∀ b∈bs,b < 256) (hl:64≤bs.length) {n:Nat} (hn:64 < n) (k:V→Option R) :
  E1 (B88 R) n (.m (R2 s) z8 (spW b) A2q (R2 s) 0) (fun | .o s z _ _ x _=>E1 (B1X R) n (.m s z x 0) (fun | .o s _ _ _=>k s))=k (A8Y (R2 s) b):=by
 obtain ⟨w1,w2⟩:=A2p 16 bs [] hb (fun a h=>by cases h) (by omega)
 obtain ⟨c1,c2⟩:=A73 48 (M7 16 bs []) w1
 have h1:=D03 (R:=R) (s:=R2 s) (z:=z8) (K:=A72) (W:=(A1V 48 (M7 16 bs [])).reverse) rfl (by rw [List.length_reverse,c2,w2];rfl) B0k (fun a h=>c1 a (List.mem_reverse.1 h)) 64 0 n s
  (fun | .o s z _ _ x _=>E1 (B1X R) n (.m s z x 0) (fun | .o s _ _ _=>k s)) rfl hs (by omega)
 have hsp:spW b=.l ((A1V 48 (M7 16 bs [])).reverse.map nv):=by unfold spW;rw [J1 hx]
 rw [hsp]
 refine h1.trans ?_
 obtain ⟨n,rfl⟩:∃ n',n=n'+9:=⟨n - 9,by omega⟩
 refine D04.trans ?_
 show k _=k _
 unfold A8Y A2o
 rw [C8v,J1 hx]
 rfl
theorem C8w {ns:List Nat} (hl:ns.length=8) (h:∀ a∈ns,(a:Int)≤4294967295):∃ s,V.l (ns.map nv)=R2 s∧OkS s:=by
 match ns,hl with
 | [a,b,c,d,e,f,g,i],_ =>
  have q:∀ x∈[a,b,c,d,e,f,g,i],x < Q6:=fun x hx=>by have:=h x hx;show x < 4294967296;omega
  exact ⟨⟨a,b,c,d,e,f,g,i⟩,rfl,⟨q _ (by simp),q _ (by simp),q _ (by simp),q _ (by simp),q _ (by simp),q _ (by simp),q _ (by simp),q _ (by simp)⟩⟩
theorem B9a {bs:List Nat} (h:∀ a∈bs,(a:Int)≤hi .u8):∀ b∈bs,b < 256:=fun b hb=>by have:=h b hb;simp only [hi] at this;omega
end Go.Vm
end