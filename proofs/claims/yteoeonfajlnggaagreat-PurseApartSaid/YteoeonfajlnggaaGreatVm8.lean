/- What the operations of a program do, shown once for all programs; and numbers. -/
import Derived.Test.YteoeonfajlnggaaGreatVm7
set_option linter.constructorNameAsVariable false
set_option linter.unusedVariables false
set_option linter.unusedSimpArgs false
noncomputable section
namespace Go.Vm
open Go.RowKit
variable {T:TT} {R:Type}
structure KC where
 f:Nat→D7
 y:Nat→D7
 ord:Nat→Bool
def KC.dir (K:KC):KS:=⟨fun f=>(K.f f).dir,fun id=>(K.y id).dir,K.ord⟩
structure KC.nat (K:KC):Prop where
 f:∀ f,(K.f f).nat
 y:∀ id,(K.y id).nat
def B3z (nx:Nat) (o:Out) (k:H9→Option R):Option R :=
 match o with
 | ⟨v,wo,ro,nw⟩=>match nw with
  | []=>k ⟨v,wo,ro,nx⟩
  | [j]=>bif Nat.beq j nx then k ⟨v,wo,ro,nx+1⟩ else none
  | _=>none
theorem B3A (nx:Nat) (o:Option Out) (k:H9→Option R):ob o (fun x=>B3z nx x k)=ob (A4Y nx o) k:=by
 cases o with
 | none=>rfl
 | some x =>
  obtain ⟨v,wo,ro,nw⟩:=x
  simp only [ob,B3z,A4Y]
  cases nw with
  | nil=>rfl
  | cons j r=>cases r with
   | nil=>simp only;cases Nat.beq j nx<;>rfl
   | cons _ _=>rfl
def B5F (T:TT) (t:Nat) (k:A) (okk:Bool) (q:Nat×Nat×Nat×Nat×List (V×V×Bool)×Option V) (kk:A×List Nat→Option R):Option R :=
 match q.2.2.2.2.2 with
 | none=>match C5 T t with
  | some (.map kt et)=>match T et,A1H T kt k with
   | some te,some kv=>bif TK.notOther te.k then (bif Nat.beq kt q.2.1&&Nat.beq et q.2.2.1 then
     (bif A3z kv q.2.2.2.2.1 then kk (okA okk (mkA T et (A7W kv q.2.2.2.2.1)) true,[q.1]) else kk (okA okk (mkA T et te.zero) false,[q.1])) else none) else none
   | _,_=>none
  | _=>none
 | some _=>none
theorem B9z (t:Nat) (k:A) (okk:Bool) (q:Nat×Nat×Nat×Nat×List (V×V×Bool)×Option V) (kk:A×List Nat→Option R):B5F T t k okk q kk=ob (A7Y T t k okk q) kk:=by
 unfold B5F A7Y
 cases q.2.2.2.2.2 with
 | some _=>rfl
 | none=>cases C5 T t with
  | none=>rfl
  | some k1=>cases k1 with
   | map kt et =>
    simp only
    cases T et with
    | none=>rfl
    | some te=>cases A1H T kt k with
     | none=>rfl
     | some kv =>
      simp only [P6]
      cases TK.notOther te.k
      ·rfl
      ·simp only [cond_true]
       cases (Nat.beq kt q.2.1&&Nat.beq et q.2.2.1)
       ·rfl
       ·simp only [cond_true]
        cases A3z kv q.2.2.2.2.1<;>rfl
   | _=>rfl
def B5G (T:TT) (nx t:Nat) (k:A) (q:Nat×Nat×Nat×Nat×List (V×V×Bool)×Option V) (kk:Out→Option R):Option R :=
 match q.2.2.2.2.2 with
 | none=>match C5 T t with
  | some (.map kt et)=>match T et,A1H T kt k with
   | some te,some kv=>bif TK.notOther te.k then (bif Nat.beq kt q.2.1&&Nat.beq et q.2.2.1 then
     (bif A3z kv q.2.2.2.2.1 then (bif B1O kv q.2.2.2.2.1 then kk ⟨.o nx 1,[(q.1,.sm q.2.1 q.2.2.1 q.2.2.2.1 q.2.2.2.2.1 (some kv)),(nx,.row q.2.2.2.1 1 (A7W kv q.2.2.2.2.1).els false true)],[q.1],[nx]⟩ else none) else kk ⟨mkA T et te.zero,[],[q.1],[]⟩) else none) else none
   | _,_=>none
  | _=>none
 | some _=>none
theorem B9A (nx t:Nat) (k:A) (q:Nat×Nat×Nat×Nat×List (V×V×Bool)×Option V) (kk:Out→Option R):B5G T nx t k q kk=ob (A9n T nx t k q) kk:=by
 unfold B5G A9n
 cases q.2.2.2.2.2 with
 | some _=>rfl
 | none=>cases C5 T t with
  | none=>rfl
  | some k1=>cases k1 with
   | map kt et =>
    simp only
    cases T et with
    | none=>rfl
    | some te=>cases A1H T kt k with
     | none=>rfl
     | some kv =>
      simp only [P6]
      cases TK.notOther te.k
      ·rfl
      ·simp only [cond_true]
       cases (Nat.beq kt q.2.1&&Nat.beq et q.2.2.1)
       ·rfl
       ·simp only [cond_true]
        cases A3z kv q.2.2.2.2.1
        ·rfl
        ·simp only [cond_true,P6]
         cases B1O kv q.2.2.2.2.1<;>rfl
   | _=>rfl
def B5H (T:TT) (lend:Bool) (nx:Nat) (of:Nat→Option Ob) (t:Nat) (m k:A) (okk:Bool) (kk:Out→Option R):Option R :=
 match A56 of m with
 | some q=>bif lend&&!okk then B5G T nx t k q kk else B5F T t k okk q fun p=>kk ⟨p.1,[],p.2,[]⟩
 | none=>B6J T of t m k okk fun p=>kk ⟨p.1,[],p.2,[]⟩
theorem B9B (lend:Bool) (nx:Nat) (of:Nat→Option Ob) (t:Nat) (m k:A) (okk:Bool) (kk:Out→Option R):B5H T lend nx of t m k okk kk=ob (B2r T lend nx of t m k okk) kk:=by
 unfold B5H B2r
 cases A56 of m with
 | some q =>
  simp only
  cases lend&&!okk
  ·simp only [cond_false,B9z]
   cases A7Y T t k okk q<;>rfl
  ·simp only [cond_true,B9A]
 | none =>
  simp only [C0Q]
  cases A98 T of t m k okk<;>rfl
def C40 (T:TT) (of:Nat→Option Ob) (t:Nat) (k v:A) (q:Nat×Nat×Nat×Nat×List (V×V×Bool)×Option V) (kk:List (Nat×Ob)×List Nat→Option R):Option R :=
 match C5 T t with
 | some (.map kt et)=>match A1H T kt k with
  | some kv=>bif Nat.beq kt q.2.1&&Nat.beq et q.2.2.1 then (bif C6c q.2.2.2.2.2 kv then (match v with
    | .o rid ver=>match of rid with
     | some (.row el v' xs false sh)=>bif Nat.beq el q.2.2.2.1&&Nat.beq v' ver then kk ([(rid,.row el (ver+1) [] true false),(q.1,.sm q.2.1 q.2.2.1 q.2.2.2.1 (A55 kv (.l xs) true q.2.2.2.2.1) none)],[q.1,rid]) else none
     | _=>none
    | v=>match Q0 T DEP of et v with
     | some (x,wo)=>bif !(X0 wo).contains q.1 then kk (wo++[(q.1,.sm q.2.1 q.2.2.1 q.2.2.2.1 (A55 kv x false q.2.2.2.2.1) none)],q.1::X0 wo) else none
     | none=>none) else none) else none
  | none=>none
 | _=>none
theorem C41 (of:Nat→Option Ob) (t:Nat) (k v:A) (q:Nat×Nat×Nat×Nat×List (V×V×Bool)×Option V) (kk:List (Nat×Ob)×List Nat→Option R):C40 T of t k v q kk=ob (B76 T of t k v q) kk:=by
 unfold C40 B76
 cases C5 T t with
 | none=>rfl
 | some k1=>cases k1 with
  | map kt et =>
   simp only
   cases A1H T kt k with
   | none=>rfl
   | some kv =>
    simp only [P6]
    cases (Nat.beq kt q.2.1&&Nat.beq et q.2.2.1)
    ·rfl
    ·simp only [cond_true]
     cases C6c q.2.2.2.2.2 kv
     ·rfl
     ·simp only [cond_true]
      have gen:∀ v:A,(match Q0 T DEP of et v with
        | some (x,wo)=>bif !(X0 wo).contains q.1 then kk (wo++[(q.1,.sm q.2.1 q.2.2.1 q.2.2.2.1 (A55 kv x false q.2.2.2.2.1) none)],q.1::X0 wo) else none
        | none=>none)=ob (match Q0 T DEP of et v with
        | some (x,wo)=>if !(X0 wo).contains q.1 then some (wo++[(q.1,.sm q.2.1 q.2.2.1 q.2.2.2.1 (A55 kv x false q.2.2.2.2.1) none)],q.1::X0 wo) else none
        | none=>none) kk:=by
       intro v
       cases Q0 T DEP of et v with
       | none=>rfl
       | some p =>
        obtain ⟨x,wo⟩:=p
        simp only [P6]
        cases !(X0 wo).contains q.1<;>rfl
      cases v with
      | o rid ver =>
       simp only
       cases of rid with
       | none=>rfl
       | some o=>cases o with
        | row el v' xs nl sh=>cases nl
                              ·simp only [P6];cases (Nat.beq el q.2.2.2.1&&Nat.beq v' ver)<;>rfl
                              ·rfl
        | _=>rfl
      | i k n=>exact gen (.i k n)
      | b y=>exact gen (.b y)
      | s l=>exact gen (.s l)
      | z v=>exact gen (.z v)
      | v t x=>exact gen (.v t x)
      | p i t r=>exact gen (.p i t r)
      | e i v j t r=>exact gen (.e i v j t r)
      | c t x=>exact gen (.c t x)
      | q t x=>exact gen (.q t x)
      | w i v o n=>exact gen (.w i v o n)
      | a i t r l m=>exact gen (.a i t r l m)
      | m i=>exact gen (.m i)
      | y i=>exact gen (.y i)
      | f n c=>exact gen (.f n c)
      | g t l=>exact gen (.g t l)
      | t l=>exact gen (.t l)
      | x=>exact gen .x
  | _=>rfl
def B7D (T:TT) (of:Nat→Option Ob) (nx t:Nat) (m k v:A) (kk:H9→Option R):Option R :=
 match A56 of m with
 | some q=>C40 T of t k v q fun p=>kk ⟨.x,p.1,p.2,nx⟩
 | none=>ob (C4d T of t m k v) fun p=>kk ⟨.x,p.1,p.2,nx⟩
theorem C42 (of:Nat→Option Ob) (nx t:Nat) (m k v:A) (kk:H9→Option R):B7D T of nx t m k v kk=ob (B8a T of nx t m k v) kk:=by
 unfold B7D B8a C6g
 cases A56 of m with
 | some q =>
  simp only [C41]
  cases B76 T of t k v q<;>rfl
 | none =>
  simp only
  cases C4d T of t m k v<;>rfl
def C43 (T:TT) (of:Nat→Option Ob) (t:Nat) (u:A) (k:A×List Nat→Option R):Option R :=
 match A56 of u with
 | some q=>(match C5 T t with
  | some (.map _ _)=>bif Nat.ble q.2.2.2.2.1.length 9223372036854775807 then k (.i .i64 (q.2.2.2.2.1.length:Nat),[q.1]) else none
  | _=>none)
 | none=>C6D T of t u k
theorem C44 (of:Nat→Option Ob) (t:Nat) (u:A) (k:A×List Nat→Option R):C43 T of t u k=ob (B77 T of t u) k:=by
 unfold C43 B77
 cases A56 of u with
 | none=>exact C6E _ _ _ _
 | some q =>
  unfold C6e
  cases C5 T t with
  | none=>rfl
  | some kk=>cases kk with
   | map kt et=>simp only;cases Nat.ble q.2.2.2.2.1.length 9223372036854775807<;>rfl
   | _=>rfl
def C45 (T:TT) (K:KC) (ev:Operand→A) (of:Nat→Option Ob) (nx:Nat) (k:Call) (kk:H9→Option R):Option R :=
 match k.callee with
 | .value f=>match ev f with
  | .f fn cap=>bif cap.all (A0s T) then K.f fn R (k.args.toList.map ev++cap) of nx kk else none
  | .y id=>K.y id R (k.args.toList.map ev) of nx kk
  | _=>none
 | .builtin .len=>match k.argTypes.toList,k.args.toList with
  | [t],[x]=>C43 T of t (ev x) fun p=>kk (.pv nx p.1 p.2)
  | _,_=>none
 | .builtin .append=>match k.argTypes.toList,k.args.toList with
  | [t,xt],[x,y]=>bif A4R T xt (ev y) then B0P T of nx t (ev x) (ev y) fun o=>B3z nx o kk else bif isQ T (ev x) then ob (A4Y nx (B1N T nx t xt (ev x) (ev y))) kk else none
  | _,_=>none
 | .builtin .copy=>match k.argTypes.toList,k.args.toList with
  | [t,xt],[x,y]=>C0T T of t xt (ev x) (ev y) fun p=>kk ⟨p.1,p.2.1,p.2.2,nx⟩
  | _,_=>none
 | _=>ob (A1S T (.no fun _ _ _ _=>none) ev of nx k) kk
theorem C46 {K:KC} (hK:K.nat) (ev:Operand→A) (of:Nat→Option Ob) (nx:Nat) (k:Call) (kk:H9→Option R):C45 T K ev of nx k kk=ob (A1S T K.dir ev of nx k) kk:=by
 unfold C45
 split
 ·rename_i f hk
  simp only [A1S,hk]
  cases ev f with
  | f fn cap =>
   simp only [P6]
   cases cap.all (A0s T)
   ·rfl
   ·simp only [cond_true];exact hK.f fn R _ of nx kk
  | y id=>exact hK.y id R _ of nx kk
  | _=>rfl
 ·rename_i hk
  simp only [A1S,hk]
  split
  ·rename_i t x h1 h2
   rw [h1,h2]
   simp only [C44]
   cases B77 T of t (ev x)<;>rfl
  ·rename_i hne
   split
   ·rename_i t x h1 h2;exact absurd h2 (hne _ _ h1)
   ·rfl
 ·rename_i hk
  simp only [A1S,hk]
  split
  ·rename_i t xt x y h1 h2
   rw [h1,h2]
   simp only [B4q,B3A]
   cases A4R T xt (ev y)
   ·simp only [cond_false,Bool.false_eq_true,if_false]
    cases isQ T (ev x)<;>rfl
   ·simp only [cond_true,if_true]
  ·rename_i hne
   split
   ·rename_i t xt x y h1 h2;exact absurd h2 (hne _ _ _ _ h1)
   ·rfl
 ·rename_i hk
  simp only [A1S,hk]
  split
  ·rename_i t xt x y h1 h2
   rw [h1,h2]
   simp only [C0U]
   cases A0I T of t xt (ev x) (ev y)<;>rfl
  ·rename_i hne
   split
   ·rename_i t xt x y h1 h2;exact absurd h2 (hne _ _ _ _ h1)
   ·rfl
 ·rename_i h1 h2 h3 h4
  have:A1S T (.no fun _ _ _ _=>none) ev of nx k=A1S T K.dir ev of nx k:=by
   unfold A1S
   split
   ·rename_i f hk;exact absurd hk (h1 f)
   all_goals rfl
  rw [this]
def B7E (T:TT) (K:KC) (ev:Operand→A) (of:Nat→Option Ob) (nx:Nat) (o:Oper) (k:H9→Option R):Option R :=
 match o.op with
 | .pick q a b=>match ev q with
  | .b t=>k (.pv nx (bif t then ev a else ev b) [])
  | _=>none
 | .binOp op t x y _=>D1g T of op t (ev x) (ev y) fun p=>k (.pv nx p.1 p.2)
 | .unOp op _ x=>unC op (ev x) fun v=>k (.pv nx v [])
 | .convert s t x=>C0R T of nx s t (ev x) fun o=>B3z nx o k
 | .sliceToArrayPointer t x=>D1i T of t (ev x) fun p=>k ⟨p.1,p.2.1,p.2.2,nx⟩
 | .makeSlice t l c=>A3R T nx t (ev l) (ev c) k
 | .lookup t m c okk=>B5H T (D0h o.pos) nx of t (ev m) (ev c) okk fun o=>B3z nx o k
 | .mapUpdate t m c v=>B7D T of nx t (ev m) (ev c) (ev v) k
 | .insert t m c v=>B7D T of nx t (ev m) (ev c) (ev v) k
 | .slice t x lo hi mx=>B4r T of t (ev x) (lo.map ev) (hi.map ev) (mx.map ev) fun p=>k ⟨p.1,p.2.1,p.2.2,nx⟩
 | .indexAddr t x ix=>match ev ix with
  | .i _ i=>A3Q T of t i (ev x) fun p=>k (.pv nx p.1 p.2)
  | _=>none
 | .index t x ix=>match ev ix with
  | .i _ i=>B4p T t i (ev x) fun v=>k (.pv nx v [])
  | _=>none
 | .call c=>C45 T K ev of nx c k
 | _=>ob (W6 T (.no fun _ _ _ _=>none) ev of nx o) k
theorem C47 {nx:Nat} (o:Option (A×List Nat)) (k:H9→Option R):ob (pvR nx o) k=ob o fun p=>k (.pv nx p.1 p.2):=by cases o<;>rfl
theorem C48 {nx:Nat} (o:Option A) (k:H9→Option R):ob (pvO nx o) k=ob o fun v=>k (.pv nx v []):=by cases o<;>rfl
theorem D20 {nx:Nat} (o:Option (A×List (Nat×Ob)×List Nat)) (k:H9→Option R):ob (pvW nx o) k=ob o fun p=>k ⟨p.1,p.2.1,p.2.2,nx⟩:=by cases o<;>rfl
theorem B3B {K:KC} (hK:K.nat) (ev:Operand→A) (of:Nat→Option Ob) (nx:Nat) (o:Oper) (k:H9→Option R):B7E T K ev of nx o k=ob (W6 T K.dir ev of nx o) k:=by
 obtain ⟨dst,op,ty,pos,after,guard⟩:=o
 cases op<;>simp only [B7E,W6,C6C,D1h,C0S,C6F,A8R,B9B,C42,B8f,C47,C48,D20,B3A,C46 hK]
 case pick q a b=>cases ev q<;>rfl
 case indexAddr t x ix=>cases ev ix<;>simp only [A8Q,C47]<;>rfl
 case index t x ix=>cases ev ix<;>simp only [B8e,C48]<;>rfl
def D21 (T:TT) (K:KC) (ops:Array Oper) (sl:Nat→A) (of:Nat→Option Ob) (nx:Nat) (o:Oper) (k:Z6→Option R):Option R :=
 match o.guard with
 | none=>B7E T K (evO sl) of nx o fun out=>bif Nat.ble nx out.nx then k (.mk1 o (o.looksAt ops) nx out) else none
 | some (g,want)=>match (ops[g]?).bind (·.dst) with
  | some d=>match sl d with
   | .t _=>k (.skip o (o.looksAt ops) nx)
   | .b q=>bif (bif want then q else !q) then (B7E T K (evO sl) of nx o fun out=>bif Nat.ble nx out.nx then k (.mk1 o (o.looksAt ops) nx out) else none) else k (.skip o (o.looksAt ops) nx)
   | _=>none
  | none=>none
theorem C82 {K:KC} (hK:K.nat) (ops:Array Oper) (sl:Nat→A) (of:Nat→Option Ob) (nx:Nat) (o:Oper) (k:Z6→Option R):D21 T K ops sl of nx o k=ob (A2J T K.dir ops sl of nx o) k:=by
 have go:ob (W6 T K.dir (evO sl) of nx o) (fun out=>bif Nat.ble nx out.nx then k (.mk1 o (o.looksAt ops) nx out) else none)=ob (match W6 T K.dir (evO sl) of nx o with
   | some out=>if Nat.ble nx out.nx=true then some (Z6.mk1 o (o.looksAt ops) nx out) else none
   | none=>none) k:=by
  cases W6 T K.dir (evO sl) of nx o with
  | none=>rfl
  | some out=>simp only [ob];cases Nat.ble nx out.nx<;>rfl
 unfold D21 A2J
 cases o.guard with
 | none=>simp only [B3B hK];exact go
 | some p =>
  obtain ⟨g,want⟩:=p
  simp only
  cases (ops[g]?).bind (·.dst) with
  | none=>rfl
  | some d =>
   simp only
   cases sl d with
   | t _=>rfl
   | b q =>
    simp only [B3B hK,go]
    cases q<;>cases want<;>rfl
   | _=>rfl
def D4u {α:Type} (a:A) (k:A→α):α :=
 match a with
 | .b q=>match q with
  | true=>k (.b true)
  | false=>k (.b false)
 | a=>k a
theorem C83 {α:Type} (a:A) (k:A→α):D4u a k=k a:=by
 cases a with
 | b q=>cases q<;>rfl
 | _=>rfl
def D4v (fl:Bool) (a:A) (k:A→Option R):Option R :=
 match fl with
 | true=>B4l a k
 | false=>D4u a k
theorem C84 (fl:Bool) (a:A) (k:A→Option R):D4v fl a k=k a:=by
 cases fl
 ·exact C83 a k
 ·exact B6G a k
def ob2 {α β:Type} (o:Option (α×β)) (k:α→β→Option R):Option R :=
 match o with
 | some p=>k p.1 p.2
 | none=>none
def B9C (T:TT) (K:KC) (fl:Bool) (ops:Array Oper) (of:Nat→Option Ob):List Oper→St→(List Z6→St→Option R)→Option R
 | [],σ,k=>k [] σ
 | o::r,σ,k=>D21 T K ops (F1 σ.sl) (C1 σ.ob of) σ.nx o fun E=>D4v fl E.val fun v=>A2O E.hi fun h=>D07 (A1D σ.ob E.ro σ.rd) fun rd =>
   B9C T K fl ops of r { sl:=match E.dst with | some d=>(d,v)::σ.sl | none=>σ.sl,ob:=A1p σ.ob E.wo,rd:=rd,nx:=h,mks:=σ.mks } fun Es σ'=>k ({ E with val:=v,hi:=h }::Es) σ'
theorem B7F {K:KC} (hK:K.nat) (fl:Bool) (ops:Array Oper) (of:Nat→Option Ob):∀ (l:List Oper) (σ:St) (k:List Z6→St→Option R),B9C T K fl ops of l σ k=ob2 (P8 T K.dir ops of l σ) k:=by
 intro l
 induction l with
 | nil=>intro σ k;rfl
 | cons o r ih =>
  intro σ k
  rw [A1u]
  simp only [B9C,C82 hK,C84,Q6,B6H,ih]
  cases A2J T K.dir ops (F1 σ.sl) (C1 σ.ob of) σ.nx o with
  | none=>rfl
  | some E =>
   simp only [ob,St.app]
   cases P8 T K.dir ops of r _ with
   | none=>rfl
   | some p=>rfl
abbrev LC:=Code→Option ((R:Type)→(Nat→Option Ob)→St→(Exit→St→Option R)→Option R)
def A6F (ks:List Nat) (f:St→(Exit→St→Option R)→Option R):Nat→St→(Exit→St→Option R)→Option R
 | 0,_,_=>none
 | n+1,σ,k=>f (σ.tidy ks) fun ex σ1=>match ex with
  | .normal=>A6F ks f n σ1 k
  | ex=>k ex σ1
def B5I (T:TT) (K:KC) (nt:Nat) (of:Nat→Option Ob) (R:Type) (g:Operand) (ps:Array Nat) (asg body:Code) (σ:St) (k:Exit→St→Option R):Option R :=
 match σ.mks with
 | some l=>match evO (F1 σ.sl) g with
  | .f f cap=>bif K.ord f&&cap.all (A0s T) then
    (fun (ob1:Tr)=>K.f f R (.y (σ.nx+1)::cap) (C1 ob1 of) (σ.nx+2) fun out=>bif Nat.ble (σ.nx+2) out.nx then
     (fun (ob2:Tr)=>match ob2.get (σ.nx+1) with
     | some (.lp (some r))=>(match B1X r.st with
      | true=>(match B3w r.pend with
       | some ex=>k ex ⟨σ.sl,ob2.set (σ.nx+1) (.lp (some { r with st:=.exhausted })),A1D ob1 out.ro σ.rd,out.nx,some (σ.nx::l)⟩
       | none=>none)
      | false=>none)
     | _=>none) (A1p ob1 out.wo) else none) ((σ.ob.set σ.nx (.lp none)).set (σ.nx+1) (.lp (some ⟨nt,A5X σ.sl (A5W σ.sl []),ps,asg,body,.ready,none⟩)))
   else none
  | _=>none
 | none=>none
theorem B9D {K:KC} (hK:K.nat) {nt:Nat} {of:Nat→Option Ob} {R:Type} {g:Operand} {ps:Array Nat} {asg body:Code} {σ:St} {k:Exit→St→Option R}:B5I T K nt of R g ps asg body σ k=ob2 (A79 T K.dir nt of g ps asg body σ) k:=by
 unfold B5I A79
 cases σ.mks with
 | none=>rfl
 | some l =>
  simp only
  cases evO (F1 σ.sl) g with
  | f f cap =>
   simp only
   show (bif K.ord f&&cap.all (A0s T) then _ else _)=ob2 (if (K.ord f&&cap.all (A0s T))=true then _ else _) k
   cases (K.ord f&&cap.all (A0s T))
   ·rfl
   ·simp only [cond_true,if_true]
    generalize (σ.ob.set σ.nx (.lp none)).set (σ.nx+1) (.lp (some ⟨nt,A5X σ.sl (A5W σ.sl []),ps,asg,body,.ready,none⟩))=ob1
    rw [hK.f f]
    show ob ((K.f f).dir _ _ _) _=ob2 (match (K.f f).dir _ _ _ with | some out=>_ | none=>none) k
    cases (K.f f).dir (.y (σ.nx+1)::cap) (C1 ob1 of) (σ.nx+2) with
    | none=>rfl
    | some out =>
     simp only [ob]
     cases Nat.ble (σ.nx+2) out.nx
     ·rfl
     ·simp only [cond_true,if_true]
      cases (A1p ob1 out.wo).get (σ.nx+1) with
      | none=>rfl
      | some o =>
       cases o with
       | lp q =>
        cases q with
        | none=>rfl
        | some r =>
         simp only
         cases B1X r.st
         ·rfl
         ·simp only
          cases B3w r.pend<;>rfl
       | _=>rfl
  | _=>rfl
def P4 (T:TT) (K:KC) (Lo:LC) (fl:Bool) (fu nt:Nat) (of:Nat→Option Ob) (R:Type):Code→St→(Exit→St→Option R)→Option R
 | .skip,σ,k=>k .normal σ
 | .ret,σ,k=>k .ret σ
 | .exit id,σ,k=>k (.exit id) σ
 | .region _ ops draw,σ,k =>
  match draw with
  | false=>bif ops.toList.all (A4b nt) then B9C T K fl ops of ops.toList σ fun _ σ'=>k .normal σ' else none
  | true=>bif B3t nt ops then (B9C T K fl ops of ops.toList σ fun Es σ'=>bif A84 (A2K ops.toList []) Es 0 Es then k .normal σ' else
    B9C T K fl ops of ops.toList (σ.pre of (C8Z (C1 σ.ob of) Es)) fun Es2 σ2=>bif A84 (A2K ops.toList []) Es2 0 Es2 then k .normal σ2 else none) else none
 | .seq x y,σ,k=>P4 T K Lo fl fu nt of R x σ fun ex σ1=>match ex with
  | .normal=>P4 T K Lo fl fu nt of R y σ1 k
  | ex=>k ex σ1
 | .cond q x y,σ,k=>match evO (F1 σ.sl) q with
  | .b t=>bif t then P4 T K Lo fl fu nt of R x σ k else P4 T K Lo fl fu nt of R y σ k
  | _=>none
 | .block id body,σ,k=>P4 T K Lo fl fu nt of R body σ fun ex σ'=>match ex with
  | .exit id'=>k (bif Nat.beq id' id then .normal else .exit id') σ'
  | ex=>k ex σ'
 | .loop body,σ,k=>match Lo body with
  | some s=>s R of σ k
  | none=>A6F (A5W σ.sl []) (fun σ k=>P4 T K Lo fl fu nt of R body σ k) fu σ k
 | .rangeFunc g ps asg body,σ,k=>B5I T K nt of R g ps asg body σ k
 | _,_,_=>none
abbrev LS:=(R:Type)→(Nat→Option Ob)→St→(Exit→St→Option R)→Option R
def LS.nat (s:LS):Prop:=∀ (R:Type) (of:Nat→Option Ob) (σ:St) (k:Exit→St→Option R),s R of σ k=ob2 (s (Exit×St) of σ fun ex σ=>some (ex,σ)) k
def LS.dir (s:LS) (of:Nat→Option Ob) (σ:St):Option (Exit×St):=s (Exit×St) of σ fun ex σ=>some (ex,σ)
def U5 (Lo:LC):A3B:=fun b=>match Lo b with
 | some s=>some (LS.dir s)
 | none=>none
def A2c (Lo:LC):Prop:=∀ b s,Lo b=some s→LS.nat s
theorem A7:A2c (fun _=>none):=fun b s h=>by cases h
theorem B5J {ks:List Nat} {f:St→(Exit→St→Option R)→Option R} {g:St→Option (Exit×St)} (h:∀ σ k,f σ k=ob2 (g σ) k):∀ (n:Nat) (σ:St) (k:Exit→St→Option R),A6F ks f n σ k=ob2 (A5s ks g n σ) k:=by
 intro n
 induction n with
 | zero=>intro σ k;rfl
 | succ n ih =>
  intro σ k
  simp only [A6F,A5s,h]
  cases hg:g (σ.tidy ks) with
  | none=>rfl
  | some p =>
   obtain ⟨ex,σ1⟩:=p
   simp only [ob2]
   cases ex with
   | normal=>exact ih σ1 k
   | _=>rfl
theorem A1l {K:KC} (hK:K.nat) {Lo:LC} (hLo:A2c Lo) {fl:Bool} {fu nt:Nat} (of:Nat→Option Ob) (R:Type):∀ (c:Code) (σ:St) (k:Exit→St→Option R),P4 T K Lo fl fu nt of R c σ k=ob2 (N4 T K.dir (U5 Lo) fu nt of c σ) k:=by
 intro c
 induction c with
 | skip=>intro σ k;rfl
 | ret=>intro σ k;rfl
 | exit id=>intro σ k;rfl
 | region id ops draw =>
  intro σ k
  cases draw with
  | false =>
   simp only [P4,N4,B7F hK]
   cases ops.toList.all (A4b nt)
   ·rfl
   ·simp only [cond_true,if_true]
    cases P8 T K.dir ops of ops.toList σ<;>rfl
  | true =>
   simp only [P4,N4,B7F hK]
   cases B3t nt ops
   ·rfl
   ·simp only [cond_true,if_true]
    cases P8 T K.dir ops of ops.toList σ with
    | none=>rfl
    | some p =>
     obtain ⟨Es,σ'⟩:=p
     simp only [ob2]
     cases A84 (A2K ops.toList []) Es 0 Es
     ·simp only [cond_false,Bool.false_eq_true,if_false]
      cases P8 T K.dir ops of ops.toList (σ.pre of (C8Z (C1 σ.ob of) Es)) with
      | none=>rfl
      | some p2 =>
       obtain ⟨Es2,σ2⟩:=p2
       simp only
       cases A84 (A2K ops.toList []) Es2 0 Es2<;>rfl
     ·rfl
 | seq x y ihx ihy =>
  intro σ k
  simp only [P4,N4]
  rw [ihx]
  cases N4 T K.dir (U5 Lo) fu nt of x σ with
  | none=>rfl
  | some p =>
   obtain ⟨ex,σ1⟩:=p
   simp only [ob2]
   cases ex with
   | normal=>exact ihy σ1 k
   | _=>rfl
 | cond q x y ihx ihy =>
  intro σ k
  simp only [P4,N4]
  cases evO (F1 σ.sl) q with
  | b t=>cases t
         ·exact ihy σ k
         ·exact ihx σ k
  | _=>rfl
 | block id body ih =>
  intro σ k
  simp only [P4,N4]
  rw [ih]
  cases N4 T K.dir (U5 Lo) fu nt of body σ with
  | none=>rfl
  | some p =>
   obtain ⟨ex,σ1⟩:=p
   simp only [ob2]
   cases ex with
   | exit id'=>simp only;cases Nat.beq id' id<;>rfl
   | _=>rfl
 | loop body ih =>
  intro σ k
  simp only [P4,N4]
  cases hb:Lo body with
  | none =>
   simp only [U5,hb]
   exact B5J (fun σ k=>ih σ k) fu σ k
  | some s =>
   simp only [U5,hb]
   exact hLo body s hb R of σ k
 | rangeFunc g ps asg body _ _ =>
  intro σ k
  simp only [P4,N4]
  exact B9D hK
 | _=>intro σ k;rfl
def G7 (P:Program) (T:TT) (K:KC) (Lo:Nat→LC) (fl:Bool) (fu f:Nat):D7:=fun R args of nx k =>
 match P.funcs[f]? with
 | some fn=>match fn.body with
  | some code=>bif !(fn.name == "runtime.NumGoroutine")&&Nat.ble args.length fn.ntmps then
    P4 T K (Lo nx) fl fu fn.ntmps of R code ⟨A3C 0 args,.e,[],nx,some []⟩ fun ex σ=>bif B9t ex then
     (match σ.mks with
     | some ms=>bif B1Z nx σ.nx σ.ob.get ms then
      (match A5u T (F1 σ.sl) (C1 σ.ob of) fn.results.toList with
      | some p=>k (A5Y ms (A4J nx p.1 σ p.2))
      | none=>none) else none
     | none=>none) else none
    else none
  | none=>none
 | none=>none
theorem A8k {P:Program} {K:KC} (hK:K.nat) {Lo:Nat→LC} (hL:∀ n0,A2c (Lo n0)) {fl:Bool} {fu f:Nat} (R:Type) (args:List A) (of:Nat→Option Ob) (nx:Nat) (k:H9→Option R) :
  G7 P T K Lo fl fu f R args of nx k=ob (A86 P T K.dir (fun n0=>U5 (Lo n0)) fu f args of nx) k:=by
 unfold G7 A86
 cases hf:P.funcs[f]? with
 | none=>rfl
 | some fn =>
  simp only
  cases hb:fn.body with
  | none=>rfl
  | some code =>
   simp only [P6]
   cases (!(fn.name == "runtime.NumGoroutine")&&Nat.ble args.length fn.ntmps)
   ·rfl
   ·simp only [cond_true]
    rw [A1l hK (hL nx) of R code]
    cases N4 T K.dir (U5 (Lo nx)) fu fn.ntmps of code ⟨A3C 0 args,.e,[],nx,some []⟩ with
    | none=>rfl
    | some p =>
     obtain ⟨ex,σ⟩:=p
     simp only [ob2,P6]
     cases B9t ex
     ·rfl
     ·simp only [cond_true]
      cases σ.mks with
      | none=>rfl
      | some ms =>
       simp only [P6]
       cases B1Z nx σ.nx σ.ob.get ms
       ·rfl
       ·simp only [cond_true]
        cases A5u T (F1 σ.sl) (C1 σ.ob of) fn.results.toList<;>rfl
theorem B0p {P:Program} {K:KC} (hK:K.nat) {Lo:Nat→LC} (hL:∀ n0,A2c (Lo n0)) {fl:Bool} {fu f:Nat}:(G7 P T K Lo fl fu f).nat:=by
 intro R args of nx k
 rw [A8k hK hL]
 have:(G7 P T K Lo fl fu f).dir args of nx=A86 P T K.dir (fun n0=>U5 (Lo n0)) fu f args of nx:=by
  show G7 P T K Lo fl fu f H9 args of nx some=_
  rw [A8k hK hL]
  cases A86 P T K.dir (fun n0=>U5 (Lo n0)) fu f args of nx<;>rfl
 rw [this]
theorem B3C {P:Program} (hm:P.follows .mixedOrders=true) (hT:L8 T P) {K:KC} (hK:K.nat) (hS:X9 P T K.dir) {Lo:Nat→LC} (hL:∀ n0,A2c (Lo n0)) {fl:Bool} {fu f:Nat} (hO:∀ n0 fn code,P.funcs[f]? = some fn→fn.body=some code→L7 P T fn.ntmps n0 (U5 (Lo n0)) code):J2 P T f (G7 P T K Lo fl fu f).dir:=by
 have:(G7 P T K Lo fl fu f).dir=A86 P T K.dir (fun n0=>U5 (Lo n0)) fu f:=by
  funext args of nx
  show G7 P T K Lo fl fu f H9 args of nx some=_
  rw [A8k hK hL]
  cases A86 P T K.dir (fun n0=>U5 (Lo n0)) fu f args of nx<;>rfl
 rw [this]
 exact B7B hm hT hS hO
theorem B0q:U5 (fun _=>none)=fun _=>none:=rfl
def A30 (T:TT) (K:KC) (fl:Bool) (fu id:Nat):D7:=fun R args of nx k =>
 match lpE A3q (of id) with
 | some r=>bif Nat.beq args.length r.ps.size&&r.ps.toList.all (fun p=>Nat.blt p r.nt) then
   P4 T K (fun _=>none) fl fu r.nt of R r.asg ⟨B5C r.ps.toList args r.sl,.e,[id],nx,none⟩ fun ex σ1=>match ex with
    | .normal=>(match lpE A3q (C1 σ1.ob of id) with
     | some r1=>P4 T K (fun _=>none) fl fu r.nt of R r.body (setLp σ1 id { r1 with st:=.busy }) fun ex2 σ2=>ob (D2Y id nx of (some (ex2,σ2))) k
     | none=>none)
    | _=>none
   else none
 | none=>none
theorem B0r {K:KC} (hK:K.nat) {fl:Bool} {fu id:Nat} (R:Type) (args:List A) (of:Nat→Option Ob) (nx:Nat) (k:H9→Option R):A30 T K fl fu id R args of nx k=ob (A3Z T K.dir fu id args of nx) k:=by
 unfold A30 A3Z
 cases lpE A3q (of id) with
 | none=>rfl
 | some r =>
  simp only [P6]
  cases (Nat.beq args.length r.ps.size&&r.ps.toList.all (fun p=>Nat.blt p r.nt))
  ·rfl
  ·simp only [cond_true]
   rw [A1l hK A7 of R r.asg,B0q]
   cases N4 T K.dir (fun _=>none) fu r.nt of r.asg ⟨B5C r.ps.toList args r.sl,.e,[id],nx,none⟩ with
   | none=>rfl
   | some p =>
    obtain ⟨ex,σ1⟩:=p
    simp only [ob2]
    cases ex with
    | normal =>
     simp only
     cases lpE A3q (C1 σ1.ob of id) with
     | none=>rfl
     | some r1 =>
      simp only
      rw [A1l hK A7 of R r.body,B0q]
      cases N4 T K.dir (fun _=>none) fu r.nt of r.body (setLp σ1 id { r1 with st:=.busy }) with
      | none=>rfl
      | some p2=>rfl
    | _=>rfl
theorem A8l {K:KC} (hK:K.nat) {fl:Bool} {fu id:Nat}:(A30 T K fl fu id).dir=A3Z T K.dir fu id:=by
 funext args of nx
 show A30 T K fl fu id H9 args of nx some=_
 rw [B0r hK]
 cases A3Z T K.dir fu id args of nx<;>rfl
theorem B5K {K:KC} (hK:K.nat) {fl:Bool} {fu id:Nat}:(A30 T K fl fu id).nat:=by
 intro R args of nx k
 rw [A8l hK,B0r hK]
variable {P:Program} {T:TT} {R:Type} {c:J8} {e:B4} {of:Nat→Option Ob}
mutual
def A2d (T:TT):Nat→Nat→Bool
 | 0,_=>false
 | d+1,t=>match C5 T t with
  | some (.int _) | some .bool | some .str=>true
  | some (.arr _ el)=>A2d T d el
  | some (.struct fs)=>B3D T d fs
  | _=>false
def B3D (T:TT):Nat→List Nat→Bool
 | 0,_=>false
 | _+1,[]=>true
 | d+1,t::r=>A2d T d t&&B3D T d r
end
theorem RV.flat:∀ (d:Nat) {e e':B4},(∀ {t:Nat} {xs:List V} {cs:List Value},A2d T d t=true→∀ n,RV T e (List.replicate n t) xs cs→RV T e' (List.replicate n t) xs cs) ∧
  (∀ {ts:List Nat} {xs:List V} {cs:List Value},B3D T d ts=true→RV T e ts xs cs→RV T e' ts xs cs):=by
 intro d
 induction d with
 | zero=>intro e e';exact ⟨fun h=>by simp [A2d] at h,fun h=>by simp [B3D] at h⟩
 | succ d ih =>
  intro e e'
  have one:∀ {t:Nat} {x:V} {cs:List Value},A2d T (d+1) t=true→RV T e [t] [x] cs→RV T e' [t] [x] cs:=by
   intro t x cs hf h
   simp only [A2d] at hf
   cases h with
   | int h1 h2 hr g=>cases g;exact .int h1 h2 hr .nil
   | bool h1 h2 g=>cases g;exact .bool h1 h2 .nil
   | str h1 h2 g=>cases g;exact .str h1 h2 .nil
   | ptr h1=>rw [h1] at hf;cases hf
   | nils h1=>rw [h1] at hf;cases hf
   | map h1=>rw [h1] at hf;cases hf
   | func h1=>rw [h1] at hf;cases hf
   | fn h1=>rw [h1] at hf;cases hf
   | slice h1=>rw [h1] at hf;cases hf
   | arr h1 h2 g1 g=>rw [h1] at hf;cases g;exact .arr h1 h2 ((ih (e:=e) (e':=e')).1 hf _ g1) .nil
   | struct h1 h2 g1 g=>rw [h1] at hf;cases g;exact .struct h1 h2 ((ih (e:=e) (e':=e')).2 hf g1) .nil
  refine ⟨fun {t xs cs} hf n=>?_,fun {ts xs cs} hf h=>?_⟩
  ·induction n generalizing xs cs with
   | zero=>intro h;cases h;exact .nil
   | succ n ihn =>
    intro h
    rw [List.replicate_succ] at h ⊢
    cases xs with
    | nil=>cases h
    | cons x xs =>
     obtain ⟨d1,r,rfl,g1,g2⟩:=h.cons_inv
     exact (one hf g1).append (ts:=[t]) (xs:=[x]) (ihn g2)
  ·cases ts with
   | nil=>cases h;exact .nil
   | cons t ts =>
    simp only [B3D,D5V] at hf
    cases xs with
    | nil=>cases h
    | cons x xs =>
     obtain ⟨d1,r,rfl,g1,g2⟩:=h.cons_inv
     exact ((ih (e:=e) (e':=e')).1 hf.1 1 g1).append (ts:=[t]) (xs:=[x]) ((ih (e:=e) (e':=e')).2 hf.2 g2)
theorem B5L {t:Nat} {y:V} {v:Value} (ht:(T t).isSome=true) (h:RV T e [t] [y] v.cells.toList) (ha:W7 T t v):C2 T e (mkA T t y) v:=by
 obtain ⟨te,hte⟩:=D5Z.1 ht
 exact A1k (a:=.v t y) hte ⟨h,ha⟩ (N8 t y)
inductive RP (T:TT) (e:B4):List Nat→List V→List Value→Prop
 | nil:RP T e [] [] []
 | cons {t ts x xs v vs}:RV T e [t] [x] v.cells.toList→W7 T t v→RP T e ts xs vs→RP T e (t::ts) (x::xs) (v::vs)
theorem RP.change {e e':B4} (hf:∀ a ds,Fz e a ds→Fz e' a ds) {ts:List Nat} {xs:List V} {vs:List Value} (h:RP T e ts xs vs):RP T e' ts xs vs:=by
 induction h with
 | nil=>exact .nil
 | cons h1 h2 _ ih=>exact .cons (h1.change hf) h2 ih
def A0K (T:TT):(Nat→Option Ob)→List Nat→List A→Option (List V×List (Nat×Ob))
 | _,[],[]=>some ([],[])
 | of,t::ts,a::as0=>match Q0 T DEP of t a with
  | some (x,wo)=>match A0K T (put of wo) ts as0 with
   | some (xs,wo')=>some (x::xs,wo++wo')
   | none=>none
  | none=>none
 | _,_,_=>none
theorem A8m:∀ {ts:List Nat} {as0:List A} {vals:List Value} {e:B4} {of of':Nat→Option Ob} {xs:List V} {wo:List (Nat×Ob)},A5 T c e of'→A0K T of ts as0=some (xs,wo)→(∀ id∈X0 wo,of' id=of id)→T2 T e as0 vals→Shd T c e of' wo fun e'=>RP T e' ts xs vals:=by
 intro ts
 induction ts with
 | nil =>
  intro as0 vals e of of' xs wo h hv ho hr
  cases as0 with
  | nil =>
   simp only [A0K,D5X,Prod.mk.injEq] at hv
   obtain ⟨rfl,rfl⟩:=hv
   cases hr
   exact ⟨e,rfl,h,B4.le.refl e,fun _ hu=>hu,.nil⟩
  | cons a as0=>simp [A0K] at hv
 | cons t ts ih =>
  intro as0 vals e of of' xs wo h hv ho hr
  cases as0 with
  | nil=>simp [A0K] at hv
  | cons a as0 =>
   simp only [A0K] at hv
   split at hv<;>try (cases hv;done)
   rename_i x1 w1 h1
   split at hv<;>try (cases hv;done)
   rename_i xs2 w2 h2
   injection hv with hv;injection hv with hv1 hv2
   subst hv1;subst hv2
   have ho1:∀ id∈X0 w1,of' id=of id:=fun id A3=>ho id (by simp only [X0,List.map_append,D55];exact .inl A3)
   have h1':=(A01 DEP).1 of of' t a x1 w1 h1 ho1
   cases hr with
   | @cons _ v _ vs r1 r2 =>
   obtain ⟨e1,p1,p2,p3,p4,p5⟩:=A1n h h1' r1
   have ag:=A6z h1' r1
   obtain ⟨e2,q1,q2,q3,q4,q5⟩:=ih p2 h2 (fun id A3=>B18 _ _ _ _ (ho id (by simp only [X0,List.map_append,D55];exact .inr A3))) (r2.mono p3)
   exact ⟨e2,q1.trans p1,by rw [H7];exact q2,p3.trans q3,fun j hj=>p4 j (q4 j hj),.cons (p5.mono q3) ag q5⟩
theorem C49:∀ {ts:List Nat} {as0:List A} {of:Nat→Option Ob} {xs:List V} {wo:List (Nat×Ob)},A0K T of ts as0=some (xs,wo)→A0B of wo:=by
 intro ts
 induction ts with
 | nil =>
  intro as0 of xs wo h
  cases as0 with
  | nil=>simp only [A0K,D5X,Prod.mk.injEq] at h;rw [← h.2];intro p hp;cases hp
  | cons a as0=>simp [A0K] at h
 | cons t ts ih =>
  intro as0 of xs wo h
  cases as0 with
  | nil=>simp [A0K] at h
  | cons a as0 =>
   simp only [A0K] at h
   split at h<;>try (cases h;done)
   rename_i x1 w1 h1
   split at h<;>try (cases h;done)
   rename_i xs2 w2 h2
   injection h with h;injection h with _ hv2
   subst hv2
   exact A2G ((C5o DEP).1 _ _ _ _ _ h1) (ih h2)
def P9 (T:TT):List Nat→List V→List A
 | t::ts,x::xs=>mkA T t x::P9 T ts xs
 | _,_=>[]
theorem RP.reps {ts:List Nat} {xs:List V} {vs:List Value} (h:RP T e ts xs vs) (ht:ts.all (fun t=>(T t).isSome)=true):T2 T e (P9 T ts xs) vs:=by
 induction h with
 | nil=>exact .nil
 | cons h1 h2 _ ih =>
  simp only [List.all_cons,D5V] at ht
  exact .cons (B5L ht.1 h1 h2) (ih ht.2)
inductive RK where
 | d (t:Nat)
 | r (el:Nat)
inductive Rs where
 | d (t:Nat) (y:V)
 | r (el:Nat) (xs:List V) (nl:Bool)
def C85:A→List A
 | .t l=>l
 | a=>[a]
def dL (T:TT) (sh:Bool):(Nat→Option Ob)→List A→List RK→Option (List V×List (Nat×Ob))
 | _,[],[]=>some ([],[])
 | of,a::l,.d t::r=>match Q0 T DEP of t a with
  | some (y,wo)=>bif (T t).isSome&&(sh||A2d T 8 t) then (match dL T sh (put of wo) l r with
   | some (ys,wo')=>some (y::ys,wo++wo')
   | none=>none) else none
  | none=>none
 | of,_::l,.r _::r=>match dL T sh of l r with
  | some (ys,wo)=>some (.n::ys,wo)
  | none=>none
 | _,_,_=>none
def C86 (T:TT) (sh:Bool) (of:Nat→Option Ob) (el:Nat) (a:A):Option (List V×Bool) :=
 match a with
 | .o id ver=>match of id with
  | some (.row el' v xs nl false)=>bif Nat.beq el el'&&Nat.beq v ver&&(sh||A2d T 8 el) then some (xs,nl) else none
  | _=>none
 | .z v=>bif A8u v&&Nat.blt 0 (B8 T el) then some ([],true) else none
 | _=>none
def rL (T:TT) (sh:Bool) (of:Nat→Option Ob):List A→List V→List RK→Option (List Rs)
 | [],[],[]=>some []
 | _::l,y::ys,.d t::r=>match rL T sh of l ys r with
  | some rs=>some (.d t y::rs)
  | none=>none
 | a::l,_::ys,.r el::r=>match C86 T sh of el a with
  | some (xs,nl)=>match rL T sh of l ys r with
   | some rs=>some (.r el xs nl::rs)
   | none=>none
  | none=>none
 | _,_,_=>none
def A6a:List RK→Nat
 | []=>0
 | .d _::r=>A6a r
 | .r _::r=>A6a r+1
def isT:A→Bool
 | .t _=>true
 | _=>false
def S9 (T:TT) (sh:Bool) (rk:List RK) (out:H9):Option (List Rs) :=
 bif Nat.beq rk.length 1 == isT out.val then none else
 match dL T sh (put (fun _=>none) out.wo) (C85 out.val) rk with
 | some (ys,wo)=>bif Nat.ble (A6a rk) 1 then rL T sh (put (put (fun _=>none) out.wo) wo) (C85 out.val) ys rk else none
 | none=>none
def U8 (T:TT):Nat→List Rs→List A×List (Nat×Ob)×Nat
 | nx,[]=>([],[],nx)
 | nx,.d t y::r=>let p:=U8 T nx r
  (mkA T t y::p.1,p.2.1,p.2.2)
 | nx,.r el xs nl::r=>let p:=U8 T (nx+1) r
  (.o nx 1::p.1,(nx,.row el 1 xs nl false)::p.2.1,p.2.2)
def C87:List A→A
 | [a]=>a
 | l=>.t l
abbrev FC:=(R:Type)→List V→(List Rs→Option R)→Option R
def FC.nat (F:FC):Prop:=∀ (R:Type) (xs:List V) (k:List Rs→Option R),F R xs k=ob (F (List Rs) xs some) k
def toC {R:Type} (T:TT) (of:Nat→Option Ob) (t:Nat) (a:A) (k:V×List (Nat×Ob)→Option R):Option R :=
 match a with
 | .w id ver off n=>(match C5 T t,of id with
  | some (.slice el),some (.row el' v xs nl _)=>bif Nat.beq el el'&&Nat.beq v ver&&Nat.beq (B8 T t) 1 then bif Nat.ble (off+n) xs.length then k (.l ((xs.drop off).take n),[(id,.row el' v xs nl true)]) else none else none
  | _,_=>none)
 | a=>ob (Q0 T DEP of t a) k
theorem D22 {R:Type} (of:Nat→Option Ob) (t:Nat) (a:A) (k:V×List (Nat×Ob)→Option R):toC T of t a k=ob (Q0 T DEP of t a) k:=by
 unfold toC
 cases a with
 | w id ver off n =>
  simp only [DEP,Q0,A0U]
  cases C5 T t with
  | none=>rfl
  | some kk=>cases kk with
   | slice el=>cases of id with
    | none=>rfl
    | some o=>cases o with
     | row el' v xs nl sh =>
      simp only
      cases (Nat.beq el el'&&Nat.beq v ver&&Nat.beq (B8 T t) 1)<;>cases Nat.ble (off+n) xs.length<;>rfl
     | _=>rfl
   | _=>rfl
 | _=>rfl
def B7G {R:Type} (T:TT):(Nat→Option Ob)→List Nat→List A→(List V×List (Nat×Ob)→Option R)→Option R
 | _,[],[],k=>k ([],[])
 | of,t::ts,a::as0,k=>toC T of t a fun p=>B7G T (put of p.2) ts as0 fun q=>k (p.1::q.1,p.2++q.2)
 | _,_,_,_=>none
theorem B3E {R:Type}:∀ (ts:List Nat) (of:Nat→Option Ob) (as0:List A) (k:List V×List (Nat×Ob)→Option R),B7G T of ts as0 k=ob (A0K T of ts as0) k:=by
 intro ts
 induction ts with
 | nil=>intro of as0 k;cases as0<;>rfl
 | cons t ts ih =>
  intro of as0 k
  cases as0 with
  | nil=>rfl
  | cons a as0 =>
   simp only [B7G,D22,ih,A0K]
   cases Q0 T DEP of t a with
   | none=>rfl
   | some p =>
    simp only [ob]
    cases A0K T (put of p.2) ts as0<;>rfl
def J9 (T:TT) (sh:Bool) (ts:List Nat) (F:FC):D7:=fun R args of nx k =>
 B7G T of ts args fun p=>F R p.1 fun rs=>k ⟨C87 (U8 T nx rs).1,(bif sh then A2h of p.2 else [])++(U8 T nx rs).2.1,X0 p.2,(U8 T nx rs).2.2⟩
theorem B0s {sh:Bool} {ts:List Nat} {F:FC} (hF:F.nat):(J9 T sh ts F).nat:=by
 intro R args of nx k
 simp only [J9,D7.dir,B3E]
 cases A0K T of ts args with
 | none=>rfl
 | some p =>
  simp only [ob]
  rw [hF R,hF H9]
  cases F (List Rs) p.1 some<;>rfl
variable {P:Program} {T:TT} {R:Type} {c:J8} {e:B4} {of:Nat→Option Ob}
def B4.grown (e:B4) (w:World) (S2:Nat→Nat→Prop):B4:={ e with w:=w,S:=fun b i=>e.S b i∨(e.w.heap.size≤b∧S2 b i) }
theorem A5.grown (h:A5 T c e of) {w':World} {S2:Nat→Nat→Prop} (hsz:e.w.heap.size≤w'.heap.size) (hb:∀ b,b < e.w.heap.size→w'.heap[b]? = e.w.heap[b]?) (h1:w'.os=e.w.os) (h2:w'.tape=e.w.tape) (h3:w'.output=e.w.output) (hS:∀ b i,S2 b i→b < w'.heap.size) :
  A5 T c (e.grown w' S2) of∧e.le (e.grown w' S2):=by
 have hle:e.le (e.grown w' S2):=by
  refine ⟨fun b i hs=>⟨.inl hs,fun x hx=>?_⟩,fun _ h=>h,fun id hu _=>⟨rfl,rfl,fun b o hι=>D9 (hb b (h.lt _ _ _ hu hι))⟩,fun _ _ h=>h,fun _ _=>Nat.le_refl _,fun _ _=>rfl,hsz,fun b hb'=>D9 (hb b hb')⟩
  show w'.cell? ⟨b,i,none⟩=some x
  rw [F7 (hb b (h.slt _ _ hs))];exact hx
 refine ⟨⟨fun id o ho=>?_,h.sep,h.own,fun id b o hu hι=>Nat.lt_of_lt_of_le (h.lt id b o hu hι) hsz,fun b i hs=>?_,fun b i hs=>.inl (h.s0 _ _ hs),fun b i hs=>?_,h1.trans h.os,h2.trans h.tape,h3.trans h.output,Nat.le_trans h.size hsz,fun k hk hm=>?_,h.g.mono (fun _ _ q=>q) rfl (fun _ q=>q) hsz (fun j b o hj hb=>.inl ⟨j,o,hj,hb⟩)⟩,hle⟩
 ·exact (h.ok id o ho).keep hle rfl (fun b o' hι=>hb b (h.lt _ _ _ (h.ok id o ho).use hι)) (fun b o' i hι hs=>by
   rcases hs with hs | ⟨hs,_⟩
   ·exact hs
   ·exact absurd (h.lt _ _ _ (h.ok id o ho).use hι) (by omega)) (fun a o' b _ hG=>⟨hG,hb b (h.g.lt _ _ hG),fun i hs=>by
   rcases hs with hs | ⟨hs,_⟩
   ·exact hs
   ·exact absurd (h.g.lt _ _ hG) (by omega)⟩)
 ·rcases hs with hs | ⟨_,hs⟩
  ·exact Nat.lt_of_lt_of_le (h.slt _ _ hs) hsz
  ·exact hS _ _ hs
 ·rcases hs with hs | ⟨hs,_⟩
  ·exact h.snew _ _ hs
  ·exact .inr (.inl (Nat.le_trans h.size hs))
 ·show w'.heap[k]? = _
  rw [hb k (Nat.lt_of_lt_of_le hk h.size)];exact h.block k hk hm
def B4.adopt (e:B4) (id b o el n:Nat):B4:={ e with ι:=F8 e.ι id (some (b,o)),bn:=F8 e.bn id 1,U:=fun j=>j=id∨e.U j,ty:=F8 e.ty id el,ln:=F8 e.ln id n }
theorem A5.adopt (h:A5 T c e of) {id b o el:Nat} {xs:List V} {cs:Array Value} {t:TypeId} {fz:Nat×Nat} {pre ys post:List Value} (hu:¬ e.U id) (hz:0 < B8 T el) (hb:e.w.heap[b]? = some (.cells cs t fz)) (hf:A1F e.w b cs) (hcs:cs.toList=pre++ys++post) (hp:pre.length=o) (hr:RV T e (List.replicate xs.length el) xs ys)
  (h1:∀ i,o+ys.length≤i→¬ e.S b i) (h2:∀ i,o≤i→¬ e.S b i) (hnew:c.w0.heap.size≤b) (hown:∀ j b' o',(of j).isSome→e.ι j=some (b',o')→b'≠b) (hnG:∀ a,¬ e.G a b) :
  A5 T c (e.adopt id b o el xs.length) (F8 of id (some (.row el 1 xs false false)))∧e.le (e.adopt id b o el xs.length):=by
 have hne:∀ j,e.U j→j≠id:=fun j hj hq=>hu (hq ▸ hj)
 have hblt:b < e.w.heap.size:=(Array.getElem?_eq_some_iff.1 hb).1
 have hle:e.le (e.adopt id b o el xs.length):=by
  refine ⟨fun b i hs=>⟨hs,fun x hx=>hx⟩,fun j hj=>.inr hj,fun j hj _=>⟨upd_ne _ _ (hne j hj),upd_ne _ _ (hne j hj),fun _ _ _=>rfl⟩,fun j hj h0=>?_,fun j hj=>?_,fun j hj=>upd_ne _ _ (hne j hj),Nat.le_refl _,fun _ _=>rfl⟩
  ·show F8 e.bn id 1 j=0
   rw [upd_ne _ _ (hne j hj)];exact h0
  ·show _≤F8 e.bn id 1 j
   rw [upd_ne _ _ (hne j hj)];exact Nat.le_refl _
 have hιid:(e.adopt id b o el xs.length).ι id=some (b,o):=upd_same _ _ _
 have hι:∀ j,j≠id→(e.adopt id b o el xs.length).ι j=e.ι j:=fun j hj=>upd_ne _ _ hj
 refine ⟨⟨fun j ob hj=>?_,fun j k b1 q b2 q' hj hk hb1 hb2 hjk=>?_,fun j b1 q hj hb1=>?_,fun j b1 q hj hb1=>?_,h.slt,h.s0,h.snew,h.os,h.tape,h.output,h.size,h.block,?_⟩,hle⟩
 ·by_cases hjid:j=id
  ·subst hjid
   rw [upd_same] at hj;cases hj
   refine ⟨.inl rfl,by omega,upd_same _ _ _,upd_same _ _ _,upd_same _ _ _,hz,.inr ⟨rfl,b,o,cs,t,fz,pre,ys,post,hιid,hb,hf,hcs,hp,hr.mono hle,h1,fun _=>h2⟩⟩
  ·rw [upd_ne _ _ hjid] at hj
   exact (h.ok j ob hj).keep hle (upd_ne _ _ hjid) (fun _ _ _=>rfl) (fun _ _ _ _ hs=>hs) (fun a o' b _ hG=>⟨hG,rfl,fun i hs=>hs⟩)
 ·by_cases h1':j=id
  ·have h2':k≠id:=fun hq=>hjk (h1'.trans hq.symm)
   subst h1'
   rw [hιid] at hb1;cases hb1
   rw [hι _ h2'] at hb2
   rw [upd_ne _ _ h2'] at hk
   exact fun hq=>hown k b2 q' hk hb2 hq.symm
  ·rw [hι _ h1'] at hb1
   rw [upd_ne _ _ h1'] at hj
   by_cases h2':k=id
   ·subst h2'
    rw [hιid] at hb2;cases hb2
    exact hown j b1 q hj hb1
   ·rw [hι _ h2'] at hb2
    rw [upd_ne _ _ h2'] at hk
    exact h.sep j k b1 q b2 q' hj hk hb1 hb2 hjk
 ·by_cases h1':j=id
  ·subst h1';rw [hιid] at hb1;cases hb1;exact .inl hnew
  ·rw [hι _ h1'] at hb1
   rw [upd_ne _ _ h1'] at hj
   exact h.own j b1 q hj hb1
 ·by_cases h1':j=id
  ·subst h1';rw [hιid] at hb1;cases hb1;exact hblt
  ·rw [hι _ h1'] at hb1
   rcases hj with hj | hj
   ·exact absurd hj h1'
   ·exact h.lt j b1 q hj hb1
 ·refine ⟨fun a b1 hG j b2 q hj hb2=>?_,h.g.uniq,h.g.own,h.g.lt⟩
  by_cases h1':j=id
  ·subst h1';rw [hιid] at hb2;cases hb2;exact fun hq=>hnG a (hq ▸ hG)
  ·rw [hι _ h1'] at hb2
   rw [upd_ne _ _ h1'] at hj
   exact h.g.sep a b1 hG j b2 q hj hb2
inductive RR (T:TT) (sh:Bool) (e:B4) (B:Nat):List RK→List Rs→List Value→Prop
 | nil:RR T sh e B [] [] []
 | d {t y v rk rs vs}:(T t).isSome=true→(sh||A2d T 8 t)=true→RV T e [t] [y] v.cells.toList→W7 T t v→RR T sh e B rk rs vs→RR T sh e B (.d t::rk) (.d t y::rs) (v::vs)
 | n {el rk rs vs}:0 < B8 T el→RR T sh e B rk rs vs→RR T sh e B (.r el::rk) (.r el [] true::rs) (.slice none 0 0::vs)
 | r {el xs b o cs t fz pre ys post k cap rk rs vs}:0 < B8 T el→(sh||A2d T 8 el)=true→B≤b→e.w.heap[b]? = some (.cells cs t fz)→A1F e.w b cs→cs.toList=pre++ys++post→pre.length=o→RV T e (List.replicate xs.length el) xs ys →
   (∀ i,o+ys.length≤i→¬ e.S b i)→(∀ i,o≤i→¬ e.S b i)→xs.length≤cap→o+cap * B8 T el=cs.size→(0 < cap→k=o)→RR T sh e B rk rs vs→RR T sh e B (.r el::rk) (.r el xs false::rs) (.slice (some ⟨b,k,none⟩) xs.length cap::vs)
theorem C88 {sh:Bool}:∀ {rk:List RK} {l:List A} {vs:List Value} {e:B4} {of:Nat→Option Ob} {ys:List V} {wo:List (Nat×Ob)},A5 T c e of→dL T sh of l rk=some (ys,wo)→T2 T e l vs →
  ∃ e':B4,e'.w=e.w∧A5 T c e' (put of wo)∧e.le e'∧(∀ j,e'.U j→e.U j)∧T2 T e' l vs ∧
   ∀ rs,rL T sh (put of wo) l ys rk=some rs→∀ B,(∀ id el v xs nl sh' b o,put of wo id=some (.row el v xs nl sh')→e'.ι id=some (b,o)→B≤b)→RR T sh e' B rk rs vs:=by
 intro rk
 induction rk with
 | nil =>
  intro l vs e of ys wo h hd hr
  cases l with
  | nil =>
   simp only [dL,D5X,Prod.mk.injEq] at hd
   obtain ⟨rfl,rfl⟩:=hd
   refine ⟨e,rfl,h,B4.le.refl e,fun _ hu=>hu,hr,fun rs hrs B _=>?_⟩
   simp only [rL,D5X] at hrs
   subst hrs
   cases hr;exact .nil
  | cons a l=>simp [dL] at hd
 | cons k rk ih =>
  intro l vs e of ys wo h hd hr
  cases l with
  | nil=>cases k<;>simp [dL] at hd
  | cons a l =>
   cases k with
   | d t =>
    simp only [dL] at hd
    split at hd<;>try (cases hd;done)
    rename_i y w1 h1
    cases hc:((T t).isSome&&(sh||A2d T 8 t)) with
    | false=>rw [hc] at hd;cases hd
    | true =>
     rw [hc] at hd
     simp only [cond_true] at hd
     split at hd<;>try (cases hd;done)
     rename_i ys2 w2 h2
     simp only [D5X,Prod.mk.injEq] at hd
     obtain ⟨rfl,rfl⟩:=hd
     simp only [D5V] at hc
     cases hr with
     | @cons _ v _ vs r1 r2 =>
     obtain ⟨e1,p1,p2,p3,p4,p5⟩:=A1n h h1 r1
     have ag:=A6z h1 r1
     obtain ⟨e2,q1,q2,q3,q4,q6,q5⟩:=ih p2 h2 (r2.mono p3)
     refine ⟨e2,q1.trans p1,by rw [H7];exact q2,p3.trans q3,fun j hj=>p4 j (q4 j hj),.cons ((r1.mono p3).mono q3) q6,fun rs hrs B hB=>?_⟩
     simp only [rL] at hrs
     split at hrs<;>try (cases hrs;done)
     rename_i rs2 hrs2
     simp only [D5X] at hrs
     subst hrs
     rw [H7] at hrs2 hB
     exact .d hc.1 hc.2 (p5.mono q3) ag (q5 _ hrs2 B hB)
   | r el =>
    simp only [dL] at hd
    split at hd<;>try (cases hd;done)
    rename_i ys2 w2 h2
    simp only [D5X,Prod.mk.injEq] at hd
    obtain ⟨rfl,rfl⟩:=hd
    cases hr with
    | @cons _ v _ vs r1 r2 =>
    obtain ⟨e2,q1,q2,q3,q4,q6,q5⟩:=ih h h2 r2
    refine ⟨e2,q1,q2,q3,q4,.cons (r1.mono q3) q6,fun rs hrs B hB=>?_⟩
    simp only [rL] at hrs
    split at hrs<;>try (cases hrs;done)
    rename_i xs nl hn
    split at hrs<;>try (cases hrs;done)
    rename_i rs2 hrs2
    simp only [D5X] at hrs
    subst hrs
    have rest:=q5 _ hrs2 B hB
    have r1':=r1.mono q3
    cases a with
    | o id ver =>
     simp only [C86] at hn
     split at hn<;>try (cases hn;done)
     rename_i el' v' xs' nl' hof
     cases hc:(Nat.beq el el'&&Nat.beq v' ver&&(sh||A2d T 8 el)) with
     | false=>rw [hc] at hn;cases hn
     | true =>
      rw [hc] at hn
      simp only [cond_true,D5X,Prod.mk.injEq] at hn
      obtain ⟨rfl,rfl⟩:=hn
      simp only [D5V] at hc
      obtain ⟨⟨c1,c2⟩,c3⟩:=hc
      have:=D5U c1;subst this
      have:=D5U c2;subst this
      obtain ⟨g1,g2,g3,g4,g4',g5,g6⟩:=q2.ok _ _ hof
      rcases M8 r1' g3 with ⟨k1,k2,rfl⟩ | ⟨b,o,cap,k,k1,k2,k3,k4,rfl⟩
      ·rcases g6 with ⟨rfl,_,rfl⟩ | ⟨_,b,o,cs,t,fz,pre,ys,post,m1,_⟩
       ·exact .n g5 rest
       ·rw [k1] at m1;cases m1
      ·rcases g6 with ⟨_,m1,_⟩ | ⟨rfl,b',o',cs,t,fz,pre,ys,post,m1,m2,m3,m4,m5,m6,m7,m8⟩
       ·rw [k1] at m1;cases m1
       ·rw [k1] at m1;cases m1
        rw [g4'] at k2 ⊢
        rw [g4] at k3
        rw [T6 m2] at k3
        exact .r g5 c3 (hB _ _ _ _ _ _ _ _ hof k1) m2 m3 m4 m5 m6 m7 (m8 rfl) k2 k3 k4 rest
    | z v0 =>
     simp only [C86] at hn
     cases hc:(A8u v0&&Nat.blt 0 (B8 T el)) with
     | false=>rw [hc] at hn;cases hn
     | true =>
      rw [hc] at hn
      simp only [cond_true,D5X,Prod.mk.injEq] at hn
      obtain ⟨rfl,rfl⟩:=hn
      simp only [D5V] at hc
      have hx:RA T e2 [.z v0] [v]:=r1'
      have hv:v=.slice none 0 0:=by
       cases hx with
       | z _ _=>exact A2E hc.1
       | r g1 _ _=>exact g1.elim
      subst hv
      exact .n (by simpa [Nat.blt_eq] using hc.2) rest
    | _=>simp [C86] at hn
theorem RR.flat {sh:Bool} {B:Nat} {e e':B4} (hw:e'.w=e.w) (hf:sh=true→∀ a ds,Fz e a ds→Fz e' a ds) (hS:∀ b i,B≤b→e'.S b i→e.S b i):∀ {rk:List RK} {rs:List Rs} {vs:List Value},RR T sh e B rk rs vs→RR T sh e' B rk rs vs:=by
 intro rk rs vs h
 have one:∀ {t:Nat} {ts:List Nat} (n:Nat) {xs:List V} {cs:List Value},(sh||A2d T 8 t)=true→ts=List.replicate n t→RV T e ts xs cs→RV T e' ts xs cs:=fun {t ts} n {xs cs} hc hts g=>by
  cases hsh:sh with
  | true=>exact g.change (hf hsh)
  | false =>
   rw [hsh,Bool.false_or] at hc
   subst hts
   exact (RV.flat 8 (e:=e) (e':=e')).1 hc n g
 induction h with
 | nil=>exact .nil
 | d h1 h2 h3 h4 _ ih=>exact .d h1 h2 (one 1 h2 rfl h3) h4 ih
 | n h1 _ ih=>exact .n h1 ih
 | r h1 h2 h3 h4 h5 h6 h7 h8 h9 h10 h11 h12 h13 _ ih =>
  exact .r h1 h2 h3 (by rw [hw];exact h4) (by rw [hw];exact h5) h6 h7 (one _ h2 rfl h8) (fun i hi hs=>h9 i hi (hS _ _ h3 hs)) (fun i hi hs=>h10 i hi (hS _ _ h3 hs)) h11 h12 h13 ih
theorem RR.data {sh:Bool} {B nx:Nat}:∀ {rk:List RK} {rs:List Rs} {vs:List Value},RR T sh e B rk rs vs→A6a rk=0→(U8 T nx rs).2=([],nx)∧T2 T e (U8 T nx rs).1 vs:=by
 intro rk rs vs h
 induction h with
 | nil=>intro _;exact ⟨rfl,.nil⟩
 | d h1 h2 h3 h4 _ ih =>
  intro hc
  obtain ⟨p,q⟩:=ih hc
  refine ⟨?_,.cons (B5L h1 h3 h4) q⟩
  simp only [U8]
  exact Prod.ext (congrArg Prod.fst p) (congrArg Prod.snd p)
 | n _ _ _=>intro hc;simp [A6a] at hc
 | r _ _ _ _ _ _ _ _ _ _ _ _ _ _ _=>intro hc;simp [A6a] at hc
theorem RR.take {sh:Bool} {B nx:Nat}:∀ {rk:List RK} {rs:List Rs} {vs:List Value} {e:B4} {of:Nat→Option Ob},A5 T c e of→RR T sh e B rk rs vs→A6a rk≤1→(∀ id,nx≤id→id < (U8 T nx rs).2.2→¬ e.U id)→c.w0.heap.size≤B→(∀ j b o,(of j).isSome→e.ι j=some (b,o)→b < B)→(∀ a b,e.G a b→b < B) →
  nx≤(U8 T nx rs).2.2∧∃ e':B4,e'.w=e.w∧A5 T c e' (put of (U8 T nx rs).2.1)∧e.le e'∧(∀ id,e'.U id→e.U id∨(nx≤id∧id < (U8 T nx rs).2.2))∧T2 T e' (U8 T nx rs).1 vs:=by
 intro rk rs vs e of hos h
 induction h with
 | nil=>intro _ _ _ _ _;exact ⟨Nat.le_refl _,e,rfl,hos,B4.le.refl e,fun _ hu=>.inl hu,.nil⟩
 | d h1 h2 h3 h4 hr ih =>
  intro hc hu hB hb hGB
  obtain ⟨g0,e',g1,g2,g3,g4,g5⟩:=ih hc hu hB hb hGB
  exact ⟨g0,e',g1,g2,g3,g4,.cons (B5L h1 (h3.mono g3) h4) g5⟩
 | @n el rk rs vs hz hr ih =>
  intro hc hu hB hb hGB
  have hc0:A6a rk=0:=by simp only [A6a] at hc;omega
  obtain ⟨p,q⟩:=hr.data (nx:=nx+1) hc0
  have e1:(U8 T nx (.r el [] true::rs)).2.2=nx+1:=by simp only [U8];rw [p]
  have e2:(U8 T nx (.r el [] true::rs)).2.1=[(nx,.row el 1 [] true false)]:=by simp only [U8];rw [p]
  have hun:¬ e.U nx:=hu nx (Nat.le_refl _) (by rw [e1];omega)
  have hle:=hos.le_nil (el:=el) hun
  refine ⟨by rw [e1];omega,e.nil nx el,rfl,by rw [e2];exact hos.nil hun rfl hz,hle,fun id A3=>?_,?_⟩
  ·rcases A3 with rfl | A3
   ·exact .inr ⟨Nat.le_refl _,by rw [e1];omega⟩
   ·exact .inl A3
  ·simp only [U8]
   exact .cons (A3s (.inl rfl) (upd_same _ _ _) (by omega) (upd_same _ _ _) (upd_same _ _ _)) (q.mono hle)
 | @r el xs b o cs t fz pre ys post k cap rk rs vs hz hfl hb1 h4 h5 h6 h7 h8 h9 h10 h11 h12 h13 hr ih =>
  intro hc hu hB hb hGB
  have hc0:A6a rk=0:=by simp only [A6a] at hc;omega
  obtain ⟨p,q⟩:=hr.data (nx:=nx+1) hc0
  have e1:(U8 T nx (.r el xs false::rs)).2.2=nx+1:=by simp only [U8];rw [p]
  have e2:(U8 T nx (.r el xs false::rs)).2.1=[(nx,.row el 1 xs false false)]:=by simp only [U8];rw [p]
  have hun:¬ e.U nx:=hu nx (Nat.le_refl _) (by rw [e1];omega)
  obtain ⟨g1,hle⟩:=hos.adopt (id:=nx) hun hz h4 h5 h6 h7 h8 h9 h10 (Nat.le_trans hB hb1) (fun j b' o' hj hι hq=>by have:=hb j b' o' hj hι;omega) (fun a hG=>by have:=hGB a b hG;omega)
  refine ⟨by rw [e1];omega,e.adopt nx b o el xs.length,rfl,by rw [e2];exact g1,hle,fun id A3=>?_,?_⟩
  ·rcases A3 with rfl | A3
   ·exact .inr ⟨Nat.le_refl _,by rw [e1];omega⟩
   ·exact .inl A3
  ·simp only [U8]
   refine .cons ?_ (q.mono hle)
   have ln:(e.adopt nx b o el xs.length).ln nx=xs.length:=upd_same _ _ _
   have:=A1o (T:=T) (e:=e.adopt nx b o el xs.length) (id:=nx) (ver:=1) (b:=b) (o:=o) (cap:=cap) (.inl rfl) (upd_same _ _ _) (by omega) (upd_same _ _ _) (by rw [ln];exact h11) (by
    rw [show (e.adopt nx b o el xs.length).ty nx=el from upd_same _ _ _,T6 (show (e.adopt nx b o el xs.length).w.heap[b]? = _ from h4)];exact h12) (k:=k) h13
   rw [ln] at this
   exact this
variable {P:Program} {T:TT} {R:Type} {c:J8} {e:B4} {of:Nat→Option Ob}
def TV (T:TT) (ts:List Nat) (xs:List V):Prop:=∃ e vs,RP T e ts xs vs
theorem A6G {α β:Type} {o:Option α} {k:α→Option β} {b:β} (h:ob o k=some b):∃ a,o=some a∧k a=some b:=by
 cases o with
 | none=>cases h
 | some a=>exact ⟨a,rfl,h⟩
theorem C5a {nx:Nat}:∀ {rs:List Rs} {nx:Nat},∀ a∈(U8 T nx rs).1,∀ l,a≠.t l:=by
 intro rs
 induction rs with
 | nil=>intro nx a ha;simp [U8] at ha
 | cons r rs ih =>
  intro nx a ha
  cases r with
  | d t y =>
   simp only [U8,List.mem_cons] at ha
   rcases ha with rfl | ha
   ·exact A3k _ _
   ·exact ih a ha
  | r el xs nl =>
   simp only [U8,List.mem_cons] at ha
   rcases ha with rfl | ha
   ·intro l h;cases h
   ·exact ih a ha
theorem C5b {nx:Nat} {rs:List Rs}:(U8 T nx rs).1.length=rs.length:=by
 induction rs generalizing nx with
 | nil=>rfl
 | cons r rs ih=>cases r<;>simp [U8,ih]
theorem D23 {sh:Bool} {of:Nat→Option Ob}:∀ {rk:List RK} {l:List A} {ys:List V} {rs:List Rs},rL T sh of l ys rk=some rs→rs.length=rk.length:=by
 intro rk
 induction rk with
 | nil=>intro l ys rs h;cases l<;>cases ys<;>simp [rL] at h;subst h;rfl
 | cons k rk ih =>
  intro l ys rs h
  cases l with
  | nil=>cases k<;>simp [rL] at h
  | cons a l=>cases ys with
   | nil=>cases k<;>simp [rL] at h
   | cons y ys =>
    cases k with
    | d t =>
     simp only [rL] at h
     split at h<;>try (cases h;done)
     rename_i rs' h'
     simp only [D5X] at h;subst h
     simp [ih h']
    | r el =>
     simp only [rL] at h
     split at h<;>try (cases h;done)
     split at h<;>try (cases h;done)
     rename_i rs' h'
     simp only [D5X] at h;subst h
     simp [ih h']
theorem B5M:∀ {l:List A} {xs:List Value},xs.length=l.length→(∀ (i:Nat) v x,l[i]? = some v→xs[i]? = some x→H5 T e v x)→T2 T e l xs:=by
 intro l
 induction l with
 | nil=>intro xs h _;cases xs with
  | nil=>exact .nil
  | cons _ _=>simp at h
 | cons a l ih =>
  intro xs h hr
  cases xs with
  | nil=>simp at h
  | cons x xs =>
   refine .cons ?_ (ih (by simpa using h) (fun i v x hv hx=>hr (i+1) v x (by simpa using hv) (by simpa using hx)))
   have:=hr 0 a x rfl rfl
   cases a with
   | t l=>exact this.elim
   | _=>exact this
theorem B5N {l:List A} {xs:List Value} (h:T2 T e l xs) (hn:∀ a∈l,∀ m,a≠.t m):C2 T e (.t l) (.tuple xs.toArray):=by
 obtain ⟨h1,h2⟩:=h.get
 refine ⟨xs.toArray,rfl,by simpa using h1,fun i v x hv hx=>?_⟩
 exact A6E (h2 i v x hv (by simpa using hx)) (hn v (List.mem_of_getElem? hv))
theorem B7H {f:FuncId} {s:D7} (hn:s.nat) (hs:J2 P T f s.dir) {sh:Bool} {ts:List Nat} {rk:List RK} {F:FC} (hFn:F.nat) (hts:ts.all (fun t=>(T t).isSome)=true)
  (hF:∀ xs rs,TV T ts xs→F (List Rs) xs some=some rs→s (List Rs) (P9 T ts xs) (fun _=>none) 0 (fun out=>S9 T sh rk out)=some rs):J2 P T f (J9 T sh ts F).dir:=by
 intro c e of of' args vals nx out hos hrun hro hu hvals
 unfold D7.dir J9 at hrun
 rw [B3E] at hrun
 obtain ⟨⟨xs,wo⟩,hargs,hrun⟩:=A6G hrun
 simp only at hrun
 rw [hFn H9] at hrun
 obtain ⟨rs,hrs,hout⟩:=A6G hrun
 injection hout with hout
 subst hout
 obtain ⟨eS,s1,s2,s3,s4,s5⟩:=A8m hos hargs hro hvals
 have hrun0:=hF xs rs ⟨_,_,s5⟩ hrs
 rw [hn] at hrun0
 obtain ⟨out0,hout0,hres⟩:=A6G hrun0
 let e0:B4:={ w:=e.w,ι:=fun _=>none,S:=eS.S,bn:=fun _=>0,U:=fun _=>False,ty:=fun _=>0,ln:=fun _=>0,G:=fun _ _=>False }
 let c0:J8:={ w0:=e.w,M:=fun _=>False,S0:=eS.S }
 have hos0:A5 T c0 e0 (fun _=>none):=⟨fun _ _ h=>(by cases h),fun _ _ _ _ _ _ h=>(by cases h),fun _ _ _ h=>(by cases h),fun _ _ _ h=>False.elim h,fun b i h=>by have:=s2.slt b i h;rwa [s1] at this,fun _ _ h=>h,fun _ _ h=>.inl h,rfl,rfl,rfl,Nat.le_refl _,fun _ _ _=>rfl,⟨fun _ _ h=>h.elim,fun _ _ _ h=>h.elim,fun _ _ h=>h.elim,fun _ _ h=>h.elim⟩⟩
 have hreps0:T2 T e0 (P9 T ts xs) vals.toList:=(s5.change (e':=e0) (fun a ds q=>⟨q.1,fun j y hj=>by
  obtain ⟨p1,p2⟩:=q.2 j y hj
  rw [s1] at p1
  exact ⟨p1,p2⟩⟩)).reps hts
 refine E8 (hs c0 e0 (fun _=>none) (fun _=>none) _ vals 0 out0 hos0 hout0 (fun _ _=>rfl) (fun _ _ _ h=>h) hreps0) ?_
 rintro x w' ⟨e1,rfl,k1,k2,k3,k4⟩
 obtain ⟨vs,hvs,hx⟩:∃ vs,T2 T e1 (C85 out0.val) vs∧((isT out0.val=true∧x=.tuple vs.toArray)∨(isT out0.val=false∧vs=[x])):=by
  cases hv:out0.val with
  | t l =>
   rw [hv] at k4
   obtain ⟨X,rfl,h2,h3⟩:=k4
   exact ⟨X.toList,B5M (by simpa [C85] using h2) (fun i v x a b=>h3 i v x a (by simpa using b)),.inl ⟨rfl,by simp⟩⟩
  | _=>rw [hv] at k4;exact ⟨[x],.cons k4 .nil,.inr ⟨rfl,rfl⟩⟩
 unfold S9 at hres
 cases hsh1:(Nat.beq rk.length 1 == isT out0.val) with
 | true=>rw [hsh1] at hres;cases hres
 | false =>
 rw [hsh1] at hres
 simp only [cond_false] at hres
 split at hres<;>try (cases hres;done)
 rename_i ys w2 hdl
 cases hcnt:Nat.ble (A6a rk) 1 with
 | false=>rw [hcnt] at hres;cases hres
 | true =>
 rw [hcnt] at hres
 simp only [cond_true] at hres
 obtain ⟨e2,q1,q2,q3,q4,q6,q5⟩:=C88 k1 hdl hvs
 have hRR:=q5 rs hres e.w.heap.size (fun id el v xs nl sh' b o A3 hι=>by
  rcases q2.own id b o (by rw [A3];rfl) hι with h | h
  ·exact h
  ·exact h.elim)
 obtain ⟨eK,ofK,t1,t2,t3,t4,t5,t6⟩:∃ (eK:B4) (ofK:Nat→Option Ob),eK.w=e.w∧A5 T c eK ofK∧e.le eK∧(∀ j,eK.U j→e.U j)∧(sh=true→∀ b i,eS.S b i→eK.S b i)∧put of' (bif sh then A2h of wo else [])=ofK:=by
  cases sh with
  | true =>
   refine ⟨eS,put of' wo,s1,s2,s3,s4,fun _ _ _ h=>h,?_⟩
   have hall:A0B of' wo:=fun p hp=>by
    rw [hro p.1 (List.mem_map.2 ⟨p,hp,rfl⟩)];exact C49 hargs p hp
   show put of' (A2h of wo)=_
   rw [A8y hro,B3T hall]
  | false=>exact ⟨e,of',rfl,hos,B4.le.refl e,fun _ h=>h,fun h=>(by cases h),rfl⟩
 have hsz:eK.w.heap.size=e.w.heap.size:=by rw [t1]
 obtain ⟨g1,g2⟩:=t2.grown (w':=e2.w) (S2:=e2.S) (by rw [hsz];exact q2.size) (fun b hb=>by rw [t1];exact q2.block b (by rw [← hsz];exact hb) (fun h=>h)) (by rw [t1];exact q2.os) (by rw [t1];exact q2.tape) (by rw [t1];exact q2.output) (fun b i h=>q2.slt b i h)
 have hRA:RR T sh (eK.grown e2.w e2.S) e.w.heap.size rk rs vs:=RR.flat (e:=e2) (e':=eK.grown e2.w e2.S) rfl (fun hsh a ds q=>⟨q.1,fun j y hj=>by
   obtain ⟨p1,p2⟩:=q.2 j y hj
   refine ⟨p1,?_⟩
   rcases q2.snew _ _ p2 with h | h | h
   ·exact .inl (t5 hsh _ _ h)
   ·exact .inr ⟨by rw [hsz];exact h,p2⟩
   ·exact h.elim⟩) (fun b i hB hS=>by
   rcases hS with h | h
   ·have:=t2.slt b i h;omega
   ·exact h.2) hRR
 obtain ⟨u0,e',u1,u2,u3,u4,u5⟩:=RR.take (nx:=nx) g1 hRA (D50 hcnt) (fun id h1 h2 hU=>hu id h1 h2 (t4 id hU)) hos.size (fun j b o hj hι=>by
  have:=t2.lt j b o (t2.ok j _ (Option.some_get hj).symm).use hι
  rwa [hsz] at this) (fun a b hG=>by
  have:=t2.g.lt a b hG
  rwa [hsz] at this)
 refine ⟨e',u1.trans q1,?_,t3.trans (g2.trans u3),fun id A3=>(u4 id A3).imp (t4 id) (fun h=>h),?_⟩
 ·show A5 T c e' (put of' ((bif sh then A2h of wo else [])++(U8 T nx rs).2.1))
  rw [H7,t6];exact u2
 ·show C2 T e' (C87 (U8 T nx rs).1) x
  have hlen:(U8 T nx rs).1.length=rk.length:=by rw [C5b,D23 hres]
  rcases hx with ⟨ht,rfl⟩ | ⟨ht,rfl⟩
  ·have hne:(U8 T nx rs).1.length≠1:=by
    rw [hlen];intro h;rw [h,ht] at hsh1;cases hsh1
   have:C87 (U8 T nx rs).1=.t (U8 T nx rs).1:=by
    unfold C87
    split
    ·rename_i a h;rw [h] at hne;exact absurd rfl hne
    ·rfl
   rw [this]
   exact B5N u5 (C5a (nx:=nx))
  ·have h1:=u5.get.1
   obtain ⟨a,ha⟩:∃ a,(U8 T nx rs).1=[a]:=List.length_eq_one_iff.1 (by simpa using h1.symm)
   rw [ha] at u5 ⊢
   cases u5 with
   | cons h _=>exact h
variable {P:Program} {T:TT} {R:Type}
def noC:D7:=fun _ _ _ _ _=>none
theorem B7I:noC.nat:=fun _ _ _ _ _=>rfl
theorem D24 {f:FuncId}:J2 P T f noC.dir:=fun c e of of' args vals nx out _ h=>by cases h
def A3K:List (Nat×D7)→Nat→Option D7
 | [],_=>none
 | (k,s)::r,f=>bif Nat.beq k f then some s else A3K r f
def D5 (P:Program) (T:TT) (tab:List (Nat×D7)):Prop:=∀ f s,(f,s)∈tab→s.nat∧J2 P T f s.dir
theorem B9E:D5 P T []:=fun f s h=>by cases h
theorem D5.cons {tab:List (Nat×D7)} (h:D5 P T tab) {f:Nat} {s:D7} (hn:s.nat) (hs:J2 P T f s.dir):D5 P T ((f,s)::tab):=by
 intro g s' hg
 rcases List.mem_cons.1 hg with hq | hg
 ·cases hq;exact ⟨hn,hs⟩
 ·exact h g s' hg
theorem A2e:∀ {tab:List (Nat×D7)} {f:Nat} {s:D7},A3K tab f=some s→(f,s)∈tab:=by
 intro tab
 induction tab with
 | nil=>intro f s h;cases h
 | cons p r ih =>
  intro f s h
  obtain ⟨k,s'⟩:=p
  simp only [A3K] at h
  cases hk:Nat.beq k f with
  | true =>
   rw [hk] at h;simp only [cond_true,D5X] at h
   have:=D5U hk;subst this;subst h
   exact List.mem_cons_self ..
  | false=>rw [hk] at h;exact List.mem_cons_of_mem _ (ih h)
def F3 (P:Program) (T:TT) (tab:List (Nat×D7)) (fl:Bool) (fu:Nat):Nat→KC
 | 0=>⟨fun f=>match A3K tab f with
  | some s=>s
  | none=>noC,fun _=>noC,fun _=>false⟩
 | d+1=>⟨fun f=>match A3K tab f with
  | some s=>s
  | none=>G7 P T (F3 P T tab fl fu d) (fun _ _=>none) fl fu f,fun id=>A30 T (F3 P T tab fl fu d) fl fu id,B10 P⟩
theorem B2 {tab:List (Nat×D7)} (h:D5 P T tab) {fl:Bool} {fu:Nat}:∀ d,(F3 P T tab fl fu d).nat:=by
 intro d
 induction d with
 | zero =>
  refine ⟨fun f=>?_,fun _=>B7I⟩
  show (match A3K tab f with
   | some s=>s
   | none=>noC).nat
  split
  ·rename_i s hs;exact (h f s (A2e hs)).1
  ·exact B7I
 | succ d ih =>
  refine ⟨fun f=>?_,fun id=>B5K ih⟩
  show (match A3K tab f with
   | some s=>s
   | none=>G7 P T (F3 P T tab fl fu d) (fun _ _=>none) fl fu f).nat
  split
  ·rename_i s hs;exact (h f s (A2e hs)).1
  ·exact B0p ih (fun _=>A7)
theorem B9 (hm:P.follows .mixedOrders=true) (hT:L8 T P) {tab:List (Nat×D7)} (h:D5 P T tab) {fl:Bool} {fu:Nat}:∀ d,X9 P T (F3 P T tab fl fu d).dir:=by
 intro d
 induction d with
 | zero =>
  refine ⟨fun f=>?_,fun id c e of of' args vals nx out b _ hr=>(by cases hr),fun f h=>(by cases h)⟩
  show J2 P T f (match A3K tab f with
   | some s=>s
   | none=>noC).dir
  split
  ·rename_i s hs;exact (h f s (A2e hs)).2
  ·exact D24
 | succ d ih =>
  refine ⟨fun f=>?_,fun id=>?_,fun f h=>B0m h⟩
  ·show J2 P T f (match A3K tab f with
    | some s=>s
    | none=>G7 P T (F3 P T tab fl fu d) (fun _ _=>none) fl fu f).dir
   split
   ·rename_i s hs;exact (h f s (A2e hs)).2
   ·exact B3C hm hT (B2 h d) ih (fun _=>A7) (fun n0 fn code _ _=>A4 code)
  ·show YOK P T id (A30 T (F3 P T tab fl fu d) fl fu id).dir
   rw [A8l (B2 h d)]
   exact B0l hm hT ih
structure H1 (P:Program) (T:TT) (f:Nat) (Lo:Nat→LC):Prop where
 nat:∀ n0,A2c (Lo n0)
 ok:∀ n0 fn code,P.funcs[f]? = some fn→fn.body=some code→L7 P T fn.ntmps n0 (U5 (Lo n0)) code
theorem C7 {f:Nat}:H1 P T f (fun _ _=>none):=⟨fun _=>A7,fun n0 fn code _ _=>A4 code⟩
theorem B3F (hm:P.follows .mixedOrders=true) (hT:L8 T P) {tab:List (Nat×D7)} (h:D5 P T tab) {f d fu:Nat} {Lo:Nat→LC} {sh:Bool} {ts:List Nat} {rk:List RK} {F:FC} (hFn:F.nat) (hts:ts.all (fun t=>(T t).isSome)=true)
  (hL:H1 P T f Lo)
  (hF:∀ xs rs,TV T ts xs→F (List Rs) xs some=some rs→G7 P T (F3 P T tab false fu d) Lo false fu f (List Rs) (P9 T ts xs) (fun _=>none) 0 (fun out=>S9 T sh rk out)=some rs) :
  D5 P T ((f,J9 T sh ts F)::tab) :=
 h.cons (B0s hFn) (B7H (B0p (B2 h d) hL.nat) (B3C hm hT (B2 h d) (B9 hm hT h d) hL.nat hL.ok) hFn hts hF)
variable {P:Program} {T:TT} {R:Type}
def C8 {p q:Type} (B:p→(p→Option R)→(q→Option R)→Option R):Nat→p→(q→Option R)→Option R
 | 0,_,_=>none
 | n+1,x,kx=>B x (fun x'=>C8 B n x' kx) kx
def A3 (n:Nat):Nat:=Classical.choose (⟨n,rfl⟩:∃ m,m=n)
theorem A27 (n:Nat):A3 n=n:=Classical.choose_spec (⟨n,rfl⟩:∃ m,m=n)
abbrev FU:Nat:=4611686018427387904
def A0z (n0:Nat) (ks:List Nat) (M5:Nat) (f:St→(Exit→St→Option R)→Option R):Nat→St→(Exit→St→Option R)→Option R
 | 0,_,_=>none
 | n+1,σ,k=>bif Nat.ble σ.nx M5 then (match σ.norm n0 ks with
  | some σn=>f σn fun ex σ1=>match ex with
   | .normal=>A0z n0 ks M5 f n σ1 k
   | ex=>bif Nat.ble σ1.nx M5 then (match σ1.norm n0 ks with
    | some σ2=>bif Nat.ble σ2.nx M5 then k ex { σ2 with nx:=M5 } else none
    | none=>none) else none
  | none=>none) else none
theorem B3G {n0 M5:Nat} {ks:List Nat} {f:St→(Exit→St→Option R)→Option R} {g:St→Option (Exit×St)} (h:∀ σ k,f σ k=ob2 (g σ) k):∀ (n:Nat) (σ:St) (k:Exit→St→Option R),A0z n0 ks M5 f n σ k=ob2 (W2 n0 ks M5 g n σ) k:=by
 intro n
 induction n with
 | zero=>intro σ k;rfl
 | succ n ih =>
  intro σ k
  simp only [A0z,W2,h]
  cases Nat.ble σ.nx M5
  ·rfl
  ·simp only [cond_true]
   cases σ.norm n0 ks with
   | none=>rfl
   | some σn =>
    simp only
    cases g σn with
    | none=>rfl
    | some p =>
     obtain ⟨ex,σ1⟩:=p
     simp only [ob2]
     cases ex with
     | normal=>exact ih σ1 k
     | _ =>
      simp only
      cases Nat.ble σ1.nx M5
      ·rfl
      ·simp only [cond_true]
       cases σ1.norm n0 ks with
       | none=>rfl
       | some σ2=>simp only;cases Nat.ble σ2.nx M5<;>rfl
def A28 (n0:Nat) (ks:List Nat) (M5:Nat) (K:St→Option R) (kx:Exit→St→Option R):Exit→St→Option R:=fun ex σ1=>match ex with
 | .normal=>bif Nat.ble σ1.nx M5 then (match σ1.norm n0 ks with
  | some σn=>K σn
  | none=>none) else none
 | ex=>bif Nat.ble σ1.nx M5 then (match σ1.norm n0 ks with
  | some σ2=>bif Nat.ble σ2.nx M5 then kx ex { σ2 with nx:=M5 } else none
  | none=>none) else none
theorem C5c {p q:Type} {n0 M5:Nat} {ks:List Nat} {f:St→(Exit→St→Option R)→Option R} (tm:p→St) (B:p→(p→Option R)→(q→Option R)→Option R) (ek:(Exit→St→Option R)→q→Option R)
  (hstep:∀ (x:p) (K:St→Option R) (kx:Exit→St→Option R),f (tm x) (A28 n0 ks M5 K kx)=B x (fun x'=>K (tm x')) (ek kx)) :
  ∀ (n:Nat) (x:p) (σ:St) (k:Exit→St→Option R),σ.norm n0 ks=some (tm x)→Nat.ble σ.nx M5=true→A0z n0 ks M5 f n σ k=C8 B n x (ek k):=by
 intro n
 have key:∀ n (k:Exit→St→Option R),∃ G:St→Option R,(∀ x,G (tm x)=C8 B n x (ek k))∧∀ σ,A0z n0 ks M5 f n σ k=bif Nat.ble σ.nx M5 then (match σ.norm n0 ks with | some σn=>G σn | none=>none) else none:=by
  intro n
  induction n with
  | zero =>
   intro k
   refine ⟨fun _=>none,fun x=>rfl,fun σ=>?_⟩
   simp only [A0z]
   cases Nat.ble σ.nx M5
   ·rfl
   ·simp only [cond_true];cases σ.norm n0 ks<;>rfl
  | succ n ih =>
   intro k
   obtain ⟨G,g1,g2⟩:=ih k
   refine ⟨fun τ=>f τ (A28 n0 ks M5 G k),fun x=>?_,fun σ=>?_⟩
   ·simp only
    rw [hstep x G k,C8]
    congr 1
    funext x'
    exact g1 x'
   ·simp only [A0z]
    have:∀ σn,(f σn fun ex σ1=>match ex with
      | .normal=>A0z n0 ks M5 f n σ1 k
      | ex=>bif Nat.ble σ1.nx M5 then (match σ1.norm n0 ks with
       | some σ2=>bif Nat.ble σ2.nx M5 then k ex { σ2 with nx:=M5 } else none
       | none=>none) else none)=f σn (A28 n0 ks M5 G k):=by
     intro σn
     congr 1
     funext ex σ1
     cases ex with
     | normal=>exact g2 σ1
     | _=>rfl
    cases Nat.ble σ.nx M5
    ·rfl
    ·simp only [cond_true]
     cases σ.norm n0 ks with
     | none=>rfl
     | some σn=>exact this σn
 intro x σ k hn hb
 obtain ⟨G,g1,g2⟩:=key n k
 rw [g2,hb,cond_true,hn]
 exact g1 x
theorem A8n {n0 M5:Nat} {ks:List Nat} {f:St→Option (Exit×St)} {n:Nat} {σ:St} (h:Nat.ble σ.nx M5=false∨σ.norm n0 ks=none):W2 n0 ks M5 f n σ=none:=by
 cases n with
 | zero=>rfl
 | succ n =>
  simp only [W2]
  rcases h with h | h
  ·rw [h];rfl
  ·rw [h];cases Nat.ble σ.nx M5<;>rfl
def G0 {p q:Type} (T:TT) (K:KC) (LoI:LC) (nt:Nat) (b:Code) (n0:Nat) (ks:List Nat) (M5:Nat) (ext:St→Option p) (B:(R:Type)→p→(p→Option R)→(q→Option R)→Option R) (ek:(R:Type)→(Exit→St→Option R)→q→Option R):LS:=fun R of σ k =>
 bif Nat.ble σ.nx M5 then (match σ.norm n0 ks with
  | some τ=>match ext τ with
   | some x=>C8 (B R) (A3 FU) x (ek R k)
   | none=>ob2 (W2 n0 ks M5 (fun σ=>N4 T K.dir (U5 LoI) FU nt of b σ) FU σ) k
  | none=>none) else none
theorem C5d {p q:Type} {K:KC} (hK:K.nat) {LoI:LC} (hLI:A2c LoI) {nt:Nat} {b:Code} {n0:Nat} {ks:List Nat} {M5:Nat} {ext:St→Option p} {B:(R:Type)→p→(p→Option R)→(q→Option R)→Option R} {ek:(R:Type)→(Exit→St→Option R)→q→Option R} (tm:p→St)
  (hext:∀ τ x,ext τ=some x→τ=tm x)
  (hstep:∀ (R:Type) (of:Nat→Option Ob) (x:p) (K':St→Option R) (kx:Exit→St→Option R),P4 T K LoI false FU nt of R b (tm x) (A28 n0 ks M5 K' kx)=B R x (fun x'=>K' (tm x')) (ek R kx))
  (R:Type) (of:Nat→Option Ob) (σ:St) (k:Exit→St→Option R) :
  G0 T K LoI nt b n0 ks M5 ext B ek R of σ k=ob2 (W2 n0 ks M5 (fun σ=>N4 T K.dir (U5 LoI) FU nt of b σ) FU σ) k:=by
 have hun:=B3G (R:=R) (n0:=n0) (M5:=M5) (ks:=ks) (f:=fun σ k=>P4 T K LoI false FU nt of R b σ k) (g:=fun σ=>N4 T K.dir (U5 LoI) FU nt of b σ) (fun σ k=>A1l hK hLI of R b σ k) FU σ k
 unfold G0
 cases hb:Nat.ble σ.nx M5 with
 | false =>
  simp only [cond_false]
  rw [A8n (.inl hb)];rfl
 | true =>
  simp only [cond_true]
  cases hn:σ.norm n0 ks with
  | none =>
   rw [A8n (.inr hn)];rfl
  | some τ =>
   simp only
   cases hx:ext τ with
   | none=>rfl
   | some x =>
    simp only
    rw [A27,← hun]
    exact (C5c tm (B R) (ek R) (hstep R of) FU x σ k (by rw [hn,hext τ x hx]) hb).symm
def T0 {p:Type} (ext:St→Option p) (tm:p→St):Prop:=∀ τ x,ext τ=some x→τ=tm x
def J0 {p q:Type} (T:TT) (K:KC) (LoI:LC) (nt:Nat) (b:Code) (n0:Nat) (ks:List Nat) (M5:Nat) (tm:p→St) (B:(R:Type)→p→(p→Option R)→(q→Option R)→Option R) (ek:(R:Type)→(Exit→St→Option R)→q→Option R):Prop :=
 ∀ (R:Type) (of:Nat→Option Ob) (x:p) (K':St→Option R) (kx:Exit→St→Option R),P4 T K LoI false FU nt of R b (tm x) (A28 n0 ks M5 K' kx)=B R x (fun x'=>K' (tm x')) (ek R kx)
def D1 (P:Program) (T:TT) (nt n0:Nat) (b:Code) (s:LS):Prop:=s.nat∧∀ of σ ex σ',s.dir of σ=some (ex,σ')→A4I P T nt n0 of (.loop b) σ ex σ'
theorem B7 (hm:P.follows .mixedOrders=true) (hT:L8 T P) {p q:Type} {K:KC} (hK:K.nat) (hS:X9 P T K.dir) {LoI:LC} (hLI:A2c LoI) {nt:Nat} {b:Code} {n0:Nat} (hO:L7 P T nt n0 (U5 LoI) b) {ks:List Nat} {M5:Nat} {ext:St→Option p} {B:(R:Type)→p→(p→Option R)→(q→Option R)→Option R} {ek:(R:Type)→(Exit→St→Option R)→q→Option R} (tm:p→St)
  (hext:∀ τ x,ext τ=some x→τ=tm x)
  (hstep:∀ (R:Type) (of:Nat→Option Ob) (x:p) (K':St→Option R) (kx:Exit→St→Option R),P4 T K LoI false FU nt of R b (tm x) (A28 n0 ks M5 K' kx)=B R x (fun x'=>K' (tm x')) (ek R kx)) :
  D1 P T nt n0 b (G0 T K LoI nt b n0 ks M5 ext B ek):=by
 have heq:=C5d (M5:=M5) (ks:=ks) (n0:=n0) hK hLI tm hext hstep
 refine ⟨fun R of σ k=>?_,fun of σ ex σ' h=>?_⟩
 ·rw [heq R,heq (Exit×St)]
  cases W2 n0 ks M5 (fun σ=>N4 T K.dir (U5 LoI) FU nt of b σ) FU σ<;>rfl
 ·unfold LS.dir at h
  rw [heq] at h
  have h':W2 n0 ks M5 (fun σ=>N4 T K.dir (U5 LoI) FU nt of b σ) FU σ=some (ex,σ'):=by
   cases hq:W2 n0 ks M5 (fun σ=>N4 T K.dir (U5 LoI) FU nt of b σ) FU σ with
   | none=>rw [hq] at h;cases h
   | some p=>rw [hq] at h;exact h
  exact A8P (fun σ ex σ' h=>A0T hm hT hS b hO σ ex σ' h) h'
def N0:Code→List Code
 | .seq x y=>N0 x++N0 y
 | .cond _ x y=>N0 x++N0 y
 | .block _ b=>N0 b
 | .loop b=>b::N0 b
 | _=>[]
def A5v:Code→Nat
 | .region id _ _=>id
 | .seq x _=>A5v x
 | .cond _ x _=>A5v x
 | .block _ b=>A5v b
 | .loop b=>A5v b
 | _=>0
def lp (c:Code) (i:Nat):Code:=(N0 c).getD i .skip
def B3H:List (Nat×LS)→Nat→Option LS
 | [],_=>none
 | (k,s)::r,i=>bif Nat.beq k i then some s else B3H r i
def loT (l:List (Nat×LS)):LC:=fun b=>B3H l (A5v b)
theorem B0t:∀ {l:List (Nat×LS)} {i:Nat} {s:LS},B3H l i=some s→∃ k,(k,s)∈l:=by
 intro l
 induction l with
 | nil=>intro i s h;cases h
 | cons p r ih =>
  intro i s h
  obtain ⟨k,s'⟩:=p
  simp only [B3H] at h
  cases hk:Nat.beq k i with
  | true=>rw [hk] at h;simp only [cond_true,D5X] at h;subst h;exact ⟨k,List.mem_cons_self ..⟩
  | false=>rw [hk] at h;obtain ⟨j,hj⟩:=ih h;exact ⟨j,List.mem_cons_of_mem _ hj⟩
theorem A2A {l:List (Nat×LS)} (h:∀ p∈l,LS.nat p.2):A2c (loT l):=fun b s hs=>by
 obtain ⟨k,hk⟩:=B0t hs
 exact h _ hk
theorem B5O {Lo:A3B} {nt n0:Nat}:∀ c:Code,(∀ b∈N0 c,∀ s,Lo b=some s→∀ of σ ex σ',s of σ=some (ex,σ')→A4I P T nt n0 of (.loop b) σ ex σ')→L7 P T nt n0 Lo c:=by
 intro c
 induction c with
 | seq x y ihx ihy=>intro h;exact ⟨ihx (fun b hb=>h b (by simp [N0,hb])),ihy (fun b hb=>h b (by simp [N0,hb]))⟩
 | cond q x y ihx ihy=>intro h;exact ⟨ihx (fun b hb=>h b (by simp [N0,hb])),ihy (fun b hb=>h b (by simp [N0,hb]))⟩
 | block id b ih=>intro h;exact ih (fun b hb=>h b (by simpa [N0] using hb))
 | loop b ih=>intro h;exact ⟨h b (by simp [N0]),ih (fun b' hb=>h b' (by simp [N0,hb]))⟩
 | _=>intro _;trivial
def C5e (P:Program) (T:TT) (Lo:LC) (nt n0:Nat) (c:Code):Nat→Prop
 | 0=>True
 | n+1=>C5e P T Lo nt n0 c n∧∀ s,Lo (lp c n)=some s→D1 P T nt n0 (lp c n) s
theorem Z8 {Lo:LC} {nt n0:Nat} {c:Code} {i:Nat} {s0:LS} (h0:Lo (lp c i)=some s0) (h:D1 P T nt n0 (lp c i) s0):∀ s,Lo (lp c i)=some s→D1 P T nt n0 (lp c i) s:=by
 intro s hs;rw [h0] at hs;cases hs;exact h
theorem loN {Lo:LC} {nt n0:Nat} {c:Code} {i:Nat} (h0:Lo (lp c i)=none):∀ s,Lo (lp c i)=some s→D1 P T nt n0 (lp c i) s:=by
 intro s hs;rw [h0] at hs;cases hs
theorem V8 {Lo:LC} {nt n0:Nat} {c:Code} (n:Nat) (hn:Nat.beq (N0 c).length n=true) (h:C5e P T Lo nt n0 c n):L7 P T nt n0 (U5 Lo) c:=by
 have hn:=D5U hn
 have key:∀ n,C5e P T Lo nt n0 c n→∀ i,i < n→∀ s,Lo (lp c i)=some s→D1 P T nt n0 (lp c i) s:=by
  intro n
  induction n with
  | zero=>intro _ i hi;omega
  | succ n ih =>
   intro h i hi
   by_cases hin:i=n
   ·subst hin;exact h.2
   ·exact ih h.1 i (by omega)
 refine B5O c (fun b hb s hs=>?_)
 obtain ⟨i,hi,rfl⟩:=List.mem_iff_getElem.1 hb
 have e:lp c i=(N0 c)[i]:=by unfold lp;simp [List.getD,hi]
 rw [← e] at hs ⊢
 unfold U5 at hs
 cases hq:Lo (lp c i) with
 | none=>rw [hq] at hs;cases hs
 | some s0 =>
  rw [hq] at hs
  injection hs with hs;subst hs
  exact (key n h i (by omega) s0 hq).2
def H2 (P:Program) (f:Nat):Code :=
 match P.funcs[f]? with
 | some fn=>match fn.body with
  | some c=>c
  | none=>.skip
 | none=>.skip
def A6b (P:Program) (f:Nat):Nat :=
 match P.funcs[f]? with
 | some fn=>fn.ntmps
 | none=>0
def atN (n0:Nat) (l:List (Nat×LS)):Nat→LC:=fun n=>bif Nat.beq n n0 then loT l else fun _=>none
theorem G1 {f:Nat} (n0:Nat) {l:List (Nat×LS)} (hn:∀ p∈l,LS.nat p.2) (n:Nat) (hl:Nat.beq (N0 (H2 P f)).length n=true) (h:C5e P T (loT l) (A6b P f) n0 (H2 P f) n):H1 P T f (atN n0 l):=by
 refine ⟨fun m=>?_,fun m fn code h1 h2=>?_⟩
 ·unfold atN
  cases Nat.beq m n0
  ·exact A7
  ·exact A2A hn
 ·unfold atN
  cases hm:Nat.beq m n0 with
  | false=>exact A4 code
  | true =>
   have:=D5U hm;subst this
   simp only [cond_true]
   have:=V8 n hl h
   simpa only [H2,A6b,h1,h2] using this
abbrev R3:Nat:=4294967296
def A3D (x n:Nat):Nat:=(x >>> n) ||| ((x <<< (32 - n)) % R3)
def sS0 (x:Nat):Nat:=(A3D x 7 ^^^ A3D x 18) ^^^ (x >>> 3)
def sS1 (x:Nat):Nat:=(A3D x 17 ^^^ A3D x 19) ^^^ (x >>> 10)
def bS0 (x:Nat):Nat:=(A3D x 2 ^^^ A3D x 13) ^^^ A3D x 22
def bS1 (x:Nat):Nat:=(A3D x 6 ^^^ A3D x 11) ^^^ A3D x 25
def chN (x y z:Nat):Nat:=(x &&& y) ^^^ ((4294967295 - x) &&& z)
def B5P (x y z:Nat):Nat:=((x &&& y) ^^^ (x &&& z)) ^^^ (y &&& z)
def A4L (l:List Nat):Nat:=(l.getD 15 0+sS0 (l.getD 14 0)+l.getD 6 0+sS1 (l.getD 1 0)) % R3
def A2B:Nat→List Nat→List Nat
 | 0,l=>l
 | n+1,l=>A2O (A4L l) fun x=>A2B n (x::l)
structure S8 where
 a:Nat
 b:Nat
 c:Nat
 d:Nat
 e:Nat
 f:Nat
 g:Nat
 h:Nat
def B5Q (s:S8) (k w:Nat):S8 :=
 A2O (s.h+bS1 s.e+chN s.e s.f s.g+k+w) fun t=>A2O ((t+(bS0 s.a+B5P s.a s.b s.c)) % R3) fun a=>A2O ((s.d+t) % R3) fun e=>⟨a,s.a,s.b,s.c,e,s.e,s.f,s.g⟩
def B0u:List Nat→List Nat→S8→S8
 | k::ks,w::ws,s=>B0u ks ws (B5Q s k w)
 | _,_,s=>s
def B5R (s x:S8):S8 :=
 A2O ((s.a+x.a) % R3) fun a=>A2O ((s.b+x.b) % R3) fun b=>A2O ((s.c+x.c) % R3) fun c=>A2O ((s.d+x.d) % R3) fun d=>A2O ((s.e+x.e) % R3) fun e=>A2O ((s.f+x.f) % R3) fun f=>A2O ((s.g+x.g) % R3) fun g=>A2O ((s.h+x.h) % R3) fun h=>⟨a,b,c,d,e,f,g,h⟩
def B0v:List Nat:=[0x428a2f98,0x71374491,0xb5c0fbcf,0xe9b5dba5,0x3956c25b,0x59f111f1,0x923f82a4,0xab1c5ed5,
 0xd807aa98,0x12835b01,0x243185be,0x550c7dc3,0x72be5d74,0x80deb1fe,0x9bdc06a7,0xc19bf174,
 0xe49b69c1,0xefbe4786,0x0fc19dc6,0x240ca1cc,0x2de92c6f,0x4a7484aa,0x5cb0a9dc,0x76f988da,
 0x983e5152,0xa831c66d,0xb00327c8,0xbf597fc7,0xc6e00bf3,0xd5a79147,0x06ca6351,0x14292967,
 0x27b70a85,0x2e1b2138,0x4d2c6dfc,0x53380d13,0x650a7354,0x766a0abb,0x81c2c92e,0x92722c85,
 0xa2bfe8a1,0xa81a664b,0xc24b8b70,0xc76c51a3,0xd192e819,0xd6990624,0xf40e3585,0x106aa070,
 0x19a4c116,0x1e376c08,0x2748774c,0x34b0bcb5,0x391c0cb3,0x4ed8aa4a,0x5b9cca4f,0x682e6ff3,
 0x748f82ee,0x78a5636f,0x84c87814,0x8cc70208,0x90befffa,0xa4506ceb,0xbef9a3f7,0xc67178f2]
def N5:Nat→List Nat→List Nat→List Nat
 | n+1,b0::b1::b2::b3::r,acc=>A2O (((b0 * 256+b1) * 256+b2) * 256+b3) fun w=>N5 n r (w::acc)
 | _,_,acc=>acc
def A29 (s:S8) (bs:List Nat):S8:=B5R s (B0u B0v (A2B 48 (N5 16 bs [])).reverse s)
def s0N:S8:=⟨0x6a09e667,0xbb67ae85,0x3c6ef372,0xa54ff53a,0x510e527f,0x9b05688c,0x1f83d9ab,0x5be0cd19⟩
def be4 (n:Nat):List Nat:=[n / 16777216 % 256,n / 65536 % 256,n / 256 % 256,n % 256]
def D25 (s:S8):List Nat:=be4 s.a++(be4 s.b++(be4 s.c++(be4 s.d++(be4 s.e++(be4 s.f++(be4 s.g++be4 s.h))))))
def L0:Nat→S8→List Nat→S8
 | 0,s,_=>s
 | n+1,s,l=>match l with
  | []=>s
  | l=>L0 n (A29 s (l.take 64)) (l.drop 64)
def M4 (n:Nat):List Nat:=128::(List.replicate ((119 - n % 64) % 64) 0++[8 * n / 2 ^ 56 % 256,8 * n / 2 ^ 48 % 256,8 * n / 2 ^ 40 % 256,8 * n / 2 ^ 32 % 256,8 * n / 2 ^ 24 % 256,8 * n / 2 ^ 16 % 256,8 * n / 2 ^ 8 % 256,8 * n % 256])
def A3E (l:List Nat):List Nat:=D25 (L0 (l.length / 64+2) s0N (l++M4 l.length))
example:A3E [97,98,99]=[0xba,0x78,0x16,0xbf,0x8f,0x01,0xcf,0xea,0x41,0x41,0x40,0xde,0x5d,0xae,0x22,0x23,0xb0,0x03,0x61,0xa3,0x96,0x17,0x7a,0x9c,0xb4,0x10,0xff,0x61,0xf2,0x00,0x15,0xad]:=by kernel_rfl
variable {T:TT} {R:Type}
abbrev ck {R:Type} (i:Int) (n:Nat) (k:Option R):Option R:=bif F2 0 i&&D4 i n then k else none
abbrev B3 (n:Int):Int:=IntKind.wrap .i64 n
abbrev W32 (n:Int):Int:=IntKind.wrap .u32 n
abbrev WU (n:Int):Int:=IntKind.wrap .u64 n
def elV (w:V) (i:Int):Int:=(w.nth i.toNat).int
def nv (n:Nat):V:=.i (n:Int)
theorem A5w (n:Nat):W32 (n:Int)=((n % 4294967296:Nat):Int):=by
 unfold W32 IntKind.wrap
 simp [IntKind.bits,IntKind.signed]
theorem D26 (n:Nat):WU (n:Int)=((n % 18446744073709551616:Nat):Int):=by
 unfold WU IntKind.wrap
 simp [IntKind.bits,IntKind.signed]
theorem A2C {n:Nat} (h:n < 4294967296):W32 (n:Int)=(n:Int):=by rw [A5w,Nat.mod_eq_of_lt h]
theorem C4 {n:Nat} (h:n < 18446744073709551616):WU (n:Int)=(n:Int):=by rw [D26,Nat.mod_eq_of_lt h]
theorem G8 {n:Int} (h1 : -9223372036854775808≤n) (h2:n≤9223372036854775807):B3 n=n:=by
 show (if (true&&decide (n % 2 ^ 64 ≥ 2 ^ (64 - 1)))=true then n % 2 ^ 64 - 2 ^ 64 else n % 2 ^ 64)=n
 by_cases h:n % 2 ^ 64 ≥ 2 ^ (64 - 1)
 ·rw [if_pos (by simpa using h)];omega
 ·rw [if_neg (by simpa using h)];omega
theorem H0 {i:Int} {n:Nat} {k:Option R} (h1:0≤i) (h2:i < n):ck i n k=k:=by
 unfold ck
 rw [D3.2 h1,show D4 i n=true by simp [D4,h2]]
 rfl
theorem Q4 (w a:Nat):BitVec.ofInt w (a:Int)=BitVec.ofNat w a:=BitVec.ofInt_natCast w a
theorem B5S {a b:Nat} (ha:a < 4294967296) (hb:b < 4294967296):H6 .and .u32 (a:Int) (b:Int)=((a &&& b:Nat):Int):=by
 have hl:a &&& b < 4294967296:=Nat.lt_of_le_of_lt Nat.and_le_left ha
 show IntKind.wrap .u32 (((BitVec.ofInt 32 (a:Int) &&& BitVec.ofInt 32 (b:Int)).toNat:Nat):Int)=_
 rw [Q4,Q4,BitVec.toNat_and,BitVec.toNat_ofNat,BitVec.toNat_ofNat]
 rw [Nat.mod_eq_of_lt (by simpa using ha),Nat.mod_eq_of_lt (by simpa using hb)]
 exact A2C hl
theorem A3r {a b:Nat} (ha:a < 4294967296) (hb:b < 4294967296):H6 .or .u32 (a:Int) (b:Int)=((a ||| b:Nat):Int):=by
 have hl:a ||| b < 4294967296:=Nat.or_lt_two_pow (n:=32) ha hb
 show IntKind.wrap .u32 (((BitVec.ofInt 32 (a:Int) ||| BitVec.ofInt 32 (b:Int)).toNat:Nat):Int)=_
 rw [Q4,Q4,BitVec.toNat_or,BitVec.toNat_ofNat,BitVec.toNat_ofNat]
 rw [Nat.mod_eq_of_lt (by simpa using ha),Nat.mod_eq_of_lt (by simpa using hb)]
 exact A2C hl
theorem A8o {a b:Nat} (ha:a < 4294967296) (hb:b < 4294967296):H6 .xor .u32 (a:Int) (b:Int)=((a ^^^ b:Nat):Int):=by
 have hl:a ^^^ b < 4294967296:=Nat.xor_lt_two_pow (n:=32) ha hb
 show IntKind.wrap .u32 (((BitVec.ofInt 32 (a:Int) ^^^ BitVec.ofInt 32 (b:Int)).toNat:Nat):Int)=_
 rw [Q4,Q4,BitVec.toNat_xor,BitVec.toNat_ofNat,BitVec.toNat_ofNat]
 rw [Nat.mod_eq_of_lt (by simpa using ha),Nat.mod_eq_of_lt (by simpa using hb)]
 exact A2C hl
theorem A8p {a b:Nat} (ha:a < 18446744073709551616) (hb:b < 18446744073709551616):H6 .and .u64 (a:Int) (b:Int)=((a &&& b:Nat):Int):=by
 have hl:a &&& b < 18446744073709551616:=Nat.lt_of_le_of_lt Nat.and_le_left ha
 show IntKind.wrap .u64 (((BitVec.ofInt 64 (a:Int) &&& BitVec.ofInt 64 (b:Int)).toNat:Nat):Int)=_
 rw [Q4,Q4,BitVec.toNat_and,BitVec.toNat_ofNat,BitVec.toNat_ofNat]
 rw [Nat.mod_eq_of_lt (by simpa using ha),Nat.mod_eq_of_lt (by simpa using hb)]
 exact C4 hl
theorem B9F {a b:Nat} (ha:a < 18446744073709551616) (hb:b < 18446744073709551616):H6 .or .u64 (a:Int) (b:Int)=((a ||| b:Nat):Int):=by
 have hl:a ||| b < 18446744073709551616:=Nat.or_lt_two_pow (n:=64) ha hb
 show IntKind.wrap .u64 (((BitVec.ofInt 64 (a:Int) ||| BitVec.ofInt 64 (b:Int)).toNat:Nat):Int)=_
 rw [Q4,Q4,BitVec.toNat_or,BitVec.toNat_ofNat,BitVec.toNat_ofNat]
 rw [Nat.mod_eq_of_lt (by simpa using ha),Nat.mod_eq_of_lt (by simpa using hb)]
 exact C4 hl
theorem A2D {a b:Nat} (ha:a < 18446744073709551616) (hb:b < 18446744073709551616):H6 .xor .u64 (a:Int) (b:Int)=((a ^^^ b:Nat):Int):=by
 have hl:a ^^^ b < 18446744073709551616:=Nat.xor_lt_two_pow (n:=64) ha hb
 show IntKind.wrap .u64 (((BitVec.ofInt 64 (a:Int) ^^^ BitVec.ofInt 64 (b:Int)).toNat:Nat):Int)=_
 rw [Q4,Q4,BitVec.toNat_xor,BitVec.toNat_ofNat,BitVec.toNat_ofNat]
 rw [Nat.mod_eq_of_lt (by simpa using ha),Nat.mod_eq_of_lt (by simpa using hb)]
 exact C4 hl
theorem C5f (a b:Nat):(a:Int).fdiv (b:Int)=((a / b:Nat):Int):=by
 cases a with
 | zero=>simp
 | succ a=>cases b with
  | zero=>simp
  | succ b=>rfl
theorem A0A (a n:Nat):(a:Int).fdiv (2 ^ n)=((a >>> n:Nat):Int):=by
 rw [show ((2:Int) ^ n)=((2 ^ n:Nat):Int) by push_cast;rfl,C5f,Nat.shiftRight_eq_div_pow]
theorem A4M (a n:Nat):(a:Int) * 2 ^ n=((a <<< n:Nat):Int):=by
 rw [Nat.shiftLeft_eq];push_cast;rfl
def xor (a b:Int):Int:=H6 .xor .u32 a b
def and (a b:Int):Int:=H6 .and .u32 a b
def rot (x:Int) (n:Nat):Int:=H6 .or .u32 (W32 (x * 2 ^ (32 - n))) (x.fdiv (2 ^ n))
def sg0 (x:Int):Int:=xor (xor (rot x 7) (rot x 18)) (x.fdiv (2 ^ 3))
def sg1 (x:Int):Int:=xor (xor (rot x 17) (rot x 19)) (x.fdiv (2 ^ 10))
theorem A1K {a n:Nat} (h:a < R3):a >>> n < R3:=by
 rw [Nat.shiftRight_eq_div_pow];exact Nat.lt_of_le_of_lt (Nat.div_le_self _ _) h
theorem C6 {a n:Nat} (h:a < R3):A3D a n < R3:=by
 unfold A3D
 exact Nat.or_lt_two_pow (n:=32) (A1K h) (Nat.mod_lt _ (show 0 < R3 by decide))
theorem A1L {a n:Nat} (h:a < R3):rot (a:Int) n=((A3D a n:Nat):Int):=by
 unfold rot A3D
 have hm:(a <<< (32 - n)) % 4294967296 < 4294967296:=Nat.mod_lt _ (by decide)
 rw [A4M,A0A,A5w,A3r hm (A1K h),Nat.or_comm]
theorem A1m {a b:Nat} (ha:a < R3) (hb:b < R3):xor (a:Int) (b:Int)=((a ^^^ b:Nat):Int):=A8o ha hb
theorem A8q {a b:Nat} (ha:a < R3) (hb:b < R3):and (a:Int) (b:Int)=((a &&& b:Nat):Int):=B5S ha hb
theorem R5 {a b:Nat} (ha:a < R3) (hb:b < R3):a ^^^ b < R3:=Nat.xor_lt_two_pow (n:=32) ha hb
theorem T3 {a b:Nat} (ha:a < R3):a &&& b < R3:=Nat.lt_of_le_of_lt Nat.and_le_left ha
theorem D27 {a:Nat} (h:a < R3):sg0 (a:Int)=((sS0 a:Nat):Int):=by
 unfold sg0 sS0
 rw [A1L h,A1L h,A0A,A1m (C6 h) (C6 h),A1m (R5 (C6 h) (C6 h)) (A1K h)]
theorem D28 {a:Nat} (h:a < R3):sg1 (a:Int)=((sS1 a:Nat):Int):=by
 unfold sg1 sS1
 rw [A1L h,A1L h,A0A,A1m (C6 h) (C6 h),A1m (R5 (C6 h) (C6 h)) (A1K h)]
theorem D29 {a:Nat} (h:a < R3):sS0 a < R3:=R5 (R5 (C6 h) (C6 h)) (A1K h)
theorem D3a {a:Nat} (h:a < R3):sS1 a < R3:=R5 (R5 (C6 h) (C6 h)) (A1K h)
theorem D3b {a:Nat} (h:a < R3):bS0 a < R3:=R5 (R5 (C6 h) (C6 h)) (C6 h)
theorem D3c {a:Nat} (h:a < R3):bS1 a < R3:=R5 (R5 (C6 h) (C6 h)) (C6 h)
theorem C89 {a:Nat} (h:a < R3):4294967295 ^^^ a=4294967295 - a:=by
 have:(4294967295:Nat)=2 ^ 32 - 1:=by decide
 have h2:=Nat.testBit_two_pow_sub_succ (n:=32) (x:=a) (by simpa using h)
 apply Nat.eq_of_testBit_eq
 intro i
 rw [Nat.testBit_xor,show 4294967295 - a=2 ^ 32 - (a+1) by omega,h2]
 rw [this,Nat.testBit_two_pow_sub_one]
 by_cases hi:i < 32
 ·simp [hi]
 ·have:a.testBit i=false:=Nat.testBit_lt_two_pow (Nat.lt_of_lt_of_le (show a < 2 ^ 32 from h) (Nat.pow_le_pow_right (show 2 > 0 by decide) (show 32≤i by omega)))
  simp [hi,this]
def byt (x:V) (i:Int):Int:=W32 (x.nth i.toNat).int
def C5g (x:V) (i:Int):Int:=H6 .or .u32 (H6 .or .u32 (H6 .or .u32 (W32 (byt x (B3 (4 * i)) * 2 ^ 24)) (W32 (byt x (B3 (B3 (4 * i)+1)) * 2 ^ 16))) (W32 (byt x (B3 (B3 (4 * i)+2)) * 2 ^ 8))) (byt x (B3 (B3 (4 * i)+3)))
def e8 (x:V) (i:Nat):Int:=(x.nth i).int
def D4w (x:V) (k w:Int):V :=
 let a:=e8 x 0
 let e:=e8 x 4
 let t:=W32 (W32 (W32 (W32 (e8 x 7+xor (xor (rot e 6) (rot e 11)) (rot e 25))+xor (and e (e8 x 5)) (and (H6 .xor .u32 4294967295 e) (e8 x 6)))+k)+w)
 let u:=W32 (xor (xor (rot a 2) (rot a 13)) (rot a 22)+xor (xor (and a (e8 x 1)) (and a (e8 x 2))) (and (e8 x 1) (e8 x 2)))
 .l [.i (W32 (t+u)),.i a,.i (e8 x 1),.i (e8 x 2),.i (W32 (e8 x 3+t)),.i e,.i (e8 x 5),.i (e8 x 6)]
inductive C9a where
 | m (x:V) (z:V) (i:Int) (w:V)
inductive D3d where
 | o (x:V) (z:V) (i:Int) (w:V)
def C5h (R:Type) (p:C9a) (K:C9a→Option R) (kx:D3d→Option R):Option R :=
 match p with
 | .m x z i w =>
  bif D4 i 16 then
   ck (B3 (4 * i)) x.els.length <| ck (B3 (B3 (4 * i)+1)) x.els.length <| ck (B3 (B3 (4 * i)+2)) x.els.length <| ck (B3 (B3 (4 * i)+3)) x.els.length <|
   ck i 64 <| K (.m x z (B3 (i+1)) (w.put i.toNat (.i (C5g x i))))
  else kx (.o x z i w)
inductive C9b where
 | m (z:V) (i:Int) (w:V)
inductive D3e where
 | o (z:V) (i:Int) (w:V)
def B9G (R:Type) (p:C9b) (K:C9b→Option R) (kx:D3e→Option R):Option R :=
 match p with
 | .m z i w =>
  bif D4 i 64 then
   ck (B3 (i - 15)) 64 <| ck (B3 (i - 2)) 64 <| ck (B3 (i - 16)) 64 <| ck (B3 (i - 7)) 64 <| ck i 64 <|
   K (.m z (B3 (i+1)) (w.put i.toNat (.i (W32 (W32 (W32 (elV w (B3 (i - 16))+elV w (B3 (i - 7)))+sg0 (elV w (B3 (i - 15))))+sg1 (elV w (B3 (i - 2))))))))
  else kx (.o z i w)
inductive C9c where
 | m (s:V) (z:V) (w:V) (k:V) (x:V) (i:Int)
inductive D3f where
 | o (s:V) (z:V) (w:V) (k:V) (x:V) (i:Int)
def C5i (R:Type) (p:C9c) (K:C9c→Option R) (kx:D3f→Option R):Option R :=
 match p with
 | .m s z w k x i =>
  bif D4 i 64 then ck i 64 <| ck i 64 <| K (.m s z w k (D4w x (elV k i) (elV w i)) (B3 (i+1))) else kx (.o s z w k x i)
inductive C9d where
 | m (s:V) (z:V) (x:V) (i:Int)
inductive D3g where
 | o (s:V) (z:V) (x:V) (i:Int)
def B5T (R:Type) (p:C9d) (K:C9d→Option R) (kx:D3g→Option R):Option R :=
 match p with
 | .m s z x i =>
  bif D4 i 8 then ck i 8 <| ck i 8 <| ck i 8 <| K (.m (s.put i.toNat (.i (W32 (elV s i+elV x i)))) z x (B3 (i+1))) else kx (.o s z x i)
theorem D3h {x:V} {bs:List Nat} (hx:x.els=bs.map nv) {k b:Nat} (h:bs[k]? = some b):(x.nth k).int=(b:Int):=by
 unfold V.nth
 rw [hx,List.getD,List.getElem?_map,h]
 rfl
theorem B5U {a b i:Nat} (h:b < 2 ^ i):(a <<< i) ||| b=a * 2 ^ i+b:=by
 rw [← Nat.shiftLeft_add_eq_or_of_lt h,Nat.shiftLeft_eq]
theorem C9e {b0 b1 b2 b3:Nat} (h0:b0 < 256) (h1:b1 < 256) (h2:b2 < 256) (h3:b3 < 256):(((b0 <<< 24) ||| (b1 <<< 16)) ||| (b2 <<< 8)) ||| b3=((b0 * 256+b1) * 256+b2) * 256+b3:=by
 have e1:(b0 <<< 24) ||| (b1 <<< 16)=(b0 * 256+b1) <<< 16:=by
  rw [B5U (by rw [Nat.shiftLeft_eq];omega),Nat.shiftLeft_eq,Nat.shiftLeft_eq];omega
 have e2:((b0 * 256+b1) <<< 16) ||| (b2 <<< 8)=((b0 * 256+b1) * 256+b2) <<< 8:=by
  rw [B5U (by rw [Nat.shiftLeft_eq];omega),Nat.shiftLeft_eq,Nat.shiftLeft_eq];omega
 rw [e1,e2,B5U (by omega)]
theorem B12 {x:V} {bs:List Nat} (hx:x.els=bs.map nv) (hb:∀ b∈bs,b < 256) {k b:Nat} (h:bs[k]? = some b):byt x (k:Int)=(b:Int):=by
 have:=hb b (List.mem_of_getElem? h)
 unfold byt
 rw [show ((k:Int)).toNat=k from rfl,D3h hx h,A2C (by omega)]
theorem C5j {x:V} {bs:List Nat} (hx:x.els=bs.map nv) (hb:∀ b∈bs,b < 256) {j b0 b1 b2 b3:Nat} (hj:j < 1000) (h0:bs[4 * j]? = some b0) (h1:bs[4 * j+1]? = some b1) (h2:bs[4 * j+2]? = some b2) (h3:bs[4 * j+3]? = some b3) :
  C5g x (j:Int)=(((((b0 * 256+b1) * 256+b2) * 256+b3:Nat)):Int):=by
 have l0:=hb b0 (List.mem_of_getElem? h0)
 have l1:=hb b1 (List.mem_of_getElem? h1)
 have l2:=hb b2 (List.mem_of_getElem? h2)
 have l3:=hb b3 (List.mem_of_getElem? h3)
 have w0:B3 (4 * (j:Int))=((4 * j:Nat):Int):=by rw [G8 (by omega) (by omega)];push_cast;rfl
 have w1:B3 (B3 (4 * (j:Int))+1)=((4 * j+1:Nat):Int):=by rw [w0,G8 (by omega) (by omega)];push_cast;rfl
 have w2:B3 (B3 (4 * (j:Int))+2)=((4 * j+2:Nat):Int):=by rw [w0,G8 (by omega) (by omega)];push_cast;rfl
 have w3:B3 (B3 (4 * (j:Int))+3)=((4 * j+3:Nat):Int):=by rw [w0,G8 (by omega) (by omega)];push_cast;rfl
 unfold C5g
 rw [w1,w2,w3,w0,B12 hx hb h0,B12 hx hb h1,B12 hx hb h2,B12 hx hb h3,A4M,A4M,A4M,← C9e l0 l1 l2 l3]
 have s0:b0 <<< 24 < 4294967296:=by rw [Nat.shiftLeft_eq];omega
 have s1:b1 <<< 16 < 4294967296:=by rw [Nat.shiftLeft_eq];omega
 have s2:b2 <<< 8 < 4294967296:=by rw [Nat.shiftLeft_eq];omega
 have o1:=Nat.or_lt_two_pow (n:=32) s0 s1
 have o2:=Nat.or_lt_two_pow (n:=32) o1 s2
 rw [A2C s0,A2C s1,A2C s2,A3r s0 s1,A3r o1 s2,A3r o2 (by omega)]
theorem A8r {l:List V} {m:Nat} {z y:V}:(V.l (l++List.replicate (m+1) z)).put l.length y=.l ((l++[y])++List.replicate m z):=by
 unfold V.put
 simp only [V.els]
 rw [List.set_append_right _ _ (Nat.le_refl _),Nat.sub_self,List.replicate_succ,List.set_cons_zero,List.append_assoc,List.singleton_append]
theorem D4x {bs:List Nat} {k:Nat} (h:k+4≤bs.length):∃ b0 b1 b2 b3,bs[k]? = some b0∧bs[k+1]? = some b1∧bs[k+2]? = some b2∧bs[k+3]? = some b3∧bs.drop k=b0::b1::b2::b3::bs.drop (k+4):=by
 refine ⟨bs[k],bs[k+1],bs[k+2],bs[k+3],by simp,by simp,by simp,by simp,?_⟩
 rw [List.drop_eq_getElem_cons (by omega),List.drop_eq_getElem_cons (by omega),List.drop_eq_getElem_cons (by omega),List.drop_eq_getElem_cons (by omega)]
theorem D4y {R:Type} {x z:V} {bs:List Nat} (hx:x.els=bs.map nv) (hb:∀ b∈bs,b < 256) (hl:64≤bs.length):∀ (m j n:Nat) (l:List Nat) (k:D3d→Option R),j+m=16→l.length=j→m < n →
  C8 (C5h R) n (.m x z (j:Int) (.l (l.reverse.map nv++List.replicate (48+m) (.i 0)))) k=k (.o x z 16 (.l ((N5 m (bs.drop (4 * j)) l).reverse.map nv++List.replicate 48 (.i 0)))):=by
 intro m
 induction m with
 | zero =>
  intro j n l k hj hlen hn
  obtain ⟨n,rfl⟩:∃ n',n=n'+1:=⟨n - 1,by omega⟩
  have:j=16:=by omega
  subst this
  rfl
 | succ m ih =>
  intro j n l k hj hlen hn
  obtain ⟨n,rfl⟩:∃ n',n=n'+1:=⟨n - 1,by omega⟩
  obtain ⟨b0,b1,b2,b3,g0,g1,g2,g3,gd⟩:=D4x (bs:=bs) (k:=4 * j) (by omega)
  have hxl:x.els.length=bs.length:=by rw [hx,D5Y]
  have w0:B3 (4 * (j:Int))=((4 * j:Nat):Int):=by rw [G8 (by omega) (by omega)];push_cast;rfl
  have w1:B3 (B3 (4 * (j:Int))+1)=((4 * j+1:Nat):Int):=by rw [w0,G8 (by omega) (by omega)];push_cast;rfl
  have w2:B3 (B3 (4 * (j:Int))+2)=((4 * j+2:Nat):Int):=by rw [w0,G8 (by omega) (by omega)];push_cast;rfl
  have w3:B3 (B3 (4 * (j:Int))+3)=((4 * j+3:Nat):Int):=by rw [w0,G8 (by omega) (by omega)];push_cast;rfl
  have wj:B3 ((j:Int)+1)=((j+1:Nat):Int):=by rw [G8 (by omega) (by omega)];push_cast;rfl
  rw [C8]
  show (bif D4 (j:Int) 16 then _ else _)=_
  rw [show D4 (j:Int) 16=true by simp [D4];omega,cond_true]
  simp only
  rw [w1,w2,w3,w0,hxl,H0 (by omega) (by omega),H0 (by omega) (by omega),H0 (by omega) (by omega),H0 (by omega) (by omega),H0 (by omega) (by omega),wj,C5j hx hb (by omega) g0 g1 g2 g3]
  have hput:=A8r (l:=l.reverse.map nv) (m:=48+m) (z:=.i 0) (y:=nv (((b0 * 256+b1) * 256+b2) * 256+b3))
  rw [D5Y,List.length_reverse,hlen] at hput
  rw [show ((j:Int)).toNat=j from rfl,show 48+(m+1)=48+m+1 from rfl,show V.i ((((b0 * 256+b1) * 256+b2) * 256+b3:Nat):Int)=nv (((b0 * 256+b1) * 256+b2) * 256+b3) from rfl,hput]
  have hl2:l.reverse.map nv++[nv (((b0 * 256+b1) * 256+b2) * 256+b3)]=((((b0 * 256+b1) * 256+b2) * 256+b3)::l).reverse.map nv:=by simp
  rw [hl2,ih (j+1) n _ k (by omega) (by simp [hlen]) (by omega),gd]
  simp only [N5,Q6]
  rfl
theorem A4N {l:List Nat} {r:List V} {q:Nat} (h:q < l.length):elV (.l (l.reverse.map nv++r)) ((l.length - 1 - q:Nat):Int)=((l.getD q 0:Nat):Int):=by
 unfold elV V.nth
 simp only [V.els]
 rw [show (((l.length - 1 - q:Nat):Int)).toNat=l.length - 1 - q from rfl,List.getD,List.getElem?_append_left (by simp;omega),List.getElem?_map,List.getElem?_reverse (by omega)]
 rw [show l.length - 1 - (l.length - 1 - q)=q by omega]
 simp [List.getD,h,nv,V.int]
theorem A3a:∀ (m:Nat) (bs acc:List Nat),(∀ b∈bs,b < 256)→(∀ a∈acc,a < R3)→4 * m≤bs.length→(∀ a∈N5 m bs acc,a < R3)∧(N5 m bs acc).length=m+acc.length:=by
 intro m
 induction m with
 | zero=>intro bs acc _ ha _;simp only [N5];exact ⟨ha,by simp⟩
 | succ m ih =>
  intro bs acc hb ha hl
  match bs,hb,hl with
  | b0::b1::b2::b3::r,hb,hl =>
   simp only [N5,Q6]
   have l0:=hb b0 (by simp)
   have l1:=hb b1 (by simp)
   have l2:=hb b2 (by simp)
   have l3:=hb b3 (by simp)
   obtain ⟨p,q⟩:=ih r ((((b0 * 256+b1) * 256+b2) * 256+b3)::acc) (fun b h=>hb b (by simp [h])) (fun a h=>by
    rcases List.mem_cons.1 h with rfl | h
    ·show _ < 4294967296;omega
    ·exact ha a h) (by simp at hl;omega)
   exact ⟨p,by rw [q];simp;omega⟩
  | [],_,hl=>simp at hl
  | [_],_,hl=>simp at hl;omega
  | [_,_],_,hl=>simp at hl;omega
  | [_,_,_],_,hl=>simp at hl;omega
theorem A1A {l:List Nat} (h:∀ a∈l,a < R3) (q:Nat):l.getD q 0 < R3:=by
 rw [List.getD]
 cases hq:l[q]? with
 | none=>show 0 < R3;decide
 | some a=>exact h a (List.mem_of_getElem? hq)
theorem B0w:∀ (m:Nat) (l:List Nat),(∀ a∈l,a < R3)→(∀ a∈A2B m l,a < R3)∧(A2B m l).length=m+l.length:=by
 intro m
 induction m with
 | zero=>intro l h;simp only [A2B];exact ⟨h,by simp⟩
 | succ m ih =>
  intro l h
  simp only [A2B,Q6]
  obtain ⟨p,q⟩:=ih (A4L l::l) (fun a ha=>by
   rcases List.mem_cons.1 ha with rfl | ha
   ·exact Nat.mod_lt _ (by decide)
   ·exact h a ha)
  exact ⟨p,by rw [q];simp;omega⟩
theorem D4z {R:Type} {z:V}:∀ (m n:Nat) (l:List Nat) (k:D3e→Option R),l.length+m=64→16≤l.length→(∀ a∈l,a < R3)→m < n →
  C8 (B9G R) n (.m z (l.length:Int) (.l (l.reverse.map nv++List.replicate m (.i 0)))) k=k (.o z 64 (.l ((A2B m l).reverse.map nv))):=by
 intro m
 induction m with
 | zero =>
  intro n l k hj h16 hlt hn
  obtain ⟨n,rfl⟩:∃ n',n=n'+1:=⟨n - 1,by omega⟩
  have:l.length=64:=by omega
  rw [this]
  simp only [A2B,List.replicate_zero,List.append_nil]
  rfl
 | succ m ih =>
  intro n l k hj h16 hlt hn
  obtain ⟨n,rfl⟩:∃ n',n=n'+1:=⟨n - 1,by omega⟩
  have wi:∀ d:Nat,d≤16→B3 ((l.length:Int) - (d:Int))=((l.length - d:Nat):Int):=fun d hd=>by rw [G8 (by omega) (by omega)];omega
  have wj:B3 ((l.length:Int)+1)=((l.length+1:Nat):Int):=by rw [G8 (by omega) (by omega)];push_cast;rfl
  have e15:B3 ((l.length:Int) - 15)=((l.length - 1 - 14:Nat):Int):=(wi 15 (by omega)).trans (by omega)
  have e2:B3 ((l.length:Int) - 2)=((l.length - 1 - 1:Nat):Int):=(wi 2 (by omega)).trans (by omega)
  have e16:B3 ((l.length:Int) - 16)=((l.length - 1 - 15:Nat):Int):=(wi 16 (by omega)).trans (by omega)
  have e7:B3 ((l.length:Int) - 7)=((l.length - 1 - 6:Nat):Int):=(wi 7 (by omega)).trans (by omega)
  rw [C8]
  show (bif D4 (l.length:Int) 64 then _ else _)=_
  rw [show D4 (l.length:Int) 64=true by simp [D4];omega,cond_true]
  simp only
  rw [e15,e2,e16,e7,H0 (by omega) (by omega),H0 (by omega) (by omega),H0 (by omega) (by omega),H0 (by omega) (by omega),H0 (by omega) (by omega),wj]
  rw [A4N (by omega),A4N (by omega),A4N (by omega),A4N (by omega),D27 (A1A hlt _),D28 (A1A hlt _)]
  have hput:=A8r (l:=l.reverse.map nv) (m:=m) (z:=.i 0) (y:=nv (A4L l))
  rw [D5Y,List.length_reverse] at hput
  have hval:W32 (W32 (W32 (((l.getD 15 0:Nat):Int)+((l.getD 6 0:Nat):Int))+((sS0 (l.getD 14 0):Nat):Int))+((sS1 (l.getD 1 0):Nat):Int))=((A4L l:Nat):Int):=by
   rw [← Int.natCast_add,A5w,← Int.natCast_add,A5w,← Int.natCast_add,A5w]
   congr 1
   unfold A4L
   show _=_ % 4294967296
   omega
  rw [hval,show ((l.length:Int)).toNat=l.length from rfl,show V.i ((A4L l:Nat):Int)=nv (A4L l) from rfl,hput]
  have hl2:l.reverse.map nv++[nv (A4L l)]=(A4L l::l).reverse.map nv:=by simp
  rw [hl2]
  have:=ih n (A4L l::l) k (by simp;omega) (by simp;omega) (fun a ha=>by
   rcases List.mem_cons.1 ha with rfl | ha
   ·exact Nat.mod_lt _ (by decide)
   ·exact hlt a ha) (by omega)
  rw [D52] at this
  rw [this]
  simp only [A2B,Q6]
variable {T:TT} {R:Type} {P:Program}
theorem B7J {e:B4} {el:Nat} {kd:IntKind} (he:C5 T el=some (.int kd)) (hlo:lo kd=0):∀ {n:Nat} {xs:List V} {cs:List Value},RV T e (List.replicate n el) xs cs→∃ ns:List Nat,xs=ns.map nv∧∀ a∈ns,(a:Int)≤hi kd:=by
 intro n
 induction n with
 | zero=>intro xs cs h;cases h;exact ⟨[],rfl,fun a ha=>by cases ha⟩
 | succ n ih =>
  intro xs cs h
  rw [List.replicate_succ] at h
  cases xs with
  | nil=>cases h
  | cons x xs =>
   obtain ⟨d,r,rfl,g1,g2⟩:=h.cons_inv
   obtain ⟨m,rfl,_,hr⟩:=g1.int_inv he
   obtain ⟨ns,rfl,hn⟩:=ih g2
   unfold inR at hr
   rw [hlo] at hr
   refine ⟨m.toNat::ns,?_,fun a ha=>?_⟩
   ·simp only [List.map_cons,nv]
    rw [show ((m.toNat:Nat):Int)=m by omega]
   ·rcases List.mem_cons.1 ha with rfl | ha
    ·omega
    ·exact hn a ha
theorem RP.uncons {e:B4} {t:Nat} {ts:List Nat} {x:V} {xs:List V} {vs:List Value} (h:RP T e (t::ts) (x::xs) vs):∃ v vs',vs=v::vs'∧RV T e [t] [x] v.cells.toList∧RP T e ts xs vs':=by
 cases h with
 | cons h1 _ h2=>exact ⟨_,_,rfl,h1,h2⟩
theorem TV.head {t:Nat} {ts:List Nat} {x:V} {xs:List V} (h:TV T (t::ts) (x::xs)):∃ e cs,RV T e [t] [x] cs:=by
 obtain ⟨e,vs,h⟩:=h
 obtain ⟨v,vs',_,h1,_⟩:=h.uncons
 exact ⟨e,_,h1⟩
theorem TV.tail {t:Nat} {ts:List Nat} {x:V} {xs:List V} (h:TV T (t::ts) (x::xs)):TV T ts xs:=by
 obtain ⟨e,vs,h⟩:=h
 obtain ⟨v,vs',_,_,h2⟩:=h.uncons
 exact ⟨e,vs',h2⟩
theorem TV.len {ts:List Nat} {xs:List V} (h:TV T ts xs):xs.length=ts.length:=by
 obtain ⟨e,vs,h⟩:=h
 induction h with
 | nil=>rfl
 | cons _ _ _ ih=>simp [ih]
theorem A8s {t el:Nat} {kd:IntKind} {x:V} {e:B4} {cs:List Value} (ht:C5 T t=some (.slice el)) (he:C5 T el=some (.int kd)) (hlo:lo kd=0) (h:RV T e [t] [x] cs):∃ ns:List Nat,x.els=ns.map nv∧∀ a∈ns,(a:Int)≤hi kd:=by
 rcases h.slice_inv ht with ⟨rfl,_⟩ | ⟨ys,ds,a,cap,rfl,_,_,_,g⟩
 ·exact ⟨[],rfl,fun a ha=>by cases ha⟩
 ·exact B7J he hlo g
theorem D3i {t n el:Nat} {kd:IntKind} {x:V} {e:B4} {cs:List Value} (ht:C5 T t=some (.arr n el)) (he:C5 T el=some (.int kd)) (hlo:lo kd=0) (h:RV T e [t] [x] cs):∃ ns:List Nat,x=.l (ns.map nv)∧ns.length=n∧∀ a∈ns,(a:Int)≤hi kd:=by
 obtain ⟨ys,rfl,hl,g⟩:=h.arr_inv ht
 obtain ⟨ns,rfl,hn⟩:=B7J he hlo g
 exact ⟨ns,rfl,by simpa using hl,hn⟩
theorem D4A {α:Type} (o:Option α):ob o some=o:=by cases o<;>rfl
theorem A4O (hm:P.follows .mixedOrders=true) (hT:L8 T P) {tab:List (Nat×D7)} (h:D5 P T tab) {f d fu:Nat} {Lo:Nat→LC} {sh:Bool} {ts:List Nat} {rk:List RK} {F:FC} {G:(R:Type)→List V→(List Rs→Option R)→Option R} (hFn:F.nat) (hts:ts.all (fun t=>(T t).isSome)=true)
  (hL:H1 P T f Lo)
  (hrun:∀ (R:Type) xs (k:List Rs→Option R),TV T ts xs→G7 P T (F3 P T tab false fu d) Lo false fu f R (P9 T ts xs) (fun _=>none) 0 (fun out=>ob (S9 T sh rk out) k)=G R xs k)
  (hG:∀ xs rs,TV T ts xs→F (List Rs) xs some=some rs→G (List Rs) xs some=some rs) :
  D5 P T ((f,J9 T sh ts F)::tab) :=
 B3F hm hT h hFn hts hL (fun xs rs htv hrs=>by
  have:=hG xs rs htv hrs
  rw [← hrun (List Rs) xs some htv] at this
  simpa only [D4A] using this)
def R6 (s:S8):V:=.l [nv s.a,nv s.b,nv s.c,nv s.d,nv s.e,nv s.f,nv s.g,nv s.h]
structure OkS (s:S8):Prop where
 a:s.a < R3
 b:s.b < R3
 c:s.c < R3
 d:s.d < R3
 e:s.e < R3
 f:s.f < R3
 g:s.g < R3
 h:s.h < R3
theorem B13 {s:S8} (h:OkS s) (k w:Nat):OkS (B5Q s k w):=by
 unfold B5Q
 simp only [Q6]
 exact ⟨Nat.mod_lt _ (by decide),h.a,h.b,h.c,Nat.mod_lt _ (by decide),h.e,h.f,h.g⟩
theorem D3j {a:Nat} (h:a < R3):H6 .xor .u32 4294967295 (a:Int)=((4294967295 - a:Nat):Int):=by
 rw [show (4294967295:Int)=((4294967295:Nat):Int) from rfl,A8o (by decide) h,C89 h]
theorem C9f {s:S8} (h:OkS s) {k w:Nat} (hk:k < R3) (hw:w < R3):D4w (R6 s) (k:Int) (w:Int)=R6 (B5Q s k w):=by
 have hne:4294967295 - s.e < R3:=by show _ < 4294967296;omega
 have c1:and (s.e:Int) (s.f:Int)=((s.e &&& s.f:Nat):Int):=A8q h.e h.f
 have c2:and ((4294967295 - s.e:Nat):Int) (s.g:Int)=(((4294967295 - s.e) &&& s.g:Nat):Int):=A8q hne h.g
 have hch:xor (and (s.e:Int) (s.f:Int)) (and (H6 .xor .u32 4294967295 (s.e:Int)) (s.g:Int))=((chN s.e s.f s.g:Nat):Int):=by
  rw [D3j h.e,c1,c2,A1m (T3 h.e) (T3 hne)];rfl
 have hb1:xor (xor (rot (s.e:Int) 6) (rot (s.e:Int) 11)) (rot (s.e:Int) 25)=((bS1 s.e:Nat):Int):=by
  rw [A1L h.e,A1L h.e,A1L h.e,A1m (C6 h.e) (C6 h.e),A1m (R5 (C6 h.e) (C6 h.e)) (C6 h.e)];rfl
 have hb0:xor (xor (rot (s.a:Int) 2) (rot (s.a:Int) 13)) (rot (s.a:Int) 22)=((bS0 s.a:Nat):Int):=by
  rw [A1L h.a,A1L h.a,A1L h.a,A1m (C6 h.a) (C6 h.a),A1m (R5 (C6 h.a) (C6 h.a)) (C6 h.a)];rfl
 have hmaj:xor (xor (and (s.a:Int) (s.b:Int)) (and (s.a:Int) (s.c:Int))) (and (s.b:Int) (s.c:Int))=((B5P s.a s.b s.c:Nat):Int):=by
  rw [A8q h.a h.b,A8q h.a h.c,A8q h.b h.c,A1m (T3 h.a) (T3 h.a),A1m (R5 (T3 h.a) (T3 h.a)) (T3 h.b)];rfl
 have ht:W32 (W32 (W32 (W32 ((s.h:Int)+xor (xor (rot (s.e:Int) 6) (rot (s.e:Int) 11)) (rot (s.e:Int) 25))+xor (and (s.e:Int) (s.f:Int)) (and (H6 .xor .u32 4294967295 (s.e:Int)) (s.g:Int)))+(k:Int))+(w:Int))=(((s.h+bS1 s.e+chN s.e s.f s.g+k+w) % 4294967296:Nat):Int):=by
  rw [hb1,hch,← Int.natCast_add,A5w,← Int.natCast_add,A5w,← Int.natCast_add,A5w,← Int.natCast_add,A5w]
  congr 1;omega
 have hu:W32 (xor (xor (rot (s.a:Int) 2) (rot (s.a:Int) 13)) (rot (s.a:Int) 22)+xor (xor (and (s.a:Int) (s.b:Int)) (and (s.a:Int) (s.c:Int))) (and (s.b:Int) (s.c:Int)))=(((bS0 s.a+B5P s.a s.b s.c) % 4294967296:Nat):Int):=by
  rw [hb0,hmaj,← Int.natCast_add,A5w]
 show V.l [.i (W32 (W32 (W32 (W32 (W32 ((s.h:Int)+xor (xor (rot (s.e:Int) 6) (rot (s.e:Int) 11)) (rot (s.e:Int) 25))+xor (and (s.e:Int) (s.f:Int)) (and (H6 .xor .u32 4294967295 (s.e:Int)) (s.g:Int)))+(k:Int))+(w:Int))+W32 (xor (xor (rot (s.a:Int) 2) (rot (s.a:Int) 13)) (rot (s.a:Int) 22)+xor (xor (and (s.a:Int) (s.b:Int)) (and (s.a:Int) (s.c:Int))) (and (s.b:Int) (s.c:Int))))),.i s.a,.i s.b,.i s.c,.i (W32 ((s.d:Int)+W32 (W32 (W32 (W32 ((s.h:Int)+xor (xor (rot (s.e:Int) 6) (rot (s.e:Int) 11)) (rot (s.e:Int) 25))+xor (and (s.e:Int) (s.f:Int)) (and (H6 .xor .u32 4294967295 (s.e:Int)) (s.g:Int)))+(k:Int))+(w:Int)))),.i s.e,.i s.f,.i s.g]=_
 rw [ht,hu,← Int.natCast_add,← Int.natCast_add,A5w,A5w]
 unfold B5Q R6
 simp only [Q6,nv]
 refine congrArg V.l ?_
 congr 1
 ·congr 1;congr 1;show _=_ % 4294967296;omega
 ·congr 3
  congr 1
  congr 1;congr 1;show _=_ % 4294967296;omega
theorem A8t {l:List Nat} {j:Nat} (h:j < l.length):elV (.l (l.map nv)) (j:Int)=((l[j]:Nat):Int):=by
 unfold elV V.nth
 simp only [V.els]
 rw [show ((j:Int)).toNat=j from rfl,List.getD,List.getElem?_map,D57 h]
 rfl
theorem D4B {s z:V} {K W:List Nat} (hK:K.length=64) (hW:W.length=64) (kK:∀ a∈K,a < R3) (kW:∀ a∈W,a < R3):∀ (m j n:Nat) (x:S8) (k:D3f→Option R),j+m=64→OkS x→m < n →
  C8 (C5i R) n (.m s z (.l (W.map nv)) (.l (K.map nv)) (R6 x) (j:Int)) k=k (.o s z (.l (W.map nv)) (.l (K.map nv)) (R6 (B0u (K.drop j) (W.drop j) x)) 64):=by
 intro m
 induction m with
 | zero =>
  intro j n x k hj hx hn
  obtain ⟨n,rfl⟩:∃ n',n=n'+1:=⟨n - 1,by omega⟩
  have:j=64:=by omega
  subst this
  rw [List.drop_of_length_le (by omega),List.drop_of_length_le (by omega)]
  rfl
 | succ m ih =>
  intro j n x k hj hx hn
  obtain ⟨n,rfl⟩:∃ n',n=n'+1:=⟨n - 1,by omega⟩
  have wj:B3 ((j:Int)+1)=((j+1:Nat):Int):=by rw [G8 (by omega) (by omega)];push_cast;rfl
  rw [C8]
  show (bif D4 (j:Int) 64 then _ else _)=_
  rw [show D4 (j:Int) 64=true by simp [D4];omega,cond_true]
  simp only
  rw [H0 (by omega) (by omega),H0 (by omega) (by omega),wj,A8t (by omega),A8t (by omega),C9f hx (kK _ (List.getElem_mem ..)) (kW _ (List.getElem_mem ..)),ih (j+1) n _ k (by omega) (B13 hx _ _) (by omega)]
  rw [List.drop_eq_getElem_cons (show j < K.length by omega),List.drop_eq_getElem_cons (show j < W.length by omega)]
  rfl
theorem C9g {s x:S8}:OkS (B5R s x):=by
 unfold B5R
 simp only [Q6]
 exact ⟨Nat.mod_lt _ (by decide),Nat.mod_lt _ (by decide),Nat.mod_lt _ (by decide),Nat.mod_lt _ (by decide),Nat.mod_lt _ (by decide),Nat.mod_lt _ (by decide),Nat.mod_lt _ (by decide),Nat.mod_lt _ (by decide)⟩
theorem D4C {s x:S8} {z:V} {n:Nat} {k:D3g→Option R} :
  C8 (B5T R) (n+9) (.m (R6 s) z (R6 x) 0) k=k (.o (R6 (B5R s x)) z (R6 x) 8):=by
 have h1:C8 (B5T R) (n+9) (.m (R6 s) z (R6 x) 0) k=k (.o (.l [.i (W32 ((s.a:Int)+(x.a:Int))),.i (W32 ((s.b:Int)+(x.b:Int))),.i (W32 ((s.c:Int)+(x.c:Int))),.i (W32 ((s.d:Int)+(x.d:Int))),.i (W32 ((s.e:Int)+(x.e:Int))),.i (W32 ((s.f:Int)+(x.f:Int))),.i (W32 ((s.g:Int)+(x.g:Int))),.i (W32 ((s.h:Int)+(x.h:Int)))]) z (R6 x) 8):=by kernel_rfl
 rw [h1]
 simp only [← Int.natCast_add,A5w]
 unfold B5R R6
 simp only [Q6]
 rfl
variable {T:TT} {R:Type} {P:Program}
def z64:V:=.l (List.replicate 64 (.i 0))
def z8:V:=.l (List.replicate 8 (.i 0))
def A3b:V:=.l (B0v.map nv)
def V9 (x:V):List Nat:=x.els.map fun v=>v.int.toNat
def spW (x:V):V:=.l ((A2B 48 (N5 16 (V9 x) [])).reverse.map nv)
def s8 (x:V):S8:=⟨(x.nth 0).int.toNat,(x.nth 1).int.toNat,(x.nth 2).int.toNat,(x.nth 3).int.toNat,(x.nth 4).int.toNat,(x.nth 5).int.toNat,(x.nth 6).int.toNat,(x.nth 7).int.toNat⟩
def B14 (s b:V):V:=R6 (A29 (s8 s) (V9 b))
def Fsp (t:Nat):FC:=fun R xs k=>match xs with
 | [x]=>bif Nat.ble 64 x.els.length then k [.d t (spW x)] else none
 | _=>none
def Fmx (t:Nat):FC:=fun R xs k=>match xs with
 | [s,b]=>bif Nat.ble 64 b.els.length then k [.d t (B14 s b)] else none
 | _=>none
theorem C9h (t:Nat):FC.nat (Fsp t):=by
 intro R xs k
 unfold Fsp
 split
 ·rename_i x;cases Nat.ble 64 x.els.length<;>rfl
 ·rfl
theorem C9i (t:Nat):FC.nat (Fmx t):=by
 intro R xs k
 unfold Fmx
 split
 ·rename_i s b;cases Nat.ble 64 b.els.length<;>rfl
 ·rfl
theorem Y3 {x:V} {bs:List Nat} (hx:x.els=bs.map nv):V9 x=bs:=by
 unfold V9
 rw [hx,List.map_map]
 conv=>rhs;rw [← List.map_id bs]
 apply List.map_congr_left
 intro a _
 rfl
theorem B5V {x:V} {bs:List Nat} (hx:x.els=bs.map nv) (hb:∀ b∈bs,b < 256) (hl:64≤bs.length) {n:Nat} (hn:64 < n) (k:V→Option R) :
  C8 (C5h R) n (.m x z64 0 z64) (fun | .o _ z _ w=>C8 (B9G R) n (.m z 16 w) (fun | .o _ _ w=>k w))=k (spW x):=by
 have h1:=D4y (R:=R) (z:=z64) hx hb hl 16 0 n [] (fun | .o _ z _ w=>C8 (B9G R) n (.m z 16 w) (fun | .o _ _ w=>k w)) rfl rfl (by omega)
 obtain ⟨w1,w2⟩:=A3a 16 bs [] hb (fun a h=>by cases h) (by omega)
 have h2:=D4z (R:=R) (z:=z64) 48 n (N5 16 bs []) (fun | .o _ _ w=>k w) (by rw [w2];rfl) (by rw [w2];simp) w1 (by omega)
 rw [w2] at h2
 refine h1.trans (Eq.trans ?_ (h2.trans ?_))
 ·rfl
 ·show k _=_
  unfold spW
  rw [Y3 hx]
theorem B3I:∀ a∈B0v,a < R3:=by decide
theorem D3k (s:S8):s8 (R6 s)=s:=rfl
theorem C9j {s:S8} {b:V} {bs:List Nat} (hs:OkS s) (hx:b.els=bs.map nv) (hb:∀ b∈bs,b < 256) (hl:64≤bs.length) {n:Nat} (hn:64 < n) (k:V→Option R) :
  C8 (C5i R) n (.m (R6 s) z8 (spW b) A3b (R6 s) 0) (fun | .o s z _ _ x _=>C8 (B5T R) n (.m s z x 0) (fun | .o s _ _ _=>k s))=k (B14 (R6 s) b):=by
 obtain ⟨w1,w2⟩:=A3a 16 bs [] hb (fun a h=>by cases h) (by omega)
 obtain ⟨c1,c2⟩:=B0w 48 (N5 16 bs []) w1
 have h1:=D4B (R:=R) (s:=R6 s) (z:=z8) (K:=B0v) (W:=(A2B 48 (N5 16 bs [])).reverse) rfl (by rw [List.length_reverse,c2,w2];rfl) B3I (fun a h=>c1 a (List.mem_reverse.1 h)) 64 0 n s
  (fun | .o s z _ _ x _=>C8 (B5T R) n (.m s z x 0) (fun | .o s _ _ _=>k s)) rfl hs (by omega)
 have hsp:spW b=.l ((A2B 48 (N5 16 bs [])).reverse.map nv):=by unfold spW;rw [Y3 hx]
 rw [hsp]
 refine h1.trans ?_
 obtain ⟨n,rfl⟩:∃ n',n=n'+9:=⟨n - 9,by omega⟩
 refine D4C.trans ?_
 show k _=k _
 unfold B14 A29
 rw [D3k,Y3 hx]
 rfl
theorem D3l {ns:List Nat} (hl:ns.length=8) (h:∀ a∈ns,(a:Int)≤4294967295):∃ s,V.l (ns.map nv)=R6 s∧OkS s:=by
 match ns,hl with
 | [a,b,c,d,e,f,g,i],_ =>
  have q:∀ x∈[a,b,c,d,e,f,g,i],x < R3:=fun x hx=>by have:=h x hx;show x < 4294967296;omega
  exact ⟨⟨a,b,c,d,e,f,g,i⟩,rfl,⟨q _ (by simp),q _ (by simp),q _ (by simp),q _ (by simp),q _ (by simp),q _ (by simp),q _ (by simp),q _ (by simp)⟩⟩
theorem B7K {bs:List Nat} (h:∀ a∈bs,(a:Int)≤hi .u8):∀ b∈bs,b < 256:=fun b hb=>by have:=h b hb;simp only [hi] at this;omega
end Go.Vm
end