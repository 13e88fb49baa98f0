/- What the operations of a program do, shown once for all programs; and numbers. -/
import Derived.Test.YteoeonfajlnggaaGreatVm7
set_option linter.constructorNameAsVariable false
set_option linter.unusedVariables false
set_option linter.unusedSimpArgs false
noncomputable section
namespace Go.Vm
open Go.RowKit
variable {T:TT} {R:Type}
structure KC where
 f:Nat→D3
 y:Nat→D3
 ord:Nat→Bool
def KC.dir (K:KC):KS:=⟨fun f=>(K.f f).dir,fun id=>(K.y id).dir,K.ord⟩
structure KC.nat (K:KC):Prop where
 f:∀ f,(K.f f).nat
 y:∀ id,(K.y id).nat
def B30 (nx:Nat) (o:Out) (k:J2→Option R):Option R :=
 match o with
 | ⟨v,wo,ro,nw⟩=>match nw with
  | []=>k ⟨v,wo,ro,nx⟩
  | [j]=>bif Nat.beq j nx then k ⟨v,wo,ro,nx+1⟩ else none
  | _=>none
theorem B31 (nx:Nat) (o:Option Out) (k:J2→Option R):ob o (fun x=>B30 nx x k)=ob (A5a nx o) k:=by
 cases o with
 | none=>rfl
 | some x =>
  obtain ⟨v,wo,ro,nw⟩:=x
  simp only [ob,B30,A5a]
  cases nw with
  | nil=>rfl
  | cons j r=>cases r with
   | nil=>simp only;cases Nat.beq j nx<;>rfl
   | cons _ _=>rfl
def B6c (T:TT) (t:Nat) (k:A) (okk:Bool) (q:Nat×Nat×Nat×Nat×List (V×V×Bool)×Option V) (kk:A×List Nat→Option R):Option R :=
 match q.2.2.2.2.2 with
 | none=>match D2 T t with
  | some (.map kt et)=>match T et,A1D T kt k with
   | some te,some kv=>bif TK.notOther te.k then (bif Nat.beq kt q.2.1&&Nat.beq et q.2.2.1 then
     (bif A3I kv q.2.2.2.2.1 then kk (okA okk (mkA T et (A8d kv q.2.2.2.2.1)) true,[q.1]) else kk (okA okk (mkA T et te.zero) false,[q.1])) else none) else none
   | _,_=>none
  | _=>none
 | some _=>none
theorem C02 (t:Nat) (k:A) (okk:Bool) (q:Nat×Nat×Nat×Nat×List (V×V×Bool)×Option V) (kk:A×List Nat→Option R):B6c T t k okk q kk=ob (A8f T t k okk q) kk:=by
 unfold B6c A8f
 cases q.2.2.2.2.2 with
 | some _=>rfl
 | none=>cases D2 T t with
  | none=>rfl
  | some k1=>cases k1 with
   | map kt et =>
    simp only
    cases T et with
    | none=>rfl
    | some te=>cases A1D T kt k with
     | none=>rfl
     | some kv =>
      simp only [Q2]
      cases TK.notOther te.k
      ·rfl
      ·simp only [cond_true]
       cases (Nat.beq kt q.2.1&&Nat.beq et q.2.2.1)
       ·rfl
       ·simp only [cond_true]
        cases A3I kv q.2.2.2.2.1<;>rfl
   | _=>rfl
def B6d (T:TT) (nx t:Nat) (k:A) (q:Nat×Nat×Nat×Nat×List (V×V×Bool)×Option V) (kk:Out→Option R):Option R :=
 match q.2.2.2.2.2 with
 | none=>match D2 T t with
  | some (.map kt et)=>match T et,A1D T kt k with
   | some te,some kv=>bif TK.notOther te.k then (bif Nat.beq kt q.2.1&&Nat.beq et q.2.2.1 then
     (bif A3I kv q.2.2.2.2.1 then (bif B13 kv q.2.2.2.2.1 then kk ⟨.o nx 1,[(q.1,.sm q.2.1 q.2.2.1 q.2.2.2.1 q.2.2.2.2.1 (some kv)),(nx,.row q.2.2.2.1 1 (A8d kv q.2.2.2.2.1).els false true)],[q.1],[nx]⟩ else none) else kk ⟨mkA T et te.zero,[],[q.1],[]⟩) else none) else none
   | _,_=>none
  | _=>none
 | some _=>none
theorem C03 (nx t:Nat) (k:A) (q:Nat×Nat×Nat×Nat×List (V×V×Bool)×Option V) (kk:Out→Option R):B6d T nx t k q kk=ob (A9M T nx t k q) kk:=by
 unfold B6d A9M
 cases q.2.2.2.2.2 with
 | some _=>rfl
 | none=>cases D2 T t with
  | none=>rfl
  | some k1=>cases k1 with
   | map kt et =>
    simp only
    cases T et with
    | none=>rfl
    | some te=>cases A1D T kt k with
     | none=>rfl
     | some kv =>
      simp only [Q2]
      cases TK.notOther te.k
      ·rfl
      ·simp only [cond_true]
       cases (Nat.beq kt q.2.1&&Nat.beq et q.2.2.1)
       ·rfl
       ·simp only [cond_true]
        cases A3I kv q.2.2.2.2.1
        ·rfl
        ·simp only [cond_true,Q2]
         cases B13 kv q.2.2.2.2.1<;>rfl
   | _=>rfl
def B6e (T:TT) (lend:Bool) (nx:Nat) (of:Nat→Option Ob) (t:Nat) (m k:A) (okk:Bool) (kk:Out→Option R):Option R :=
 match A6k of m with
 | some q=>bif lend&&!okk then B6d T nx t k q kk else B6c T t k okk q fun p=>kk ⟨p.1,[],p.2,[]⟩
 | none=>B7A T of t m k okk fun p=>kk ⟨p.1,[],p.2,[]⟩
theorem C04 (lend:Bool) (nx:Nat) (of:Nat→Option Ob) (t:Nat) (m k:A) (okk:Bool) (kk:Out→Option R):B6e T lend nx of t m k okk kk=ob (B2W T lend nx of t m k okk) kk:=by
 unfold B6e B2W
 cases A6k of m with
 | some q =>
  simp only
  cases lend&&!okk
  ·simp only [cond_false,C02]
   cases A8f T t k okk q<;>rfl
  ·simp only [cond_true,C03]
 | none =>
  simp only [C2B]
  cases B0t T of t m k okk<;>rfl
def C64 (T:TT) (of:Nat→Option Ob) (t:Nat) (k v:A) (q:Nat×Nat×Nat×Nat×List (V×V×Bool)×Option V) (kk:List (Nat×Ob)×List Nat→Option R):Option R :=
 match D2 T t with
 | some (.map kt et)=>match A1D T kt k with
  | some kv=>bif Nat.beq kt q.2.1&&Nat.beq et q.2.2.1 then (bif C9g q.2.2.2.2.2 kv then (match v with
    | .o rid ver=>match of rid with
     | some (.row el v' xs false sh)=>bif Nat.beq el q.2.2.2.1&&Nat.beq v' ver then kk ([(rid,.row el (ver+1) [] true false),(q.1,.sm q.2.1 q.2.2.1 q.2.2.2.1 (A6j kv (.l xs) true q.2.2.2.2.1) none)],[q.1,rid]) else none
     | _=>none
    | v=>match Q4 T DEP of et v with
     | some (x,wo)=>bif !(X5 wo).contains q.1 then kk (wo++[(q.1,.sm q.2.1 q.2.2.1 q.2.2.2.1 (A6j kv x false q.2.2.2.2.1) none)],q.1::X5 wo) else none
     | none=>none) else none) else none
  | none=>none
 | _=>none
theorem C65 (of:Nat→Option Ob) (t:Nat) (k v:A) (q:Nat×Nat×Nat×Nat×List (V×V×Bool)×Option V) (kk:List (Nat×Ob)×List Nat→Option R):C64 T of t k v q kk=ob (B9z T of t k v q) kk:=by
 unfold C64 B9z
 cases D2 T t with
 | none=>rfl
 | some k1=>cases k1 with
  | map kt et =>
   simp only
   cases A1D T kt k with
   | none=>rfl
   | some kv =>
    simp only [Q2]
    cases (Nat.beq kt q.2.1&&Nat.beq et q.2.2.1)
    ·rfl
    ·simp only [cond_true]
     cases C9g q.2.2.2.2.2 kv
     ·rfl
     ·simp only [cond_true]
      have gen:∀ v:A,(match Q4 T DEP of et v with
        | some (x,wo)=>bif !(X5 wo).contains q.1 then kk (wo++[(q.1,.sm q.2.1 q.2.2.1 q.2.2.2.1 (A6j kv x false q.2.2.2.2.1) none)],q.1::X5 wo) else none
        | none=>none)=ob (match Q4 T DEP of et v with
        | some (x,wo)=>if !(X5 wo).contains q.1 then some (wo++[(q.1,.sm q.2.1 q.2.2.1 q.2.2.2.1 (A6j kv x false q.2.2.2.2.1) none)],q.1::X5 wo) else none
        | none=>none) kk:=by
       intro v
       cases Q4 T DEP of et v with
       | none=>rfl
       | some p =>
        obtain ⟨x,wo⟩:=p
        simp only [Q2]
        cases !(X5 wo).contains q.1<;>rfl
      cases v with
      | o rid ver =>
       simp only
       cases of rid with
       | none=>rfl
       | some o=>cases o with
        | row el v' xs nl sh=>cases nl
                              ·simp only [Q2];cases (Nat.beq el q.2.2.2.1&&Nat.beq v' ver)<;>rfl
                              ·rfl
        | _=>rfl
      | i k n=>exact gen (.i k n)
      | b y=>exact gen (.b y)
      | s l=>exact gen (.s l)
      | z v=>exact gen (.z v)
      | v t x=>exact gen (.v t x)
      | p i t r=>exact gen (.p i t r)
      | e i v j t r=>exact gen (.e i v j t r)
      | c t x=>exact gen (.c t x)
      | q t x=>exact gen (.q t x)
      | w i v o n=>exact gen (.w i v o n)
      | a i t r l m=>exact gen (.a i t r l m)
      | m i=>exact gen (.m i)
      | y i=>exact gen (.y i)
      | f n c=>exact gen (.f n c)
      | g t l=>exact gen (.g t l)
      | t l=>exact gen (.t l)
      | x=>exact gen .x
  | _=>rfl
def B8x (T:TT) (of:Nat→Option Ob) (nx t:Nat) (m k v:A) (kk:J2→Option R):Option R :=
 match A6k of m with
 | some q=>C64 T of t k v q fun p=>kk ⟨.x,p.1,p.2,nx⟩
 | none=>ob (C6e T of t m k v) fun p=>kk ⟨.x,p.1,p.2,nx⟩
theorem C66 (of:Nat→Option Ob) (nx t:Nat) (m k v:A) (kk:J2→Option R):B8x T of nx t m k v kk=ob (B9D T of nx t m k v) kk:=by
 unfold B8x B9D C9k
 cases A6k of m with
 | some q =>
  simp only [C65]
  cases B9z T of t k v q<;>rfl
 | none =>
  simp only
  cases C6e T of t m k v<;>rfl
def C67 (T:TT) (of:Nat→Option Ob) (t:Nat) (u:A) (k:A×List Nat→Option R):Option R :=
 match A6k of u with
 | some q=>(match D2 T t with
  | some (.map _ _)=>bif Nat.ble q.2.2.2.2.1.length 9223372036854775807 then k (.i .i64 (q.2.2.2.2.1.length:Nat),[q.1]) else none
  | _=>none)
 | none=>C9H T of t u k
theorem C68 (of:Nat→Option Ob) (t:Nat) (u:A) (k:A×List Nat→Option R):C67 T of t u k=ob (B9A T of t u) k:=by
 unfold C67 B9A
 cases A6k of u with
 | none=>exact C9I _ _ _ _
 | some q =>
  unfold C9i
  cases D2 T t with
  | none=>rfl
  | some kk=>cases kk with
   | map kt et=>simp only;cases Nat.ble q.2.2.2.2.1.length 9223372036854775807<;>rfl
   | _=>rfl
def C69 (T:TT) (K:KC) (ev:Operand→A) (of:Nat→Option Ob) (nx:Nat) (k:Call) (kk:J2→Option R):Option R :=
 match k.callee with
 | .value f=>match ev f with
  | .f fn cap=>bif cap.all (A0r T) then K.f fn R (k.args.toList.map ev++cap) of nx kk else none
  | .y id=>K.y id R (k.args.toList.map ev) of nx kk
  | _=>none
 | .builtin .len=>match k.argTypes.toList,k.args.toList with
  | [t],[x]=>C67 T of t (ev x) fun p=>kk (.pv nx p.1 p.2)
  | _,_=>none
 | .builtin .append=>match k.argTypes.toList,k.args.toList with
  | [t,xt],[x,y]=>bif A44 T xt (ev y) then B09 T of nx t (ev x) (ev y) fun o=>B30 nx o kk else bif isQ T (ev x) then ob (A5a nx (B12 T nx t xt (ev x) (ev y))) kk else none
  | _,_=>none
 | .builtin .copy=>match k.argTypes.toList,k.args.toList with
  | [t,xt],[x,y]=>C2E T of t xt (ev x) (ev y) fun p=>kk ⟨p.1,p.2.1,p.2.2,nx⟩
  | _,_=>none
 | _=>ob (A1T T (.no fun _ _ _ _=>none) ev of nx k) kk
theorem C7a {K:KC} (hK:K.nat) (ev:Operand→A) (of:Nat→Option Ob) (nx:Nat) (k:Call) (kk:J2→Option R):C69 T K ev of nx k kk=ob (A1T T K.dir ev of nx k) kk:=by
 unfold C69
 split
 ·rename_i f hk
  simp only [A1T,hk]
  cases ev f with
  | f fn cap =>
   simp only [Q2]
   cases cap.all (A0r T)
   ·rfl
   ·simp only [cond_true];exact hK.f fn R _ of nx kk
  | y id=>exact hK.y id R _ of nx kk
  | _=>rfl
 ·rename_i hk
  simp only [A1T,hk]
  split
  ·rename_i t x h1 h2
   rw [h1,h2]
   simp only [C68]
   cases B9A T of t (ev x)<;>rfl
  ·rename_i hne
   split
   ·rename_i t x h1 h2;exact absurd h2 (hne _ _ h1)
   ·rfl
 ·rename_i hk
  simp only [A1T,hk]
  split
  ·rename_i t xt x y h1 h2
   rw [h1,h2]
   simp only [B40,B31]
   cases A44 T xt (ev y)
   ·simp only [cond_false,Bool.false_eq_true,if_false]
    cases isQ T (ev x)<;>rfl
   ·simp only [cond_true,if_true]
  ·rename_i hne
   split
   ·rename_i t xt x y h1 h2;exact absurd h2 (hne _ _ _ _ h1)
   ·rfl
 ·rename_i hk
  simp only [A1T,hk]
  split
  ·rename_i t xt x y h1 h2
   rw [h1,h2]
   simp only [C2F]
   cases A0H T of t xt (ev x) (ev y)<;>rfl
  ·rename_i hne
   split
   ·rename_i t xt x y h1 h2;exact absurd h2 (hne _ _ _ _ h1)
   ·rfl
 ·rename_i h1 h2 h3 h4
  have:A1T T (.no fun _ _ _ _=>none) ev of nx k=A1T T K.dir ev of nx k:=by
   unfold A1T
   split
   ·rename_i f hk;exact absurd hk (h1 f)
   all_goals rfl
  rw [this]
def B8y (T:TT) (K:KC) (ev:Operand→A) (of:Nat→Option Ob) (nx:Nat) (o:Oper) (k:J2→Option R):Option R :=
 match o.op with
 | .pick q a b=>match ev q with
  | .b t=>k (.pv nx (bif t then ev a else ev b) [])
  | _=>none
 | .binOp op t x y _=>D5u T of op t (ev x) (ev y) fun p=>k (.pv nx p.1 p.2)
 | .unOp op _ x=>unC op (ev x) fun v=>k (.pv nx v [])
 | .convert s t x=>C2C T of nx s t (ev x) fun o=>B30 nx o k
 | .sliceToArrayPointer t x=>D5w T of t (ev x) fun p=>k ⟨p.1,p.2.1,p.2.2,nx⟩
 | .makeSlice t l c=>A3Z T nx t (ev l) (ev c) k
 | .lookup t m c okk=>B6e T (D3J o.pos) nx of t (ev m) (ev c) okk fun o=>B30 nx o k
 | .mapUpdate t m c v=>B8x T of nx t (ev m) (ev c) (ev v) k
 | .insert t m c v=>B8x T of nx t (ev m) (ev c) (ev v) k
 | .slice t x lo hi mx=>B41 T of t (ev x) (lo.map ev) (hi.map ev) (mx.map ev) fun p=>k ⟨p.1,p.2.1,p.2.2,nx⟩
 | .indexAddr t x ix=>match ev ix with
  | .i _ i=>A3Y T of t i (ev x) fun p=>k (.pv nx p.1 p.2)
  | _=>none
 | .index t x ix=>match ev ix with
  | .i _ i=>B4Z T t i (ev x) fun v=>k (.pv nx v [])
  | _=>none
 | .call c=>C69 T K ev of nx c k
 | _=>ob (X2 T (.no fun _ _ _ _=>none) ev of nx o) k
theorem C7b {nx:Nat} (o:Option (A×List Nat)) (k:J2→Option R):ob (pvR nx o) k=ob o fun p=>k (.pv nx p.1 p.2):=by cases o<;>rfl
theorem C7c {nx:Nat} (o:Option A) (k:J2→Option R):ob (pvO nx o) k=ob o fun v=>k (.pv nx v []):=by cases o<;>rfl
theorem D7o {nx:Nat} (o:Option (A×List (Nat×Ob)×List Nat)) (k:J2→Option R):ob (pvW nx o) k=ob o fun p=>k ⟨p.1,p.2.1,p.2.2,nx⟩:=by cases o<;>rfl
theorem B32 {K:KC} (hK:K.nat) (ev:Operand→A) (of:Nat→Option Ob) (nx:Nat) (o:Oper) (k:J2→Option R):B8y T K ev of nx o k=ob (X2 T K.dir ev of nx o) k:=by
 obtain ⟨dst,op,ty,pos,after,guard⟩:=o
 cases op<;>simp only [B8y,X2,C9G,D5v,C2D,C9J,A9h,C04,C66,B9H,C7b,C7c,D7o,B31,C7a hK]
 case pick q a b=>cases ev q<;>rfl
 case indexAddr t x ix=>cases ev ix<;>simp only [A9g,C7b]<;>rfl
 case index t x ix=>cases ev ix<;>simp only [B9G,C7c]<;>rfl
def D7p (T:TT) (K:KC) (ops:Array Oper) (sl:Nat→A) (of:Nat→Option Ob) (nx:Nat) (o:Oper) (k:Ent→Option R):Option R :=
 match o.guard with
 | none=>B8y T K (evO sl) of nx o fun out=>bif Nat.ble nx out.nx then k (.mk1 o (o.looksAt ops) nx out) else none
 | some (g,want)=>match (ops[g]?).bind (·.dst) with
  | some d=>match sl d with
   | .t _=>k (.skip o (o.looksAt ops) nx)
   | .b q=>bif (bif want then q else !q) then (B8y T K (evO sl) of nx o fun out=>bif Nat.ble nx out.nx then k (.mk1 o (o.looksAt ops) nx out) else none) else k (.skip o (o.looksAt ops) nx)
   | _=>none
  | none=>none
theorem D2a {K:KC} (hK:K.nat) (ops:Array Oper) (sl:Nat→A) (of:Nat→Option Ob) (nx:Nat) (o:Oper) (k:Ent→Option R):D7p T K ops sl of nx o k=ob (A2H T K.dir ops sl of nx o) k:=by
 have go:ob (X2 T K.dir (evO sl) of nx o) (fun out=>bif Nat.ble nx out.nx then k (.mk1 o (o.looksAt ops) nx out) else none)=ob (match X2 T K.dir (evO sl) of nx o with
   | some out=>if Nat.ble nx out.nx=true then some (Ent.mk1 o (o.looksAt ops) nx out) else none
   | none=>none) k:=by
  cases X2 T K.dir (evO sl) of nx o with
  | none=>rfl
  | some out=>simp only [ob];cases Nat.ble nx out.nx<;>rfl
 unfold D7p A2H
 cases o.guard with
 | none=>simp only [B32 hK];exact go
 | some p =>
  obtain ⟨g,want⟩:=p
  simp only
  cases (ops[g]?).bind (·.dst) with
  | none=>rfl
  | some d =>
   simp only
   cases sl d with
   | t _=>rfl
   | b q =>
    simp only [B32 hK,go]
    cases q<;>cases want<;>rfl
   | _=>rfl
def D81 {α:Type} (a:A) (k:A→α):α :=
 match a with
 | .b q=>match q with
  | true=>k (.b true)
  | false=>k (.b false)
 | a=>k a
theorem D2b {α:Type} (a:A) (k:A→α):D81 a k=k a:=by
 cases a with
 | b q=>cases q<;>rfl
 | _=>rfl
def D82 (fl:Bool) (a:A) (k:A→Option R):Option R :=
 match fl with
 | true=>D5k a k
 | false=>D81 a k
theorem D2c (fl:Bool) (a:A) (k:A→Option R):D82 fl a k=k a:=by
 cases fl
 ·exact D2b a k
 ·exact B7x a k
def ob2 {α β:Type} (o:Option (α×β)) (k:α→β→Option R):Option R :=
 match o with
 | some p=>k p.1 p.2
 | none=>none
def C05 (T:TT) (K:KC) (fl:Bool) (ops:Array Oper) (of:Nat→Option Ob):List Oper→St→(List Ent→St→Option R)→Option R
 | [],σ,k=>k [] σ
 | o::r,σ,k=>D7p T K ops (H2 σ.sl) (E0 σ.ob of) σ.nx o fun E=>D82 fl E.val fun v=>A2Q E.hi fun h=>D5l (A1z σ.ob E.ro σ.rd) fun rd =>
   C05 T K fl ops of r { sl:=match E.dst with | some d=>(d,v)::σ.sl | none=>σ.sl,ob:=A1m σ.ob E.wo,rd:=rd,nx:=h,mks:=σ.mks } fun Es σ'=>k ({ E with val:=v,hi:=h }::Es) σ'
theorem B8z {K:KC} (hK:K.nat) (fl:Bool) (ops:Array Oper) (of:Nat→Option Ob):∀ (l:List Oper) (σ:St) (k:List Ent→St→Option R),C05 T K fl ops of l σ k=ob2 (Q3 T K.dir ops of l σ) k:=by
 intro l
 induction l with
 | nil=>intro σ k;rfl
 | cons o r ih =>
  intro σ k
  rw [A1s]
  simp only [C05,D2a hK,D2c,Q9,B7y,ih]
  cases A2H T K.dir ops (H2 σ.sl) (E0 σ.ob of) σ.nx o with
  | none=>rfl
  | some E =>
   simp only [ob,St.app]
   cases Q3 T K.dir ops of r _ with
   | none=>rfl
   | some p=>rfl
abbrev LC:=Code→Option ((R:Type)→(Nat→Option Ob)→St→(Exit→St→Option R)→Option R)
def A6T (ks:List Nat) (f:St→(Exit→St→Option R)→Option R):Nat→St→(Exit→St→Option R)→Option R
 | 0,_,_=>none
 | n+1,σ,k=>f (σ.tidy ks) fun ex σ1=>match ex with
  | .normal=>A6T ks f n σ1 k
  | ex=>k ex σ1
def B6f (T:TT) (K:KC) (nt:Nat) (of:Nat→Option Ob) (R:Type) (g:Operand) (ps:Array Nat) (asg body:Code) (σ:St) (k:Exit→St→Option R):Option R :=
 match σ.mks with
 | some l=>match evO (H2 σ.sl) g with
  | .f f cap=>bif K.ord f&&cap.all (A0r T) then
    (fun (ob1:Tr)=>K.f f R (.y (σ.nx+1)::cap) (E0 ob1 of) (σ.nx+2) fun out=>bif Nat.ble (σ.nx+2) out.nx then
     (fun (ob2:Tr)=>match ob2.get (σ.nx+1) with
     | some (.lp (some r))=>(match B2e r.st with
      | true=>(match B3X r.pend with
       | some ex=>k ex ⟨σ.sl,ob2.set (σ.nx+1) (.lp (some { r with st:=.exhausted })),A1z ob1 out.ro σ.rd,out.nx,some (σ.nx::l)⟩
       | none=>none)
      | false=>none)
     | _=>none) (A1m ob1 out.wo) else none) ((σ.ob.set σ.nx (.lp none)).set (σ.nx+1) (.lp (some ⟨nt,A6b σ.sl (A6a σ.sl []),ps,asg,body,.ready,none⟩)))
   else none
  | _=>none
 | none=>none
theorem C06 {K:KC} (hK:K.nat) {nt:Nat} {of:Nat→Option Ob} {R:Type} {g:Operand} {ps:Array Nat} {asg body:Code} {σ:St} {k:Exit→St→Option R}:B6f T K nt of R g ps asg body σ k=ob2 (A8r T K.dir nt of g ps asg body σ) k:=by
 unfold B6f A8r
 cases σ.mks with
 | none=>rfl
 | some l =>
  simp only
  cases evO (H2 σ.sl) g with
  | f f cap =>
   simp only
   show (bif K.ord f&&cap.all (A0r T) then _ else _)=ob2 (if (K.ord f&&cap.all (A0r T))=true then _ else _) k
   cases (K.ord f&&cap.all (A0r T))
   ·rfl
   ·simp only [cond_true,if_true]
    generalize (σ.ob.set σ.nx (.lp none)).set (σ.nx+1) (.lp (some ⟨nt,A6b σ.sl (A6a σ.sl []),ps,asg,body,.ready,none⟩))=ob1
    rw [hK.f f]
    show ob ((K.f f).dir _ _ _) _=ob2 (match (K.f f).dir _ _ _ with | some out=>_ | none=>none) k
    cases (K.f f).dir (.y (σ.nx+1)::cap) (E0 ob1 of) (σ.nx+2) with
    | none=>rfl
    | some out =>
     simp only [ob]
     cases Nat.ble (σ.nx+2) out.nx
     ·rfl
     ·simp only [cond_true,if_true]
      cases (A1m ob1 out.wo).get (σ.nx+1) with
      | none=>rfl
      | some o =>
       cases o with
       | lp q =>
        cases q with
        | none=>rfl
        | some r =>
         simp only
         cases B2e r.st
         ·rfl
         ·simp only
          cases B3X r.pend<;>rfl
       | _=>rfl
  | _=>rfl
def T5 (T:TT) (K:KC) (Lo:LC) (fl:Bool) (fu nt:Nat) (of:Nat→Option Ob) (R:Type):Code→St→(Exit→St→Option R)→Option R
 | .skip,σ,k=>k .normal σ
 | .ret,σ,k=>k .ret σ
 | .exit id,σ,k=>k (.exit id) σ
 | .region _ ops draw,σ,k =>
  match draw with
  | false=>bif ops.toList.all (A4j nt) then C05 T K fl ops of ops.toList σ fun _ σ'=>k .normal σ' else none
  | true=>bif B3U nt ops then (C05 T K fl ops of ops.toList σ fun Es σ'=>bif A9u (A2I ops.toList []) Es 0 Es then k .normal σ' else
    C05 T K fl ops of ops.toList (σ.pre of (D17 (E0 σ.ob of) Es)) fun Es2 σ2=>bif A9u (A2I ops.toList []) Es2 0 Es2 then k .normal σ2 else none) else none
 | .seq x y,σ,k=>T5 T K Lo fl fu nt of R x σ fun ex σ1=>match ex with
  | .normal=>T5 T K Lo fl fu nt of R y σ1 k
  | ex=>k ex σ1
 | .cond q x y,σ,k=>match evO (H2 σ.sl) q with
  | .b t=>bif t then T5 T K Lo fl fu nt of R x σ k else T5 T K Lo fl fu nt of R y σ k
  | _=>none
 | .block id body,σ,k=>T5 T K Lo fl fu nt of R body σ fun ex σ'=>match ex with
  | .exit id'=>k (bif Nat.beq id' id then .normal else .exit id') σ'
  | ex=>k ex σ'
 | .loop body,σ,k=>match Lo body with
  | some s=>s R of σ k
  | none=>A6T (A6a σ.sl []) (fun σ k=>T5 T K Lo fl fu nt of R body σ k) fu σ k
 | .rangeFunc g ps asg body,σ,k=>B6f T K nt of R g ps asg body σ k
 | _,_,_=>none
abbrev LS:=(R:Type)→(Nat→Option Ob)→St→(Exit→St→Option R)→Option R
def LS.nat (s:LS):Prop:=∀ (R:Type) (of:Nat→Option Ob) (σ:St) (k:Exit→St→Option R),s R of σ k=ob2 (s (Exit×St) of σ fun ex σ=>some (ex,σ)) k
def LS.dir (s:LS) (of:Nat→Option Ob) (σ:St):Option (Exit×St):=s (Exit×St) of σ fun ex σ=>some (ex,σ)
def Z6 (Lo:LC):A5E:=fun b=>match Lo b with
 | some s=>some (LS.dir s)
 | none=>none
def A2d (Lo:LC):Prop:=∀ b s,Lo b=some s→LS.nat s
theorem A6:A2d (fun _=>none):=fun b s h=>by cases h
theorem B6g {ks:List Nat} {f:St→(Exit→St→Option R)→Option R} {g:St→Option (Exit×St)} (h:∀ σ k,f σ k=ob2 (g σ) k):∀ (n:Nat) (σ:St) (k:Exit→St→Option R),A6T ks f n σ k=ob2 (A5F ks g n σ) k:=by
 intro n
 induction n with
 | zero=>intro σ k;rfl
 | succ n ih =>
  intro σ k
  simp only [A6T,A5F,h]
  cases hg:g (σ.tidy ks) with
  | none=>rfl
  | some p =>
   obtain ⟨ex,σ1⟩:=p
   simp only [ob2]
   cases ex with
   | normal=>exact ih σ1 k
   | _=>rfl
theorem A28 {K:KC} (hK:K.nat) {Lo:LC} (hLo:A2d Lo) {fl:Bool} {fu nt:Nat} (of:Nat→Option Ob) (R:Type):∀ (c:Code) (σ:St) (k:Exit→St→Option R),T5 T K Lo fl fu nt of R c σ k=ob2 (T3 T K.dir (Z6 Lo) fu nt of c σ) k:=by
 intro c
 induction c with
 | skip=>intro σ k;rfl
 | ret=>intro σ k;rfl
 | exit id=>intro σ k;rfl
 | region id ops draw =>
  intro σ k
  cases draw with
  | false =>
   simp only [T5,T3,B8z hK]
   cases ops.toList.all (A4j nt)
   ·rfl
   ·simp only [cond_true,if_true]
    cases Q3 T K.dir ops of ops.toList σ<;>rfl
  | true =>
   simp only [T5,T3,B8z hK]
   cases B3U nt ops
   ·rfl
   ·simp only [cond_true,if_true]
    cases Q3 T K.dir ops of ops.toList σ with
    | none=>rfl
    | some p =>
     obtain ⟨Es,σ'⟩:=p
     simp only [ob2]
     cases A9u (A2I ops.toList []) Es 0 Es
     ·simp only [cond_false,Bool.false_eq_true,if_false]
      cases Q3 T K.dir ops of ops.toList (σ.pre of (D17 (E0 σ.ob of) Es)) with
      | none=>rfl
      | some p2 =>
       obtain ⟨Es2,σ2⟩:=p2
       simp only
       cases A9u (A2I ops.toList []) Es2 0 Es2<;>rfl
     ·rfl
 | seq x y ihx ihy =>
  intro σ k
  simp only [T5,T3]
  rw [ihx]
  cases T3 T K.dir (Z6 Lo) fu nt of x σ with
  | none=>rfl
  | some p =>
   obtain ⟨ex,σ1⟩:=p
   simp only [ob2]
   cases ex with
   | normal=>exact ihy σ1 k
   | _=>rfl
 | cond q x y ihx ihy =>
  intro σ k
  simp only [T5,T3]
  cases evO (H2 σ.sl) q with
  | b t=>cases t
         ·exact ihy σ k
         ·exact ihx σ k
  | _=>rfl
 | block id body ih =>
  intro σ k
  simp only [T5,T3]
  rw [ih]
  cases T3 T K.dir (Z6 Lo) fu nt of body σ with
  | none=>rfl
  | some p =>
   obtain ⟨ex,σ1⟩:=p
   simp only [ob2]
   cases ex with
   | exit id'=>simp only;cases Nat.beq id' id<;>rfl
   | _=>rfl
 | loop body ih =>
  intro σ k
  simp only [T5,T3]
  cases hb:Lo body with
  | none =>
   simp only [Z6,hb]
   exact B6g (fun σ k=>ih σ k) fu σ k
  | some s =>
   simp only [Z6,hb]
   exact hLo body s hb R of σ k
 | rangeFunc g ps asg body _ _ =>
  intro σ k
  simp only [T5,T3]
  exact C06 hK
 | _=>intro σ k;rfl
def F0 (P:Program) (T:TT) (K:KC) (Lo:Nat→LC) (fl:Bool) (fu f:Nat):D3:=fun R args of nx k =>
 match P.funcs[f]? with
 | some fn=>match fn.body with
  | some code=>bif !(fn.name == "runtime.NumGoroutine")&&Nat.ble args.length fn.ntmps then
    T5 T K (Lo nx) fl fu fn.ntmps of R code ⟨A4V 0 args,.e,[],nx,some []⟩ fun ex σ=>bif C0W ex then
     (match σ.mks with
     | some ms=>bif B2g nx σ.nx σ.ob.get ms then
      (match A5H T (H2 σ.sl) (E0 σ.ob of) fn.results.toList with
      | some p=>k (A6c ms (A4U nx p.1 σ p.2))
      | none=>none) else none
     | none=>none) else none
    else none
  | none=>none
 | none=>none
theorem A8C {P:Program} {K:KC} (hK:K.nat) {Lo:Nat→LC} (hL:∀ n0,A2d (Lo n0)) {fl:Bool} {fu f:Nat} (R:Type) (args:List A) (of:Nat→Option Ob) (nx:Nat) (k:J2→Option R) :
  F0 P T K Lo fl fu f R args of nx k=ob (A9v P T K.dir (fun n0=>Z6 (Lo n0)) fu f args of nx) k:=by
 unfold F0 A9v
 cases hf:P.funcs[f]? with
 | none=>rfl
 | some fn =>
  simp only
  cases hb:fn.body with
  | none=>rfl
  | some code =>
   simp only [Q2]
   cases (!(fn.name == "runtime.NumGoroutine")&&Nat.ble args.length fn.ntmps)
   ·rfl
   ·simp only [cond_true]
    rw [A28 hK (hL nx) of R code]
    cases T3 T K.dir (Z6 (Lo nx)) fu fn.ntmps of code ⟨A4V 0 args,.e,[],nx,some []⟩ with
    | none=>rfl
    | some p =>
     obtain ⟨ex,σ⟩:=p
     simp only [ob2,Q2]
     cases C0W ex
     ·rfl
     ·simp only [cond_true]
      cases σ.mks with
      | none=>rfl
      | some ms =>
       simp only [Q2]
       cases B2g nx σ.nx σ.ob.get ms
       ·rfl
       ·simp only [cond_true]
        cases A5H T (H2 σ.sl) (E0 σ.ob of) fn.results.toList<;>rfl
theorem A5I {P:Program} {K:KC} (hK:K.nat) {Lo:Nat→LC} (hL:∀ n0,A2d (Lo n0)) {fl:Bool} {fu f:Nat}:(F0 P T K Lo fl fu f).nat:=by
 intro R args of nx k
 rw [A8C hK hL]
 have:(F0 P T K Lo fl fu f).dir args of nx=A9v P T K.dir (fun n0=>Z6 (Lo n0)) fu f args of nx:=by
  show F0 P T K Lo fl fu f J2 args of nx some=_
  rw [A8C hK hL]
  cases A9v P T K.dir (fun n0=>Z6 (Lo n0)) fu f args of nx<;>rfl
 rw [this]
theorem A8D {P:Program} (hm:P.follows .mixedOrders=true) (hT:L8 T P) {K:KC} (hK:K.nat) (hS:W6 P T K.dir) {Lo:Nat→LC} (hL:∀ n0,A2d (Lo n0)) {fl:Bool} {fu f:Nat} (hO:∀ n0 fn code,P.funcs[f]? = some fn→fn.body=some code→Q1 P T fn.ntmps n0 (Z6 (Lo n0)) code):J0 P T f (F0 P T K Lo fl fu f).dir:=by
 have:(F0 P T K Lo fl fu f).dir=A9v P T K.dir (fun n0=>Z6 (Lo n0)) fu f:=by
  funext args of nx
  show F0 P T K Lo fl fu f J2 args of nx some=_
  rw [A8C hK hL]
  cases A9v P T K.dir (fun n0=>Z6 (Lo n0)) fu f args of nx<;>rfl
 rw [this]
 exact B8w hm hT hS hO
theorem B0J:Z6 (fun _=>none)=fun _=>none:=rfl
def A35 (T:TT) (K:KC) (fl:Bool) (fu id:Nat):D3:=fun R args of nx k =>
 match lpE A3y (of id) with
 | some r=>bif Nat.beq args.length r.ps.size&&r.ps.toList.all (fun p=>Nat.blt p r.nt) then
   T5 T K (fun _=>none) fl fu r.nt of R r.asg ⟨B59 r.ps.toList args r.sl,.e,[id],nx,none⟩ fun ex σ1=>match ex with
    | .normal=>(match lpE A3y (E0 σ1.ob of id) with
     | some r1=>T5 T K (fun _=>none) fl fu r.nt of R r.body (setLp σ1 id { r1 with st:=.busy }) fun ex2 σ2=>ob (D7m id nx of (some (ex2,σ2))) k
     | none=>none)
    | _=>none
   else none
 | none=>none
theorem B0K {K:KC} (hK:K.nat) {fl:Bool} {fu id:Nat} (R:Type) (args:List A) (of:Nat→Option Ob) (nx:Nat) (k:J2→Option R):A35 T K fl fu id R args of nx k=ob (A34 T K.dir fu id args of nx) k:=by
 unfold A35 A34
 cases lpE A3y (of id) with
 | none=>rfl
 | some r =>
  simp only [Q2]
  cases (Nat.beq args.length r.ps.size&&r.ps.toList.all (fun p=>Nat.blt p r.nt))
  ·rfl
  ·simp only [cond_true]
   rw [A28 hK A6 of R r.asg,B0J]
   cases T3 T K.dir (fun _=>none) fu r.nt of r.asg ⟨B59 r.ps.toList args r.sl,.e,[id],nx,none⟩ with
   | none=>rfl
   | some p =>
    obtain ⟨ex,σ1⟩:=p
    simp only [ob2]
    cases ex with
    | normal =>
     simp only
     cases lpE A3y (E0 σ1.ob of id) with
     | none=>rfl
     | some r1 =>
      simp only
      rw [A28 hK A6 of R r.body,B0J]
      cases T3 T K.dir (fun _=>none) fu r.nt of r.body (setLp σ1 id { r1 with st:=.busy }) with
      | none=>rfl
      | some p2=>rfl
    | _=>rfl
theorem A8E {K:KC} (hK:K.nat) {fl:Bool} {fu id:Nat}:(A35 T K fl fu id).dir=A34 T K.dir fu id:=by
 funext args of nx
 show A35 T K fl fu id J2 args of nx some=_
 rw [B0K hK]
 cases A34 T K.dir fu id args of nx<;>rfl
theorem B6h {K:KC} (hK:K.nat) {fl:Bool} {fu id:Nat}:(A35 T K fl fu id).nat:=by
 intro R args of nx k
 rw [A8E hK,B0K hK]
variable {P:Program} {T:TT} {R:Type} {c:P9} {e:B9} {of:Nat→Option Ob}
mutual
def A2e (T:TT):Nat→Nat→Bool
 | 0,_=>false
 | d+1,t=>match D2 T t with
  | some (.int _) | some .bool | some .str=>true
  | some (.arr _ el)=>A2e T d el
  | some (.struct fs)=>B33 T d fs
  | _=>false
def B33 (T:TT):Nat→List Nat→Bool
 | 0,_=>false
 | _+1,[]=>true
 | d+1,t::r=>A2e T d t&&B33 T d r
end
theorem RV.flat:∀ (d:Nat) {e e':B9},(∀ {t:Nat} {xs:List V} {cs:List Value},A2e T d t=true→∀ n,RV T e (List.replicate n t) xs cs→RV T e' (List.replicate n t) xs cs) ∧
  (∀ {ts:List Nat} {xs:List V} {cs:List Value},B33 T d ts=true→RV T e ts xs cs→RV T e' ts xs cs):=by
 intro d
 induction d with
 | zero=>intro e e';exact ⟨fun h=>by simp [A2e] at h,fun h=>by simp [B33] at h⟩
 | succ d ih =>
  intro e e'
  have one:∀ {t:Nat} {x:V} {cs:List Value},A2e T (d+1) t=true→RV T e [t] [x] cs→RV T e' [t] [x] cs:=by
   intro t x cs hf h
   simp only [A2e] at hf
   cases h with
   | int h1 h2 hr g=>cases g;exact .int h1 h2 hr .nil
   | bool h1 h2 g=>cases g;exact .bool h1 h2 .nil
   | str h1 h2 g=>cases g;exact .str h1 h2 .nil
   | ptr h1=>rw [h1] at hf;cases hf
   | nils h1=>rw [h1] at hf;cases hf
   | map h1=>rw [h1] at hf;cases hf
   | func h1=>rw [h1] at hf;cases hf
   | fn h1=>rw [h1] at hf;cases hf
   | slice h1=>rw [h1] at hf;cases hf
   | arr h1 h2 g1 g=>rw [h1] at hf;cases g;exact .arr h1 h2 ((ih (e:=e) (e':=e')).1 hf _ g1) .nil
   | struct h1 h2 g1 g=>rw [h1] at hf;cases g;exact .struct h1 h2 ((ih (e:=e) (e':=e')).2 hf g1) .nil
  refine ⟨fun {t xs cs} hf n=>?_,fun {ts xs cs} hf h=>?_⟩
  ·induction n generalizing xs cs with
   | zero=>intro h;cases h;exact .nil
   | succ n ihn =>
    intro h
    rw [List.replicate_succ] at h ⊢
    cases xs with
    | nil=>cases h
    | cons x xs =>
     obtain ⟨d1,r,rfl,g1,g2⟩:=h.cons_inv
     exact (one hf g1).append (ts:=[t]) (xs:=[x]) (ihn g2)
  ·cases ts with
   | nil=>cases h;exact .nil
   | cons t ts =>
    simp only [B33,E0s] at hf
    cases xs with
    | nil=>cases h
    | cons x xs =>
     obtain ⟨d1,r,rfl,g1,g2⟩:=h.cons_inv
     exact ((ih (e:=e) (e':=e')).1 hf.1 1 g1).append (ts:=[t]) (xs:=[x]) ((ih (e:=e) (e':=e')).2 hf.2 g2)
theorem B6i {t:Nat} {y:V} {v:Value} (ht:(T t).isSome=true) (h:RV T e [t] [y] v.cells.toList) (ha:A0b T t v):C6 T e (mkA T t y) v:=by
 obtain ⟨te,hte⟩:=E0w.1 ht
 exact A1i (a:=.v t y) hte ⟨h,ha⟩ (P3 t y)
inductive RP (T:TT) (e:B9):List Nat→List V→List Value→Prop
 | nil:RP T e [] [] []
 | cons {t ts x xs v vs}:RV T e [t] [x] v.cells.toList→A0b T t v→RP T e ts xs vs→RP T e (t::ts) (x::xs) (v::vs)
theorem RP.change {e e':B9} (hf:∀ a ds,Fz e a ds→Fz e' a ds) {ts:List Nat} {xs:List V} {vs:List Value} (h:RP T e ts xs vs):RP T e' ts xs vs:=by
 induction h with
 | nil=>exact .nil
 | cons h1 h2 _ ih=>exact .cons (h1.change hf) h2 ih
def A0J (T:TT):(Nat→Option Ob)→List Nat→List A→Option (List V×List (Nat×Ob))
 | _,[],[]=>some ([],[])
 | of,t::ts,a::as=>match Q4 T DEP of t a with
  | some (x,wo)=>match A0J T (put of wo) ts as with
   | some (xs,wo')=>some (x::xs,wo++wo')
   | none=>none
  | none=>none
 | _,_,_=>none
theorem A8F:∀ {ts:List Nat} {as:List A} {vals:List Value} {e:B9} {of of':Nat→Option Ob} {xs:List V} {wo:List (Nat×Ob)},A7 T c e of'→A0J T of ts as=some (xs,wo)→(∀ id∈X5 wo,of' id=of id)→T7 T e as vals→Shd T c e of' wo fun e'=>RP T e' ts xs vals:=by
 intro ts
 induction ts with
 | nil =>
  intro as vals e of of' xs wo h hv ho hr
  cases as with
  | nil =>
   simp only [A0J,E0u,Prod.mk.injEq] at hv
   obtain ⟨rfl,rfl⟩:=hv
   cases hr
   exact ⟨e,rfl,h,B9.le.refl e,fun _ hu=>hu,.nil⟩
  | cons a as=>simp [A0J] at hv
 | cons t ts ih =>
  intro as vals e of of' xs wo h hv ho hr
  cases as with
  | nil=>simp [A0J] at hv
  | cons a as =>
   simp only [A0J] at hv
   split at hv<;>try (cases hv;done)
   rename_i x1 w1 h1
   split at hv<;>try (cases hv;done)
   rename_i xs2 w2 h2
   injection hv with hv;injection hv with hv1 hv2
   subst hv1;subst hv2
   have ho1:∀ id∈X5 w1,of' id=of id:=fun id A2=>ho id (by simp only [X5,List.map_append,E0C];exact .inl A2)
   have h1':=(A01 DEP).1 of of' t a x1 w1 h1 ho1
   cases hr with
   | @cons _ v _ vs r1 r2 =>
   obtain ⟨e1,p1,p2,p3,p4,p5⟩:=A1k h h1' r1
   have ag:=A6N h1' r1
   obtain ⟨e2,q1,q2,q3,q4,q5⟩:=ih p2 h2 (fun id A2=>B2q _ _ _ _ (ho id (by simp only [X5,List.map_append,E0C];exact .inr A2))) (r2.mono p3)
   exact ⟨e2,q1.trans p1,by rw [H9];exact q2,p3.trans q3,fun j hj=>p4 j (q4 j hj),.cons (p5.mono q3) ag q5⟩
theorem C7d:∀ {ts:List Nat} {as:List A} {of:Nat→Option Ob} {xs:List V} {wo:List (Nat×Ob)},A0J T of ts as=some (xs,wo)→A0A of wo:=by
 intro ts
 induction ts with
 | nil =>
  intro as of xs wo h
  cases as with
  | nil=>simp only [A0J,E0u,Prod.mk.injEq] at h;rw [← h.2];intro p hp;cases hp
  | cons a as=>simp [A0J] at h
 | cons t ts ih =>
  intro as of xs wo h
  cases as with
  | nil=>simp [A0J] at h
  | cons a as =>
   simp only [A0J] at h
   split at h<;>try (cases h;done)
   rename_i x1 w1 h1
   split at h<;>try (cases h;done)
   rename_i xs2 w2 h2
   injection h with h;injection h with _ hv2
   subst hv2
   exact A2F ((C7u DEP).1 _ _ _ _ _ h1) (ih h2)
def L6 (T:TT):List Nat→List V→List A
 | t::ts,x::xs=>mkA T t x::L6 T ts xs
 | _,_=>[]
theorem RP.reps {ts:List Nat} {xs:List V} {vs:List Value} (h:RP T e ts xs vs) (ht:ts.all (fun t=>(T t).isSome)=true):T7 T e (L6 T ts xs) vs:=by
 induction h with
 | nil=>exact .nil
 | cons h1 h2 _ ih =>
  simp only [List.all_cons,E0s] at ht
  exact .cons (B6i ht.1 h1 h2) (ih ht.2)
inductive RK where
 | d (t:Nat)
 | r (el:Nat)
inductive Rs where
 | d (t:Nat) (y:V)
 | r (el:Nat) (xs:List V) (nl:Bool)
def D2d:A→List A
 | .t l=>l
 | a=>[a]
def dL (T:TT) (sh:Bool):(Nat→Option Ob)→List A→List RK→Option (List V×List (Nat×Ob))
 | _,[],[]=>some ([],[])
 | of,a::l,.d t::r=>match Q4 T DEP of t a with
  | some (y,wo)=>bif (T t).isSome&&(sh||A2e T 8 t) then (match dL T sh (put of wo) l r with
   | some (ys,wo')=>some (y::ys,wo++wo')
   | none=>none) else none
  | none=>none
 | of,_::l,.r _::r=>match dL T sh of l r with
  | some (ys,wo)=>some (.n::ys,wo)
  | none=>none
 | _,_,_=>none
def D2e (T:TT) (sh:Bool) (of:Nat→Option Ob) (el:Nat) (a:A):Option (List V×Bool) :=
 match a with
 | .o id ver=>match of id with
  | some (.row el' v xs nl false)=>bif Nat.beq el el'&&Nat.beq v ver&&(sh||A2e T 8 el) then some (xs,nl) else none
  | _=>none
 | .z v=>bif A8N v&&Nat.blt 0 (C1 T el) then some ([],true) else none
 | _=>none
def rL (T:TT) (sh:Bool) (of:Nat→Option Ob):List A→List V→List RK→Option (List Rs)
 | [],[],[]=>some []
 | _::l,y::ys,.d t::r=>match rL T sh of l ys r with
  | some rs=>some (.d t y::rs)
  | none=>none
 | a::l,_::ys,.r el::r=>match D2e T sh of el a with
  | some (xs,nl)=>match rL T sh of l ys r with
   | some rs=>some (.r el xs nl::rs)
   | none=>none
  | none=>none
 | _,_,_=>none
def A6m:List RK→Nat
 | []=>0
 | .d _::r=>A6m r
 | .r _::r=>A6m r+1
def isT:A→Bool
 | .t _=>true
 | _=>false
def P2 (T:TT) (sh:Bool) (rk:List RK) (out:J2):Option (List Rs) :=
 bif Nat.beq rk.length 1 == isT out.val then none else
 match dL T sh (put (fun _=>none) out.wo) (D2d out.val) rk with
 | some (ys,wo)=>bif Nat.ble (A6m rk) 1 then rL T sh (put (put (fun _=>none) out.wo) wo) (D2d out.val) ys rk else none
 | none=>none
def V6 (T:TT):Nat→List Rs→List A×List (Nat×Ob)×Nat
 | nx,[]=>([],[],nx)
 | nx,.d t y::r=>let p:=V6 T nx r
  (mkA T t y::p.1,p.2.1,p.2.2)
 | nx,.r el xs nl::r=>let p:=V6 T (nx+1) r
  (.o nx 1::p.1,(nx,.row el 1 xs nl false)::p.2.1,p.2.2)
def D2f:List A→A
 | [a]=>a
 | l=>.t l
abbrev FC:=(R:Type)→List V→(List Rs→Option R)→Option R
def FC.nat (F:FC):Prop:=∀ (R:Type) (xs:List V) (k:List Rs→Option R),F R xs k=ob (F (List Rs) xs some) k
def toC {R:Type} (T:TT) (of:Nat→Option Ob) (t:Nat) (a:A) (k:V×List (Nat×Ob)→Option R):Option R :=
 match a with
 | .w id ver off n=>(match D2 T t,of id with
  | some (.slice el),some (.row el' v xs nl _)=>bif Nat.beq el el'&&Nat.beq v ver&&Nat.beq (C1 T t) 1 then bif Nat.ble (off+n) xs.length then k (.l ((xs.drop off).take n),[(id,.row el' v xs nl true)]) else none else none
  | _,_=>none)
 | a=>ob (Q4 T DEP of t a) k
theorem D7q {R:Type} (of:Nat→Option Ob) (t:Nat) (a:A) (k:V×List (Nat×Ob)→Option R):toC T of t a k=ob (Q4 T DEP of t a) k:=by
 unfold toC
 cases a with
 | w id ver off n =>
  simp only [DEP,Q4,A0T]
  cases D2 T t with
  | none=>rfl
  | some kk=>cases kk with
   | slice el=>cases of id with
    | none=>rfl
    | some o=>cases o with
     | row el' v xs nl sh =>
      simp only
      cases (Nat.beq el el'&&Nat.beq v ver&&Nat.beq (C1 T t) 1)<;>cases Nat.ble (off+n) xs.length<;>rfl
     | _=>rfl
   | _=>rfl
 | _=>rfl
def B8A {R:Type} (T:TT):(Nat→Option Ob)→List Nat→List A→(List V×List (Nat×Ob)→Option R)→Option R
 | _,[],[],k=>k ([],[])
 | of,t::ts,a::as,k=>toC T of t a fun p=>B8A T (put of p.2) ts as fun q=>k (p.1::q.1,p.2++q.2)
 | _,_,_,_=>none
theorem B34 {R:Type}:∀ (ts:List Nat) (of:Nat→Option Ob) (as:List A) (k:List V×List (Nat×Ob)→Option R),B8A T of ts as k=ob (A0J T of ts as) k:=by
 intro ts
 induction ts with
 | nil=>intro of as k;cases as<;>rfl
 | cons t ts ih =>
  intro of as k
  cases as with
  | nil=>rfl
  | cons a as =>
   simp only [B8A,D7q,ih,A0J]
   cases Q4 T DEP of t a with
   | none=>rfl
   | some p =>
    simp only [ob]
    cases A0J T (put of p.2) ts as<;>rfl
def H5 (T:TT) (sh:Bool) (ts:List Nat) (F:FC):D3:=fun R args of nx k =>
 B8A T of ts args fun p=>F R p.1 fun rs=>k ⟨D2f (V6 T nx rs).1,(bif sh then A2h of p.2 else [])++(V6 T nx rs).2.1,X5 p.2,(V6 T nx rs).2.2⟩
theorem B0L {sh:Bool} {ts:List Nat} {F:FC} (hF:F.nat):(H5 T sh ts F).nat:=by
 intro R args of nx k
 simp only [H5,D3.dir,B34]
 cases A0J T of ts args with
 | none=>rfl
 | some p =>
  simp only [ob]
  rw [hF R,hF J2]
  cases F (List Rs) p.1 some<;>rfl
variable {P:Program} {T:TT} {R:Type} {c:P9} {e:B9} {of:Nat→Option Ob}
def B9.grown (e:B9) (w:World) (S2:Nat→Nat→Prop):B9:={ e with w:=w,S:=fun b i=>e.S b i∨(e.w.heap.size≤b∧S2 b i) }
theorem A7.grown (h:A7 T c e of) {w':World} {S2:Nat→Nat→Prop} (hsz:e.w.heap.size≤w'.heap.size) (hb:∀ b,b < e.w.heap.size→w'.heap[b]? = e.w.heap[b]?) (h1:w'.os=e.w.os) (h2:w'.tape=e.w.tape) (h3:w'.output=e.w.output) (hS:∀ b i,S2 b i→b < w'.heap.size) :
  A7 T c (e.grown w' S2) of∧e.le (e.grown w' S2):=by
 have hle:e.le (e.grown w' S2):=by
  refine ⟨fun b i hs=>⟨.inl hs,fun x hx=>?_⟩,fun _ h=>h,fun id hu _=>⟨rfl,rfl,fun b o hι=>E5 (hb b (h.lt _ _ _ hu hι))⟩,fun _ _ h=>h,fun _ _=>Nat.le_refl _,fun _ _=>rfl,hsz,fun b hb'=>E5 (hb b hb')⟩
  show w'.cell? ⟨b,i,none⟩=some x
  rw [G2 (hb b (h.slt _ _ hs))];exact hx
 refine ⟨⟨fun id o ho=>?_,h.sep,h.own,fun id b o hu hι=>Nat.lt_of_lt_of_le (h.lt id b o hu hι) hsz,fun b i hs=>?_,fun b i hs=>.inl (h.s0 _ _ hs),fun b i hs=>?_,h1.trans h.os,h2.trans h.tape,h3.trans h.output,Nat.le_trans h.size hsz,fun k hk hm=>?_,h.g.mono (fun _ _ q=>q) rfl (fun _ q=>q) hsz (fun j b o hj hb=>.inl ⟨j,o,hj,hb⟩)⟩,hle⟩
 ·exact (h.ok id o ho).keep hle rfl (fun b o' hι=>hb b (h.lt _ _ _ (h.ok id o ho).use hι)) (fun b o' i hι hs=>by
   rcases hs with hs | ⟨hs,_⟩
   ·exact hs
   ·exact absurd (h.lt _ _ _ (h.ok id o ho).use hι) (by omega)) (fun a o' b _ hG=>⟨hG,hb b (h.g.lt _ _ hG),fun i hs=>by
   rcases hs with hs | ⟨hs,_⟩
   ·exact hs
   ·exact absurd (h.g.lt _ _ hG) (by omega)⟩)
 ·rcases hs with hs | ⟨_,hs⟩
  ·exact Nat.lt_of_lt_of_le (h.slt _ _ hs) hsz
  ·exact hS _ _ hs
 ·rcases hs with hs | ⟨hs,_⟩
  ·exact h.snew _ _ hs
  ·exact .inr (.inl (Nat.le_trans h.size hs))
 ·show w'.heap[k]? = _
  rw [hb k (Nat.lt_of_lt_of_le hk h.size)];exact h.block k hk hm
def B9.adopt (e:B9) (id b o el n:Nat):B9:={ e with ι:=G3 e.ι id (some (b,o)),bn:=G3 e.bn id 1,U:=fun j=>j=id∨e.U j,ty:=G3 e.ty id el,ln:=G3 e.ln id n }
theorem A7.adopt (h:A7 T c e of) {id b o el:Nat} {xs:List V} {cs:Array Value} {t:TypeId} {fz:Nat×Nat} {pre ys post:List Value} (hu:¬ e.U id) (hz:0 < C1 T el) (hb:e.w.heap[b]? = some (.cells cs t fz)) (hf:A1B e.w b cs) (hcs:cs.toList=pre++ys++post) (hp:pre.length=o) (hr:RV T e (List.replicate xs.length el) xs ys)
  (h1:∀ i,o+ys.length≤i→¬ e.S b i) (h2:∀ i,o≤i→¬ e.S b i) (hnew:c.w0.heap.size≤b) (hown:∀ j b' o',(of j).isSome→e.ι j=some (b',o')→b'≠b) (hnG:∀ a,¬ e.G a b) :
  A7 T c (e.adopt id b o el xs.length) (G3 of id (some (.row el 1 xs false false)))∧e.le (e.adopt id b o el xs.length):=by
 have hne:∀ j,e.U j→j≠id:=fun j hj hq=>hu (hq ▸ hj)
 have hblt:b < e.w.heap.size:=(Array.getElem?_eq_some_iff.1 hb).1
 have hle:e.le (e.adopt id b o el xs.length):=by
  refine ⟨fun b i hs=>⟨hs,fun x hx=>hx⟩,fun j hj=>.inr hj,fun j hj _=>⟨A4 _ _ (hne j hj),A4 _ _ (hne j hj),fun _ _ _=>rfl⟩,fun j hj h0=>?_,fun j hj=>?_,fun j hj=>A4 _ _ (hne j hj),Nat.le_refl _,fun _ _=>rfl⟩
  ·show G3 e.bn id 1 j=0
   rw [A4 _ _ (hne j hj)];exact h0
  ·show _≤G3 e.bn id 1 j
   rw [A4 _ _ (hne j hj)];exact Nat.le_refl _
 have hιid:(e.adopt id b o el xs.length).ι id=some (b,o):=upd_same _ _ _
 have hι:∀ j,j≠id→(e.adopt id b o el xs.length).ι j=e.ι j:=fun j hj=>A4 _ _ hj
 refine ⟨⟨fun j ob hj=>?_,fun j k b1 q b2 q' hj hk hb1 hb2 hjk=>?_,fun j b1 q hj hb1=>?_,fun j b1 q hj hb1=>?_,h.slt,h.s0,h.snew,h.os,h.tape,h.output,h.size,h.block,?_⟩,hle⟩
 ·by_cases hjid:j=id
  ·subst hjid
   rw [upd_same] at hj;cases hj
   refine ⟨.inl rfl,by omega,upd_same _ _ _,upd_same _ _ _,upd_same _ _ _,hz,.inr ⟨rfl,b,o,cs,t,fz,pre,ys,post,hιid,hb,hf,hcs,hp,hr.mono hle,h1,fun _=>h2⟩⟩
  ·rw [A4 _ _ hjid] at hj
   exact (h.ok j ob hj).keep hle (A4 _ _ hjid) (fun _ _ _=>rfl) (fun _ _ _ _ hs=>hs) (fun a o' b _ hG=>⟨hG,rfl,fun i hs=>hs⟩)
 ·by_cases h1':j=id
  ·have h2':k≠id:=fun hq=>hjk (h1'.trans hq.symm)
   subst h1'
   rw [hιid] at hb1;cases hb1
   rw [hι _ h2'] at hb2
   rw [A4 _ _ h2'] at hk
   exact fun hq=>hown k b2 q' hk hb2 hq.symm
  ·rw [hι _ h1'] at hb1
   rw [A4 _ _ h1'] at hj
   by_cases h2':k=id
   ·subst h2'
    rw [hιid] at hb2;cases hb2
    exact hown j b1 q hj hb1
   ·rw [hι _ h2'] at hb2
    rw [A4 _ _ h2'] at hk
    exact h.sep j k b1 q b2 q' hj hk hb1 hb2 hjk
 ·by_cases h1':j=id
  ·subst h1';rw [hιid] at hb1;cases hb1;exact .inl hnew
  ·rw [hι _ h1'] at hb1
   rw [A4 _ _ h1'] at hj
   exact h.own j b1 q hj hb1
 ·by_cases h1':j=id
  ·subst h1';rw [hιid] at hb1;cases hb1;exact hblt
  ·rw [hι _ h1'] at hb1
   rcases hj with hj | hj
   ·exact absurd hj h1'
   ·exact h.lt j b1 q hj hb1
 ·refine ⟨fun a b1 hG j b2 q hj hb2=>?_,h.g.uniq,h.g.own,h.g.lt⟩
  by_cases h1':j=id
  ·subst h1';rw [hιid] at hb2;cases hb2;exact fun hq=>hnG a (hq ▸ hG)
  ·rw [hι _ h1'] at hb2
   rw [A4 _ _ h1'] at hj
   exact h.g.sep a b1 hG j b2 q hj hb2
inductive RR (T:TT) (sh:Bool) (e:B9) (B:Nat):List RK→List Rs→List Value→Prop
 | nil:RR T sh e B [] [] []
 | d {t y v rk rs vs}:(T t).isSome=true→(sh||A2e T 8 t)=true→RV T e [t] [y] v.cells.toList→A0b T t v→RR T sh e B rk rs vs→RR T sh e B (.d t::rk) (.d t y::rs) (v::vs)
 | n {el rk rs vs}:0 < C1 T el→RR T sh e B rk rs vs→RR T sh e B (.r el::rk) (.r el [] true::rs) (.slice none 0 0::vs)
 | r {el xs b o cs t fz pre ys post k cap rk rs vs}:0 < C1 T el→(sh||A2e T 8 el)=true→B≤b→e.w.heap[b]? = some (.cells cs t fz)→A1B e.w b cs→cs.toList=pre++ys++post→pre.length=o→RV T e (List.replicate xs.length el) xs ys →
   (∀ i,o+ys.length≤i→¬ e.S b i)→(∀ i,o≤i→¬ e.S b i)→xs.length≤cap→o+cap * C1 T el=cs.size→(0 < cap→k=o)→RR T sh e B rk rs vs→RR T sh e B (.r el::rk) (.r el xs false::rs) (.slice (some ⟨b,k,none⟩) xs.length cap::vs)
theorem D2g {sh:Bool}:∀ {rk:List RK} {l:List A} {vs:List Value} {e:B9} {of:Nat→Option Ob} {ys:List V} {wo:List (Nat×Ob)},A7 T c e of→dL T sh of l rk=some (ys,wo)→T7 T e l vs →
  ∃ e':B9,e'.w=e.w∧A7 T c e' (put of wo)∧e.le e'∧(∀ j,e'.U j→e.U j)∧T7 T e' l vs ∧
   ∀ rs,rL T sh (put of wo) l ys rk=some rs→∀ B,(∀ id el v xs nl sh' b o,put of wo id=some (.row el v xs nl sh')→e'.ι id=some (b,o)→B≤b)→RR T sh e' B rk rs vs:=by
 intro rk
 induction rk with
 | nil =>
  intro l vs e of ys wo h hd hr
  cases l with
  | nil =>
   simp only [dL,E0u,Prod.mk.injEq] at hd
   obtain ⟨rfl,rfl⟩:=hd
   refine ⟨e,rfl,h,B9.le.refl e,fun _ hu=>hu,hr,fun rs hrs B _=>?_⟩
   simp only [rL,E0u] at hrs
   subst hrs
   cases hr;exact .nil
  | cons a l=>simp [dL] at hd
 | cons k rk ih =>
  intro l vs e of ys wo h hd hr
  cases l with
  | nil=>cases k<;>simp [dL] at hd
  | cons a l =>
   cases k with
   | d t =>
    simp only [dL] at hd
    split at hd<;>try (cases hd;done)
    rename_i y w1 h1
    cases hc:((T t).isSome&&(sh||A2e T 8 t)) with
    | false=>rw [hc] at hd;cases hd
    | true =>
     rw [hc] at hd
     simp only [cond_true] at hd
     split at hd<;>try (cases hd;done)
     rename_i ys2 w2 h2
     simp only [E0u,Prod.mk.injEq] at hd
     obtain ⟨rfl,rfl⟩:=hd
     simp only [E0s] at hc
     cases hr with
     | @cons _ v _ vs r1 r2 =>
     obtain ⟨e1,p1,p2,p3,p4,p5⟩:=A1k h h1 r1
     have ag:=A6N h1 r1
     obtain ⟨e2,q1,q2,q3,q4,q6,q5⟩:=ih p2 h2 (r2.mono p3)
     refine ⟨e2,q1.trans p1,by rw [H9];exact q2,p3.trans q3,fun j hj=>p4 j (q4 j hj),.cons ((r1.mono p3).mono q3) q6,fun rs hrs B hB=>?_⟩
     simp only [rL] at hrs
     split at hrs<;>try (cases hrs;done)
     rename_i rs2 hrs2
     simp only [E0u] at hrs
     subst hrs
     rw [H9] at hrs2 hB
     exact .d hc.1 hc.2 (p5.mono q3) ag (q5 _ hrs2 B hB)
   | r el =>
    simp only [dL] at hd
    split at hd<;>try (cases hd;done)
    rename_i ys2 w2 h2
    simp only [E0u,Prod.mk.injEq] at hd
    obtain ⟨rfl,rfl⟩:=hd
    cases hr with
    | @cons _ v _ vs r1 r2 =>
    obtain ⟨e2,q1,q2,q3,q4,q6,q5⟩:=ih h h2 r2
    refine ⟨e2,q1,q2,q3,q4,.cons (r1.mono q3) q6,fun rs hrs B hB=>?_⟩
    simp only [rL] at hrs
    split at hrs<;>try (cases hrs;done)
    rename_i xs nl hn
    split at hrs<;>try (cases hrs;done)
    rename_i rs2 hrs2
    simp only [E0u] at hrs
    subst hrs
    have rest:=q5 _ hrs2 B hB
    have r1':=r1.mono q3
    cases a with
    | o id ver =>
     simp only [D2e] at hn
     split at hn<;>try (cases hn;done)
     rename_i el' v' xs' nl' hof
     cases hc:(Nat.beq el el'&&Nat.beq v' ver&&(sh||A2e T 8 el)) with
     | false=>rw [hc] at hn;cases hn
     | true =>
      rw [hc] at hn
      simp only [cond_true,E0u,Prod.mk.injEq] at hn
      obtain ⟨rfl,rfl⟩:=hn
      simp only [E0s] at hc
      obtain ⟨⟨c1,c2⟩,c3⟩:=hc
      have:=E0r c1;subst this
      have:=E0r c2;subst this
      obtain ⟨g1,g2,g3,g4,g4',g5,g6⟩:=q2.ok _ _ hof
      rcases M4 r1' g3 with ⟨k1,k2,rfl⟩ | ⟨b,o,cap,k,k1,k2,k3,k4,rfl⟩
      ·rcases g6 with ⟨rfl,_,rfl⟩ | ⟨_,b,o,cs,t,fz,pre,ys,post,m1,_⟩
       ·exact .n g5 rest
       ·rw [k1] at m1;cases m1
      ·rcases g6 with ⟨_,m1,_⟩ | ⟨rfl,b',o',cs,t,fz,pre,ys,post,m1,m2,m3,m4,m5,m6,m7,m8⟩
       ·rw [k1] at m1;cases m1
       ·rw [k1] at m1;cases m1
        rw [g4'] at k2 ⊢
        rw [g4] at k3
        rw [U1 m2] at k3
        exact .r g5 c3 (hB _ _ _ _ _ _ _ _ hof k1) m2 m3 m4 m5 m6 m7 (m8 rfl) k2 k3 k4 rest
    | z v0 =>
     simp only [D2e] at hn
     cases hc:(A8N v0&&Nat.blt 0 (C1 T el)) with
     | false=>rw [hc] at hn;cases hn
     | true =>
      rw [hc] at hn
      simp only [cond_true,E0u,Prod.mk.injEq] at hn
      obtain ⟨rfl,rfl⟩:=hn
      simp only [E0s] at hc
      have hx:RA T e2 [.z v0] [v]:=r1'
      have hv:v=.slice none 0 0:=by
       cases hx with
       | z _ _=>exact A2D hc.1
       | r g1 _ _=>exact g1.elim
      subst hv
      exact .n (by simpa [Nat.blt_eq] using hc.2) rest
    | _=>simp [D2e] at hn
theorem RR.flat {sh:Bool} {B:Nat} {e e':B9} (hw:e'.w=e.w) (hf:sh=true→∀ a ds,Fz e a ds→Fz e' a ds) (hS:∀ b i,B≤b→e'.S b i→e.S b i):∀ {rk:List RK} {rs:List Rs} {vs:List Value},RR T sh e B rk rs vs→RR T sh e' B rk rs vs:=by
 intro rk rs vs h
 have one:∀ {t:Nat} {ts:List Nat} (n:Nat) {xs:List V} {cs:List Value},(sh||A2e T 8 t)=true→ts=List.replicate n t→RV T e ts xs cs→RV T e' ts xs cs:=fun {t ts} n {xs cs} hc hts g=>by
  cases hsh:sh with
  | true=>exact g.change (hf hsh)
  | false =>
   rw [hsh,Bool.false_or] at hc
   subst hts
   exact (RV.flat 8 (e:=e) (e':=e')).1 hc n g
 induction h with
 | nil=>exact .nil
 | d h1 h2 h3 h4 _ ih=>exact .d h1 h2 (one 1 h2 rfl h3) h4 ih
 | n h1 _ ih=>exact .n h1 ih
 | r h1 h2 h3 h4 h5 h6 h7 h8 h9 h10 h11 h12 h13 _ ih =>
  exact .r h1 h2 h3 (by rw [hw];exact h4) (by rw [hw];exact h5) h6 h7 (one _ h2 rfl h8) (fun i hi hs=>h9 i hi (hS _ _ h3 hs)) (fun i hi hs=>h10 i hi (hS _ _ h3 hs)) h11 h12 h13 ih
theorem RR.data {sh:Bool} {B nx:Nat}:∀ {rk:List RK} {rs:List Rs} {vs:List Value},RR T sh e B rk rs vs→A6m rk=0→(V6 T nx rs).2=([],nx)∧T7 T e (V6 T nx rs).1 vs:=by
 intro rk rs vs h
 induction h with
 | nil=>intro _;exact ⟨rfl,.nil⟩
 | d h1 h2 h3 h4 _ ih =>
  intro hc
  obtain ⟨p,q⟩:=ih hc
  refine ⟨?_,.cons (B6i h1 h3 h4) q⟩
  simp only [V6]
  exact Prod.ext (congrArg Prod.fst p) (congrArg Prod.snd p)
 | n _ _ _=>intro hc;simp [A6m] at hc
 | r _ _ _ _ _ _ _ _ _ _ _ _ _ _ _=>intro hc;simp [A6m] at hc
theorem RR.take {sh:Bool} {B nx:Nat}:∀ {rk:List RK} {rs:List Rs} {vs:List Value} {e:B9} {of:Nat→Option Ob},A7 T c e of→RR T sh e B rk rs vs→A6m rk≤1→(∀ id,nx≤id→id < (V6 T nx rs).2.2→¬ e.U id)→c.w0.heap.size≤B→(∀ j b o,(of j).isSome→e.ι j=some (b,o)→b < B)→(∀ a b,e.G a b→b < B) →
  nx≤(V6 T nx rs).2.2∧∃ e':B9,e'.w=e.w∧A7 T c e' (put of (V6 T nx rs).2.1)∧e.le e'∧(∀ id,e'.U id→e.U id∨(nx≤id∧id < (V6 T nx rs).2.2))∧T7 T e' (V6 T nx rs).1 vs:=by
 intro rk rs vs e of hos h
 induction h with
 | nil=>intro _ _ _ _ _;exact ⟨Nat.le_refl _,e,rfl,hos,B9.le.refl e,fun _ hu=>.inl hu,.nil⟩
 | d h1 h2 h3 h4 hr ih =>
  intro hc hu hB hb hGB
  obtain ⟨g0,e',g1,g2,g3,g4,g5⟩:=ih hc hu hB hb hGB
  exact ⟨g0,e',g1,g2,g3,g4,.cons (B6i h1 (h3.mono g3) h4) g5⟩
 | @n el rk rs vs hz hr ih =>
  intro hc hu hB hb hGB
  have hc0:A6m rk=0:=by simp only [A6m] at hc;omega
  obtain ⟨p,q⟩:=hr.data (nx:=nx+1) hc0
  have e1:(V6 T nx (.r el [] true::rs)).2.2=nx+1:=by simp only [V6];rw [p]
  have e2:(V6 T nx (.r el [] true::rs)).2.1=[(nx,.row el 1 [] true false)]:=by simp only [V6];rw [p]
  have hun:¬ e.U nx:=hu nx (Nat.le_refl _) (by rw [e1];omega)
  have hle:=hos.le_nil (el:=el) hun
  refine ⟨by rw [e1];omega,e.nil nx el,rfl,by rw [e2];exact hos.nil hun rfl hz,hle,fun id A2=>?_,?_⟩
  ·rcases A2 with rfl | A2
   ·exact .inr ⟨Nat.le_refl _,by rw [e1];omega⟩
   ·exact .inl A2
  ·simp only [V6]
   exact .cons (A3A (.inl rfl) (upd_same _ _ _) (by omega) (upd_same _ _ _) (upd_same _ _ _)) (q.mono hle)
 | @r el xs b o cs t fz pre ys post k cap rk rs vs hz hfl hb1 h4 h5 h6 h7 h8 h9 h10 h11 h12 h13 hr ih =>
  intro hc hu hB hb hGB
  have hc0:A6m rk=0:=by simp only [A6m] at hc;omega
  obtain ⟨p,q⟩:=hr.data (nx:=nx+1) hc0
  have e1:(V6 T nx (.r el xs false::rs)).2.2=nx+1:=by simp only [V6];rw [p]
  have e2:(V6 T nx (.r el xs false::rs)).2.1=[(nx,.row el 1 xs false false)]:=by simp only [V6];rw [p]
  have hun:¬ e.U nx:=hu nx (Nat.le_refl _) (by rw [e1];omega)
  obtain ⟨g1,hle⟩:=hos.adopt (id:=nx) hun hz h4 h5 h6 h7 h8 h9 h10 (Nat.le_trans hB hb1) (fun j b' o' hj hι hq=>by have:=hb j b' o' hj hι;omega) (fun a hG=>by have:=hGB a b hG;omega)
  refine ⟨by rw [e1];omega,e.adopt nx b o el xs.length,rfl,by rw [e2];exact g1,hle,fun id A2=>?_,?_⟩
  ·rcases A2 with rfl | A2
   ·exact .inr ⟨Nat.le_refl _,by rw [e1];omega⟩
   ·exact .inl A2
  ·simp only [V6]
   refine .cons ?_ (q.mono hle)
   have ln:(e.adopt nx b o el xs.length).ln nx=xs.length:=upd_same _ _ _
   have:=A1l (T:=T) (e:=e.adopt nx b o el xs.length) (id:=nx) (ver:=1) (b:=b) (o:=o) (cap:=cap) (.inl rfl) (upd_same _ _ _) (by omega) (upd_same _ _ _) (by rw [ln];exact h11) (by
    rw [show (e.adopt nx b o el xs.length).ty nx=el from upd_same _ _ _,U1 (show (e.adopt nx b o el xs.length).w.heap[b]? = _ from h4)];exact h12) (k:=k) h13
   rw [ln] at this
   exact this
variable {P:Program} {T:TT} {R:Type} {c:P9} {e:B9} {of:Nat→Option Ob}
def TV (T:TT) (ts:List Nat) (xs:List V):Prop:=∃ e vs,RP T e ts xs vs
theorem A4X {α β:Type} {o:Option α} {k:α→Option β} {b:β} (h:ob o k=some b):∃ a,o=some a∧k a=some b:=by
 cases o with
 | none=>cases h
 | some a=>exact ⟨a,rfl,h⟩
theorem C7e {nx:Nat}:∀ {rs:List Rs} {nx:Nat},∀ a∈(V6 T nx rs).1,∀ l,a≠.t l:=by
 intro rs
 induction rs with
 | nil=>intro nx a ha;simp [V6] at ha
 | cons r rs ih =>
  intro nx a ha
  cases r with
  | d t y =>
   simp only [V6,List.mem_cons] at ha
   rcases ha with rfl | ha
   ·exact A3r _ _
   ·exact ih a ha
  | r el xs nl =>
   simp only [V6,List.mem_cons] at ha
   rcases ha with rfl | ha
   ·intro l h;cases h
   ·exact ih a ha
theorem C7f {nx:Nat} {rs:List Rs}:(V6 T nx rs).1.length=rs.length:=by
 induction rs generalizing nx with
 | nil=>rfl
 | cons r rs ih=>cases r<;>simp [V6,ih]
theorem D7r {sh:Bool} {of:Nat→Option Ob}:∀ {rk:List RK} {l:List A} {ys:List V} {rs:List Rs},rL T sh of l ys rk=some rs→rs.length=rk.length:=by
 intro rk
 induction rk with
 | nil=>intro l ys rs h;cases l<;>cases ys<;>simp [rL] at h;subst h;rfl
 | cons k rk ih =>
  intro l ys rs h
  cases l with
  | nil=>cases k<;>simp [rL] at h
  | cons a l=>cases ys with
   | nil=>cases k<;>simp [rL] at h
   | cons y ys =>
    cases k with
    | d t =>
     simp only [rL] at h
     split at h<;>try (cases h;done)
     rename_i rs' h'
     simp only [E0u] at h;subst h
     simp [ih h']
    | r el =>
     simp only [rL] at h
     split at h<;>try (cases h;done)
     split at h<;>try (cases h;done)
     rename_i rs' h'
     simp only [E0u] at h;subst h
     simp [ih h']
theorem B6j:∀ {l:List A} {xs:List Value},xs.length=l.length→(∀ (i:Nat) v x,l[i]? = some v→xs[i]? = some x→H6 T e v x)→T7 T e l xs:=by
 intro l
 induction l with
 | nil=>intro xs h _;cases xs with
  | nil=>exact .nil
  | cons _ _=>simp at h
 | cons a l ih =>
  intro xs h hr
  cases xs with
  | nil=>simp at h
  | cons x xs =>
   refine .cons ?_ (ih (by simpa using h) (fun i v x hv hx=>hr (i+1) v x (by simpa using hv) (by simpa using hx)))
   have:=hr 0 a x rfl rfl
   cases a with
   | t l=>exact this.elim
   | _=>exact this
theorem B6k {l:List A} {xs:List Value} (h:T7 T e l xs) (hn:∀ a∈l,∀ m,a≠.t m):C6 T e (.t l) (.tuple xs.toArray):=by
 obtain ⟨h1,h2⟩:=h.get
 refine ⟨xs.toArray,rfl,by simpa using h1,fun i v x hv hx=>?_⟩
 exact A6S (h2 i v x hv (by simpa using hx)) (hn v (List.mem_of_getElem? hv))
theorem B8B {f:FuncId} {s:D3} (hn:s.nat) (hs:J0 P T f s.dir) {sh:Bool} {ts:List Nat} {rk:List RK} {F:FC} (hFn:F.nat) (hts:ts.all (fun t=>(T t).isSome)=true)
  (hF:∀ xs rs,TV T ts xs→F (List Rs) xs some=some rs→s (List Rs) (L6 T ts xs) (fun _=>none) 0 (fun out=>P2 T sh rk out)=some rs):J0 P T f (H5 T sh ts F).dir:=by
 intro c e of of' args vals nx out hos hrun hro hu hvals
 unfold D3.dir H5 at hrun
 rw [B34] at hrun
 obtain ⟨⟨xs,wo⟩,hargs,hrun⟩:=A4X hrun
 simp only at hrun
 rw [hFn J2] at hrun
 obtain ⟨rs,hrs,hout⟩:=A4X hrun
 injection hout with hout
 subst hout
 obtain ⟨eS,s1,s2,s3,s4,s5⟩:=A8F hos hargs hro hvals
 have hrun0:=hF xs rs ⟨_,_,s5⟩ hrs
 rw [hn] at hrun0
 obtain ⟨out0,hout0,hres⟩:=A4X hrun0
 let e0:B9:={ w:=e.w,ι:=fun _=>none,S:=eS.S,bn:=fun _=>0,U:=fun _=>False,ty:=fun _=>0,ln:=fun _=>0,G:=fun _ _=>False }
 let c0:P9:={ w0:=e.w,M:=fun _=>False,S0:=eS.S }
 have hos0:A7 T c0 e0 (fun _=>none):=⟨fun _ _ h=>(by cases h),fun _ _ _ _ _ _ h=>(by cases h),fun _ _ _ h=>(by cases h),fun _ _ _ h=>False.elim h,fun b i h=>by have:=s2.slt b i h;rwa [s1] at this,fun _ _ h=>h,fun _ _ h=>.inl h,rfl,rfl,rfl,Nat.le_refl _,fun _ _ _=>rfl,⟨fun _ _ h=>h.elim,fun _ _ _ h=>h.elim,fun _ _ h=>h.elim,fun _ _ h=>h.elim⟩⟩
 have hreps0:T7 T e0 (L6 T ts xs) vals.toList:=(s5.change (e':=e0) (fun a ds q=>⟨q.1,fun j y hj=>by
  obtain ⟨p1,p2⟩:=q.2 j y hj
  rw [s1] at p1
  exact ⟨p1,p2⟩⟩)).reps hts
 refine F8 (hs c0 e0 (fun _=>none) (fun _=>none) _ vals 0 out0 hos0 hout0 (fun _ _=>rfl) (fun _ _ _ h=>h) hreps0) ?_
 rintro x w' ⟨e1,rfl,k1,k2,k3,k4⟩
 obtain ⟨vs,hvs,hx⟩:∃ vs,T7 T e1 (D2d out0.val) vs∧((isT out0.val=true∧x=.tuple vs.toArray)∨(isT out0.val=false∧vs=[x])):=by
  cases hv:out0.val with
  | t l =>
   rw [hv] at k4
   obtain ⟨X,rfl,h2,h3⟩:=k4
   exact ⟨X.toList,B6j (by simpa [D2d] using h2) (fun i v x a b=>h3 i v x a (by simpa using b)),.inl ⟨rfl,by simp⟩⟩
  | _=>rw [hv] at k4;exact ⟨[x],.cons k4 .nil,.inr ⟨rfl,rfl⟩⟩
 unfold P2 at hres
 cases hsh1:(Nat.beq rk.length 1 == isT out0.val) with
 | true=>rw [hsh1] at hres;cases hres
 | false =>
 rw [hsh1] at hres
 simp only [cond_false] at hres
 split at hres<;>try (cases hres;done)
 rename_i ys w2 hdl
 cases hcnt:Nat.ble (A6m rk) 1 with
 | false=>rw [hcnt] at hres;cases hres
 | true =>
 rw [hcnt] at hres
 simp only [cond_true] at hres
 obtain ⟨e2,q1,q2,q3,q4,q6,q5⟩:=D2g k1 hdl hvs
 have hRR:=q5 rs hres e.w.heap.size (fun id el v xs nl sh' b o A2 hι=>by
  rcases q2.own id b o (by rw [A2];rfl) hι with h | h
  ·exact h
  ·exact h.elim)
 obtain ⟨eK,ofK,t1,t2,t3,t4,t5,t6⟩:∃ (eK:B9) (ofK:Nat→Option Ob),eK.w=e.w∧A7 T c eK ofK∧e.le eK∧(∀ j,eK.U j→e.U j)∧(sh=true→∀ b i,eS.S b i→eK.S b i)∧put of' (bif sh then A2h of wo else [])=ofK:=by
  cases sh with
  | true =>
   refine ⟨eS,put of' wo,s1,s2,s3,s4,fun _ _ _ h=>h,?_⟩
   have hall:A0A of' wo:=fun p hp=>by
    rw [hro p.1 (List.mem_map.2 ⟨p,hp,rfl⟩)];exact C7d hargs p hp
   show put of' (A2h of wo)=_
   rw [A8S hro,B4j hall]
  | false=>exact ⟨e,of',rfl,hos,B9.le.refl e,fun _ h=>h,fun h=>(by cases h),rfl⟩
 have hsz:eK.w.heap.size=e.w.heap.size:=by rw [t1]
 obtain ⟨g1,g2⟩:=t2.grown (w':=e2.w) (S2:=e2.S) (by rw [hsz];exact q2.size) (fun b hb=>by rw [t1];exact q2.block b (by rw [← hsz];exact hb) (fun h=>h)) (by rw [t1];exact q2.os) (by rw [t1];exact q2.tape) (by rw [t1];exact q2.output) (fun b i h=>q2.slt b i h)
 have hRA:RR T sh (eK.grown e2.w e2.S) e.w.heap.size rk rs vs:=RR.flat (e:=e2) (e':=eK.grown e2.w e2.S) rfl (fun hsh a ds q=>⟨q.1,fun j y hj=>by
   obtain ⟨p1,p2⟩:=q.2 j y hj
   refine ⟨p1,?_⟩
   rcases q2.snew _ _ p2 with h | h | h
   ·exact .inl (t5 hsh _ _ h)
   ·exact .inr ⟨by rw [hsz];exact h,p2⟩
   ·exact h.elim⟩) (fun b i hB hS=>by
   rcases hS with h | h
   ·have:=t2.slt b i h;omega
   ·exact h.2) hRR
 obtain ⟨u0,e',u1,u2,u3,u4,u5⟩:=RR.take (nx:=nx) g1 hRA (E0x hcnt) (fun id h1 h2 hU=>hu id h1 h2 (t4 id hU)) hos.size (fun j b o hj hι=>by
  have:=t2.lt j b o (t2.ok j _ (Option.some_get hj).symm).use hι
  rwa [hsz] at this) (fun a b hG=>by
  have:=t2.g.lt a b hG
  rwa [hsz] at this)
 refine ⟨e',u1.trans q1,?_,t3.trans (g2.trans u3),fun id A2=>(u4 id A2).imp (t4 id) (fun h=>h),?_⟩
 ·show A7 T c e' (put of' ((bif sh then A2h of wo else [])++(V6 T nx rs).2.1))
  rw [H9,t6];exact u2
 ·show C6 T e' (D2f (V6 T nx rs).1) x
  have hlen:(V6 T nx rs).1.length=rk.length:=by rw [C7f,D7r hres]
  rcases hx with ⟨ht,rfl⟩ | ⟨ht,rfl⟩
  ·have hne:(V6 T nx rs).1.length≠1:=by
    rw [hlen];intro h;rw [h,ht] at hsh1;cases hsh1
   have:D2f (V6 T nx rs).1=.t (V6 T nx rs).1:=by
    unfold D2f
    split
    ·rename_i a h;rw [h] at hne;exact absurd rfl hne
    ·rfl
   rw [this]
   exact B6k u5 (C7e (nx:=nx))
  ·have h1:=u5.get.1
   obtain ⟨a,ha⟩:∃ a,(V6 T nx rs).1=[a]:=List.length_eq_one_iff.1 (by simpa using h1.symm)
   rw [ha] at u5 ⊢
   cases u5 with
   | cons h _=>exact h
variable {P:Program} {T:TT} {R:Type}
def noC:D3:=fun _ _ _ _ _=>none
theorem B8C:noC.nat:=fun _ _ _ _ _=>rfl
theorem D7s {f:FuncId}:J0 P T f noC.dir:=fun c e of of' args vals nx out _ h=>by cases h
def A3S:List (Nat×D3)→Nat→Option D3
 | [],_=>none
 | (k,s)::r,f=>bif Nat.beq k f then some s else A3S r f
def C7 (P:Program) (T:TT) (tab:List (Nat×D3)):Prop:=∀ f s,(f,s)∈tab→s.nat∧J0 P T f s.dir
theorem C07:C7 P T []:=fun f s h=>by cases h
theorem C7.cons {tab:List (Nat×D3)} (h:C7 P T tab) {f:Nat} {s:D3} (hn:s.nat) (hs:J0 P T f s.dir):C7 P T ((f,s)::tab):=by
 intro g s' hg
 rcases List.mem_cons.1 hg with hq | hg
 ·cases hq;exact ⟨hn,hs⟩
 ·exact h g s' hg
theorem A2f:∀ {tab:List (Nat×D3)} {f:Nat} {s:D3},A3S tab f=some s→(f,s)∈tab:=by
 intro tab
 induction tab with
 | nil=>intro f s h;cases h
 | cons p r ih =>
  intro f s h
  obtain ⟨k,s'⟩:=p
  simp only [A3S] at h
  cases hk:Nat.beq k f with
  | true =>
   rw [hk] at h;simp only [cond_true,E0u] at h
   have:=E0r hk;subst this;subst h
   exact List.mem_cons_self ..
  | false=>rw [hk] at h;exact List.mem_cons_of_mem _ (ih h)
def E4 (P:Program) (T:TT) (tab:List (Nat×D3)) (fl:Bool) (fu:Nat):Nat→KC
 | 0=>⟨fun f=>match A3S tab f with
  | some s=>s
  | none=>noC,fun _=>noC,fun _=>false⟩
 | d+1=>⟨fun f=>match A3S tab f with
  | some s=>s
  | none=>F0 P T (E4 P T tab fl fu d) (fun _ _=>none) fl fu f,fun id=>A35 T (E4 P T tab fl fu d) fl fu id,B2h P⟩
theorem A8 {tab:List (Nat×D3)} (h:C7 P T tab) {fl:Bool} {fu:Nat}:∀ d,(E4 P T tab fl fu d).nat:=by
 intro d
 induction d with
 | zero =>
  refine ⟨fun f=>?_,fun _=>B8C⟩
  show (match A3S tab f with
   | some s=>s
   | none=>noC).nat
  split
  ·rename_i s hs;exact (h f s (A2f hs)).1
  ·exact B8C
 | succ d ih =>
  refine ⟨fun f=>?_,fun id=>B6h ih⟩
  show (match A3S tab f with
   | some s=>s
   | none=>F0 P T (E4 P T tab fl fu d) (fun _ _=>none) fl fu f).nat
  split
  ·rename_i s hs;exact (h f s (A2f hs)).1
  ·exact A5I ih (fun _=>A6)
theorem B6 (hm:P.follows .mixedOrders=true) (hT:L8 T P) {tab:List (Nat×D3)} (h:C7 P T tab) {fl:Bool} {fu:Nat}:∀ d,W6 P T (E4 P T tab fl fu d).dir:=by
 intro d
 induction d with
 | zero =>
  refine ⟨fun f=>?_,fun id c e of of' args vals nx out b _ hr=>(by cases hr),fun f h=>(by cases h)⟩
  show J0 P T f (match A3S tab f with
   | some s=>s
   | none=>noC).dir
  split
  ·rename_i s hs;exact (h f s (A2f hs)).2
  ·exact D7s
 | succ d ih =>
  refine ⟨fun f=>?_,fun id=>?_,fun f h=>B0H h⟩
  ·show J0 P T f (match A3S tab f with
    | some s=>s
    | none=>F0 P T (E4 P T tab fl fu d) (fun _ _=>none) fl fu f).dir
   split
   ·rename_i s hs;exact (h f s (A2f hs)).2
   ·exact A8D hm hT (A8 h d) ih (fun _=>A6) (fun n0 fn code _ _=>A1 code)
  ·show YOK P T id (A35 T (E4 P T tab fl fu d) fl fu id).dir
   rw [A8E (A8 h d)]
   exact B0G hm hT ih
structure F4 (P:Program) (T:TT) (f:Nat) (Lo:Nat→LC):Prop where
 nat:∀ n0,A2d (Lo n0)
 ok:∀ n0 fn code,P.funcs[f]? = some fn→fn.body=some code→Q1 P T fn.ntmps n0 (Z6 (Lo n0)) code
theorem C8 {f:Nat}:F4 P T f (fun _ _=>none):=⟨fun _=>A6,fun n0 fn code _ _=>A1 code⟩
theorem B35 (hm:P.follows .mixedOrders=true) (hT:L8 T P) {tab:List (Nat×D3)} (h:C7 P T tab) {f d fu:Nat} {Lo:Nat→LC} {sh:Bool} {ts:List Nat} {rk:List RK} {F:FC} (hFn:F.nat) (hts:ts.all (fun t=>(T t).isSome)=true)
  (hL:F4 P T f Lo)
  (hF:∀ xs rs,TV T ts xs→F (List Rs) xs some=some rs→F0 P T (E4 P T tab false fu d) Lo false fu f (List Rs) (L6 T ts xs) (fun _=>none) 0 (fun out=>P2 T sh rk out)=some rs) :
  C7 P T ((f,H5 T sh ts F)::tab) :=
 h.cons (B0L hFn) (B8B (A5I (A8 h d) hL.nat) (A8D hm hT (A8 h d) (B6 hm hT h d) hL.nat hL.ok) hFn hts hF)
variable {P:Program} {T:TT} {R:Type}
def B7 {p q:Type} (B:p→(p→Option R)→(q→Option R)→Option R):Nat→p→(q→Option R)→Option R
 | 0,_,_=>none
 | n+1,x,kx=>B x (fun x'=>B7 B n x' kx) kx
def A2 (n:Nat):Nat:=Classical.choose (⟨n,rfl⟩:∃ m,m=n)
theorem A29 (n:Nat):A2 n=n:=Classical.choose_spec (⟨n,rfl⟩:∃ m,m=n)
abbrev FU:Nat:=4611686018427387904
def A0y (n0:Nat) (ks:List Nat) (M2:Nat) (f:St→(Exit→St→Option R)→Option R):Nat→St→(Exit→St→Option R)→Option R
 | 0,_,_=>none
 | n+1,σ,k=>bif Nat.ble σ.nx M2 then (match σ.norm n0 ks with
  | some σn=>f σn fun ex σ1=>match ex with
   | .normal=>A0y n0 ks M2 f n σ1 k
   | ex=>bif Nat.ble σ1.nx M2 then (match σ1.norm n0 ks with
    | some σ2=>bif Nat.ble σ2.nx M2 then k ex { σ2 with nx:=M2 } else none
    | none=>none) else none
  | none=>none) else none
theorem B36 {n0 M2:Nat} {ks:List Nat} {f:St→(Exit→St→Option R)→Option R} {g:St→Option (Exit×St)} (h:∀ σ k,f σ k=ob2 (g σ) k):∀ (n:Nat) (σ:St) (k:Exit→St→Option R),A0y n0 ks M2 f n σ k=ob2 (W9 n0 ks M2 g n σ) k:=by
 intro n
 induction n with
 | zero=>intro σ k;rfl
 | succ n ih =>
  intro σ k
  simp only [A0y,W9,h]
  cases Nat.ble σ.nx M2
  ·rfl
  ·simp only [cond_true]
   cases σ.norm n0 ks with
   | none=>rfl
   | some σn =>
    simp only
    cases g σn with
    | none=>rfl
    | some p =>
     obtain ⟨ex,σ1⟩:=p
     simp only [ob2]
     cases ex with
     | normal=>exact ih σ1 k
     | _ =>
      simp only
      cases Nat.ble σ1.nx M2
      ·rfl
      ·simp only [cond_true]
       cases σ1.norm n0 ks with
       | none=>rfl
       | some σ2=>simp only;cases Nat.ble σ2.nx M2<;>rfl
def A3a (n0:Nat) (ks:List Nat) (M2:Nat) (K:St→Option R) (kx:Exit→St→Option R):Exit→St→Option R:=fun ex σ1=>match ex with
 | .normal=>bif Nat.ble σ1.nx M2 then (match σ1.norm n0 ks with
  | some σn=>K σn
  | none=>none) else none
 | ex=>bif Nat.ble σ1.nx M2 then (match σ1.norm n0 ks with
  | some σ2=>bif Nat.ble σ2.nx M2 then kx ex { σ2 with nx:=M2 } else none
  | none=>none) else none
theorem C7g {p q:Type} {n0 M2:Nat} {ks:List Nat} {f:St→(Exit→St→Option R)→Option R} (tm:p→St) (B:p→(p→Option R)→(q→Option R)→Option R) (ek:(Exit→St→Option R)→q→Option R)
  (hstep:∀ (x:p) (K:St→Option R) (kx:Exit→St→Option R),f (tm x) (A3a n0 ks M2 K kx)=B x (fun x'=>K (tm x')) (ek kx)) :
  ∀ (n:Nat) (x:p) (σ:St) (k:Exit→St→Option R),σ.norm n0 ks=some (tm x)→Nat.ble σ.nx M2=true→A0y n0 ks M2 f n σ k=B7 B n x (ek k):=by
 intro n
 have key:∀ n (k:Exit→St→Option R),∃ G:St→Option R,(∀ x,G (tm x)=B7 B n x (ek k))∧∀ σ,A0y n0 ks M2 f n σ k=bif Nat.ble σ.nx M2 then (match σ.norm n0 ks with | some σn=>G σn | none=>none) else none:=by
  intro n
  induction n with
  | zero =>
   intro k
   refine ⟨fun _=>none,fun x=>rfl,fun σ=>?_⟩
   simp only [A0y]
   cases Nat.ble σ.nx M2
   ·rfl
   ·simp only [cond_true];cases σ.norm n0 ks<;>rfl
  | succ n ih =>
   intro k
   obtain ⟨G,g1,g2⟩:=ih k
   refine ⟨fun τ=>f τ (A3a n0 ks M2 G k),fun x=>?_,fun σ=>?_⟩
   ·simp only
    rw [hstep x G k,B7]
    congr 1
    funext x'
    exact g1 x'
   ·simp only [A0y]
    have:∀ σn,(f σn fun ex σ1=>match ex with
      | .normal=>A0y n0 ks M2 f n σ1 k
      | ex=>bif Nat.ble σ1.nx M2 then (match σ1.norm n0 ks with
       | some σ2=>bif Nat.ble σ2.nx M2 then k ex { σ2 with nx:=M2 } else none
       | none=>none) else none)=f σn (A3a n0 ks M2 G k):=by
     intro σn
     congr 1
     funext ex σ1
     cases ex with
     | normal=>exact g2 σ1
     | _=>rfl
    cases Nat.ble σ.nx M2
    ·rfl
    ·simp only [cond_true]
     cases σ.norm n0 ks with
     | none=>rfl
     | some σn=>exact this σn
 intro x σ k hn hb
 obtain ⟨G,g1,g2⟩:=key n k
 rw [g2,hb,cond_true,hn]
 exact g1 x
theorem A8G {n0 M2:Nat} {ks:List Nat} {f:St→Option (Exit×St)} {n:Nat} {σ:St} (h:Nat.ble σ.nx M2=false∨σ.norm n0 ks=none):W9 n0 ks M2 f n σ=none:=by
 cases n with
 | zero=>rfl
 | succ n =>
  simp only [W9]
  rcases h with h | h
  ·rw [h];rfl
  ·rw [h];cases Nat.ble σ.nx M2<;>rfl
def D9 {p q:Type} (T:TT) (K:KC) (LoI:LC) (nt:Nat) (b:Code) (n0:Nat) (ks:List Nat) (M2:Nat) (ext:St→Option p) (B:(R:Type)→p→(p→Option R)→(q→Option R)→Option R) (ek:(R:Type)→(Exit→St→Option R)→q→Option R):LS:=fun R of σ k =>
 bif Nat.ble σ.nx M2 then (match σ.norm n0 ks with
  | some τ=>match ext τ with
   | some x=>B7 (B R) (A2 FU) x (ek R k)
   | none=>ob2 (W9 n0 ks M2 (fun σ=>T3 T K.dir (Z6 LoI) FU nt of b σ) FU σ) k
  | none=>none) else none
theorem C7h {p q:Type} {K:KC} (hK:K.nat) {LoI:LC} (hLI:A2d LoI) {nt:Nat} {b:Code} {n0:Nat} {ks:List Nat} {M2:Nat} {ext:St→Option p} {B:(R:Type)→p→(p→Option R)→(q→Option R)→Option R} {ek:(R:Type)→(Exit→St→Option R)→q→Option R} (tm:p→St)
  (hext:∀ τ x,ext τ=some x→τ=tm x)
  (hstep:∀ (R:Type) (of:Nat→Option Ob) (x:p) (K':St→Option R) (kx:Exit→St→Option R),T5 T K LoI false FU nt of R b (tm x) (A3a n0 ks M2 K' kx)=B R x (fun x'=>K' (tm x')) (ek R kx))
  (R:Type) (of:Nat→Option Ob) (σ:St) (k:Exit→St→Option R) :
  D9 T K LoI nt b n0 ks M2 ext B ek R of σ k=ob2 (W9 n0 ks M2 (fun σ=>T3 T K.dir (Z6 LoI) FU nt of b σ) FU σ) k:=by
 have hun:=B36 (R:=R) (n0:=n0) (M2:=M2) (ks:=ks) (f:=fun σ k=>T5 T K LoI false FU nt of R b σ k) (g:=fun σ=>T3 T K.dir (Z6 LoI) FU nt of b σ) (fun σ k=>A28 hK hLI of R b σ k) FU σ k
 unfold D9
 cases hb:Nat.ble σ.nx M2 with
 | false =>
  simp only [cond_false]
  rw [A8G (.inl hb)];rfl
 | true =>
  simp only [cond_true]
  cases hn:σ.norm n0 ks with
  | none =>
   rw [A8G (.inr hn)];rfl
  | some τ =>
   simp only
   cases hx:ext τ with
   | none=>rfl
   | some x =>
    simp only
    rw [A29,← hun]
    exact (C7g tm (B R) (ek R) (hstep R of) FU x σ k (by rw [hn,hext τ x hx]) hb).symm
def J7 {p:Type} (ext:St→Option p) (tm:p→St):Prop:=∀ τ x,ext τ=some x→τ=tm x
def E7 {p q:Type} (T:TT) (K:KC) (LoI:LC) (nt:Nat) (b:Code) (n0:Nat) (ks:List Nat) (M2:Nat) (tm:p→St) (B:(R:Type)→p→(p→Option R)→(q→Option R)→Option R) (ek:(R:Type)→(Exit→St→Option R)→q→Option R):Prop :=
 ∀ (R:Type) (of:Nat→Option Ob) (x:p) (K':St→Option R) (kx:Exit→St→Option R),T5 T K LoI false FU nt of R b (tm x) (A3a n0 ks M2 K' kx)=B R x (fun x'=>K' (tm x')) (ek R kx)
def B8 (P:Program) (T:TT) (nt n0:Nat) (b:Code) (s:LS):Prop:=s.nat∧∀ of σ ex σ',s.dir of σ=some (ex,σ')→A4S P T nt n0 of (.loop b) σ ex σ'
theorem B1 (hm:P.follows .mixedOrders=true) (hT:L8 T P) {p q:Type} {K:KC} (hK:K.nat) (hS:W6 P T K.dir) {LoI:LC} (hLI:A2d LoI) {nt:Nat} {b:Code} {n0:Nat} (hO:Q1 P T nt n0 (Z6 LoI) b) {ks:List Nat} {M2:Nat} {ext:St→Option p} {B:(R:Type)→p→(p→Option R)→(q→Option R)→Option R} {ek:(R:Type)→(Exit→St→Option R)→q→Option R} (tm:p→St)
  (hext:∀ τ x,ext τ=some x→τ=tm x)
  (hstep:∀ (R:Type) (of:Nat→Option Ob) (x:p) (K':St→Option R) (kx:Exit→St→Option R),T5 T K LoI false FU nt of R b (tm x) (A3a n0 ks M2 K' kx)=B R x (fun x'=>K' (tm x')) (ek R kx)) :
  B8 P T nt n0 b (D9 T K LoI nt b n0 ks M2 ext B ek):=by
 have heq:=C7h (M2:=M2) (ks:=ks) (n0:=n0) hK hLI tm hext hstep
 refine ⟨fun R of σ k=>?_,fun of σ ex σ' h=>?_⟩
 ·rw [heq R,heq (Exit×St)]
  cases W9 n0 ks M2 (fun σ=>T3 T K.dir (Z6 LoI) FU nt of b σ) FU σ<;>rfl
 ·unfold LS.dir at h
  rw [heq] at h
  have h':W9 n0 ks M2 (fun σ=>T3 T K.dir (Z6 LoI) FU nt of b σ) FU σ=some (ex,σ'):=by
   cases hq:W9 n0 ks M2 (fun σ=>T3 T K.dir (Z6 LoI) FU nt of b σ) FU σ with
   | none=>rw [hq] at h;cases h
   | some p=>rw [hq] at h;exact h
  exact A9f (fun σ ex σ' h=>A4T hm hT hS b hO σ ex σ' h) h'
def M6:Code→List Code
 | .seq x y=>M6 x++M6 y
 | .cond _ x y=>M6 x++M6 y
 | .block _ b=>M6 b
 | .loop b=>b::M6 b
 | _=>[]
def A5J:Code→Nat
 | .region id _ _=>id
 | .seq x _=>A5J x
 | .cond _ x _=>A5J x
 | .block _ b=>A5J b
 | .loop b=>A5J b
 | _=>0
def lp (c:Code) (i:Nat):Code:=(M6 c).getD i .skip
def B37:List (Nat×LS)→Nat→Option LS
 | [],_=>none
 | (k,s)::r,i=>bif Nat.beq k i then some s else B37 r i
def loT (l:List (Nat×LS)):LC:=fun b=>B37 l (A5J b)
theorem B0M:∀ {l:List (Nat×LS)} {i:Nat} {s:LS},B37 l i=some s→∃ k,(k,s)∈l:=by
 intro l
 induction l with
 | nil=>intro i s h;cases h
 | cons p r ih =>
  intro i s h
  obtain ⟨k,s'⟩:=p
  simp only [B37] at h
  cases hk:Nat.beq k i with
  | true=>rw [hk] at h;simp only [cond_true,E0u] at h;subst h;exact ⟨k,List.mem_cons_self ..⟩
  | false=>rw [hk] at h;obtain ⟨j,hj⟩:=ih h;exact ⟨j,List.mem_cons_of_mem _ hj⟩
theorem A0S {l:List (Nat×LS)} (h:∀ p∈l,LS.nat p.2):A2d (loT l):=fun b s hs=>by
 obtain ⟨k,hk⟩:=B0M hs
 exact h _ hk
theorem B6l {Lo:A5E} {nt n0:Nat}:∀ c:Code,(∀ b∈M6 c,∀ s,Lo b=some s→∀ of σ ex σ',s of σ=some (ex,σ')→A4S P T nt n0 of (.loop b) σ ex σ')→Q1 P T nt n0 Lo c:=by
 intro c
 induction c with
 | seq x y ihx ihy=>intro h;exact ⟨ihx (fun b hb=>h b (by simp [M6,hb])),ihy (fun b hb=>h b (by simp [M6,hb]))⟩
 | cond q x y ihx ihy=>intro h;exact ⟨ihx (fun b hb=>h b (by simp [M6,hb])),ihy (fun b hb=>h b (by simp [M6,hb]))⟩
 | block id b ih=>intro h;exact ih (fun b hb=>h b (by simpa [M6] using hb))
 | loop b ih=>intro h;exact ⟨h b (by simp [M6]),ih (fun b' hb=>h b' (by simp [M6,hb]))⟩
 | _=>intro _;trivial
def C7i (P:Program) (T:TT) (Lo:LC) (nt n0:Nat) (c:Code):Nat→Prop
 | 0=>True
 | n+1=>C7i P T Lo nt n0 c n∧∀ s,Lo (lp c n)=some s→B8 P T nt n0 (lp c n) s
theorem T9 {Lo:LC} {nt n0:Nat} {c:Code} {i:Nat} {s0:LS} (h0:Lo (lp c i)=some s0) (h:B8 P T nt n0 (lp c i) s0):∀ s,Lo (lp c i)=some s→B8 P T nt n0 (lp c i) s:=by
 intro s hs;rw [h0] at hs;cases hs;exact h
theorem loN {Lo:LC} {nt n0:Nat} {c:Code} {i:Nat} (h0:Lo (lp c i)=none):∀ s,Lo (lp c i)=some s→B8 P T nt n0 (lp c i) s:=by
 intro s hs;rw [h0] at hs;cases hs
theorem R8 {Lo:LC} {nt n0:Nat} {c:Code} (n:Nat) (hn:Nat.beq (M6 c).length n=true) (h:C7i P T Lo nt n0 c n):Q1 P T nt n0 (Z6 Lo) c:=by
 have hn:=E0r hn
 have key:∀ n,C7i P T Lo nt n0 c n→∀ i,i < n→∀ s,Lo (lp c i)=some s→B8 P T nt n0 (lp c i) s:=by
  intro n
  induction n with
  | zero=>intro _ i hi;omega
  | succ n ih =>
   intro h i hi
   by_cases hin:i=n
   ·subst hin;exact h.2
   ·exact ih h.1 i (by omega)
 refine B6l c (fun b hb s hs=>?_)
 obtain ⟨i,hi,rfl⟩:=List.mem_iff_getElem.1 hb
 have e:lp c i=(M6 c)[i]:=by unfold lp;simp [List.getD,hi]
 rw [← e] at hs ⊢
 unfold Z6 at hs
 cases hq:Lo (lp c i) with
 | none=>rw [hq] at hs;cases hs
 | some s0 =>
  rw [hq] at hs
  injection hs with hs;subst hs
  exact (key n h i (by omega) s0 hq).2
def G7 (P:Program) (f:Nat):Code :=
 match P.funcs[f]? with
 | some fn=>match fn.body with
  | some c=>c
  | none=>.skip
 | none=>.skip
def C7j (P:Program) (f:Nat):Nat :=
 match P.funcs[f]? with
 | some fn=>fn.ntmps
 | none=>0
def atN (n0:Nat) (l:List (Nat×LS)):Nat→LC:=fun n=>bif Nat.beq n n0 then loT l else fun _=>none
theorem D1 {f:Nat} (n0:Nat) {l:List (Nat×LS)} (hn:∀ p∈l,LS.nat p.2) (n:Nat) (hl:Nat.beq (M6 (G7 P f)).length n=true) (h:C7i P T (loT l) (C7j P f) n0 (G7 P f) n):F4 P T f (atN n0 l):=by
 refine ⟨fun m=>?_,fun m fn code h1 h2=>?_⟩
 ·unfold atN
  cases Nat.beq m n0
  ·exact A6
  ·exact A0S hn
 ·unfold atN
  cases hm:Nat.beq m n0 with
  | false=>exact A1 code
  | true =>
   have:=E0r hm;subst this
   simp only [cond_true]
   have:=R8 n hl h
   simpa only [G7,C7j,h1,h2] using this
abbrev R5:Nat:=4294967296
def A3K (x n:Nat):Nat:=(x >>> n) ||| ((x <<< (32 - n)) % R5)
def sS0 (x:Nat):Nat:=(A3K x 7 ^^^ A3K x 18) ^^^ (x >>> 3)
def sS1 (x:Nat):Nat:=(A3K x 17 ^^^ A3K x 19) ^^^ (x >>> 10)
def bS0 (x:Nat):Nat:=(A3K x 2 ^^^ A3K x 13) ^^^ A3K x 22
def bS1 (x:Nat):Nat:=(A3K x 6 ^^^ A3K x 11) ^^^ A3K x 25
def chN (x y z:Nat):Nat:=(x &&& y) ^^^ ((4294967295 - x) &&& z)
def B6m (x y z:Nat):Nat:=((x &&& y) ^^^ (x &&& z)) ^^^ (y &&& z)
def A4Y (l:List Nat):Nat:=(l.getD 15 0+sS0 (l.getD 14 0)+l.getD 6 0+sS1 (l.getD 1 0)) % R5
def A2A:Nat→List Nat→List Nat
 | 0,l=>l
 | n+1,l=>A2Q (A4Y l) fun x=>A2A n (x::l)
structure S8 where
 a:Nat
 b:Nat
 c:Nat
 d:Nat
 e:Nat
 f:Nat
 g:Nat
 h:Nat
def B6n (s:S8) (k w:Nat):S8 :=
 A2Q (s.h+bS1 s.e+chN s.e s.f s.g+k+w) fun t=>A2Q ((t+(bS0 s.a+B6m s.a s.b s.c)) % R5) fun a=>A2Q ((s.d+t) % R5) fun e=>⟨a,s.a,s.b,s.c,e,s.e,s.f,s.g⟩
def B0N:List Nat→List Nat→S8→S8
 | k::ks,w::ws,s=>B0N ks ws (B6n s k w)
 | _,_,s=>s
def B6o (s x:S8):S8 :=
 A2Q ((s.a+x.a) % R5) fun a=>A2Q ((s.b+x.b) % R5) fun b=>A2Q ((s.c+x.c) % R5) fun c=>A2Q ((s.d+x.d) % R5) fun d=>A2Q ((s.e+x.e) % R5) fun e=>A2Q ((s.f+x.f) % R5) fun f=>A2Q ((s.g+x.g) % R5) fun g=>A2Q ((s.h+x.h) % R5) fun h=>⟨a,b,c,d,e,f,g,h⟩
def B0O:List Nat:=[0x428a2f98,0x71374491,0xb5c0fbcf,0xe9b5dba5,0x3956c25b,0x59f111f1,0x923f82a4,0xab1c5ed5,
 0xd807aa98,0x12835b01,0x243185be,0x550c7dc3,0x72be5d74,0x80deb1fe,0x9bdc06a7,0xc19bf174,
 0xe49b69c1,0xefbe4786,0x0fc19dc6,0x240ca1cc,0x2de92c6f,0x4a7484aa,0x5cb0a9dc,0x76f988da,
 0x983e5152,0xa831c66d,0xb00327c8,0xbf597fc7,0xc6e00bf3,0xd5a79147,0x06ca6351,0x14292967,
 0x27b70a85,0x2e1b2138,0x4d2c6dfc,0x53380d13,0x650a7354,0x766a0abb,0x81c2c92e,0x92722c85,
 0xa2bfe8a1,0xa81a664b,0xc24b8b70,0xc76c51a3,0xd192e819,0xd6990624,0xf40e3585,0x106aa070,
 0x19a4c116,0x1e376c08,0x2748774c,0x34b0bcb5,0x391c0cb3,0x4ed8aa4a,0x5b9cca4f,0x682e6ff3,
 0x748f82ee,0x78a5636f,0x84c87814,0x8cc70208,0x90befffa,0xa4506ceb,0xbef9a3f7,0xc67178f2]
def N6:Nat→List Nat→List Nat→List Nat
 | n+1,b0::b1::b2::b3::r,acc=>A2Q (((b0 * 256+b1) * 256+b2) * 256+b3) fun w=>N6 n r (w::acc)
 | _,_,acc=>acc
def A3b (s:S8) (bs:List Nat):S8:=B6o s (B0N B0O (A2A 48 (N6 16 bs [])).reverse s)
def s0N:S8:=⟨0x6a09e667,0xbb67ae85,0x3c6ef372,0xa54ff53a,0x510e527f,0x9b05688c,0x1f83d9ab,0x5be0cd19⟩
def be4 (n:Nat):List Nat:=[n / 16777216 % 256,n / 65536 % 256,n / 256 % 256,n % 256]
def C7k (s:S8):List Nat:=be4 s.a++(be4 s.b++(be4 s.c++(be4 s.d++(be4 s.e++(be4 s.f++(be4 s.g++be4 s.h))))))
def K0:Nat→S8→List Nat→S8
 | 0,s,_=>s
 | n+1,s,l=>match l with
  | []=>s
  | l=>K0 n (A3b s (l.take 64)) (l.drop 64)
def M0 (n:Nat):List Nat:=128::(List.replicate ((119 - n % 64) % 64) 0++[8 * n / 2 ^ 56 % 256,8 * n / 2 ^ 48 % 256,8 * n / 2 ^ 40 % 256,8 * n / 2 ^ 32 % 256,8 * n / 2 ^ 24 % 256,8 * n / 2 ^ 16 % 256,8 * n / 2 ^ 8 % 256,8 * n % 256])
def A0c (l:List Nat):List Nat:=C7k (K0 (l.length / 64+2) s0N (l++M0 l.length))
example:A0c [97,98,99]=[0xba,0x78,0x16,0xbf,0x8f,0x01,0xcf,0xea,0x41,0x41,0x40,0xde,0x5d,0xae,0x22,0x23,0xb0,0x03,0x61,0xa3,0x96,0x17,0x7a,0x9c,0xb4,0x10,0xff,0x61,0xf2,0x00,0x15,0xad]:=by kernel_rfl
variable {T:TT} {R:Type}
abbrev ck {R:Type} (i:Int) (n:Nat) (k:Option R):Option R:=bif F2 0 i&&C3 i n then k else none
abbrev B2 (n:Int):Int:=IntKind.wrap .i64 n
abbrev W32 (n:Int):Int:=IntKind.wrap .u32 n
abbrev WU (n:Int):Int:=IntKind.wrap .u64 n
def elV (w:V) (i:Int):Int:=(w.nth i.toNat).int
def nv (n:Nat):V:=.i (n:Int)
theorem A5K (n:Nat):W32 (n:Int)=((n % 4294967296:Nat):Int):=by
 unfold W32 IntKind.wrap
 simp [IntKind.bits,IntKind.signed]
theorem D7t (n:Nat):WU (n:Int)=((n % 18446744073709551616:Nat):Int):=by
 unfold WU IntKind.wrap
 simp [IntKind.bits,IntKind.signed]
theorem A2B {n:Nat} (h:n < 4294967296):W32 (n:Int)=(n:Int):=by rw [A5K,Nat.mod_eq_of_lt h]
theorem C9 {n:Nat} (h:n < 18446744073709551616):WU (n:Int)=(n:Int):=by rw [D7t,Nat.mod_eq_of_lt h]
theorem G4 {n:Int} (h1 : -9223372036854775808≤n) (h2:n≤9223372036854775807):B2 n=n:=by
 show (if (true&&decide (n % 2 ^ 64 ≥ 2 ^ (64 - 1)))=true then n % 2 ^ 64 - 2 ^ 64 else n % 2 ^ 64)=n
 by_cases h:n % 2 ^ 64 ≥ 2 ^ (64 - 1)
 ·rw [if_pos (by simpa using h)];omega
 ·rw [if_neg (by simpa using h)];omega
theorem E2 {i:Int} {n:Nat} {k:Option R} (h1:0≤i) (h2:i < n):ck i n k=k:=by
 unfold ck
 rw [C5.2 h1,show C3 i n=true by simp [C3,h2]]
 rfl
theorem Q7 (w a:Nat):BitVec.ofInt w (a:Int)=BitVec.ofNat w a:=BitVec.ofInt_natCast w a
theorem B6p {a b:Nat} (ha:a < 4294967296) (hb:b < 4294967296):H8 .and .u32 (a:Int) (b:Int)=((a &&& b:Nat):Int):=by
 have hl:a &&& b < 4294967296:=Nat.lt_of_le_of_lt Nat.and_le_left ha
 show IntKind.wrap .u32 (((BitVec.ofInt 32 (a:Int) &&& BitVec.ofInt 32 (b:Int)).toNat:Nat):Int)=_
 rw [Q7,Q7,BitVec.toNat_and,BitVec.toNat_ofNat,BitVec.toNat_ofNat]
 rw [Nat.mod_eq_of_lt (by simpa using ha),Nat.mod_eq_of_lt (by simpa using hb)]
 exact A2B hl
theorem A3z {a b:Nat} (ha:a < 4294967296) (hb:b < 4294967296):H8 .or .u32 (a:Int) (b:Int)=((a ||| b:Nat):Int):=by
 have hl:a ||| b < 4294967296:=Nat.or_lt_two_pow (n:=32) ha hb
 show IntKind.wrap .u32 (((BitVec.ofInt 32 (a:Int) ||| BitVec.ofInt 32 (b:Int)).toNat:Nat):Int)=_
 rw [Q7,Q7,BitVec.toNat_or,BitVec.toNat_ofNat,BitVec.toNat_ofNat]
 rw [Nat.mod_eq_of_lt (by simpa using ha),Nat.mod_eq_of_lt (by simpa using hb)]
 exact A2B hl
theorem A8H {a b:Nat} (ha:a < 4294967296) (hb:b < 4294967296):H8 .xor .u32 (a:Int) (b:Int)=((a ^^^ b:Nat):Int):=by
 have hl:a ^^^ b < 4294967296:=Nat.xor_lt_two_pow (n:=32) ha hb
 show IntKind.wrap .u32 (((BitVec.ofInt 32 (a:Int) ^^^ BitVec.ofInt 32 (b:Int)).toNat:Nat):Int)=_
 rw [Q7,Q7,BitVec.toNat_xor,BitVec.toNat_ofNat,BitVec.toNat_ofNat]
 rw [Nat.mod_eq_of_lt (by simpa using ha),Nat.mod_eq_of_lt (by simpa using hb)]
 exact A2B hl
theorem A8I {a b:Nat} (ha:a < 18446744073709551616) (hb:b < 18446744073709551616):H8 .and .u64 (a:Int) (b:Int)=((a &&& b:Nat):Int):=by
 have hl:a &&& b < 18446744073709551616:=Nat.lt_of_le_of_lt Nat.and_le_left ha
 show IntKind.wrap .u64 (((BitVec.ofInt 64 (a:Int) &&& BitVec.ofInt 64 (b:Int)).toNat:Nat):Int)=_
 rw [Q7,Q7,BitVec.toNat_and,BitVec.toNat_ofNat,BitVec.toNat_ofNat]
 rw [Nat.mod_eq_of_lt (by simpa using ha),Nat.mod_eq_of_lt (by simpa using hb)]
 exact C9 hl
theorem C08 {a b:Nat} (ha:a < 18446744073709551616) (hb:b < 18446744073709551616):H8 .or .u64 (a:Int) (b:Int)=((a ||| b:Nat):Int):=by
 have hl:a ||| b < 18446744073709551616:=Nat.or_lt_two_pow (n:=64) ha hb
 show IntKind.wrap .u64 (((BitVec.ofInt 64 (a:Int) ||| BitVec.ofInt 64 (b:Int)).toNat:Nat):Int)=_
 rw [Q7,Q7,BitVec.toNat_or,BitVec.toNat_ofNat,BitVec.toNat_ofNat]
 rw [Nat.mod_eq_of_lt (by simpa using ha),Nat.mod_eq_of_lt (by simpa using hb)]
 exact C9 hl
theorem A2C {a b:Nat} (ha:a < 18446744073709551616) (hb:b < 18446744073709551616):H8 .xor .u64 (a:Int) (b:Int)=((a ^^^ b:Nat):Int):=by
 have hl:a ^^^ b < 18446744073709551616:=Nat.xor_lt_two_pow (n:=64) ha hb
 show IntKind.wrap .u64 (((BitVec.ofInt 64 (a:Int) ^^^ BitVec.ofInt 64 (b:Int)).toNat:Nat):Int)=_
 rw [Q7,Q7,BitVec.toNat_xor,BitVec.toNat_ofNat,BitVec.toNat_ofNat]
 rw [Nat.mod_eq_of_lt (by simpa using ha),Nat.mod_eq_of_lt (by simpa using hb)]
 exact C9 hl
theorem C7l (a b:Nat):(a:Int).fdiv (b:Int)=((a / b:Nat):Int):=by
 cases a with
 | zero=>simp
 | succ a=>cases b with
  | zero=>simp
  | succ b=>rfl
theorem A0z (a n:Nat):(a:Int).fdiv (2 ^ n)=((a >>> n:Nat):Int):=by
 rw [show ((2:Int) ^ n)=((2 ^ n:Nat):Int) by push_cast;rfl,C7l,Nat.shiftRight_eq_div_pow]
theorem A4Z (a n:Nat):(a:Int) * 2 ^ n=((a <<< n:Nat):Int):=by
 rw [Nat.shiftLeft_eq];push_cast;rfl
def xor (a b:Int):Int:=H8 .xor .u32 a b
def and (a b:Int):Int:=H8 .and .u32 a b
def rot (x:Int) (n:Nat):Int:=H8 .or .u32 (W32 (x * 2 ^ (32 - n))) (x.fdiv (2 ^ n))
def sg0 (x:Int):Int:=xor (xor (rot x 7) (rot x 18)) (x.fdiv (2 ^ 3))
def sg1 (x:Int):Int:=xor (xor (rot x 17) (rot x 19)) (x.fdiv (2 ^ 10))
theorem A1G {a n:Nat} (h:a < R5):a >>> n < R5:=by
 rw [Nat.shiftRight_eq_div_pow];exact Nat.lt_of_le_of_lt (Nat.div_le_self _ _) h
theorem D0 {a n:Nat} (h:a < R5):A3K a n < R5:=by
 unfold A3K
 exact Nat.or_lt_two_pow (n:=32) (A1G h) (Nat.mod_lt _ (show 0 < R5 by decide))
theorem A1H {a n:Nat} (h:a < R5):rot (a:Int) n=((A3K a n:Nat):Int):=by
 unfold rot A3K
 have hm:(a <<< (32 - n)) % 4294967296 < 4294967296:=Nat.mod_lt _ (by decide)
 rw [A4Z,A0z,A5K,A3z hm (A1G h),Nat.or_comm]
theorem A1j {a b:Nat} (ha:a < R5) (hb:b < R5):xor (a:Int) (b:Int)=((a ^^^ b:Nat):Int):=A8H ha hb
theorem A8J {a b:Nat} (ha:a < R5) (hb:b < R5):and (a:Int) (b:Int)=((a &&& b:Nat):Int):=B6p ha hb
theorem R9 {a b:Nat} (ha:a < R5) (hb:b < R5):a ^^^ b < R5:=Nat.xor_lt_two_pow (n:=32) ha hb
theorem T8 {a b:Nat} (ha:a < R5):a &&& b < R5:=Nat.lt_of_le_of_lt Nat.and_le_left ha
theorem D7u {a:Nat} (h:a < R5):sg0 (a:Int)=((sS0 a:Nat):Int):=by
 unfold sg0 sS0
 rw [A1H h,A1H h,A0z,A1j (D0 h) (D0 h),A1j (R9 (D0 h) (D0 h)) (A1G h)]
theorem D7v {a:Nat} (h:a < R5):sg1 (a:Int)=((sS1 a:Nat):Int):=by
 unfold sg1 sS1
 rw [A1H h,A1H h,A0z,A1j (D0 h) (D0 h),A1j (R9 (D0 h) (D0 h)) (A1G h)]
theorem D7w {a:Nat} (h:a < R5):sS0 a < R5:=R9 (R9 (D0 h) (D0 h)) (A1G h)
theorem D7x {a:Nat} (h:a < R5):sS1 a < R5:=R9 (R9 (D0 h) (D0 h)) (A1G h)
theorem D7y {a:Nat} (h:a < R5):bS0 a < R5:=R9 (R9 (D0 h) (D0 h)) (D0 h)
theorem D7z {a:Nat} (h:a < R5):bS1 a < R5:=R9 (R9 (D0 h) (D0 h)) (D0 h)
theorem D2h {a:Nat} (h:a < R5):4294967295 ^^^ a=4294967295 - a:=by
 have:(4294967295:Nat)=2 ^ 32 - 1:=by decide
 have h2:=Nat.testBit_two_pow_sub_succ (n:=32) (x:=a) (by simpa using h)
 apply Nat.eq_of_testBit_eq
 intro i
 rw [Nat.testBit_xor,show 4294967295 - a=2 ^ 32 - (a+1) by omega,h2]
 rw [this,Nat.testBit_two_pow_sub_one]
 by_cases hi:i < 32
 ·simp [hi]
 ·have:a.testBit i=false:=Nat.testBit_lt_two_pow (Nat.lt_of_lt_of_le (show a < 2 ^ 32 from h) (Nat.pow_le_pow_right (show 2 > 0 by decide) (show 32≤i by omega)))
  simp [hi,this]
def byt (x:V) (i:Int):Int:=W32 (x.nth i.toNat).int
def C7m (x:V) (i:Int):Int:=H8 .or .u32 (H8 .or .u32 (H8 .or .u32 (W32 (byt x (B2 (4 * i)) * 2 ^ 24)) (W32 (byt x (B2 (B2 (4 * i)+1)) * 2 ^ 16))) (W32 (byt x (B2 (B2 (4 * i)+2)) * 2 ^ 8))) (byt x (B2 (B2 (4 * i)+3)))
def e8 (x:V) (i:Nat):Int:=(x.nth i).int
def D83 (x:V) (k w:Int):V :=
 let a:=e8 x 0
 let e:=e8 x 4
 let t:=W32 (W32 (W32 (W32 (e8 x 7+xor (xor (rot e 6) (rot e 11)) (rot e 25))+xor (and e (e8 x 5)) (and (H8 .xor .u32 4294967295 e) (e8 x 6)))+k)+w)
 let u:=W32 (xor (xor (rot a 2) (rot a 13)) (rot a 22)+xor (xor (and a (e8 x 1)) (and a (e8 x 2))) (and (e8 x 1) (e8 x 2)))
 .l [.i (W32 (t+u)),.i a,.i (e8 x 1),.i (e8 x 2),.i (W32 (e8 x 3+t)),.i e,.i (e8 x 5),.i (e8 x 6)]
inductive D2i where
 | m (x:V) (z:V) (i:Int) (w:V)
inductive D7A where
 | o (x:V) (z:V) (i:Int) (w:V)
def C7n (R:Type) (p:D2i) (K:D2i→Option R) (kx:D7A→Option R):Option R :=
 match p with
 | .m x z i w =>
  bif C3 i 16 then
   ck (B2 (4 * i)) x.els.length <| ck (B2 (B2 (4 * i)+1)) x.els.length <| ck (B2 (B2 (4 * i)+2)) x.els.length <| ck (B2 (B2 (4 * i)+3)) x.els.length <|
   ck i 64 <| K (.m x z (B2 (i+1)) (w.put i.toNat (.i (C7m x i))))
  else kx (.o x z i w)
inductive D2j where
 | m (z:V) (i:Int) (w:V)
inductive D7B where
 | o (z:V) (i:Int) (w:V)
def C09 (R:Type) (p:D2j) (K:D2j→Option R) (kx:D7B→Option R):Option R :=
 match p with
 | .m z i w =>
  bif C3 i 64 then
   ck (B2 (i - 15)) 64 <| ck (B2 (i - 2)) 64 <| ck (B2 (i - 16)) 64 <| ck (B2 (i - 7)) 64 <| ck i 64 <|
   K (.m z (B2 (i+1)) (w.put i.toNat (.i (W32 (W32 (W32 (elV w (B2 (i - 16))+elV w (B2 (i - 7)))+sg0 (elV w (B2 (i - 15))))+sg1 (elV w (B2 (i - 2))))))))
  else kx (.o z i w)
inductive D2k where
 | m (s:V) (z:V) (w:V) (k:V) (x:V) (i:Int)
inductive D7C where
 | o (s:V) (z:V) (w:V) (k:V) (x:V) (i:Int)
def C7o (R:Type) (p:D2k) (K:D2k→Option R) (kx:D7C→Option R):Option R :=
 match p with
 | .m s z w k x i =>
  bif C3 i 64 then ck i 64 <| ck i 64 <| K (.m s z w k (D83 x (elV k i) (elV w i)) (B2 (i+1))) else kx (.o s z w k x i)
inductive D2l where
 | m (s:V) (z:V) (x:V) (i:Int)
inductive D7D where
 | o (s:V) (z:V) (x:V) (i:Int)
def B6q (R:Type) (p:D2l) (K:D2l→Option R) (kx:D7D→Option R):Option R :=
 match p with
 | .m s z x i =>
  bif C3 i 8 then ck i 8 <| ck i 8 <| ck i 8 <| K (.m (s.put i.toNat (.i (W32 (elV s i+elV x i)))) z x (B2 (i+1))) else kx (.o s z x i)
theorem D7E {x:V} {bs:List Nat} (hx:x.els=bs.map nv) {k b:Nat} (h:bs[k]? = some b):(x.nth k).int=(b:Int):=by
 unfold V.nth
 rw [hx,List.getD,List.getElem?_map,h]
 rfl
theorem B6r {a b i:Nat} (h:b < 2 ^ i):(a <<< i) ||| b=a * 2 ^ i+b:=by
 rw [← Nat.shiftLeft_add_eq_or_of_lt h,Nat.shiftLeft_eq]
theorem D2m {b0 b1 b2 b3:Nat} (h0:b0 < 256) (h1:b1 < 256) (h2:b2 < 256) (h3:b3 < 256):(((b0 <<< 24) ||| (b1 <<< 16)) ||| (b2 <<< 8)) ||| b3=((b0 * 256+b1) * 256+b2) * 256+b3:=by
 have e1:(b0 <<< 24) ||| (b1 <<< 16)=(b0 * 256+b1) <<< 16:=by
  rw [B6r (by rw [Nat.shiftLeft_eq];omega),Nat.shiftLeft_eq,Nat.shiftLeft_eq];omega
 have e2:((b0 * 256+b1) <<< 16) ||| (b2 <<< 8)=((b0 * 256+b1) * 256+b2) <<< 8:=by
  rw [B6r (by rw [Nat.shiftLeft_eq];omega),Nat.shiftLeft_eq,Nat.shiftLeft_eq];omega
 rw [e1,e2,B6r (by omega)]
theorem B2k {x:V} {bs:List Nat} (hx:x.els=bs.map nv) (hb:∀ b∈bs,b < 256) {k b:Nat} (h:bs[k]? = some b):byt x (k:Int)=(b:Int):=by
 have:=hb b (List.mem_of_getElem? h)
 unfold byt
 rw [show ((k:Int)).toNat=k from rfl,D7E hx h,A2B (by omega)]
theorem C7p {x:V} {bs:List Nat} (hx:x.els=bs.map nv) (hb:∀ b∈bs,b < 256) {j b0 b1 b2 b3:Nat} (hj:j < 1000) (h0:bs[4 * j]? = some b0) (h1:bs[4 * j+1]? = some b1) (h2:bs[4 * j+2]? = some b2) (h3:bs[4 * j+3]? = some b3) :
  C7m x (j:Int)=(((((b0 * 256+b1) * 256+b2) * 256+b3:Nat)):Int):=by
 have l0:=hb b0 (List.mem_of_getElem? h0)
 have l1:=hb b1 (List.mem_of_getElem? h1)
 have l2:=hb b2 (List.mem_of_getElem? h2)
 have l3:=hb b3 (List.mem_of_getElem? h3)
 have w0:B2 (4 * (j:Int))=((4 * j:Nat):Int):=by rw [G4 (by omega) (by omega)];push_cast;rfl
 have w1:B2 (B2 (4 * (j:Int))+1)=((4 * j+1:Nat):Int):=by rw [w0,G4 (by omega) (by omega)];push_cast;rfl
 have w2:B2 (B2 (4 * (j:Int))+2)=((4 * j+2:Nat):Int):=by rw [w0,G4 (by omega) (by omega)];push_cast;rfl
 have w3:B2 (B2 (4 * (j:Int))+3)=((4 * j+3:Nat):Int):=by rw [w0,G4 (by omega) (by omega)];push_cast;rfl
 unfold C7m
 rw [w1,w2,w3,w0,B2k hx hb h0,B2k hx hb h1,B2k hx hb h2,B2k hx hb h3,A4Z,A4Z,A4Z,← D2m l0 l1 l2 l3]
 have s0:b0 <<< 24 < 4294967296:=by rw [Nat.shiftLeft_eq];omega
 have s1:b1 <<< 16 < 4294967296:=by rw [Nat.shiftLeft_eq];omega
 have s2:b2 <<< 8 < 4294967296:=by rw [Nat.shiftLeft_eq];omega
 have o1:=Nat.or_lt_two_pow (n:=32) s0 s1
 have o2:=Nat.or_lt_two_pow (n:=32) o1 s2
 rw [A2B s0,A2B s1,A2B s2,A3z s0 s1,A3z o1 s2,A3z o2 (by omega)]
theorem A8K {l:List V} {m:Nat} {z y:V}:(V.l (l++List.replicate (m+1) z)).put l.length y=.l ((l++[y])++List.replicate m z):=by
 unfold V.put
 simp only [V.els]
 rw [List.set_append_right _ _ (Nat.le_refl _),Nat.sub_self,List.replicate_succ,List.set_cons_zero,List.append_assoc,List.singleton_append]
theorem D84 {bs:List Nat} {k:Nat} (h:k+4≤bs.length):∃ b0 b1 b2 b3,bs[k]? = some b0∧bs[k+1]? = some b1∧bs[k+2]? = some b2∧bs[k+3]? = some b3∧bs.drop k=b0::b1::b2::b3::bs.drop (k+4):=by
 refine ⟨bs[k],bs[k+1],bs[k+2],bs[k+3],by simp,by simp,by simp,by simp,?_⟩
 rw [List.drop_eq_getElem_cons (by omega),List.drop_eq_getElem_cons (by omega),List.drop_eq_getElem_cons (by omega),List.drop_eq_getElem_cons (by omega)]
theorem D85 {R:Type} {x z:V} {bs:List Nat} (hx:x.els=bs.map nv) (hb:∀ b∈bs,b < 256) (hl:64≤bs.length):∀ (m j n:Nat) (l:List Nat) (k:D7A→Option R),j+m=16→l.length=j→m < n →
  B7 (C7n R) n (.m x z (j:Int) (.l (l.reverse.map nv++List.replicate (48+m) (.i 0)))) k=k (.o x z 16 (.l ((N6 m (bs.drop (4 * j)) l).reverse.map nv++List.replicate 48 (.i 0)))):=by
 intro m
 induction m with
 | zero =>
  intro j n l k hj hlen hn
  obtain ⟨n,rfl⟩:∃ n',n=n'+1:=⟨n - 1,by omega⟩
  have:j=16:=by omega
  subst this
  rfl
 | succ m ih =>
  intro j n l k hj hlen hn
  obtain ⟨n,rfl⟩:∃ n',n=n'+1:=⟨n - 1,by omega⟩
  obtain ⟨b0,b1,b2,b3,g0,g1,g2,g3,gd⟩:=D84 (bs:=bs) (k:=4 * j) (by omega)
  have hxl:x.els.length=bs.length:=by rw [hx,E0v]
  have w0:B2 (4 * (j:Int))=((4 * j:Nat):Int):=by rw [G4 (by omega) (by omega)];push_cast;rfl
  have w1:B2 (B2 (4 * (j:Int))+1)=((4 * j+1:Nat):Int):=by rw [w0,G4 (by omega) (by omega)];push_cast;rfl
  have w2:B2 (B2 (4 * (j:Int))+2)=((4 * j+2:Nat):Int):=by rw [w0,G4 (by omega) (by omega)];push_cast;rfl
  have w3:B2 (B2 (4 * (j:Int))+3)=((4 * j+3:Nat):Int):=by rw [w0,G4 (by omega) (by omega)];push_cast;rfl
  have wj:B2 ((j:Int)+1)=((j+1:Nat):Int):=by rw [G4 (by omega) (by omega)];push_cast;rfl
  rw [B7]
  show (bif C3 (j:Int) 16 then _ else _)=_
  rw [show C3 (j:Int) 16=true by simp [C3];omega,cond_true]
  simp only
  rw [w1,w2,w3,w0,hxl,E2 (by omega) (by omega),E2 (by omega) (by omega),E2 (by omega) (by omega),E2 (by omega) (by omega),E2 (by omega) (by omega),wj,C7p hx hb (by omega) g0 g1 g2 g3]
  have hput:=A8K (l:=l.reverse.map nv) (m:=48+m) (z:=.i 0) (y:=nv (((b0 * 256+b1) * 256+b2) * 256+b3))
  rw [E0v,List.length_reverse,hlen] at hput
  rw [show ((j:Int)).toNat=j from rfl,show 48+(m+1)=48+m+1 from rfl,show V.i ((((b0 * 256+b1) * 256+b2) * 256+b3:Nat):Int)=nv (((b0 * 256+b1) * 256+b2) * 256+b3) from rfl,hput]
  have hl2:l.reverse.map nv++[nv (((b0 * 256+b1) * 256+b2) * 256+b3)]=((((b0 * 256+b1) * 256+b2) * 256+b3)::l).reverse.map nv:=by simp
  rw [hl2,ih (j+1) n _ k (by omega) (by simp [hlen]) (by omega),gd]
  simp only [N6,Q9]
  rfl
theorem A40 {l:List Nat} {r:List V} {q:Nat} (h:q < l.length):elV (.l (l.reverse.map nv++r)) ((l.length - 1 - q:Nat):Int)=((l.getD q 0:Nat):Int):=by
 unfold elV V.nth
 simp only [V.els]
 rw [show (((l.length - 1 - q:Nat):Int)).toNat=l.length - 1 - q from rfl,List.getD,List.getElem?_append_left (by simp;omega),List.getElem?_map,List.getElem?_reverse (by omega)]
 rw [show l.length - 1 - (l.length - 1 - q)=q by omega]
 simp [List.getD,h,nv,V.int]
theorem A3c:∀ (m:Nat) (bs acc:List Nat),(∀ b∈bs,b < 256)→(∀ a∈acc,a < R5)→4 * m≤bs.length→(∀ a∈N6 m bs acc,a < R5)∧(N6 m bs acc).length=m+acc.length:=by
 intro m
 induction m with
 | zero=>intro bs acc _ ha _;simp only [N6];exact ⟨ha,by simp⟩
 | succ m ih =>
  intro bs acc hb ha hl
  match bs,hb,hl with
  | b0::b1::b2::b3::r,hb,hl =>
   simp only [N6,Q9]
   have l0:=hb b0 (by simp)
   have l1:=hb b1 (by simp)
   have l2:=hb b2 (by simp)
   have l3:=hb b3 (by simp)
   obtain ⟨p,q⟩:=ih r ((((b0 * 256+b1) * 256+b2) * 256+b3)::acc) (fun b h=>hb b (by simp [h])) (fun a h=>by
    rcases List.mem_cons.1 h with rfl | h
    ·show _ < 4294967296;omega
    ·exact ha a h) (by simp at hl;omega)
   exact ⟨p,by rw [q];simp;omega⟩
  | [],_,hl=>simp at hl
  | [_],_,hl=>simp at hl;omega
  | [_,_],_,hl=>simp at hl;omega
  | [_,_,_],_,hl=>simp at hl;omega
theorem A1x {l:List Nat} (h:∀ a∈l,a < R5) (q:Nat):l.getD q 0 < R5:=by
 rw [List.getD]
 cases hq:l[q]? with
 | none=>show 0 < R5;decide
 | some a=>exact h a (List.mem_of_getElem? hq)
theorem B0P:∀ (m:Nat) (l:List Nat),(∀ a∈l,a < R5)→(∀ a∈A2A m l,a < R5)∧(A2A m l).length=m+l.length:=by
 intro m
 induction m with
 | zero=>intro l h;simp only [A2A];exact ⟨h,by simp⟩
 | succ m ih =>
  intro l h
  simp only [A2A,Q9]
  obtain ⟨p,q⟩:=ih (A4Y l::l) (fun a ha=>by
   rcases List.mem_cons.1 ha with rfl | ha
   ·exact Nat.mod_lt _ (by decide)
   ·exact h a ha)
  exact ⟨p,by rw [q];simp;omega⟩
theorem D86 {R:Type} {z:V}:∀ (m n:Nat) (l:List Nat) (k:D7B→Option R),l.length+m=64→16≤l.length→(∀ a∈l,a < R5)→m < n →
  B7 (C09 R) n (.m z (l.length:Int) (.l (l.reverse.map nv++List.replicate m (.i 0)))) k=k (.o z 64 (.l ((A2A m l).reverse.map nv))):=by
 intro m
 induction m with
 | zero =>
  intro n l k hj h16 hlt hn
  obtain ⟨n,rfl⟩:∃ n',n=n'+1:=⟨n - 1,by omega⟩
  have:l.length=64:=by omega
  rw [this]
  simp only [A2A,List.replicate_zero,List.append_nil]
  rfl
 | succ m ih =>
  intro n l k hj h16 hlt hn
  obtain ⟨n,rfl⟩:∃ n',n=n'+1:=⟨n - 1,by omega⟩
  have wi:∀ d:Nat,d≤16→B2 ((l.length:Int) - (d:Int))=((l.length - d:Nat):Int):=fun d hd=>by rw [G4 (by omega) (by omega)];omega
  have wj:B2 ((l.length:Int)+1)=((l.length+1:Nat):Int):=by rw [G4 (by omega) (by omega)];push_cast;rfl
  have e15:B2 ((l.length:Int) - 15)=((l.length - 1 - 14:Nat):Int):=(wi 15 (by omega)).trans (by omega)
  have e2:B2 ((l.length:Int) - 2)=((l.length - 1 - 1:Nat):Int):=(wi 2 (by omega)).trans (by omega)
  have e16:B2 ((l.length:Int) - 16)=((l.length - 1 - 15:Nat):Int):=(wi 16 (by omega)).trans (by omega)
  have e7:B2 ((l.length:Int) - 7)=((l.length - 1 - 6:Nat):Int):=(wi 7 (by omega)).trans (by omega)
  rw [B7]
  show (bif C3 (l.length:Int) 64 then _ else _)=_
  rw [show C3 (l.length:Int) 64=true by simp [C3];omega,cond_true]
  simp only
  rw [e15,e2,e16,e7,E2 (by omega) (by omega),E2 (by omega) (by omega),E2 (by omega) (by omega),E2 (by omega) (by omega),E2 (by omega) (by omega),wj]
  rw [A40 (by omega),A40 (by omega),A40 (by omega),A40 (by omega),D7u (A1x hlt _),D7v (A1x hlt _)]
  have hput:=A8K (l:=l.reverse.map nv) (m:=m) (z:=.i 0) (y:=nv (A4Y l))
  rw [E0v,List.length_reverse] at hput
  have hval:W32 (W32 (W32 (((l.getD 15 0:Nat):Int)+((l.getD 6 0:Nat):Int))+((sS0 (l.getD 14 0):Nat):Int))+((sS1 (l.getD 1 0):Nat):Int))=((A4Y l:Nat):Int):=by
   rw [← Int.natCast_add,A5K,← Int.natCast_add,A5K,← Int.natCast_add,A5K]
   congr 1
   unfold A4Y
   show _=_ % 4294967296
   omega
  rw [hval,show ((l.length:Int)).toNat=l.length from rfl,show V.i ((A4Y l:Nat):Int)=nv (A4Y l) from rfl,hput]
  have hl2:l.reverse.map nv++[nv (A4Y l)]=(A4Y l::l).reverse.map nv:=by simp
  rw [hl2]
  have:=ih n (A4Y l::l) k (by simp;omega) (by simp;omega) (fun a ha=>by
   rcases List.mem_cons.1 ha with rfl | ha
   ·exact Nat.mod_lt _ (by decide)
   ·exact hlt a ha) (by omega)
  rw [E0z] at this
  rw [this]
  simp only [A2A,Q9]
variable {T:TT} {R:Type} {P:Program}
theorem B8D {e:B9} {el:Nat} {kd:IntKind} (he:D2 T el=some (.int kd)) (hlo:lo kd=0):∀ {n:Nat} {xs:List V} {cs:List Value},RV T e (List.replicate n el) xs cs→∃ ns:List Nat,xs=ns.map nv∧∀ a∈ns,(a:Int)≤hi kd:=by
 intro n
 induction n with
 | zero=>intro xs cs h;cases h;exact ⟨[],rfl,fun a ha=>by cases ha⟩
 | succ n ih =>
  intro xs cs h
  rw [List.replicate_succ] at h
  cases xs with
  | nil=>cases h
  | cons x xs =>
   obtain ⟨d,r,rfl,g1,g2⟩:=h.cons_inv
   obtain ⟨m,rfl,_,hr⟩:=g1.int_inv he
   obtain ⟨ns,rfl,hn⟩:=ih g2
   unfold inR at hr
   rw [hlo] at hr
   refine ⟨m.toNat::ns,?_,fun a ha=>?_⟩
   ·simp only [List.map_cons,nv]
    rw [show ((m.toNat:Nat):Int)=m by omega]
   ·rcases List.mem_cons.1 ha with rfl | ha
    ·omega
    ·exact hn a ha
theorem RP.uncons {e:B9} {t:Nat} {ts:List Nat} {x:V} {xs:List V} {vs:List Value} (h:RP T e (t::ts) (x::xs) vs):∃ v vs',vs=v::vs'∧RV T e [t] [x] v.cells.toList∧RP T e ts xs vs':=by
 cases h with
 | cons h1 _ h2=>exact ⟨_,_,rfl,h1,h2⟩
theorem TV.head {t:Nat} {ts:List Nat} {x:V} {xs:List V} (h:TV T (t::ts) (x::xs)):∃ e cs,RV T e [t] [x] cs:=by
 obtain ⟨e,vs,h⟩:=h
 obtain ⟨v,vs',_,h1,_⟩:=h.uncons
 exact ⟨e,_,h1⟩
theorem TV.tail {t:Nat} {ts:List Nat} {x:V} {xs:List V} (h:TV T (t::ts) (x::xs)):TV T ts xs:=by
 obtain ⟨e,vs,h⟩:=h
 obtain ⟨v,vs',_,_,h2⟩:=h.uncons
 exact ⟨e,vs',h2⟩
theorem TV.len {ts:List Nat} {xs:List V} (h:TV T ts xs):xs.length=ts.length:=by
 obtain ⟨e,vs,h⟩:=h
 induction h with
 | nil=>rfl
 | cons _ _ _ ih=>simp [ih]
theorem A8L {t el:Nat} {kd:IntKind} {x:V} {e:B9} {cs:List Value} (ht:D2 T t=some (.slice el)) (he:D2 T el=some (.int kd)) (hlo:lo kd=0) (h:RV T e [t] [x] cs):∃ ns:List Nat,x.els=ns.map nv∧∀ a∈ns,(a:Int)≤hi kd:=by
 rcases h.slice_inv ht with ⟨rfl,_⟩ | ⟨ys,ds,a,cap,rfl,_,_,_,g⟩
 ·exact ⟨[],rfl,fun a ha=>by cases ha⟩
 ·exact B8D he hlo g
theorem D7F {t n el:Nat} {kd:IntKind} {x:V} {e:B9} {cs:List Value} (ht:D2 T t=some (.arr n el)) (he:D2 T el=some (.int kd)) (hlo:lo kd=0) (h:RV T e [t] [x] cs):∃ ns:List Nat,x=.l (ns.map nv)∧ns.length=n∧∀ a∈ns,(a:Int)≤hi kd:=by
 obtain ⟨ys,rfl,hl,g⟩:=h.arr_inv ht
 obtain ⟨ns,rfl,hn⟩:=B8D he hlo g
 exact ⟨ns,rfl,by simpa using hl,hn⟩
theorem D87 {α:Type} (o:Option α):ob o some=o:=by cases o<;>rfl
theorem A41 (hm:P.follows .mixedOrders=true) (hT:L8 T P) {tab:List (Nat×D3)} (h:C7 P T tab) {f d fu:Nat} {Lo:Nat→LC} {sh:Bool} {ts:List Nat} {rk:List RK} {F:FC} {G:(R:Type)→List V→(List Rs→Option R)→Option R} (hFn:F.nat) (hts:ts.all (fun t=>(T t).isSome)=true)
  (hL:F4 P T f Lo)
  (hrun:∀ (R:Type) xs (k:List Rs→Option R),TV T ts xs→F0 P T (E4 P T tab false fu d) Lo false fu f R (L6 T ts xs) (fun _=>none) 0 (fun out=>ob (P2 T sh rk out) k)=G R xs k)
  (hG:∀ xs rs,TV T ts xs→F (List Rs) xs some=some rs→G (List Rs) xs some=some rs) :
  C7 P T ((f,H5 T sh ts F)::tab) :=
 B35 hm hT h hFn hts hL (fun xs rs htv hrs=>by
  have:=hG xs rs htv hrs
  rw [← hrun (List Rs) xs some htv] at this
  simpa only [D87] using this)
def S1 (s:S8):V:=.l [nv s.a,nv s.b,nv s.c,nv s.d,nv s.e,nv s.f,nv s.g,nv s.h]
structure OkS (s:S8):Prop where
 a:s.a < R5
 b:s.b < R5
 c:s.c < R5
 d:s.d < R5
 e:s.e < R5
 f:s.f < R5
 g:s.g < R5
 h:s.h < R5
theorem B2l {s:S8} (h:OkS s) (k w:Nat):OkS (B6n s k w):=by
 unfold B6n
 simp only [Q9]
 exact ⟨Nat.mod_lt _ (by decide),h.a,h.b,h.c,Nat.mod_lt _ (by decide),h.e,h.f,h.g⟩
theorem D7G {a:Nat} (h:a < R5):H8 .xor .u32 4294967295 (a:Int)=((4294967295 - a:Nat):Int):=by
 rw [show (4294967295:Int)=((4294967295:Nat):Int) from rfl,A8H (by decide) h,D2h h]
theorem D2n {s:S8} (h:OkS s) {k w:Nat} (hk:k < R5) (hw:w < R5):D83 (S1 s) (k:Int) (w:Int)=S1 (B6n s k w):=by
 have hne:4294967295 - s.e < R5:=by show _ < 4294967296;omega
 have c1:and (s.e:Int) (s.f:Int)=((s.e &&& s.f:Nat):Int):=A8J h.e h.f
 have c2:and ((4294967295 - s.e:Nat):Int) (s.g:Int)=(((4294967295 - s.e) &&& s.g:Nat):Int):=A8J hne h.g
 have hch:xor (and (s.e:Int) (s.f:Int)) (and (H8 .xor .u32 4294967295 (s.e:Int)) (s.g:Int))=((chN s.e s.f s.g:Nat):Int):=by
  rw [D7G h.e,c1,c2,A1j (T8 h.e) (T8 hne)];rfl
 have hb1:xor (xor (rot (s.e:Int) 6) (rot (s.e:Int) 11)) (rot (s.e:Int) 25)=((bS1 s.e:Nat):Int):=by
  rw [A1H h.e,A1H h.e,A1H h.e,A1j (D0 h.e) (D0 h.e),A1j (R9 (D0 h.e) (D0 h.e)) (D0 h.e)];rfl
 have hb0:xor (xor (rot (s.a:Int) 2) (rot (s.a:Int) 13)) (rot (s.a:Int) 22)=((bS0 s.a:Nat):Int):=by
  rw [A1H h.a,A1H h.a,A1H h.a,A1j (D0 h.a) (D0 h.a),A1j (R9 (D0 h.a) (D0 h.a)) (D0 h.a)];rfl
 have hmaj:xor (xor (and (s.a:Int) (s.b:Int)) (and (s.a:Int) (s.c:Int))) (and (s.b:Int) (s.c:Int))=((B6m s.a s.b s.c:Nat):Int):=by
  rw [A8J h.a h.b,A8J h.a h.c,A8J h.b h.c,A1j (T8 h.a) (T8 h.a),A1j (R9 (T8 h.a) (T8 h.a)) (T8 h.b)];rfl
 have ht:W32 (W32 (W32 (W32 ((s.h:Int)+xor (xor (rot (s.e:Int) 6) (rot (s.e:Int) 11)) (rot (s.e:Int) 25))+xor (and (s.e:Int) (s.f:Int)) (and (H8 .xor .u32 4294967295 (s.e:Int)) (s.g:Int)))+(k:Int))+(w:Int))=(((s.h+bS1 s.e+chN s.e s.f s.g+k+w) % 4294967296:Nat):Int):=by
  rw [hb1,hch,← Int.natCast_add,A5K,← Int.natCast_add,A5K,← Int.natCast_add,A5K,← Int.natCast_add,A5K]
  congr 1;omega
 have hu:W32 (xor (xor (rot (s.a:Int) 2) (rot (s.a:Int) 13)) (rot (s.a:Int) 22)+xor (xor (and (s.a:Int) (s.b:Int)) (and (s.a:Int) (s.c:Int))) (and (s.b:Int) (s.c:Int)))=(((bS0 s.a+B6m s.a s.b s.c) % 4294967296:Nat):Int):=by
  rw [hb0,hmaj,← Int.natCast_add,A5K]
 show V.l [.i (W32 (W32 (W32 (W32 (W32 ((s.h:Int)+xor (xor (rot (s.e:Int) 6) (rot (s.e:Int) 11)) (rot (s.e:Int) 25))+xor (and (s.e:Int) (s.f:Int)) (and (H8 .xor .u32 4294967295 (s.e:Int)) (s.g:Int)))+(k:Int))+(w:Int))+W32 (xor (xor (rot (s.a:Int) 2) (rot (s.a:Int) 13)) (rot (s.a:Int) 22)+xor (xor (and (s.a:Int) (s.b:Int)) (and (s.a:Int) (s.c:Int))) (and (s.b:Int) (s.c:Int))))),.i s.a,.i s.b,.i s.c,.i (W32 ((s.d:Int)+W32 (W32 (W32 (W32 ((s.h:Int)+xor (xor (rot (s.e:Int) 6) (rot (s.e:Int) 11)) (rot (s.e:Int) 25))+xor (and (s.e:Int) (s.f:Int)) (and (H8 .xor .u32 4294967295 (s.e:Int)) (s.g:Int)))+(k:Int))+(w:Int)))),.i s.e,.i s.f,.i s.g]=_
 rw [ht,hu,← Int.natCast_add,← Int.natCast_add,A5K,A5K]
 unfold B6n S1
 simp only [Q9,nv]
 refine congrArg V.l ?_
 congr 1
 ·congr 1;congr 1;show _=_ % 4294967296;omega
 ·congr 3
  congr 1
  congr 1;congr 1;show _=_ % 4294967296;omega
theorem A8M {l:List Nat} {j:Nat} (h:j < l.length):elV (.l (l.map nv)) (j:Int)=((l[j]:Nat):Int):=by
 unfold elV V.nth
 simp only [V.els]
 rw [show ((j:Int)).toNat=j from rfl,List.getD,List.getElem?_map,E0E h]
 rfl
theorem D88 {s z:V} {K W:List Nat} (hK:K.length=64) (hW:W.length=64) (kK:∀ a∈K,a < R5) (kW:∀ a∈W,a < R5):∀ (m j n:Nat) (x:S8) (k:D7C→Option R),j+m=64→OkS x→m < n →
  B7 (C7o R) n (.m s z (.l (W.map nv)) (.l (K.map nv)) (S1 x) (j:Int)) k=k (.o s z (.l (W.map nv)) (.l (K.map nv)) (S1 (B0N (K.drop j) (W.drop j) x)) 64):=by
 intro m
 induction m with
 | zero =>
  intro j n x k hj hx hn
  obtain ⟨n,rfl⟩:∃ n',n=n'+1:=⟨n - 1,by omega⟩
  have:j=64:=by omega
  subst this
  rw [List.drop_of_length_le (by omega),List.drop_of_length_le (by omega)]
  rfl
 | succ m ih =>
  intro j n x k hj hx hn
  obtain ⟨n,rfl⟩:∃ n',n=n'+1:=⟨n - 1,by omega⟩
  have wj:B2 ((j:Int)+1)=((j+1:Nat):Int):=by rw [G4 (by omega) (by omega)];push_cast;rfl
  rw [B7]
  show (bif C3 (j:Int) 64 then _ else _)=_
  rw [show C3 (j:Int) 64=true by simp [C3];omega,cond_true]
  simp only
  rw [E2 (by omega) (by omega),E2 (by omega) (by omega),wj,A8M (by omega),A8M (by omega),D2n hx (kK _ (List.getElem_mem ..)) (kW _ (List.getElem_mem ..)),ih (j+1) n _ k (by omega) (B2l hx _ _) (by omega)]
  rw [List.drop_eq_getElem_cons (show j < K.length by omega),List.drop_eq_getElem_cons (show j < W.length by omega)]
  rfl
theorem D2o {s x:S8}:OkS (B6o s x):=by
 unfold B6o
 simp only [Q9]
 exact ⟨Nat.mod_lt _ (by decide),Nat.mod_lt _ (by decide),Nat.mod_lt _ (by decide),Nat.mod_lt _ (by decide),Nat.mod_lt _ (by decide),Nat.mod_lt _ (by decide),Nat.mod_lt _ (by decide),Nat.mod_lt _ (by decide)⟩
theorem D89 {s x:S8} {z:V} {n:Nat} {k:D7D→Option R} :
  B7 (B6q R) (n+9) (.m (S1 s) z (S1 x) 0) k=k (.o (S1 (B6o s x)) z (S1 x) 8):=by
 have h1:B7 (B6q R) (n+9) (.m (S1 s) z (S1 x) 0) k=k (.o (.l [.i (W32 ((s.a:Int)+(x.a:Int))),.i (W32 ((s.b:Int)+(x.b:Int))),.i (W32 ((s.c:Int)+(x.c:Int))),.i (W32 ((s.d:Int)+(x.d:Int))),.i (W32 ((s.e:Int)+(x.e:Int))),.i (W32 ((s.f:Int)+(x.f:Int))),.i (W32 ((s.g:Int)+(x.g:Int))),.i (W32 ((s.h:Int)+(x.h:Int)))]) z (S1 x) 8):=by kernel_rfl
 rw [h1]
 simp only [← Int.natCast_add,A5K]
 unfold B6o S1
 simp only [Q9]
 rfl
variable {T:TT} {R:Type} {P:Program}
def z64:V:=.l (List.replicate 64 (.i 0))
def z8:V:=.l (List.replicate 8 (.i 0))
def A3d:V:=.l (B0O.map nv)
def M1 (x:V):List Nat:=x.els.map fun v=>v.int.toNat
def spW (x:V):V:=.l ((A2A 48 (N6 16 (M1 x) [])).reverse.map nv)
def s8 (x:V):S8:=⟨(x.nth 0).int.toNat,(x.nth 1).int.toNat,(x.nth 2).int.toNat,(x.nth 3).int.toNat,(x.nth 4).int.toNat,(x.nth 5).int.toNat,(x.nth 6).int.toNat,(x.nth 7).int.toNat⟩
def B2m (s b:V):V:=S1 (A3b (s8 s) (M1 b))
def Fsp (t:Nat):FC:=fun R xs k=>match xs with
 | [x]=>bif Nat.ble 64 x.els.length then k [.d t (spW x)] else none
 | _=>none
def Fmx (t:Nat):FC:=fun R xs k=>match xs with
 | [s,b]=>bif Nat.ble 64 b.els.length then k [.d t (B2m s b)] else none
 | _=>none
theorem D2p (t:Nat):FC.nat (Fsp t):=by
 intro R xs k
 unfold Fsp
 split
 ·rename_i x;cases Nat.ble 64 x.els.length<;>rfl
 ·rfl
theorem D2q (t:Nat):FC.nat (Fmx t):=by
 intro R xs k
 unfold Fmx
 split
 ·rename_i s b;cases Nat.ble 64 b.els.length<;>rfl
 ·rfl
theorem Z2 {x:V} {bs:List Nat} (hx:x.els=bs.map nv):M1 x=bs:=by
 unfold M1
 rw [hx,List.map_map]
 conv=>rhs;rw [← List.map_id bs]
 apply List.map_congr_left
 intro a _
 rfl
theorem B6s {x:V} {bs:List Nat} (hx:x.els=bs.map nv) (hb:∀ b∈bs,b < 256) (hl:64≤bs.length) {n:Nat} (hn:64 < n) (k:V→Option R) :
  B7 (C7n R) n (.m x z64 0 z64) (fun | .o _ z _ w=>B7 (C09 R) n (.m z 16 w) (fun | .o _ _ w=>k w))=k (spW x):=by
 have h1:=D85 (R:=R) (z:=z64) hx hb hl 16 0 n [] (fun | .o _ z _ w=>B7 (C09 R) n (.m z 16 w) (fun | .o _ _ w=>k w)) rfl rfl (by omega)
 obtain ⟨w1,w2⟩:=A3c 16 bs [] hb (fun a h=>by cases h) (by omega)
 have h2:=D86 (R:=R) (z:=z64) 48 n (N6 16 bs []) (fun | .o _ _ w=>k w) (by rw [w2];rfl) (by rw [w2];simp) w1 (by omega)
 rw [w2] at h2
 refine h1.trans (Eq.trans ?_ (h2.trans ?_))
 ·rfl
 ·show k _=_
  unfold spW
  rw [Z2 hx]
theorem B38:∀ a∈B0O,a < R5:=by decide
theorem D7H (s:S8):s8 (S1 s)=s:=rfl
theorem D2r {s:S8} {b:V} {bs:List Nat} (hs:OkS s) (hx:b.els=bs.map nv) (hb:∀ b∈bs,b < 256) (hl:64≤bs.length) {n:Nat} (hn:64 < n) (k:V→Option R) :
  B7 (C7o R) n (.m (S1 s) z8 (spW b) A3d (S1 s) 0) (fun | .o s z _ _ x _=>B7 (B6q R) n (.m s z x 0) (fun | .o s _ _ _=>k s))=k (B2m (S1 s) b):=by
 obtain ⟨w1,w2⟩:=A3c 16 bs [] hb (fun a h=>by cases h) (by omega)
 obtain ⟨c1,c2⟩:=B0P 48 (N6 16 bs []) w1
 have h1:=D88 (R:=R) (s:=S1 s) (z:=z8) (K:=B0O) (W:=(A2A 48 (N6 16 bs [])).reverse) rfl (by rw [List.length_reverse,c2,w2];rfl) B38 (fun a h=>c1 a (List.mem_reverse.1 h)) 64 0 n s
  (fun | .o s z _ _ x _=>B7 (B6q R) n (.m s z x 0) (fun | .o s _ _ _=>k s)) rfl hs (by omega)
 have hsp:spW b=.l ((A2A 48 (N6 16 bs [])).reverse.map nv):=by unfold spW;rw [Z2 hx]
 rw [hsp]
 refine h1.trans ?_
 obtain ⟨n,rfl⟩:∃ n',n=n'+9:=⟨n - 9,by omega⟩
 refine D89.trans ?_
 show k _=k _
 unfold B2m A3b
 rw [D7H,Z2 hx]
 rfl
theorem D7I {ns:List Nat} (hl:ns.length=8) (h:∀ a∈ns,(a:Int)≤4294967295):∃ s,V.l (ns.map nv)=S1 s∧OkS s:=by
 match ns,hl with
 | [a,b,c,d,e,f,g,i],_ =>
  have q:∀ x∈[a,b,c,d,e,f,g,i],x < R5:=fun x hx=>by have:=h x hx;show x < 4294967296;omega
  exact ⟨⟨a,b,c,d,e,f,g,i⟩,rfl,⟨q _ (by simp),q _ (by simp),q _ (by simp),q _ (by simp),q _ (by simp),q _ (by simp),q _ (by simp),q _ (by simp)⟩⟩
theorem B8E {bs:List Nat} (h:∀ a∈bs,(a:Int)≤hi .u8):∀ b∈bs,b < 256:=fun b hb=>by have:=h b hb;simp only [hi] at this;omega
end Go.Vm
end