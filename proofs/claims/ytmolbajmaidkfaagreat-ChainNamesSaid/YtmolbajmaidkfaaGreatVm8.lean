/- What the operations of a program do, shown once for all programs; and numbers. -/
import Derived.Test.YtmolbajmaidkfaaGreatVm7
import Derived.Test.YtmolbajmaidkfaaGreatVm6
set_option linter.constructorNameAsVariable false
set_option linter.unusedVariables false
set_option linter.unusedSimpArgs false
set_option linter.unnecessarySimpa false
noncomputable section
namespace Go.Vm
open Go.RowKit
variable {P:Program} {T:TT} {c:F7} {e eb:B4} {of of':Nat→Option Ob}
def B5f {α:Type} (n:Nat):(Nat→α)→α:=@Nat.rec (fun _=>(Nat→α)→α) (fun k=>k 0) (fun m _ k=>k (Nat.succ m)) n
theorem A9x {α:Type} (n:Nat) (k:Nat→α):B5f n k=k n:=by cases n<;>rfl
def E0L {α:Type} (i:Int):(Int→α)→α:=@Int.rec (fun _=>(Int→α)→α) (fun n k=>B5f n fun n=>k (.ofNat n)) (fun n k=>B5f n fun n=>k (.negSucc n)) i
theorem C1h {α:Type} (i:Int) (k:Int→α):E0L i k=k i:=by
 cases i with
 | ofNat n=>exact A9x n fun n=>k (.ofNat n)
 | negSucc n=>exact A9x n fun n=>k (.negSucc n)
def C1i {α:Type} (a:A):(A→α)→α :=
 @A.rec (fun _=>(A→α)→α) (fun _=>Unit)
  (fun kd n k=>E0L n fun n=>k (.i kd n)) (fun q k=>@Bool.rec (fun _=>(A→α)→α) (fun k=>k (.b false)) (fun k=>k (.b true)) q k) (fun l k=>k (.s l)) (fun v k=>k (.z v)) (fun t x k=>k (.v t x)) (fun id t p k=>k (.p id t p))
  (fun id v i t p k=>k (.e id v i t p)) (fun t x k=>k (.c t x)) (fun t x k=>k (.q t x)) (fun id v k=>k (.o id v)) (fun id v o n k=>k (.w id v o n)) (fun id t p l m k=>k (.a id t p l m)) (fun id k=>k (.m id)) (fun id k=>k (.y id))
  (fun f c _ k=>k (.f f c)) (fun t l _ k=>k (.g t l)) (fun l _ k=>k (.t l)) (fun k=>k .x) () (fun _ _ _ _=>()) a
theorem C1j {α:Type} (a:A) (k:A→α):C1i a k=k a:=by
 cases a with
 | i kd n=>exact C1h n fun n=>k (.i kd n)
 | b q=>cases q<;>rfl
 | _=>rfl
def C1k {α β:Type} (l:List β):(List β→α)→α:=@List.rec β (fun _=>(List β→α)→α) (fun k=>k []) (fun a r _ k=>k (a::r)) l
theorem C1l {α β:Type} (l:List β) (k:List β→α):C1k l k=k l:=by cases l<;>rfl
def onO {α β:Type} (q:Option α):(α→Option β)→Option β:=@Option.rec α (fun _=>(α→Option β)→Option β) (fun _=>none) (fun a k=>k a) q
theorem A4G {α β:Type} (q:Option α) (k:α→Option β):onO q k=match q with
  | some a=>k a
  | none=>none:=by cases q<;>rfl
def B2s (ob:Tr) (l:List Nat):List Nat→List Nat :=
 @List.rec Nat (fun _=>List Nat→List Nat) (fun rd=>rd) (fun id _ ih rd=>@Option.rec Ob (fun _=>List Nat) (@Bool.rec (fun _=>List Nat) (ih (id::rd)) (ih rd) (mem id rd)) (fun _=>ih rd) (ob.get id)) l
theorem C1m (ob:Tr):∀ (l rd:List Nat),B2s ob l rd=W6 ob l rd:=by
 intro l
 induction l with
 | nil=>intro rd;rfl
 | cons id r ih =>
  intro rd
  show @Option.rec Ob (fun _=>List Nat) (@Bool.rec (fun _=>List Nat) (B2s ob r (id::rd)) (B2s ob r rd) (mem id rd)) (fun _=>B2s ob r rd) (ob.get id)=_
  rw [ih,ih]
  simp only [W6]
  cases ob.get id with
  | none=>cases mem id rd<;>rfl
  | some o=>rfl
def C1n (l:List (Nat×Ob)):Tr→Tr:=@List.rec (Nat×Ob) (fun _=>Tr→Tr) (fun t=>t) (fun p _ ih t=>ih (t.set p.1 p.2)) l
theorem C1o:∀ (l:List (Nat×Ob)) (t:Tr),C1n l t=Z6 t l:=by
 intro l
 induction l with
 | nil=>intro t;rfl
 | cons p r ih=>intro t;exact ih _
def leQ (a b:Int):Bool :=
 @Int.rec (fun _=>Int→Bool) (fun n b=>@Int.rec (fun _=>Nat→Bool) (fun m n=>Nat.ble n m) (fun _ _=>false) b n) (fun n b=>@Int.rec (fun _=>Nat→Bool) (fun _ _=>true) (fun m n=>Nat.ble m n) b n) a b
theorem B2t (a b:Int):leQ a b=M6 a b:=by
 rw [Bool.eq_iff_iff,N9]
 cases a<;>cases b<;>simp only [leQ,Nat.ble_eq,Int.ofNat_eq_natCast,Bool.false_eq_true,false_iff,true_iff]<;>omega
def ltQ (a b:Int):Bool :=
 @Int.rec (fun _=>Int→Bool) (fun n b=>@Int.rec (fun _=>Nat→Bool) (fun m n=>Nat.blt n m) (fun _ _=>false) b n) (fun n b=>@Int.rec (fun _=>Nat→Bool) (fun _ _=>true) (fun m n=>Nat.blt m n) b n) a b
theorem B8a (a b:Int):ltQ a b=H9 a b:=by
 rw [Bool.eq_iff_iff,J9]
 cases a<;>cases b<;>simp only [ltQ,Nat.blt_eq,Int.ofNat_eq_natCast,Bool.false_eq_true,false_iff,true_iff]<;>omega
def eqQ (a b:Int):Bool :=
 @Int.rec (fun _=>Int→Bool) (fun n b=>@Int.rec (fun _=>Nat→Bool) (fun m n=>Nat.beq n m) (fun _ _=>false) b n) (fun n b=>@Int.rec (fun _=>Nat→Bool) (fun _ _=>false) (fun m n=>Nat.beq n m) b n) a b
theorem B8b (a b:Int):eqQ a b=ieq a b:=by cases a<;>cases b<;>rfl
def A31 (sg:Bool) (p h:Nat) (n:Int):Int :=
 (fun m=>@Bool.rec (fun _=>Nat→Int) (fun m=>.ofNat m) (fun m=>@Bool.rec (fun _=>Nat→Int) (fun m=>.negSucc (p - m - 1)) (fun m=>.ofNat m) (Nat.blt m h) m) sg m)
  (@Int.rec (fun _=>Nat) (fun m=>m % p) (fun m=>p - 1 - m % p) n)
theorem P9 (k:IntKind) (n:Int) (sg:Bool) (p h:Nat) (hs:k.signed=sg) (hp:(2:Int) ^ k.bits=(p:Int)) (hh:(2:Int) ^ (k.bits - 1)=(h:Int)) (h0:0 < p):A31 sg p h n=k.wrap n:=by
 have hm:∀ m:Nat,m < p→(n % (p:Int)=(m:Int))→(@Bool.rec (fun _=>Nat→Int) (fun m=>.ofNat m) (fun m=>@Bool.rec (fun _=>Nat→Int) (fun m=>.negSucc (p - m - 1)) (fun m=>.ofNat m) (Nat.blt m h) m) sg m:Int)=k.wrap n:=fun m hlt hmod=>by
  unfold IntKind.wrap
  simp only [hs,hp,hh,hmod]
  cases sg with
  | false=>simp
  | true =>
   show (@Bool.rec (fun _=>Nat→Int) (fun m=>.negSucc (p - m - 1)) (fun m=>.ofNat m) (Nat.blt m h) m:Int)=_
   cases hb:Nat.blt m h with
   | true =>
    have:m < h:=by simpa [Nat.blt_eq] using hb
    have h2:¬ ((m:Int) ≥ (h:Int)):=by omega
    simp [h2]
   | false =>
    have:¬ m < h:=by intro q;rw [show Nat.blt m h=true by simpa [Nat.blt_eq] using q] at hb;cases hb
    have h2:(m:Int) ≥ (h:Int):=by omega
    simp only [h2,decide_true,Bool.and_self,if_true,Bool.true_and,ge_iff_le]
    show Int.negSucc (p - m - 1)=_
    rw [Int.negSucc_eq]
    omega
 cases n with
 | ofNat m =>
  refine hm (m % p) (Nat.mod_lt _ h0) ?_
  show ((m:Int) % (p:Int))=_
  omega
 | negSucc m =>
  refine hm (p - 1 - m % p) (by have:=Nat.mod_lt m h0;omega) ?_
  rw [Int.negSucc_emod _ (by omega)]
  have:=Nat.mod_lt m h0
  omega
structure WrR where
 run:Int→Int
def wrR:IntKind→WrR
 | .i8=>⟨fun n=>A31 true 256 128 n⟩
 | .i16=>⟨fun n=>A31 true 65536 32768 n⟩
 | .i32=>⟨fun n=>A31 true 4294967296 2147483648 n⟩
 | .i64=>⟨fun n=>A31 true 18446744073709551616 9223372036854775808 n⟩
 | .u8=>⟨fun n=>A31 false 256 128 n⟩
 | .u16=>⟨fun n=>A31 false 65536 32768 n⟩
 | .u32=>⟨fun n=>A31 false 4294967296 2147483648 n⟩
 | .u64=>⟨fun n=>A31 false 18446744073709551616 9223372036854775808 n⟩
theorem B8c (k:IntKind) (n:Int):(wrR k).run n=k.wrap n:=by
 cases k with
 | i8=>exact P9 .i8 n true 256 128 rfl rfl rfl (by decide)
 | i16=>exact P9 .i16 n true 65536 32768 rfl rfl rfl (by decide)
 | i32=>exact P9 .i32 n true 4294967296 2147483648 rfl rfl rfl (by decide)
 | i64=>exact P9 .i64 n true 18446744073709551616 9223372036854775808 rfl rfl rfl (by decide)
 | u8=>exact P9 .u8 n false 256 128 rfl rfl rfl (by decide)
 | u16=>exact P9 .u16 n false 65536 32768 rfl rfl rfl (by decide)
 | u32=>exact P9 .u32 n false 4294967296 2147483648 rfl rfl rfl (by decide)
 | u64=>exact P9 .u64 n false 18446744073709551616 9223372036854775808 rfl rfl rfl (by decide)
structure IbR where
 run:IntKind→Int→Int→Option A
def C1p:BinOp→IbR
 | .add=>⟨fun k a b=>some (.i k ((wrR k).run (a+b)))⟩
 | .sub=>⟨fun k a b=>some (.i k ((wrR k).run (a - b)))⟩
 | .mul=>⟨fun k a b=>some (.i k ((wrR k).run (a * b)))⟩
 | .quo=>⟨fun k a b=>bif eqQ b 0 then none else some (.i k ((wrR k).run (a.tdiv b)))⟩
 | .rem=>⟨fun k a b=>bif eqQ b 0 then none else some (.i k (a.tmod b))⟩
 | .shl=>⟨fun k a b=>bif leQ 0 b then some (.i k ((wrR k).run (a * 2 ^ min b.toNat k.bits))) else none⟩
 | .shr=>⟨fun k a b=>bif leQ 0 b then some (.i k (a.fdiv (2 ^ min b.toNat k.bits))) else none⟩
 | .eql=>⟨fun k a b=>some (.b (eqQ a b))⟩
 | .neq=>⟨fun k a b=>some (.b (!eqQ a b))⟩
 | .lss=>⟨fun k a b=>some (.b (ltQ a b))⟩
 | .leq=>⟨fun k a b=>some (.b (leQ a b))⟩
 | .gtr=>⟨fun k a b=>some (.b (ltQ b a))⟩
 | .geq=>⟨fun k a b=>some (.b (leQ b a))⟩
 | .and=>⟨fun k a b=>A2P .and k a b⟩
 | .or=>⟨fun k a b=>A2P .or k a b⟩
 | .xor=>⟨fun k a b=>A2P .xor k a b⟩
 | .andNot=>⟨fun k a b=>A2P .andNot k a b⟩
theorem C1q (op:BinOp) (k:IntKind) (a b:Int):(C1p op).run k a b=A2P op k a b:=by
 cases op<;>simp only [C1p,A2P,B8c,B2t,B8a,B8b]
 case quo=>cases ieq b 0<;>rfl
 case rem=>cases ieq b 0<;>rfl
 case shl=>cases M6 0 b<;>rfl
 case shr=>cases M6 0 b<;>rfl
structure OpR where
 run:KS→(Nat→A)→(Nat→Option Ob)→Nat→Option J8
structure OdR where
 get:(Nat→A)→A
def Y5:Operand→OdR
 | .tmp t=>⟨fun sl=>sl t⟩
 | .const v=>⟨fun _=>A3o v⟩
 | .func f=>⟨fun _=>.f f []⟩
 | .global _=>⟨fun _=>.x⟩
theorem P5 (x:Operand) (sl:Nat→A):(Y5 x).get sl=M3 sl x:=by cases x<;>rfl
structure OlR where
 get:(Nat→A)→List A
def olR:List Operand→OlR
 | []=>⟨fun _=>[]⟩
 | x::r=>⟨fun sl=>(Y5 x).get sl::(olR r).get sl⟩
theorem B2u (l:List Operand) (sl:Nat→A):(olR l).get sl=l.map (M3 sl):=by
 induction l with
 | nil=>rfl
 | cons x r ih=>simp only [olR,List.map_cons,P5,ih]
structure E1f where
 get:(Nat→A)→List (Nat×A)
def A3q:List (Nat×Operand)→E1f
 | []=>⟨fun _=>[]⟩
 | x::r=>⟨fun sl=>(x.1,(Y5 x.2).get sl)::(A3q r).get sl⟩
theorem B5g (l:List (Nat×Operand)) (sl:Nat→A):(A3q l).get sl=A3p (M3 sl) l:=by
 induction l with
 | nil=>rfl
 | cons x r ih=>simp only [A3q,P5,ih];rfl
structure OoR where
 get:(Nat→A)→Option A
def ooR:Option Operand→OoR
 | none=>⟨fun _=>none⟩
 | some x=>⟨fun sl=>some ((Y5 x).get sl)⟩
theorem D48 (o:Option Operand) (sl:Nat→A):(ooR o).get sl=o.map (M3 sl):=by
 cases o with
 | none=>rfl
 | some x=>simp only [ooR,P5,Option.map_some]
def E1g {R:Type} (a:A):(Nat→List A→R)→(Nat→R)→R→R :=
 @A.rec (fun _=>(Nat→List A→R)→(Nat→R)→R→R) (fun _=>Unit)
  (fun _ _ _ _ d=>d) (fun _ _ _ d=>d) (fun _ _ _ d=>d) (fun _ _ _ d=>d) (fun _ _ _ _ d=>d) (fun _ _ _ _ _ d=>d) (fun _ _ _ _ _ _ _ d=>d) (fun _ _ _ _ d=>d) (fun _ _ _ _ d=>d)
  (fun _ _ _ _ d=>d) (fun _ _ _ _ _ _ d=>d) (fun _ _ _ _ _ _ _ d=>d) (fun _ _ _ d=>d) (fun id _ y _=>y id) (fun fn cap _ f _ _=>f fn cap) (fun _ _ _ _ _ d=>d) (fun _ _ _ _ d=>d) (fun _ _ d=>d) () (fun _ _ _ _=>()) a
def B2v {R:Type} (a:A):(IntKind→Int→R)→R→R :=
 @A.rec (fun _=>(IntKind→Int→R)→R→R) (fun _=>Unit)
  (fun k n f _=>f k n) (fun _ _ d=>d) (fun _ _ d=>d) (fun _ _ d=>d) (fun _ _ _ d=>d) (fun _ _ _ _ d=>d) (fun _ _ _ _ _ _ d=>d) (fun _ _ _ d=>d) (fun _ _ _ d=>d)
  (fun _ _ _ d=>d) (fun _ _ _ _ _ d=>d) (fun _ _ _ _ _ _ d=>d) (fun _ _ d=>d) (fun _ _ d=>d) (fun _ _ _ _ d=>d) (fun _ _ _ _ d=>d) (fun _ _ _ d=>d) (fun _ d=>d) () (fun _ _ _ _=>()) a
def B8d {R:Type} (a:A):(Nat→Nat→R)→R→R:=@A.rec (fun _=>(Nat→Nat→R)→R→R) (fun _=>Unit) (fun _ _ f d=>d) (fun _ f d=>d) (fun _ f d=>d) (fun _ f d=>d) (fun _ _ f d=>d) (fun _ _ _ f d=>d) (fun _ _ _ _ _ f d=>d) (fun _ _ f d=>d) (fun _ _ f d=>d) (fun id ver f d=>f id ver) (fun _ _ _ _ f d=>d) (fun _ _ _ _ _ f d=>d) (fun _ f d=>d) (fun _ f d=>d) (fun _ _ _ f d=>d) (fun _ _ _ f d=>d) (fun _ _ f d=>d) (fun f d=>d) () (fun _ _ _ _=>()) a
def E0M {R:Type} (a:A):(Nat→Nat→List Nat→R)→R→R:=@A.rec (fun _=>(Nat→Nat→List Nat→R)→R→R) (fun _=>Unit) (fun _ _ f d=>d) (fun _ f d=>d) (fun _ f d=>d) (fun _ f d=>d) (fun _ _ f d=>d) (fun id t path f d=>f id t path) (fun _ _ _ _ _ f d=>d) (fun _ _ f d=>d) (fun _ _ f d=>d) (fun _ _ f d=>d) (fun _ _ _ _ f d=>d) (fun _ _ _ _ _ f d=>d) (fun _ f d=>d) (fun _ f d=>d) (fun _ _ _ f d=>d) (fun _ _ _ f d=>d) (fun _ _ f d=>d) (fun f d=>d) () (fun _ _ _ _=>()) a
def A0M {R:Type} (q:Option Ob):(Nat→Nat→List V→Bool→Bool→R)→R→R :=
 @Option.rec Ob (fun _=>(Nat→Nat→List V→Bool→Bool→R)→R→R) (fun _ d=>d) (fun o f d=>@Ob.rec (fun _=>(Nat→Nat→List V→Bool→Bool→R)→R→R) (fun _ _ _ _ d=>d) (fun el v xs nl sh f _=>f el v xs nl sh) (fun _ _ _ _ d=>d) (fun _ _ d=>d) (fun _ _ d=>d) (fun _ _ _ _ d=>d) (fun _ _ _ _ _ _ d=>d) o f d) q
def A9y {R:Type} (q:Option Ob):(Nat→A→Bool→R)→R→R :=
 @Option.rec Ob (fun _=>(Nat→A→Bool→R)→R→R) (fun _ d=>d) (fun o f d=>@Ob.rec (fun _=>(Nat→A→Bool→R)→R→R) (fun t a sh f _=>f t a sh) (fun _ _ _ _ _ _ d=>d) (fun _ _ _ _ d=>d) (fun _ _ d=>d) (fun _ _ d=>d) (fun _ _ _ _ d=>d) (fun _ _ _ _ _ _ d=>d) o f d) q
def R4 {R:Type} (b:Bool):R→R→R:=@Bool.rec (fun _=>R→R→R) (fun _ e=>e) (fun t _=>t) b
theorem Q4 {R:Type} (b:Bool) (t e:R):R4 b t e=if b then t else e:=by cases b<;>rfl
def A41 (l:List V):Nat:=@List.rec V (fun _=>Nat) 0 (fun _ _ ih=>Nat.succ ih) l
theorem A5i (l:List V):A41 l=l.length:=by
 induction l with
 | nil=>rfl
 | cons a r ih=>show Nat.succ (A41 r)=_;rw [ih];rfl
def D49 (l:List V):List V→List V:=@List.rec V (fun _=>List V→List V) (fun m=>m) (fun a _ ih m=>a::ih m) l
theorem C1r (l m:List V):D49 l m=l++m:=by
 induction l with
 | nil=>rfl
 | cons a r ih=>show a::D49 r m=_;rw [ih];rfl
def C1s (l:List V):Nat→V:=@List.rec V (fun _=>Nat→V) (fun _=>.n) (fun a _ ih i=>@Nat.rec (fun _=>V) a (fun j _=>ih j) i) l
theorem C1t:∀ (l:List V) (i:Nat),C1s l i=l.getD i .n:=by
 intro l
 induction l with
 | nil=>intro i;simp [C1s,List.getD]
 | cons a r ih =>
  intro i
  cases i with
  | zero=>rfl
  | succ j=>show C1s r j=_;rw [ih];simp [List.getD]
structure MkR where
 run:V→A
def mkR (T:TT) (t:Nat):MkR :=
 match C3 T t with
 | some (.int k)=>⟨fun x=>.i k x.int⟩
 | some .bool=>⟨fun x=>.b x.bl⟩
 | some .str=>⟨fun x=>.s x.els⟩
 | some .func=>⟨fun x=>mkA T t x⟩
 | _=>⟨fun x=>.v t x⟩
theorem D5a (t:Nat) (x:V):(mkR T t).run x=mkA T t x:=by
 unfold mkR
 cases hk:C3 T t with
 | none=>simp [mkA,hk]
 | some k=>cases k<;>simp [mkA,hk]
def A6q (T:TT) (t:Nat) (k:IntKind):Bool:=(match C3 T t with
  | some (.int k')=>k == k'
  | _=>false)&&Nat.beq (C2 T t) 1
def asF (T:TT) (t:Nat) (a:A):Option A:=@A.rec (fun _=>A→Option A) (fun _=>Unit) (fun k n a=>R4 (A6q T t k) (some a) none) (fun _ a=>M1 T t a) (fun _ a=>M1 T t a) (fun _ a=>M1 T t a) (fun t1 x a=>R4 (same T t t1) (some (.v t x)) none) (fun _ _ _ a=>M1 T t a) (fun _ _ _ _ _ a=>M1 T t a) (fun _ _ a=>M1 T t a) (fun _ _ a=>M1 T t a) (fun id ver a=>R4 (T0 T t) (some a) none) (fun _ _ _ _ a=>M1 T t a) (fun _ _ _ _ _ a=>M1 T t a) (fun _ a=>M1 T t a) (fun _ a=>M1 T t a) (fun _ _ _ a=>M1 T t a) (fun _ _ _ a=>M1 T t a) (fun _ _ a=>M1 T t a) (fun a=>M1 T t a) () (fun _ _ _ _=>()) a a
theorem B2w (t:Nat) (a:A):asF T t a=M1 T t a:=by
 cases a<;>try rfl
 case i k n=>show R4 (A6q T t k) _ _=_;rw [Q4];rfl
 case v t1 x=>show R4 (same T t t1) _ _=_;rw [Q4];rfl
 case o id ver=>show R4 (T0 T t) _ _=_;rw [Q4];rfl
def B0R (T:TT) (a:A):A:=@A.rec (fun _=>A→A) (fun _=>Unit) (fun _ _ a=>a) (fun _ a=>a) (fun _ a=>a) (fun _ a=>a) (fun t x a=>(mkR T t).run x) (fun _ _ _ a=>a) (fun _ _ _ _ _ a=>a) (fun _ _ a=>a) (fun _ _ a=>a) (fun _ _ a=>a) (fun _ _ _ _ a=>a) (fun _ _ _ _ _ a=>a) (fun _ a=>a) (fun _ a=>a) (fun _ _ _ a=>a) (fun _ _ _ a=>a) (fun _ _ a=>a) (fun a=>a) () (fun _ _ _ _=>()) a a
theorem A6r (a:A):B0R T a=norm T a:=by
 cases a<;>try rfl
 case v t x=>exact D5a t x
def atF (T:TT) (a:A) (path:List Nat):Option A:=@List.rec Nat (fun _=>A→List Nat→Option A) (fun a _=>some (B0R T a)) (fun _ _ _ a p=>atA T a p) path a path
theorem B8e (a:A) (path:List Nat):atF T a path=atA T a path:=by
 cases path with
 | nil=>show some (B0R T a)=_;rw [A6r];cases a<;>rfl
 | cons _ _=>rfl
def E0N (T:TT) (a:A) (path:List Nat) (b:A):Option A:=@List.rec Nat (fun _=>A→List Nat→A→Option A) (fun _ _ b=>some b) (fun _ _ _ a p b=>A1W T a p b) path a path b
theorem C1u (a:A) (path:List Nat) (b:A):E0N T a path b=A1W T a path b:=by
 cases path with
 | nil=>cases a<;>rfl
 | cons _ _=>rfl
def D5b (T:TT) (el t:Nat):Bool:=match C3 T t with
  | some (.slice el')=>Nat.beq el el'
  | _=>false
def D5c (T:TT) (t:Nat) (x:Operand):OpR :=
 match C3 T t with
 | some (.slice el)=>⟨fun K sl of nx=>B8d ((Y5 x).get sl) (fun id ver=>A0M (of id) (fun el' v xs _ _=>R4 (Nat.beq el el'&&Nat.beq v ver) (R4 (Nat.ble (A41 xs) 9223372036854775807) (some ⟨.i .i64 (A41 xs:Nat),[],[id],nx⟩) none) none) none) (pvR nx (A6i T of t (M3 sl x)))⟩
 | _=>⟨fun K sl of nx=>pvR nx (A6i T of t (M3 sl x))⟩
theorem C1v (t:Nat) (x:Operand) (K:KS) (sl:Nat→A) (of:Nat→Option Ob) (nx:Nat):(D5c T t x).run K sl of nx=pvR nx (A6i T of t (M3 sl x)):=by
 unfold D5c
 split
 ·rename_i el hk
  simp only [P5]
  cases M3 sl x<;>try rfl
  rename_i id ver
  show A0M (of id) _ none=_
  simp only [A6i,A2Q,B4A,A4Y,B2g,hk,J4]
  cases of id with
  | none=>rfl
  | some o =>
   cases o<;>try rfl
   rename_i el' v xs nl sh
   show R4 (Nat.beq el el'&&Nat.beq v ver) _ _=_
   simp only [Q4,A5i]
   cases (Nat.beq el el'&&Nat.beq v ver)
   ·rfl
   ·simp only [if_true]
    cases Nat.ble xs.length 9223372036854775807<;>rfl
 ·rfl
def E0O (T:TT) (of:Nat→Option Ob) (el:Nat) (y:A):Option (List V×List Nat) :=
 @A.rec (fun _=>(Nat→Option Ob)→A→Option (List V×List Nat)) (fun _=>Unit) (fun _ _ of y=>J4 T of el y) (fun _ of y=>J4 T of el y) (fun _ of y=>J4 T of el y) (fun _ of y=>J4 T of el y) (fun t x of y=>R4 (D5b T el t) (some (x.els,[])) none) (fun _ _ _ of y=>J4 T of el y) (fun _ _ _ _ _ of y=>J4 T of el y) (fun _ _ of y=>J4 T of el y) (fun _ _ of y=>J4 T of el y) (fun id ver of y=>A0M (of id) (fun el' v xs _ _=>R4 (Nat.beq el el'&&Nat.beq v ver) (some (xs,[id])) none) none) (fun _ _ _ _ of y=>J4 T of el y) (fun _ _ _ _ _ of y=>J4 T of el y) (fun _ of y=>J4 T of el y) (fun _ of y=>J4 T of el y) (fun _ _ _ of y=>J4 T of el y) (fun _ _ _ of y=>J4 T of el y) (fun _ _ of y=>J4 T of el y) (fun of y=>J4 T of el y) () (fun _ _ _ _=>()) y of y
theorem C1w (of:Nat→Option Ob) (el:Nat) (y:A):E0O T of el y=J4 T of el y:=by
 cases y<;>try rfl
 case v t x =>
  show R4 (D5b T el t) _ _=_
  rw [Q4]
  obtain ⟨q,hk⟩:∃ q,C3 T t=q:=⟨_,rfl⟩
  simp only [D5b,J4,hk]
  cases q with
  | none=>rfl
  | some k=>cases k<;>rfl
 case o id ver =>
  show A0M (of id) _ none=_
  simp only [J4]
  cases of id with
  | none=>rfl
  | some o =>
   cases o<;>try rfl
   rename_i el' v xs nl sh
   show R4 (Nat.beq el el'&&Nat.beq v ver) _ _=_
   rw [Q4]
def B3L (T:TT) (t:Nat):Bool:=match C3 T t with
  | some (.slice _)=>true
  | _=>false
def E0P (T:TT) (el:Nat):Bool:=match T el with
  | some te=>Nat.ble te.bytes 131072&&TK.notOther te.k&&Nat.blt 0 te.size
  | none=>false
def A2K (T:TT) (t xt:Nat) (x y:Operand):OpR:=⟨fun K sl of nx=>if A1q T xt (M3 sl y) then A0m nx (A0Z T of nx t (M3 sl x) (M3 sl y)) else if isQ T (M3 sl x) then A0m nx (A4m T nx t xt (M3 sl x) (M3 sl y)) else none⟩
def B8f (a:A):Bool:=@A.rec (fun _=>Bool) (fun _=>Unit) (fun _ _=>true) (fun _=>true) (fun l=>false) (fun _=>true) (fun _ _=>true) (fun _ _ _=>true) (fun _ _ _ _ _=>true) (fun _ _=>true) (fun _ _=>true) (fun _ _=>true) (fun _ _ _ _=>true) (fun _ _ _ _ _=>true) (fun _=>true) (fun _=>true) (fun _ _ _=>true) (fun _ _ _=>true) (fun _ _=>true) (true) () (fun _ _ _ _=>()) a
def D5d (T:TT) (t xt:Nat) (x y:Operand):OpR :=
 match C3 T t with
 | some (.slice el)=>if B3L T xt&&E0P T el then ⟨fun K sl of nx=>B8d ((Y5 x).get sl) (fun id ver=>R4 (B8f ((Y5 y).get sl)) (onO (E0O T of el ((Y5 y).get sl)) (fun p=>A0M (of id) (fun el' v xs nl sh=>R4 (Nat.beq el el'&&Nat.beq v ver&&Nat.ble (A41 xs+A41 p.1) LIM)
   (some ⟨.o id (ver+1),[(id,.row el (ver+1) (D49 xs p.1) (nl&&p.1.isEmpty) sh)],id::p.2,nx⟩) none) none)) ((A2K T t xt x y).run K sl of nx)) ((A2K T t xt x y).run K sl of nx)⟩ else A2K T t xt x y
 | _=>A2K T t xt x y
theorem C1x (t xt:Nat) (x y:Operand) (K:KS) (sl:Nat→A) (of:Nat→Option Ob) (nx:Nat):(D5d T t xt x y).run K sl of nx=if A1q T xt (M3 sl y) then A0m nx (A0Z T of nx t (M3 sl x) (M3 sl y)) else if isQ T (M3 sl x) then A0m nx (A4m T nx t xt (M3 sl x) (M3 sl y)) else none:=by
 unfold D5d
 split
 ·rename_i el hk
  split
  ·rename_i hc
   simp only [E1k] at hc
   obtain ⟨h1,h2⟩:=hc
   simp only [P5]
   cases hx:M3 sl x<;>try (simp only [A2K,hx];rfl)
   rename_i id ver
   show R4 (B8f (M3 sl y)) _ _=_
   rw [Q4]
   cases hn:B8f (M3 sl y) with
   | false=>simp only [Bool.false_eq_true,if_false,A2K,hx]
   | true =>
    have hap:A1q T xt (M3 sl y)=true:=by
     unfold B3L at h1
     split at h1<;>try (cases h1;done)
     rename_i e2 hk2
     unfold A1q
     rw [hk2]
     simp only
     cases hy:M3 sl y<;>first | rfl | (rw [hy] at hn;cases hn)
    simp only [if_true,hap]
    rw [A4G,C1w]
    simp only [A0Z,hk]
    unfold E0P at h2
    cases hte:T el with
    | none=>rw [hte] at h2;cases h2
    | some te =>
     rw [hte] at h2
     simp only at h2
     cases hs:J4 T of el (M3 sl y) with
     | none=>rfl
     | some p =>
      obtain ⟨ns,ro⟩:=p
      simp only [h2,if_true]
      cases of id with
      | none=>rfl
      | some o =>
       cases o<;>try rfl
       rename_i el' v xs nl sh
       show R4 (Nat.beq el el'&&Nat.beq v ver&&Nat.ble (A41 xs+A41 ns) LIM) _ _=_
       simp only [Q4,A5i,C1r]
       cases (Nat.beq el el'&&Nat.beq v ver&&Nat.ble (xs.length+ns.length) LIM)<;>rfl
  ·rfl
 ·rfl
def A4H (T:TT) (t len:Nat) (parts:List (Nat×Operand)):OpR:=⟨fun K sl of nx=>A0m nx (V5 T of nx t len ((A3q parts).get sl))⟩
def E0Q (T:TT) (el len:Nat):Bool:=match T el with
  | some te=>TK.notOther te.k&&Nat.blt 0 te.size&&Nat.ble (len * te.size) 16777216
  | none=>false
def bsR (T:TT) (t len:Nat) (parts:List (Nat×Operand)):OpR :=
 match C3 T t with
 | some (.slice el)=>match parts with
  | []=>A4H T t len parts
  | [p]=>if E0Q T el len&&(Nat.beq len 1&&Nat.beq p.1 0) then ⟨fun K sl of nx=>B2v ((Y5 p.2).get sl) (fun k n=>R4 (A6q T el k) (some ⟨.o nx 1,[(nx,.row el 1 [.i n] false false)],[],nx+1⟩) ((A4H T t len parts).run K sl of nx)) ((A4H T t len parts).run K sl of nx)⟩ else A4H T t len parts
  | _=>A4H T t len parts
 | _=>A4H T t len parts
theorem D5e (t len:Nat) (parts:List (Nat×Operand)) (K:KS) (sl:Nat→A) (of:Nat→Option Ob) (nx:Nat):(bsR T t len parts).run K sl of nx=A0m nx (V5 T of nx t len ((A3q parts).get sl)):=by
 unfold bsR
 split
 ·rename_i el hk
  split
  ·rfl
  ·rename_i p
   split
   ·rename_i hc
    simp only [E1k] at hc
    obtain ⟨h1,h2,h3⟩:=hc
    have h2:=E1j h2
    have h3:=E1j h3
    subst h2
    simp only [P5]
    cases hx:M3 sl p.2<;>try rfl
    rename_i k n
    show R4 (A6q T el k) _ _=_
    rw [Q4]
    cases hf:A6q T el k with
    | false=>rfl
    | true =>
     simp only [if_true,A3q,P5,hx,h3]
     unfold E0Q at h1
     cases hte:T el with
     | none=>rw [hte] at h1;cases h1
     | some te =>
      rw [hte] at h1
      simp only at h1
      have hv:M2 T DEP of el (.i k n)=some (.i n,[]):=by
       have:C6 T el (.i k n)=true:=hf
       simp only [DEP,M2,M1,this,if_true,A33]
      simp only [V5,hk,hte,W4,hv,h1,if_true,A8c]
      have hb:Nat.blt 0 (List.replicate 1 te.zero).length=true:=rfl
      rw [if_pos hb]
      simp [A0m,A1b,T4,List.replicate]
   ·rfl
  ·rfl
 ·rfl
def ldR (T:TT) (t0:Nat) (a:Operand):OpR :=
 if (T t0).isSome then ⟨fun K sl of nx=>@A.rec (fun _=>(Nat→Option Ob)→A→Nat→Option J8) (fun _=>Unit) (fun _ _ of u nx=>pvR nx (R9 T of t0 u)) (fun _ of u nx=>pvR nx (R9 T of t0 u)) (fun _ of u nx=>pvR nx (R9 T of t0 u)) (fun _ of u nx=>pvR nx (R9 T of t0 u)) (fun _ _ of u nx=>pvR nx (R9 T of t0 u)) (fun id t path of u nx=>A9y (of id) (fun _ b _=>onO (atF T b path) fun a1=>onO (asF T t0 a1) fun a2=>some ⟨B0R T a2,[],[id],nx⟩) none) (fun id ver i t path of u nx=>A0M (of id) (fun el v xs _ _=>R4 (Nat.beq v ver) (onO (atF T (.v el (C1s xs i)) path) fun a1=>onO (asF T t0 a1) fun a2=>some ⟨B0R T a2,[],[id],nx⟩) none) none) (fun _ _ of u nx=>pvR nx (R9 T of t0 u)) (fun _ _ of u nx=>pvR nx (R9 T of t0 u)) (fun _ _ of u nx=>pvR nx (R9 T of t0 u)) (fun _ _ _ _ of u nx=>pvR nx (R9 T of t0 u)) (fun _ _ _ _ _ of u nx=>pvR nx (R9 T of t0 u)) (fun _ of u nx=>pvR nx (R9 T of t0 u)) (fun _ of u nx=>pvR nx (R9 T of t0 u)) (fun _ _ _ of u nx=>pvR nx (R9 T of t0 u)) (fun _ _ _ of u nx=>pvR nx (R9 T of t0 u)) (fun _ _ of u nx=>pvR nx (R9 T of t0 u)) (fun of u nx=>pvR nx (R9 T of t0 u)) () (fun _ _ _ _=>()) ((Y5 a).get sl) of ((Y5 a).get sl) nx⟩ else ⟨fun _ _ _ _=>none⟩
theorem D5f (t:Nat) (a:Operand) (K:KS) (sl:Nat→A) (of:Nat→Option Ob) (nx:Nat):(ldR T t a).run K sl of nx=pvR nx (R9 T of t (M3 sl a)):=by
 unfold ldR
 split
 ·rename_i hT
  simp only [P5]
  cases M3 sl a<;>try rfl
  case p id t1 path =>
   show A9y (of id) _ none=_
   simp only [R9,hT,if_true]
   cases of id with
   | none=>rfl
   | some o =>
    cases o<;>try rfl
    rename_i t2 b sh
    show onO (atF T b path) _=_
    rw [A4G,B8e]
    simp only
    cases atA T b path with
    | none=>rfl
    | some a1 =>
     simp only [A4G,B2w,A6r]
     cases M1 T t a1<;>rfl
  case e id ver i t1 path =>
   show A0M (of id) _ none=_
   simp only [R9,hT,if_true]
   cases of id with
   | none=>rfl
   | some o =>
    cases o<;>try rfl
    rename_i el v xs nl sh
    show R4 (Nat.beq v ver) _ _=_
    rw [Q4]
    simp only
    cases Nat.beq v ver
    ·rfl
    ·simp only [if_true,elA,C1t,A4G,B8e]
     cases atA T (.v el (xs.getD i .n)) path with
     | none=>rfl
     | some a1 =>
      simp only [B2w,A6r]
      cases M1 T t a1<;>rfl
 ·rename_i hT
  simp only [R9,hT]
  rfl
def B8g (T:TT) (t:Nat) (a x:Operand):OpR:=⟨fun K sl of nx=>match A3k T of t (M3 sl a) (M3 sl x) with
  | some (wo,ro)=>some ⟨.x,wo,ro,nx⟩
  | none=>none⟩
def stR (T:TT) (t:Nat) (a x:Operand):OpR :=
 if (T t).isSome then ⟨fun K sl of nx=>E0M ((Y5 a).get sl) (fun id t1 path=>A9y (of id) (fun t0 b sh=>R4 sh none (R4 (same T t t1) (onO (asF T t1 ((Y5 x).get sl)) fun v'=>onO (E0N T b path v') fun a'=>some ⟨.x,[(id,.box t0 a' false)],[id],nx⟩) none)) none) ((B8g T t a x).run K sl of nx)⟩ else ⟨fun _ _ _ _=>none⟩
theorem D5g (t:Nat) (a x:Operand) (K:KS) (sl:Nat→A) (of:Nat→Option Ob) (nx:Nat):(stR T t a x).run K sl of nx=match A3k T of t (M3 sl a) (M3 sl x) with
  | some (wo,ro)=>some ⟨.x,wo,ro,nx⟩
  | none=>none:=by
 unfold stR
 split
 ·rename_i hT
  simp only [P5]
  cases hx:M3 sl a<;>try (simp only [B8g,hx];rfl)
  rename_i id t1 path
  show A9y (of id) _ none=_
  simp only [A3k,hT,if_true]
  cases of id with
  | none=>rfl
  | some o =>
   cases o<;>try rfl
   rename_i t2 b sh
   show R4 sh none _=_
   cases sh
   ·show R4 (same T t t1) _ _=_
    rw [Q4]
    simp only
    cases same T t t1
    ·rfl
    ·simp only [if_true,A4G,B2w]
     cases M1 T t1 (M3 sl x) with
     | none=>rfl
     | some v' =>
      simp only [C1u]
      cases A1W T b path v'<;>rfl
   ·rfl
 ·rename_i hT
  simp only [A3k,hT]
  rfl
def iaR (T:TT) (t:Nat) (x ix:Operand):OpR :=
 match C3 T t with
 | some (.slice el)=>if (T el).isSome then ⟨fun K sl of nx=>B2v ((Y5 ix).get sl) (fun _ i=>B8d ((Y5 x).get sl) (fun id ver=>A0M (of id) (fun el' v xs _ _=>R4 (leQ 0 i&&(Nat.beq el el'&&Nat.beq v ver&&ltQ i (A41 xs:Nat))) (some ⟨.e id ver i.toNat el [],[],[id],nx⟩) none) none) (pvR nx (N7 T of t i (M3 sl x)))) none⟩ else ⟨fun _ _ _ _=>none⟩
 | _=>⟨fun K sl of nx=>B2v ((Y5 ix).get sl) (fun _ i=>pvR nx (N7 T of t i (M3 sl x))) none⟩
theorem D5h (t:Nat) (x ix:Operand) (K:KS) (sl:Nat→A) (of:Nat→Option Ob) (nx:Nat):(iaR T t x ix).run K sl of nx=match M3 sl ix with
  | .i _ i=>pvR nx (N7 T of t i (M3 sl x))
  | _=>none:=by
 unfold iaR
 split
 ·rename_i el hk
  split
  ·rename_i hT
   simp only [P5]
   cases M3 sl ix<;>try rfl
   rename_i k i
   show B8d (M3 sl x) _ _=_
   cases hx:M3 sl x<;>try rfl
   rename_i id ver
   show A0M (of id) _ none=_
   simp only [N7,hk,hT,Bool.and_true]
   cases of id with
   | none=>cases M6 0 i<;>rfl
   | some o =>
    cases o<;>try (cases M6 0 i<;>rfl)
    rename_i el' v xs nl sh
    show R4 (leQ 0 i&&(Nat.beq el el'&&Nat.beq v ver&&ltQ i (A41 xs:Nat))) _ _=_
    rw [Q4,B2t,B8a,A5i]
    cases M6 0 i
    ·rfl
    ·simp only [Bool.true_and,if_true]
     cases (Nat.beq el el'&&Nat.beq v ver&&H9 i xs.length)<;>rfl
  ·rename_i hT
   have hT:(T el).isSome=false:=by simpa using hT
   cases hi:M3 sl ix<;>try rfl
   rename_i k i
   simp only [N7,hk,hT,Bool.and_false]
   rfl
 ·simp only [P5]
  cases M3 sl ix<;>rfl
def faR (T:TT) (s f:Nat) (x:Operand):OpR :=
 match C3 T s with
 | some (.struct fs)=>match fs[f]? with
  | some ft=>if Nat.blt 0 (C2 T ft) then ⟨fun K sl of nx=>E0M ((Y5 x).get sl) (fun id t path=>R4 (same T s t) (some ⟨.p id ft (path++[f]),[],[],nx⟩) none) (pvR nx (Q2 T of s f (M3 sl x)))⟩ else ⟨fun _ _ _ _=>none⟩
  | none=>⟨fun _ _ _ _=>none⟩
 | _=>⟨fun _ _ _ _=>none⟩
theorem D5i (s f:Nat) (x:Operand) (K:KS) (sl:Nat→A) (of:Nat→Option Ob) (nx:Nat):(faR T s f x).run K sl of nx=pvR nx (Q2 T of s f (M3 sl x)):=by
 unfold faR
 split
 ·rename_i fs hk
  split
  ·rename_i ft hf
   split
   ·rename_i hz
    simp only [P5]
    cases hx:M3 sl x<;>try rfl
    rename_i id t path
    show R4 (same T s t) _ _=_
    rw [Q4]
    simp only [Q2,hk,hf,hz,if_true]
    cases same T s t<;>rfl
   ·rename_i hz
    simp only [Q2,hk,hf,hz]
    rfl
  ·rename_i hf
   simp only [Q2,hk,hf]
   rfl
 ·rename_i hk
  unfold Q2
  split
  ·rename_i fs h;exact absurd h (hk fs)
  ·rfl
structure BdR where
 run:(Nat→A)→Int→(Int→Option J8)→Option J8
def bdR:Option Operand→BdR
 | none=>⟨fun _ d k=>k d⟩
 | some x=>⟨fun sl _ k=>B2v ((Y5 x).get sl) (fun _ i=>k i) none⟩
theorem D5j (o:Option Operand) (sl:Nat→A) (d:Int) (k:Int→Option J8):(bdR o).run sl d k=match H7 d ((ooR o).get sl) with
  | some i=>k i
  | none=>none:=by
 cases o with
 | none=>rfl
 | some x =>
  simp only [bdR,ooR,P5]
  cases M3 sl x<;>rfl
def A6s (T:TT) (t:Nat) (x:Operand) (lo hi mx:Option Operand):OpR:=⟨fun K sl of nx=>pvW nx (A1H T of t ((Y5 x).get sl) ((ooR lo).get sl) ((ooR hi).get sl) ((ooR mx).get sl))⟩
def D5k (T:TT) (t:Nat) (x:Operand) (lo hi mx:Option Operand):OpR :=
 match C3 T t,mx with
 | some (.slice el),none=>if (T el).isSome then ⟨fun K sl of nx=>B8d ((Y5 x).get sl) (fun id ver=>A0M (of id) (fun el' v xs nl _=>R4 nl ((A6s T t x lo hi mx).run K sl of nx) (R4 (Nat.beq el el'&&Nat.beq v ver) ((bdR lo).run sl (0:Nat) fun l=>(bdR hi).run sl (A41 xs:Nat) fun h=>R4 (leQ 0 l&&leQ l h&&leQ h (A41 xs:Nat)) (some ⟨.w id ver (0+l.toNat) (h - l).toNat,[],[id],nx⟩) none) none)) none) ((A6s T t x lo hi mx).run K sl of nx)⟩ else A6s T t x lo hi mx
 | _,_=>A6s T t x lo hi mx
theorem C1y (t:Nat) (x:Operand) (lo hi mx:Option Operand) (K:KS) (sl:Nat→A) (of:Nat→Option Ob) (nx:Nat):(D5k T t x lo hi mx).run K sl of nx=pvW nx (A1H T of t ((Y5 x).get sl) ((ooR lo).get sl) ((ooR hi).get sl) ((ooR mx).get sl)):=by
 unfold D5k
 split
 ·rename_i el hk
  split
  ·rename_i hT
   simp only [A6s]
   cases hx:(Y5 x).get sl<;>try rfl
   rename_i id ver
   show A0M (of id) _ none=_
   have hq:isQ T (.o id ver)=true:=rfl
   simp only [A1H,hk,hT,hq,Bool.and_true,if_true,show (ooR (none:Option Operand)).get sl=none from rfl,zV]
   cases of id with
   | none=>rfl
   | some o =>
    cases o<;>try rfl
    rename_i el' v xs nl sh
    show R4 nl _ (R4 (Nat.beq el el'&&Nat.beq v ver) _ none)=_
    cases nl
    ·show R4 (Nat.beq el el'&&Nat.beq v ver) _ none=_
     rw [Q4]
     simp only
     cases (Nat.beq el el'&&Nat.beq v ver)
     ·rfl
     ·simp only [if_true,D5j,Q1,A5i]
      cases h1:H7 (0:Nat) ((ooR lo).get sl) with
      | none=>rfl
      | some l =>
       simp only
       cases h2:H7 xs.length ((ooR hi).get sl) with
       | none=>rfl
       | some h =>
        simp only [Q4,B2t]
        cases (M6 0 l&&M6 l h&&M6 h xs.length)<;>rfl
    ·rfl
  ·rfl
 ·rfl
def B5h (T:TT) (k:Call):OpR:=⟨fun K sl of nx=>X1 T K (M3 sl) of nx k⟩
def B8h (T:TT) (k:Call):OpR :=
 match k.callee with
 | .value f=>⟨fun K sl of nx=>E1g ((Y5 f).get sl) (fun fn cap=>match bdP cap with
  | some p=>K.f fn (p::(olR k.args.toList).get sl) of nx
  | none=>if cap.all (U4 T) then K.f fn ((olR k.args.toList).get sl++cap) of nx else none) (fun id=>K.y id ((olR k.args.toList).get sl) of nx) none⟩
 | .builtin .len=>(match k.argTypes.toList,k.args.toList with
  | [t],[x]=>D5c T t x
  | _,_=>⟨fun _ _ _ _=>none⟩)
 | .builtin .append=>(match k.argTypes.toList,k.args.toList with
  | [t,xt],[x,y]=>D5d T t xt x y
  | _,_=>⟨fun _ _ _ _=>none⟩)
 | _=>B5h T k
theorem B8i (k:Call) (K:KS) (sl:Nat→A) (of:Nat→Option Ob) (nx:Nat):(B8h T k).run K sl of nx=X1 T K (M3 sl) of nx k:=by
 unfold B8h
 split
 ·rename_i f hk
  simp only [X1,hk,P5,B2u]
  cases M3 sl f<;>rfl
 ·rename_i hk
  simp only [X1,hk]
  split
  ·rename_i t x h1 h2
   rw [h1,h2]
   simp only [C1v]
   cases A6i T of t (M3 sl x)<;>rfl
  ·rename_i hne
   split
   ·rename_i t x h1 h2;exact absurd h2 (hne _ _ h1)
   ·rfl
 ·rename_i hk
  simp only [X1,hk]
  split
  ·rename_i t xt x y h1 h2
   rw [h1,h2]
   simp only [C1x]
  ·rename_i hne
   split
   ·rename_i t xt x y h1 h2;exact absurd h2 (hne _ _ _ _ h1)
   ·rfl
 ·rfl
structure IkR where
 run:IntKind→IntKind→Int→Int→Nat→Option J8
def E0R (op:BinOp):IkR :=
 ⟨fun k k' a b nx=>bif A1P op||A4K k k' then onO ((C1p op).run k a b) (fun r=>some ⟨r,[],[],nx⟩) else none⟩
theorem C1z (op:BinOp) (k k':IntKind) (a b:Int) (nx:Nat) (T:TT) (of:Nat→Option Ob) (t:Nat):(E0R op).run k k' a b nx=pvR nx (A6b T of op t (.i k a) (.i k' b)):=by
 show (bif A1P op||A4K k k' then onO ((C1p op).run k a b) (fun r=>some (J8.mk r [] [] nx)) else none)=_
 rw [A4G,C1q]
 unfold A6b
 simp only
 cases (A1P op||A4K k k')
 ·rfl
 ·simp only [cond_true,if_true]
  cases A2P op k a b<;>rfl
def B8j (T:TT) (op:BinOp) (t:Nat) (x y:Operand):OpR:=⟨fun K sl of nx=>pvR nx (A6b T of op t (M3 sl x) (M3 sl y))⟩
def D5l (T:TT) (op:BinOp) (t:Nat) (x y:Operand):OpR :=
 ⟨fun K sl of nx=>B2v ((Y5 x).get sl) (fun k a=>B2v ((Y5 y).get sl) (fun k' b=>(E0R op).run k k' a b nx) ((B8j T op t x y).run K sl of nx)) ((B8j T op t x y).run K sl of nx)⟩
theorem C1A (op:BinOp) (t:Nat) (x y:Operand) (K:KS) (sl:Nat→A) (of:Nat→Option Ob) (nx:Nat):(D5l T op t x y).run K sl of nx=pvR nx (A6b T of op t (M3 sl x) (M3 sl y)):=by
 simp only [D5l,P5,B8j]
 cases M3 sl x<;>cases M3 sl y<;>first | rfl | exact C1z _ _ _ _ _ _ _ _ _
def E0S (T:TT) (s t:Nat) (x:Operand):OpR:=⟨fun K sl of nx=>A0m nx (A2Y T of nx s t (M3 sl x))⟩
def B8k (T:TT) (s t:Nat) (x:Operand):OpR :=
 match C3 T t with
 | some (.int k)=>if (T s).isSome then ⟨fun K sl of nx=>B2v ((Y5 x).get sl) (fun _ n=>some ⟨.i k ((wrR k).run n),[],[],nx⟩) none⟩ else ⟨fun _ _ _ _=>none⟩
 | _=>E0S T s t x
theorem B8l (s t:Nat) (x:Operand) (K:KS) (sl:Nat→A) (of:Nat→Option Ob) (nx:Nat):(B8k T s t x).run K sl of nx=A0m nx (A2Y T of nx s t (M3 sl x)):=by
 unfold B8k
 split
 ·rename_i k hk
  unfold A2Y
  rw [hk]
  simp only
  split
  ·simp only [P5,B8c]
   cases M3 sl x<;>rfl
  ·cases M3 sl x<;>rfl
 ·rfl
def B8m (T:TT) (el:Nat):OpR :=
 match T el with
 | some te=>if TK.notOther te.k then ⟨fun K sl of nx=>some ⟨.p nx el [],[(nx,.box el (.v el te.zero) false)],[],nx+1⟩⟩ else ⟨fun _ _ _ _=>none⟩
 | none=>⟨fun _ _ _ _=>none⟩
def E0T (f:(Nat→A)→(Nat→Option Ob)→Nat→Int→Option J8) (ix:Operand):OpR :=
 ⟨fun K sl of nx=>match (Y5 ix).get sl with
  | .i _ i=>f sl of nx i
  | _=>none⟩
def opR (T:TT) (o:Oper):OpR :=
 match o.op with
 | .move x=>⟨fun K sl of nx=>some (.pv nx ((Y5 x).get sl) [])⟩
 | .assign x=>⟨fun K sl of nx=>some (A9q T o.type nx ((Y5 x).get sl))⟩
 | .pick q a b=>⟨fun K sl of nx=>match (Y5 q).get sl with
  | .b t=>some (.pv nx (bif t then (Y5 a).get sl else (Y5 b).get sl) [])
  | _=>none⟩
 | .alloc el=>B8m T el
 | .box el x=>⟨fun K sl of nx=>match M1 T el ((Y5 x).get sl) with
  | some a=>some ⟨.p nx el [],[(nx,.box el a false)],[],nx+1⟩
  | none=>none⟩
 | .build t parts=>⟨fun K sl of nx=>match A9a T t ((A3q parts.toList).get sl) with
  | some v=>some (.pv nx v [])
  | none=>none⟩
 | .buildSlice t len parts=>bsR T t len parts.toList
 | .load t a=>ldR T t a
 | .store t a x=>stR T t a x
 | .sliceToArrayPointer t x=>⟨fun K sl of nx=>pvW nx (B0I T of t ((Y5 x).get sl))⟩
 | .nilCheck x=>⟨fun K sl of nx=>match C0P of ((Y5 x).get sl) with
  | some ro=>some (.pv nx ((Y5 x).get sl) ro)
  | none=>none⟩
 | .binOp op t x y _=>D5l T op t x y
 | .unOp op _ x=>⟨fun K sl of nx=>pvO nx (unA op ((Y5 x).get sl))⟩
 | .convert s t x=>B8k T s t x
 | .makeFunc fn first captured=>(match fn with
  | .func f=>if Nat.beq first.toList.length 0 then ⟨fun K sl of nx=>if ((olR captured.toList).get sl).all (U4 T) then some (.pv nx (.f f ((olR captured.toList).get sl)) []) else none⟩ else ⟨fun K sl of nx=>pvO nx (bdF f ((olR first.toList).get sl) ((olR captured.toList).get sl))⟩
  | _=>⟨fun _ _ _ _=>none⟩)
 | .makeSlice t l k=>⟨fun K sl of nx=>A0J T nx t ((Y5 l).get sl) ((Y5 k).get sl)⟩
 | .makeMap t r=>⟨fun K sl of nx=>A6k T nx t ((ooR r).get sl)⟩
 | .lookup t m k ok=>⟨fun K sl of nx=>A0m nx (A8l T (B7B o.pos) nx of t ((Y5 m).get sl) ((Y5 k).get sl) ok)⟩
 | .mapUpdate t m k v=>⟨fun K sl of nx=>A6S T of nx t ((Y5 m).get sl) ((Y5 k).get sl) ((Y5 v).get sl)⟩
 | .insert t m k v=>⟨fun K sl of nx=>A6S T of nx t ((Y5 m).get sl) ((Y5 k).get sl) ((Y5 v).get sl)⟩
 | .slice t x lo hi mx=>D5k T t x lo hi mx
 | .fieldAddr s x f=>faR T s f x
 | .field s x f=>⟨fun K sl of nx=>pvO nx (A9k T s f ((Y5 x).get sl))⟩
 | .indexAddr t x ix=>iaR T t x ix
 | .index t x ix=>E0T (fun sl of nx i=>pvO nx (A4A T t i ((Y5 x).get sl))) ix
 | .extract x i=>⟨fun K sl of nx=>pvO nx (C0N i ((Y5 x).get sl))⟩
 | .call k=>B8h T k
 | .range t x=>⟨fun K sl of nx=>A0m nx (A8W T of nx t ((Y5 x).get sl))⟩
 | .next x str=>if str then ⟨fun _ _ _ _=>none⟩ else ⟨fun K sl of nx=>pvR nx (B3c of ((Y5 x).get sl))⟩
 | _=>⟨fun _ _ _ _=>none⟩
theorem B8n (o:Oper) (K:KS) (sl:Nat→A) (of:Nat→Option Ob) (nx:Nat):(opR T o).run K sl of nx=K6 T K (M3 sl) of nx o:=by
 obtain ⟨dst,op,ty,pos,after,guard⟩:=o
 cases op<;>simp only [opR,K6,P5,B2u,B5g,D48,B8i,C1A,B8l,D5e,D5f,D5g,C1y,D5i,D5h]<;>try rfl
 case alloc el =>
  unfold B8m
  cases T el with
  | none=>rfl
  | some te=>simp only;split<;>rfl
 case makeFunc fn first captured =>
  cases fn<;>try rfl
  simp only
  cases hq:Nat.beq first.toList.length 0<;>simp [B2u]
 case index t x ix=>simp only [E0T,P5];cases M3 sl ix<;>rfl
 case next x str=>cases str<;>simp [P5]
structure EnR where
 run:KS→(Nat→A)→(Nat→Option Ob)→Nat→Option J7
def mkE (dst:Option Nat) (rs:List Nat) (nx:Nat) (q:Option J8):Option J7 :=
 @Option.rec J8 (fun _=>Option Nat→List Nat→Nat→Option J7) (fun _ _ _=>none)
  (fun out dst rs nx=>@Bool.rec (fun _=>Option J7) none (some ⟨dst,out.val,out.wo,rs,out.ro,nx,out.nx⟩) (Nat.ble nx out.nx)) q dst rs nx
def D5m {R:Type} (a:A):(Bool→R)→R→R→R :=
 @A.rec (fun _=>(Bool→R)→R→R→R) (fun _=>Unit)
  (fun _ _ _ _ d=>d) (fun b f _ _=>f b) (fun _ _ _ d=>d) (fun _ _ _ d=>d) (fun _ _ _ _ d=>d) (fun _ _ _ _ _ d=>d) (fun _ _ _ _ _ _ _ d=>d) (fun _ _ _ _ d=>d) (fun _ _ _ _ d=>d)
  (fun _ _ _ _ d=>d) (fun _ _ _ _ _ _ d=>d) (fun _ _ _ _ _ _ _ d=>d) (fun _ _ _ d=>d) (fun _ _ _ d=>d) (fun _ _ _ _ _ d=>d) (fun _ _ _ _ _ d=>d) (fun _ _ _ t _=>t) (fun _ _ d=>d) () (fun _ _ _ _=>()) a
def enR (T:TT) (ops:Array Oper) (o:Oper):EnR :=
 match o.guard with
 | none=>⟨fun K sl of nx=>mkE o.dst (o.looksAt ops) nx ((opR T o).run K sl of nx)⟩
 | some (g,want)=>match (ops[g]?).bind (·.dst) with
  | some d=>⟨fun K sl of nx=>D5m (sl d) (fun q=>bif (bif want then q else !q) then mkE o.dst (o.looksAt ops) nx ((opR T o).run K sl of nx) else some (.skip o (o.looksAt ops) nx)) (some (.skip o (o.looksAt ops) nx)) none⟩
  | none=>⟨fun _ _ _ _=>none⟩
theorem B8o (o:Oper) (rs:List Nat) (nx:Nat) (q:Option J8):mkE o.dst rs nx q=match q with
   | some out=>if Nat.ble nx out.nx then some (.mk1 o rs nx out) else none
   | none=>none:=by
 cases q with
 | none=>rfl
 | some out =>
  show (@Bool.rec (fun _=>Option J7) none (some ⟨o.dst,out.val,out.wo,rs,out.ro,nx,out.nx⟩) (Nat.ble nx out.nx))=_
  simp only
  cases Nat.ble nx out.nx<;>rfl
theorem D5n (ops:Array Oper) (o:Oper) (K:KS) (sl:Nat→A) (of:Nat→Option Ob) (nx:Nat):(enR T ops o).run K sl of nx=V7 T K ops sl of nx o:=by
 unfold enR V7
 cases o.guard with
 | none=>simp only [B8n,B8o];cases K6 T K (M3 sl) of nx o<;>rfl
 | some p =>
  obtain ⟨g,want⟩:=p
  simp only
  cases (ops[g]?).bind (·.dst) with
  | none=>rfl
  | some d =>
   simp only [B8n,B8o]
   cases sl d with
   | b q =>
    show (bif (bif want then q else !q) then _ else _)=_
    cases K6 T K (M3 sl) of nx o<;>cases q<;>cases want<;>rfl
   | _=>rfl
structure RnR where
 run:KS→(Nat→Option Ob)→St→Option (List J7×St)
structure SlR where
 put:A→List (Nat×A)→List (Nat×A)
def slR:Option Nat→SlR
 | some d=>⟨fun v sl=>(d,v)::sl⟩
 | none=>⟨fun _ sl=>sl⟩
def B8p (E:J7) (v:A) (h:Nat) (q:Option (List J7×St)):Option (List J7×St) :=
 @Option.rec (List J7×St) (fun _=>J7→A→Nat→Option (List J7×St)) (fun _ _ _=>none) (fun p E v h=>some ({ E with val:=v,hi:=h }::p.1,p.2)) q E v h
def goE (q:Option J7) (σ:St) (k:J7→Option (List J7×St)):Option (List J7×St) :=
 @Option.rec J7 (fun _=>(J7→Option (List J7×St))→Option (List J7×St)) (fun _=>none) (fun E k=>k E) q k
def rnR (T:TT) (ops:Array Oper) (l:List Oper):RnR :=
 @List.rec Oper (fun _=>RnR) ⟨fun _ _ σ=>some ([],σ)⟩
  (fun o _ ih=>⟨fun K of σ=>goE ((enR T ops o).run K (C4 σ.sl) (B2 σ.ob of) σ.nx) σ fun E=>C1i E.val fun v=>B5f E.hi fun h=>C1k (B2s σ.ob E.ro σ.rd) fun rd =>
   B8p E v h (ih.run K of ⟨(slR o.dst).put v σ.sl,C1n E.wo σ.ob,rd,h,σ.mks⟩)⟩) l
theorem B5i {K:KS} {ops:Array Oper} {sl:Nat→A} {nx:Nat} {o:Oper} {E:J7} (hr:V7 T K ops sl of nx o=some E):E.dst=o.dst:=(U5 hr).2.2.1
theorem B8q (ops:Array Oper) (K:KS) (of:Nat→Option Ob):∀ (l:List Oper) (σ:St),(rnR T ops l).run K of σ=F0 T K ops of l σ:=by
 intro l
 induction l with
 | nil=>intro σ;rfl
 | cons o r ih =>
  intro σ
  show goE ((enR T ops o).run K (C4 σ.sl) (B2 σ.ob of) σ.nx) σ (fun E=>C1i E.val fun v=>B5f E.hi fun h=>C1k (B2s σ.ob E.ro σ.rd) fun rd =>
   B8p E v h ((rnR T ops r).run K of ⟨(slR o.dst).put v σ.sl,C1n E.wo σ.ob,rd,h,σ.mks⟩))=_
  rw [D5n,Y7]
  cases hE:V7 T K ops (C4 σ.sl) (B2 σ.ob of) σ.nx o with
  | none=>rfl
  | some E =>
   show (C1i E.val fun v=>B5f E.hi fun h=>C1k (B2s σ.ob E.ro σ.rd) fun rd=>B8p E v h ((rnR T ops r).run K of ⟨(slR o.dst).put v σ.sl,C1n E.wo σ.ob,rd,h,σ.mks⟩))=_
   have:(⟨(slR o.dst).put E.val σ.sl,Z6 σ.ob E.wo,W6 σ.ob E.ro σ.rd,E.hi,σ.mks⟩:St)=σ.app E:=by
    unfold St.app
    rw [B5i hE]
    cases o.dst<;>rfl
   simp only [C1j,A9x,C1l,C1m,C1o,ih,this]
   cases F0 T K ops of r (σ.app E)<;>rfl
def goD (q:Option (List J7×St)):(List J7→St→Option (Exit×St))→Option (Exit×St) :=
 @Option.rec (List J7×St) (fun _=>(List J7→St→Option (Exit×St))→Option (Exit×St)) (fun _=>none) (fun p k=>k p.1 p.2) q
structure CoR where
 run:KS→(Nat→Option Ob)→St→Option (Exit×St)
def B8r (q:Option (Exit×St)):(St→Option (Exit×St))→Option (Exit×St) :=
 @Option.rec (Exit×St) (fun _=>(St→Option (Exit×St))→Option (Exit×St)) (fun _=>none)
  (fun p k=>@Exit.rec (fun _=>St→(St→Option (Exit×St))→Option (Exit×St)) (fun σ k=>k σ) (fun i σ _=>some (.exit i,σ)) (fun i σ _=>some (.goto i,σ)) (fun σ _=>some (.ret,σ)) (fun c σ _=>some (.panic c,σ)) (fun σ _=>some (.outgrown,σ)) p.1 p.2 k) q
theorem B3M (q:Option (Exit×St)) (k:St→Option (Exit×St)):B8r q k=match q with
  | some (.normal,σ)=>k σ
  | r=>r:=by
 cases q with
 | none=>rfl
 | some p=>obtain ⟨ex,σ⟩:=p;cases ex<;>rfl
def D5o (id:Nat) (q:Option (Exit×St)):Option (Exit×St) :=
 @Option.rec (Exit×St) (fun _=>Option (Exit×St)) none
  (fun p=>@Exit.rec (fun _=>St→Option (Exit×St)) (fun σ=>some (.normal,σ)) (fun i σ=>some (bif Nat.beq i id then .normal else .exit i,σ)) (fun i σ=>some (.goto i,σ)) (fun σ=>some (.ret,σ)) (fun c σ=>some (.panic c,σ)) (fun σ=>some (.outgrown,σ)) p.1 p.2) q
theorem C1B (id:Nat) (q:Option (Exit×St)):D5o id q=match q with
  | some (.exit id',σ')=>some (if Nat.beq id' id then .normal else .exit id',σ')
  | r=>r:=by
 cases q with
 | none=>rfl
 | some p =>
  obtain ⟨ex,σ⟩:=p
  cases ex with
  | exit i =>
   show some (bif Nat.beq i id then Exit.normal else Exit.exit i,σ)=some (if Nat.beq i id=true then Exit.normal else Exit.exit i,σ)
   cases Nat.beq i id<;>rfl
  | _=>rfl
def E1h (q:Option (List J7×St)):Option (Exit×St) :=
 @Option.rec (List J7×St) (fun _=>Option (Exit×St)) none (fun p=>some (.normal,p.2)) q
def C1C (T:TT) (nt:Nat) (ops:Array Oper) (draw:Bool):CoR :=
 match draw with
 | false=>if ops.toList.all (V1 nt) then ⟨fun K of σ=>E1h ((rnR T ops ops.toList).run K of σ)⟩ else ⟨fun _ _ _=>none⟩
 | true=>if A2U nt ops then ⟨fun K of σ=>goD ((rnR T ops ops.toList).run K of σ) fun Es σ'=>bif A1A (Q5 ops.toList []) Es 0 Es then some (.normal,σ') else
    goD ((rnR T ops ops.toList).run K of (σ.pre of (B3Z (B2 σ.ob of) Es))) fun Es2 σ2=>bif A1A (Q5 ops.toList []) Es2 0 Es2 then some (.normal,σ2) else none⟩ else ⟨fun _ _ _=>none⟩
theorem C1D (nt:Nat) (ops:Array Oper) (draw:Bool) (id:Nat) (K:KS) (fu:Nat) (of:Nat→Option Ob) (σ:St):(C1C T nt ops draw).run K of σ=G9 T K (fun _=>none) fu nt of (.region id ops draw) σ:=by
 cases draw with
 | false =>
  simp only [C1C,G9]
  split
  ·simp only [B8q]
   cases F0 T K ops of ops.toList σ<;>rfl
  ·rfl
 | true =>
  simp only [C1C,G9]
  split
  ·simp only [B8q]
   cases F0 T K ops of ops.toList σ with
   | none=>rfl
   | some p =>
    obtain ⟨Es,σ'⟩:=p
    show (bif A1A (Q5 ops.toList []) Es 0 Es then _ else _)=_
    simp only
    cases A1A (Q5 ops.toList []) Es 0 Es with
    | true=>rfl
    | false =>
     simp only [cond_false,Bool.false_eq_true,if_false]
     cases F0 T K ops of ops.toList (σ.pre of (B3Z (B2 σ.ob of) Es)) with
     | none=>rfl
     | some p2 =>
      obtain ⟨Es2,σ2⟩:=p2
      show (bif A1A (Q5 ops.toList []) Es2 0 Es2 then _ else _)=_
      simp only
      cases A1A (Q5 ops.toList []) Es2 0 Es2<;>rfl
  ·rfl
def A5j (ks:List Nat) (f:St→Option (Exit×St)) (n:Nat):St→Option (Exit×St) :=
 @Nat.rec (fun _=>St→Option (Exit×St)) (fun _=>none) (fun _ ih σ=>B8r (f (σ.tidy ks)) ih) n
theorem B2x (ks:List Nat) (f:St→Option (Exit×St)):∀ (n:Nat) (σ:St),A5j ks f n σ=A16 ks f n σ:=by
 intro n
 induction n with
 | zero=>intro σ;rfl
 | succ n ih =>
  intro σ
  show B8r (f (σ.tidy ks)) (A5j ks f n)=_
  rw [B3M]
  simp only [A16]
  cases hf:f (σ.tidy ks) with
  | none=>rfl
  | some p =>
   obtain ⟨ex,σ1⟩:=p
   cases ex with
   | normal=>exact ih σ1
   | _=>rfl
def coR (T:TT) (fu nt:Nat) (cd:Code):CoR :=
 @Code.rec (fun _=>CoR) ⟨fun _ _ σ=>some (.normal,σ)⟩ (fun _ ops draw=>C1C T nt ops draw)
  (fun _ _ x y=>⟨fun K of σ=>B8r (x.run K of σ) (y.run K of)⟩)
  (fun q _ _ x y=>⟨fun K of σ=>D5m ((Y5 q).get (C4 σ.sl)) (fun t=>bif t then x.run K of σ else y.run K of σ) none none⟩)
  (fun id _ b=>⟨fun K of σ=>D5o id (b.run K of σ)⟩)
  (fun _ b=>⟨fun K of σ=>A5j (A2V σ.sl []) (b.run K of) fu σ⟩)
  (fun g ps asg body _ _=>⟨fun K of σ=>A37 T K nt of g ps asg body σ⟩)
  (fun id=>⟨fun _ _ σ=>some (.exit id,σ)⟩)
  (fun _ _=>⟨fun _ _ _=>none⟩) (fun _=>⟨fun _ _ _=>none⟩) (fun _=>⟨fun _ _ _=>none⟩) ⟨fun _ _ σ=>some (.ret,σ)⟩ (fun _=>⟨fun _ _ _=>none⟩) cd
theorem B8s (K:KS) (fu nt:Nat) (of:Nat→Option Ob):∀ (cd:Code) (σ:St),(coR T fu nt cd).run K of σ=G9 T K (fun _=>none) fu nt of cd σ:=by
 intro cd
 induction cd with
 | region id ops draw=>intro σ;exact C1D nt ops draw id K fu of σ
 | seq x y ihx ihy =>
  intro σ
  show B8r ((coR T fu nt x).run K of σ) ((coR T fu nt y).run K of)=_
  rw [B3M,ihx]
  simp only [G9]
  cases G9 T K (fun _=>none) fu nt of x σ with
  | none=>rfl
  | some p =>
   obtain ⟨ex,σ1⟩:=p
   cases ex with
   | normal=>exact ihy σ1
   | _=>rfl
 | cond q x y ihx ihy =>
  intro σ
  show D5m ((Y5 q).get (C4 σ.sl)) (fun t=>bif t then (coR T fu nt x).run K of σ else (coR T fu nt y).run K of σ) none none=_
  rw [P5]
  simp only [G9]
  cases M3 (C4 σ.sl) q with
  | b t =>
   show (bif t then (coR T fu nt x).run K of σ else (coR T fu nt y).run K of σ)=_
   cases t
   ·exact ihy σ
   ·exact ihx σ
  | _=>rfl
 | block id b ih =>
  intro σ
  show D5o id ((coR T fu nt b).run K of σ)=_
  rw [C1B,ih]
  simp only [G9]
  cases G9 T K (fun _=>none) fu nt of b σ with
  | none=>rfl
  | some p=>obtain ⟨ex,σ1⟩:=p;cases ex<;>rfl
 | loop b ih =>
  intro σ
  show A5j (A2V σ.sl []) ((coR T fu nt b).run K of) fu σ=_
  rw [B2x]
  simp only [G9]
  congr 1
  funext σ
  exact ih σ
 | _=>intro σ;rfl
structure FnR where
 run:KS→List A→(Nat→Option Ob)→Nat→Option J8
def D5p (T:TT) (rs:List ResultVar) (of:Nat→Option Ob) (nx:Nat) (ex:Exit) (σ:St):Option J8 :=
 bif A6z ex then
  (match σ.mks with
  | some ms=>if A39 nx σ.nx σ.ob.get ms then
   (match A13 T (C4 σ.sl) (B2 σ.ob of) rs with
   | some (v,ro)=>some (A0e ms (A0i nx v σ ro))
   | none=>none) else none
  | none=>none) else none
def E0U (q:Option (Exit×St)):(Exit→St→Option J8)→Option J8 :=
 @Option.rec (Exit×St) (fun _=>(Exit→St→Option J8)→Option J8) (fun _=>none) (fun p k=>k p.1 p.2) q
def fnR (P:Program) (T:TT) (fu f:Nat):FnR :=
 match P.funcs[f]? with
 | some fn=>match fn.body with
  | some code=>bif !(fn.name == "runtime.NumGoroutine") then ⟨fun K args of nx=>bif Nat.ble args.length fn.ntmps then E0U ((coR T fu fn.ntmps code).run K of ⟨A1B 0 args,.e,[],nx,some []⟩) (D5p T fn.results.toList of nx) else none⟩ else ⟨fun _ _ _ _=>none⟩
  | none=>⟨fun _ _ _ _=>none⟩
 | none=>⟨fun _ _ _ _=>none⟩
theorem D5q (P:Program) (K:KS) (fu f:Nat) (args:List A) (of:Nat→Option Ob) (nx:Nat):(fnR P T fu f).run K args of nx=A3w P T K (fun _ _=>none) fu f args of nx:=by
 unfold fnR A3w
 cases P.funcs[f]? with
 | none=>rfl
 | some fn =>
  simp only
  cases fn.body with
  | none=>rfl
  | some code =>
   simp only
   cases (fn.name == "runtime.NumGoroutine")
   ·simp only [Bool.not_false,cond_true,Bool.true_and]
    cases Nat.ble args.length fn.ntmps
    ·rfl
    ·simp only [cond_true,if_true,B8s]
     cases G9 T K (fun _=>none) fu fn.ntmps of code ⟨A1B 0 args,.e,[],nx,some []⟩ with
     | none=>rfl
     | some p =>
      obtain ⟨ex,σ⟩:=p
      show D5p T fn.results.toList of nx ex σ=_
      unfold D5p
      simp only
      cases A6z ex with
      | false=>rfl
      | true =>
       cases σ.mks with
       | none=>rfl
       | some ms =>
        simp only [cond_true,if_true]
        cases A39 nx σ.nx σ.ob.get ms with
        | false=>rfl
        | true =>
         simp only [if_true]
         cases A13 T (C4 σ.sl) (B2 σ.ob of) fn.results.toList<;>rfl
   ·rfl
def A4I (T:TT) (K:KS) (fu id:Nat):F6:=fun args of nx =>
 match lpE V9 (of id) with
 | some r=>@LR.rec (fun _=>Option J8) (fun nt sl ps asg body st pend =>
   bif Nat.beq args.length ps.size&&ps.toList.all (fun p=>Nat.blt p nt) then
   E0U ((coR T fu nt asg).run K of ⟨A8D ps.toList args sl,.e,[id],nx,none⟩) (fun ex σ1=>match ex with
    | .normal=>(match lpE V9 (B2 σ1.ob of id) with
     | some r1=>@LR.rec (fun _=>Option J8) (fun nt1 sl1 ps1 asg1 body1 st1 pend1=>B8U id nx of ((coR T fu nt body).run K of (setLp σ1 id ⟨nt1,sl1,ps1,asg1,body1,.busy,pend1⟩))) r1
     | none=>none)
    | _=>none) else none) r
 | none=>none
theorem B5j (K:KS) (fu id:Nat) (args:List A) (of:Nat→Option Ob) (nx:Nat):A4I T K fu id args of nx=A0A T K fu id args of nx:=by
 unfold A4I A0A
 cases lpE V9 (of id) with
 | none=>rfl
 | some r =>
  obtain ⟨nt,sl,ps,asg,body,st,pend⟩:=r
  simp only
  cases (Nat.beq args.length ps.size&&ps.toList.all (fun p=>Nat.blt p nt))
  ·rfl
  ·simp only [cond_true,if_true,B8s]
   cases G9 T K (fun _=>none) fu nt of asg ⟨A8D ps.toList args sl,.e,[id],nx,none⟩ with
   | none=>rfl
   | some p =>
    obtain ⟨ex,σ1⟩:=p
    cases ex with
    | normal =>
     show (match lpE V9 (B2 σ1.ob of id) with | some r1=>_ | none=>none)=_
     simp only
     cases lpE V9 (B2 σ1.ob of id) with
     | none=>rfl
     | some r1=>rfl
    | _=>rfl
def fnZ (P:Program) (T:TT) (C:Nat→Option F6) (fu f:Nat):FnR :=
 match C f with
 | some s=>⟨fun _ args of nx=>s args of nx⟩
 | none=>fnR P T fu f
def B3N (P:Program) (T:TT) (C:Nat→Option F6) (fu:Nat) (d:Nat):KS :=
 @Nat.rec (fun _=>KS) ⟨fun _ _ _ _=>none,fun _ _ _ _=>none,fun _=>false⟩
  (fun _ ih=>⟨fun f args of nx=>(fnZ P T C fu f).run ih args of nx,fun id=>A4I T ih fu id,A23 P⟩) d
theorem B8t (P:Program) (C:Nat→Option F6) (fu:Nat):∀ d,B3N P T C fu d=A8E P T C (fun _ _ _=>none) fu d:=by
 intro d
 induction d with
 | zero=>rfl
 | succ d ih =>
  show (⟨fun f args of nx=>(fnZ P T C fu f).run (B3N P T C fu d) args of nx,fun id=>A4I T (B3N P T C fu d) fu id,A23 P⟩:KS)=⟨fun f=>match C f with
   | some s=>s
   | none=>A3w P T (A8E P T C (fun _ _ _=>none) fu d) (fun _ _=>none) fu f,fun id=>A0A T (A8E P T C (fun _ _ _=>none) fu d) fu id,A23 P⟩
  rw [ih]
  generalize A8E P T C (fun _ _ _=>none) fu d=K0
  have e1:∀ f,(fun args of nx=>(fnZ P T C fu f).run K0 args of nx)=(match C f with
   | some s=>s
   | none=>A3w P T K0 (fun _ _=>none) fu f):=fun f=>by
   funext args of nx
   unfold fnZ
   cases C f with
   | none=>exact D5q P K0 fu f args of nx
   | some s=>rfl
  have e2:∀ id,A4I T K0 fu id=A0A T K0 fu id:=fun id=>by
   funext args of nx
   exact B5j K0 fu id args of nx
  rw [show (fun f args of nx=>(fnZ P T C fu f).run K0 args of nx)=_ from funext e1,show (fun id=>A4I T K0 fu id)=_ from funext e2]
def B8u (P:Program) (T:TT) (C:Nat→Option F6) (fu d f:Nat):F6:=(B3N P T C fu d).f f
theorem B8v (P:Program) (C:Nat→Option F6) (fu d f:Nat):B8u P T C fu d f=B03 P T C (fun _ _ _=>none) fu d f:=by
 unfold B8u B03
 rw [B8t]
variable {T:TT}
def ob {α R:Type} (o:Option α) (k:α→Option R):Option R :=
 match o with
 | some a=>k a
 | none=>none
abbrev H6:=(R:Type)→List A→(Nat→Option Ob)→Nat→(J8→Option R)→Option R
def H6.dir (s:H6):F6:=fun args of nx=>s J8 args of nx some
def H6.nat (s:H6):Prop:=∀ (R:Type) (args:List A) (of:Nat→Option Ob) (nx:Nat) (k:J8→Option R),s R args of nx k=ob (s.dir args of nx) k
def A8p (s:F6):H6:=fun _ args of nx k=>ob (s args of nx) k
theorem A8q (s:F6):(A8p s).nat:=by
 intro R args of nx k
 simp only [A8p,H6.dir]
 cases s args of nx<;>rfl
theorem A8r (s:F6):(A8p s).dir=s:=by
 funext args of nx
 simp only [A8p,H6.dir]
 cases s args of nx<;>rfl
variable {R:Type}
def B2y (T:TT) (of:Nat→Option Ob) (el:Nat) (u:A) (k:List V×List Nat→Option R):Option R :=
 match u with
 | .w id ver off n=>match of id with
  | some (.row el' v xs _ _)=>bif Nat.beq el el'&&Nat.beq v ver then (bif Nat.ble (off+n) xs.length then k ((xs.drop off).take n,[id]) else none) else none
  | _=>none
 | u=>ob (J4 T of el u) k
theorem A5k (of:Nat→Option Ob) (el:Nat) (u:A) (k:List V×List Nat→Option R):B2y T of el u k=ob (J4 T of el u) k:=by
 unfold B2y
 split
 ·rename_i id ver off n
  simp only [J4]
  cases of id with
  | none=>rfl
  | some o =>
   cases o with
   | row el' v xs nl sh=>simp only;cases (Nat.beq el el'&&Nat.beq v ver)<;>cases Nat.ble (off+n) xs.length<;>rfl
   | _=>rfl
 ·rfl
def A3r (T:TT) (of:Nat→Option Ob) (t:Nat) (i:Int) (u:A) (k:A×List Nat→Option R):Option R :=
 match C3 T t with
 | some (.arr n el)=>bif (T el).isSome then bif M6 0 i&&H9 i n then
   (match u with
   | .p id t' path=>bif same T t t' then k (.p id el (path++[i.toNat]),[]) else none
   | .e id ver j t' path=>bif same T t t'&&B2e of id ver then k (.e id ver j el (path++[i.toNat]),[id]) else none
   | .c t' y=>bif same T t t' then k (.c el (y.nth i.toNat),[]) else none
   | _=>none)
  else none else none
 | some (.slice el)=>bif (T el).isSome then
   (match u with
   | .o id ver=>match of id with
    | some (.row el' v xs _ _)=>bif Nat.beq el el'&&Nat.beq v ver then (bif M6 0 i&&H9 i xs.length then k (.e id ver i.toNat el [],[id]) else none) else none
    | _=>none
   | .w id ver off n=>match of id with
    | some (.row el' v xs _ _)=>bif Nat.beq el el'&&Nat.beq v ver then (bif M6 0 i&&H9 i n then k (.e id ver (off+i.toNat) el [],[id]) else none) else none
    | _=>none
   | .v t' y=>bif same T t t' then (bif M6 0 i&&H9 i y.els.length then k (.c el (y.nth i.toNat),[]) else none) else none
   | .q t' y=>bif same T t t' then (bif M6 0 i&&H9 i y.els.length then k (.c el (y.nth i.toNat),[]) else none) else none
   | .a id t1 path l0 m=>match C3 T t1 with
    | some (.arr _ el')=>bif Nat.beq el el' then (bif M6 0 i&&H9 i m then k (.p id el (path++[l0+i.toNat]),[]) else none) else none
    | _=>none
   | _=>none)
  else none
 | _=>none
theorem A6U (of:Nat→Option Ob) (t:Nat) (i:Int) (u:A) (k:A×List Nat→Option R):A3r T of t i u k=ob (N7 T of t i u) k:=by
 unfold A3r N7
 cases C3 T t with
 | none=>rfl
 | some kk =>
 cases kk with
 | arr n el =>
  simp only
  cases u with
  | p id t' path=>simp only;cases (T el).isSome<;>cases M6 0 i<;>cases H9 i (n:Int)<;>cases same T t t'<;>rfl
  | e id ver j t' path=>simp only;cases (T el).isSome<;>cases M6 0 i<;>cases H9 i (n:Int)<;>cases same T t t'<;>cases B2e of id ver<;>rfl
  | c t' y=>simp only;cases (T el).isSome<;>cases M6 0 i<;>cases H9 i (n:Int)<;>cases same T t t'<;>rfl
  | _=>simp only;cases (T el).isSome<;>cases M6 0 i<;>cases H9 i (n:Int)<;>rfl
 | slice el =>
  simp only
  cases (T el).isSome
  ·cases M6 0 i<;>rfl
  ·simp only [cond_true,Bool.and_true]
   cases u with
   | o id ver =>
    simp only
    cases of id with
    | none=>cases M6 0 i<;>rfl
    | some o =>
     cases o with
     | row el' v xs nl sh=>simp only;cases M6 0 i<;>cases (Nat.beq el el'&&Nat.beq v ver)<;>cases H9 i xs.length<;>rfl
     | _=>cases M6 0 i<;>rfl
   | w id ver off n =>
    simp only
    cases of id with
    | none=>cases M6 0 i<;>rfl
    | some o =>
     cases o with
     | row el' v xs nl sh=>simp only;cases M6 0 i<;>cases (Nat.beq el el'&&Nat.beq v ver)<;>cases H9 i n<;>rfl
     | _=>cases M6 0 i<;>rfl
   | v t' y=>simp only;cases M6 0 i<;>cases same T t t'<;>cases H9 i y.els.length<;>rfl
   | q t' y=>simp only;cases M6 0 i<;>cases same T t t'<;>cases H9 i y.els.length<;>rfl
   | a id t1 path l0 m =>
    simp only
    cases C3 T t1 with
    | none=>cases M6 0 i<;>rfl
    | some k1 =>
     cases k1 with
     | arr n' el'=>simp only;cases M6 0 i<;>cases Nat.beq el el'<;>cases H9 i m<;>rfl
     | _=>cases M6 0 i<;>rfl
   | _=>cases M6 0 i<;>rfl
 | _=>rfl
def B2z (T:TT) (t:Nat) (i:Int) (u:A) (k:A→Option R):Option R :=
 match u with
 | .s l=>match C3 T t with
  | some .str=>bif M6 0 i&&H9 i l.length then k (.i .u8 (l.getD i.toNat .n).int) else none
  | _=>none
 | .v t' y=>match C3 T t with
  | some (.arr n el)=>bif same T t t'&&(T el).isSome then (bif M6 0 i&&H9 i n then k (mkA T el (y.nth i.toNat)) else none) else none
  | _=>none
 | .g t' l=>ob (D4W T t i t' l) k
 | _=>none
theorem B5k (t:Nat) (i:Int) (u:A) (k:A→Option R):B2z T t i u k=ob (A4A T t i u) k:=by
 unfold B2z A4A
 cases u with
 | s l =>
  simp only
  cases C3 T t with
  | none=>rfl
  | some k1=>cases k1 with
   | str=>simp only;cases (M6 0 i&&H9 i l.length)<;>rfl
   | _=>rfl
 | v t' y =>
  simp only
  cases C3 T t with
  | none=>rfl
  | some k1=>cases k1 with
   | arr n el=>simp only;cases same T t t'<;>cases (T el).isSome<;>cases M6 0 i<;>cases H9 i n<;>rfl
   | _=>rfl
 | _=>rfl
def D5r (op:BinOp) (kd:IntKind) (a b:Int) (k:A→Option R):Option R :=
 match op with
 | .quo=>bif ieq b 0 then none else k (.i kd (kd.wrap (a.tdiv b)))
 | .rem=>bif ieq b 0 then none else k (.i kd (a.tmod b))
 | .shl=>bif M6 0 b then k (.i kd (kd.wrap (a * 2 ^ min b.toNat kd.bits))) else none
 | .shr=>bif M6 0 b then k (.i kd (a.fdiv (2 ^ min b.toNat kd.bits))) else none
 | op=>ob (A2P op kd a b) k
theorem C1E (op:BinOp) (kd:IntKind) (a b:Int) (k:A→Option R):D5r op kd a b k=ob (A2P op kd a b) k:=by
 cases op<;>simp only [D5r,A2P]
 ·cases ieq b 0<;>rfl
 ·cases ieq b 0<;>rfl
 ·cases M6 0 b<;>rfl
 ·cases M6 0 b<;>rfl
def D5s (op:BinOp) (x y:List V) (k:A→Option R):Option R :=
 match op with
 | .add=>bif Nat.ble (x.length+y.length) LIM then k (.s (x++y)) else none
 | op=>ob (B2d op x y) k
theorem C1F (op:BinOp) (x y:List V) (k:A→Option R):D5s op x y k=ob (B2d op x y) k:=by
 cases op<;>simp only [D5s,B2d]
 cases Nat.ble (x.length+y.length) LIM<;>rfl
def D5t (T:TT) (of:Nat→Option Ob) (op:BinOp) (xt:Nat) (u v:A) (k:A×List Nat→Option R):Option R :=
 match u,v with
 | .i kd a,.i k' b=>bif A1P op||A4K kd k' then D5r op kd a b fun r=>k (r,[]) else none
 | .s a,.s b=>D5s op a b fun r=>k (r,[])
 | u,v=>ob (A6b T of op xt u v) k
theorem C1G (of:Nat→Option Ob) (op:BinOp) (xt:Nat) (u v:A) (k:A×List Nat→Option R):D5t T of op xt u v k=ob (A6b T of op xt u v) k:=by
 unfold D5t
 split
 ·rename_i kd a k' b
  simp only [A6b]
  cases (A1P op||A4K kd k')
  ·rfl
  ·simp only [cond_true,if_true,C1E]
   cases A2P op kd a b<;>rfl
 ·rename_i a b
  simp only [A6b,C1F]
  cases B2d op a b<;>rfl
 ·rfl
def unC (op:UnOp) (u:A) (k:A→Option R):Option R :=
 match op,u with
 | .xor,.i kd n=>k (.i kd (G5 .xor kd (if kd.signed then -1 else kd.max) n))
 | op,u=>ob (unA op u) k
theorem B0S (op:BinOp) (kd:IntKind) (x y:Int):B2h kd (G5 op kd x y)=true:=by
 have:=N0 kd (match op with
  | .and=>(BitVec.ofInt kd.bits x &&& BitVec.ofInt kd.bits y).toNat
  | .or=>(BitVec.ofInt kd.bits x ||| BitVec.ofInt kd.bits y).toNat
  | .xor=>(BitVec.ofInt kd.bits x ^^^ BitVec.ofInt kd.bits y).toNat
  | _=>(BitVec.ofInt kd.bits x &&& ~~~BitVec.ofInt kd.bits y).toNat:Nat)
 unfold B2h
 rw [E1k,N9,N9]
 exact this
theorem D5u (op:UnOp) (u:A) (k:A→Option R):unC op u k=ob (unA op u) k:=by
 unfold unC
 split
 ·rename_i kd n
  simp only [unA,chk,B0S,if_true]
  rfl
 ·rfl
def C1H (T:TT) (of:Nat→Option Ob) (t:Nat) (u:A) (k:A×List Nat→Option R):Option R :=
 match C3 T t with
 | some .str=>match u with
  | .s l=>bif Nat.ble l.length 9223372036854775807 then k (.i .i64 (l.length:Nat),[]) else none
  | _=>none
 | some (.slice el)=>match u with
  | .s _=>none
  | u=>B2y T of el u fun p=>bif Nat.ble p.1.length 9223372036854775807 then k (.i .i64 (p.1.length:Nat),p.2) else none
 | some (.map _ _)=>match u with
  | .m id=>match of id with
   | some (.map _ _ es)=>bif Nat.ble es.length 9223372036854775807 then k (.i .i64 (es.length:Nat),[id]) else none
   | some (.vm _ _ es)=>bif Nat.ble es.length 9223372036854775807 then k (.i .i64 (es.length:Nat),[id]) else none
   | _=>none
  | _=>none
 | _=>none
theorem C1I (of:Nat→Option Ob) (t:Nat) (u:A) (k:A×List Nat→Option R):C1H T of t u k=ob (B4A T of t u) k:=by
 unfold B4A
 cases hq:A4Y of u with
 | some q =>
  obtain ⟨id,kt',et',es⟩:=q
  obtain ⟨rfl,hof⟩:=X4 hq
  unfold C1H
  simp only
  cases hk:C3 T t with
  | none=>rfl
  | some kk=>cases kk with
   | map kt et=>simp only [hof];cases Nat.ble es.length 9223372036854775807<;>rfl
   | slice el=>simp only [B2y,J4];rfl
   | _=>rfl
 | none =>
 simp only
 unfold C1H B2g
 cases C3 T t with
 | none=>rfl
 | some kk =>
  cases kk with
  | str=>cases u with
   | s l=>simp only;cases Nat.ble l.length 9223372036854775807<;>rfl
   | _=>rfl
  | slice el =>
   have gen:∀ o:Option (List V×List Nat),ob o (fun p=>bif Nat.ble p.1.length 9223372036854775807 then k (A.i .i64 (p.1.length:Nat),p.2) else none)=ob (match o with | some (xs,ro)=>(if Nat.ble xs.length 9223372036854775807=true then some (A.i .i64 (xs.length:Nat),ro) else none) | none=>none) k:=by
    intro o
    cases o with
    | none=>rfl
    | some p=>simp only [ob];cases Nat.ble p.1.length 9223372036854775807<;>rfl
   cases u with
   | s l=>simp only;cases J4 T of el (.s l)<;>rfl
   | _=>simp only [A5k];exact gen _
  | map kt et=>cases u with
   | m id =>
    simp only
    cases A7:of id with
    | none=>rfl
    | some o=>cases o with
     | map kt' et' es=>simp only;cases Nat.ble es.length 9223372036854775807<;>rfl
     | vm kt' et' es=>exfalso;unfold A4Y at hq;simp only [A7] at hq;cases hq
     | _=>rfl
   | _=>rfl
  | _=>rfl
def A9z (T:TT) (of:Nat→Option Ob) (nx t:Nat) (x y:A) (k:Out→Option R):Option R :=
 match C3 T t with
 | some (.slice el)=>match T el with
  | some te=>B2y T of el y fun p=>bif Nat.ble te.bytes 131072&&TK.notOther te.k&&Nat.blt 0 te.size then
    (match x with
    | .o id ver=>match of id with
     | some (.row el' v xs nl sh)=>bif Nat.beq el el'&&Nat.beq v ver then (bif Nat.ble (xs.length+p.1.length) LIM then
       k ⟨.o id (ver+1),[(id,.row el (ver+1) (xs++p.1) (nl&&p.1.isEmpty) sh)],id::p.2,[]⟩ else none) else none
     | _=>none
    | .w id ver off n=>match of id with
     | some (.row el' v xs false sh)=>bif Nat.beq el el'&&Nat.beq v ver then (bif Nat.ble (off+n) xs.length then (bif Nat.beq (off+n) xs.length||!sh then (bif Nat.ble (n+p.1.length) LIM then
       k ⟨.o id (ver+1),[(id,.row el (ver+1) ((xs.drop off).take n++p.1) false sh)],id::p.2,[]⟩ else none) else none) else none) else none
     | _=>none
    | .v t' .n=>bif same T t t' then (bif Nat.ble p.1.length LIM then k ⟨.o nx 1,[(nx,.row el 1 p.1 p.1.isEmpty false)],p.2,[nx]⟩ else none) else none
    | .z v=>bif A5U v then (bif Nat.ble p.1.length LIM then k ⟨.o nx 1,[(nx,.row el 1 p.1 p.1.isEmpty false)],p.2,[nx]⟩ else none) else none
    | .q t' x=>bif same T t t' then (bif !p.1.isEmpty then (bif Nat.ble (x.els.length+p.1.length) LIM then k ⟨.o nx 1,[(nx,.row el 1 (x.els++p.1) p.1.isEmpty false)],p.2,[nx]⟩ else none) else none) else none
    | _=>none)
   else none
  | none=>none
 | _=>none
theorem B2A (of:Nat→Option Ob) (nx t:Nat) (x y:A) (k:Out→Option R):A9z T of nx t x y k=ob (A0Z T of nx t x y) k:=by
 unfold A9z A0Z
 cases C3 T t with
 | none=>rfl
 | some kk =>
 cases kk with
 | slice el =>
  simp only
  cases T el with
  | none=>rfl
  | some te =>
   simp only [A5k]
   cases J4 T of el y with
   | none=>rfl
   | some p =>
    obtain ⟨ns,ro⟩:=p
    simp only [ob]
    cases (Nat.ble te.bytes 131072&&TK.notOther te.k&&Nat.blt 0 te.size)
    ·rfl
    ·simp only [cond_true,if_true]
     cases x with
     | o id ver =>
      simp only
      cases of id with
      | none=>rfl
      | some o=>cases o with
       | row el' v xs nl sh=>simp only;cases (Nat.beq el el'&&Nat.beq v ver)<;>cases Nat.ble (xs.length+ns.length) LIM<;>rfl
       | _=>rfl
     | w id ver off n =>
      simp only
      cases of id with
      | none=>rfl
      | some o=>cases o with
       | row el' v xs nl sh=>cases nl<;>simp only<;>cases (Nat.beq el el'&&Nat.beq v ver)<;>cases Nat.ble (off+n) xs.length<;>cases (Nat.beq (off+n) xs.length||!sh)<;>cases Nat.ble (n+ns.length) LIM<;>rfl
       | _=>rfl
     | v t' y=>cases y with
      | n=>simp only;cases same T t t'<;>cases Nat.ble ns.length LIM<;>rfl
      | _=>rfl
     | z v=>simp only;cases A5U v<;>cases Nat.ble ns.length LIM<;>rfl
     | q t' x'=>simp only;cases same T t t'<;>cases ns.isEmpty<;>cases Nat.ble (x'.els.length+ns.length) LIM<;>rfl
     | _=>rfl
 | _=>rfl
variable {T:TT} {R:Type}
def A0o (n:Nat) (lo hi:Option A) (k:Nat×Nat→Option R):Option R :=
 match H7 (0:Nat) lo,H7 n hi with
 | some l,some h=>bif M6 0 l&&M6 l h&&M6 h n then k (l.toNat,(h - l).toNat) else none
 | _,_=>none
theorem Y0 (n:Nat) (lo hi:Option A) (k:Nat×Nat→Option R):A0o n lo hi k=ob (Q1 n lo hi) k:=by
 unfold A0o Q1
 cases H7 (0:Nat) lo with
 | none=>rfl
 | some l=>cases H7 n hi with
  | none=>rfl
  | some h=>simp only;cases (M6 0 l&&M6 l h&&M6 h n)<;>rfl
def B2B (T:TT) (of:Nat→Option Ob) (t:Nat) (u:A) (lo hi mx:Option A) (k:A×List (Nat×Ob)×List Nat→Option R):Option R :=
 match mx with
 | some mx=>(match C3 T t with
  | some (.slice el)=>bif (T el).isSome&&isQ T u then
    (match H7 (0:Nat) lo,hi,mx with
    | some l,some (.i _ h),.i _ h'=>bif ieq h h' then (match M2 T DEP of t u with
     | some (x,wo)=>bif M6 0 l&&M6 l h&&M6 h x.els.length then k (.q t (A5W x l.toNat (h - l).toNat),wo,T4 wo) else none
     | none=>none) else none
    | _,_,_=>none) else none
  | _=>none)
 | none =>
 match C3 T t with
 | some .str=>match u with
  | .s l=>A0o l.length lo hi fun p=>k (.s ((l.drop p.1).take p.2),[],[])
  | _=>none
 | some (.slice el)=>bif (T el).isSome&&isQ T u then
   (match zV T t u with
    | .v t' y=>bif same T t t' then A0o y.els.length lo hi fun p=>k (.v t' (A5W y p.1 p.2),[],[]) else none
    | .w id ver off n=>match of id with
     | some (.row el' v xs _ _)=>bif Nat.beq el el'&&Nat.beq v ver then A0o n lo hi fun p=>k (.w id ver (off+p.1) p.2,[],[id]) else none
     | _=>none
    | .o id ver=>match of id with
     | some (.row el' v xs false _)=>bif Nat.beq el el'&&Nat.beq v ver then A0o xs.length lo hi fun p=>k (.w id ver (0+p.1) p.2,[],[id]) else none
     | some (.row el' v xs true _)=>bif Nat.beq el el'&&Nat.beq v ver&&T0 T t then A0o 0 lo hi fun p=>k (.v t (A5W .n p.1 p.2),[],[id]) else none
     | _=>none
    | .a id t1 path lo0 m=>match C3 T t1 with
     | some (.arr _ el')=>bif Nat.beq el el' then A0o m lo hi fun p=>k (.a id t1 path (lo0+p.1) p.2,[],[]) else none
     | _=>none
    | _=>none)
  else none
 | some (.arr n el)=>match u with
  | .p id t1 path=>bif same T t t1&&(T el).isSome then A0o n lo hi fun p=>k (.a id t1 path p.1 p.2,[],[]) else none
  | _=>none
 | _=>none
theorem M4 {α:Type} (q:Bool) (a:Option α) (k:α→Option R):ob (if q=true then a else none) k=bif q then ob a k else none:=by cases q<;>rfl
theorem B5l (of:Nat→Option Ob) (t:Nat) (u:A) (lo hi mx:Option A) (k:A×List (Nat×Ob)×List Nat→Option R):B2B T of t u lo hi mx k=ob (A1H T of t u lo hi mx) k:=by
 unfold B2B
 cases mx with
 | some m =>
  unfold A1H
  simp only
  cases C3 T t with
  | none=>rfl
  | some kk =>
  cases kk with
  | str=>cases u<;>rfl
  | slice el =>
   simp only [M4]
   cases ((T el).isSome&&isQ T u)
   ·rfl
   ·simp only [cond_true]
    cases H7 (0:Nat) lo with
    | none=>rfl
    | some l=>cases hi with
     | none=>rfl
     | some a=>cases a with
      | i k1 h=>cases m with
       | i k2 h' =>
        simp only [M4]
        cases ieq h h'
        ·rfl
        ·simp only [cond_true]
         cases M2 T DEP of t u with
         | none=>rfl
         | some p=>obtain ⟨x,wo⟩:=p;simp only [M4];cases (M6 0 l&&M6 l h&&M6 h x.els.length)<;>rfl
       | _=>rfl
      | _=>rfl
  | arr n el=>cases u<;>rfl
  | _=>rfl
 | none =>
 unfold A1H
 simp only
 cases C3 T t with
 | none=>rfl
 | some kk =>
 cases kk with
 | str=>cases u with
  | s l=>simp only [Y0];cases Q1 l.length lo hi<;>rfl
  | _=>rfl
 | slice el =>
  simp only [M4]
  cases ((T el).isSome&&isQ T u)
  ·rfl
  ·simp only [cond_true]
   cases zV T t u with
   | v t' y=>simp only [M4,Y0];cases Q1 y.els.length lo hi<;>rfl
   | w id ver off n =>
    simp only
    cases of id with
    | none=>rfl
    | some o=>cases o with
     | row el' v xs nl sh=>simp only [M4,Y0];cases Q1 n lo hi<;>rfl
     | _=>rfl
   | o id ver =>
    simp only
    cases of id with
    | none=>rfl
    | some o=>cases o with
     | row el' v xs nl sh=>cases nl<;>simp only [M4,Y0]
                           ·cases Q1 xs.length lo hi<;>rfl
                           ·cases Q1 0 lo hi<;>rfl
     | _=>rfl
   | a id t1 path lo0 m =>
    simp only
    cases C3 T t1 with
    | none=>rfl
    | some k1=>cases k1 with
     | arr n' el'=>simp only [M4,Y0];cases Q1 m lo hi<;>rfl
     | _=>rfl
   | _=>rfl
 | arr n el=>cases u with
  | p id t1 path=>simp only [M4,Y0];cases Q1 n lo hi<;>rfl
  | _=>rfl
 | _=>rfl
def A3s (T:TT) (nx t:Nat) (u v:A) (k:J8→Option R):Option R :=
 match C3 T t,u,v with
 | some (.slice el),.i _ a,.i _ b=>match T el with
  | some te=>bif Nat.blt 0 te.size&&TK.notOther te.k&&Nat.ble te.bytes 131072 then (bif M6 0 a&&M6 a b&&M6 b LIM then k ⟨.o nx 1,[(nx,.row el 1 (List.replicate a.toNat te.zero) false false)],[],nx+1⟩ else none) else none
  | none=>none
 | _,_,_=>none
theorem A6V (nx t:Nat) (u v:A) (k:J8→Option R):A3s T nx t u v k=ob (A0J T nx t u v) k:=by
 unfold A3s A0J
 cases C3 T t with
 | none=>rfl
 | some kk=>cases kk with
  | slice el=>cases u with
   | i k1 a=>cases v with
    | i k2 b =>
     simp only
     cases T el with
     | none=>rfl
     | some te =>
      simp only
      cases Nat.blt 0 te.size<;>cases TK.notOther te.k<;>cases Nat.ble te.bytes 131072<;>cases M6 0 a<;>cases M6 a b<;>cases M6 b LIM<;>rfl
    | _=>rfl
   | _=>rfl
  | _=>rfl
def D5v (T:TT) (of:Nat→Option Ob) (t:Nat) (u:A) (k:A×List (Nat×Ob)×List Nat→Option R):Option R :=
 match u with
 | .v t' y=>match C3 T t with
  | some (.arr n el)=>bif Nat.blt 0 n&&Nat.beq (C2 T t) (n * C2 T el) then
   (match C3 T t' with
    | some (.slice el')=>bif Nat.beq el el' then (bif Nat.ble n y.els.length then k (.c t (.l (y.els.take n)),[],[]) else none) else none
    | _=>none) else none
  | _=>none
 | .o id ver=>match C3 T t with
  | some (.arr n el)=>bif Nat.blt 0 n&&Nat.beq (C2 T t) (n * C2 T el) then
   (match of id with
    | some (.row el' v xs false _)=>bif Nat.beq el el'&&Nat.beq v ver then (bif Nat.ble n xs.length then k (.c t (.l (xs.take n)),[(id,.row el' ver xs false true)],[id]) else none) else none
    | _=>none) else none
  | _=>none
 | u=>ob (B0I T of t u) k
theorem C1J (of:Nat→Option Ob) (t:Nat) (u:A) (k:A×List (Nat×Ob)×List Nat→Option R):D5v T of t u k=ob (B0I T of t u) k:=by
 unfold D5v
 cases u with
 | v t' y =>
  simp only [B0I]
  cases C3 T t with
  | none=>rfl
  | some kk=>cases kk with
   | arr n el =>
    simp only [M4]
    cases C3 T t' with
    | none=>rfl
    | some k1=>cases k1 with
     | slice el'=>simp only [M4];cases (Nat.blt 0 n&&Nat.beq (C2 T t) (n * C2 T el))<;>cases Nat.beq el el'<;>cases Nat.ble n y.els.length<;>rfl
     | _=>rfl
   | _=>rfl
 | o id ver =>
  simp only [B0I]
  cases C3 T t with
  | none=>rfl
  | some kk=>cases kk with
   | arr n el =>
    simp only [M4]
    cases of id with
    | none=>rfl
    | some o=>cases o with
     | row el' v xs nl sh=>cases nl
                           ·simp only [M4];cases (Nat.blt 0 n&&Nat.beq (C2 T t) (n * C2 T el))<;>cases (Nat.beq el el'&&Nat.beq v ver)<;>cases Nat.ble n xs.length<;>rfl
                           ·rfl
     | _=>rfl
   | _=>rfl
 | _=>rfl
def oc {α β:Type} (o:Option α) (s:α→β) (n:β):β :=
 match o with
 | some a=>s a
 | none=>n
def B3O (T:TT) (of:Nat→Option Ob) (t:Nat) (m k:A) (okk:Bool) (kk:A×List Nat→Option R):Option R :=
 match C3 T t with
 | some (.map kt et)=>match T et,A0E T kt k with
  | some te,some kv=>bif TK.notOther te.k then
    (bif A1I T t m then kk (okA okk (mkA T et te.zero) false,[]) else
    match m with
    | .m id=>match of id with
     | some (.map kt' et' es)=>bif Nat.beq kt kt'&&Nat.beq et et' then oc (A3F kv es) (fun a=>kk (okA okk (norm T a) true,[id])) (kk (okA okk (mkA T et te.zero) false,[id])) else none
     | some (.vm kt' et' es)=>bif Nat.beq kt kt'&&Nat.beq et et' then (bif B1u kv es then kk (okA okk (mkA T et (B6n kv es)) true,[id]) else kk (okA okk (mkA T et te.zero) false,[id])) else none
     | _=>none
    | _=>none)
   else none
  | _,_=>none
 | _=>none
theorem B8w (of:Nat→Option Ob) (t:Nat) (m k:A) (okk:Bool) (kk:A×List Nat→Option R):B3O T of t m k okk kk=ob (A7g T of t m k okk) kk:=by
 unfold A7g
 cases hq:A4Y of m with
 | some q =>
  obtain ⟨id,kt',et',es⟩:=q
  obtain ⟨rfl,hof⟩:=X4 hq
  unfold B3O B6p
  simp only
  cases C3 T t with
  | none=>rfl
  | some k1=>cases k1 with
   | map kt et =>
    simp only
    cases T et with
    | none=>rfl
    | some te=>cases A0E T kt k with
     | none=>rfl
     | some kv =>
      simp only [M4,show A1I T t (.m id)=false from rfl,cond_false,hof]
      cases TK.notOther te.k
      ·rfl
      ·simp only [cond_true]
       cases (Nat.beq kt kt'&&Nat.beq et et')
       ·rfl
       ·simp only [cond_true]
        cases B1u kv es<;>rfl
   | _=>rfl
 | none =>
 simp only
 unfold B3O A7c
 cases C3 T t with
 | none=>rfl
 | some k1=>cases k1 with
  | map kt et =>
   simp only
   cases T et with
   | none=>rfl
   | some te=>cases A0E T kt k with
    | none=>rfl
    | some kv =>
     simp only [M4]
     cases TK.notOther te.k
     ·rfl
     ·simp only [cond_true]
      cases A1I T t m
      ·simp only [cond_false]
       cases m with
       | m id =>
        simp only
        cases A7:of id with
        | none=>rfl
        | some o=>cases o with
         | map kt' et' es =>
          simp only [M4]
          cases (Nat.beq kt kt'&&Nat.beq et et')
          ·rfl
          ·simp only [cond_true]
           cases A3F kv es<;>rfl
         | vm kt' et' es=>exfalso;unfold A4Y at hq;simp only [A7] at hq;cases hq
         | _=>rfl
       | _=>rfl
      ·rfl
  | _=>rfl
def B8x (T:TT) (of:Nat→Option Ob) (nx s t:Nat) (u:A) (k:Out→Option R):Option R :=
 match u with
 | .w id ver off n=>match C3 T t with
  | some .str=>match C3 T s with
   | some (.slice el)=>match C3 T el with
    | some (.int .u8)=>bif Nat.beq (C2 T el) 1 then B2y T of el (.w id ver off n) fun p=>k ⟨.s p.1,[],p.2,[]⟩ else none
    | _=>none
   | _=>none
  | _=>ob (A2Y T of nx s t (.w id ver off n)) k
 | u=>ob (A2Y T of nx s t u) k
theorem B8y (of:Nat→Option Ob) (nx s t:Nat) (u:A) (k:Out→Option R):B8x T of nx s t u k=ob (A2Y T of nx s t u) k:=by
 unfold B8x
 cases u with
 | w id ver off n =>
  simp only
  cases hk:C3 T t with
  | none=>rfl
  | some kk=>cases kk with
   | str =>
    simp only [A2Y,hk,bytesOf]
    cases C3 T s with
    | none=>rfl
    | some k1=>cases k1 with
     | slice el =>
      simp only
      cases C3 T el with
      | none=>rfl
      | some k2=>cases k2 with
       | int ki=>cases ki<;>try rfl
                 simp only [A5k]
                 cases Nat.beq (C2 T el) 1
                 ·rfl
                 ·simp only [cond_true,if_true];cases J4 T of el (.w id ver off n)<;>rfl
       | _=>rfl
     | _=>rfl
   | _=>rfl
 | _=>rfl
def B8z (T:TT) (of:Nat→Option Ob) (t xt:Nat) (u v:A) (k:A×List (Nat×Ob)×List Nat→Option R):Option R :=
 match C3 T t with
 | some (.slice el)=>bif A1q T xt v&&(T el).isSome then
   B2y T of el v fun p=>bif Nat.ble p.1.length LIM then
    (match u with
    | .a id t1 path lo m=>match C3 T t1,of id with
     | some (.arr N el'),some (.box t0 a false)=>match atA T a path with
      | some (.v t2 y)=>bif Nat.beq el el'&&Nat.beq t1 t2 then
        (bif p.1.isEmpty then (match J4 T of el (.a id t1 path lo m) with
         | some q=>k (.i .i64 0,[],p.2++q.2)
         | none=>none) else
         bif Nat.ble p.1.length m&&Nat.ble (lo+m) N then (match A1W T a path (.v t1 (.l (X3 y.els lo p.1))) with
          | some a'=>k (.i .i64 (p.1.length:Nat),[(id,.box t0 a' false)],id::p.2)
          | none=>none) else none) else ob (A0h T of t xt u v) k
      | _=>ob (A0h T of t xt u v) k
     | _,_=>ob (A0h T of t xt u v) k
    | u=>ob (A0h T of t xt u v) k)
    else none
  else none
 | _=>none
theorem B8A (of:Nat→Option Ob) (t xt:Nat) (u v:A) (k:A×List (Nat×Ob)×List Nat→Option R):B8z T of t xt u v k=ob (A0h T of t xt u v) k:=by
 unfold B8z
 cases hk:C3 T t with
 | none=>simp only [A0h,hk];rfl
 | some kk=>cases kk with
  | slice el =>
   simp only [A5k]
   cases hq:(A1q T xt v&&(T el).isSome) with
   | false=>simp only [A0h,hk,hq];rfl
   | true =>
    simp only [cond_true]
    cases hs:J4 T of el v with
    | none=>simp only [A0h,hk,hq,hs];rfl
    | some p =>
     obtain ⟨ns,ro⟩:=p
     simp only [ob]
     cases hl:Nat.ble ns.length LIM with
     | false=>simp only [A0h,hk,hq,hs,hl];rfl
     | true =>
      simp only [cond_true]
      cases u with
      | a id t1 path lo m =>
       simp only
       cases hk1:C3 T t1 with
       | none=>rfl
       | some k1=>cases k1 with
        | arr N el' =>
         cases ho:of id with
         | none=>rfl
         | some o=>cases o with
          | box t0 a sh=>cases sh
                         ·simp only
                          cases ha:atA T a path with
                          | none=>rfl
                          | some a1=>cases a1 with
                           | v t2 y =>
                            simp only
                            cases hb:(Nat.beq el el'&&Nat.beq t1 t2) with
                            | false=>rfl
                            | true =>
                             simp only [cond_true]
                             cases ns with
                             | nil =>
                              simp only [List.isEmpty_nil,cond_true,A0h,hk,hq,hs,hl,if_true]
                              cases J4 T of el (.a id t1 path lo m)<;>rfl
                             | cons n0 nr =>
                              simp only [List.isEmpty_cons,cond_false,A0h,hk,hq,hs,hl,hk1,ho,ha,hb,if_true,Bool.true_and]
                              cases Nat.ble (n0::nr).length m<;>cases Nat.ble (lo+m) N<;>try rfl
                              simp only [Bool.true_and,cond_true,if_true]
                              cases A1W T a path (.v t1 (.l (X3 y.els lo (n0::nr))))<;>rfl
                           | _=>rfl
                         ·rfl
          | _=>rfl
        | _=>rfl
      | _=>rfl
  | _=>simp only [A0h,hk];rfl
variable {T:TT} {R:Type}
structure KC where
 f:Nat→H6
 y:Nat→H6
 ord:Nat→Bool
def KC.dir (K:KC):KS:=⟨fun f=>(K.f f).dir,fun id=>(K.y id).dir,K.ord⟩
structure KC.nat (K:KC):Prop where
 f:∀ f,(K.f f).nat
 y:∀ id,(K.y id).nat
def B0T (nx:Nat) (o:Out) (k:J8→Option R):Option R :=
 match o with
 | ⟨v,wo,ro,nw⟩=>match nw with
  | []=>k ⟨v,wo,ro,nx⟩
  | [j]=>bif Nat.beq j nx then k ⟨v,wo,ro,nx+1⟩ else none
  | _=>none
theorem B0U (nx:Nat) (o:Option Out) (k:J8→Option R):ob o (fun x=>B0T nx x k)=ob (A0m nx o) k:=by
 cases o with
 | none=>rfl
 | some x =>
  obtain ⟨v,wo,ro,nw⟩:=x
  simp only [ob,B0T,A0m]
  cases nw with
  | nil=>rfl
  | cons j r=>cases r with
   | nil=>simp only;cases Nat.beq j nx<;>rfl
   | cons _ _=>rfl
def B2C (T:TT) (t:Nat) (k:A) (okk:Bool) (q:Nat×Nat×Nat×Nat×List (V×V×Bool)×Option V) (kk:A×List Nat→Option R):Option R :=
 match q.2.2.2.2.2 with
 | none=>match C3 T t with
  | some (.map kt et)=>match T et,A0E T kt k with
   | some te,some kv=>bif TK.notOther te.k then (bif Nat.beq kt q.2.1&&Nat.beq et q.2.2.1 then
     (bif A1c kv q.2.2.2.2.1 then kk (okA okk (mkA T et (A6e kv q.2.2.2.2.1)) true,[q.1]) else kk (okA okk (mkA T et te.zero) false,[q.1])) else none) else none
   | _,_=>none
  | _=>none
 | some _=>none
theorem B5m (t:Nat) (k:A) (okk:Bool) (q:Nat×Nat×Nat×Nat×List (V×V×Bool)×Option V) (kk:A×List Nat→Option R):B2C T t k okk q kk=ob (A6f T t k okk q) kk:=by
 unfold B2C A6f
 cases q.2.2.2.2.2 with
 | some _=>rfl
 | none=>cases C3 T t with
  | none=>rfl
  | some k1=>cases k1 with
   | map kt et =>
    simp only
    cases T et with
    | none=>rfl
    | some te=>cases A0E T kt k with
     | none=>rfl
     | some kv =>
      simp only [M4]
      cases TK.notOther te.k
      ·rfl
      ·simp only [cond_true]
       cases (Nat.beq kt q.2.1&&Nat.beq et q.2.2.1)
       ·rfl
       ·simp only [cond_true]
        cases A1c kv q.2.2.2.2.1<;>rfl
   | _=>rfl
def B2D (T:TT) (nx t:Nat) (k:A) (q:Nat×Nat×Nat×Nat×List (V×V×Bool)×Option V) (kk:Out→Option R):Option R :=
 match q.2.2.2.2.2 with
 | none=>match C3 T t with
  | some (.map kt et)=>match T et,A0E T kt k with
   | some te,some kv=>bif TK.notOther te.k then (bif Nat.beq kt q.2.1&&Nat.beq et q.2.2.1 then
     (bif A1c kv q.2.2.2.2.1 then (bif A9m kv q.2.2.2.2.1 then kk ⟨.o nx 1,[(q.1,.sm q.2.1 q.2.2.1 q.2.2.2.1 q.2.2.2.2.1 (some kv)),(nx,.row q.2.2.2.1 1 (A6e kv q.2.2.2.2.1).els false true)],[q.1],[nx]⟩ else none) else kk ⟨mkA T et te.zero,[],[q.1],[]⟩) else none) else none
   | _,_=>none
  | _=>none
 | some _=>none
theorem B5n (nx t:Nat) (k:A) (q:Nat×Nat×Nat×Nat×List (V×V×Bool)×Option V) (kk:Out→Option R):B2D T nx t k q kk=ob (A8k T nx t k q) kk:=by
 unfold B2D A8k
 cases q.2.2.2.2.2 with
 | some _=>rfl
 | none=>cases C3 T t with
  | none=>rfl
  | some k1=>cases k1 with
   | map kt et =>
    simp only
    cases T et with
    | none=>rfl
    | some te=>cases A0E T kt k with
     | none=>rfl
     | some kv =>
      simp only [M4]
      cases TK.notOther te.k
      ·rfl
      ·simp only [cond_true]
       cases (Nat.beq kt q.2.1&&Nat.beq et q.2.2.1)
       ·rfl
       ·simp only [cond_true]
        cases A1c kv q.2.2.2.2.1
        ·rfl
        ·simp only [cond_true,M4]
         cases A9m kv q.2.2.2.2.1<;>rfl
   | _=>rfl
def B2E (T:TT) (lend:Bool) (nx:Nat) (of:Nat→Option Ob) (t:Nat) (m k:A) (okk:Bool) (kk:Out→Option R):Option R :=
 match A2Q of m with
 | some q=>bif lend&&!okk then B2D T nx t k q kk else B2C T t k okk q fun p=>kk ⟨p.1,[],p.2,[]⟩
 | none=>B3O T of t m k okk fun p=>kk ⟨p.1,[],p.2,[]⟩
theorem B5o (lend:Bool) (nx:Nat) (of:Nat→Option Ob) (t:Nat) (m k:A) (okk:Bool) (kk:Out→Option R):B2E T lend nx of t m k okk kk=ob (A8l T lend nx of t m k okk) kk:=by
 unfold B2E A8l
 cases A2Q of m with
 | some q =>
  simp only
  cases lend&&!okk
  ·simp only [cond_false,B5m]
   cases A6f T t k okk q<;>rfl
  ·simp only [cond_true,B5n]
 | none =>
  simp only [B8w]
  cases A7g T of t m k okk<;>rfl
def B8B (T:TT) (of:Nat→Option Ob) (t:Nat) (k v:A) (q:Nat×Nat×Nat×Nat×List (V×V×Bool)×Option V) (kk:List (Nat×Ob)×List Nat→Option R):Option R :=
 match C3 T t with
 | some (.map kt et)=>match A0E T kt k with
  | some kv=>bif Nat.beq kt q.2.1&&Nat.beq et q.2.2.1 then (bif C0T q.2.2.2.2.2 kv then (match v with
    | .o rid ver=>match of rid with
     | some (.row el v' xs false sh)=>bif Nat.beq el q.2.2.2.1&&Nat.beq v' ver then kk ([(rid,.row el (ver+1) [] true false),(q.1,.sm q.2.1 q.2.2.1 q.2.2.2.1 (A3m kv (.l xs) true q.2.2.2.2.1) none)],[q.1,rid]) else none
     | _=>none
    | v=>match M2 T DEP of et v with
     | some (x,wo)=>bif !(T4 wo).contains q.1 then kk (wo++[(q.1,.sm q.2.1 q.2.2.1 q.2.2.2.1 (A3m kv x false q.2.2.2.2.1) none)],q.1::T4 wo) else none
     | none=>none) else none) else none
  | none=>none
 | _=>none
theorem B8C (of:Nat→Option Ob) (t:Nat) (k v:A) (q:Nat×Nat×Nat×Nat×List (V×V×Bool)×Option V) (kk:List (Nat×Ob)×List Nat→Option R):B8B T of t k v q kk=ob (B2l T of t k v q) kk:=by
 unfold B8B B2l
 cases C3 T t with
 | none=>rfl
 | some k1=>cases k1 with
  | map kt et =>
   simp only
   cases A0E T kt k with
   | none=>rfl
   | some kv =>
    simp only [M4]
    cases (Nat.beq kt q.2.1&&Nat.beq et q.2.2.1)
    ·rfl
    ·simp only [cond_true]
     cases C0T q.2.2.2.2.2 kv
     ·rfl
     ·simp only [cond_true]
      have gen:∀ v:A,(match M2 T DEP of et v with
        | some (x,wo)=>bif !(T4 wo).contains q.1 then kk (wo++[(q.1,.sm q.2.1 q.2.2.1 q.2.2.2.1 (A3m kv x false q.2.2.2.2.1) none)],q.1::T4 wo) else none
        | none=>none)=ob (match M2 T DEP of et v with
        | some (x,wo)=>if !(T4 wo).contains q.1 then some (wo++[(q.1,.sm q.2.1 q.2.2.1 q.2.2.2.1 (A3m kv x false q.2.2.2.2.1) none)],q.1::T4 wo) else none
        | none=>none) kk:=by
       intro v
       cases M2 T DEP of et v with
       | none=>rfl
       | some p =>
        obtain ⟨x,wo⟩:=p
        simp only [M4]
        cases !(T4 wo).contains q.1<;>rfl
      cases v with
      | o rid ver =>
       simp only
       cases of rid with
       | none=>rfl
       | some o=>cases o with
        | row el v' xs nl sh=>cases nl
                              ·simp only [M4];cases (Nat.beq el q.2.2.2.1&&Nat.beq v' ver)<;>rfl
                              ·rfl
        | _=>rfl
      | i k n=>exact gen (.i k n)
      | b y=>exact gen (.b y)
      | s l=>exact gen (.s l)
      | z v=>exact gen (.z v)
      | v t x=>exact gen (.v t x)
      | p i t r=>exact gen (.p i t r)
      | e i v j t r=>exact gen (.e i v j t r)
      | c t x=>exact gen (.c t x)
      | q t x=>exact gen (.q t x)
      | w i v o n=>exact gen (.w i v o n)
      | a i t r l m=>exact gen (.a i t r l m)
      | m i=>exact gen (.m i)
      | y i=>exact gen (.y i)
      | f n c=>exact gen (.f n c)
      | g t l=>exact gen (.g t l)
      | t l=>exact gen (.t l)
      | x=>exact gen .x
  | _=>rfl
def B3P (T:TT) (of:Nat→Option Ob) (nx t:Nat) (m k v:A) (kk:J8→Option R):Option R :=
 match A2Q of m with
 | some q=>B8B T of t k v q fun p=>kk ⟨.x,p.1,p.2,nx⟩
 | none=>ob (B6r T of t m k v) fun p=>kk ⟨.x,p.1,p.2,nx⟩
theorem B8D (of:Nat→Option Ob) (nx t:Nat) (m k v:A) (kk:J8→Option R):B3P T of nx t m k v kk=ob (A6S T of nx t m k v) kk:=by
 unfold B3P A6S B7D
 cases A2Q of m with
 | some q =>
  simp only [B8C]
  cases B2l T of t k v q<;>rfl
 | none =>
  simp only
  cases B6r T of t m k v<;>rfl
def B8E (T:TT) (of:Nat→Option Ob) (t:Nat) (u:A) (k:A×List Nat→Option R):Option R :=
 match A2Q of u with
 | some q=>(match C3 T t with
  | some (.map _ _)=>bif Nat.ble q.2.2.2.2.1.length 9223372036854775807 then k (.i .i64 (q.2.2.2.2.1.length:Nat),[q.1]) else none
  | _=>none)
 | none=>C1H T of t u k
theorem B8F (of:Nat→Option Ob) (t:Nat) (u:A) (k:A×List Nat→Option R):B8E T of t u k=ob (A6i T of t u) k:=by
 unfold B8E A6i
 cases A2Q of u with
 | none=>exact C1I _ _ _ _
 | some q =>
  unfold C0V
  cases C3 T t with
  | none=>rfl
  | some kk=>cases kk with
   | map kt et=>simp only;cases Nat.ble q.2.2.2.2.1.length 9223372036854775807<;>rfl
   | _=>rfl
def B8G (T:TT) (K:KC) (ev:Operand→A) (of:Nat→Option Ob) (nx:Nat) (k:Call) (kk:J8→Option R):Option R :=
 match k.callee with
 | .value f=>match ev f with
  | .f fn cap=>match bdP cap with
   | some p=>K.f fn R (p::k.args.toList.map ev) of nx kk
   | none=>bif cap.all (U4 T) then K.f fn R (k.args.toList.map ev++cap) of nx kk else none
  | .y id=>K.y id R (k.args.toList.map ev) of nx kk
  | _=>none
 | .builtin .len=>match k.argTypes.toList,k.args.toList with
  | [t],[x]=>B8E T of t (ev x) fun p=>kk (.pv nx p.1 p.2)
  | _,_=>none
 | .builtin .append=>match k.argTypes.toList,k.args.toList with
  | [t,xt],[x,y]=>bif A1q T xt (ev y) then A9z T of nx t (ev x) (ev y) fun o=>B0T nx o kk else bif isQ T (ev x) then ob (A0m nx (A4m T nx t xt (ev x) (ev y))) kk else none
  | _,_=>none
 | .builtin .copy=>match k.argTypes.toList,k.args.toList with
  | [t,xt],[x,y]=>B8z T of t xt (ev x) (ev y) fun p=>kk ⟨p.1,p.2.1,p.2.2,nx⟩
  | _,_=>none
 | _=>ob (X1 T (.no fun _ _ _ _=>none) ev of nx k) kk
theorem B8H {K:KC} (hK:K.nat) (ev:Operand→A) (of:Nat→Option Ob) (nx:Nat) (k:Call) (kk:J8→Option R):B8G T K ev of nx k kk=ob (X1 T K.dir ev of nx k) kk:=by
 unfold B8G
 split
 ·rename_i f hk
  simp only [X1,hk]
  cases ev f with
  | f fn cap =>
   simp only
   cases bdP cap with
   | some p=>exact hK.f fn R _ of nx kk
   | none =>
   simp only [M4]
   cases cap.all (U4 T)
   ·rfl
   ·simp only [cond_true];exact hK.f fn R _ of nx kk
  | y id=>exact hK.y id R _ of nx kk
  | _=>rfl
 ·rename_i hk
  simp only [X1,hk]
  split
  ·rename_i t x h1 h2
   rw [h1,h2]
   simp only [B8F]
   cases A6i T of t (ev x)<;>rfl
  ·rename_i hne
   split
   ·rename_i t x h1 h2;exact absurd h2 (hne _ _ h1)
   ·rfl
 ·rename_i hk
  simp only [X1,hk]
  split
  ·rename_i t xt x y h1 h2
   rw [h1,h2]
   simp only [B2A,B0U]
   cases A1q T xt (ev y)
   ·simp only [cond_false,Bool.false_eq_true,if_false]
    cases isQ T (ev x)<;>rfl
   ·simp only [cond_true,if_true]
  ·rename_i hne
   split
   ·rename_i t xt x y h1 h2;exact absurd h2 (hne _ _ _ _ h1)
   ·rfl
 ·rename_i hk
  simp only [X1,hk]
  split
  ·rename_i t xt x y h1 h2
   rw [h1,h2]
   simp only [B8A]
   cases A0h T of t xt (ev x) (ev y)<;>rfl
  ·rename_i hne
   split
   ·rename_i t xt x y h1 h2;exact absurd h2 (hne _ _ _ _ h1)
   ·rfl
 ·rename_i h1 h2 h3 h4
  have:X1 T (.no fun _ _ _ _=>none) ev of nx k=X1 T K.dir ev of nx k:=by
   unfold X1
   split
   ·rename_i f hk;exact absurd hk (h1 f)
   all_goals rfl
  rw [this]
def B3Q (T:TT) (K:KC) (ev:Operand→A) (of:Nat→Option Ob) (nx:Nat) (o:Oper) (k:J8→Option R):Option R :=
 match o.op with
 | .pick q a b=>match ev q with
  | .b t=>k (.pv nx (bif t then ev a else ev b) [])
  | _=>none
 | .binOp op t x y _=>D5t T of op t (ev x) (ev y) fun p=>k (.pv nx p.1 p.2)
 | .unOp op _ x=>unC op (ev x) fun v=>k (.pv nx v [])
 | .convert s t x=>B8x T of nx s t (ev x) fun o=>B0T nx o k
 | .sliceToArrayPointer t x=>D5v T of t (ev x) fun p=>k ⟨p.1,p.2.1,p.2.2,nx⟩
 | .makeSlice t l c=>A3s T nx t (ev l) (ev c) k
 | .lookup t m c okk=>B2E T (B7B o.pos) nx of t (ev m) (ev c) okk fun o=>B0T nx o k
 | .mapUpdate t m c v=>B3P T of nx t (ev m) (ev c) (ev v) k
 | .insert t m c v=>B3P T of nx t (ev m) (ev c) (ev v) k
 | .slice t x lo hi mx=>B2B T of t (ev x) (lo.map ev) (hi.map ev) (mx.map ev) fun p=>k ⟨p.1,p.2.1,p.2.2,nx⟩
 | .indexAddr t x ix=>match ev ix with
  | .i _ i=>A3r T of t i (ev x) fun p=>k (.pv nx p.1 p.2)
  | _=>none
 | .index t x ix=>match ev ix with
  | .i _ i=>B2z T t i (ev x) fun v=>k (.pv nx v [])
  | _=>none
 | .call c=>B8G T K ev of nx c k
 | _=>ob (K6 T (.no fun _ _ _ _=>none) ev of nx o) k
theorem B8I {nx:Nat} (o:Option (A×List Nat)) (k:J8→Option R):ob (pvR nx o) k=ob o fun p=>k (.pv nx p.1 p.2):=by cases o<;>rfl
theorem B8J {nx:Nat} (o:Option A) (k:J8→Option R):ob (pvO nx o) k=ob o fun v=>k (.pv nx v []):=by cases o<;>rfl
theorem D5w {nx:Nat} (o:Option (A×List (Nat×Ob)×List Nat)) (k:J8→Option R):ob (pvW nx o) k=ob o fun p=>k ⟨p.1,p.2.1,p.2.2,nx⟩:=by cases o<;>rfl
theorem B0V {K:KC} (hK:K.nat) (ev:Operand→A) (of:Nat→Option Ob) (nx:Nat) (o:Oper) (k:J8→Option R):B3Q T K ev of nx o k=ob (K6 T K.dir ev of nx o) k:=by
 obtain ⟨dst,op,ty,pos,after,guard⟩:=o
 cases op<;>simp only [B3Q,K6,C1G,D5u,B8y,C1J,A6V,B5o,B8D,B5l,B8I,B8J,D5w,B0U,B8H hK]
 case pick q a b=>cases ev q<;>rfl
 case indexAddr t x ix=>cases ev ix<;>simp only [A6U,B8I]<;>rfl
 case index t x ix=>cases ev ix<;>simp only [B5k,B8J]<;>rfl
def D5x (T:TT) (K:KC) (ops:Array Oper) (sl:Nat→A) (of:Nat→Option Ob) (nx:Nat) (o:Oper) (k:J7→Option R):Option R :=
 match o.guard with
 | none=>B3Q T K (M3 sl) of nx o fun out=>bif Nat.ble nx out.nx then k (.mk1 o (o.looksAt ops) nx out) else none
 | some (g,want)=>match (ops[g]?).bind (·.dst) with
  | some d=>match sl d with
   | .t _=>k (.skip o (o.looksAt ops) nx)
   | .b q=>bif (bif want then q else !q) then (B3Q T K (M3 sl) of nx o fun out=>bif Nat.ble nx out.nx then k (.mk1 o (o.looksAt ops) nx out) else none) else k (.skip o (o.looksAt ops) nx)
   | _=>none
  | none=>none
theorem C1K {K:KC} (hK:K.nat) (ops:Array Oper) (sl:Nat→A) (of:Nat→Option Ob) (nx:Nat) (o:Oper) (k:J7→Option R):D5x T K ops sl of nx o k=ob (V7 T K.dir ops sl of nx o) k:=by
 have go:ob (K6 T K.dir (M3 sl) of nx o) (fun out=>bif Nat.ble nx out.nx then k (.mk1 o (o.looksAt ops) nx out) else none)=ob (match K6 T K.dir (M3 sl) of nx o with
   | some out=>if Nat.ble nx out.nx=true then some (J7.mk1 o (o.looksAt ops) nx out) else none
   | none=>none) k:=by
  cases K6 T K.dir (M3 sl) of nx o with
  | none=>rfl
  | some out=>simp only [ob];cases Nat.ble nx out.nx<;>rfl
 unfold D5x V7
 cases o.guard with
 | none=>simp only [B0V hK];exact go
 | some p =>
  obtain ⟨g,want⟩:=p
  simp only
  cases (ops[g]?).bind (·.dst) with
  | none=>rfl
  | some d =>
   simp only
   cases sl d with
   | t _=>rfl
   | b q =>
    simp only [B0V hK,go]
    cases q<;>cases want<;>rfl
   | _=>rfl
def E0V {α:Type} (a:A) (k:A→α):α :=
 match a with
 | .b q=>match q with
  | true=>k (.b true)
  | false=>k (.b false)
 | a=>k a
theorem C1L {α:Type} (a:A) (k:A→α):E0V a k=k a:=by
 cases a with
 | b q=>cases q<;>rfl
 | _=>rfl
def E0W (fl:Bool) (a:A) (k:A→Option R):Option R :=
 match fl with
 | true=>C9I a k
 | false=>E0V a k
theorem C1M (fl:Bool) (a:A) (k:A→Option R):E0W fl a k=k a:=by
 cases fl
 ·exact C1L a k
 ·exact B2L a k
def ob2 {α β:Type} (o:Option (α×β)) (k:α→β→Option R):Option R :=
 match o with
 | some p=>k p.1 p.2
 | none=>none
def B5p (T:TT) (K:KC) (fl:Bool) (ops:Array Oper) (of:Nat→Option Ob):List Oper→St→(List J7→St→Option R)→Option R
 | [],σ,k=>k [] σ
 | o::r,σ,k=>D5x T K ops (C4 σ.sl) (B2 σ.ob of) σ.nx o fun E=>E0W fl E.val fun v=>A12 E.hi fun h=>C9J (W6 σ.ob E.ro σ.rd) fun rd =>
   B5p T K fl ops of r { sl:=match E.dst with | some d=>(d,v)::σ.sl | none=>σ.sl,ob:=Z6 σ.ob E.wo,rd:=rd,nx:=h,mks:=σ.mks } fun Es σ'=>k ({ E with val:=v,hi:=h }::Es) σ'
theorem B3R {K:KC} (hK:K.nat) (fl:Bool) (ops:Array Oper) (of:Nat→Option Ob):∀ (l:List Oper) (σ:St) (k:List J7→St→Option R),B5p T K fl ops of l σ k=ob2 (F0 T K.dir ops of l σ) k:=by
 intro l
 induction l with
 | nil=>intro σ k;rfl
 | cons o r ih =>
  intro σ k
  rw [Y7]
  simp only [B5p,C1K hK,C1M,M7,B2M,ih]
  cases V7 T K.dir ops (C4 σ.sl) (B2 σ.ob of) σ.nx o with
  | none=>rfl
  | some E =>
   simp only [ob,St.app]
   cases F0 T K.dir ops of r _ with
   | none=>rfl
   | some p=>rfl
abbrev LC:=Code→Option ((R:Type)→(Nat→Option Ob)→St→(Exit→St→Option R)→Option R)
def A5l (ks:List Nat) (f:St→(Exit→St→Option R)→Option R):Nat→St→(Exit→St→Option R)→Option R
 | 0,_,_=>none
 | n+1,σ,k=>f (σ.tidy ks) fun ex σ1=>match ex with
  | .normal=>A5l ks f n σ1 k
  | ex=>k ex σ1
def B2F (T:TT) (K:KC) (nt:Nat) (of:Nat→Option Ob) (R:Type) (g:Operand) (ps:Array Nat) (asg body:Code) (σ:St) (k:Exit→St→Option R):Option R :=
 match σ.mks with
 | some l=>match M3 (C4 σ.sl) g with
  | .f f cap=>bif K.ord f&&cap.all (U4 T) then
    (fun (ob1:Tr)=>K.f f R (.y (σ.nx+1)::cap) (B2 ob1 of) (σ.nx+2) fun out=>bif Nat.ble (σ.nx+2) out.nx then
     (fun (ob2:Tr)=>match ob2.get (σ.nx+1) with
     | some (.lp (some r))=>(match A8A r.st with
      | true=>(match A9I r.pend with
       | some ex=>k ex ⟨σ.sl,ob2.set (σ.nx+1) (.lp (some { r with st:=.exhausted })),W6 ob1 out.ro σ.rd,out.nx,some (σ.nx::l)⟩
       | none=>none)
      | false=>none)
     | _=>none) (Z6 ob1 out.wo) else none) ((σ.ob.set σ.nx (.lp none)).set (σ.nx+1) (.lp (some ⟨nt,A4N σ.sl (A2V σ.sl []),ps,asg,body,.ready,none⟩)))
   else none
  | _=>none
 | none=>none
theorem B5q {K:KC} (hK:K.nat) {nt:Nat} {of:Nat→Option Ob} {R:Type} {g:Operand} {ps:Array Nat} {asg body:Code} {σ:St} {k:Exit→St→Option R}:B2F T K nt of R g ps asg body σ k=ob2 (A37 T K.dir nt of g ps asg body σ) k:=by
 unfold B2F A37
 cases σ.mks with
 | none=>rfl
 | some l =>
  simp only
  cases M3 (C4 σ.sl) g with
  | f f cap =>
   simp only
   show (bif K.ord f&&cap.all (U4 T) then _ else _)=ob2 (if (K.ord f&&cap.all (U4 T))=true then _ else _) k
   cases (K.ord f&&cap.all (U4 T))
   ·rfl
   ·simp only [cond_true,if_true]
    generalize (σ.ob.set σ.nx (.lp none)).set (σ.nx+1) (.lp (some ⟨nt,A4N σ.sl (A2V σ.sl []),ps,asg,body,.ready,none⟩))=ob1
    rw [hK.f f]
    show ob ((K.f f).dir _ _ _) _=ob2 (match (K.f f).dir _ _ _ with | some out=>_ | none=>none) k
    cases (K.f f).dir (.y (σ.nx+1)::cap) (B2 ob1 of) (σ.nx+2) with
    | none=>rfl
    | some out =>
     simp only [ob]
     cases Nat.ble (σ.nx+2) out.nx
     ·rfl
     ·simp only [cond_true,if_true]
      cases (Z6 ob1 out.wo).get (σ.nx+1) with
      | none=>rfl
      | some o =>
       cases o with
       | lp q =>
        cases q with
        | none=>rfl
        | some r =>
         simp only
         cases A8A r.st
         ·rfl
         ·simp only
          cases A9I r.pend<;>rfl
       | _=>rfl
  | _=>rfl
def T5 (T:TT) (K:KC) (Lo:LC) (fl:Bool) (fu nt:Nat) (of:Nat→Option Ob) (R:Type):Code→St→(Exit→St→Option R)→Option R
 | .skip,σ,k=>k .normal σ
 | .ret,σ,k=>k .ret σ
 | .exit id,σ,k=>k (.exit id) σ
 | .region _ ops draw,σ,k =>
  match draw with
  | false=>bif ops.toList.all (V1 nt) then B5p T K fl ops of ops.toList σ fun _ σ'=>k .normal σ' else none
  | true=>bif A2U nt ops then (B5p T K fl ops of ops.toList σ fun Es σ'=>bif A1A (Q5 ops.toList []) Es 0 Es then k .normal σ' else
    B5p T K fl ops of ops.toList (σ.pre of (B3Z (B2 σ.ob of) Es)) fun Es2 σ2=>bif A1A (Q5 ops.toList []) Es2 0 Es2 then k .normal σ2 else none) else none
 | .seq x y,σ,k=>T5 T K Lo fl fu nt of R x σ fun ex σ1=>match ex with
  | .normal=>T5 T K Lo fl fu nt of R y σ1 k
  | ex=>k ex σ1
 | .cond q x y,σ,k=>match M3 (C4 σ.sl) q with
  | .b t=>bif t then T5 T K Lo fl fu nt of R x σ k else T5 T K Lo fl fu nt of R y σ k
  | _=>none
 | .block id body,σ,k=>T5 T K Lo fl fu nt of R body σ fun ex σ'=>match ex with
  | .exit id'=>k (bif Nat.beq id' id then .normal else .exit id') σ'
  | ex=>k ex σ'
 | .loop body,σ,k=>match Lo body with
  | some s=>s R of σ k
  | none=>A5l (A2V σ.sl []) (fun σ k=>T5 T K Lo fl fu nt of R body σ k) fu σ k
 | .rangeFunc g ps asg body,σ,k=>B2F T K nt of R g ps asg body σ k
 | _,_,_=>none
abbrev LS:=(R:Type)→(Nat→Option Ob)→St→(Exit→St→Option R)→Option R
def LS.nat (s:LS):Prop:=∀ (R:Type) (of:Nat→Option Ob) (σ:St) (k:Exit→St→Option R),s R of σ k=ob2 (s (Exit×St) of σ fun ex σ=>some (ex,σ)) k
def LS.dir (s:LS) (of:Nat→Option Ob) (σ:St):Option (Exit×St):=s (Exit×St) of σ fun ex σ=>some (ex,σ)
def X0 (Lo:LC):A36:=fun b=>match Lo b with
 | some s=>some (LS.dir s)
 | none=>none
def A2r (Lo:LC):Prop:=∀ b s,Lo b=some s→LS.nat s
theorem F5:A2r (fun _=>none):=fun b s h=>by cases h
theorem B2G {ks:List Nat} {f:St→(Exit→St→Option R)→Option R} {g:St→Option (Exit×St)} (h:∀ σ k,f σ k=ob2 (g σ) k):∀ (n:Nat) (σ:St) (k:Exit→St→Option R),A5l ks f n σ k=ob2 (A16 ks g n σ) k:=by
 intro n
 induction n with
 | zero=>intro σ k;rfl
 | succ n ih =>
  intro σ k
  simp only [A5l,A16,h]
  cases hg:g (σ.tidy ks) with
  | none=>rfl
  | some p =>
   obtain ⟨ex,σ1⟩:=p
   simp only [ob2]
   cases ex with
   | normal=>exact ih σ1 k
   | _=>rfl
theorem A2s {K:KC} (hK:K.nat) {Lo:LC} (hLo:A2r Lo) {fl:Bool} {fu nt:Nat} (of:Nat→Option Ob) (R:Type):∀ (c:Code) (σ:St) (k:Exit→St→Option R),T5 T K Lo fl fu nt of R c σ k=ob2 (G9 T K.dir (X0 Lo) fu nt of c σ) k:=by
 intro c
 induction c with
 | skip=>intro σ k;rfl
 | ret=>intro σ k;rfl
 | exit id=>intro σ k;rfl
 | region id ops draw =>
  intro σ k
  cases draw with
  | false =>
   simp only [T5,G9,B3R hK]
   cases ops.toList.all (V1 nt)
   ·rfl
   ·simp only [cond_true,if_true]
    cases F0 T K.dir ops of ops.toList σ<;>rfl
  | true =>
   simp only [T5,G9,B3R hK]
   cases A2U nt ops
   ·rfl
   ·simp only [cond_true,if_true]
    cases F0 T K.dir ops of ops.toList σ with
    | none=>rfl
    | some p =>
     obtain ⟨Es,σ'⟩:=p
     simp only [ob2]
     cases A1A (Q5 ops.toList []) Es 0 Es
     ·simp only [cond_false,Bool.false_eq_true,if_false]
      cases F0 T K.dir ops of ops.toList (σ.pre of (B3Z (B2 σ.ob of) Es)) with
      | none=>rfl
      | some p2 =>
       obtain ⟨Es2,σ2⟩:=p2
       simp only
       cases A1A (Q5 ops.toList []) Es2 0 Es2<;>rfl
     ·rfl
 | seq x y ihx ihy =>
  intro σ k
  simp only [T5,G9]
  rw [ihx]
  cases G9 T K.dir (X0 Lo) fu nt of x σ with
  | none=>rfl
  | some p =>
   obtain ⟨ex,σ1⟩:=p
   simp only [ob2]
   cases ex with
   | normal=>exact ihy σ1 k
   | _=>rfl
 | cond q x y ihx ihy =>
  intro σ k
  simp only [T5,G9]
  cases M3 (C4 σ.sl) q with
  | b t=>cases t
         ·exact ihy σ k
         ·exact ihx σ k
  | _=>rfl
 | block id body ih =>
  intro σ k
  simp only [T5,G9]
  rw [ih]
  cases G9 T K.dir (X0 Lo) fu nt of body σ with
  | none=>rfl
  | some p =>
   obtain ⟨ex,σ1⟩:=p
   simp only [ob2]
   cases ex with
   | exit id'=>simp only;cases Nat.beq id' id<;>rfl
   | _=>rfl
 | loop body ih =>
  intro σ k
  simp only [T5,G9]
  cases hb:Lo body with
  | none =>
   simp only [X0,hb]
   exact B2G (fun σ k=>ih σ k) fu σ k
  | some s =>
   simp only [X0,hb]
   exact hLo body s hb R of σ k
 | rangeFunc g ps asg body _ _ =>
  intro σ k
  simp only [T5,G9]
  exact B5q hK
 | _=>intro σ k;rfl
def W7 (P:Program) (T:TT) (K:KC) (Lo:Nat→LC) (fl:Bool) (fu f:Nat):H6:=fun R args of nx k =>
 match P.funcs[f]? with
 | some fn=>match fn.body with
  | some code=>bif !(fn.name == "runtime.NumGoroutine")&&Nat.ble args.length fn.ntmps then
    T5 T K (Lo nx) fl fu fn.ntmps of R code ⟨A1B 0 args,.e,[],nx,some []⟩ fun ex σ=>bif A6z ex then
     (match σ.mks with
     | some ms=>bif A39 nx σ.nx σ.ob.get ms then
      (match A13 T (C4 σ.sl) (B2 σ.ob of) fn.results.toList with
      | some p=>k (A0e ms (A0i nx p.1 σ p.2))
      | none=>none) else none
     | none=>none) else none
    else none
  | none=>none
 | none=>none
theorem A6t {P:Program} {K:KC} (hK:K.nat) {Lo:Nat→LC} (hL:∀ n0,A2r (Lo n0)) {fl:Bool} {fu f:Nat} (R:Type) (args:List A) (of:Nat→Option Ob) (nx:Nat) (k:J8→Option R) :
  W7 P T K Lo fl fu f R args of nx k=ob (A3w P T K.dir (fun n0=>X0 (Lo n0)) fu f args of nx) k:=by
 unfold W7 A3w
 cases hf:P.funcs[f]? with
 | none=>rfl
 | some fn =>
  simp only
  cases hb:fn.body with
  | none=>rfl
  | some code =>
   simp only [M4]
   cases (!(fn.name == "runtime.NumGoroutine")&&Nat.ble args.length fn.ntmps)
   ·rfl
   ·simp only [cond_true]
    rw [A2s hK (hL nx) of R code]
    cases G9 T K.dir (X0 (Lo nx)) fu fn.ntmps of code ⟨A1B 0 args,.e,[],nx,some []⟩ with
    | none=>rfl
    | some p =>
     obtain ⟨ex,σ⟩:=p
     simp only [ob2,M4]
     cases A6z ex
     ·rfl
     ·simp only [cond_true]
      cases σ.mks with
      | none=>rfl
      | some ms =>
       simp only [M4]
       cases A39 nx σ.nx σ.ob.get ms
       ·rfl
       ·simp only [cond_true]
        cases A13 T (C4 σ.sl) (B2 σ.ob of) fn.results.toList<;>rfl
theorem A8s {P:Program} {K:KC} (hK:K.nat) {Lo:Nat→LC} (hL:∀ n0,A2r (Lo n0)) {fl:Bool} {fu f:Nat}:(W7 P T K Lo fl fu f).nat:=by
 intro R args of nx k
 rw [A6t hK hL]
 have:(W7 P T K Lo fl fu f).dir args of nx=A3w P T K.dir (fun n0=>X0 (Lo n0)) fu f args of nx:=by
  show W7 P T K Lo fl fu f J8 args of nx some=_
  rw [A6t hK hL]
  cases A3w P T K.dir (fun n0=>X0 (Lo n0)) fu f args of nx<;>rfl
 rw [this]
theorem B0W {P:Program} (hm:P.follows .mixedOrders=true) (hT:H3 T P) {K:KC} (hK:K.nat) (hS:KOK P T K.dir) {Lo:Nat→LC} (hL:∀ n0,A2r (Lo n0)) {fl:Bool} {fu f:Nat} (hO:∀ n0 fn code,P.funcs[f]? = some fn→fn.body=some code→L9 P T fn.ntmps n0 (X0 (Lo n0)) code):B5 P T f (W7 P T K Lo fl fu f).dir:=by
 have:(W7 P T K Lo fl fu f).dir=A3w P T K.dir (fun n0=>X0 (Lo n0)) fu f:=by
  funext args of nx
  show W7 P T K Lo fl fu f J8 args of nx some=_
  rw [A6t hK hL]
  cases A3w P T K.dir (fun n0=>X0 (Lo n0)) fu f args of nx<;>rfl
 rw [this]
 exact B2S hm hT hS hO
theorem A8t:X0 (fun _=>none)=fun _=>none:=rfl
def A3t (T:TT) (K:KC) (fl:Bool) (fu id:Nat):H6:=fun R args of nx k =>
 match lpE V9 (of id) with
 | some r=>bif Nat.beq args.length r.ps.size&&r.ps.toList.all (fun p=>Nat.blt p r.nt) then
   T5 T K (fun _=>none) fl fu r.nt of R r.asg ⟨A8D r.ps.toList args r.sl,.e,[id],nx,none⟩ fun ex σ1=>match ex with
    | .normal=>(match lpE V9 (B2 σ1.ob of id) with
     | some r1=>T5 T K (fun _=>none) fl fu r.nt of R r.body (setLp σ1 id { r1 with st:=.busy }) fun ex2 σ2=>ob (B8U id nx of (some (ex2,σ2))) k
     | none=>none)
    | _=>none
   else none
 | none=>none
theorem A8u {K:KC} (hK:K.nat) {fl:Bool} {fu id:Nat} (R:Type) (args:List A) (of:Nat→Option Ob) (nx:Nat) (k:J8→Option R):A3t T K fl fu id R args of nx k=ob (A0A T K.dir fu id args of nx) k:=by
 unfold A3t A0A
 cases lpE V9 (of id) with
 | none=>rfl
 | some r =>
  simp only [M4]
  cases (Nat.beq args.length r.ps.size&&r.ps.toList.all (fun p=>Nat.blt p r.nt))
  ·rfl
  ·simp only [cond_true]
   rw [A2s hK F5 of R r.asg,A8t]
   cases G9 T K.dir (fun _=>none) fu r.nt of r.asg ⟨A8D r.ps.toList args r.sl,.e,[id],nx,none⟩ with
   | none=>rfl
   | some p =>
    obtain ⟨ex,σ1⟩:=p
    simp only [ob2]
    cases ex with
    | normal =>
     simp only
     cases lpE V9 (B2 σ1.ob of id) with
     | none=>rfl
     | some r1 =>
      simp only
      rw [A2s hK F5 of R r.body,A8t]
      cases G9 T K.dir (fun _=>none) fu r.nt of r.body (setLp σ1 id { r1 with st:=.busy }) with
      | none=>rfl
      | some p2=>rfl
    | _=>rfl
theorem A6u {K:KC} (hK:K.nat) {fl:Bool} {fu id:Nat}:(A3t T K fl fu id).dir=A0A T K.dir fu id:=by
 funext args of nx
 show A3t T K fl fu id J8 args of nx some=_
 rw [A8u hK]
 cases A0A T K.dir fu id args of nx<;>rfl
theorem B2H {K:KC} (hK:K.nat) {fl:Bool} {fu id:Nat}:(A3t T K fl fu id).nat:=by
 intro R args of nx k
 rw [A6u hK,A8u hK]
end Go.Vm
end