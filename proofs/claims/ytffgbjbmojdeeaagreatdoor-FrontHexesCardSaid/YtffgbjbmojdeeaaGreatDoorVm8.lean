/- What the operations of a program do, shown once for all programs; and numbers. -/
import Derived.Test.YtffgbjbmojdeeaaGreatDoorVm7
import Derived.Test.YtffgbjbmojdeeaaGreatDoorVm6
set_option linter.constructorNameAsVariable false
set_option linter.unusedVariables false
set_option linter.unusedSimpArgs false
set_option linter.unnecessarySimpa false
noncomputable section
namespace Go.Vm
open Go.RowKit
variable {P:Program} {T:TT} {c:F1} {e eb:A8} {of of':Nat→Option Ob}
def B1p {α:Type} (n:Nat):(Nat→α)→α:=@Nat.rec (fun _=>(Nat→α)→α) (fun k=>k 0) (fun m _ k=>k (Nat.succ m)) n
theorem A6r {α:Type} (n:Nat) (k:Nat→α):B1p n k=k n:=by cases n<;>rfl
def C0C {α:Type} (i:Int):(Int→α)→α:=@Int.rec (fun _=>(Int→α)→α) (fun n k=>B1p n fun n=>k (.ofNat n)) (fun n k=>B1p n fun n=>k (.negSucc n)) i
theorem B5M {α:Type} (i:Int) (k:Int→α):C0C i k=k i:=by
 cases i with
 | ofNat n=>exact A6r n fun n=>k (.ofNat n)
 | negSucc n=>exact A6r n fun n=>k (.negSucc n)
def B5N {α:Type} (a:A):(A→α)→α :=
 @A.rec (fun _=>(A→α)→α) (fun _=>Unit)
  (fun kd n k=>C0C n fun n=>k (.i kd n)) (fun q k=>@Bool.rec (fun _=>(A→α)→α) (fun k=>k (.b false)) (fun k=>k (.b true)) q k) (fun l k=>k (.s l)) (fun v k=>k (.z v)) (fun t x k=>k (.v t x)) (fun id t p k=>k (.p id t p))
  (fun id v i t p k=>k (.e id v i t p)) (fun t x k=>k (.c t x)) (fun t x k=>k (.q t x)) (fun id v k=>k (.o id v)) (fun id v o n k=>k (.w id v o n)) (fun id t p l m k=>k (.a id t p l m)) (fun id k=>k (.m id)) (fun id k=>k (.y id))
  (fun f c _ k=>k (.f f c)) (fun t l _ k=>k (.g t l)) (fun l _ k=>k (.t l)) (fun k=>k .x) () (fun _ _ _ _=>()) a
theorem B5O {α:Type} (a:A) (k:A→α):B5N a k=k a:=by
 cases a with
 | i kd n=>exact B5M n fun n=>k (.i kd n)
 | b q=>cases q<;>rfl
 | _=>rfl
def B5P {α β:Type} (l:List β):(List β→α)→α:=@List.rec β (fun _=>(List β→α)→α) (fun k=>k []) (fun a r _ k=>k (a::r)) l
theorem B5Q {α β:Type} (l:List β) (k:List β→α):B5P l k=k l:=by cases l<;>rfl
def onO {α β:Type} (q:Option α):(α→Option β)→Option β:=@Option.rec α (fun _=>(α→Option β)→Option β) (fun _=>none) (fun a k=>k a) q
theorem A2N {α β:Type} (q:Option α) (k:α→Option β):onO q k=match q with
  | some a=>k a
  | none=>none:=by cases q<;>rfl
def A8W (ob:Tr) (l:List Nat):List Nat→List Nat :=
 @List.rec Nat (fun _=>List Nat→List Nat) (fun rd=>rd) (fun id _ ih rd=>@Option.rec Ob (fun _=>List Nat) (@Bool.rec (fun _=>List Nat) (ih (id::rd)) (ih rd) (mem id rd)) (fun _=>ih rd) (ob.get id)) l
theorem B5R (ob:Tr):∀ (l rd:List Nat),A8W ob l rd=Y0 ob l rd:=by
 intro l
 induction l with
 | nil=>intro rd;rfl
 | cons id r ih =>
  intro rd
  show @Option.rec Ob (fun _=>List Nat) (@Bool.rec (fun _=>List Nat) (A8W ob r (id::rd)) (A8W ob r rd) (mem id rd)) (fun _=>A8W ob r rd) (ob.get id)=_
  rw [ih,ih]
  simp only [Y0]
  cases ob.get id with
  | none=>cases mem id rd<;>rfl
  | some o=>rfl
def B5S (l:List (Nat×Ob)):Tr→Tr:=@List.rec (Nat×Ob) (fun _=>Tr→Tr) (fun t=>t) (fun p _ ih t=>ih (t.set p.1 p.2)) l
theorem B5T:∀ (l:List (Nat×Ob)) (t:Tr),B5S l t=A0b t l:=by
 intro l
 induction l with
 | nil=>intro t;rfl
 | cons p r ih=>intro t;exact ih _
def leQ (a b:Int):Bool :=
 @Int.rec (fun _=>Int→Bool) (fun n b=>@Int.rec (fun _=>Nat→Bool) (fun m n=>Nat.ble n m) (fun _ _=>false) b n) (fun n b=>@Int.rec (fun _=>Nat→Bool) (fun _ _=>true) (fun m n=>Nat.ble m n) b n) a b
theorem A8X (a b:Int):leQ a b=J1 a b:=by
 rw [Bool.eq_iff_iff,K9]
 cases a<;>cases b<;>simp only [leQ,Nat.ble_eq,Int.ofNat_eq_natCast,Bool.false_eq_true,false_iff,true_iff]<;>omega
def ltQ (a b:Int):Bool :=
 @Int.rec (fun _=>Int→Bool) (fun n b=>@Int.rec (fun _=>Nat→Bool) (fun m n=>Nat.blt n m) (fun _ _=>false) b n) (fun n b=>@Int.rec (fun _=>Nat→Bool) (fun _ _=>true) (fun m n=>Nat.blt m n) b n) a b
theorem B3i (a b:Int):ltQ a b=E8 a b:=by
 rw [Bool.eq_iff_iff,H0]
 cases a<;>cases b<;>simp only [ltQ,Nat.blt_eq,Int.ofNat_eq_natCast,Bool.false_eq_true,false_iff,true_iff]<;>omega
def eqQ (a b:Int):Bool :=
 @Int.rec (fun _=>Int→Bool) (fun n b=>@Int.rec (fun _=>Nat→Bool) (fun m n=>Nat.beq n m) (fun _ _=>false) b n) (fun n b=>@Int.rec (fun _=>Nat→Bool) (fun _ _=>false) (fun m n=>Nat.beq n m) b n) a b
theorem B3j (a b:Int):eqQ a b=ieq a b:=by cases a<;>cases b<;>rfl
def A2i (sg:Bool) (p h:Nat) (n:Int):Int :=
 (fun m=>@Bool.rec (fun _=>Nat→Int) (fun m=>.ofNat m) (fun m=>@Bool.rec (fun _=>Nat→Int) (fun m=>.negSucc (p - m - 1)) (fun m=>.ofNat m) (Nat.blt m h) m) sg m)
  (@Int.rec (fun _=>Nat) (fun m=>m % p) (fun m=>p - 1 - m % p) n)
theorem M4 (k:IntKind) (n:Int) (sg:Bool) (p h:Nat) (hs:k.signed=sg) (hp:(2:Int) ^ k.bits=(p:Int)) (hh:(2:Int) ^ (k.bits - 1)=(h:Int)) (h0:0 < p):A2i sg p h n=k.wrap n:=by
 have hm:∀ m:Nat,m < p→(n % (p:Int)=(m:Int))→(@Bool.rec (fun _=>Nat→Int) (fun m=>.ofNat m) (fun m=>@Bool.rec (fun _=>Nat→Int) (fun m=>.negSucc (p - m - 1)) (fun m=>.ofNat m) (Nat.blt m h) m) sg m:Int)=k.wrap n:=fun m hlt hmod=>by
  unfold IntKind.wrap
  simp only [hs,hp,hh,hmod]
  cases sg with
  | false=>simp
  | true =>
   show (@Bool.rec (fun _=>Nat→Int) (fun m=>.negSucc (p - m - 1)) (fun m=>.ofNat m) (Nat.blt m h) m:Int)=_
   cases hb:Nat.blt m h with
   | true =>
    have:m < h:=by simpa [Nat.blt_eq] using hb
    have h2:¬ ((m:Int) ≥ (h:Int)):=by omega
    simp [h2]
   | false =>
    have:¬ m < h:=by intro q;rw [show Nat.blt m h=true by simpa [Nat.blt_eq] using q] at hb;cases hb
    have h2:(m:Int) ≥ (h:Int):=by omega
    simp only [h2,decide_true,Bool.and_self,if_true,Bool.true_and,ge_iff_le]
    show Int.negSucc (p - m - 1)=_
    rw [Int.negSucc_eq]
    omega
 cases n with
 | ofNat m =>
  refine hm (m % p) (Nat.mod_lt _ h0) ?_
  show ((m:Int) % (p:Int))=_
  omega
 | negSucc m =>
  refine hm (p - 1 - m % p) (by have:=Nat.mod_lt m h0;omega) ?_
  rw [Int.negSucc_emod _ (by omega)]
  have:=Nat.mod_lt m h0
  omega
structure WrR where
 run:Int→Int
def wrR:IntKind→WrR
 | .i8=>⟨fun n=>A2i true 256 128 n⟩
 | .i16=>⟨fun n=>A2i true 65536 32768 n⟩
 | .i32=>⟨fun n=>A2i true 4294967296 2147483648 n⟩
 | .i64=>⟨fun n=>A2i true 18446744073709551616 9223372036854775808 n⟩
 | .u8=>⟨fun n=>A2i false 256 128 n⟩
 | .u16=>⟨fun n=>A2i false 65536 32768 n⟩
 | .u32=>⟨fun n=>A2i false 4294967296 2147483648 n⟩
 | .u64=>⟨fun n=>A2i false 18446744073709551616 9223372036854775808 n⟩
theorem B3k (k:IntKind) (n:Int):(wrR k).run n=k.wrap n:=by
 cases k with
 | i8=>exact M4 .i8 n true 256 128 rfl rfl rfl (by decide)
 | i16=>exact M4 .i16 n true 65536 32768 rfl rfl rfl (by decide)
 | i32=>exact M4 .i32 n true 4294967296 2147483648 rfl rfl rfl (by decide)
 | i64=>exact M4 .i64 n true 18446744073709551616 9223372036854775808 rfl rfl rfl (by decide)
 | u8=>exact M4 .u8 n false 256 128 rfl rfl rfl (by decide)
 | u16=>exact M4 .u16 n false 65536 32768 rfl rfl rfl (by decide)
 | u32=>exact M4 .u32 n false 4294967296 2147483648 rfl rfl rfl (by decide)
 | u64=>exact M4 .u64 n false 18446744073709551616 9223372036854775808 rfl rfl rfl (by decide)
structure IbR where
 run:IntKind→Int→Int→Option A
def B5U:BinOp→IbR
 | .add=>⟨fun k a b=>some (.i k ((wrR k).run (a+b)))⟩
 | .sub=>⟨fun k a b=>some (.i k ((wrR k).run (a - b)))⟩
 | .mul=>⟨fun k a b=>some (.i k ((wrR k).run (a * b)))⟩
 | .quo=>⟨fun k a b=>bif eqQ b 0 then none else some (.i k ((wrR k).run (a.tdiv b)))⟩
 | .rem=>⟨fun k a b=>bif eqQ b 0 then none else some (.i k (a.tmod b))⟩
 | .shl=>⟨fun k a b=>bif leQ 0 b then some (.i k ((wrR k).run (a * 2 ^ min b.toNat k.bits))) else none⟩
 | .shr=>⟨fun k a b=>bif leQ 0 b then some (.i k (a.fdiv (2 ^ min b.toNat k.bits))) else none⟩
 | .eql=>⟨fun k a b=>some (.b (eqQ a b))⟩
 | .neq=>⟨fun k a b=>some (.b (!eqQ a b))⟩
 | .lss=>⟨fun k a b=>some (.b (ltQ a b))⟩
 | .leq=>⟨fun k a b=>some (.b (leQ a b))⟩
 | .gtr=>⟨fun k a b=>some (.b (ltQ b a))⟩
 | .geq=>⟨fun k a b=>some (.b (leQ b a))⟩
 | .and=>⟨fun k a b=>A1K .and k a b⟩
 | .or=>⟨fun k a b=>A1K .or k a b⟩
 | .xor=>⟨fun k a b=>A1K .xor k a b⟩
 | .andNot=>⟨fun k a b=>A1K .andNot k a b⟩
theorem B5V (op:BinOp) (k:IntKind) (a b:Int):(B5U op).run k a b=A1K op k a b:=by
 cases op<;>simp only [B5U,A1K,B3k,A8X,B3i,B3j]
 case quo=>cases ieq b 0<;>rfl
 case rem=>cases ieq b 0<;>rfl
 case shl=>cases J1 0 b<;>rfl
 case shr=>cases J1 0 b<;>rfl
structure OpR where
 run:KS→(Nat→A)→(Nat→Option Ob)→Nat→Option M8
structure OdR where
 get:(Nat→A)→A
def V5:Operand→OdR
 | .tmp t=>⟨fun sl=>sl t⟩
 | .const v=>⟨fun _=>A6P v⟩
 | .func f=>⟨fun _=>.f f []⟩
 | .global _=>⟨fun _=>.x⟩
theorem L4 (x:Operand) (sl:Nat→A):(V5 x).get sl=J9 sl x:=by cases x<;>rfl
structure OlR where
 get:(Nat→A)→List A
def olR:List Operand→OlR
 | []=>⟨fun _=>[]⟩
 | x::r=>⟨fun sl=>(V5 x).get sl::(olR r).get sl⟩
theorem A8Y (l:List Operand) (sl:Nat→A):(olR l).get sl=l.map (J9 sl):=by
 induction l with
 | nil=>rfl
 | cons x r ih=>simp only [olR,List.map_cons,L4,ih]
structure C25 where
 get:(Nat→A)→List (Nat×A)
def A1T:List (Nat×Operand)→C25
 | []=>⟨fun _=>[]⟩
 | x::r=>⟨fun sl=>(x.1,(V5 x.2).get sl)::(A1T r).get sl⟩
theorem B1q (l:List (Nat×Operand)) (sl:Nat→A):(A1T l).get sl=A12 (J9 sl) l:=by
 induction l with
 | nil=>rfl
 | cons x r ih=>simp only [A1T,L4,ih];rfl
structure OoR where
 get:(Nat→A)→Option A
def ooR:Option Operand→OoR
 | none=>⟨fun _=>none⟩
 | some x=>⟨fun sl=>some ((V5 x).get sl)⟩
theorem B8O (o:Option Operand) (sl:Nat→A):(ooR o).get sl=o.map (J9 sl):=by
 cases o with
 | none=>rfl
 | some x=>simp only [ooR,L4,Option.map_some]
def C26 {R:Type} (a:A):(Nat→List A→R)→(Nat→R)→R→R :=
 @A.rec (fun _=>(Nat→List A→R)→(Nat→R)→R→R) (fun _=>Unit)
  (fun _ _ _ _ d=>d) (fun _ _ _ d=>d) (fun _ _ _ d=>d) (fun _ _ _ d=>d) (fun _ _ _ _ d=>d) (fun _ _ _ _ _ d=>d) (fun _ _ _ _ _ _ _ d=>d) (fun _ _ _ _ d=>d) (fun _ _ _ _ d=>d)
  (fun _ _ _ _ d=>d) (fun _ _ _ _ _ _ d=>d) (fun _ _ _ _ _ _ _ d=>d) (fun _ _ _ d=>d) (fun id _ y _=>y id) (fun fn cap _ f _ _=>f fn cap) (fun _ _ _ _ _ d=>d) (fun _ _ _ _ d=>d) (fun _ _ d=>d) () (fun _ _ _ _=>()) a
def A8Z {R:Type} (a:A):(IntKind→Int→R)→R→R :=
 @A.rec (fun _=>(IntKind→Int→R)→R→R) (fun _=>Unit)
  (fun k n f _=>f k n) (fun _ _ d=>d) (fun _ _ d=>d) (fun _ _ d=>d) (fun _ _ _ d=>d) (fun _ _ _ _ d=>d) (fun _ _ _ _ _ _ d=>d) (fun _ _ _ d=>d) (fun _ _ _ d=>d)
  (fun _ _ _ d=>d) (fun _ _ _ _ _ d=>d) (fun _ _ _ _ _ _ d=>d) (fun _ _ d=>d) (fun _ _ d=>d) (fun _ _ _ _ d=>d) (fun _ _ _ _ d=>d) (fun _ _ _ d=>d) (fun _ d=>d) () (fun _ _ _ _=>()) a
def B3l {R:Type} (a:A):(Nat→Nat→R)→R→R:=@A.rec (fun _=>(Nat→Nat→R)→R→R) (fun _=>Unit) (fun _ _ f d=>d) (fun _ f d=>d) (fun _ f d=>d) (fun _ f d=>d) (fun _ _ f d=>d) (fun _ _ _ f d=>d) (fun _ _ _ _ _ f d=>d) (fun _ _ f d=>d) (fun _ _ f d=>d) (fun id ver f d=>f id ver) (fun _ _ _ _ f d=>d) (fun _ _ _ _ _ f d=>d) (fun _ f d=>d) (fun _ f d=>d) (fun _ _ _ f d=>d) (fun _ _ _ f d=>d) (fun _ _ f d=>d) (fun f d=>d) () (fun _ _ _ _=>()) a
def C0D {R:Type} (a:A):(Nat→Nat→List Nat→R)→R→R:=@A.rec (fun _=>(Nat→Nat→List Nat→R)→R→R) (fun _=>Unit) (fun _ _ f d=>d) (fun _ f d=>d) (fun _ f d=>d) (fun _ f d=>d) (fun _ _ f d=>d) (fun id t path f d=>f id t path) (fun _ _ _ _ _ f d=>d) (fun _ _ f d=>d) (fun _ _ f d=>d) (fun _ _ f d=>d) (fun _ _ _ _ f d=>d) (fun _ _ _ _ _ f d=>d) (fun _ f d=>d) (fun _ f d=>d) (fun _ _ _ f d=>d) (fun _ _ _ f d=>d) (fun _ _ f d=>d) (fun f d=>d) () (fun _ _ _ _=>()) a
def Z0 {R:Type} (q:Option Ob):(Nat→Nat→List V→Bool→Bool→R)→R→R :=
 @Option.rec Ob (fun _=>(Nat→Nat→List V→Bool→Bool→R)→R→R) (fun _ d=>d) (fun o f d=>@Ob.rec (fun _=>(Nat→Nat→List V→Bool→Bool→R)→R→R) (fun _ _ _ _ d=>d) (fun el v xs nl sh f _=>f el v xs nl sh) (fun _ _ _ _ d=>d) (fun _ _ d=>d) (fun _ _ d=>d) (fun _ _ _ _ d=>d) (fun _ _ _ _ _ _ d=>d) o f d) q
def A6s {R:Type} (q:Option Ob):(Nat→A→Bool→R)→R→R :=
 @Option.rec Ob (fun _=>(Nat→A→Bool→R)→R→R) (fun _ d=>d) (fun o f d=>@Ob.rec (fun _=>(Nat→A→Bool→R)→R→R) (fun t a sh f _=>f t a sh) (fun _ _ _ _ _ _ d=>d) (fun _ _ _ _ d=>d) (fun _ _ d=>d) (fun _ _ d=>d) (fun _ _ _ _ d=>d) (fun _ _ _ _ _ _ d=>d) o f d) q
def P5 {R:Type} (b:Bool):R→R→R:=@Bool.rec (fun _=>R→R→R) (fun _ e=>e) (fun t _=>t) b
theorem M7 {R:Type} (b:Bool) (t e:R):P5 b t e=if b then t else e:=by cases b<;>rfl
def A3m (l:List V):Nat:=@List.rec V (fun _=>Nat) 0 (fun _ _ ih=>Nat.succ ih) l
theorem A3A (l:List V):A3m l=l.length:=by
 induction l with
 | nil=>rfl
 | cons a r ih=>show Nat.succ (A3m r)=_;rw [ih];rfl
def B8P (l:List V):List V→List V:=@List.rec V (fun _=>List V→List V) (fun m=>m) (fun a _ ih m=>a::ih m) l
theorem B5W (l m:List V):B8P l m=l++m:=by
 induction l with
 | nil=>rfl
 | cons a r ih=>show a::B8P r m=_;rw [ih];rfl
def B5X (l:List V):Nat→V:=@List.rec V (fun _=>Nat→V) (fun _=>.n) (fun a _ ih i=>@Nat.rec (fun _=>V) a (fun j _=>ih j) i) l
theorem B5Y:∀ (l:List V) (i:Nat),B5X l i=l.getD i .n:=by
 intro l
 induction l with
 | nil=>intro i;simp [B5X,List.getD]
 | cons a r ih =>
  intro i
  cases i with
  | zero=>rfl
  | succ j=>show B5X r j=_;rw [ih];simp [List.getD]
structure MkR where
 run:V→A
def mkR (T:TT) (t:Nat):MkR :=
 match B2 T t with
 | some (.int k)=>⟨fun x=>.i k x.int⟩
 | some .bool=>⟨fun x=>.b x.bl⟩
 | some .str=>⟨fun x=>.s x.els⟩
 | some .func=>⟨fun x=>mkA T t x⟩
 | _=>⟨fun x=>.v t x⟩
theorem B8Q (t:Nat) (x:V):(mkR T t).run x=mkA T t x:=by
 unfold mkR
 cases hk:B2 T t with
 | none=>simp [mkA,hk]
 | some k=>cases k<;>simp [mkA,hk]
def A4a (T:TT) (t:Nat) (k:IntKind):Bool:=(match B2 T t with
  | some (.int k')=>k == k'
  | _=>false)&&Nat.beq (B1 T t) 1
def asF (T:TT) (t:Nat) (a:A):Option A:=@A.rec (fun _=>A→Option A) (fun _=>Unit) (fun k n a=>P5 (A4a T t k) (some a) none) (fun _ a=>H7 T t a) (fun _ a=>H7 T t a) (fun _ a=>H7 T t a) (fun t1 x a=>P5 (same T t t1) (some (.v t x)) none) (fun _ _ _ a=>H7 T t a) (fun _ _ _ _ _ a=>H7 T t a) (fun _ _ a=>H7 T t a) (fun _ _ a=>H7 T t a) (fun id ver a=>P5 (Q7 T t) (some a) none) (fun _ _ _ _ a=>H7 T t a) (fun _ _ _ _ _ a=>H7 T t a) (fun _ a=>H7 T t a) (fun _ a=>H7 T t a) (fun _ _ _ a=>H7 T t a) (fun _ _ _ a=>H7 T t a) (fun _ _ a=>H7 T t a) (fun a=>H7 T t a) () (fun _ _ _ _=>()) a a
theorem A80 (t:Nat) (a:A):asF T t a=H7 T t a:=by
 cases a<;>try rfl
 case i k n=>show P5 (A4a T t k) _ _=_;rw [M7];rfl
 case v t1 x=>show P5 (same T t t1) _ _=_;rw [M7];rfl
 case o id ver=>show P5 (Q7 T t) _ _=_;rw [M7];rfl
def A7H (T:TT) (a:A):A:=@A.rec (fun _=>A→A) (fun _=>Unit) (fun _ _ a=>a) (fun _ a=>a) (fun _ a=>a) (fun _ a=>a) (fun t x a=>(mkR T t).run x) (fun _ _ _ a=>a) (fun _ _ _ _ _ a=>a) (fun _ _ a=>a) (fun _ _ a=>a) (fun _ _ a=>a) (fun _ _ _ _ a=>a) (fun _ _ _ _ _ a=>a) (fun _ a=>a) (fun _ a=>a) (fun _ _ _ a=>a) (fun _ _ _ a=>a) (fun _ _ a=>a) (fun a=>a) () (fun _ _ _ _=>()) a a
theorem A4b (a:A):A7H T a=norm T a:=by
 cases a<;>try rfl
 case v t x=>exact B8Q t x
def atF (T:TT) (a:A) (path:List Nat):Option A:=@List.rec Nat (fun _=>A→List Nat→Option A) (fun a _=>some (A7H T a)) (fun _ _ _ a p=>atA T a p) path a path
theorem B3m (a:A) (path:List Nat):atF T a path=atA T a path:=by
 cases path with
 | nil=>show some (A7H T a)=_;rw [A4b];cases a<;>rfl
 | cons _ _=>rfl
def C0E (T:TT) (a:A) (path:List Nat) (b:A):Option A:=@List.rec Nat (fun _=>A→List Nat→A→Option A) (fun _ _ b=>some b) (fun _ _ _ a p b=>A0S T a p b) path a path b
theorem B5Z (a:A) (path:List Nat) (b:A):C0E T a path b=A0S T a path b:=by
 cases path with
 | nil=>cases a<;>rfl
 | cons _ _=>rfl
def B8R (T:TT) (el t:Nat):Bool:=match B2 T t with
  | some (.slice el')=>Nat.beq el el'
  | _=>false
def B8S (T:TT) (t:Nat) (x:Operand):OpR :=
 match B2 T t with
 | some (.slice el)=>⟨fun K sl of nx=>B3l ((V5 x).get sl) (fun id ver=>Z0 (of id) (fun el' v xs _ _=>P5 (Nat.beq el el'&&Nat.beq v ver) (P5 (Nat.ble (A3m xs) 9223372036854775807) (some ⟨.i .i64 (A3m xs:Nat),[],[id],nx⟩) none) none) none) (pvR nx (A4A T of t (J9 sl x)))⟩
 | _=>⟨fun K sl of nx=>pvR nx (A4A T of t (J9 sl x))⟩
theorem B50 (t:Nat) (x:Operand) (K:KS) (sl:Nat→A) (of:Nat→Option Ob) (nx:Nat):(B8S T t x).run K sl of nx=pvR nx (A4A T of t (J9 sl x)):=by
 unfold B8S
 split
 ·rename_i el hk
  simp only [L4]
  cases J9 sl x<;>try rfl
  rename_i id ver
  show Z0 (of id) _ none=_
  simp only [A4A,A2Z,B1n,A3l,A9O,hk,F9]
  cases of id with
  | none=>rfl
  | some o =>
   cases o<;>try rfl
   rename_i el' v xs nl sh
   show P5 (Nat.beq el el'&&Nat.beq v ver) _ _=_
   simp only [M7,A3A]
   cases (Nat.beq el el'&&Nat.beq v ver)
   ·rfl
   ·simp only [if_true]
    cases Nat.ble xs.length 9223372036854775807<;>rfl
 ·rfl
def C0F (T:TT) (of:Nat→Option Ob) (el:Nat) (y:A):Option (List V×List Nat) :=
 @A.rec (fun _=>(Nat→Option Ob)→A→Option (List V×List Nat)) (fun _=>Unit) (fun _ _ of y=>F9 T of el y) (fun _ of y=>F9 T of el y) (fun _ of y=>F9 T of el y) (fun _ of y=>F9 T of el y) (fun t x of y=>P5 (B8R T el t) (some (x.els,[])) none) (fun _ _ _ of y=>F9 T of el y) (fun _ _ _ _ _ of y=>F9 T of el y) (fun _ _ of y=>F9 T of el y) (fun _ _ of y=>F9 T of el y) (fun id ver of y=>Z0 (of id) (fun el' v xs _ _=>P5 (Nat.beq el el'&&Nat.beq v ver) (some (xs,[id])) none) none) (fun _ _ _ _ of y=>F9 T of el y) (fun _ _ _ _ _ of y=>F9 T of el y) (fun _ of y=>F9 T of el y) (fun _ of y=>F9 T of el y) (fun _ _ _ of y=>F9 T of el y) (fun _ _ _ of y=>F9 T of el y) (fun _ _ of y=>F9 T of el y) (fun of y=>F9 T of el y) () (fun _ _ _ _=>()) y of y
theorem B51 (of:Nat→Option Ob) (el:Nat) (y:A):C0F T of el y=F9 T of el y:=by
 cases y<;>try rfl
 case v t x =>
  show P5 (B8R T el t) _ _=_
  rw [M7]
  obtain ⟨q,hk⟩:∃ q,B2 T t=q:=⟨_,rfl⟩
  simp only [B8R,F9,hk]
  cases q with
  | none=>rfl
  | some k=>cases k<;>rfl
 case o id ver =>
  show Z0 (of id) _ none=_
  simp only [F9]
  cases of id with
  | none=>rfl
  | some o =>
   cases o<;>try rfl
   rename_i el' v xs nl sh
   show P5 (Nat.beq el el'&&Nat.beq v ver) _ _=_
   rw [M7]
def B0g (T:TT) (t:Nat):Bool:=match B2 T t with
  | some (.slice _)=>true
  | _=>false
def C0G (T:TT) (el:Nat):Bool:=match T el with
  | some te=>Nat.ble te.bytes 131072&&TK.notOther te.k&&Nat.blt 0 te.size
  | none=>false
def A1u (T:TT) (t xt:Nat) (x y:Operand):OpR:=⟨fun K sl of nx=>if A0v T xt (J9 sl y) then X9 nx (A0i T of nx t (J9 sl x) (J9 sl y)) else if isQ T (J9 sl x) then X9 nx (A2L T nx t xt (J9 sl x) (J9 sl y)) else none⟩
def B3n (a:A):Bool:=@A.rec (fun _=>Bool) (fun _=>Unit) (fun _ _=>true) (fun _=>true) (fun l=>false) (fun _=>true) (fun _ _=>true) (fun _ _ _=>true) (fun _ _ _ _ _=>true) (fun _ _=>true) (fun _ _=>true) (fun _ _=>true) (fun _ _ _ _=>true) (fun _ _ _ _ _=>true) (fun _=>true) (fun _=>true) (fun _ _ _=>true) (fun _ _ _=>true) (fun _ _=>true) (true) () (fun _ _ _ _=>()) a
def B8T (T:TT) (t xt:Nat) (x y:Operand):OpR :=
 match B2 T t with
 | some (.slice el)=>if B0g T xt&&C0G T el then ⟨fun K sl of nx=>B3l ((V5 x).get sl) (fun id ver=>P5 (B3n ((V5 y).get sl)) (onO (C0F T of el ((V5 y).get sl)) (fun p=>Z0 (of id) (fun el' v xs nl sh=>P5 (Nat.beq el el'&&Nat.beq v ver&&Nat.ble (A3m xs+A3m p.1) LIM)
   (some ⟨.o id (ver+1),[(id,.row el (ver+1) (B8P xs p.1) (nl&&p.1.isEmpty) sh)],id::p.2,nx⟩) none) none)) ((A1u T t xt x y).run K sl of nx)) ((A1u T t xt x y).run K sl of nx)⟩ else A1u T t xt x y
 | _=>A1u T t xt x y
theorem B52 (t xt:Nat) (x y:Operand) (K:KS) (sl:Nat→A) (of:Nat→Option Ob) (nx:Nat):(B8T T t xt x y).run K sl of nx=if A0v T xt (J9 sl y) then X9 nx (A0i T of nx t (J9 sl x) (J9 sl y)) else if isQ T (J9 sl x) then X9 nx (A2L T nx t xt (J9 sl x) (J9 sl y)) else none:=by
 unfold B8T
 split
 ·rename_i el hk
  split
  ·rename_i hc
   simp only [C3o] at hc
   obtain ⟨h1,h2⟩:=hc
   simp only [L4]
   cases hx:J9 sl x<;>try (simp only [A1u,hx];rfl)
   rename_i id ver
   show P5 (B3n (J9 sl y)) _ _=_
   rw [M7]
   cases hn:B3n (J9 sl y) with
   | false=>simp only [Bool.false_eq_true,if_false,A1u,hx]
   | true =>
    have hap:A0v T xt (J9 sl y)=true:=by
     unfold B0g at h1
     split at h1<;>try (cases h1;done)
     rename_i e2 hk2
     unfold A0v
     rw [hk2]
     simp only
     cases hy:J9 sl y<;>first | rfl | (rw [hy] at hn;cases hn)
    simp only [if_true,hap]
    rw [A2N,B51]
    simp only [A0i,hk]
    unfold C0G at h2
    cases hte:T el with
    | none=>rw [hte] at h2;cases h2
    | some te =>
     rw [hte] at h2
     simp only at h2
     cases hs:F9 T of el (J9 sl y) with
     | none=>rfl
     | some p =>
      obtain ⟨ns,ro⟩:=p
      simp only [h2,if_true]
      cases of id with
      | none=>rfl
      | some o =>
       cases o<;>try rfl
       rename_i el' v xs nl sh
       show P5 (Nat.beq el el'&&Nat.beq v ver&&Nat.ble (A3m xs+A3m ns) LIM) _ _=_
       simp only [M7,A3A,B5W]
       cases (Nat.beq el el'&&Nat.beq v ver&&Nat.ble (xs.length+ns.length) LIM)<;>rfl
  ·rfl
 ·rfl
def A2O (T:TT) (t len:Nat) (parts:List (Nat×Operand)):OpR:=⟨fun K sl of nx=>X9 nx (S5 T of nx t len ((A1T parts).get sl))⟩
def C0H (T:TT) (el len:Nat):Bool:=match T el with
  | some te=>TK.notOther te.k&&Nat.blt 0 te.size&&Nat.ble (len * te.size) 16777216
  | none=>false
def bsR (T:TT) (t len:Nat) (parts:List (Nat×Operand)):OpR :=
 match B2 T t with
 | some (.slice el)=>match parts with
  | []=>A2O T t len parts
  | [p]=>if C0H T el len&&(Nat.beq len 1&&Nat.beq p.1 0) then ⟨fun K sl of nx=>A8Z ((V5 p.2).get sl) (fun k n=>P5 (A4a T el k) (some ⟨.o nx 1,[(nx,.row el 1 [.i n] false false)],[],nx+1⟩) ((A2O T t len parts).run K sl of nx)) ((A2O T t len parts).run K sl of nx)⟩ else A2O T t len parts
  | _=>A2O T t len parts
 | _=>A2O T t len parts
theorem B8U (t len:Nat) (parts:List (Nat×Operand)) (K:KS) (sl:Nat→A) (of:Nat→Option Ob) (nx:Nat):(bsR T t len parts).run K sl of nx=X9 nx (S5 T of nx t len ((A1T parts).get sl)):=by
 unfold bsR
 split
 ·rename_i el hk
  split
  ·rfl
  ·rename_i p
   split
   ·rename_i hc
    simp only [C3o] at hc
    obtain ⟨h1,h2,h3⟩:=hc
    have h2:=C3n h2
    have h3:=C3n h3
    subst h2
    simp only [L4]
    cases hx:J9 sl p.2<;>try rfl
    rename_i k n
    show P5 (A4a T el k) _ _=_
    rw [M7]
    cases hf:A4a T el k with
    | false=>rfl
    | true =>
     simp only [if_true,A1T,L4,hx,h3]
     unfold C0H at h1
     cases hte:T el with
     | none=>rw [hte] at h1;cases h1
     | some te =>
      rw [hte] at h1
      simp only at h1
      have hv:J0 T DEP of el (.i k n)=some (.i n,[]):=by
       have:B6 T el (.i k n)=true:=hf
       simp only [DEP,J0,H7,this,if_true,A2q]
      simp only [S5,hk,hte,T2,hv,h1,if_true,A5g]
      have hb:Nat.blt 0 (List.replicate 1 te.zero).length=true:=rfl
      rw [if_pos hb]
      simp [X9,A0p,U1,List.replicate]
   ·rfl
  ·rfl
 ·rfl
def ldR (T:TT) (t0:Nat) (a:Operand):OpR :=
 if (T t0).isSome then ⟨fun K sl of nx=>@A.rec (fun _=>(Nat→Option Ob)→A→Nat→Option M8) (fun _=>Unit) (fun _ _ of u nx=>pvR nx (Q5 T of t0 u)) (fun _ of u nx=>pvR nx (Q5 T of t0 u)) (fun _ of u nx=>pvR nx (Q5 T of t0 u)) (fun _ of u nx=>pvR nx (Q5 T of t0 u)) (fun _ _ of u nx=>pvR nx (Q5 T of t0 u)) (fun id t path of u nx=>A6s (of id) (fun _ b _=>onO (atF T b path) fun a1=>onO (asF T t0 a1) fun a2=>some ⟨A7H T a2,[],[id],nx⟩) none) (fun id ver i t path of u nx=>Z0 (of id) (fun el v xs _ _=>P5 (Nat.beq v ver) (onO (atF T (.v el (B5X xs i)) path) fun a1=>onO (asF T t0 a1) fun a2=>some ⟨A7H T a2,[],[id],nx⟩) none) none) (fun _ _ of u nx=>pvR nx (Q5 T of t0 u)) (fun _ _ of u nx=>pvR nx (Q5 T of t0 u)) (fun _ _ of u nx=>pvR nx (Q5 T of t0 u)) (fun _ _ _ _ of u nx=>pvR nx (Q5 T of t0 u)) (fun _ _ _ _ _ of u nx=>pvR nx (Q5 T of t0 u)) (fun _ of u nx=>pvR nx (Q5 T of t0 u)) (fun _ of u nx=>pvR nx (Q5 T of t0 u)) (fun _ _ _ of u nx=>pvR nx (Q5 T of t0 u)) (fun _ _ _ of u nx=>pvR nx (Q5 T of t0 u)) (fun _ _ of u nx=>pvR nx (Q5 T of t0 u)) (fun of u nx=>pvR nx (Q5 T of t0 u)) () (fun _ _ _ _=>()) ((V5 a).get sl) of ((V5 a).get sl) nx⟩ else ⟨fun _ _ _ _=>none⟩
theorem B8V (t:Nat) (a:Operand) (K:KS) (sl:Nat→A) (of:Nat→Option Ob) (nx:Nat):(ldR T t a).run K sl of nx=pvR nx (Q5 T of t (J9 sl a)):=by
 unfold ldR
 split
 ·rename_i hT
  simp only [L4]
  cases J9 sl a<;>try rfl
  case p id t1 path =>
   show A6s (of id) _ none=_
   simp only [Q5,hT,if_true]
   cases of id with
   | none=>rfl
   | some o =>
    cases o<;>try rfl
    rename_i t2 b sh
    show onO (atF T b path) _=_
    rw [A2N,B3m]
    simp only
    cases atA T b path with
    | none=>rfl
    | some a1 =>
     simp only [A2N,A80,A4b]
     cases H7 T t a1<;>rfl
  case e id ver i t1 path =>
   show Z0 (of id) _ none=_
   simp only [Q5,hT,if_true]
   cases of id with
   | none=>rfl
   | some o =>
    cases o<;>try rfl
    rename_i el v xs nl sh
    show P5 (Nat.beq v ver) _ _=_
    rw [M7]
    simp only
    cases Nat.beq v ver
    ·rfl
    ·simp only [if_true,elA,B5Y,A2N,B3m]
     cases atA T (.v el (xs.getD i .n)) path with
     | none=>rfl
     | some a1 =>
      simp only [A80,A4b]
      cases H7 T t a1<;>rfl
 ·rename_i hT
  simp only [Q5,hT]
  rfl
def B3o (T:TT) (t:Nat) (a x:Operand):OpR:=⟨fun K sl of nx=>match A1k T of t (J9 sl a) (J9 sl x) with
  | some (wo,ro)=>some ⟨.x,wo,ro,nx⟩
  | none=>none⟩
def stR (T:TT) (t:Nat) (a x:Operand):OpR :=
 if (T t).isSome then ⟨fun K sl of nx=>C0D ((V5 a).get sl) (fun id t1 path=>A6s (of id) (fun t0 b sh=>P5 sh none (P5 (same T t t1) (onO (asF T t1 ((V5 x).get sl)) fun v'=>onO (C0E T b path v') fun a'=>some ⟨.x,[(id,.box t0 a' false)],[id],nx⟩) none)) none) ((B3o T t a x).run K sl of nx)⟩ else ⟨fun _ _ _ _=>none⟩
theorem B8W (t:Nat) (a x:Operand) (K:KS) (sl:Nat→A) (of:Nat→Option Ob) (nx:Nat):(stR T t a x).run K sl of nx=match A1k T of t (J9 sl a) (J9 sl x) with
  | some (wo,ro)=>some ⟨.x,wo,ro,nx⟩
  | none=>none:=by
 unfold stR
 split
 ·rename_i hT
  simp only [L4]
  cases hx:J9 sl a<;>try (simp only [B3o,hx];rfl)
  rename_i id t1 path
  show A6s (of id) _ none=_
  simp only [A1k,hT,if_true]
  cases of id with
  | none=>rfl
  | some o =>
   cases o<;>try rfl
   rename_i t2 b sh
   show P5 sh none _=_
   cases sh
   ·show P5 (same T t t1) _ _=_
    rw [M7]
    simp only
    cases same T t t1
    ·rfl
    ·simp only [if_true,A2N,A80]
     cases H7 T t1 (J9 sl x) with
     | none=>rfl
     | some v' =>
      simp only [B5Z]
      cases A0S T b path v'<;>rfl
   ·rfl
 ·rename_i hT
  simp only [A1k,hT]
  rfl
def iaR (T:TT) (t:Nat) (x ix:Operand):OpR :=
 match B2 T t with
 | some (.slice el)=>if (T el).isSome then ⟨fun K sl of nx=>A8Z ((V5 ix).get sl) (fun _ i=>B3l ((V5 x).get sl) (fun id ver=>Z0 (of id) (fun el' v xs _ _=>P5 (leQ 0 i&&(Nat.beq el el'&&Nat.beq v ver&&ltQ i (A3m xs:Nat))) (some ⟨.e id ver i.toNat el [],[],[id],nx⟩) none) none) (pvR nx (J8 T of t i (J9 sl x)))) none⟩ else ⟨fun _ _ _ _=>none⟩
 | _=>⟨fun K sl of nx=>A8Z ((V5 ix).get sl) (fun _ i=>pvR nx (J8 T of t i (J9 sl x))) none⟩
theorem B8X (t:Nat) (x ix:Operand) (K:KS) (sl:Nat→A) (of:Nat→Option Ob) (nx:Nat):(iaR T t x ix).run K sl of nx=match J9 sl ix with
  | .i _ i=>pvR nx (J8 T of t i (J9 sl x))
  | _=>none:=by
 unfold iaR
 split
 ·rename_i el hk
  split
  ·rename_i hT
   simp only [L4]
   cases J9 sl ix<;>try rfl
   rename_i k i
   show B3l (J9 sl x) _ _=_
   cases hx:J9 sl x<;>try rfl
   rename_i id ver
   show Z0 (of id) _ none=_
   simp only [J8,hk,hT,Bool.and_true]
   cases of id with
   | none=>cases J1 0 i<;>rfl
   | some o =>
    cases o<;>try (cases J1 0 i<;>rfl)
    rename_i el' v xs nl sh
    show P5 (leQ 0 i&&(Nat.beq el el'&&Nat.beq v ver&&ltQ i (A3m xs:Nat))) _ _=_
    rw [M7,A8X,B3i,A3A]
    cases J1 0 i
    ·rfl
    ·simp only [Bool.true_and,if_true]
     cases (Nat.beq el el'&&Nat.beq v ver&&E8 i xs.length)<;>rfl
  ·rename_i hT
   have hT:(T el).isSome=false:=by simpa using hT
   cases hi:J9 sl ix<;>try rfl
   rename_i k i
   simp only [J8,hk,hT,Bool.and_false]
   rfl
 ·simp only [L4]
  cases J9 sl ix<;>rfl
def faR (T:TT) (s f:Nat) (x:Operand):OpR :=
 match B2 T s with
 | some (.struct fs)=>match fs[f]? with
  | some ft=>if Nat.blt 0 (B1 T ft) then ⟨fun K sl of nx=>C0D ((V5 x).get sl) (fun id t path=>P5 (same T s t) (some ⟨.p id ft (path++[f]),[],[],nx⟩) none) (pvR nx (M9 T of s f (J9 sl x)))⟩ else ⟨fun _ _ _ _=>none⟩
  | none=>⟨fun _ _ _ _=>none⟩
 | _=>⟨fun _ _ _ _=>none⟩
theorem B8Y (s f:Nat) (x:Operand) (K:KS) (sl:Nat→A) (of:Nat→Option Ob) (nx:Nat):(faR T s f x).run K sl of nx=pvR nx (M9 T of s f (J9 sl x)):=by
 unfold faR
 split
 ·rename_i fs hk
  split
  ·rename_i ft hf
   split
   ·rename_i hz
    simp only [L4]
    cases hx:J9 sl x<;>try rfl
    rename_i id t path
    show P5 (same T s t) _ _=_
    rw [M7]
    simp only [M9,hk,hf,hz,if_true]
    cases same T s t<;>rfl
   ·rename_i hz
    simp only [M9,hk,hf,hz]
    rfl
  ·rename_i hf
   simp only [M9,hk,hf]
   rfl
 ·rename_i hk
  unfold M9
  split
  ·rename_i fs h;exact absurd h (hk fs)
  ·rfl
structure BdR where
 run:(Nat→A)→Int→(Int→Option M8)→Option M8
def bdR:Option Operand→BdR
 | none=>⟨fun _ d k=>k d⟩
 | some x=>⟨fun sl _ k=>A8Z ((V5 x).get sl) (fun _ i=>k i) none⟩
theorem B8Z (o:Option Operand) (sl:Nat→A) (d:Int) (k:Int→Option M8):(bdR o).run sl d k=match F3 d ((ooR o).get sl) with
  | some i=>k i
  | none=>none:=by
 cases o with
 | none=>rfl
 | some x =>
  simp only [bdR,ooR,L4]
  cases J9 sl x<;>rfl
def A4c (T:TT) (t:Nat) (x:Operand) (lo hi mx:Option Operand):OpR:=⟨fun K sl of nx=>pvW nx (A0N T of t ((V5 x).get sl) ((ooR lo).get sl) ((ooR hi).get sl) ((ooR mx).get sl))⟩
def B80 (T:TT) (t:Nat) (x:Operand) (lo hi mx:Option Operand):OpR :=
 match B2 T t,mx with
 | some (.slice el),none=>if (T el).isSome then ⟨fun K sl of nx=>B3l ((V5 x).get sl) (fun id ver=>Z0 (of id) (fun el' v xs nl _=>P5 nl ((A4c T t x lo hi mx).run K sl of nx) (P5 (Nat.beq el el'&&Nat.beq v ver) ((bdR lo).run sl (0:Nat) fun l=>(bdR hi).run sl (A3m xs:Nat) fun h=>P5 (leQ 0 l&&leQ l h&&leQ h (A3m xs:Nat)) (some ⟨.w id ver (0+l.toNat) (h - l).toNat,[],[id],nx⟩) none) none)) none) ((A4c T t x lo hi mx).run K sl of nx)⟩ else A4c T t x lo hi mx
 | _,_=>A4c T t x lo hi mx
theorem B53 (t:Nat) (x:Operand) (lo hi mx:Option Operand) (K:KS) (sl:Nat→A) (of:Nat→Option Ob) (nx:Nat):(B80 T t x lo hi mx).run K sl of nx=pvW nx (A0N T of t ((V5 x).get sl) ((ooR lo).get sl) ((ooR hi).get sl) ((ooR mx).get sl)):=by
 unfold B80
 split
 ·rename_i el hk
  split
  ·rename_i hT
   simp only [A4c]
   cases hx:(V5 x).get sl<;>try rfl
   rename_i id ver
   show Z0 (of id) _ none=_
   have hq:isQ T (.o id ver)=true:=rfl
   simp only [A0N,hk,hT,hq,Bool.and_true,if_true,show (ooR (none:Option Operand)).get sl=none from rfl,zV]
   cases of id with
   | none=>rfl
   | some o =>
    cases o<;>try rfl
    rename_i el' v xs nl sh
    show P5 nl _ (P5 (Nat.beq el el'&&Nat.beq v ver) _ none)=_
    cases nl
    ·show P5 (Nat.beq el el'&&Nat.beq v ver) _ none=_
     rw [M7]
     simp only
     cases (Nat.beq el el'&&Nat.beq v ver)
     ·rfl
     ·simp only [if_true,B8Z,M6,A3A]
      cases h1:F3 (0:Nat) ((ooR lo).get sl) with
      | none=>rfl
      | some l =>
       simp only
       cases h2:F3 xs.length ((ooR hi).get sl) with
       | none=>rfl
       | some h =>
        simp only [M7,A8X]
        cases (J1 0 l&&J1 l h&&J1 h xs.length)<;>rfl
    ·rfl
  ·rfl
 ·rfl
def B1r (T:TT) (k:Call):OpR:=⟨fun K sl of nx=>U2 T K (J9 sl) of nx k⟩
def B3p (T:TT) (k:Call):OpR :=
 match k.callee with
 | .value f=>⟨fun K sl of nx=>C26 ((V5 f).get sl) (fun fn cap=>match bdP cap with
  | some p=>K.f fn (p::(olR k.args.toList).get sl) of nx
  | none=>if cap.all (R7 T) then K.f fn ((olR k.args.toList).get sl++cap) of nx else none) (fun id=>K.y id ((olR k.args.toList).get sl) of nx) none⟩
 | .builtin .len=>(match k.argTypes.toList,k.args.toList with
  | [t],[x]=>B8S T t x
  | _,_=>⟨fun _ _ _ _=>none⟩)
 | .builtin .append=>(match k.argTypes.toList,k.args.toList with
  | [t,xt],[x,y]=>B8T T t xt x y
  | _,_=>⟨fun _ _ _ _=>none⟩)
 | _=>B1r T k
theorem B3q (k:Call) (K:KS) (sl:Nat→A) (of:Nat→Option Ob) (nx:Nat):(B3p T k).run K sl of nx=U2 T K (J9 sl) of nx k:=by
 unfold B3p
 split
 ·rename_i f hk
  simp only [U2,hk,L4,A8Y]
  cases J9 sl f<;>rfl
 ·rename_i hk
  simp only [U2,hk]
  split
  ·rename_i t x h1 h2
   rw [h1,h2]
   simp only [B50]
   cases A4A T of t (J9 sl x)<;>rfl
  ·rename_i hne
   split
   ·rename_i t x h1 h2;exact absurd h2 (hne _ _ h1)
   ·rfl
 ·rename_i hk
  simp only [U2,hk]
  split
  ·rename_i t xt x y h1 h2
   rw [h1,h2]
   simp only [B52]
  ·rename_i hne
   split
   ·rename_i t xt x y h1 h2;exact absurd h2 (hne _ _ _ _ h1)
   ·rfl
 ·rfl
structure IkR where
 run:IntKind→IntKind→Int→Int→Nat→Option M8
def C0I (op:BinOp):IkR :=
 ⟨fun k k' a b nx=>bif A0Z op||A2W k k' then onO ((B5U op).run k a b) (fun r=>some ⟨r,[],[],nx⟩) else none⟩
theorem B54 (op:BinOp) (k k':IntKind) (a b:Int) (nx:Nat) (T:TT) (of:Nat→Option Ob) (t:Nat):(C0I op).run k k' a b nx=pvR nx (A4G T of op t (.i k a) (.i k' b)):=by
 show (bif A0Z op||A2W k k' then onO ((B5U op).run k a b) (fun r=>some (M8.mk r [] [] nx)) else none)=_
 rw [A2N,B5V]
 unfold A4G
 simp only
 cases (A0Z op||A2W k k')
 ·rfl
 ·simp only [cond_true,if_true]
  cases A1K op k a b<;>rfl
def B3r (T:TT) (op:BinOp) (t:Nat) (x y:Operand):OpR:=⟨fun K sl of nx=>pvR nx (A4G T of op t (J9 sl x) (J9 sl y))⟩
def B81 (T:TT) (op:BinOp) (t:Nat) (x y:Operand):OpR :=
 ⟨fun K sl of nx=>A8Z ((V5 x).get sl) (fun k a=>A8Z ((V5 y).get sl) (fun k' b=>(C0I op).run k k' a b nx) ((B3r T op t x y).run K sl of nx)) ((B3r T op t x y).run K sl of nx)⟩
theorem B55 (op:BinOp) (t:Nat) (x y:Operand) (K:KS) (sl:Nat→A) (of:Nat→Option Ob) (nx:Nat):(B81 T op t x y).run K sl of nx=pvR nx (A4G T of op t (J9 sl x) (J9 sl y)):=by
 simp only [B81,L4,B3r]
 cases J9 sl x<;>cases J9 sl y<;>first | rfl | exact B54 _ _ _ _ _ _ _ _ _
def C0J (T:TT) (s t:Nat) (x:Operand):OpR:=⟨fun K sl of nx=>X9 nx (A1O T of nx s t (J9 sl x))⟩
def B3s (T:TT) (s t:Nat) (x:Operand):OpR :=
 match B2 T t with
 | some (.int k)=>if (T s).isSome then ⟨fun K sl of nx=>A8Z ((V5 x).get sl) (fun _ n=>some ⟨.i k ((wrR k).run n),[],[],nx⟩) none⟩ else ⟨fun _ _ _ _=>none⟩
 | _=>C0J T s t x
theorem B3t (s t:Nat) (x:Operand) (K:KS) (sl:Nat→A) (of:Nat→Option Ob) (nx:Nat):(B3s T s t x).run K sl of nx=X9 nx (A1O T of nx s t (J9 sl x)):=by
 unfold B3s
 split
 ·rename_i k hk
  unfold A1O
  rw [hk]
  simp only
  split
  ·simp only [L4,B3k]
   cases J9 sl x<;>rfl
  ·cases J9 sl x<;>rfl
 ·rfl
def B3u (T:TT) (el:Nat):OpR :=
 match T el with
 | some te=>if TK.notOther te.k then ⟨fun K sl of nx=>some ⟨.p nx el [],[(nx,.box el (.v el te.zero) false)],[],nx+1⟩⟩ else ⟨fun _ _ _ _=>none⟩
 | none=>⟨fun _ _ _ _=>none⟩
def C0K (f:(Nat→A)→(Nat→Option Ob)→Nat→Int→Option M8) (ix:Operand):OpR :=
 ⟨fun K sl of nx=>match (V5 ix).get sl with
  | .i _ i=>f sl of nx i
  | _=>none⟩
def opR (T:TT) (o:Oper):OpR :=
 match o.op with
 | .move x=>⟨fun K sl of nx=>some (.pv nx ((V5 x).get sl) [])⟩
 | .assign x=>⟨fun K sl of nx=>some (A6R T o.type nx ((V5 x).get sl))⟩
 | .pick q a b=>⟨fun K sl of nx=>match (V5 q).get sl with
  | .b t=>some (.pv nx (bif t then (V5 a).get sl else (V5 b).get sl) [])
  | _=>none⟩
 | .alloc el=>B3u T el
 | .box el x=>⟨fun K sl of nx=>match H7 T el ((V5 x).get sl) with
  | some a=>some ⟨.p nx el [],[(nx,.box el a false)],[],nx+1⟩
  | none=>none⟩
 | .build t parts=>⟨fun K sl of nx=>match A6f T t ((A1T parts.toList).get sl) with
  | some v=>some (.pv nx v [])
  | none=>none⟩
 | .buildSlice t len parts=>bsR T t len parts.toList
 | .load t a=>ldR T t a
 | .store t a x=>stR T t a x
 | .sliceToArrayPointer t x=>⟨fun K sl of nx=>pvW nx (A8i T of t ((V5 x).get sl))⟩
 | .nilCheck x=>⟨fun K sl of nx=>match B69 of ((V5 x).get sl) with
  | some ro=>some (.pv nx ((V5 x).get sl) ro)
  | none=>none⟩
 | .binOp op t x y _=>B81 T op t x y
 | .unOp op _ x=>⟨fun K sl of nx=>pvO nx (unA op ((V5 x).get sl))⟩
 | .convert s t x=>B3s T s t x
 | .makeFunc fn first captured=>(match fn with
  | .func f=>if Nat.beq first.toList.length 0 then ⟨fun K sl of nx=>if ((olR captured.toList).get sl).all (R7 T) then some (.pv nx (.f f ((olR captured.toList).get sl)) []) else none⟩ else ⟨fun K sl of nx=>pvO nx (bdF f ((olR first.toList).get sl) ((olR captured.toList).get sl))⟩
  | _=>⟨fun _ _ _ _=>none⟩)
 | .makeSlice t l k=>⟨fun K sl of nx=>A0a T nx t ((V5 l).get sl) ((V5 k).get sl)⟩
 | .makeMap t r=>⟨fun K sl of nx=>A4B T nx t ((ooR r).get sl)⟩
 | .lookup t m k ok=>⟨fun K sl of nx=>X9 nx (A51 T (B4A o.pos) nx of t ((V5 m).get sl) ((V5 k).get sl) ok)⟩
 | .mapUpdate t m k v=>⟨fun K sl of nx=>A8c T of nx t ((V5 m).get sl) ((V5 k).get sl) ((V5 v).get sl)⟩
 | .insert t m k v=>⟨fun K sl of nx=>A8c T of nx t ((V5 m).get sl) ((V5 k).get sl) ((V5 v).get sl)⟩
 | .slice t x lo hi mx=>B80 T t x lo hi mx
 | .fieldAddr s x f=>faR T s f x
 | .field s x f=>⟨fun K sl of nx=>pvO nx (A6X T s f ((V5 x).get sl))⟩
 | .indexAddr t x ix=>iaR T t x ix
 | .index t x ix=>C0K (fun sl of nx i=>pvO nx (A21 T t i ((V5 x).get sl))) ix
 | .extract x i=>⟨fun K sl of nx=>pvO nx (B67 i ((V5 x).get sl))⟩
 | .call k=>B3p T k
 | .range t x=>⟨fun K sl of nx=>X9 nx (A6q T of nx t ((V5 x).get sl))⟩
 | .next x str=>if str then ⟨fun _ _ _ _=>none⟩ else ⟨fun K sl of nx=>pvR nx (B0f of ((V5 x).get sl))⟩
 | _=>⟨fun _ _ _ _=>none⟩
theorem B3v (o:Oper) (K:KS) (sl:Nat→A) (of:Nat→Option Ob) (nx:Nat):(opR T o).run K sl of nx=M0 T K (J9 sl) of nx o:=by
 obtain ⟨dst,op,ty,pos,after,guard⟩:=o
 cases op<;>simp only [opR,M0,L4,A8Y,B1q,B8O,B3q,B55,B3t,B8U,B8V,B8W,B53,B8Y,B8X]<;>try rfl
 case alloc el =>
  unfold B3u
  cases T el with
  | none=>rfl
  | some te=>simp only;split<;>rfl
 case makeFunc fn first captured =>
  cases fn<;>try rfl
  simp only
  cases hq:Nat.beq first.toList.length 0<;>simp [A8Y]
 case index t x ix=>simp only [C0K,L4];cases J9 sl ix<;>rfl
 case next x str=>cases str<;>simp [L4]
structure EnR where
 run:KS→(Nat→A)→(Nat→Option Ob)→Nat→Option N2
def mkE (dst:Option Nat) (rs:List Nat) (nx:Nat) (q:Option M8):Option N2 :=
 @Option.rec M8 (fun _=>Option Nat→List Nat→Nat→Option N2) (fun _ _ _=>none)
  (fun out dst rs nx=>@Bool.rec (fun _=>Option N2) none (some ⟨dst,out.val,out.wo,rs,out.ro,nx,out.nx⟩) (Nat.ble nx out.nx)) q dst rs nx
def B82 {R:Type} (a:A):(Bool→R)→R→R→R :=
 @A.rec (fun _=>(Bool→R)→R→R→R) (fun _=>Unit)
  (fun _ _ _ _ d=>d) (fun b f _ _=>f b) (fun _ _ _ d=>d) (fun _ _ _ d=>d) (fun _ _ _ _ d=>d) (fun _ _ _ _ _ d=>d) (fun _ _ _ _ _ _ _ d=>d) (fun _ _ _ _ d=>d) (fun _ _ _ _ d=>d)
  (fun _ _ _ _ d=>d) (fun _ _ _ _ _ _ d=>d) (fun _ _ _ _ _ _ _ d=>d) (fun _ _ _ d=>d) (fun _ _ _ d=>d) (fun _ _ _ _ _ d=>d) (fun _ _ _ _ _ d=>d) (fun _ _ _ t _=>t) (fun _ _ d=>d) () (fun _ _ _ _=>()) a
def enR (T:TT) (ops:Array Oper) (o:Oper):EnR :=
 match o.guard with
 | none=>⟨fun K sl of nx=>mkE o.dst (o.looksAt ops) nx ((opR T o).run K sl of nx)⟩
 | some (g,want)=>match (ops[g]?).bind (·.dst) with
  | some d=>⟨fun K sl of nx=>B82 (sl d) (fun q=>bif (bif want then q else !q) then mkE o.dst (o.looksAt ops) nx ((opR T o).run K sl of nx) else some (.skip o (o.looksAt ops) nx)) (some (.skip o (o.looksAt ops) nx)) none⟩
  | none=>⟨fun _ _ _ _=>none⟩
theorem B3w (o:Oper) (rs:List Nat) (nx:Nat) (q:Option M8):mkE o.dst rs nx q=match q with
   | some out=>if Nat.ble nx out.nx then some (.mk1 o rs nx out) else none
   | none=>none:=by
 cases q with
 | none=>rfl
 | some out =>
  show (@Bool.rec (fun _=>Option N2) none (some ⟨o.dst,out.val,out.wo,rs,out.ro,nx,out.nx⟩) (Nat.ble nx out.nx))=_
  simp only
  cases Nat.ble nx out.nx<;>rfl
theorem B83 (ops:Array Oper) (o:Oper) (K:KS) (sl:Nat→A) (of:Nat→Option Ob) (nx:Nat):(enR T ops o).run K sl of nx=X0 T K ops sl of nx o:=by
 unfold enR X0
 cases o.guard with
 | none=>simp only [B3v,B3w];cases M0 T K (J9 sl) of nx o<;>rfl
 | some p =>
  obtain ⟨g,want⟩:=p
  simp only
  cases (ops[g]?).bind (·.dst) with
  | none=>rfl
  | some d =>
   simp only [B3v,B3w]
   cases sl d with
   | b q =>
    show (bif (bif want then q else !q) then _ else _)=_
    cases M0 T K (J9 sl) of nx o<;>cases q<;>cases want<;>rfl
   | _=>rfl
structure RnR where
 run:KS→(Nat→Option Ob)→St→Option (List N2×St)
structure SlR where
 put:A→List (Nat×A)→List (Nat×A)
def slR:Option Nat→SlR
 | some d=>⟨fun v sl=>(d,v)::sl⟩
 | none=>⟨fun _ sl=>sl⟩
def B3x (E:N2) (v:A) (h:Nat) (q:Option (List N2×St)):Option (List N2×St) :=
 @Option.rec (List N2×St) (fun _=>N2→A→Nat→Option (List N2×St)) (fun _ _ _=>none) (fun p E v h=>some ({ E with val:=v,hi:=h }::p.1,p.2)) q E v h
def goE (q:Option N2) (σ:St) (k:N2→Option (List N2×St)):Option (List N2×St) :=
 @Option.rec N2 (fun _=>(N2→Option (List N2×St))→Option (List N2×St)) (fun _=>none) (fun E k=>k E) q k
def rnR (T:TT) (ops:Array Oper) (l:List Oper):RnR :=
 @List.rec Oper (fun _=>RnR) ⟨fun _ _ σ=>some ([],σ)⟩
  (fun o _ ih=>⟨fun K of σ=>goE ((enR T ops o).run K (D5 σ.sl) (B7 σ.ob of) σ.nx) σ fun E=>B5N E.val fun v=>B1p E.hi fun h=>B5P (A8W σ.ob E.ro σ.rd) fun rd =>
   B3x E v h (ih.run K of ⟨(slR o.dst).put v σ.sl,B5S E.wo σ.ob,rd,h,σ.mks⟩)⟩) l
theorem B1s {K:KS} {ops:Array Oper} {sl:Nat→A} {nx:Nat} {o:Oper} {E:N2} (hr:X0 T K ops sl of nx o=some E):E.dst=o.dst:=(A0c hr).2.2.1
theorem B3y (ops:Array Oper) (K:KS) (of:Nat→Option Ob):∀ (l:List Oper) (σ:St),(rnR T ops l).run K of σ=E9 T K ops of l σ:=by
 intro l
 induction l with
 | nil=>intro σ;rfl
 | cons o r ih =>
  intro σ
  show goE ((enR T ops o).run K (D5 σ.sl) (B7 σ.ob of) σ.nx) σ (fun E=>B5N E.val fun v=>B1p E.hi fun h=>B5P (A8W σ.ob E.ro σ.rd) fun rd =>
   B3x E v h ((rnR T ops r).run K of ⟨(slR o.dst).put v σ.sl,B5S E.wo σ.ob,rd,h,σ.mks⟩))=_
  rw [B83,W0]
  cases hE:X0 T K ops (D5 σ.sl) (B7 σ.ob of) σ.nx o with
  | none=>rfl
  | some E =>
   show (B5N E.val fun v=>B1p E.hi fun h=>B5P (A8W σ.ob E.ro σ.rd) fun rd=>B3x E v h ((rnR T ops r).run K of ⟨(slR o.dst).put v σ.sl,B5S E.wo σ.ob,rd,h,σ.mks⟩))=_
   have:(⟨(slR o.dst).put E.val σ.sl,A0b σ.ob E.wo,Y0 σ.ob E.ro σ.rd,E.hi,σ.mks⟩:St)=σ.app E:=by
    unfold St.app
    rw [B1s hE]
    cases o.dst<;>rfl
   simp only [B5O,A6r,B5Q,B5R,B5T,ih,this]
   cases E9 T K ops of r (σ.app E)<;>rfl
def goD (q:Option (List N2×St)):(List N2→St→Option (Exit×St))→Option (Exit×St) :=
 @Option.rec (List N2×St) (fun _=>(List N2→St→Option (Exit×St))→Option (Exit×St)) (fun _=>none) (fun p k=>k p.1 p.2) q
structure CoR where
 run:KS→(Nat→Option Ob)→St→Option (Exit×St)
def B3z (q:Option (Exit×St)):(St→Option (Exit×St))→Option (Exit×St) :=
 @Option.rec (Exit×St) (fun _=>(St→Option (Exit×St))→Option (Exit×St)) (fun _=>none)
  (fun p k=>@Exit.rec (fun _=>St→(St→Option (Exit×St))→Option (Exit×St)) (fun σ k=>k σ) (fun i σ _=>some (.exit i,σ)) (fun i σ _=>some (.goto i,σ)) (fun σ _=>some (.ret,σ)) (fun c σ _=>some (.panic c,σ)) (fun σ _=>some (.outgrown,σ)) p.1 p.2 k) q
theorem B0h (q:Option (Exit×St)) (k:St→Option (Exit×St)):B3z q k=match q with
  | some (.normal,σ)=>k σ
  | r=>r:=by
 cases q with
 | none=>rfl
 | some p=>obtain ⟨ex,σ⟩:=p;cases ex<;>rfl
def B84 (id:Nat) (q:Option (Exit×St)):Option (Exit×St) :=
 @Option.rec (Exit×St) (fun _=>Option (Exit×St)) none
  (fun p=>@Exit.rec (fun _=>St→Option (Exit×St)) (fun σ=>some (.normal,σ)) (fun i σ=>some (bif Nat.beq i id then .normal else .exit i,σ)) (fun i σ=>some (.goto i,σ)) (fun σ=>some (.ret,σ)) (fun c σ=>some (.panic c,σ)) (fun σ=>some (.outgrown,σ)) p.1 p.2) q
theorem B56 (id:Nat) (q:Option (Exit×St)):B84 id q=match q with
  | some (.exit id',σ')=>some (if Nat.beq id' id then .normal else .exit id',σ')
  | r=>r:=by
 cases q with
 | none=>rfl
 | some p =>
  obtain ⟨ex,σ⟩:=p
  cases ex with
  | exit i =>
   show some (bif Nat.beq i id then Exit.normal else Exit.exit i,σ)=some (if Nat.beq i id=true then Exit.normal else Exit.exit i,σ)
   cases Nat.beq i id<;>rfl
  | _=>rfl
def C27 (q:Option (List N2×St)):Option (Exit×St) :=
 @Option.rec (List N2×St) (fun _=>Option (Exit×St)) none (fun p=>some (.normal,p.2)) q
def B57 (T:TT) (nt:Nat) (ops:Array Oper) (draw:Bool):CoR :=
 match draw with
 | false=>if ops.toList.all (A1M nt) then ⟨fun K of σ=>C27 ((rnR T ops ops.toList).run K of σ)⟩ else ⟨fun _ _ _=>none⟩
 | true=>if A4i nt ops then ⟨fun K of σ=>goD ((rnR T ops ops.toList).run K of σ) fun Es σ'=>bif A1a (T5 ops.toList []) Es 0 Es then some (.normal,σ') else
    goD ((rnR T ops ops.toList).run K of (σ.pre of (B1N (B7 σ.ob of) Es))) fun Es2 σ2=>bif A1a (T5 ops.toList []) Es2 0 Es2 then some (.normal,σ2) else none⟩ else ⟨fun _ _ _=>none⟩
theorem B58 (nt:Nat) (ops:Array Oper) (draw:Bool) (id:Nat) (K:KS) (fu:Nat) (of:Nat→Option Ob) (σ:St):(B57 T nt ops draw).run K of σ=G1 T K (fun _=>none) fu nt of (.region id ops draw) σ:=by
 cases draw with
 | false =>
  simp only [B57,G1]
  split
  ·simp only [B3y]
   cases E9 T K ops of ops.toList σ<;>rfl
  ·rfl
 | true =>
  simp only [B57,G1]
  split
  ·simp only [B3y]
   cases E9 T K ops of ops.toList σ with
   | none=>rfl
   | some p =>
    obtain ⟨Es,σ'⟩:=p
    show (bif A1a (T5 ops.toList []) Es 0 Es then _ else _)=_
    simp only
    cases A1a (T5 ops.toList []) Es 0 Es with
    | true=>rfl
    | false =>
     simp only [cond_false,Bool.false_eq_true,if_false]
     cases E9 T K ops of ops.toList (σ.pre of (B1N (B7 σ.ob of) Es)) with
     | none=>rfl
     | some p2 =>
      obtain ⟨Es2,σ2⟩:=p2
      show (bif A1a (T5 ops.toList []) Es2 0 Es2 then _ else _)=_
      simp only
      cases A1a (T5 ops.toList []) Es2 0 Es2<;>rfl
  ·rfl
def A3B (ks:List Nat) (f:St→Option (Exit×St)) (n:Nat):St→Option (Exit×St) :=
 @Nat.rec (fun _=>St→Option (Exit×St)) (fun _=>none) (fun _ ih σ=>B3z (f (σ.tidy ks)) ih) n
theorem A81 (ks:List Nat) (f:St→Option (Exit×St)):∀ (n:Nat) (σ:St),A3B ks f n σ=A1b ks f n σ:=by
 intro n
 induction n with
 | zero=>intro σ;rfl
 | succ n ih =>
  intro σ
  show B3z (f (σ.tidy ks)) (A3B ks f n)=_
  rw [B0h]
  simp only [A1b]
  cases hf:f (σ.tidy ks) with
  | none=>rfl
  | some p =>
   obtain ⟨ex,σ1⟩:=p
   cases ex with
   | normal=>exact ih σ1
   | _=>rfl
def coR (T:TT) (fu nt:Nat) (cd:Code):CoR :=
 @Code.rec (fun _=>CoR) ⟨fun _ _ σ=>some (.normal,σ)⟩ (fun _ ops draw=>B57 T nt ops draw)
  (fun _ _ x y=>⟨fun K of σ=>B3z (x.run K of σ) (y.run K of)⟩)
  (fun q _ _ x y=>⟨fun K of σ=>B82 ((V5 q).get (D5 σ.sl)) (fun t=>bif t then x.run K of σ else y.run K of σ) none none⟩)
  (fun id _ b=>⟨fun K of σ=>B84 id (b.run K of σ)⟩)
  (fun _ b=>⟨fun K of σ=>A3B (A1N σ.sl []) (b.run K of) fu σ⟩)
  (fun g ps asg body _ _=>⟨fun K of σ=>A2S T K nt of g ps asg body σ⟩)
  (fun id=>⟨fun _ _ σ=>some (.exit id,σ)⟩)
  (fun _ _=>⟨fun _ _ _=>none⟩) (fun _=>⟨fun _ _ _=>none⟩) (fun _=>⟨fun _ _ _=>none⟩) ⟨fun _ _ σ=>some (.ret,σ)⟩ (fun _=>⟨fun _ _ _=>none⟩) cd
theorem B3A (K:KS) (fu nt:Nat) (of:Nat→Option Ob):∀ (cd:Code) (σ:St),(coR T fu nt cd).run K of σ=G1 T K (fun _=>none) fu nt of cd σ:=by
 intro cd
 induction cd with
 | region id ops draw=>intro σ;exact B58 nt ops draw id K fu of σ
 | seq x y ihx ihy =>
  intro σ
  show B3z ((coR T fu nt x).run K of σ) ((coR T fu nt y).run K of)=_
  rw [B0h,ihx]
  simp only [G1]
  cases G1 T K (fun _=>none) fu nt of x σ with
  | none=>rfl
  | some p =>
   obtain ⟨ex,σ1⟩:=p
   cases ex with
   | normal=>exact ihy σ1
   | _=>rfl
 | cond q x y ihx ihy =>
  intro σ
  show B82 ((V5 q).get (D5 σ.sl)) (fun t=>bif t then (coR T fu nt x).run K of σ else (coR T fu nt y).run K of σ) none none=_
  rw [L4]
  simp only [G1]
  cases J9 (D5 σ.sl) q with
  | b t =>
   show (bif t then (coR T fu nt x).run K of σ else (coR T fu nt y).run K of σ)=_
   cases t
   ·exact ihy σ
   ·exact ihx σ
  | _=>rfl
 | block id b ih =>
  intro σ
  show B84 id ((coR T fu nt b).run K of σ)=_
  rw [B56,ih]
  simp only [G1]
  cases G1 T K (fun _=>none) fu nt of b σ with
  | none=>rfl
  | some p=>obtain ⟨ex,σ1⟩:=p;cases ex<;>rfl
 | loop b ih =>
  intro σ
  show A3B (A1N σ.sl []) ((coR T fu nt b).run K of) fu σ=_
  rw [A81]
  simp only [G1]
  congr 1
  funext σ
  exact ih σ
 | _=>intro σ;rfl
structure FnR where
 run:KS→List A→(Nat→Option Ob)→Nat→Option M8
def B85 (T:TT) (rs:List ResultVar) (of:Nat→Option Ob) (nx:Nat) (ex:Exit) (σ:St):Option M8 :=
 bif B4g ex then
  (match σ.mks with
  | some ms=>if A74 nx σ.nx σ.ob.get ms then
   (match A4k T (D5 σ.sl) (B7 σ.ob of) rs with
   | some (v,ro)=>some (A4o ms (A3n nx v σ ro))
   | none=>none) else none
  | none=>none) else none
def C0L (q:Option (Exit×St)):(Exit→St→Option M8)→Option M8 :=
 @Option.rec (Exit×St) (fun _=>(Exit→St→Option M8)→Option M8) (fun _=>none) (fun p k=>k p.1 p.2) q
def fnR (P:Program) (T:TT) (fu f:Nat):FnR :=
 match P.funcs[f]? with
 | some fn=>match fn.body with
  | some code=>bif !(fn.name == "runtime.NumGoroutine") then ⟨fun K args of nx=>bif Nat.ble args.length fn.ntmps then C0L ((coR T fu fn.ntmps code).run K of ⟨A4n 0 args,.e,[],nx,some []⟩) (B85 T fn.results.toList of nx) else none⟩ else ⟨fun _ _ _ _=>none⟩
  | none=>⟨fun _ _ _ _=>none⟩
 | none=>⟨fun _ _ _ _=>none⟩
theorem B86 (P:Program) (K:KS) (fu f:Nat) (args:List A) (of:Nat→Option Ob) (nx:Nat):(fnR P T fu f).run K args of nx=A2o P T K (fun _ _=>none) fu f args of nx:=by
 unfold fnR A2o
 cases P.funcs[f]? with
 | none=>rfl
 | some fn =>
  simp only
  cases fn.body with
  | none=>rfl
  | some code =>
   simp only
   cases (fn.name == "runtime.NumGoroutine")
   ·simp only [Bool.not_false,cond_true,Bool.true_and]
    cases Nat.ble args.length fn.ntmps
    ·rfl
    ·simp only [cond_true,if_true,B3A]
     cases G1 T K (fun _=>none) fu fn.ntmps of code ⟨A4n 0 args,.e,[],nx,some []⟩ with
     | none=>rfl
     | some p =>
      obtain ⟨ex,σ⟩:=p
      show B85 T fn.results.toList of nx ex σ=_
      unfold B85
      simp only
      cases B4g ex with
      | false=>rfl
      | true =>
       cases σ.mks with
       | none=>rfl
       | some ms =>
        simp only [cond_true,if_true]
        cases A74 nx σ.nx σ.ob.get ms with
        | false=>rfl
        | true =>
         simp only [if_true]
         cases A4k T (D5 σ.sl) (B7 σ.ob of) fn.results.toList<;>rfl
   ·rfl
def A2P (T:TT) (K:KS) (fu id:Nat):N9:=fun args of nx =>
 match lpE T6 (of id) with
 | some r=>@LR.rec (fun _=>Option M8) (fun nt sl ps asg body st pend =>
   bif Nat.beq args.length ps.size&&ps.toList.all (fun p=>Nat.blt p nt) then
   C0L ((coR T fu nt asg).run K of ⟨A6I ps.toList args sl,.e,[id],nx,none⟩) (fun ex σ1=>match ex with
    | .normal=>(match lpE T6 (B7 σ1.ob of id) with
     | some r1=>@LR.rec (fun _=>Option M8) (fun nt1 sl1 ps1 asg1 body1 st1 pend1=>B6I id nx of ((coR T fu nt body).run K of (setLp σ1 id ⟨nt1,sl1,ps1,asg1,body1,.busy,pend1⟩))) r1
     | none=>none)
    | _=>none) else none) r
 | none=>none
theorem B1t (K:KS) (fu id:Nat) (args:List A) (of:Nat→Option Ob) (nx:Nat):A2P T K fu id args of nx=Z3 T K fu id args of nx:=by
 unfold A2P Z3
 cases lpE T6 (of id) with
 | none=>rfl
 | some r =>
  obtain ⟨nt,sl,ps,asg,body,st,pend⟩:=r
  simp only
  cases (Nat.beq args.length ps.size&&ps.toList.all (fun p=>Nat.blt p nt))
  ·rfl
  ·simp only [cond_true,if_true,B3A]
   cases G1 T K (fun _=>none) fu nt of asg ⟨A6I ps.toList args sl,.e,[id],nx,none⟩ with
   | none=>rfl
   | some p =>
    obtain ⟨ex,σ1⟩:=p
    cases ex with
    | normal =>
     show (match lpE T6 (B7 σ1.ob of id) with | some r1=>_ | none=>none)=_
     simp only
     cases lpE T6 (B7 σ1.ob of id) with
     | none=>rfl
     | some r1=>rfl
    | _=>rfl
def fnZ (P:Program) (T:TT) (C:Nat→Option N9) (fu f:Nat):FnR :=
 match C f with
 | some s=>⟨fun _ args of nx=>s args of nx⟩
 | none=>fnR P T fu f
def B0i (P:Program) (T:TT) (C:Nat→Option N9) (fu:Nat) (d:Nat):KS :=
 @Nat.rec (fun _=>KS) ⟨fun _ _ _ _=>none,fun _ _ _ _=>none,fun _=>false⟩
  (fun _ ih=>⟨fun f args of nx=>(fnZ P T C fu f).run ih args of nx,fun id=>A2P T ih fu id,A1X P⟩) d
theorem B3B (P:Program) (C:Nat→Option N9) (fu:Nat):∀ d,B0i P T C fu d=A6J P T C (fun _ _ _=>none) fu d:=by
 intro d
 induction d with
 | zero=>rfl
 | succ d ih =>
  show (⟨fun f args of nx=>(fnZ P T C fu f).run (B0i P T C fu d) args of nx,fun id=>A2P T (B0i P T C fu d) fu id,A1X P⟩:KS)=⟨fun f=>match C f with
   | some s=>s
   | none=>A2o P T (A6J P T C (fun _ _ _=>none) fu d) (fun _ _=>none) fu f,fun id=>Z3 T (A6J P T C (fun _ _ _=>none) fu d) fu id,A1X P⟩
  rw [ih]
  generalize A6J P T C (fun _ _ _=>none) fu d=K0
  have e1:∀ f,(fun args of nx=>(fnZ P T C fu f).run K0 args of nx)=(match C f with
   | some s=>s
   | none=>A2o P T K0 (fun _ _=>none) fu f):=fun f=>by
   funext args of nx
   unfold fnZ
   cases C f with
   | none=>exact B86 P K0 fu f args of nx
   | some s=>rfl
  have e2:∀ id,A2P T K0 fu id=Z3 T K0 fu id:=fun id=>by
   funext args of nx
   exact B1t K0 fu id args of nx
  rw [show (fun f args of nx=>(fnZ P T C fu f).run K0 args of nx)=_ from funext e1,show (fun id=>A2P T K0 fu id)=_ from funext e2]
def B3C (P:Program) (T:TT) (C:Nat→Option N9) (fu d f:Nat):N9:=(B0i P T C fu d).f f
theorem B3D (P:Program) (C:Nat→Option N9) (fu d f:Nat):B3C P T C fu d f=A9B P T C (fun _ _ _=>none) fu d f:=by
 unfold B3C A9B
 rw [B3B]
variable {T:TT}
def ob {α R:Type} (o:Option α) (k:α→Option R):Option R :=
 match o with
 | some a=>k a
 | none=>none
abbrev J4:=(R:Type)→List A→(Nat→Option Ob)→Nat→(M8→Option R)→Option R
def J4.dir (s:J4):N9:=fun args of nx=>s M8 args of nx some
def J4.nat (s:J4):Prop:=∀ (R:Type) (args:List A) (of:Nat→Option Ob) (nx:Nat) (k:M8→Option R),s R args of nx k=ob (s.dir args of nx) k
def A4d (s:N9):J4:=fun _ args of nx k=>ob (s args of nx) k
theorem A2Q (s:N9):(A4d s).nat:=by
 intro R args of nx k
 simp only [A4d,J4.dir]
 cases s args of nx<;>rfl
theorem A2R (s:N9):(A4d s).dir=s:=by
 funext args of nx
 simp only [A4d,J4.dir]
 cases s args of nx<;>rfl
theorem A6t {α R:Type} (q:Bool) (a:Option α) (k:α→Option R):ob (if q=true then a else none) k=bif q then ob a k else none:=by cases q<;>rfl
variable {R:Type}
def A82 (T:TT) (of:Nat→Option Ob) (el:Nat) (u:A) (k:List V×List Nat→Option R):Option R :=
 match u with
 | .w id ver off n=>match of id with
  | some (.row el' v xs _ _)=>bif Nat.beq el el'&&Nat.beq v ver then (bif Nat.ble (off+n) xs.length then k ((xs.drop off).take n,[id]) else none) else none
  | _=>none
 | u=>ob (F9 T of el u) k
theorem A3C (of:Nat→Option Ob) (el:Nat) (u:A) (k:List V×List Nat→Option R):A82 T of el u k=ob (F9 T of el u) k:=by
 unfold A82
 split
 ·rename_i id ver off n
  simp only [F9]
  cases of id with
  | none=>rfl
  | some o =>
   cases o with
   | row el' v xs nl sh=>simp only;cases (Nat.beq el el'&&Nat.beq v ver)<;>cases Nat.ble (off+n) xs.length<;>rfl
   | _=>rfl
 ·rfl
def A1U (T:TT) (of:Nat→Option Ob) (t:Nat) (i:Int) (u:A) (k:A×List Nat→Option R):Option R :=
 match B2 T t with
 | some (.arr n el)=>bif (T el).isSome then bif J1 0 i&&E8 i n then
   (match u with
   | .p id t' path=>bif same T t t' then k (.p id el (path++[i.toNat]),[]) else none
   | .e id ver j t' path=>bif same T t t'&&A9M of id ver then k (.e id ver j el (path++[i.toNat]),[id]) else none
   | .c t' y=>bif same T t t' then k (.c el (y.nth i.toNat),[]) else none
   | _=>none)
  else none else none
 | some (.slice el)=>bif (T el).isSome then
   (match u with
   | .o id ver=>match of id with
    | some (.row el' v xs _ _)=>bif Nat.beq el el'&&Nat.beq v ver then (bif J1 0 i&&E8 i xs.length then k (.e id ver i.toNat el [],[id]) else none) else none
    | _=>none
   | .w id ver off n=>match of id with
    | some (.row el' v xs _ _)=>bif Nat.beq el el'&&Nat.beq v ver then (bif J1 0 i&&E8 i n then k (.e id ver (off+i.toNat) el [],[id]) else none) else none
    | _=>none
   | .v t' y=>bif same T t t' then (bif J1 0 i&&E8 i y.els.length then k (.c el (y.nth i.toNat),[]) else none) else none
   | .q t' y=>bif same T t t' then (bif J1 0 i&&E8 i y.els.length then k (.c el (y.nth i.toNat),[]) else none) else none
   | .a id t1 path l0 m=>match B2 T t1 with
    | some (.arr _ el')=>bif Nat.beq el el' then (bif J1 0 i&&E8 i m then k (.p id el (path++[l0+i.toNat]),[]) else none) else none
    | _=>none
   | _=>none)
  else none
 | _=>none
theorem A44 (of:Nat→Option Ob) (t:Nat) (i:Int) (u:A) (k:A×List Nat→Option R):A1U T of t i u k=ob (J8 T of t i u) k:=by
 unfold A1U J8
 cases B2 T t with
 | none=>rfl
 | some kk =>
 cases kk with
 | arr n el =>
  simp only
  cases u with
  | p id t' path=>simp only;cases (T el).isSome<;>cases J1 0 i<;>cases E8 i (n:Int)<;>cases same T t t'<;>rfl
  | e id ver j t' path=>simp only;cases (T el).isSome<;>cases J1 0 i<;>cases E8 i (n:Int)<;>cases same T t t'<;>cases A9M of id ver<;>rfl
  | c t' y=>simp only;cases (T el).isSome<;>cases J1 0 i<;>cases E8 i (n:Int)<;>cases same T t t'<;>rfl
  | _=>simp only;cases (T el).isSome<;>cases J1 0 i<;>cases E8 i (n:Int)<;>rfl
 | slice el =>
  simp only
  cases (T el).isSome
  ·cases J1 0 i<;>rfl
  ·simp only [cond_true,Bool.and_true]
   cases u with
   | o id ver =>
    simp only
    cases of id with
    | none=>cases J1 0 i<;>rfl
    | some o =>
     cases o with
     | row el' v xs nl sh=>simp only;cases J1 0 i<;>cases (Nat.beq el el'&&Nat.beq v ver)<;>cases E8 i xs.length<;>rfl
     | _=>cases J1 0 i<;>rfl
   | w id ver off n =>
    simp only
    cases of id with
    | none=>cases J1 0 i<;>rfl
    | some o =>
     cases o with
     | row el' v xs nl sh=>simp only;cases J1 0 i<;>cases (Nat.beq el el'&&Nat.beq v ver)<;>cases E8 i n<;>rfl
     | _=>cases J1 0 i<;>rfl
   | v t' y=>simp only;cases J1 0 i<;>cases same T t t'<;>cases E8 i y.els.length<;>rfl
   | q t' y=>simp only;cases J1 0 i<;>cases same T t t'<;>cases E8 i y.els.length<;>rfl
   | a id t1 path l0 m =>
    simp only
    cases B2 T t1 with
    | none=>cases J1 0 i<;>rfl
    | some k1 =>
     cases k1 with
     | arr n' el'=>simp only;cases J1 0 i<;>cases Nat.beq el el'<;>cases E8 i m<;>rfl
     | _=>cases J1 0 i<;>rfl
   | _=>cases J1 0 i<;>rfl
 | _=>rfl
def A83 (T:TT) (t:Nat) (i:Int) (u:A) (k:A→Option R):Option R :=
 match u with
 | .s l=>match B2 T t with
  | some .str=>bif J1 0 i&&E8 i l.length then k (.i .u8 (l.getD i.toNat .n).int) else none
  | _=>none
 | .v t' y=>match B2 T t with
  | some (.arr n el)=>bif same T t t'&&(T el).isSome then (bif J1 0 i&&E8 i n then k (mkA T el (y.nth i.toNat)) else none) else none
  | _=>none
 | .g t' l=>ob (B92 T t i t' l) k
 | _=>none
theorem B1u (t:Nat) (i:Int) (u:A) (k:A→Option R):A83 T t i u k=ob (A21 T t i u) k:=by
 unfold A83 A21
 cases u with
 | s l =>
  simp only
  cases B2 T t with
  | none=>rfl
  | some k1=>cases k1 with
   | str=>simp only;cases (J1 0 i&&E8 i l.length)<;>rfl
   | _=>rfl
 | v t' y =>
  simp only
  cases B2 T t with
  | none=>rfl
  | some k1=>cases k1 with
   | arr n el=>simp only;cases same T t t'<;>cases (T el).isSome<;>cases J1 0 i<;>cases E8 i n<;>rfl
   | _=>rfl
 | _=>rfl
def B87 (op:BinOp) (kd:IntKind) (a b:Int) (k:A→Option R):Option R :=
 match op with
 | .quo=>bif ieq b 0 then none else k (.i kd (kd.wrap (a.tdiv b)))
 | .rem=>bif ieq b 0 then none else k (.i kd (a.tmod b))
 | .shl=>bif J1 0 b then k (.i kd (kd.wrap (a * 2 ^ min b.toNat kd.bits))) else none
 | .shr=>bif J1 0 b then k (.i kd (a.fdiv (2 ^ min b.toNat kd.bits))) else none
 | op=>ob (A1K op kd a b) k
theorem B59 (op:BinOp) (kd:IntKind) (a b:Int) (k:A→Option R):B87 op kd a b k=ob (A1K op kd a b) k:=by
 cases op<;>simp only [B87,A1K]
 ·cases ieq b 0<;>rfl
 ·cases ieq b 0<;>rfl
 ·cases J1 0 b<;>rfl
 ·cases J1 0 b<;>rfl
def B88 (op:BinOp) (x y:List V) (k:A→Option R):Option R :=
 match op with
 | .add=>bif Nat.ble (x.length+y.length) LIM then k (.s (x++y)) else none
 | op=>ob (A9L op x y) k
theorem B6a (op:BinOp) (x y:List V) (k:A→Option R):B88 op x y k=ob (A9L op x y) k:=by
 cases op<;>simp only [B88,A9L]
 cases Nat.ble (x.length+y.length) LIM<;>rfl
def B89 (T:TT) (of:Nat→Option Ob) (op:BinOp) (xt:Nat) (u v:A) (k:A×List Nat→Option R):Option R :=
 match u,v with
 | .i kd a,.i k' b=>bif A0Z op||A2W kd k' then B87 op kd a b fun r=>k (r,[]) else none
 | .s a,.s b=>B88 op a b fun r=>k (r,[])
 | u,v=>ob (A4G T of op xt u v) k
theorem B6b (of:Nat→Option Ob) (op:BinOp) (xt:Nat) (u v:A) (k:A×List Nat→Option R):B89 T of op xt u v k=ob (A4G T of op xt u v) k:=by
 unfold B89
 split
 ·rename_i kd a k' b
  simp only [A4G]
  cases (A0Z op||A2W kd k')
  ·rfl
  ·simp only [cond_true,if_true,B59]
   cases A1K op kd a b<;>rfl
 ·rename_i a b
  simp only [A4G,B6a]
  cases A9L op a b<;>rfl
 ·rfl
def unC (op:UnOp) (u:A) (k:A→Option R):Option R :=
 match op,u with
 | .xor,.i kd n=>k (.i kd (F5 .xor kd (if kd.signed then -1 else kd.max) n))
 | op,u=>ob (unA op u) k
theorem A7I (op:BinOp) (kd:IntKind) (x y:Int):A9P kd (F5 op kd x y)=true:=by
 have:=J5 kd (match op with
  | .and=>(BitVec.ofInt kd.bits x &&& BitVec.ofInt kd.bits y).toNat
  | .or=>(BitVec.ofInt kd.bits x ||| BitVec.ofInt kd.bits y).toNat
  | .xor=>(BitVec.ofInt kd.bits x ^^^ BitVec.ofInt kd.bits y).toNat
  | _=>(BitVec.ofInt kd.bits x &&& ~~~BitVec.ofInt kd.bits y).toNat:Nat)
 unfold A9P
 rw [C3o,K9,K9]
 exact this
theorem B9a (op:UnOp) (u:A) (k:A→Option R):unC op u k=ob (unA op u) k:=by
 unfold unC
 split
 ·rename_i kd n
  simp only [unA,chk,A7I,if_true]
  rfl
 ·rfl
def B6c (T:TT) (of:Nat→Option Ob) (t:Nat) (u:A) (k:A×List Nat→Option R):Option R :=
 match B2 T t with
 | some .str=>match u with
  | .s l=>bif Nat.ble l.length 9223372036854775807 then k (.i .i64 (l.length:Nat),[]) else none
  | _=>none
 | some (.slice el)=>match u with
  | .s _=>none
  | u=>A82 T of el u fun p=>bif Nat.ble p.1.length 9223372036854775807 then k (.i .i64 (p.1.length:Nat),p.2) else none
 | some (.map _ _)=>match u with
  | .m id=>match of id with
   | some (.map _ _ es)=>bif Nat.ble es.length 9223372036854775807 then k (.i .i64 (es.length:Nat),[id]) else none
   | some (.vm _ _ es)=>bif Nat.ble es.length 9223372036854775807 then k (.i .i64 (es.length:Nat),[id]) else none
   | _=>none
  | _=>none
 | _=>none
theorem B6d (of:Nat→Option Ob) (t:Nat) (u:A) (k:A×List Nat→Option R):B6c T of t u k=ob (B1n T of t u) k:=by
 unfold B1n
 cases hq:A3l of u with
 | some q =>
  obtain ⟨id,kt',et',es⟩:=q
  obtain ⟨rfl,hof⟩:=U7 hq
  unfold B6c
  simp only
  cases hk:B2 T t with
  | none=>rfl
  | some kk=>cases kk with
   | map kt et=>simp only [hof];cases Nat.ble es.length 9223372036854775807<;>rfl
   | slice el=>simp only [A82,F9];rfl
   | _=>rfl
 | none =>
 simp only
 unfold B6c A9O
 cases B2 T t with
 | none=>rfl
 | some kk =>
  cases kk with
  | str=>cases u with
   | s l=>simp only;cases Nat.ble l.length 9223372036854775807<;>rfl
   | _=>rfl
  | slice el =>
   have gen:∀ o:Option (List V×List Nat),ob o (fun p=>bif Nat.ble p.1.length 9223372036854775807 then k (A.i .i64 (p.1.length:Nat),p.2) else none)=ob (match o with | some (xs,ro)=>(if Nat.ble xs.length 9223372036854775807=true then some (A.i .i64 (xs.length:Nat),ro) else none) | none=>none) k:=by
    intro o
    cases o with
    | none=>rfl
    | some p=>simp only [ob];cases Nat.ble p.1.length 9223372036854775807<;>rfl
   cases u with
   | s l=>simp only;cases F9 T of el (.s l)<;>rfl
   | _=>simp only [A3C];exact gen _
  | map kt et=>cases u with
   | m id =>
    simp only
    cases A7:of id with
    | none=>rfl
    | some o=>cases o with
     | map kt' et' es=>simp only;cases Nat.ble es.length 9223372036854775807<;>rfl
     | vm kt' et' es=>exfalso;unfold A3l at hq;simp only [A7] at hq;cases hq
     | _=>rfl
   | _=>rfl
  | _=>rfl
def A6u (T:TT) (of:Nat→Option Ob) (nx t:Nat) (x y:A) (k:Out→Option R):Option R :=
 match B2 T t with
 | some (.slice el)=>match T el with
  | some te=>A82 T of el y fun p=>bif Nat.ble te.bytes 131072&&TK.notOther te.k&&Nat.blt 0 te.size then
    (match x with
    | .o id ver=>match of id with
     | some (.row el' v xs nl sh)=>bif Nat.beq el el'&&Nat.beq v ver then (bif Nat.ble (xs.length+p.1.length) LIM then
       k ⟨.o id (ver+1),[(id,.row el (ver+1) (xs++p.1) (nl&&p.1.isEmpty) sh)],id::p.2,[]⟩ else none) else none
     | _=>none
    | .w id ver off n=>match of id with
     | some (.row el' v xs false sh)=>bif Nat.beq el el'&&Nat.beq v ver then (bif Nat.ble (off+n) xs.length then (bif Nat.beq (off+n) xs.length||!sh then (bif Nat.ble (n+p.1.length) LIM then
       k ⟨.o id (ver+1),[(id,.row el (ver+1) ((xs.drop off).take n++p.1) false sh)],id::p.2,[]⟩ else none) else none) else none) else none
     | _=>none
    | .v t' .n=>bif same T t t' then (bif Nat.ble p.1.length LIM then k ⟨.o nx 1,[(nx,.row el 1 p.1 p.1.isEmpty false)],p.2,[nx]⟩ else none) else none
    | .z v=>bif A3Q v then (bif Nat.ble p.1.length LIM then k ⟨.o nx 1,[(nx,.row el 1 p.1 p.1.isEmpty false)],p.2,[nx]⟩ else none) else none
    | .q t' x=>bif same T t t' then (bif !p.1.isEmpty then (bif Nat.ble (x.els.length+p.1.length) LIM then k ⟨.o nx 1,[(nx,.row el 1 (x.els++p.1) p.1.isEmpty false)],p.2,[nx]⟩ else none) else none) else none
    | _=>none)
   else none
  | none=>none
 | _=>none
theorem A84 (of:Nat→Option Ob) (nx t:Nat) (x y:A) (k:Out→Option R):A6u T of nx t x y k=ob (A0i T of nx t x y) k:=by
 unfold A6u A0i
 cases B2 T t with
 | none=>rfl
 | some kk =>
 cases kk with
 | slice el =>
  simp only
  cases T el with
  | none=>rfl
  | some te =>
   simp only [A3C]
   cases F9 T of el y with
   | none=>rfl
   | some p =>
    obtain ⟨ns,ro⟩:=p
    simp only [ob]
    cases (Nat.ble te.bytes 131072&&TK.notOther te.k&&Nat.blt 0 te.size)
    ·rfl
    ·simp only [cond_true,if_true]
     cases x with
     | o id ver =>
      simp only
      cases of id with
      | none=>rfl
      | some o=>cases o with
       | row el' v xs nl sh=>simp only;cases (Nat.beq el el'&&Nat.beq v ver)<;>cases Nat.ble (xs.length+ns.length) LIM<;>rfl
       | _=>rfl
     | w id ver off n =>
      simp only
      cases of id with
      | none=>rfl
      | some o=>cases o with
       | row el' v xs nl sh=>cases nl<;>simp only<;>cases (Nat.beq el el'&&Nat.beq v ver)<;>cases Nat.ble (off+n) xs.length<;>cases (Nat.beq (off+n) xs.length||!sh)<;>cases Nat.ble (n+ns.length) LIM<;>rfl
       | _=>rfl
     | v t' y=>cases y with
      | n=>simp only;cases same T t t'<;>cases Nat.ble ns.length LIM<;>rfl
      | _=>rfl
     | z v=>simp only;cases A3Q v<;>cases Nat.ble ns.length LIM<;>rfl
     | q t' x'=>simp only;cases same T t t'<;>cases ns.isEmpty<;>cases Nat.ble (x'.els.length+ns.length) LIM<;>rfl
     | _=>rfl
 | _=>rfl
variable {T:TT} {R:Type}
def X5 (n:Nat) (lo hi:Option A) (k:Nat×Nat→Option R):Option R :=
 match F3 (0:Nat) lo,F3 n hi with
 | some l,some h=>bif J1 0 l&&J1 l h&&J1 h n then k (l.toNat,(h - l).toNat) else none
 | _,_=>none
theorem U8 (n:Nat) (lo hi:Option A) (k:Nat×Nat→Option R):X5 n lo hi k=ob (M6 n lo hi) k:=by
 unfold X5 M6
 cases F3 (0:Nat) lo with
 | none=>rfl
 | some l=>cases F3 n hi with
  | none=>rfl
  | some h=>simp only;cases (J1 0 l&&J1 l h&&J1 h n)<;>rfl
def A85 (T:TT) (of:Nat→Option Ob) (t:Nat) (u:A) (lo hi mx:Option A) (k:A×List (Nat×Ob)×List Nat→Option R):Option R :=
 match mx with
 | some mx=>(match B2 T t with
  | some (.slice el)=>bif (T el).isSome&&isQ T u then
    (match F3 (0:Nat) lo,hi,mx with
    | some l,some (.i _ h),.i _ h'=>bif ieq h h' then (match J0 T DEP of t u with
     | some (x,wo)=>bif J1 0 l&&J1 l h&&J1 h x.els.length then k (.q t (A3T x l.toNat (h - l).toNat),wo,U1 wo) else none
     | none=>none) else none
    | _,_,_=>none) else none
  | _=>none)
 | none =>
 match B2 T t with
 | some .str=>match u with
  | .s l=>X5 l.length lo hi fun p=>k (.s ((l.drop p.1).take p.2),[],[])
  | _=>none
 | some (.slice el)=>bif (T el).isSome&&isQ T u then
   (match zV T t u with
    | .v t' y=>bif same T t t' then X5 y.els.length lo hi fun p=>k (.v t' (A3T y p.1 p.2),[],[]) else none
    | .w id ver off n=>match of id with
     | some (.row el' v xs _ _)=>bif Nat.beq el el'&&Nat.beq v ver then X5 n lo hi fun p=>k (.w id ver (off+p.1) p.2,[],[id]) else none
     | _=>none
    | .o id ver=>match of id with
     | some (.row el' v xs false _)=>bif Nat.beq el el'&&Nat.beq v ver then X5 xs.length lo hi fun p=>k (.w id ver (0+p.1) p.2,[],[id]) else none
     | some (.row el' v xs true _)=>bif Nat.beq el el'&&Nat.beq v ver&&Q7 T t then X5 0 lo hi fun p=>k (.v t (A3T .n p.1 p.2),[],[id]) else none
     | _=>none
    | .a id t1 path lo0 m=>match B2 T t1 with
     | some (.arr _ el')=>bif Nat.beq el el' then X5 m lo hi fun p=>k (.a id t1 path (lo0+p.1) p.2,[],[]) else none
     | _=>none
    | _=>none)
  else none
 | some (.arr n el)=>match u with
  | .p id t1 path=>bif same T t t1&&(T el).isSome then X5 n lo hi fun p=>k (.a id t1 path p.1 p.2,[],[]) else none
  | _=>none
 | _=>none
theorem L5 {α:Type} (q:Bool) (a:Option α) (k:α→Option R):ob (if q=true then a else none) k=bif q then ob a k else none:=by cases q<;>rfl
theorem B1v (of:Nat→Option Ob) (t:Nat) (u:A) (lo hi mx:Option A) (k:A×List (Nat×Ob)×List Nat→Option R):A85 T of t u lo hi mx k=ob (A0N T of t u lo hi mx) k:=by
 unfold A85
 cases mx with
 | some m =>
  unfold A0N
  simp only
  cases B2 T t with
  | none=>rfl
  | some kk =>
  cases kk with
  | str=>cases u<;>rfl
  | slice el =>
   simp only [L5]
   cases ((T el).isSome&&isQ T u)
   ·rfl
   ·simp only [cond_true]
    cases F3 (0:Nat) lo with
    | none=>rfl
    | some l=>cases hi with
     | none=>rfl
     | some a=>cases a with
      | i k1 h=>cases m with
       | i k2 h' =>
        simp only [L5]
        cases ieq h h'
        ·rfl
        ·simp only [cond_true]
         cases J0 T DEP of t u with
         | none=>rfl
         | some p=>obtain ⟨x,wo⟩:=p;simp only [L5];cases (J1 0 l&&J1 l h&&J1 h x.els.length)<;>rfl
       | _=>rfl
      | _=>rfl
  | arr n el=>cases u<;>rfl
  | _=>rfl
 | none =>
 unfold A0N
 simp only
 cases B2 T t with
 | none=>rfl
 | some kk =>
 cases kk with
 | str=>cases u with
  | s l=>simp only [U8];cases M6 l.length lo hi<;>rfl
  | _=>rfl
 | slice el =>
  simp only [L5]
  cases ((T el).isSome&&isQ T u)
  ·rfl
  ·simp only [cond_true]
   cases zV T t u with
   | v t' y=>simp only [L5,U8];cases M6 y.els.length lo hi<;>rfl
   | w id ver off n =>
    simp only
    cases of id with
    | none=>rfl
    | some o=>cases o with
     | row el' v xs nl sh=>simp only [L5,U8];cases M6 n lo hi<;>rfl
     | _=>rfl
   | o id ver =>
    simp only
    cases of id with
    | none=>rfl
    | some o=>cases o with
     | row el' v xs nl sh=>cases nl<;>simp only [L5,U8]
                           ·cases M6 xs.length lo hi<;>rfl
                           ·cases M6 0 lo hi<;>rfl
     | _=>rfl
   | a id t1 path lo0 m =>
    simp only
    cases B2 T t1 with
    | none=>rfl
    | some k1=>cases k1 with
     | arr n' el'=>simp only [L5,U8];cases M6 m lo hi<;>rfl
     | _=>rfl
   | _=>rfl
 | arr n el=>cases u with
  | p id t1 path=>simp only [L5,U8];cases M6 n lo hi<;>rfl
  | _=>rfl
 | _=>rfl
def A1V (T:TT) (nx t:Nat) (u v:A) (k:M8→Option R):Option R :=
 match B2 T t,u,v with
 | some (.slice el),.i _ a,.i _ b=>match T el with
  | some te=>bif Nat.blt 0 te.size&&TK.notOther te.k&&Nat.ble te.bytes 131072 then (bif J1 0 a&&J1 a b&&J1 b LIM then k ⟨.o nx 1,[(nx,.row el 1 (List.replicate a.toNat te.zero) false false)],[],nx+1⟩ else none) else none
  | none=>none
 | _,_,_=>none
theorem A45 (nx t:Nat) (u v:A) (k:M8→Option R):A1V T nx t u v k=ob (A0a T nx t u v) k:=by
 unfold A1V A0a
 cases B2 T t with
 | none=>rfl
 | some kk=>cases kk with
  | slice el=>cases u with
   | i k1 a=>cases v with
    | i k2 b =>
     simp only
     cases T el with
     | none=>rfl
     | some te =>
      simp only
      cases Nat.blt 0 te.size<;>cases TK.notOther te.k<;>cases Nat.ble te.bytes 131072<;>cases J1 0 a<;>cases J1 a b<;>cases J1 b LIM<;>rfl
    | _=>rfl
   | _=>rfl
  | _=>rfl
def B9b (T:TT) (of:Nat→Option Ob) (t:Nat) (u:A) (k:A×List (Nat×Ob)×List Nat→Option R):Option R :=
 match u with
 | .v t' y=>match B2 T t with
  | some (.arr n el)=>bif Nat.blt 0 n&&Nat.beq (B1 T t) (n * B1 T el) then
   (match B2 T t' with
    | some (.slice el')=>bif Nat.beq el el' then (bif Nat.ble n y.els.length then k (.c t (.l (y.els.take n)),[],[]) else none) else none
    | _=>none) else none
  | _=>none
 | .o id ver=>match B2 T t with
  | some (.arr n el)=>bif Nat.blt 0 n&&Nat.beq (B1 T t) (n * B1 T el) then
   (match of id with
    | some (.row el' v xs false _)=>bif Nat.beq el el'&&Nat.beq v ver then (bif Nat.ble n xs.length then k (.c t (.l (xs.take n)),[(id,.row el' ver xs false true)],[id]) else none) else none
    | _=>none) else none
  | _=>none
 | u=>ob (A8i T of t u) k
theorem B6e (of:Nat→Option Ob) (t:Nat) (u:A) (k:A×List (Nat×Ob)×List Nat→Option R):B9b T of t u k=ob (A8i T of t u) k:=by
 unfold B9b
 cases u with
 | v t' y =>
  simp only [A8i]
  cases B2 T t with
  | none=>rfl
  | some kk=>cases kk with
   | arr n el =>
    simp only [L5]
    cases B2 T t' with
    | none=>rfl
    | some k1=>cases k1 with
     | slice el'=>simp only [L5];cases (Nat.blt 0 n&&Nat.beq (B1 T t) (n * B1 T el))<;>cases Nat.beq el el'<;>cases Nat.ble n y.els.length<;>rfl
     | _=>rfl
   | _=>rfl
 | o id ver =>
  simp only [A8i]
  cases B2 T t with
  | none=>rfl
  | some kk=>cases kk with
   | arr n el =>
    simp only [L5]
    cases of id with
    | none=>rfl
    | some o=>cases o with
     | row el' v xs nl sh=>cases nl
                           ·simp only [L5];cases (Nat.blt 0 n&&Nat.beq (B1 T t) (n * B1 T el))<;>cases (Nat.beq el el'&&Nat.beq v ver)<;>cases Nat.ble n xs.length<;>rfl
                           ·rfl
     | _=>rfl
   | _=>rfl
 | _=>rfl
def oc {α β:Type} (o:Option α) (s:α→β) (n:β):β :=
 match o with
 | some a=>s a
 | none=>n
def B0j (T:TT) (of:Nat→Option Ob) (t:Nat) (m k:A) (okk:Bool) (kk:A×List Nat→Option R):Option R :=
 match B2 T t with
 | some (.map kt et)=>match T et,A0q T kt k with
  | some te,some kv=>bif TK.notOther te.k then
    (bif A0P T t m then kk (okA okk (mkA T et te.zero) false,[]) else
    match m with
    | .m id=>match of id with
     | some (.map kt' et' es)=>bif Nat.beq kt kt'&&Nat.beq et et' then oc (A2e kv es) (fun a=>kk (okA okk (norm T a) true,[id])) (kk (okA okk (mkA T et te.zero) false,[id])) else none
     | some (.vm kt' et' es)=>bif Nat.beq kt kt'&&Nat.beq et et' then (bif A8U kv es then kk (okA okk (mkA T et (B3a kv es)) true,[id]) else kk (okA okk (mkA T et te.zero) false,[id])) else none
     | _=>none
    | _=>none)
   else none
  | _,_=>none
 | _=>none
theorem B3E (of:Nat→Option Ob) (t:Nat) (m k:A) (okk:Bool) (kk:A×List Nat→Option R):B0j T of t m k okk kk=ob (A5w T of t m k okk) kk:=by
 unfold A5w
 cases hq:A3l of m with
 | some q =>
  obtain ⟨id,kt',et',es⟩:=q
  obtain ⟨rfl,hof⟩:=U7 hq
  unfold B0j B3c
  simp only
  cases B2 T t with
  | none=>rfl
  | some k1=>cases k1 with
   | map kt et =>
    simp only
    cases T et with
    | none=>rfl
    | some te=>cases A0q T kt k with
     | none=>rfl
     | some kv =>
      simp only [L5,show A0P T t (.m id)=false from rfl,cond_false,hof]
      cases TK.notOther te.k
      ·rfl
      ·simp only [cond_true]
       cases (Nat.beq kt kt'&&Nat.beq et et')
       ·rfl
       ·simp only [cond_true]
        cases A8U kv es<;>rfl
   | _=>rfl
 | none =>
 simp only
 unfold B0j A5s
 cases B2 T t with
 | none=>rfl
 | some k1=>cases k1 with
  | map kt et =>
   simp only
   cases T et with
   | none=>rfl
   | some te=>cases A0q T kt k with
    | none=>rfl
    | some kv =>
     simp only [L5]
     cases TK.notOther te.k
     ·rfl
     ·simp only [cond_true]
      cases A0P T t m
      ·simp only [cond_false]
       cases m with
       | m id =>
        simp only
        cases A7:of id with
        | none=>rfl
        | some o=>cases o with
         | map kt' et' es =>
          simp only [L5]
          cases (Nat.beq kt kt'&&Nat.beq et et')
          ·rfl
          ·simp only [cond_true]
           cases A2e kv es<;>rfl
         | vm kt' et' es=>exfalso;unfold A3l at hq;simp only [A7] at hq;cases hq
         | _=>rfl
       | _=>rfl
      ·rfl
  | _=>rfl
def B3F (T:TT) (of:Nat→Option Ob) (nx s t:Nat) (u:A) (k:Out→Option R):Option R :=
 match u with
 | .w id ver off n=>match B2 T t with
  | some .str=>match B2 T s with
   | some (.slice el)=>match B2 T el with
    | some (.int .u8)=>bif Nat.beq (B1 T el) 1 then A82 T of el (.w id ver off n) fun p=>k ⟨.s p.1,[],p.2,[]⟩ else none
    | _=>none
   | _=>none
  | _=>ob (A1O T of nx s t (.w id ver off n)) k
 | u=>ob (A1O T of nx s t u) k
theorem B3G (of:Nat→Option Ob) (nx s t:Nat) (u:A) (k:Out→Option R):B3F T of nx s t u k=ob (A1O T of nx s t u) k:=by
 unfold B3F
 cases u with
 | w id ver off n =>
  simp only
  cases hk:B2 T t with
  | none=>rfl
  | some kk=>cases kk with
   | str =>
    simp only [A1O,hk,bytesOf]
    cases B2 T s with
    | none=>rfl
    | some k1=>cases k1 with
     | slice el =>
      simp only
      cases B2 T el with
      | none=>rfl
      | some k2=>cases k2 with
       | int ki=>cases ki<;>try rfl
                 simp only [A3C]
                 cases Nat.beq (B1 T el) 1
                 ·rfl
                 ·simp only [cond_true,if_true];cases F9 T of el (.w id ver off n)<;>rfl
       | _=>rfl
     | _=>rfl
   | _=>rfl
 | _=>rfl
def B3H (T:TT) (of:Nat→Option Ob) (t xt:Nat) (u v:A) (k:A×List (Nat×Ob)×List Nat→Option R):Option R :=
 match B2 T t with
 | some (.slice el)=>bif A0v T xt v&&(T el).isSome then
   A82 T of el v fun p=>bif Nat.ble p.1.length LIM then
    (match u with
    | .a id t1 path lo m=>match B2 T t1,of id with
     | some (.arr N el'),some (.box t0 a false)=>match atA T a path with
      | some (.v t2 y)=>bif Nat.beq el el'&&Nat.beq t1 t2 then
        (bif p.1.isEmpty then (match F9 T of el (.a id t1 path lo m) with
         | some q=>k (.i .i64 0,[],p.2++q.2)
         | none=>none) else
         bif Nat.ble p.1.length m&&Nat.ble (lo+m) N then (match A0S T a path (.v t1 (.l (U6 y.els lo p.1))) with
          | some a'=>k (.i .i64 (p.1.length:Nat),[(id,.box t0 a' false)],id::p.2)
          | none=>none) else none) else ob (W8 T of t xt u v) k
      | _=>ob (W8 T of t xt u v) k
     | _,_=>ob (W8 T of t xt u v) k
    | u=>ob (W8 T of t xt u v) k)
    else none
  else none
 | _=>none
theorem B3I (of:Nat→Option Ob) (t xt:Nat) (u v:A) (k:A×List (Nat×Ob)×List Nat→Option R):B3H T of t xt u v k=ob (W8 T of t xt u v) k:=by
 unfold B3H
 cases hk:B2 T t with
 | none=>simp only [W8,hk];rfl
 | some kk=>cases kk with
  | slice el =>
   simp only [A3C]
   cases hq:(A0v T xt v&&(T el).isSome) with
   | false=>simp only [W8,hk,hq];rfl
   | true =>
    simp only [cond_true]
    cases hs:F9 T of el v with
    | none=>simp only [W8,hk,hq,hs];rfl
    | some p =>
     obtain ⟨ns,ro⟩:=p
     simp only [ob]
     cases hl:Nat.ble ns.length LIM with
     | false=>simp only [W8,hk,hq,hs,hl];rfl
     | true =>
      simp only [cond_true]
      cases u with
      | a id t1 path lo m =>
       simp only
       cases hk1:B2 T t1 with
       | none=>rfl
       | some k1=>cases k1 with
        | arr N el' =>
         cases ho:of id with
         | none=>rfl
         | some o=>cases o with
          | box t0 a sh=>cases sh
                         ·simp only
                          cases ha:atA T a path with
                          | none=>rfl
                          | some a1=>cases a1 with
                           | v t2 y =>
                            simp only
                            cases hb:(Nat.beq el el'&&Nat.beq t1 t2) with
                            | false=>rfl
                            | true =>
                             simp only [cond_true]
                             cases ns with
                             | nil =>
                              simp only [List.isEmpty_nil,cond_true,W8,hk,hq,hs,hl,if_true]
                              cases F9 T of el (.a id t1 path lo m)<;>rfl
                             | cons n0 nr =>
                              simp only [List.isEmpty_cons,cond_false,W8,hk,hq,hs,hl,hk1,ho,ha,hb,if_true,Bool.true_and]
                              cases Nat.ble (n0::nr).length m<;>cases Nat.ble (lo+m) N<;>try rfl
                              simp only [Bool.true_and,cond_true,if_true]
                              cases A0S T a path (.v t1 (.l (U6 y.els lo (n0::nr))))<;>rfl
                           | _=>rfl
                         ·rfl
          | _=>rfl
        | _=>rfl
      | _=>rfl
  | _=>simp only [W8,hk];rfl
variable {T:TT} {R:Type}
structure KC where
 f:Nat→J4
 y:Nat→J4
 ord:Nat→Bool
def KC.dir (K:KC):KS:=⟨fun f=>(K.f f).dir,fun id=>(K.y id).dir,K.ord⟩
structure KC.nat (K:KC):Prop where
 f:∀ f,(K.f f).nat
 y:∀ id,(K.y id).nat
def A7J (nx:Nat) (o:Out) (k:M8→Option R):Option R :=
 match o with
 | ⟨v,wo,ro,nw⟩=>match nw with
  | []=>k ⟨v,wo,ro,nx⟩
  | [j]=>bif Nat.beq j nx then k ⟨v,wo,ro,nx+1⟩ else none
  | _=>none
theorem A7K (nx:Nat) (o:Option Out) (k:M8→Option R):ob o (fun x=>A7J nx x k)=ob (X9 nx o) k:=by
 cases o with
 | none=>rfl
 | some x =>
  obtain ⟨v,wo,ro,nw⟩:=x
  simp only [ob,A7J,X9]
  cases nw with
  | nil=>rfl
  | cons j r=>cases r with
   | nil=>simp only;cases Nat.beq j nx<;>rfl
   | cons _ _=>rfl
def A86 (T:TT) (t:Nat) (k:A) (okk:Bool) (q:Nat×Nat×Nat×Nat×List (V×V×Bool)×Option V) (kk:A×List Nat→Option R):Option R :=
 match q.2.2.2.2.2 with
 | none=>match B2 T t with
  | some (.map kt et)=>match T et,A0q T kt k with
   | some te,some kv=>bif TK.notOther te.k then (bif Nat.beq kt q.2.1&&Nat.beq et q.2.2.1 then
     (bif P6 kv q.2.2.2.2.1 then kk (okA okk (mkA T et (A0W kv q.2.2.2.2.1)) true,[q.1]) else kk (okA okk (mkA T et te.zero) false,[q.1])) else none) else none
   | _,_=>none
  | _=>none
 | some _=>none
theorem B1w (t:Nat) (k:A) (okk:Bool) (q:Nat×Nat×Nat×Nat×List (V×V×Bool)×Option V) (kk:A×List Nat→Option R):A86 T t k okk q kk=ob (A4y T t k okk q) kk:=by
 unfold A86 A4y
 cases q.2.2.2.2.2 with
 | some _=>rfl
 | none=>cases B2 T t with
  | none=>rfl
  | some k1=>cases k1 with
   | map kt et =>
    simp only
    cases T et with
    | none=>rfl
    | some te=>cases A0q T kt k with
     | none=>rfl
     | some kv =>
      simp only [L5]
      cases TK.notOther te.k
      ·rfl
      ·simp only [cond_true]
       cases (Nat.beq kt q.2.1&&Nat.beq et q.2.2.1)
       ·rfl
       ·simp only [cond_true]
        cases P6 kv q.2.2.2.2.1<;>rfl
   | _=>rfl
def A87 (T:TT) (nx t:Nat) (k:A) (q:Nat×Nat×Nat×Nat×List (V×V×Bool)×Option V) (kk:Out→Option R):Option R :=
 match q.2.2.2.2.2 with
 | none=>match B2 T t with
  | some (.map kt et)=>match T et,A0q T kt k with
   | some te,some kv=>bif TK.notOther te.k then (bif Nat.beq kt q.2.1&&Nat.beq et q.2.2.1 then
     (bif P6 kv q.2.2.2.2.1 then (bif A1f kv q.2.2.2.2.1 then kk ⟨.o nx 1,[(q.1,.sm q.2.1 q.2.2.1 q.2.2.2.1 q.2.2.2.2.1 (some kv)),(nx,.row q.2.2.2.1 1 (A0W kv q.2.2.2.2.1).els false true)],[q.1],[nx]⟩ else none) else kk ⟨mkA T et te.zero,[],[q.1],[]⟩) else none) else none
   | _,_=>none
  | _=>none
 | some _=>none
theorem B1x (nx t:Nat) (k:A) (q:Nat×Nat×Nat×Nat×List (V×V×Bool)×Option V) (kk:Out→Option R):A87 T nx t k q kk=ob (A50 T nx t k q) kk:=by
 unfold A87 A50
 cases q.2.2.2.2.2 with
 | some _=>rfl
 | none=>cases B2 T t with
  | none=>rfl
  | some k1=>cases k1 with
   | map kt et =>
    simp only
    cases T et with
    | none=>rfl
    | some te=>cases A0q T kt k with
     | none=>rfl
     | some kv =>
      simp only [L5]
      cases TK.notOther te.k
      ·rfl
      ·simp only [cond_true]
       cases (Nat.beq kt q.2.1&&Nat.beq et q.2.2.1)
       ·rfl
       ·simp only [cond_true]
        cases P6 kv q.2.2.2.2.1
        ·rfl
        ·simp only [cond_true,L5]
         cases A1f kv q.2.2.2.2.1<;>rfl
   | _=>rfl
def A88 (T:TT) (lend:Bool) (nx:Nat) (of:Nat→Option Ob) (t:Nat) (m k:A) (okk:Bool) (kk:Out→Option R):Option R :=
 match A2Z of m with
 | some q=>bif lend&&!okk then A87 T nx t k q kk else A86 T t k okk q fun p=>kk ⟨p.1,[],p.2,[]⟩
 | none=>B0j T of t m k okk fun p=>kk ⟨p.1,[],p.2,[]⟩
theorem B1y (lend:Bool) (nx:Nat) (of:Nat→Option Ob) (t:Nat) (m k:A) (okk:Bool) (kk:Out→Option R):A88 T lend nx of t m k okk kk=ob (A51 T lend nx of t m k okk) kk:=by
 unfold A88 A51
 cases A2Z of m with
 | some q =>
  simp only
  cases lend&&!okk
  ·simp only [cond_false,B1w]
   cases A4y T t k okk q<;>rfl
  ·simp only [cond_true,B1x]
 | none =>
  simp only [B3E]
  cases A5w T of t m k okk<;>rfl
def B3J (T:TT) (of:Nat→Option Ob) (t:Nat) (k v:A) (q:Nat×Nat×Nat×Nat×List (V×V×Bool)×Option V) (kk:List (Nat×Ob)×List Nat→Option R):Option R :=
 match B2 T t with
 | some (.map kt et)=>match A0q T kt k with
  | some kv=>bif Nat.beq kt q.2.1&&Nat.beq et q.2.2.1 then (bif B6P q.2.2.2.2.2 kv then (match v with
    | .o rid ver=>match of rid with
     | some (.row el v' xs false sh)=>bif Nat.beq el q.2.2.2.1&&Nat.beq v' ver then kk ([(rid,.row el (ver+1) [] true false),(q.1,.sm q.2.1 q.2.2.1 q.2.2.2.1 (A04 kv (.l xs) true q.2.2.2.2.1) none)],[q.1,rid]) else none
     | _=>none
    | v=>match J0 T DEP of et v with
     | some (x,wo)=>bif !(U1 wo).contains q.1 then kk (wo++[(q.1,.sm q.2.1 q.2.2.1 q.2.2.2.1 (A04 kv x false q.2.2.2.2.1) none)],q.1::U1 wo) else none
     | none=>none) else none) else none
  | none=>none
 | _=>none
theorem B3K (of:Nat→Option Ob) (t:Nat) (k v:A) (q:Nat×Nat×Nat×Nat×List (V×V×Bool)×Option V) (kk:List (Nat×Ob)×List Nat→Option R):B3J T of t k v q kk=ob (B18 T of t k v q) kk:=by
 unfold B3J B18
 cases B2 T t with
 | none=>rfl
 | some k1=>cases k1 with
  | map kt et =>
   simp only
   cases A0q T kt k with
   | none=>rfl
   | some kv =>
    simp only [L5]
    cases (Nat.beq kt q.2.1&&Nat.beq et q.2.2.1)
    ·rfl
    ·simp only [cond_true]
     cases B6P q.2.2.2.2.2 kv
     ·rfl
     ·simp only [cond_true]
      have gen:∀ v:A,(match J0 T DEP of et v with
        | some (x,wo)=>bif !(U1 wo).contains q.1 then kk (wo++[(q.1,.sm q.2.1 q.2.2.1 q.2.2.2.1 (A04 kv x false q.2.2.2.2.1) none)],q.1::U1 wo) else none
        | none=>none)=ob (match J0 T DEP of et v with
        | some (x,wo)=>if !(U1 wo).contains q.1 then some (wo++[(q.1,.sm q.2.1 q.2.2.1 q.2.2.2.1 (A04 kv x false q.2.2.2.2.1) none)],q.1::U1 wo) else none
        | none=>none) kk:=by
       intro v
       cases J0 T DEP of et v with
       | none=>rfl
       | some p =>
        obtain ⟨x,wo⟩:=p
        simp only [L5]
        cases !(U1 wo).contains q.1<;>rfl
      cases v with
      | o rid ver =>
       simp only
       cases of rid with
       | none=>rfl
       | some o=>cases o with
        | row el v' xs nl sh=>cases nl
                              ·simp only [L5];cases (Nat.beq el q.2.2.2.1&&Nat.beq v' ver)<;>rfl
                              ·rfl
        | _=>rfl
      | i k n=>exact gen (.i k n)
      | b y=>exact gen (.b y)
      | s l=>exact gen (.s l)
      | z v=>exact gen (.z v)
      | v t x=>exact gen (.v t x)
      | p i t r=>exact gen (.p i t r)
      | e i v j t r=>exact gen (.e i v j t r)
      | c t x=>exact gen (.c t x)
      | q t x=>exact gen (.q t x)
      | w i v o n=>exact gen (.w i v o n)
      | a i t r l m=>exact gen (.a i t r l m)
      | m i=>exact gen (.m i)
      | y i=>exact gen (.y i)
      | f n c=>exact gen (.f n c)
      | g t l=>exact gen (.g t l)
      | t l=>exact gen (.t l)
      | x=>exact gen .x
  | _=>rfl
def B0k (T:TT) (of:Nat→Option Ob) (nx t:Nat) (m k v:A) (kk:M8→Option R):Option R :=
 match A2Z of m with
 | some q=>B3J T of t k v q fun p=>kk ⟨.x,p.1,p.2,nx⟩
 | none=>ob (B3e T of t m k v) fun p=>kk ⟨.x,p.1,p.2,nx⟩
theorem B3L (of:Nat→Option Ob) (nx t:Nat) (m k v:A) (kk:M8→Option R):B0k T of nx t m k v kk=ob (A8c T of nx t m k v) kk:=by
 unfold B0k A8c B6T
 cases A2Z of m with
 | some q =>
  simp only [B3K]
  cases B18 T of t k v q<;>rfl
 | none =>
  simp only
  cases B3e T of t m k v<;>rfl
def B3M (T:TT) (of:Nat→Option Ob) (t:Nat) (u:A) (k:A×List Nat→Option R):Option R :=
 match A2Z of u with
 | some q=>(match B2 T t with
  | some (.map _ _)=>bif Nat.ble q.2.2.2.2.1.length 9223372036854775807 then k (.i .i64 (q.2.2.2.2.1.length:Nat),[q.1]) else none
  | _=>none)
 | none=>B6c T of t u k
theorem B3N (of:Nat→Option Ob) (t:Nat) (u:A) (k:A×List Nat→Option R):B3M T of t u k=ob (A4A T of t u) k:=by
 unfold B3M A4A
 cases A2Z of u with
 | none=>exact B6d _ _ _ _
 | some q =>
  unfold B6R
  cases B2 T t with
  | none=>rfl
  | some kk=>cases kk with
   | map kt et=>simp only;cases Nat.ble q.2.2.2.2.1.length 9223372036854775807<;>rfl
   | _=>rfl
def B3O (T:TT) (K:KC) (ev:Operand→A) (of:Nat→Option Ob) (nx:Nat) (k:Call) (kk:M8→Option R):Option R :=
 match k.callee with
 | .value f=>match ev f with
  | .f fn cap=>match bdP cap with
   | some p=>K.f fn R (p::k.args.toList.map ev) of nx kk
   | none=>bif cap.all (R7 T) then K.f fn R (k.args.toList.map ev++cap) of nx kk else none
  | .y id=>K.y id R (k.args.toList.map ev) of nx kk
  | _=>none
 | .builtin .len=>match k.argTypes.toList,k.args.toList with
  | [t],[x]=>B3M T of t (ev x) fun p=>kk (.pv nx p.1 p.2)
  | _,_=>none
 | .builtin .append=>match k.argTypes.toList,k.args.toList with
  | [t,xt],[x,y]=>bif A0v T xt (ev y) then A6u T of nx t (ev x) (ev y) fun o=>A7J nx o kk else bif isQ T (ev x) then ob (X9 nx (A2L T nx t xt (ev x) (ev y))) kk else none
  | _,_=>none
 | .builtin .copy=>match k.argTypes.toList,k.args.toList with
  | [t,xt],[x,y]=>B3H T of t xt (ev x) (ev y) fun p=>kk ⟨p.1,p.2.1,p.2.2,nx⟩
  | _,_=>none
 | _=>ob (U2 T (.no fun _ _ _ _=>none) ev of nx k) kk
theorem B3P {K:KC} (hK:K.nat) (ev:Operand→A) (of:Nat→Option Ob) (nx:Nat) (k:Call) (kk:M8→Option R):B3O T K ev of nx k kk=ob (U2 T K.dir ev of nx k) kk:=by
 unfold B3O
 split
 ·rename_i f hk
  simp only [U2,hk]
  cases ev f with
  | f fn cap =>
   simp only
   cases bdP cap with
   | some p=>exact hK.f fn R _ of nx kk
   | none =>
   simp only [L5]
   cases cap.all (R7 T)
   ·rfl
   ·simp only [cond_true];exact hK.f fn R _ of nx kk
  | y id=>exact hK.y id R _ of nx kk
  | _=>rfl
 ·rename_i hk
  simp only [U2,hk]
  split
  ·rename_i t x h1 h2
   rw [h1,h2]
   simp only [B3N]
   cases A4A T of t (ev x)<;>rfl
  ·rename_i hne
   split
   ·rename_i t x h1 h2;exact absurd h2 (hne _ _ h1)
   ·rfl
 ·rename_i hk
  simp only [U2,hk]
  split
  ·rename_i t xt x y h1 h2
   rw [h1,h2]
   simp only [A84,A7K]
   cases A0v T xt (ev y)
   ·simp only [cond_false,Bool.false_eq_true,if_false]
    cases isQ T (ev x)<;>rfl
   ·simp only [cond_true,if_true]
  ·rename_i hne
   split
   ·rename_i t xt x y h1 h2;exact absurd h2 (hne _ _ _ _ h1)
   ·rfl
 ·rename_i hk
  simp only [U2,hk]
  split
  ·rename_i t xt x y h1 h2
   rw [h1,h2]
   simp only [B3I]
   cases W8 T of t xt (ev x) (ev y)<;>rfl
  ·rename_i hne
   split
   ·rename_i t xt x y h1 h2;exact absurd h2 (hne _ _ _ _ h1)
   ·rfl
 ·rename_i h1 h2 h3 h4
  have:U2 T (.no fun _ _ _ _=>none) ev of nx k=U2 T K.dir ev of nx k:=by
   unfold U2
   split
   ·rename_i f hk;exact absurd hk (h1 f)
   all_goals rfl
  rw [this]
def B0l (T:TT) (K:KC) (ev:Operand→A) (of:Nat→Option Ob) (nx:Nat) (o:Oper) (k:M8→Option R):Option R :=
 match o.op with
 | .pick q a b=>match ev q with
  | .b t=>k (.pv nx (bif t then ev a else ev b) [])
  | _=>none
 | .binOp op t x y _=>B89 T of op t (ev x) (ev y) fun p=>k (.pv nx p.1 p.2)
 | .unOp op _ x=>unC op (ev x) fun v=>k (.pv nx v [])
 | .convert s t x=>B3F T of nx s t (ev x) fun o=>A7J nx o k
 | .sliceToArrayPointer t x=>B9b T of t (ev x) fun p=>k ⟨p.1,p.2.1,p.2.2,nx⟩
 | .makeSlice t l c=>A1V T nx t (ev l) (ev c) k
 | .lookup t m c okk=>A88 T (B4A o.pos) nx of t (ev m) (ev c) okk fun o=>A7J nx o k
 | .mapUpdate t m c v=>B0k T of nx t (ev m) (ev c) (ev v) k
 | .insert t m c v=>B0k T of nx t (ev m) (ev c) (ev v) k
 | .slice t x lo hi mx=>A85 T of t (ev x) (lo.map ev) (hi.map ev) (mx.map ev) fun p=>k ⟨p.1,p.2.1,p.2.2,nx⟩
 | .indexAddr t x ix=>match ev ix with
  | .i _ i=>A1U T of t i (ev x) fun p=>k (.pv nx p.1 p.2)
  | _=>none
 | .index t x ix=>match ev ix with
  | .i _ i=>A83 T t i (ev x) fun v=>k (.pv nx v [])
  | _=>none
 | .call c=>B3O T K ev of nx c k
 | _=>ob (M0 T (.no fun _ _ _ _=>none) ev of nx o) k
theorem B3Q {nx:Nat} (o:Option (A×List Nat)) (k:M8→Option R):ob (pvR nx o) k=ob o fun p=>k (.pv nx p.1 p.2):=by cases o<;>rfl
theorem B3R {nx:Nat} (o:Option A) (k:M8→Option R):ob (pvO nx o) k=ob o fun v=>k (.pv nx v []):=by cases o<;>rfl
theorem B9c {nx:Nat} (o:Option (A×List (Nat×Ob)×List Nat)) (k:M8→Option R):ob (pvW nx o) k=ob o fun p=>k ⟨p.1,p.2.1,p.2.2,nx⟩:=by cases o<;>rfl
theorem A7L {K:KC} (hK:K.nat) (ev:Operand→A) (of:Nat→Option Ob) (nx:Nat) (o:Oper) (k:M8→Option R):B0l T K ev of nx o k=ob (M0 T K.dir ev of nx o) k:=by
 obtain ⟨dst,op,ty,pos,after,guard⟩:=o
 cases op<;>simp only [B0l,M0,B6b,B9a,B3G,B6e,A45,B1y,B3L,B1v,B3Q,B3R,B9c,A7K,B3P hK]
 case pick q a b=>cases ev q<;>rfl
 case indexAddr t x ix=>cases ev ix<;>simp only [A44,B3Q]<;>rfl
 case index t x ix=>cases ev ix<;>simp only [B1u,B3R]<;>rfl
def B9d (T:TT) (K:KC) (ops:Array Oper) (sl:Nat→A) (of:Nat→Option Ob) (nx:Nat) (o:Oper) (k:N2→Option R):Option R :=
 match o.guard with
 | none=>B0l T K (J9 sl) of nx o fun out=>bif Nat.ble nx out.nx then k (.mk1 o (o.looksAt ops) nx out) else none
 | some (g,want)=>match (ops[g]?).bind (·.dst) with
  | some d=>match sl d with
   | .t _=>k (.skip o (o.looksAt ops) nx)
   | .b q=>bif (bif want then q else !q) then (B0l T K (J9 sl) of nx o fun out=>bif Nat.ble nx out.nx then k (.mk1 o (o.looksAt ops) nx out) else none) else k (.skip o (o.looksAt ops) nx)
   | _=>none
  | none=>none
theorem B6f {K:KC} (hK:K.nat) (ops:Array Oper) (sl:Nat→A) (of:Nat→Option Ob) (nx:Nat) (o:Oper) (k:N2→Option R):B9d T K ops sl of nx o k=ob (X0 T K.dir ops sl of nx o) k:=by
 have go:ob (M0 T K.dir (J9 sl) of nx o) (fun out=>bif Nat.ble nx out.nx then k (.mk1 o (o.looksAt ops) nx out) else none)=ob (match M0 T K.dir (J9 sl) of nx o with
   | some out=>if Nat.ble nx out.nx=true then some (N2.mk1 o (o.looksAt ops) nx out) else none
   | none=>none) k:=by
  cases M0 T K.dir (J9 sl) of nx o with
  | none=>rfl
  | some out=>simp only [ob];cases Nat.ble nx out.nx<;>rfl
 unfold B9d X0
 cases o.guard with
 | none=>simp only [A7L hK];exact go
 | some p =>
  obtain ⟨g,want⟩:=p
  simp only
  cases (ops[g]?).bind (·.dst) with
  | none=>rfl
  | some d =>
   simp only
   cases sl d with
   | t _=>rfl
   | b q =>
    simp only [A7L hK,go]
    cases q<;>cases want<;>rfl
   | _=>rfl
def C0M {α:Type} (a:A) (k:A→α):α :=
 match a with
 | .b q=>match q with
  | true=>k (.b true)
  | false=>k (.b false)
 | a=>k a
theorem B6g {α:Type} (a:A) (k:A→α):C0M a k=k a:=by
 cases a with
 | b q=>cases q<;>rfl
 | _=>rfl
def C0N (fl:Bool) (a:A) (k:A→Option R):Option R :=
 match fl with
 | true=>B9P a k
 | false=>C0M a k
theorem B6h (fl:Bool) (a:A) (k:A→Option R):C0N fl a k=k a:=by
 cases fl
 ·exact B6g a k
 ·exact B0A a k
def ob2 {α β:Type} (o:Option (α×β)) (k:α→β→Option R):Option R :=
 match o with
 | some p=>k p.1 p.2
 | none=>none
def B1z (T:TT) (K:KC) (fl:Bool) (ops:Array Oper) (of:Nat→Option Ob):List Oper→St→(List N2→St→Option R)→Option R
 | [],σ,k=>k [] σ
 | o::r,σ,k=>B9d T K ops (D5 σ.sl) (B7 σ.ob of) σ.nx o fun E=>C0N fl E.val fun v=>A03 E.hi fun h=>B9Q (Y0 σ.ob E.ro σ.rd) fun rd =>
   B1z T K fl ops of r { sl:=match E.dst with | some d=>(d,v)::σ.sl | none=>σ.sl,ob:=A0b σ.ob E.wo,rd:=rd,nx:=h,mks:=σ.mks } fun Es σ'=>k ({ E with val:=v,hi:=h }::Es) σ'
theorem B0m {K:KC} (hK:K.nat) (fl:Bool) (ops:Array Oper) (of:Nat→Option Ob):∀ (l:List Oper) (σ:St) (k:List N2→St→Option R),B1z T K fl ops of l σ k=ob2 (E9 T K.dir ops of l σ) k:=by
 intro l
 induction l with
 | nil=>intro σ k;rfl
 | cons o r ih =>
  intro σ k
  rw [W0]
  simp only [B1z,B6f hK,B6h,T4,B0B,ih]
  cases X0 T K.dir ops (D5 σ.sl) (B7 σ.ob of) σ.nx o with
  | none=>rfl
  | some E =>
   simp only [ob,St.app]
   cases E9 T K.dir ops of r _ with
   | none=>rfl
   | some p=>rfl
abbrev LC:=Code→Option ((R:Type)→(Nat→Option Ob)→St→(Exit→St→Option R)→Option R)
def A3D (ks:List Nat) (f:St→(Exit→St→Option R)→Option R):Nat→St→(Exit→St→Option R)→Option R
 | 0,_,_=>none
 | n+1,σ,k=>f (σ.tidy ks) fun ex σ1=>match ex with
  | .normal=>A3D ks f n σ1 k
  | ex=>k ex σ1
def A89 (T:TT) (K:KC) (nt:Nat) (of:Nat→Option Ob) (R:Type) (g:Operand) (ps:Array Nat) (asg body:Code) (σ:St) (k:Exit→St→Option R):Option R :=
 match σ.mks with
 | some l=>match J9 (D5 σ.sl) g with
  | .f f cap=>bif K.ord f&&cap.all (R7 T) then
    (fun (ob1:Tr)=>K.f f R (.y (σ.nx+1)::cap) (B7 ob1 of) (σ.nx+2) fun out=>bif Nat.ble (σ.nx+2) out.nx then
     (fun (ob2:Tr)=>match ob2.get (σ.nx+1) with
     | some (.lp (some r))=>(match A6F r.st with
      | true=>(match A73 r.pend with
       | some ex=>k ex ⟨σ.sl,ob2.set (σ.nx+1) (.lp (some { r with st:=.exhausted })),Y0 ob1 out.ro σ.rd,out.nx,some (σ.nx::l)⟩
       | none=>none)
      | false=>none)
     | _=>none) (A0b ob1 out.wo) else none) ((σ.ob.set σ.nx (.lp none)).set (σ.nx+1) (.lp (some ⟨nt,A3e σ.sl (A1N σ.sl []),ps,asg,body,.ready,none⟩)))
   else none
  | _=>none
 | none=>none
theorem B1A {K:KC} (hK:K.nat) {nt:Nat} {of:Nat→Option Ob} {R:Type} {g:Operand} {ps:Array Nat} {asg body:Code} {σ:St} {k:Exit→St→Option R}:A89 T K nt of R g ps asg body σ k=ob2 (A2S T K.dir nt of g ps asg body σ) k:=by
 unfold A89 A2S
 cases σ.mks with
 | none=>rfl
 | some l =>
  simp only
  cases J9 (D5 σ.sl) g with
  | f f cap =>
   simp only
   show (bif K.ord f&&cap.all (R7 T) then _ else _)=ob2 (if (K.ord f&&cap.all (R7 T))=true then _ else _) k
   cases (K.ord f&&cap.all (R7 T))
   ·rfl
   ·simp only [cond_true,if_true]
    generalize (σ.ob.set σ.nx (.lp none)).set (σ.nx+1) (.lp (some ⟨nt,A3e σ.sl (A1N σ.sl []),ps,asg,body,.ready,none⟩))=ob1
    rw [hK.f f]
    show ob ((K.f f).dir _ _ _) _=ob2 (match (K.f f).dir _ _ _ with | some out=>_ | none=>none) k
    cases (K.f f).dir (.y (σ.nx+1)::cap) (B7 ob1 of) (σ.nx+2) with
    | none=>rfl
    | some out =>
     simp only [ob]
     cases Nat.ble (σ.nx+2) out.nx
     ·rfl
     ·simp only [cond_true,if_true]
      cases (A0b ob1 out.wo).get (σ.nx+1) with
      | none=>rfl
      | some o =>
       cases o with
       | lp q =>
        cases q with
        | none=>rfl
        | some r =>
         simp only
         cases A6F r.st
         ·rfl
         ·simp only
          cases A73 r.pend<;>rfl
       | _=>rfl
  | _=>rfl
def R4 (T:TT) (K:KC) (Lo:LC) (fl:Bool) (fu nt:Nat) (of:Nat→Option Ob) (R:Type):Code→St→(Exit→St→Option R)→Option R
 | .skip,σ,k=>k .normal σ
 | .ret,σ,k=>k .ret σ
 | .exit id,σ,k=>k (.exit id) σ
 | .region _ ops draw,σ,k =>
  match draw with
  | false=>bif ops.toList.all (A1M nt) then B1z T K fl ops of ops.toList σ fun _ σ'=>k .normal σ' else none
  | true=>bif A4i nt ops then (B1z T K fl ops of ops.toList σ fun Es σ'=>bif A1a (T5 ops.toList []) Es 0 Es then k .normal σ' else
    B1z T K fl ops of ops.toList (σ.pre of (B1N (B7 σ.ob of) Es)) fun Es2 σ2=>bif A1a (T5 ops.toList []) Es2 0 Es2 then k .normal σ2 else none) else none
 | .seq x y,σ,k=>R4 T K Lo fl fu nt of R x σ fun ex σ1=>match ex with
  | .normal=>R4 T K Lo fl fu nt of R y σ1 k
  | ex=>k ex σ1
 | .cond q x y,σ,k=>match J9 (D5 σ.sl) q with
  | .b t=>bif t then R4 T K Lo fl fu nt of R x σ k else R4 T K Lo fl fu nt of R y σ k
  | _=>none
 | .block id body,σ,k=>R4 T K Lo fl fu nt of R body σ fun ex σ'=>match ex with
  | .exit id'=>k (bif Nat.beq id' id then .normal else .exit id') σ'
  | ex=>k ex σ'
 | .loop body,σ,k=>match Lo body with
  | some s=>s R of σ k
  | none=>A3D (A1N σ.sl []) (fun σ k=>R4 T K Lo fl fu nt of R body σ k) fu σ k
 | .rangeFunc g ps asg body,σ,k=>A89 T K nt of R g ps asg body σ k
 | _,_,_=>none
abbrev LS:=(R:Type)→(Nat→Option Ob)→St→(Exit→St→Option R)→Option R
def LS.nat (s:LS):Prop:=∀ (R:Type) (of:Nat→Option Ob) (σ:St) (k:Exit→St→Option R),s R of σ k=ob2 (s (Exit×St) of σ fun ex σ=>some (ex,σ)) k
def LS.dir (s:LS) (of:Nat→Option Ob) (σ:St):Option (Exit×St):=s (Exit×St) of σ fun ex σ=>some (ex,σ)
def Z1 (Lo:LC):A4j:=fun b=>match Lo b with
 | some s=>some (LS.dir s)
 | none=>none
def A2j (Lo:LC):Prop:=∀ b s,Lo b=some s→LS.nat s
theorem G0:A2j (fun _=>none):=fun b s h=>by cases h
theorem A9a {ks:List Nat} {f:St→(Exit→St→Option R)→Option R} {g:St→Option (Exit×St)} (h:∀ σ k,f σ k=ob2 (g σ) k):∀ (n:Nat) (σ:St) (k:Exit→St→Option R),A3D ks f n σ k=ob2 (A1b ks g n σ) k:=by
 intro n
 induction n with
 | zero=>intro σ k;rfl
 | succ n ih =>
  intro σ k
  simp only [A3D,A1b,h]
  cases hg:g (σ.tidy ks) with
  | none=>rfl
  | some p =>
   obtain ⟨ex,σ1⟩:=p
   simp only [ob2]
   cases ex with
   | normal=>exact ih σ1 k
   | _=>rfl
theorem A2k {K:KC} (hK:K.nat) {Lo:LC} (hLo:A2j Lo) {fl:Bool} {fu nt:Nat} (of:Nat→Option Ob) (R:Type):∀ (c:Code) (σ:St) (k:Exit→St→Option R),R4 T K Lo fl fu nt of R c σ k=ob2 (G1 T K.dir (Z1 Lo) fu nt of c σ) k:=by
 intro c
 induction c with
 | skip=>intro σ k;rfl
 | ret=>intro σ k;rfl
 | exit id=>intro σ k;rfl
 | region id ops draw =>
  intro σ k
  cases draw with
  | false =>
   simp only [R4,G1,B0m hK]
   cases ops.toList.all (A1M nt)
   ·rfl
   ·simp only [cond_true,if_true]
    cases E9 T K.dir ops of ops.toList σ<;>rfl
  | true =>
   simp only [R4,G1,B0m hK]
   cases A4i nt ops
   ·rfl
   ·simp only [cond_true,if_true]
    cases E9 T K.dir ops of ops.toList σ with
    | none=>rfl
    | some p =>
     obtain ⟨Es,σ'⟩:=p
     simp only [ob2]
     cases A1a (T5 ops.toList []) Es 0 Es
     ·simp only [cond_false,Bool.false_eq_true,if_false]
      cases E9 T K.dir ops of ops.toList (σ.pre of (B1N (B7 σ.ob of) Es)) with
      | none=>rfl
      | some p2 =>
       obtain ⟨Es2,σ2⟩:=p2
       simp only
       cases A1a (T5 ops.toList []) Es2 0 Es2<;>rfl
     ·rfl
 | seq x y ihx ihy =>
  intro σ k
  simp only [R4,G1]
  rw [ihx]
  cases G1 T K.dir (Z1 Lo) fu nt of x σ with
  | none=>rfl
  | some p =>
   obtain ⟨ex,σ1⟩:=p
   simp only [ob2]
   cases ex with
   | normal=>exact ihy σ1 k
   | _=>rfl
 | cond q x y ihx ihy =>
  intro σ k
  simp only [R4,G1]
  cases J9 (D5 σ.sl) q with
  | b t=>cases t
         ·exact ihy σ k
         ·exact ihx σ k
  | _=>rfl
 | block id body ih =>
  intro σ k
  simp only [R4,G1]
  rw [ih]
  cases G1 T K.dir (Z1 Lo) fu nt of body σ with
  | none=>rfl
  | some p =>
   obtain ⟨ex,σ1⟩:=p
   simp only [ob2]
   cases ex with
   | exit id'=>simp only;cases Nat.beq id' id<;>rfl
   | _=>rfl
 | loop body ih =>
  intro σ k
  simp only [R4,G1]
  cases hb:Lo body with
  | none =>
   simp only [Z1,hb]
   exact A9a (fun σ k=>ih σ k) fu σ k
  | some s =>
   simp only [Z1,hb]
   exact hLo body s hb R of σ k
 | rangeFunc g ps asg body _ _ =>
  intro σ k
  simp only [R4,G1]
  exact B1A hK
 | _=>intro σ k;rfl
def P4 (P:Program) (T:TT) (K:KC) (Lo:Nat→LC) (fl:Bool) (fu f:Nat):J4:=fun R args of nx k =>
 match P.funcs[f]? with
 | some fn=>match fn.body with
  | some code=>bif !(fn.name == "runtime.NumGoroutine")&&Nat.ble args.length fn.ntmps then
    R4 T K (Lo nx) fl fu fn.ntmps of R code ⟨A4n 0 args,.e,[],nx,some []⟩ fun ex σ=>bif B4g ex then
     (match σ.mks with
     | some ms=>bif A74 nx σ.nx σ.ob.get ms then
      (match A4k T (D5 σ.sl) (B7 σ.ob of) fn.results.toList with
      | some p=>k (A4o ms (A3n nx p.1 σ p.2))
      | none=>none) else none
     | none=>none) else none
    else none
  | none=>none
 | none=>none
theorem A4e {P:Program} {K:KC} (hK:K.nat) {Lo:Nat→LC} (hL:∀ n0,A2j (Lo n0)) {fl:Bool} {fu f:Nat} (R:Type) (args:List A) (of:Nat→Option Ob) (nx:Nat) (k:M8→Option R) :
  P4 P T K Lo fl fu f R args of nx k=ob (A2o P T K.dir (fun n0=>Z1 (Lo n0)) fu f args of nx) k:=by
 unfold P4 A2o
 cases hf:P.funcs[f]? with
 | none=>rfl
 | some fn =>
  simp only
  cases hb:fn.body with
  | none=>rfl
  | some code =>
   simp only [L5]
   cases (!(fn.name == "runtime.NumGoroutine")&&Nat.ble args.length fn.ntmps)
   ·rfl
   ·simp only [cond_true]
    rw [A2k hK (hL nx) of R code]
    cases G1 T K.dir (Z1 (Lo nx)) fu fn.ntmps of code ⟨A4n 0 args,.e,[],nx,some []⟩ with
    | none=>rfl
    | some p =>
     obtain ⟨ex,σ⟩:=p
     simp only [ob2,L5]
     cases B4g ex
     ·rfl
     ·simp only [cond_true]
      cases σ.mks with
      | none=>rfl
      | some ms =>
       simp only [L5]
       cases A74 nx σ.nx σ.ob.get ms
       ·rfl
       ·simp only [cond_true]
        cases A4k T (D5 σ.sl) (B7 σ.ob of) fn.results.toList<;>rfl
theorem A1v {P:Program} {K:KC} (hK:K.nat) {Lo:Nat→LC} (hL:∀ n0,A2j (Lo n0)) {fl:Bool} {fu f:Nat}:(P4 P T K Lo fl fu f).nat:=by
 intro R args of nx k
 rw [A4e hK hL]
 have:(P4 P T K Lo fl fu f).dir args of nx=A2o P T K.dir (fun n0=>Z1 (Lo n0)) fu f args of nx:=by
  show P4 P T K Lo fl fu f M8 args of nx some=_
  rw [A4e hK hL]
  cases A2o P T K.dir (fun n0=>Z1 (Lo n0)) fu f args of nx<;>rfl
 rw [this]
theorem A2l {P:Program} (hm:P.follows .mixedOrders=true) (hT:F4 T P) {K:KC} (hK:K.nat) (hS:KOK P T K.dir) {Lo:Nat→LC} (hL:∀ n0,A2j (Lo n0)) {fl:Bool} {fu f:Nat} (hO:∀ n0 fn code,P.funcs[f]? = some fn→fn.body=some code→K8 P T fn.ntmps n0 (Z1 (Lo n0)) code):C0 P T f (P4 P T K Lo fl fu f).dir:=by
 have:(P4 P T K Lo fl fu f).dir=A2o P T K.dir (fun n0=>Z1 (Lo n0)) fu f:=by
  funext args of nx
  show P4 P T K Lo fl fu f M8 args of nx some=_
  rw [A4e hK hL]
  cases A2o P T K.dir (fun n0=>Z1 (Lo n0)) fu f args of nx<;>rfl
 rw [this]
 exact B0F hm hT hS hO
theorem A5y:Z1 (fun _=>none)=fun _=>none:=rfl
def A1W (T:TT) (K:KC) (fl:Bool) (fu id:Nat):J4:=fun R args of nx k =>
 match lpE T6 (of id) with
 | some r=>bif Nat.beq args.length r.ps.size&&r.ps.toList.all (fun p=>Nat.blt p r.nt) then
   R4 T K (fun _=>none) fl fu r.nt of R r.asg ⟨A6I r.ps.toList args r.sl,.e,[id],nx,none⟩ fun ex σ1=>match ex with
    | .normal=>(match lpE T6 (B7 σ1.ob of id) with
     | some r1=>R4 T K (fun _=>none) fl fu r.nt of R r.body (setLp σ1 id { r1 with st:=.busy }) fun ex2 σ2=>ob (B6I id nx of (some (ex2,σ2))) k
     | none=>none)
    | _=>none
   else none
 | none=>none
theorem A5z {K:KC} (hK:K.nat) {fl:Bool} {fu id:Nat} (R:Type) (args:List A) (of:Nat→Option Ob) (nx:Nat) (k:M8→Option R):A1W T K fl fu id R args of nx k=ob (Z3 T K.dir fu id args of nx) k:=by
 unfold A1W Z3
 cases lpE T6 (of id) with
 | none=>rfl
 | some r =>
  simp only [L5]
  cases (Nat.beq args.length r.ps.size&&r.ps.toList.all (fun p=>Nat.blt p r.nt))
  ·rfl
  ·simp only [cond_true]
   rw [A2k hK G0 of R r.asg,A5y]
   cases G1 T K.dir (fun _=>none) fu r.nt of r.asg ⟨A6I r.ps.toList args r.sl,.e,[id],nx,none⟩ with
   | none=>rfl
   | some p =>
    obtain ⟨ex,σ1⟩:=p
    simp only [ob2]
    cases ex with
    | normal =>
     simp only
     cases lpE T6 (B7 σ1.ob of id) with
     | none=>rfl
     | some r1 =>
      simp only
      rw [A2k hK G0 of R r.body,A5y]
      cases G1 T K.dir (fun _=>none) fu r.nt of r.body (setLp σ1 id { r1 with st:=.busy }) with
      | none=>rfl
      | some p2=>rfl
    | _=>rfl
theorem A4f {K:KC} (hK:K.nat) {fl:Bool} {fu id:Nat}:(A1W T K fl fu id).dir=Z3 T K.dir fu id:=by
 funext args of nx
 show A1W T K fl fu id M8 args of nx some=_
 rw [A5z hK]
 cases Z3 T K.dir fu id args of nx<;>rfl
theorem A9b {K:KC} (hK:K.nat) {fl:Bool} {fu id:Nat}:(A1W T K fl fu id).nat:=by
 intro R args of nx k
 rw [A4f hK,A5z hK]
end Go.Vm
end