/- What the operations of a program do, shown once for all programs; and numbers. -/
import Derived.Test.YtgaghkafmeelhaaGreatVm7
import Derived.Test.YtgaghkafmeelhaaGreatVm6
set_option linter.constructorNameAsVariable false
set_option linter.unusedVariables false
set_option linter.unusedSimpArgs false
set_option linter.unnecessarySimpa false
noncomputable section
namespace Go.Vm
open Go.RowKit
variable {P:Program} {T:TT} {c:F6} {e eb:B6} {of of':Nat→Option Ob}
def B5u {α:Type} (n:Nat):(Nat→α)→α:=@Nat.rec (fun _=>(Nat→α)→α) (fun k=>k 0) (fun m _ k=>k (Nat.succ m)) n
theorem A9H {α:Type} (n:Nat) (k:Nat→α):B5u n k=k n:=by cases n<;>rfl
def D8Z {α:Type} (i:Int):(Int→α)→α:=@Int.rec (fun _=>(Int→α)→α) (fun n k=>B5u n fun n=>k (.ofNat n)) (fun n k=>B5u n fun n=>k (.negSucc n)) i
theorem C1y {α:Type} (i:Int) (k:Int→α):D8Z i k=k i:=by
 cases i with
 | ofNat n=>exact A9H n fun n=>k (.ofNat n)
 | negSucc n=>exact A9H n fun n=>k (.negSucc n)
def C1z {α:Type} (a:A):(A→α)→α :=
 @A.rec (fun _=>(A→α)→α) (fun _=>Unit)
  (fun kd n k=>D8Z n fun n=>k (.i kd n)) (fun q k=>@Bool.rec (fun _=>(A→α)→α) (fun k=>k (.b false)) (fun k=>k (.b true)) q k) (fun l k=>k (.s l)) (fun v k=>k (.z v)) (fun t x k=>k (.v t x)) (fun id t p k=>k (.p id t p))
  (fun id v i t p k=>k (.e id v i t p)) (fun t x k=>k (.c t x)) (fun t x k=>k (.q t x)) (fun id v k=>k (.o id v)) (fun id v o n k=>k (.w id v o n)) (fun id t p l m k=>k (.a id t p l m)) (fun id k=>k (.m id)) (fun id k=>k (.y id))
  (fun f c _ k=>k (.f f c)) (fun t l _ k=>k (.g t l)) (fun l _ k=>k (.t l)) (fun k=>k .x) () (fun _ _ _ _=>()) a
theorem C1A {α:Type} (a:A) (k:A→α):C1z a k=k a:=by
 cases a with
 | i kd n=>exact C1y n fun n=>k (.i kd n)
 | b q=>cases q<;>rfl
 | _=>rfl
def C1B {α β:Type} (l:List β):(List β→α)→α:=@List.rec β (fun _=>(List β→α)→α) (fun k=>k []) (fun a r _ k=>k (a::r)) l
theorem C1C {α β:Type} (l:List β) (k:List β→α):C1B l k=k l:=by cases l<;>rfl
def onO {α β:Type} (q:Option α):(α→Option β)→Option β:=@Option.rec α (fun _=>(α→Option β)→Option β) (fun _=>none) (fun a k=>k a) q
theorem A4r {α β:Type} (q:Option α) (k:α→Option β):onO q k=match q with
  | some a=>k a
  | none=>none:=by cases q<;>rfl
def B2R (ob:Tr) (l:List Nat):List Nat→List Nat :=
 @List.rec Nat (fun _=>List Nat→List Nat) (fun rd=>rd) (fun id _ ih rd=>@Option.rec Ob (fun _=>List Nat) (@Bool.rec (fun _=>List Nat) (ih (id::rd)) (ih rd) (mem id rd)) (fun _=>ih rd) (ob.get id)) l
theorem C1D (ob:Tr):∀ (l rd:List Nat),B2R ob l rd=W0 ob l rd:=by
 intro l
 induction l with
 | nil=>intro rd;rfl
 | cons id r ih =>
  intro rd
  show @Option.rec Ob (fun _=>List Nat) (@Bool.rec (fun _=>List Nat) (B2R ob r (id::rd)) (B2R ob r rd) (mem id rd)) (fun _=>B2R ob r rd) (ob.get id)=_
  rw [ih,ih]
  simp only [W0]
  cases ob.get id with
  | none=>cases mem id rd<;>rfl
  | some o=>rfl
def C1E (l:List (Nat×Ob)):Tr→Tr:=@List.rec (Nat×Ob) (fun _=>Tr→Tr) (fun t=>t) (fun p _ ih t=>ih (t.set p.1 p.2)) l
theorem C1F:∀ (l:List (Nat×Ob)) (t:Tr),C1E l t=Z0 t l:=by
 intro l
 induction l with
 | nil=>intro t;rfl
 | cons p r ih=>intro t;exact ih _
def leQ (a b:Int):Bool :=
 @Int.rec (fun _=>Int→Bool) (fun n b=>@Int.rec (fun _=>Nat→Bool) (fun m n=>Nat.ble n m) (fun _ _=>false) b n) (fun n b=>@Int.rec (fun _=>Nat→Bool) (fun _ _=>true) (fun m n=>Nat.ble m n) b n) a b
theorem B2S (a b:Int):leQ a b=M6 a b:=by
 rw [Bool.eq_iff_iff,N9]
 cases a<;>cases b<;>simp only [leQ,Nat.ble_eq,Int.ofNat_eq_natCast,Bool.false_eq_true,false_iff,true_iff]<;>omega
def ltQ (a b:Int):Bool :=
 @Int.rec (fun _=>Int→Bool) (fun n b=>@Int.rec (fun _=>Nat→Bool) (fun m n=>Nat.blt n m) (fun _ _=>false) b n) (fun n b=>@Int.rec (fun _=>Nat→Bool) (fun _ _=>true) (fun m n=>Nat.blt m n) b n) a b
theorem B8t (a b:Int):ltQ a b=H8 a b:=by
 rw [Bool.eq_iff_iff,K6]
 cases a<;>cases b<;>simp only [ltQ,Nat.blt_eq,Int.ofNat_eq_natCast,Bool.false_eq_true,false_iff,true_iff]<;>omega
def eqQ (a b:Int):Bool :=
 @Int.rec (fun _=>Int→Bool) (fun n b=>@Int.rec (fun _=>Nat→Bool) (fun m n=>Nat.beq n m) (fun _ _=>false) b n) (fun n b=>@Int.rec (fun _=>Nat→Bool) (fun _ _=>false) (fun m n=>Nat.beq n m) b n) a b
theorem B8u (a b:Int):eqQ a b=ieq a b:=by cases a<;>cases b<;>rfl
def A3R (sg:Bool) (p h:Nat) (n:Int):Int :=
 (fun m=>@Bool.rec (fun _=>Nat→Int) (fun m=>.ofNat m) (fun m=>@Bool.rec (fun _=>Nat→Int) (fun m=>.negSucc (p - m - 1)) (fun m=>.ofNat m) (Nat.blt m h) m) sg m)
  (@Int.rec (fun _=>Nat) (fun m=>m % p) (fun m=>p - 1 - m % p) n)
theorem P9 (k:IntKind) (n:Int) (sg:Bool) (p h:Nat) (hs:k.signed=sg) (hp:(2:Int) ^ k.bits=(p:Int)) (hh:(2:Int) ^ (k.bits - 1)=(h:Int)) (h0:0 < p):A3R sg p h n=k.wrap n:=by
 have hm:∀ m:Nat,m < p→(n % (p:Int)=(m:Int))→(@Bool.rec (fun _=>Nat→Int) (fun m=>.ofNat m) (fun m=>@Bool.rec (fun _=>Nat→Int) (fun m=>.negSucc (p - m - 1)) (fun m=>.ofNat m) (Nat.blt m h) m) sg m:Int)=k.wrap n:=fun m hlt hmod=>by
  unfold IntKind.wrap
  simp only [hs,hp,hh,hmod]
  cases sg with
  | false=>simp
  | true =>
   show (@Bool.rec (fun _=>Nat→Int) (fun m=>.negSucc (p - m - 1)) (fun m=>.ofNat m) (Nat.blt m h) m:Int)=_
   cases hb:Nat.blt m h with
   | true =>
    have:m < h:=by simpa [Nat.blt_eq] using hb
    have h2:¬ ((m:Int) ≥ (h:Int)):=by omega
    simp [h2]
   | false =>
    have:¬ m < h:=by intro q;rw [show Nat.blt m h=true by simpa [Nat.blt_eq] using q] at hb;cases hb
    have h2:(m:Int) ≥ (h:Int):=by omega
    simp only [h2,decide_true,Bool.and_self,if_true,Bool.true_and,ge_iff_le]
    show Int.negSucc (p - m - 1)=_
    rw [Int.negSucc_eq]
    omega
 cases n with
 | ofNat m =>
  refine hm (m % p) (Nat.mod_lt _ h0) ?_
  show ((m:Int) % (p:Int))=_
  omega
 | negSucc m =>
  refine hm (p - 1 - m % p) (by have:=Nat.mod_lt m h0;omega) ?_
  rw [Int.negSucc_emod _ (by omega)]
  have:=Nat.mod_lt m h0
  omega
structure WrR where
 run:Int→Int
def wrR:IntKind→WrR
 | .i8=>⟨fun n=>A3R true 256 128 n⟩
 | .i16=>⟨fun n=>A3R true 65536 32768 n⟩
 | .i32=>⟨fun n=>A3R true 4294967296 2147483648 n⟩
 | .i64=>⟨fun n=>A3R true 18446744073709551616 9223372036854775808 n⟩
 | .u8=>⟨fun n=>A3R false 256 128 n⟩
 | .u16=>⟨fun n=>A3R false 65536 32768 n⟩
 | .u32=>⟨fun n=>A3R false 4294967296 2147483648 n⟩
 | .u64=>⟨fun n=>A3R false 18446744073709551616 9223372036854775808 n⟩
theorem B8v (k:IntKind) (n:Int):(wrR k).run n=k.wrap n:=by
 cases k with
 | i8=>exact P9 .i8 n true 256 128 rfl rfl rfl (by decide)
 | i16=>exact P9 .i16 n true 65536 32768 rfl rfl rfl (by decide)
 | i32=>exact P9 .i32 n true 4294967296 2147483648 rfl rfl rfl (by decide)
 | i64=>exact P9 .i64 n true 18446744073709551616 9223372036854775808 rfl rfl rfl (by decide)
 | u8=>exact P9 .u8 n false 256 128 rfl rfl rfl (by decide)
 | u16=>exact P9 .u16 n false 65536 32768 rfl rfl rfl (by decide)
 | u32=>exact P9 .u32 n false 4294967296 2147483648 rfl rfl rfl (by decide)
 | u64=>exact P9 .u64 n false 18446744073709551616 9223372036854775808 rfl rfl rfl (by decide)
structure IbR where
 run:IntKind→Int→Int→Option A
def C1G:BinOp→IbR
 | .add=>⟨fun k a b=>some (.i k ((wrR k).run (a+b)))⟩
 | .sub=>⟨fun k a b=>some (.i k ((wrR k).run (a - b)))⟩
 | .mul=>⟨fun k a b=>some (.i k ((wrR k).run (a * b)))⟩
 | .quo=>⟨fun k a b=>bif eqQ b 0 then none else some (.i k ((wrR k).run (a.tdiv b)))⟩
 | .rem=>⟨fun k a b=>bif eqQ b 0 then none else some (.i k (a.tmod b))⟩
 | .shl=>⟨fun k a b=>bif leQ 0 b then some (.i k ((wrR k).run (a * 2 ^ min b.toNat k.bits))) else none⟩
 | .shr=>⟨fun k a b=>bif leQ 0 b then some (.i k (a.fdiv (2 ^ min b.toNat k.bits))) else none⟩
 | .eql=>⟨fun k a b=>some (.b (eqQ a b))⟩
 | .neq=>⟨fun k a b=>some (.b (!eqQ a b))⟩
 | .lss=>⟨fun k a b=>some (.b (ltQ a b))⟩
 | .leq=>⟨fun k a b=>some (.b (leQ a b))⟩
 | .gtr=>⟨fun k a b=>some (.b (ltQ b a))⟩
 | .geq=>⟨fun k a b=>some (.b (leQ b a))⟩
 | .and=>⟨fun k a b=>A2I .and k a b⟩
 | .or=>⟨fun k a b=>A2I .or k a b⟩
 | .xor=>⟨fun k a b=>A2I .xor k a b⟩
 | .andNot=>⟨fun k a b=>A2I .andNot k a b⟩
theorem C1H (op:BinOp) (k:IntKind) (a b:Int):(C1G op).run k a b=A2I op k a b:=by
 cases op<;>simp only [C1G,A2I,B8v,B2S,B8t,B8u]
 case quo=>cases ieq b 0<;>rfl
 case rem=>cases ieq b 0<;>rfl
 case shl=>cases M6 0 b<;>rfl
 case shr=>cases M6 0 b<;>rfl
structure OpR where
 run:KS→(Nat→A)→(Nat→Option Ob)→Nat→Option J7
structure OdR where
 get:(Nat→A)→A
def Y7:Operand→OdR
 | .tmp t=>⟨fun sl=>sl t⟩
 | .const v=>⟨fun _=>A2Z v⟩
 | .func f=>⟨fun _=>.f f []⟩
 | .global _=>⟨fun _=>.x⟩
theorem P6 (x:Operand) (sl:Nat→A):(Y7 x).get sl=M4 sl x:=by cases x<;>rfl
structure OlR where
 get:(Nat→A)→List A
def olR:List Operand→OlR
 | []=>⟨fun _=>[]⟩
 | x::r=>⟨fun sl=>(Y7 x).get sl::(olR r).get sl⟩
theorem B2T (l:List Operand) (sl:Nat→A):(olR l).get sl=l.map (M4 sl):=by
 induction l with
 | nil=>rfl
 | cons x r ih=>simp only [olR,List.map_cons,P6,ih]
structure D9u where
 get:(Nat→A)→List (Nat×A)
def A3a:List (Nat×Operand)→D9u
 | []=>⟨fun _=>[]⟩
 | x::r=>⟨fun sl=>(x.1,(Y7 x.2).get sl)::(A3a r).get sl⟩
theorem B5v (l:List (Nat×Operand)) (sl:Nat→A):(A3a l).get sl=A20 (M4 sl) l:=by
 induction l with
 | nil=>rfl
 | cons x r ih=>simp only [A3a,P6,ih];rfl
structure OoR where
 get:(Nat→A)→Option A
def ooR:Option Operand→OoR
 | none=>⟨fun _=>none⟩
 | some x=>⟨fun sl=>some ((Y7 x).get sl)⟩
theorem D3d (o:Option Operand) (sl:Nat→A):(ooR o).get sl=o.map (M4 sl):=by
 cases o with
 | none=>rfl
 | some x=>simp only [ooR,P6,Option.map_some]
def D9v {R:Type} (a:A):(Nat→List A→R)→(Nat→R)→R→R :=
 @A.rec (fun _=>(Nat→List A→R)→(Nat→R)→R→R) (fun _=>Unit)
  (fun _ _ _ _ d=>d) (fun _ _ _ d=>d) (fun _ _ _ d=>d) (fun _ _ _ d=>d) (fun _ _ _ _ d=>d) (fun _ _ _ _ _ d=>d) (fun _ _ _ _ _ _ _ d=>d) (fun _ _ _ _ d=>d) (fun _ _ _ _ d=>d)
  (fun _ _ _ _ d=>d) (fun _ _ _ _ _ _ d=>d) (fun _ _ _ _ _ _ _ d=>d) (fun _ _ _ d=>d) (fun id _ y _=>y id) (fun fn cap _ f _ _=>f fn cap) (fun _ _ _ _ _ d=>d) (fun _ _ _ _ d=>d) (fun _ _ d=>d) () (fun _ _ _ _=>()) a
def B2U {R:Type} (a:A):(IntKind→Int→R)→R→R :=
 @A.rec (fun _=>(IntKind→Int→R)→R→R) (fun _=>Unit)
  (fun k n f _=>f k n) (fun _ _ d=>d) (fun _ _ d=>d) (fun _ _ d=>d) (fun _ _ _ d=>d) (fun _ _ _ _ d=>d) (fun _ _ _ _ _ _ d=>d) (fun _ _ _ d=>d) (fun _ _ _ d=>d)
  (fun _ _ _ d=>d) (fun _ _ _ _ _ d=>d) (fun _ _ _ _ _ _ d=>d) (fun _ _ d=>d) (fun _ _ d=>d) (fun _ _ _ _ d=>d) (fun _ _ _ _ d=>d) (fun _ _ _ d=>d) (fun _ d=>d) () (fun _ _ _ _=>()) a
def B8w {R:Type} (a:A):(Nat→Nat→R)→R→R:=@A.rec (fun _=>(Nat→Nat→R)→R→R) (fun _=>Unit) (fun _ _ f d=>d) (fun _ f d=>d) (fun _ f d=>d) (fun _ f d=>d) (fun _ _ f d=>d) (fun _ _ _ f d=>d) (fun _ _ _ _ _ f d=>d) (fun _ _ f d=>d) (fun _ _ f d=>d) (fun id ver f d=>f id ver) (fun _ _ _ _ f d=>d) (fun _ _ _ _ _ f d=>d) (fun _ f d=>d) (fun _ f d=>d) (fun _ _ _ f d=>d) (fun _ _ _ f d=>d) (fun _ _ f d=>d) (fun f d=>d) () (fun _ _ _ _=>()) a
def D80 {R:Type} (a:A):(Nat→Nat→List Nat→R)→R→R:=@A.rec (fun _=>(Nat→Nat→List Nat→R)→R→R) (fun _=>Unit) (fun _ _ f d=>d) (fun _ f d=>d) (fun _ f d=>d) (fun _ f d=>d) (fun _ _ f d=>d) (fun id t path f d=>f id t path) (fun _ _ _ _ _ f d=>d) (fun _ _ f d=>d) (fun _ _ f d=>d) (fun _ _ f d=>d) (fun _ _ _ _ f d=>d) (fun _ _ _ _ _ f d=>d) (fun _ f d=>d) (fun _ f d=>d) (fun _ _ _ f d=>d) (fun _ _ _ f d=>d) (fun _ _ f d=>d) (fun f d=>d) () (fun _ _ _ _=>()) a
def A0P {R:Type} (q:Option Ob):(Nat→Nat→List V→Bool→Bool→R)→R→R :=
 @Option.rec Ob (fun _=>(Nat→Nat→List V→Bool→Bool→R)→R→R) (fun _ d=>d) (fun o f d=>@Ob.rec (fun _=>(Nat→Nat→List V→Bool→Bool→R)→R→R) (fun _ _ _ _ d=>d) (fun el v xs nl sh f _=>f el v xs nl sh) (fun _ _ _ _ d=>d) (fun _ _ d=>d) (fun _ _ d=>d) (fun _ _ _ _ d=>d) (fun _ _ _ _ _ _ d=>d) o f d) q
def A9I {R:Type} (q:Option Ob):(Nat→A→Bool→R)→R→R :=
 @Option.rec Ob (fun _=>(Nat→A→Bool→R)→R→R) (fun _ d=>d) (fun o f d=>@Ob.rec (fun _=>(Nat→A→Bool→R)→R→R) (fun t a sh f _=>f t a sh) (fun _ _ _ _ _ _ d=>d) (fun _ _ _ _ d=>d) (fun _ _ d=>d) (fun _ _ d=>d) (fun _ _ _ _ d=>d) (fun _ _ _ _ _ _ d=>d) o f d) q
def R4 {R:Type} (b:Bool):R→R→R:=@Bool.rec (fun _=>R→R→R) (fun _ e=>e) (fun t _=>t) b
theorem Q4 {R:Type} (b:Bool) (t e:R):R4 b t e=if b then t else e:=by cases b<;>rfl
def A4U (l:List V):Nat:=@List.rec V (fun _=>Nat) 0 (fun _ _ ih=>Nat.succ ih) l
theorem A49 (l:List V):A4U l=l.length:=by
 induction l with
 | nil=>rfl
 | cons a r ih=>show Nat.succ (A4U r)=_;rw [ih];rfl
def D3e (l:List V):List V→List V:=@List.rec V (fun _=>List V→List V) (fun m=>m) (fun a _ ih m=>a::ih m) l
theorem C1I (l m:List V):D3e l m=l++m:=by
 induction l with
 | nil=>rfl
 | cons a r ih=>show a::D3e r m=_;rw [ih];rfl
def C1J (l:List V):Nat→V:=@List.rec V (fun _=>Nat→V) (fun _=>.n) (fun a _ ih i=>@Nat.rec (fun _=>V) a (fun j _=>ih j) i) l
theorem C1K:∀ (l:List V) (i:Nat),C1J l i=l.getD i .n:=by
 intro l
 induction l with
 | nil=>intro i;simp [C1J,List.getD]
 | cons a r ih =>
  intro i
  cases i with
  | zero=>rfl
  | succ j=>show C1J r j=_;rw [ih];simp [List.getD]
structure MkR where
 run:V→A
def mkR (T:TT) (t:Nat):MkR :=
 match C3 T t with
 | some (.int k)=>⟨fun x=>.i k x.int⟩
 | some .bool=>⟨fun x=>.b x.bl⟩
 | some .str=>⟨fun x=>.s x.els⟩
 | some .func=>⟨fun x=>mkA T t x⟩
 | _=>⟨fun x=>.v t x⟩
theorem D3f (t:Nat) (x:V):(mkR T t).run x=mkA T t x:=by
 unfold mkR
 cases hk:C3 T t with
 | none=>simp [mkA,hk]
 | some k=>cases k<;>simp [mkA,hk]
def A6p (T:TT) (t:Nat) (k:IntKind):Bool:=(match C3 T t with
  | some (.int k')=>k == k'
  | _=>false)&&Nat.beq (C2 T t) 1
def asF (T:TT) (t:Nat) (a:A):Option A:=@A.rec (fun _=>A→Option A) (fun _=>Unit) (fun k n a=>R4 (A6p T t k) (some a) none) (fun _ a=>M0 T t a) (fun _ a=>M0 T t a) (fun _ a=>M0 T t a) (fun t1 x a=>R4 (same T t t1) (some (.v t x)) none) (fun _ _ _ a=>M0 T t a) (fun _ _ _ _ _ a=>M0 T t a) (fun _ _ a=>M0 T t a) (fun _ _ a=>M0 T t a) (fun id ver a=>R4 (S7 T t) (some a) none) (fun _ _ _ _ a=>M0 T t a) (fun _ _ _ _ _ a=>M0 T t a) (fun _ a=>M0 T t a) (fun _ a=>M0 T t a) (fun _ _ _ a=>M0 T t a) (fun _ _ _ a=>M0 T t a) (fun _ _ a=>M0 T t a) (fun a=>M0 T t a) () (fun _ _ _ _=>()) a a
theorem B2V (t:Nat) (a:A):asF T t a=M0 T t a:=by
 cases a<;>try rfl
 case i k n=>show R4 (A6p T t k) _ _=_;rw [Q4];rfl
 case v t1 x=>show R4 (same T t t1) _ _=_;rw [Q4];rfl
 case o id ver=>show R4 (S7 T t) _ _=_;rw [Q4];rfl
def B06 (T:TT) (a:A):A:=@A.rec (fun _=>A→A) (fun _=>Unit) (fun _ _ a=>a) (fun _ a=>a) (fun _ a=>a) (fun _ a=>a) (fun t x a=>(mkR T t).run x) (fun _ _ _ a=>a) (fun _ _ _ _ _ a=>a) (fun _ _ a=>a) (fun _ _ a=>a) (fun _ _ a=>a) (fun _ _ _ _ a=>a) (fun _ _ _ _ _ a=>a) (fun _ a=>a) (fun _ a=>a) (fun _ _ _ a=>a) (fun _ _ _ a=>a) (fun _ _ a=>a) (fun a=>a) () (fun _ _ _ _=>()) a a
theorem A6q (a:A):B06 T a=norm T a:=by
 cases a<;>try rfl
 case v t x=>exact D3f t x
def atF (T:TT) (a:A) (path:List Nat):Option A:=@List.rec Nat (fun _=>A→List Nat→Option A) (fun a _=>some (B06 T a)) (fun _ _ _ a p=>atA T a p) path a path
theorem B8x (a:A) (path:List Nat):atF T a path=atA T a path:=by
 cases path with
 | nil=>show some (B06 T a)=_;rw [A6q];cases a<;>rfl
 | cons _ _=>rfl
def D81 (T:TT) (a:A) (path:List Nat) (b:A):Option A:=@List.rec Nat (fun _=>A→List Nat→A→Option A) (fun _ _ b=>some b) (fun _ _ _ a p b=>A1G T a p b) path a path b
theorem C1L (a:A) (path:List Nat) (b:A):D81 T a path b=A1G T a path b:=by
 cases path with
 | nil=>cases a<;>rfl
 | cons _ _=>rfl
def D3g (T:TT) (el t:Nat):Bool:=match C3 T t with
  | some (.slice el')=>Nat.beq el el'
  | _=>false
def D3h (T:TT) (t:Nat) (x:Operand):OpR :=
 match C3 T t with
 | some (.slice el)=>⟨fun K sl of nx=>B8w ((Y7 x).get sl) (fun id ver=>A0P (of id) (fun el' v xs _ _=>R4 (Nat.beq el el'&&Nat.beq v ver) (R4 (Nat.ble (A4U xs) 9223372036854775807) (some ⟨.i .i64 (A4U xs:Nat),[],[id],nx⟩) none) none) none) (pvR nx (A5n T of t (M4 sl x)))⟩
 | _=>⟨fun K sl of nx=>pvR nx (A5n T of t (M4 sl x))⟩
theorem C1M (t:Nat) (x:Operand) (K:KS) (sl:Nat→A) (of:Nat→Option Ob) (nx:Nat):(D3h T t x).run K sl of nx=pvR nx (A5n T of t (M4 sl x)):=by
 unfold D3h
 split
 ·rename_i el hk
  simp only [P6]
  cases M4 sl x<;>try rfl
  rename_i id ver
  show A0P (of id) _ none=_
  simp only [A5n,A2J,B5q,A4T,B1o,hk,J5]
  cases of id with
  | none=>rfl
  | some o =>
   cases o<;>try rfl
   rename_i el' v xs nl sh
   show R4 (Nat.beq el el'&&Nat.beq v ver) _ _=_
   simp only [Q4,A49]
   cases (Nat.beq el el'&&Nat.beq v ver)
   ·rfl
   ·simp only [if_true]
    cases Nat.ble xs.length 9223372036854775807<;>rfl
 ·rfl
def D82 (T:TT) (of:Nat→Option Ob) (el:Nat) (y:A):Option (List V×List Nat) :=
 @A.rec (fun _=>(Nat→Option Ob)→A→Option (List V×List Nat)) (fun _=>Unit) (fun _ _ of y=>J5 T of el y) (fun _ of y=>J5 T of el y) (fun _ of y=>J5 T of el y) (fun _ of y=>J5 T of el y) (fun t x of y=>R4 (D3g T el t) (some (x.els,[])) none) (fun _ _ _ of y=>J5 T of el y) (fun _ _ _ _ _ of y=>J5 T of el y) (fun _ _ of y=>J5 T of el y) (fun _ _ of y=>J5 T of el y) (fun id ver of y=>A0P (of id) (fun el' v xs _ _=>R4 (Nat.beq el el'&&Nat.beq v ver) (some (xs,[id])) none) none) (fun _ _ _ _ of y=>J5 T of el y) (fun _ _ _ _ _ of y=>J5 T of el y) (fun _ of y=>J5 T of el y) (fun _ of y=>J5 T of el y) (fun _ _ _ of y=>J5 T of el y) (fun _ _ _ of y=>J5 T of el y) (fun _ _ of y=>J5 T of el y) (fun of y=>J5 T of el y) () (fun _ _ _ _=>()) y of y
theorem C1N (of:Nat→Option Ob) (el:Nat) (y:A):D82 T of el y=J5 T of el y:=by
 cases y<;>try rfl
 case v t x =>
  show R4 (D3g T el t) _ _=_
  rw [Q4]
  obtain ⟨q,hk⟩:∃ q,C3 T t=q:=⟨_,rfl⟩
  simp only [D3g,J5,hk]
  cases q with
  | none=>rfl
  | some k=>cases k<;>rfl
 case o id ver =>
  show A0P (of id) _ none=_
  simp only [J5]
  cases of id with
  | none=>rfl
  | some o =>
   cases o<;>try rfl
   rename_i el' v xs nl sh
   show R4 (Nat.beq el el'&&Nat.beq v ver) _ _=_
   rw [Q4]
def B37 (T:TT) (t:Nat):Bool:=match C3 T t with
  | some (.slice _)=>true
  | _=>false
def D83 (T:TT) (el:Nat):Bool:=match T el with
  | some te=>Nat.ble te.bytes 131072&&TK.notOther te.k&&Nat.blt 0 te.size
  | none=>false
def A2D (T:TT) (t xt:Nat) (x y:Operand):OpR:=⟨fun K sl of nx=>if A1p T xt (M4 sl y) then A0j nx (A0V T of nx t (M4 sl x) (M4 sl y)) else if isQ T (M4 sl x) then A0j nx (A4j T nx t xt (M4 sl x) (M4 sl y)) else none⟩
def B8y (a:A):Bool:=@A.rec (fun _=>Bool) (fun _=>Unit) (fun _ _=>true) (fun _=>true) (fun l=>false) (fun _=>true) (fun _ _=>true) (fun _ _ _=>true) (fun _ _ _ _ _=>true) (fun _ _=>true) (fun _ _=>true) (fun _ _=>true) (fun _ _ _ _=>true) (fun _ _ _ _ _=>true) (fun _=>true) (fun _=>true) (fun _ _ _=>true) (fun _ _ _=>true) (fun _ _=>true) (true) () (fun _ _ _ _=>()) a
def D3i (T:TT) (t xt:Nat) (x y:Operand):OpR :=
 match C3 T t with
 | some (.slice el)=>if B37 T xt&&D83 T el then ⟨fun K sl of nx=>B8w ((Y7 x).get sl) (fun id ver=>R4 (B8y ((Y7 y).get sl)) (onO (D82 T of el ((Y7 y).get sl)) (fun p=>A0P (of id) (fun el' v xs nl sh=>R4 (Nat.beq el el'&&Nat.beq v ver&&Nat.ble (A4U xs+A4U p.1) LIM)
   (some ⟨.o id (ver+1),[(id,.row el (ver+1) (D3e xs p.1) (nl&&p.1.isEmpty) sh)],id::p.2,nx⟩) none) none)) ((A2D T t xt x y).run K sl of nx)) ((A2D T t xt x y).run K sl of nx)⟩ else A2D T t xt x y
 | _=>A2D T t xt x y
theorem C1O (t xt:Nat) (x y:Operand) (K:KS) (sl:Nat→A) (of:Nat→Option Ob) (nx:Nat):(D3i T t xt x y).run K sl of nx=if A1p T xt (M4 sl y) then A0j nx (A0V T of nx t (M4 sl x) (M4 sl y)) else if isQ T (M4 sl x) then A0j nx (A4j T nx t xt (M4 sl x) (M4 sl y)) else none:=by
 unfold D3i
 split
 ·rename_i el hk
  split
  ·rename_i hc
   simp only [D9z] at hc
   obtain ⟨h1,h2⟩:=hc
   simp only [P6]
   cases hx:M4 sl x<;>try (simp only [A2D,hx];rfl)
   rename_i id ver
   show R4 (B8y (M4 sl y)) _ _=_
   rw [Q4]
   cases hn:B8y (M4 sl y) with
   | false=>simp only [Bool.false_eq_true,if_false,A2D,hx]
   | true =>
    have hap:A1p T xt (M4 sl y)=true:=by
     unfold B37 at h1
     split at h1<;>try (cases h1;done)
     rename_i e2 hk2
     unfold A1p
     rw [hk2]
     simp only
     cases hy:M4 sl y<;>first | rfl | (rw [hy] at hn;cases hn)
    simp only [if_true,hap]
    rw [A4r,C1N]
    simp only [A0V,hk]
    unfold D83 at h2
    cases hte:T el with
    | none=>rw [hte] at h2;cases h2
    | some te =>
     rw [hte] at h2
     simp only at h2
     cases hs:J5 T of el (M4 sl y) with
     | none=>rfl
     | some p =>
      obtain ⟨ns,ro⟩:=p
      simp only [h2,if_true]
      cases of id with
      | none=>rfl
      | some o =>
       cases o<;>try rfl
       rename_i el' v xs nl sh
       show R4 (Nat.beq el el'&&Nat.beq v ver&&Nat.ble (A4U xs+A4U ns) LIM) _ _=_
       simp only [Q4,A49,C1I]
       cases (Nat.beq el el'&&Nat.beq v ver&&Nat.ble (xs.length+ns.length) LIM)<;>rfl
  ·rfl
 ·rfl
def A4s (T:TT) (t len:Nat) (parts:List (Nat×Operand)):OpR:=⟨fun K sl of nx=>A0j nx (V7 T of nx t len ((A3a parts).get sl))⟩
def D84 (T:TT) (el len:Nat):Bool:=match T el with
  | some te=>TK.notOther te.k&&Nat.blt 0 te.size&&Nat.ble (len * te.size) 16777216
  | none=>false
def bsR (T:TT) (t len:Nat) (parts:List (Nat×Operand)):OpR :=
 match C3 T t with
 | some (.slice el)=>match parts with
  | []=>A4s T t len parts
  | [p]=>if D84 T el len&&(Nat.beq len 1&&Nat.beq p.1 0) then ⟨fun K sl of nx=>B2U ((Y7 p.2).get sl) (fun k n=>R4 (A6p T el k) (some ⟨.o nx 1,[(nx,.row el 1 [.i n] false false)],[],nx+1⟩) ((A4s T t len parts).run K sl of nx)) ((A4s T t len parts).run K sl of nx)⟩ else A4s T t len parts
  | _=>A4s T t len parts
 | _=>A4s T t len parts
theorem D3j (t len:Nat) (parts:List (Nat×Operand)) (K:KS) (sl:Nat→A) (of:Nat→Option Ob) (nx:Nat):(bsR T t len parts).run K sl of nx=A0j nx (V7 T of nx t len ((A3a parts).get sl)):=by
 unfold bsR
 split
 ·rename_i el hk
  split
  ·rfl
  ·rename_i p
   split
   ·rename_i hc
    simp only [D9z] at hc
    obtain ⟨h1,h2,h3⟩:=hc
    have h2:=D9y h2
    have h3:=D9y h3
    subst h2
    simp only [P6]
    cases hx:M4 sl p.2<;>try rfl
    rename_i k n
    show R4 (A6p T el k) _ _=_
    rw [Q4]
    cases hf:A6p T el k with
    | false=>rfl
    | true =>
     simp only [if_true,A3a,P6,hx,h3]
     unfold D84 at h1
     cases hte:T el with
     | none=>rw [hte] at h1;cases h1
     | some te =>
      rw [hte] at h1
      simp only at h1
      have hv:M3 T DEP of el (.i k n)=some (.i n,[]):=by
       have:C7 T el (.i k n)=true:=hf
       simp only [DEP,M3,M0,this,if_true,A3x]
      simp only [V7,hk,hte,W4,hv,h1,if_true,A7f]
      have hb:Nat.blt 0 (List.replicate 1 te.zero).length=true:=rfl
      rw [if_pos hb]
      simp [A0j,A1a,T5,List.replicate]
   ·rfl
  ·rfl
 ·rfl
def ldR (T:TT) (t0:Nat) (a:Operand):OpR :=
 if (T t0).isSome then ⟨fun K sl of nx=>@A.rec (fun _=>(Nat→Option Ob)→A→Nat→Option J7) (fun _=>Unit) (fun _ _ of u nx=>pvR nx (R7 T of t0 u)) (fun _ of u nx=>pvR nx (R7 T of t0 u)) (fun _ of u nx=>pvR nx (R7 T of t0 u)) (fun _ of u nx=>pvR nx (R7 T of t0 u)) (fun _ _ of u nx=>pvR nx (R7 T of t0 u)) (fun id t path of u nx=>A9I (of id) (fun _ b _=>onO (atF T b path) fun a1=>onO (asF T t0 a1) fun a2=>some ⟨B06 T a2,[],[id],nx⟩) none) (fun id ver i t path of u nx=>A0P (of id) (fun el v xs _ _=>R4 (Nat.beq v ver) (onO (atF T (.v el (C1J xs i)) path) fun a1=>onO (asF T t0 a1) fun a2=>some ⟨B06 T a2,[],[id],nx⟩) none) none) (fun _ _ of u nx=>pvR nx (R7 T of t0 u)) (fun _ _ of u nx=>pvR nx (R7 T of t0 u)) (fun _ _ of u nx=>pvR nx (R7 T of t0 u)) (fun _ _ _ _ of u nx=>pvR nx (R7 T of t0 u)) (fun _ _ _ _ _ of u nx=>pvR nx (R7 T of t0 u)) (fun _ of u nx=>pvR nx (R7 T of t0 u)) (fun _ of u nx=>pvR nx (R7 T of t0 u)) (fun _ _ _ of u nx=>pvR nx (R7 T of t0 u)) (fun _ _ _ of u nx=>pvR nx (R7 T of t0 u)) (fun _ _ of u nx=>pvR nx (R7 T of t0 u)) (fun of u nx=>pvR nx (R7 T of t0 u)) () (fun _ _ _ _=>()) ((Y7 a).get sl) of ((Y7 a).get sl) nx⟩ else ⟨fun _ _ _ _=>none⟩
theorem D3k (t:Nat) (a:Operand) (K:KS) (sl:Nat→A) (of:Nat→Option Ob) (nx:Nat):(ldR T t a).run K sl of nx=pvR nx (R7 T of t (M4 sl a)):=by
 unfold ldR
 split
 ·rename_i hT
  simp only [P6]
  cases M4 sl a<;>try rfl
  case p id t1 path =>
   show A9I (of id) _ none=_
   simp only [R7,hT,if_true]
   cases of id with
   | none=>rfl
   | some o =>
    cases o<;>try rfl
    rename_i t2 b sh
    show onO (atF T b path) _=_
    rw [A4r,B8x]
    simp only
    cases atA T b path with
    | none=>rfl
    | some a1 =>
     simp only [A4r,B2V,A6q]
     cases M0 T t a1<;>rfl
  case e id ver i t1 path =>
   show A0P (of id) _ none=_
   simp only [R7,hT,if_true]
   cases of id with
   | none=>rfl
   | some o =>
    cases o<;>try rfl
    rename_i el v xs nl sh
    show R4 (Nat.beq v ver) _ _=_
    rw [Q4]
    simp only
    cases Nat.beq v ver
    ·rfl
    ·simp only [if_true,elA,C1K,A4r,B8x]
     cases atA T (.v el (xs.getD i .n)) path with
     | none=>rfl
     | some a1 =>
      simp only [B2V,A6q]
      cases M0 T t a1<;>rfl
 ·rename_i hT
  simp only [R7,hT]
  rfl
def B8z (T:TT) (t:Nat) (a x:Operand):OpR:=⟨fun K sl of nx=>match A2V T of t (M4 sl a) (M4 sl x) with
  | some (wo,ro)=>some ⟨.x,wo,ro,nx⟩
  | none=>none⟩
def stR (T:TT) (t:Nat) (a x:Operand):OpR :=
 if (T t).isSome then ⟨fun K sl of nx=>D80 ((Y7 a).get sl) (fun id t1 path=>A9I (of id) (fun t0 b sh=>R4 sh none (R4 (same T t t1) (onO (asF T t1 ((Y7 x).get sl)) fun v'=>onO (D81 T b path v') fun a'=>some ⟨.x,[(id,.box t0 a' false)],[id],nx⟩) none)) none) ((B8z T t a x).run K sl of nx)⟩ else ⟨fun _ _ _ _=>none⟩
theorem D3l (t:Nat) (a x:Operand) (K:KS) (sl:Nat→A) (of:Nat→Option Ob) (nx:Nat):(stR T t a x).run K sl of nx=match A2V T of t (M4 sl a) (M4 sl x) with
  | some (wo,ro)=>some ⟨.x,wo,ro,nx⟩
  | none=>none:=by
 unfold stR
 split
 ·rename_i hT
  simp only [P6]
  cases hx:M4 sl a<;>try (simp only [B8z,hx];rfl)
  rename_i id t1 path
  show A9I (of id) _ none=_
  simp only [A2V,hT,if_true]
  cases of id with
  | none=>rfl
  | some o =>
   cases o<;>try rfl
   rename_i t2 b sh
   show R4 sh none _=_
   cases sh
   ·show R4 (same T t t1) _ _=_
    rw [Q4]
    simp only
    cases same T t t1
    ·rfl
    ·simp only [if_true,A4r,B2V]
     cases M0 T t1 (M4 sl x) with
     | none=>rfl
     | some v' =>
      simp only [C1L]
      cases A1G T b path v'<;>rfl
   ·rfl
 ·rename_i hT
  simp only [A2V,hT]
  rfl
def iaR (T:TT) (t:Nat) (x ix:Operand):OpR :=
 match C3 T t with
 | some (.slice el)=>if (T el).isSome then ⟨fun K sl of nx=>B2U ((Y7 ix).get sl) (fun _ i=>B8w ((Y7 x).get sl) (fun id ver=>A0P (of id) (fun el' v xs _ _=>R4 (leQ 0 i&&(Nat.beq el el'&&Nat.beq v ver&&ltQ i (A4U xs:Nat))) (some ⟨.e id ver i.toNat el [],[],[id],nx⟩) none) none) (pvR nx (N3 T of t i (M4 sl x)))) none⟩ else ⟨fun _ _ _ _=>none⟩
 | _=>⟨fun K sl of nx=>B2U ((Y7 ix).get sl) (fun _ i=>pvR nx (N3 T of t i (M4 sl x))) none⟩
theorem D3m (t:Nat) (x ix:Operand) (K:KS) (sl:Nat→A) (of:Nat→Option Ob) (nx:Nat):(iaR T t x ix).run K sl of nx=match M4 sl ix with
  | .i _ i=>pvR nx (N3 T of t i (M4 sl x))
  | _=>none:=by
 unfold iaR
 split
 ·rename_i el hk
  split
  ·rename_i hT
   simp only [P6]
   cases M4 sl ix<;>try rfl
   rename_i k i
   show B8w (M4 sl x) _ _=_
   cases hx:M4 sl x<;>try rfl
   rename_i id ver
   show A0P (of id) _ none=_
   simp only [N3,hk,hT,Bool.and_true]
   cases of id with
   | none=>cases M6 0 i<;>rfl
   | some o =>
    cases o<;>try (cases M6 0 i<;>rfl)
    rename_i el' v xs nl sh
    show R4 (leQ 0 i&&(Nat.beq el el'&&Nat.beq v ver&&ltQ i (A4U xs:Nat))) _ _=_
    rw [Q4,B2S,B8t,A49]
    cases M6 0 i
    ·rfl
    ·simp only [Bool.true_and,if_true]
     cases (Nat.beq el el'&&Nat.beq v ver&&H8 i xs.length)<;>rfl
  ·rename_i hT
   have hT:(T el).isSome=false:=by simpa using hT
   cases hi:M4 sl ix<;>try rfl
   rename_i k i
   simp only [N3,hk,hT,Bool.and_false]
   rfl
 ·simp only [P6]
  cases M4 sl ix<;>rfl
def faR (T:TT) (s f:Nat) (x:Operand):OpR :=
 match C3 T s with
 | some (.struct fs)=>match fs[f]? with
  | some ft=>if Nat.blt 0 (C2 T ft) then ⟨fun K sl of nx=>D80 ((Y7 x).get sl) (fun id t path=>R4 (same T s t) (some ⟨.p id ft (path++[f]),[],[],nx⟩) none) (pvR nx (Q0 T of s f (M4 sl x)))⟩ else ⟨fun _ _ _ _=>none⟩
  | none=>⟨fun _ _ _ _=>none⟩
 | _=>⟨fun _ _ _ _=>none⟩
theorem D3n (s f:Nat) (x:Operand) (K:KS) (sl:Nat→A) (of:Nat→Option Ob) (nx:Nat):(faR T s f x).run K sl of nx=pvR nx (Q0 T of s f (M4 sl x)):=by
 unfold faR
 split
 ·rename_i fs hk
  split
  ·rename_i ft hf
   split
   ·rename_i hz
    simp only [P6]
    cases hx:M4 sl x<;>try rfl
    rename_i id t path
    show R4 (same T s t) _ _=_
    rw [Q4]
    simp only [Q0,hk,hf,hz,if_true]
    cases same T s t<;>rfl
   ·rename_i hz
    simp only [Q0,hk,hf,hz]
    rfl
  ·rename_i hf
   simp only [Q0,hk,hf]
   rfl
 ·rename_i hk
  unfold Q0
  split
  ·rename_i fs h;exact absurd h (hk fs)
  ·rfl
structure BdR where
 run:(Nat→A)→Int→(Int→Option J7)→Option J7
def bdR:Option Operand→BdR
 | none=>⟨fun _ d k=>k d⟩
 | some x=>⟨fun sl _ k=>B2U ((Y7 x).get sl) (fun _ i=>k i) none⟩
theorem D3o (o:Option Operand) (sl:Nat→A) (d:Int) (k:Int→Option J7):(bdR o).run sl d k=match H7 d ((ooR o).get sl) with
  | some i=>k i
  | none=>none:=by
 cases o with
 | none=>rfl
 | some x =>
  simp only [bdR,ooR,P6]
  cases M4 sl x<;>rfl
def A6r (T:TT) (t:Nat) (x:Operand) (lo hi mx:Option Operand):OpR:=⟨fun K sl of nx=>pvW nx (A1R T of t ((Y7 x).get sl) ((ooR lo).get sl) ((ooR hi).get sl) ((ooR mx).get sl))⟩
def D3p (T:TT) (t:Nat) (x:Operand) (lo hi mx:Option Operand):OpR :=
 match C3 T t,mx with
 | some (.slice el),none=>if (T el).isSome then ⟨fun K sl of nx=>B8w ((Y7 x).get sl) (fun id ver=>A0P (of id) (fun el' v xs nl _=>R4 nl ((A6r T t x lo hi mx).run K sl of nx) (R4 (Nat.beq el el'&&Nat.beq v ver) ((bdR lo).run sl (0:Nat) fun l=>(bdR hi).run sl (A4U xs:Nat) fun h=>R4 (leQ 0 l&&leQ l h&&leQ h (A4U xs:Nat)) (some ⟨.w id ver (0+l.toNat) (h - l).toNat,[],[id],nx⟩) none) none)) none) ((A6r T t x lo hi mx).run K sl of nx)⟩ else A6r T t x lo hi mx
 | _,_=>A6r T t x lo hi mx
theorem C1P (t:Nat) (x:Operand) (lo hi mx:Option Operand) (K:KS) (sl:Nat→A) (of:Nat→Option Ob) (nx:Nat):(D3p T t x lo hi mx).run K sl of nx=pvW nx (A1R T of t ((Y7 x).get sl) ((ooR lo).get sl) ((ooR hi).get sl) ((ooR mx).get sl)):=by
 unfold D3p
 split
 ·rename_i el hk
  split
  ·rename_i hT
   simp only [A6r]
   cases hx:(Y7 x).get sl<;>try rfl
   rename_i id ver
   show A0P (of id) _ none=_
   have hq:isQ T (.o id ver)=true:=rfl
   simp only [A1R,hk,hT,hq,Bool.and_true,if_true,show (ooR (none:Option Operand)).get sl=none from rfl,zV]
   cases of id with
   | none=>rfl
   | some o =>
    cases o<;>try rfl
    rename_i el' v xs nl sh
    show R4 nl _ (R4 (Nat.beq el el'&&Nat.beq v ver) _ none)=_
    cases nl
    ·show R4 (Nat.beq el el'&&Nat.beq v ver) _ none=_
     rw [Q4]
     simp only
     cases (Nat.beq el el'&&Nat.beq v ver)
     ·rfl
     ·simp only [if_true,D3o,Q3,A49]
      cases h1:H7 (0:Nat) ((ooR lo).get sl) with
      | none=>rfl
      | some l =>
       simp only
       cases h2:H7 xs.length ((ooR hi).get sl) with
       | none=>rfl
       | some h =>
        simp only [Q4,B2S]
        cases (M6 0 l&&M6 l h&&M6 h xs.length)<;>rfl
    ·rfl
  ·rfl
 ·rfl
def B5w (T:TT) (k:Call):OpR:=⟨fun K sl of nx=>X0 T K (M4 sl) of nx k⟩
def B8A (T:TT) (k:Call):OpR :=
 match k.callee with
 | .value f=>⟨fun K sl of nx=>D9v ((Y7 f).get sl) (fun fn cap=>match bdP cap with
  | some p=>K.f fn (p::(olR k.args.toList).get sl) of nx
  | none=>if cap.all (U1 T) then K.f fn ((olR k.args.toList).get sl++cap) of nx else none) (fun id=>K.y id ((olR k.args.toList).get sl) of nx) none⟩
 | .builtin .len=>(match k.argTypes.toList,k.args.toList with
  | [t],[x]=>D3h T t x
  | _,_=>⟨fun _ _ _ _=>none⟩)
 | .builtin .append=>(match k.argTypes.toList,k.args.toList with
  | [t,xt],[x,y]=>D3i T t xt x y
  | _,_=>⟨fun _ _ _ _=>none⟩)
 | _=>B5w T k
theorem B8B (k:Call) (K:KS) (sl:Nat→A) (of:Nat→Option Ob) (nx:Nat):(B8A T k).run K sl of nx=X0 T K (M4 sl) of nx k:=by
 unfold B8A
 split
 ·rename_i f hk
  simp only [X0,hk,P6,B2T]
  cases M4 sl f<;>rfl
 ·rename_i hk
  simp only [X0,hk]
  split
  ·rename_i t x h1 h2
   rw [h1,h2]
   simp only [C1M]
   cases A5n T of t (M4 sl x)<;>rfl
  ·rename_i hne
   split
   ·rename_i t x h1 h2;exact absurd h2 (hne _ _ h1)
   ·rfl
 ·rename_i hk
  simp only [X0,hk]
  split
  ·rename_i t xt x y h1 h2
   rw [h1,h2]
   simp only [C1O]
  ·rename_i hne
   split
   ·rename_i t xt x y h1 h2;exact absurd h2 (hne _ _ _ _ h1)
   ·rfl
 ·rfl
structure IkR where
 run:IntKind→IntKind→Int→Int→Nat→Option J7
def D85 (op:BinOp):IkR :=
 ⟨fun k k' a b nx=>bif A1y op||A34 k k' then onO ((C1G op).run k a b) (fun r=>some ⟨r,[],[],nx⟩) else none⟩
theorem C1Q (op:BinOp) (k k':IntKind) (a b:Int) (nx:Nat) (T:TT) (of:Nat→Option Ob) (t:Nat):(D85 op).run k k' a b nx=pvR nx (A5g T of op t (.i k a) (.i k' b)):=by
 show (bif A1y op||A34 k k' then onO ((C1G op).run k a b) (fun r=>some (J7.mk r [] [] nx)) else none)=_
 rw [A4r,C1H]
 unfold A5g
 simp only
 cases (A1y op||A34 k k')
 ·rfl
 ·simp only [cond_true,if_true]
  cases A2I op k a b<;>rfl
def B8C (T:TT) (op:BinOp) (t:Nat) (x y:Operand):OpR:=⟨fun K sl of nx=>pvR nx (A5g T of op t (M4 sl x) (M4 sl y))⟩
def D3q (T:TT) (op:BinOp) (t:Nat) (x y:Operand):OpR :=
 ⟨fun K sl of nx=>B2U ((Y7 x).get sl) (fun k a=>B2U ((Y7 y).get sl) (fun k' b=>(D85 op).run k k' a b nx) ((B8C T op t x y).run K sl of nx)) ((B8C T op t x y).run K sl of nx)⟩
theorem C1R (op:BinOp) (t:Nat) (x y:Operand) (K:KS) (sl:Nat→A) (of:Nat→Option Ob) (nx:Nat):(D3q T op t x y).run K sl of nx=pvR nx (A5g T of op t (M4 sl x) (M4 sl y)):=by
 simp only [D3q,P6,B8C]
 cases M4 sl x<;>cases M4 sl y<;>first | rfl | exact C1Q _ _ _ _ _ _ _ _ _
def D86 (T:TT) (s t:Nat) (x:Operand):OpR:=⟨fun K sl of nx=>A0j nx (A2N T of nx s t (M4 sl x))⟩
def B8D (T:TT) (s t:Nat) (x:Operand):OpR :=
 match C3 T t with
 | some (.int k)=>if (T s).isSome then ⟨fun K sl of nx=>B2U ((Y7 x).get sl) (fun _ n=>some ⟨.i k ((wrR k).run n),[],[],nx⟩) none⟩ else ⟨fun _ _ _ _=>none⟩
 | _=>D86 T s t x
theorem B8E (s t:Nat) (x:Operand) (K:KS) (sl:Nat→A) (of:Nat→Option Ob) (nx:Nat):(B8D T s t x).run K sl of nx=A0j nx (A2N T of nx s t (M4 sl x)):=by
 unfold B8D
 split
 ·rename_i k hk
  unfold A2N
  rw [hk]
  simp only
  split
  ·simp only [P6,B8v]
   cases M4 sl x<;>rfl
  ·cases M4 sl x<;>rfl
 ·rfl
def B8F (T:TT) (el:Nat):OpR :=
 match T el with
 | some te=>if TK.notOther te.k then ⟨fun K sl of nx=>some ⟨.p nx el [],[(nx,.box el (.v el te.zero) false)],[],nx+1⟩⟩ else ⟨fun _ _ _ _=>none⟩
 | none=>⟨fun _ _ _ _=>none⟩
def D87 (f:(Nat→A)→(Nat→Option Ob)→Nat→Int→Option J7) (ix:Operand):OpR :=
 ⟨fun K sl of nx=>match (Y7 ix).get sl with
  | .i _ i=>f sl of nx i
  | _=>none⟩
def opR (T:TT) (o:Oper):OpR :=
 match o.op with
 | .move x=>⟨fun K sl of nx=>some (.pv nx ((Y7 x).get sl) [])⟩
 | .assign x=>⟨fun K sl of nx=>some (A8Q T o.type nx ((Y7 x).get sl))⟩
 | .pick q a b=>⟨fun K sl of nx=>match (Y7 q).get sl with
  | .b t=>some (.pv nx (bif t then (Y7 a).get sl else (Y7 b).get sl) [])
  | _=>none⟩
 | .alloc el=>B8F T el
 | .box el x=>⟨fun K sl of nx=>match M0 T el ((Y7 x).get sl) with
  | some a=>some ⟨.p nx el [],[(nx,.box el a false)],[],nx+1⟩
  | none=>none⟩
 | .build t parts=>⟨fun K sl of nx=>match A9f T t ((A3a parts.toList).get sl) with
  | some v=>some (.pv nx v [])
  | none=>none⟩
 | .buildSlice t len parts=>bsR T t len parts.toList
 | .load t a=>ldR T t a
 | .store t a x=>stR T t a x
 | .sliceToArrayPointer t x=>⟨fun K sl of nx=>pvW nx (A9X T of t ((Y7 x).get sl))⟩
 | .nilCheck x=>⟨fun K sl of nx=>match B9l of ((Y7 x).get sl) with
  | some ro=>some (.pv nx ((Y7 x).get sl) ro)
  | none=>none⟩
 | .binOp op t x y _=>D3q T op t x y
 | .unOp op _ x=>⟨fun K sl of nx=>pvO nx (unA op ((Y7 x).get sl))⟩
 | .convert s t x=>B8D T s t x
 | .makeFunc fn first captured=>(match fn with
  | .func f=>if Nat.beq first.toList.length 0 then ⟨fun K sl of nx=>if ((olR captured.toList).get sl).all (U1 T) then some (.pv nx (.f f ((olR captured.toList).get sl)) []) else none⟩ else ⟨fun K sl of nx=>pvO nx (bdF f ((olR first.toList).get sl) ((olR captured.toList).get sl))⟩
  | _=>⟨fun _ _ _ _=>none⟩)
 | .makeSlice t l k=>⟨fun K sl of nx=>A0B T nx t ((Y7 l).get sl) ((Y7 k).get sl)⟩
 | .makeMap t r=>⟨fun K sl of nx=>A5p T nx t ((ooR r).get sl)⟩
 | .lookup t m k ok=>⟨fun K sl of nx=>A0j nx (A66 T (B6a o.pos) nx of t ((Y7 m).get sl) ((Y7 k).get sl) ok)⟩
 | .mapUpdate t m k v=>⟨fun K sl of nx=>A6I T of nx t ((Y7 m).get sl) ((Y7 k).get sl) ((Y7 v).get sl)⟩
 | .insert t m k v=>⟨fun K sl of nx=>A6I T of nx t ((Y7 m).get sl) ((Y7 k).get sl) ((Y7 v).get sl)⟩
 | .slice t x lo hi mx=>D3p T t x lo hi mx
 | .fieldAddr s x f=>faR T s f x
 | .field s x f=>⟨fun K sl of nx=>pvO nx (A8K T s f ((Y7 x).get sl))⟩
 | .indexAddr t x ix=>iaR T t x ix
 | .index t x ix=>D87 (fun sl of nx i=>pvO nx (A3V T t i ((Y7 x).get sl))) ix
 | .extract x i=>⟨fun K sl of nx=>pvO nx (B9j i ((Y7 x).get sl))⟩
 | .call k=>B8A T k
 | .range t x=>⟨fun K sl of nx=>A0j nx (A9q T of nx t ((Y7 x).get sl))⟩
 | .next x str=>if str then ⟨fun _ _ _ _=>none⟩ else ⟨fun K sl of nx=>pvR nx (B34 of ((Y7 x).get sl))⟩
 | _=>⟨fun _ _ _ _=>none⟩
theorem B8G (o:Oper) (K:KS) (sl:Nat→A) (of:Nat→Option Ob) (nx:Nat):(opR T o).run K sl of nx=K8 T K (M4 sl) of nx o:=by
 obtain ⟨dst,op,ty,pos,after,guard⟩:=o
 cases op<;>simp only [opR,K8,P6,B2T,B5v,D3d,B8B,C1R,B8E,D3j,D3k,D3l,C1P,D3n,D3m]<;>try rfl
 case alloc el =>
  unfold B8F
  cases T el with
  | none=>rfl
  | some te=>simp only;split<;>rfl
 case makeFunc fn first captured =>
  cases fn<;>try rfl
  simp only
  cases hq:Nat.beq first.toList.length 0<;>simp [B2T]
 case index t x ix=>simp only [D87,P6];cases M4 sl ix<;>rfl
 case next x str=>cases str<;>simp [P6]
structure EnR where
 run:KS→(Nat→A)→(Nat→Option Ob)→Nat→Option J9
def mkE (dst:Option Nat) (rs:List Nat) (nx:Nat) (q:Option J7):Option J9 :=
 @Option.rec J7 (fun _=>Option Nat→List Nat→Nat→Option J9) (fun _ _ _=>none)
  (fun out dst rs nx=>@Bool.rec (fun _=>Option J9) none (some ⟨dst,out.val,out.wo,rs,out.ro,nx,out.nx⟩) (Nat.ble nx out.nx)) q dst rs nx
def D3r {R:Type} (a:A):(Bool→R)→R→R→R :=
 @A.rec (fun _=>(Bool→R)→R→R→R) (fun _=>Unit)
  (fun _ _ _ _ d=>d) (fun b f _ _=>f b) (fun _ _ _ d=>d) (fun _ _ _ d=>d) (fun _ _ _ _ d=>d) (fun _ _ _ _ _ d=>d) (fun _ _ _ _ _ _ _ d=>d) (fun _ _ _ _ d=>d) (fun _ _ _ _ d=>d)
  (fun _ _ _ _ d=>d) (fun _ _ _ _ _ _ d=>d) (fun _ _ _ _ _ _ _ d=>d) (fun _ _ _ d=>d) (fun _ _ _ d=>d) (fun _ _ _ _ _ d=>d) (fun _ _ _ _ _ d=>d) (fun _ _ _ t _=>t) (fun _ _ d=>d) () (fun _ _ _ _=>()) a
def enR (T:TT) (ops:Array Oper) (o:Oper):EnR :=
 match o.guard with
 | none=>⟨fun K sl of nx=>mkE o.dst (o.looksAt ops) nx ((opR T o).run K sl of nx)⟩
 | some (g,want)=>match (ops[g]?).bind (·.dst) with
  | some d=>⟨fun K sl of nx=>D3r (sl d) (fun q=>bif (bif want then q else !q) then mkE o.dst (o.looksAt ops) nx ((opR T o).run K sl of nx) else some (.skip o (o.looksAt ops) nx)) (some (.skip o (o.looksAt ops) nx)) none⟩
  | none=>⟨fun _ _ _ _=>none⟩
theorem B8H (o:Oper) (rs:List Nat) (nx:Nat) (q:Option J7):mkE o.dst rs nx q=match q with
   | some out=>if Nat.ble nx out.nx then some (.mk1 o rs nx out) else none
   | none=>none:=by
 cases q with
 | none=>rfl
 | some out =>
  show (@Bool.rec (fun _=>Option J9) none (some ⟨o.dst,out.val,out.wo,rs,out.ro,nx,out.nx⟩) (Nat.ble nx out.nx))=_
  simp only
  cases Nat.ble nx out.nx<;>rfl
theorem D3s (ops:Array Oper) (o:Oper) (K:KS) (sl:Nat→A) (of:Nat→Option Ob) (nx:Nat):(enR T ops o).run K sl of nx=V2 T K ops sl of nx o:=by
 unfold enR V2
 cases o.guard with
 | none=>simp only [B8G,B8H];cases K8 T K (M4 sl) of nx o<;>rfl
 | some p =>
  obtain ⟨g,want⟩:=p
  simp only
  cases (ops[g]?).bind (·.dst) with
  | none=>rfl
  | some d =>
   simp only [B8G,B8H]
   cases sl d with
   | b q =>
    show (bif (bif want then q else !q) then _ else _)=_
    cases K8 T K (M4 sl) of nx o<;>cases q<;>cases want<;>rfl
   | _=>rfl
structure RnR where
 run:KS→(Nat→Option Ob)→St→Option (List J9×St)
structure SlR where
 put:A→List (Nat×A)→List (Nat×A)
def slR:Option Nat→SlR
 | some d=>⟨fun v sl=>(d,v)::sl⟩
 | none=>⟨fun _ sl=>sl⟩
def B8I (E:J9) (v:A) (h:Nat) (q:Option (List J9×St)):Option (List J9×St) :=
 @Option.rec (List J9×St) (fun _=>J9→A→Nat→Option (List J9×St)) (fun _ _ _=>none) (fun p E v h=>some ({ E with val:=v,hi:=h }::p.1,p.2)) q E v h
def goE (q:Option J9) (σ:St) (k:J9→Option (List J9×St)):Option (List J9×St) :=
 @Option.rec J9 (fun _=>(J9→Option (List J9×St))→Option (List J9×St)) (fun _=>none) (fun E k=>k E) q k
def rnR (T:TT) (ops:Array Oper) (l:List Oper):RnR :=
 @List.rec Oper (fun _=>RnR) ⟨fun _ _ σ=>some ([],σ)⟩
  (fun o _ ih=>⟨fun K of σ=>goE ((enR T ops o).run K (C4 σ.sl) (B5 σ.ob of) σ.nx) σ fun E=>C1z E.val fun v=>B5u E.hi fun h=>C1B (B2R σ.ob E.ro σ.rd) fun rd =>
   B8I E v h (ih.run K of ⟨(slR o.dst).put v σ.sl,C1E E.wo σ.ob,rd,h,σ.mks⟩)⟩) l
theorem B5x {K:KS} {ops:Array Oper} {sl:Nat→A} {nx:Nat} {o:Oper} {E:J9} (hr:V2 T K ops sl of nx o=some E):E.dst=o.dst:=(U2 hr).2.2.1
theorem B8J (ops:Array Oper) (K:KS) (of:Nat→Option Ob):∀ (l:List Oper) (σ:St),(rnR T ops l).run K of σ=F2 T K ops of l σ:=by
 intro l
 induction l with
 | nil=>intro σ;rfl
 | cons o r ih =>
  intro σ
  show goE ((enR T ops o).run K (C4 σ.sl) (B5 σ.ob of) σ.nx) σ (fun E=>C1z E.val fun v=>B5u E.hi fun h=>C1B (B2R σ.ob E.ro σ.rd) fun rd =>
   B8I E v h ((rnR T ops r).run K of ⟨(slR o.dst).put v σ.sl,C1E E.wo σ.ob,rd,h,σ.mks⟩))=_
  rw [D3s,Z7]
  cases hE:V2 T K ops (C4 σ.sl) (B5 σ.ob of) σ.nx o with
  | none=>rfl
  | some E =>
   show (C1z E.val fun v=>B5u E.hi fun h=>C1B (B2R σ.ob E.ro σ.rd) fun rd=>B8I E v h ((rnR T ops r).run K of ⟨(slR o.dst).put v σ.sl,C1E E.wo σ.ob,rd,h,σ.mks⟩))=_
   have:(⟨(slR o.dst).put E.val σ.sl,Z0 σ.ob E.wo,W0 σ.ob E.ro σ.rd,E.hi,σ.mks⟩:St)=σ.app E:=by
    unfold St.app
    rw [B5x hE]
    cases o.dst<;>rfl
   simp only [C1A,A9H,C1C,C1D,C1F,ih,this]
   cases F2 T K ops of r (σ.app E)<;>rfl
def goD (q:Option (List J9×St)):(List J9→St→Option (Exit×St))→Option (Exit×St) :=
 @Option.rec (List J9×St) (fun _=>(List J9→St→Option (Exit×St))→Option (Exit×St)) (fun _=>none) (fun p k=>k p.1 p.2) q
structure CoR where
 run:KS→(Nat→Option Ob)→St→Option (Exit×St)
def B8K (q:Option (Exit×St)):(St→Option (Exit×St))→Option (Exit×St) :=
 @Option.rec (Exit×St) (fun _=>(St→Option (Exit×St))→Option (Exit×St)) (fun _=>none)
  (fun p k=>@Exit.rec (fun _=>St→(St→Option (Exit×St))→Option (Exit×St)) (fun σ k=>k σ) (fun i σ _=>some (.exit i,σ)) (fun i σ _=>some (.goto i,σ)) (fun σ _=>some (.ret,σ)) (fun c σ _=>some (.panic c,σ)) (fun σ _=>some (.outgrown,σ)) p.1 p.2 k) q
theorem B38 (q:Option (Exit×St)) (k:St→Option (Exit×St)):B8K q k=match q with
  | some (.normal,σ)=>k σ
  | r=>r:=by
 cases q with
 | none=>rfl
 | some p=>obtain ⟨ex,σ⟩:=p;cases ex<;>rfl
def D3t (id:Nat) (q:Option (Exit×St)):Option (Exit×St) :=
 @Option.rec (Exit×St) (fun _=>Option (Exit×St)) none
  (fun p=>@Exit.rec (fun _=>St→Option (Exit×St)) (fun σ=>some (.normal,σ)) (fun i σ=>some (bif Nat.beq i id then .normal else .exit i,σ)) (fun i σ=>some (.goto i,σ)) (fun σ=>some (.ret,σ)) (fun c σ=>some (.panic c,σ)) (fun σ=>some (.outgrown,σ)) p.1 p.2) q
theorem C1S (id:Nat) (q:Option (Exit×St)):D3t id q=match q with
  | some (.exit id',σ')=>some (if Nat.beq id' id then .normal else .exit id',σ')
  | r=>r:=by
 cases q with
 | none=>rfl
 | some p =>
  obtain ⟨ex,σ⟩:=p
  cases ex with
  | exit i =>
   show some (bif Nat.beq i id then Exit.normal else Exit.exit i,σ)=some (if Nat.beq i id=true then Exit.normal else Exit.exit i,σ)
   cases Nat.beq i id<;>rfl
  | _=>rfl
def D9w (q:Option (List J9×St)):Option (Exit×St) :=
 @Option.rec (List J9×St) (fun _=>Option (Exit×St)) none (fun p=>some (.normal,p.2)) q
def C1T (T:TT) (nt:Nat) (ops:Array Oper) (draw:Bool):CoR :=
 match draw with
 | false=>if ops.toList.all (V8 nt) then ⟨fun K of σ=>D9w ((rnR T ops ops.toList).run K of σ)⟩ else ⟨fun _ _ _=>none⟩
 | true=>if A2T nt ops then ⟨fun K of σ=>goD ((rnR T ops ops.toList).run K of σ) fun Es σ'=>bif A1T (Q6 ops.toList []) Es 0 Es then some (.normal,σ') else
    goD ((rnR T ops ops.toList).run K of (σ.pre of (B5L (B5 σ.ob of) Es))) fun Es2 σ2=>bif A1T (Q6 ops.toList []) Es2 0 Es2 then some (.normal,σ2) else none⟩ else ⟨fun _ _ _=>none⟩
theorem C1U (nt:Nat) (ops:Array Oper) (draw:Bool) (id:Nat) (K:KS) (fu:Nat) (of:Nat→Option Ob) (σ:St):(C1T T nt ops draw).run K of σ=H5 T K (fun _=>none) fu nt of (.region id ops draw) σ:=by
 cases draw with
 | false =>
  simp only [C1T,H5]
  split
  ·simp only [B8J]
   cases F2 T K ops of ops.toList σ<;>rfl
  ·rfl
 | true =>
  simp only [C1T,H5]
  split
  ·simp only [B8J]
   cases F2 T K ops of ops.toList σ with
   | none=>rfl
   | some p =>
    obtain ⟨Es,σ'⟩:=p
    show (bif A1T (Q6 ops.toList []) Es 0 Es then _ else _)=_
    simp only
    cases A1T (Q6 ops.toList []) Es 0 Es with
    | true=>rfl
    | false =>
     simp only [cond_false,Bool.false_eq_true,if_false]
     cases F2 T K ops of ops.toList (σ.pre of (B5L (B5 σ.ob of) Es)) with
     | none=>rfl
     | some p2 =>
      obtain ⟨Es2,σ2⟩:=p2
      show (bif A1T (Q6 ops.toList []) Es2 0 Es2 then _ else _)=_
      simp only
      cases A1T (Q6 ops.toList []) Es2 0 Es2<;>rfl
  ·rfl
def A5a (ks:List Nat) (f:St→Option (Exit×St)) (n:Nat):St→Option (Exit×St) :=
 @Nat.rec (fun _=>St→Option (Exit×St)) (fun _=>none) (fun _ ih σ=>B8K (f (σ.tidy ks)) ih) n
theorem B2W (ks:List Nat) (f:St→Option (Exit×St)):∀ (n:Nat) (σ:St),A5a ks f n σ=A2m ks f n σ:=by
 intro n
 induction n with
 | zero=>intro σ;rfl
 | succ n ih =>
  intro σ
  show B8K (f (σ.tidy ks)) (A5a ks f n)=_
  rw [B38]
  simp only [A2m]
  cases hf:f (σ.tidy ks) with
  | none=>rfl
  | some p =>
   obtain ⟨ex,σ1⟩:=p
   cases ex with
   | normal=>exact ih σ1
   | _=>rfl
def coR (T:TT) (fu nt:Nat) (cd:Code):CoR :=
 @Code.rec (fun _=>CoR) ⟨fun _ _ σ=>some (.normal,σ)⟩ (fun _ ops draw=>C1T T nt ops draw)
  (fun _ _ x y=>⟨fun K of σ=>B8K (x.run K of σ) (y.run K of)⟩)
  (fun q _ _ x y=>⟨fun K of σ=>D3r ((Y7 q).get (C4 σ.sl)) (fun t=>bif t then x.run K of σ else y.run K of σ) none none⟩)
  (fun id _ b=>⟨fun K of σ=>D3t id (b.run K of σ)⟩)
  (fun _ b=>⟨fun K of σ=>A5a (A2U σ.sl []) (b.run K of) fu σ⟩)
  (fun g ps asg body _ _=>⟨fun K of σ=>A4x T K nt of g ps asg body σ⟩)
  (fun id=>⟨fun _ _ σ=>some (.exit id,σ)⟩)
  (fun _ _=>⟨fun _ _ _=>none⟩) (fun _=>⟨fun _ _ _=>none⟩) (fun _=>⟨fun _ _ _=>none⟩) ⟨fun _ _ σ=>some (.ret,σ)⟩ (fun _=>⟨fun _ _ _=>none⟩) cd
theorem B8L (K:KS) (fu nt:Nat) (of:Nat→Option Ob):∀ (cd:Code) (σ:St),(coR T fu nt cd).run K of σ=H5 T K (fun _=>none) fu nt of cd σ:=by
 intro cd
 induction cd with
 | region id ops draw=>intro σ;exact C1U nt ops draw id K fu of σ
 | seq x y ihx ihy =>
  intro σ
  show B8K ((coR T fu nt x).run K of σ) ((coR T fu nt y).run K of)=_
  rw [B38,ihx]
  simp only [H5]
  cases H5 T K (fun _=>none) fu nt of x σ with
  | none=>rfl
  | some p =>
   obtain ⟨ex,σ1⟩:=p
   cases ex with
   | normal=>exact ihy σ1
   | _=>rfl
 | cond q x y ihx ihy =>
  intro σ
  show D3r ((Y7 q).get (C4 σ.sl)) (fun t=>bif t then (coR T fu nt x).run K of σ else (coR T fu nt y).run K of σ) none none=_
  rw [P6]
  simp only [H5]
  cases M4 (C4 σ.sl) q with
  | b t =>
   show (bif t then (coR T fu nt x).run K of σ else (coR T fu nt y).run K of σ)=_
   cases t
   ·exact ihy σ
   ·exact ihx σ
  | _=>rfl
 | block id b ih =>
  intro σ
  show D3t id ((coR T fu nt b).run K of σ)=_
  rw [C1S,ih]
  simp only [H5]
  cases H5 T K (fun _=>none) fu nt of b σ with
  | none=>rfl
  | some p=>obtain ⟨ex,σ1⟩:=p;cases ex<;>rfl
 | loop b ih =>
  intro σ
  show A5a (A2U σ.sl []) ((coR T fu nt b).run K of) fu σ=_
  rw [B2W]
  simp only [H5]
  congr 1
  funext σ
  exact ih σ
 | _=>intro σ;rfl
structure FnR where
 run:KS→List A→(Nat→Option Ob)→Nat→Option J7
def D3u (T:TT) (rs:List ResultVar) (of:Nat→Option Ob) (nx:Nat) (ex:Exit) (σ:St):Option J7 :=
 bif A60 ex then
  (match σ.mks with
  | some ms=>if A4z nx σ.nx σ.ob.get ms then
   (match A13 T (C4 σ.sl) (B5 σ.ob of) rs with
   | some (v,ro)=>some (A0i ms (A0p nx v σ ro))
   | none=>none) else none
  | none=>none) else none
def D88 (q:Option (Exit×St)):(Exit→St→Option J7)→Option J7 :=
 @Option.rec (Exit×St) (fun _=>(Exit→St→Option J7)→Option J7) (fun _=>none) (fun p k=>k p.1 p.2) q
def fnR (P:Program) (T:TT) (fu f:Nat):FnR :=
 match P.funcs[f]? with
 | some fn=>match fn.body with
  | some code=>bif !(fn.name == "runtime.NumGoroutine") then ⟨fun K args of nx=>bif Nat.ble args.length fn.ntmps then D88 ((coR T fu fn.ntmps code).run K of ⟨A1U 0 args,.e,[],nx,some []⟩) (D3u T fn.results.toList of nx) else none⟩ else ⟨fun _ _ _ _=>none⟩
  | none=>⟨fun _ _ _ _=>none⟩
 | none=>⟨fun _ _ _ _=>none⟩
theorem D3v (P:Program) (K:KS) (fu f:Nat) (args:List A) (of:Nat→Option Ob) (nx:Nat):(fnR P T fu f).run K args of nx=A3S P T K (fun _ _=>none) fu f args of nx:=by
 unfold fnR A3S
 cases P.funcs[f]? with
 | none=>rfl
 | some fn =>
  simp only
  cases fn.body with
  | none=>rfl
  | some code =>
   simp only
   cases (fn.name == "runtime.NumGoroutine")
   ·simp only [Bool.not_false,cond_true,Bool.true_and]
    cases Nat.ble args.length fn.ntmps
    ·rfl
    ·simp only [cond_true,if_true,B8L]
     cases H5 T K (fun _=>none) fu fn.ntmps of code ⟨A1U 0 args,.e,[],nx,some []⟩ with
     | none=>rfl
     | some p =>
      obtain ⟨ex,σ⟩:=p
      show D3u T fn.results.toList of nx ex σ=_
      unfold D3u
      simp only
      cases A60 ex with
      | false=>rfl
      | true =>
       cases σ.mks with
       | none=>rfl
       | some ms =>
        simp only [cond_true,if_true]
        cases A4z nx σ.nx σ.ob.get ms with
        | false=>rfl
        | true =>
         simp only [if_true]
         cases A13 T (C4 σ.sl) (B5 σ.ob of) fn.results.toList<;>rfl
   ·rfl
def A4t (T:TT) (K:KS) (fu id:Nat):E7:=fun args of nx =>
 match lpE W7 (of id) with
 | some r=>@LR.rec (fun _=>Option J7) (fun nt sl ps asg body st pend =>
   bif Nat.beq args.length ps.size&&ps.toList.all (fun p=>Nat.blt p nt) then
   D88 ((coR T fu nt asg).run K of ⟨A9Q ps.toList args sl,.e,[id],nx,none⟩) (fun ex σ1=>match ex with
    | .normal=>(match lpE W7 (B5 σ1.ob of id) with
     | some r1=>@LR.rec (fun _=>Option J7) (fun nt1 sl1 ps1 asg1 body1 st1 pend1=>C19 id nx of ((coR T fu nt body).run K of (setLp σ1 id ⟨nt1,sl1,ps1,asg1,body1,.busy,pend1⟩))) r1
     | none=>none)
    | _=>none) else none) r
 | none=>none
theorem B5y (K:KS) (fu id:Nat) (args:List A) (of:Nat→Option Ob) (nx:Nat):A4t T K fu id args of nx=A0R T K fu id args of nx:=by
 unfold A4t A0R
 cases lpE W7 (of id) with
 | none=>rfl
 | some r =>
  obtain ⟨nt,sl,ps,asg,body,st,pend⟩:=r
  simp only
  cases (Nat.beq args.length ps.size&&ps.toList.all (fun p=>Nat.blt p nt))
  ·rfl
  ·simp only [cond_true,if_true,B8L]
   cases H5 T K (fun _=>none) fu nt of asg ⟨A9Q ps.toList args sl,.e,[id],nx,none⟩ with
   | none=>rfl
   | some p =>
    obtain ⟨ex,σ1⟩:=p
    cases ex with
    | normal =>
     show (match lpE W7 (B5 σ1.ob of id) with | some r1=>_ | none=>none)=_
     simp only
     cases lpE W7 (B5 σ1.ob of id) with
     | none=>rfl
     | some r1=>rfl
    | _=>rfl
def fnZ (P:Program) (T:TT) (C:Nat→Option E7) (fu f:Nat):FnR :=
 match C f with
 | some s=>⟨fun _ args of nx=>s args of nx⟩
 | none=>fnR P T fu f
def B39 (P:Program) (T:TT) (C:Nat→Option E7) (fu:Nat) (d:Nat):KS :=
 @Nat.rec (fun _=>KS) ⟨fun _ _ _ _=>none,fun _ _ _ _=>none,fun _=>false⟩
  (fun _ ih=>⟨fun f args of nx=>(fnZ P T C fu f).run ih args of nx,fun id=>A4t T ih fu id,A3h P⟩) d
theorem B8M (P:Program) (C:Nat→Option E7) (fu:Nat):∀ d,B39 P T C fu d=A9R P T C (fun _ _ _=>none) fu d:=by
 intro d
 induction d with
 | zero=>rfl
 | succ d ih =>
  show (⟨fun f args of nx=>(fnZ P T C fu f).run (B39 P T C fu d) args of nx,fun id=>A4t T (B39 P T C fu d) fu id,A3h P⟩:KS)=⟨fun f=>match C f with
   | some s=>s
   | none=>A3S P T (A9R P T C (fun _ _ _=>none) fu d) (fun _ _=>none) fu f,fun id=>A0R T (A9R P T C (fun _ _ _=>none) fu d) fu id,A3h P⟩
  rw [ih]
  generalize A9R P T C (fun _ _ _=>none) fu d=K0
  have e1:∀ f,(fun args of nx=>(fnZ P T C fu f).run K0 args of nx)=(match C f with
   | some s=>s
   | none=>A3S P T K0 (fun _ _=>none) fu f):=fun f=>by
   funext args of nx
   unfold fnZ
   cases C f with
   | none=>exact D3v P K0 fu f args of nx
   | some s=>rfl
  have e2:∀ id,A4t T K0 fu id=A0R T K0 fu id:=fun id=>by
   funext args of nx
   exact B5y K0 fu id args of nx
  rw [show (fun f args of nx=>(fnZ P T C fu f).run K0 args of nx)=_ from funext e1,show (fun id=>A4t T K0 fu id)=_ from funext e2]
def B8N (P:Program) (T:TT) (C:Nat→Option E7) (fu d f:Nat):E7:=(B39 P T C fu d).f f
theorem B8O (P:Program) (C:Nat→Option E7) (fu d f:Nat):B8N P T C fu d f=B3a P T C (fun _ _ _=>none) fu d f:=by
 unfold B8N B3a
 rw [B8M]
variable {T:TT}
def ob {α R:Type} (o:Option α) (k:α→Option R):Option R :=
 match o with
 | some a=>k a
 | none=>none
abbrev H4:=(R:Type)→List A→(Nat→Option Ob)→Nat→(J7→Option R)→Option R
def H4.dir (s:H4):E7:=fun args of nx=>s J7 args of nx some
def H4.nat (s:H4):Prop:=∀ (R:Type) (args:List A) (of:Nat→Option Ob) (nx:Nat) (k:J7→Option R),s R args of nx k=ob (s.dir args of nx) k
def A4M (s:E7):H4:=fun _ args of nx k=>ob (s args of nx) k
theorem A4u (s:E7):(A4M s).nat:=by
 intro R args of nx k
 simp only [A4M,H4.dir]
 cases s args of nx<;>rfl
theorem A4v (s:E7):(A4M s).dir=s:=by
 funext args of nx
 simp only [A4M,H4.dir]
 cases s args of nx<;>rfl
variable {R:Type}
def B2X (T:TT) (of:Nat→Option Ob) (el:Nat) (u:A) (k:List V×List Nat→Option R):Option R :=
 match u with
 | .w id ver off n=>match of id with
  | some (.row el' v xs _ _)=>bif Nat.beq el el'&&Nat.beq v ver then (bif Nat.ble (off+n) xs.length then k ((xs.drop off).take n,[id]) else none) else none
  | _=>none
 | u=>ob (J5 T of el u) k
theorem A5b (of:Nat→Option Ob) (el:Nat) (u:A) (k:List V×List Nat→Option R):B2X T of el u k=ob (J5 T of el u) k:=by
 unfold B2X
 split
 ·rename_i id ver off n
  simp only [J5]
  cases of id with
  | none=>rfl
  | some o =>
   cases o with
   | row el' v xs nl sh=>simp only;cases (Nat.beq el el'&&Nat.beq v ver)<;>cases Nat.ble (off+n) xs.length<;>rfl
   | _=>rfl
 ·rfl
def A3b (T:TT) (of:Nat→Option Ob) (t:Nat) (i:Int) (u:A) (k:A×List Nat→Option R):Option R :=
 match C3 T t with
 | some (.arr n el)=>bif (T el).isSome then bif M6 0 i&&H8 i n then
   (match u with
   | .p id t' path=>bif same T t t' then k (.p id el (path++[i.toNat]),[]) else none
   | .e id ver j t' path=>bif same T t t'&&B1m of id ver then k (.e id ver j el (path++[i.toNat]),[id]) else none
   | .c t' y=>bif same T t t' then k (.c el (y.nth i.toNat),[]) else none
   | _=>none)
  else none else none
 | some (.slice el)=>bif (T el).isSome then
   (match u with
   | .o id ver=>match of id with
    | some (.row el' v xs _ _)=>bif Nat.beq el el'&&Nat.beq v ver then (bif M6 0 i&&H8 i xs.length then k (.e id ver i.toNat el [],[id]) else none) else none
    | _=>none
   | .w id ver off n=>match of id with
    | some (.row el' v xs _ _)=>bif Nat.beq el el'&&Nat.beq v ver then (bif M6 0 i&&H8 i n then k (.e id ver (off+i.toNat) el [],[id]) else none) else none
    | _=>none
   | .v t' y=>bif same T t t' then (bif M6 0 i&&H8 i y.els.length then k (.c el (y.nth i.toNat),[]) else none) else none
   | .q t' y=>bif same T t t' then (bif M6 0 i&&H8 i y.els.length then k (.c el (y.nth i.toNat),[]) else none) else none
   | .a id t1 path l0 m=>match C3 T t1 with
    | some (.arr _ el')=>bif Nat.beq el el' then (bif M6 0 i&&H8 i m then k (.p id el (path++[l0+i.toNat]),[]) else none) else none
    | _=>none
   | _=>none)
  else none
 | _=>none
theorem A6Y (of:Nat→Option Ob) (t:Nat) (i:Int) (u:A) (k:A×List Nat→Option R):A3b T of t i u k=ob (N3 T of t i u) k:=by
 unfold A3b N3
 cases C3 T t with
 | none=>rfl
 | some kk =>
 cases kk with
 | arr n el =>
  simp only
  cases u with
  | p id t' path=>simp only;cases (T el).isSome<;>cases M6 0 i<;>cases H8 i (n:Int)<;>cases same T t t'<;>rfl
  | e id ver j t' path=>simp only;cases (T el).isSome<;>cases M6 0 i<;>cases H8 i (n:Int)<;>cases same T t t'<;>cases B1m of id ver<;>rfl
  | c t' y=>simp only;cases (T el).isSome<;>cases M6 0 i<;>cases H8 i (n:Int)<;>cases same T t t'<;>rfl
  | _=>simp only;cases (T el).isSome<;>cases M6 0 i<;>cases H8 i (n:Int)<;>rfl
 | slice el =>
  simp only
  cases (T el).isSome
  ·cases M6 0 i<;>rfl
  ·simp only [cond_true,Bool.and_true]
   cases u with
   | o id ver =>
    simp only
    cases of id with
    | none=>cases M6 0 i<;>rfl
    | some o =>
     cases o with
     | row el' v xs nl sh=>simp only;cases M6 0 i<;>cases (Nat.beq el el'&&Nat.beq v ver)<;>cases H8 i xs.length<;>rfl
     | _=>cases M6 0 i<;>rfl
   | w id ver off n =>
    simp only
    cases of id with
    | none=>cases M6 0 i<;>rfl
    | some o =>
     cases o with
     | row el' v xs nl sh=>simp only;cases M6 0 i<;>cases (Nat.beq el el'&&Nat.beq v ver)<;>cases H8 i n<;>rfl
     | _=>cases M6 0 i<;>rfl
   | v t' y=>simp only;cases M6 0 i<;>cases same T t t'<;>cases H8 i y.els.length<;>rfl
   | q t' y=>simp only;cases M6 0 i<;>cases same T t t'<;>cases H8 i y.els.length<;>rfl
   | a id t1 path l0 m =>
    simp only
    cases C3 T t1 with
    | none=>cases M6 0 i<;>rfl
    | some k1 =>
     cases k1 with
     | arr n' el'=>simp only;cases M6 0 i<;>cases Nat.beq el el'<;>cases H8 i m<;>rfl
     | _=>cases M6 0 i<;>rfl
   | _=>cases M6 0 i<;>rfl
 | _=>rfl
def B2Y (T:TT) (t:Nat) (i:Int) (u:A) (k:A→Option R):Option R :=
 match u with
 | .s l=>match C3 T t with
  | some .str=>bif M6 0 i&&H8 i l.length then k (.i .u8 (l.getD i.toNat .n).int) else none
  | _=>none
 | .v t' y=>match C3 T t with
  | some (.arr n el)=>bif same T t t'&&(T el).isSome then (bif M6 0 i&&H8 i n then k (mkA T el (y.nth i.toNat)) else none) else none
  | _=>none
 | .g t' l=>ob (C8L T t i t' l) k
 | _=>none
theorem B5z (t:Nat) (i:Int) (u:A) (k:A→Option R):B2Y T t i u k=ob (A3V T t i u) k:=by
 unfold B2Y A3V
 cases u with
 | s l =>
  simp only
  cases C3 T t with
  | none=>rfl
  | some k1=>cases k1 with
   | str=>simp only;cases (M6 0 i&&H8 i l.length)<;>rfl
   | _=>rfl
 | v t' y =>
  simp only
  cases C3 T t with
  | none=>rfl
  | some k1=>cases k1 with
   | arr n el=>simp only;cases same T t t'<;>cases (T el).isSome<;>cases M6 0 i<;>cases H8 i n<;>rfl
   | _=>rfl
 | _=>rfl
def D3w (op:BinOp) (kd:IntKind) (a b:Int) (k:A→Option R):Option R :=
 match op with
 | .quo=>bif ieq b 0 then none else k (.i kd (kd.wrap (a.tdiv b)))
 | .rem=>bif ieq b 0 then none else k (.i kd (a.tmod b))
 | .shl=>bif M6 0 b then k (.i kd (kd.wrap (a * 2 ^ min b.toNat kd.bits))) else none
 | .shr=>bif M6 0 b then k (.i kd (a.fdiv (2 ^ min b.toNat kd.bits))) else none
 | op=>ob (A2I op kd a b) k
theorem C1V (op:BinOp) (kd:IntKind) (a b:Int) (k:A→Option R):D3w op kd a b k=ob (A2I op kd a b) k:=by
 cases op<;>simp only [D3w,A2I]
 ·cases ieq b 0<;>rfl
 ·cases ieq b 0<;>rfl
 ·cases M6 0 b<;>rfl
 ·cases M6 0 b<;>rfl
def D3x (op:BinOp) (x y:List V) (k:A→Option R):Option R :=
 match op with
 | .add=>bif Nat.ble (x.length+y.length) LIM then k (.s (x++y)) else none
 | op=>ob (B1l op x y) k
theorem C1W (op:BinOp) (x y:List V) (k:A→Option R):D3x op x y k=ob (B1l op x y) k:=by
 cases op<;>simp only [D3x,B1l]
 cases Nat.ble (x.length+y.length) LIM<;>rfl
def D3y (T:TT) (of:Nat→Option Ob) (op:BinOp) (xt:Nat) (u v:A) (k:A×List Nat→Option R):Option R :=
 match u,v with
 | .i kd a,.i k' b=>bif A1y op||A34 kd k' then D3w op kd a b fun r=>k (r,[]) else none
 | .s a,.s b=>D3x op a b fun r=>k (r,[])
 | u,v=>ob (A5g T of op xt u v) k
theorem C1X (of:Nat→Option Ob) (op:BinOp) (xt:Nat) (u v:A) (k:A×List Nat→Option R):D3y T of op xt u v k=ob (A5g T of op xt u v) k:=by
 unfold D3y
 split
 ·rename_i kd a k' b
  simp only [A5g]
  cases (A1y op||A34 kd k')
  ·rfl
  ·simp only [cond_true,if_true,C1V]
   cases A2I op kd a b<;>rfl
 ·rename_i a b
  simp only [A5g,C1W]
  cases B1l op a b<;>rfl
 ·rfl
def unC (op:UnOp) (u:A) (k:A→Option R):Option R :=
 match op,u with
 | .xor,.i kd n=>k (.i kd (G4 .xor kd (if kd.signed then -1 else kd.max) n))
 | op,u=>ob (unA op u) k
theorem B07 (op:BinOp) (kd:IntKind) (x y:Int):B1p kd (G4 op kd x y)=true:=by
 have:=M9 kd (match op with
  | .and=>(BitVec.ofInt kd.bits x &&& BitVec.ofInt kd.bits y).toNat
  | .or=>(BitVec.ofInt kd.bits x ||| BitVec.ofInt kd.bits y).toNat
  | .xor=>(BitVec.ofInt kd.bits x ^^^ BitVec.ofInt kd.bits y).toNat
  | _=>(BitVec.ofInt kd.bits x &&& ~~~BitVec.ofInt kd.bits y).toNat:Nat)
 unfold B1p
 rw [D9z,N9,N9]
 exact this
theorem D3z (op:UnOp) (u:A) (k:A→Option R):unC op u k=ob (unA op u) k:=by
 unfold unC
 split
 ·rename_i kd n
  simp only [unA,chk,B07,if_true]
  rfl
 ·rfl
def C1Y (T:TT) (of:Nat→Option Ob) (t:Nat) (u:A) (k:A×List Nat→Option R):Option R :=
 match C3 T t with
 | some .str=>match u with
  | .s l=>bif Nat.ble l.length 9223372036854775807 then k (.i .i64 (l.length:Nat),[]) else none
  | _=>none
 | some (.slice el)=>match u with
  | .s _=>none
  | u=>B2X T of el u fun p=>bif Nat.ble p.1.length 9223372036854775807 then k (.i .i64 (p.1.length:Nat),p.2) else none
 | some (.map _ _)=>match u with
  | .m id=>match of id with
   | some (.map _ _ es)=>bif Nat.ble es.length 9223372036854775807 then k (.i .i64 (es.length:Nat),[id]) else none
   | some (.vm _ _ es)=>bif Nat.ble es.length 9223372036854775807 then k (.i .i64 (es.length:Nat),[id]) else none
   | _=>none
  | _=>none
 | _=>none
theorem C1Z (of:Nat→Option Ob) (t:Nat) (u:A) (k:A×List Nat→Option R):C1Y T of t u k=ob (B5q T of t u) k:=by
 unfold B5q
 cases hq:A4T of u with
 | some q =>
  obtain ⟨id,kt',et',es⟩:=q
  obtain ⟨rfl,hof⟩:=Y1 hq
  unfold C1Y
  simp only
  cases hk:C3 T t with
  | none=>rfl
  | some kk=>cases kk with
   | map kt et=>simp only [hof];cases Nat.ble es.length 9223372036854775807<;>rfl
   | slice el=>simp only [B2X,J5];rfl
   | _=>rfl
 | none =>
 simp only
 unfold C1Y B1o
 cases C3 T t with
 | none=>rfl
 | some kk =>
  cases kk with
  | str=>cases u with
   | s l=>simp only;cases Nat.ble l.length 9223372036854775807<;>rfl
   | _=>rfl
  | slice el =>
   have gen:∀ o:Option (List V×List Nat),ob o (fun p=>bif Nat.ble p.1.length 9223372036854775807 then k (A.i .i64 (p.1.length:Nat),p.2) else none)=ob (match o with | some (xs,ro)=>(if Nat.ble xs.length 9223372036854775807=true then some (A.i .i64 (xs.length:Nat),ro) else none) | none=>none) k:=by
    intro o
    cases o with
    | none=>rfl
    | some p=>simp only [ob];cases Nat.ble p.1.length 9223372036854775807<;>rfl
   cases u with
   | s l=>simp only;cases J5 T of el (.s l)<;>rfl
   | _=>simp only [A5b];exact gen _
  | map kt et=>cases u with
   | m id =>
    simp only
    cases A4:of id with
    | none=>rfl
    | some o=>cases o with
     | map kt' et' es=>simp only;cases Nat.ble es.length 9223372036854775807<;>rfl
     | vm kt' et' es=>exfalso;unfold A4T at hq;simp only [A4] at hq;cases hq
     | _=>rfl
   | _=>rfl
  | _=>rfl
def A9J (T:TT) (of:Nat→Option Ob) (nx t:Nat) (x y:A) (k:Out→Option R):Option R :=
 match C3 T t with
 | some (.slice el)=>match T el with
  | some te=>B2X T of el y fun p=>bif Nat.ble te.bytes 131072&&TK.notOther te.k&&Nat.blt 0 te.size then
    (match x with
    | .o id ver=>match of id with
     | some (.row el' v xs nl sh)=>bif Nat.beq el el'&&Nat.beq v ver then (bif Nat.ble (xs.length+p.1.length) LIM then
       k ⟨.o id (ver+1),[(id,.row el (ver+1) (xs++p.1) (nl&&p.1.isEmpty) sh)],id::p.2,[]⟩ else none) else none
     | _=>none
    | .w id ver off n=>match of id with
     | some (.row el' v xs false sh)=>bif Nat.beq el el'&&Nat.beq v ver then (bif Nat.ble (off+n) xs.length then (bif Nat.beq (off+n) xs.length||!sh then (bif Nat.ble (n+p.1.length) LIM then
       k ⟨.o id (ver+1),[(id,.row el (ver+1) ((xs.drop off).take n++p.1) false sh)],id::p.2,[]⟩ else none) else none) else none) else none
     | _=>none
    | .v t' .n=>bif same T t t' then (bif Nat.ble p.1.length LIM then k ⟨.o nx 1,[(nx,.row el 1 p.1 p.1.isEmpty false)],p.2,[nx]⟩ else none) else none
    | .z v=>bif A5G v then (bif Nat.ble p.1.length LIM then k ⟨.o nx 1,[(nx,.row el 1 p.1 p.1.isEmpty false)],p.2,[nx]⟩ else none) else none
    | .q t' x=>bif same T t t' then (bif !p.1.isEmpty then (bif Nat.ble (x.els.length+p.1.length) LIM then k ⟨.o nx 1,[(nx,.row el 1 (x.els++p.1) p.1.isEmpty false)],p.2,[nx]⟩ else none) else none) else none
    | _=>none)
   else none
  | none=>none
 | _=>none
theorem B2Z (of:Nat→Option Ob) (nx t:Nat) (x y:A) (k:Out→Option R):A9J T of nx t x y k=ob (A0V T of nx t x y) k:=by
 unfold A9J A0V
 cases C3 T t with
 | none=>rfl
 | some kk =>
 cases kk with
 | slice el =>
  simp only
  cases T el with
  | none=>rfl
  | some te =>
   simp only [A5b]
   cases J5 T of el y with
   | none=>rfl
   | some p =>
    obtain ⟨ns,ro⟩:=p
    simp only [ob]
    cases (Nat.ble te.bytes 131072&&TK.notOther te.k&&Nat.blt 0 te.size)
    ·rfl
    ·simp only [cond_true,if_true]
     cases x with
     | o id ver =>
      simp only
      cases of id with
      | none=>rfl
      | some o=>cases o with
       | row el' v xs nl sh=>simp only;cases (Nat.beq el el'&&Nat.beq v ver)<;>cases Nat.ble (xs.length+ns.length) LIM<;>rfl
       | _=>rfl
     | w id ver off n =>
      simp only
      cases of id with
      | none=>rfl
      | some o=>cases o with
       | row el' v xs nl sh=>cases nl<;>simp only<;>cases (Nat.beq el el'&&Nat.beq v ver)<;>cases Nat.ble (off+n) xs.length<;>cases (Nat.beq (off+n) xs.length||!sh)<;>cases Nat.ble (n+ns.length) LIM<;>rfl
       | _=>rfl
     | v t' y=>cases y with
      | n=>simp only;cases same T t t'<;>cases Nat.ble ns.length LIM<;>rfl
      | _=>rfl
     | z v=>simp only;cases A5G v<;>cases Nat.ble ns.length LIM<;>rfl
     | q t' x'=>simp only;cases same T t t'<;>cases ns.isEmpty<;>cases Nat.ble (x'.els.length+ns.length) LIM<;>rfl
     | _=>rfl
 | _=>rfl
variable {T:TT} {R:Type}
def A0o (n:Nat) (lo hi:Option A) (k:Nat×Nat→Option R):Option R :=
 match H7 (0:Nat) lo,H7 n hi with
 | some l,some h=>bif M6 0 l&&M6 l h&&M6 h n then k (l.toNat,(h - l).toNat) else none
 | _,_=>none
theorem Y3 (n:Nat) (lo hi:Option A) (k:Nat×Nat→Option R):A0o n lo hi k=ob (Q3 n lo hi) k:=by
 unfold A0o Q3
 cases H7 (0:Nat) lo with
 | none=>rfl
 | some l=>cases H7 n hi with
  | none=>rfl
  | some h=>simp only;cases (M6 0 l&&M6 l h&&M6 h n)<;>rfl
def B20 (T:TT) (of:Nat→Option Ob) (t:Nat) (u:A) (lo hi mx:Option A) (k:A×List (Nat×Ob)×List Nat→Option R):Option R :=
 match mx with
 | some mx=>(match C3 T t with
  | some (.slice el)=>bif (T el).isSome&&isQ T u then
    (match H7 (0:Nat) lo,hi,mx with
    | some l,some (.i _ h),.i _ h'=>bif ieq h h' then (match M3 T DEP of t u with
     | some (x,wo)=>bif M6 0 l&&M6 l h&&M6 h x.els.length then k (.q t (A5I x l.toNat (h - l).toNat),wo,T5 wo) else none
     | none=>none) else none
    | _,_,_=>none) else none
  | _=>none)
 | none =>
 match C3 T t with
 | some .str=>match u with
  | .s l=>A0o l.length lo hi fun p=>k (.s ((l.drop p.1).take p.2),[],[])
  | _=>none
 | some (.slice el)=>bif (T el).isSome&&isQ T u then
   (match zV T t u with
    | .v t' y=>bif same T t t' then A0o y.els.length lo hi fun p=>k (.v t' (A5I y p.1 p.2),[],[]) else none
    | .w id ver off n=>match of id with
     | some (.row el' v xs _ _)=>bif Nat.beq el el'&&Nat.beq v ver then A0o n lo hi fun p=>k (.w id ver (off+p.1) p.2,[],[id]) else none
     | _=>none
    | .o id ver=>match of id with
     | some (.row el' v xs false _)=>bif Nat.beq el el'&&Nat.beq v ver then A0o xs.length lo hi fun p=>k (.w id ver (0+p.1) p.2,[],[id]) else none
     | some (.row el' v xs true _)=>bif Nat.beq el el'&&Nat.beq v ver&&S7 T t then A0o 0 lo hi fun p=>k (.v t (A5I .n p.1 p.2),[],[id]) else none
     | _=>none
    | .a id t1 path lo0 m=>match C3 T t1 with
     | some (.arr _ el')=>bif Nat.beq el el' then A0o m lo hi fun p=>k (.a id t1 path (lo0+p.1) p.2,[],[]) else none
     | _=>none
    | _=>none)
  else none
 | some (.arr n el)=>match u with
  | .p id t1 path=>bif same T t t1&&(T el).isSome then A0o n lo hi fun p=>k (.a id t1 path p.1 p.2,[],[]) else none
  | _=>none
 | _=>none
theorem M5 {α:Type} (q:Bool) (a:Option α) (k:α→Option R):ob (if q=true then a else none) k=bif q then ob a k else none:=by cases q<;>rfl
theorem B5A (of:Nat→Option Ob) (t:Nat) (u:A) (lo hi mx:Option A) (k:A×List (Nat×Ob)×List Nat→Option R):B20 T of t u lo hi mx k=ob (A1R T of t u lo hi mx) k:=by
 unfold B20
 cases mx with
 | some m =>
  unfold A1R
  simp only
  cases C3 T t with
  | none=>rfl
  | some kk =>
  cases kk with
  | str=>cases u<;>rfl
  | slice el =>
   simp only [M5]
   cases ((T el).isSome&&isQ T u)
   ·rfl
   ·simp only [cond_true]
    cases H7 (0:Nat) lo with
    | none=>rfl
    | some l=>cases hi with
     | none=>rfl
     | some a=>cases a with
      | i k1 h=>cases m with
       | i k2 h' =>
        simp only [M5]
        cases ieq h h'
        ·rfl
        ·simp only [cond_true]
         cases M3 T DEP of t u with
         | none=>rfl
         | some p=>obtain ⟨x,wo⟩:=p;simp only [M5];cases (M6 0 l&&M6 l h&&M6 h x.els.length)<;>rfl
       | _=>rfl
      | _=>rfl
  | arr n el=>cases u<;>rfl
  | _=>rfl
 | none =>
 unfold A1R
 simp only
 cases C3 T t with
 | none=>rfl
 | some kk =>
 cases kk with
 | str=>cases u with
  | s l=>simp only [Y3];cases Q3 l.length lo hi<;>rfl
  | _=>rfl
 | slice el =>
  simp only [M5]
  cases ((T el).isSome&&isQ T u)
  ·rfl
  ·simp only [cond_true]
   cases zV T t u with
   | v t' y=>simp only [M5,Y3];cases Q3 y.els.length lo hi<;>rfl
   | w id ver off n =>
    simp only
    cases of id with
    | none=>rfl
    | some o=>cases o with
     | row el' v xs nl sh=>simp only [M5,Y3];cases Q3 n lo hi<;>rfl
     | _=>rfl
   | o id ver =>
    simp only
    cases of id with
    | none=>rfl
    | some o=>cases o with
     | row el' v xs nl sh=>cases nl<;>simp only [M5,Y3]
                           ·cases Q3 xs.length lo hi<;>rfl
                           ·cases Q3 0 lo hi<;>rfl
     | _=>rfl
   | a id t1 path lo0 m =>
    simp only
    cases C3 T t1 with
    | none=>rfl
    | some k1=>cases k1 with
     | arr n' el'=>simp only [M5,Y3];cases Q3 m lo hi<;>rfl
     | _=>rfl
   | _=>rfl
 | arr n el=>cases u with
  | p id t1 path=>simp only [M5,Y3];cases Q3 n lo hi<;>rfl
  | _=>rfl
 | _=>rfl
def A3c (T:TT) (nx t:Nat) (u v:A) (k:J7→Option R):Option R :=
 match C3 T t,u,v with
 | some (.slice el),.i _ a,.i _ b=>match T el with
  | some te=>bif Nat.blt 0 te.size&&TK.notOther te.k&&Nat.ble te.bytes 131072 then (bif M6 0 a&&M6 a b&&M6 b LIM then k ⟨.o nx 1,[(nx,.row el 1 (List.replicate a.toNat te.zero) false false)],[],nx+1⟩ else none) else none
  | none=>none
 | _,_,_=>none
theorem A6Z (nx t:Nat) (u v:A) (k:J7→Option R):A3c T nx t u v k=ob (A0B T nx t u v) k:=by
 unfold A3c A0B
 cases C3 T t with
 | none=>rfl
 | some kk=>cases kk with
  | slice el=>cases u with
   | i k1 a=>cases v with
    | i k2 b =>
     simp only
     cases T el with
     | none=>rfl
     | some te =>
      simp only
      cases Nat.blt 0 te.size<;>cases TK.notOther te.k<;>cases Nat.ble te.bytes 131072<;>cases M6 0 a<;>cases M6 a b<;>cases M6 b LIM<;>rfl
    | _=>rfl
   | _=>rfl
  | _=>rfl
def D3A (T:TT) (of:Nat→Option Ob) (t:Nat) (u:A) (k:A×List (Nat×Ob)×List Nat→Option R):Option R :=
 match u with
 | .v t' y=>match C3 T t with
  | some (.arr n el)=>bif Nat.blt 0 n&&Nat.beq (C2 T t) (n * C2 T el) then
   (match C3 T t' with
    | some (.slice el')=>bif Nat.beq el el' then (bif Nat.ble n y.els.length then k (.c t (.l (y.els.take n)),[],[]) else none) else none
    | _=>none) else none
  | _=>none
 | .o id ver=>match C3 T t with
  | some (.arr n el)=>bif Nat.blt 0 n&&Nat.beq (C2 T t) (n * C2 T el) then
   (match of id with
    | some (.row el' v xs false _)=>bif Nat.beq el el'&&Nat.beq v ver then (bif Nat.ble n xs.length then k (.c t (.l (xs.take n)),[(id,.row el' ver xs false true)],[id]) else none) else none
    | _=>none) else none
  | _=>none
 | u=>ob (A9X T of t u) k
theorem C10 (of:Nat→Option Ob) (t:Nat) (u:A) (k:A×List (Nat×Ob)×List Nat→Option R):D3A T of t u k=ob (A9X T of t u) k:=by
 unfold D3A
 cases u with
 | v t' y =>
  simp only [A9X]
  cases C3 T t with
  | none=>rfl
  | some kk=>cases kk with
   | arr n el =>
    simp only [M5]
    cases C3 T t' with
    | none=>rfl
    | some k1=>cases k1 with
     | slice el'=>simp only [M5];cases (Nat.blt 0 n&&Nat.beq (C2 T t) (n * C2 T el))<;>cases Nat.beq el el'<;>cases Nat.ble n y.els.length<;>rfl
     | _=>rfl
   | _=>rfl
 | o id ver =>
  simp only [A9X]
  cases C3 T t with
  | none=>rfl
  | some kk=>cases kk with
   | arr n el =>
    simp only [M5]
    cases of id with
    | none=>rfl
    | some o=>cases o with
     | row el' v xs nl sh=>cases nl
                           ·simp only [M5];cases (Nat.blt 0 n&&Nat.beq (C2 T t) (n * C2 T el))<;>cases (Nat.beq el el'&&Nat.beq v ver)<;>cases Nat.ble n xs.length<;>rfl
                           ·rfl
     | _=>rfl
   | _=>rfl
 | _=>rfl
def oc {α β:Type} (o:Option α) (s:α→β) (n:β):β :=
 match o with
 | some a=>s a
 | none=>n
def B4a (T:TT) (of:Nat→Option Ob) (t:Nat) (m k:A) (okk:Bool) (kk:A×List Nat→Option R):Option R :=
 match C3 T t with
 | some (.map kt et)=>match T et,A0O T kt k with
  | some te,some kv=>bif TK.notOther te.k then
    (bif A1S T t m then kk (okA okk (mkA T et te.zero) false,[]) else
    match m with
    | .m id=>match of id with
     | some (.map kt' et' es)=>bif Nat.beq kt kt'&&Nat.beq et et' then oc (A3L kv es) (fun a=>kk (okA okk (norm T a) true,[id])) (kk (okA okk (mkA T et te.zero) false,[id])) else none
     | some (.vm kt' et' es)=>bif Nat.beq kt kt'&&Nat.beq et et' then (bif B2p kv es then kk (okA okk (mkA T et (B78 kv es)) true,[id]) else kk (okA okk (mkA T et te.zero) false,[id])) else none
     | _=>none
    | _=>none)
   else none
  | _,_=>none
 | _=>none
theorem B8P (of:Nat→Option Ob) (t:Nat) (m k:A) (okk:Bool) (kk:A×List Nat→Option R):B4a T of t m k okk kk=ob (A7t T of t m k okk) kk:=by
 unfold A7t
 cases hq:A4T of m with
 | some q =>
  obtain ⟨id,kt',et',es⟩:=q
  obtain ⟨rfl,hof⟩:=Y1 hq
  unfold B4a B8a
  simp only
  cases C3 T t with
  | none=>rfl
  | some k1=>cases k1 with
   | map kt et =>
    simp only
    cases T et with
    | none=>rfl
    | some te=>cases A0O T kt k with
     | none=>rfl
     | some kv =>
      simp only [M5,show A1S T t (.m id)=false from rfl,cond_false,hof]
      cases TK.notOther te.k
      ·rfl
      ·simp only [cond_true]
       cases (Nat.beq kt kt'&&Nat.beq et et')
       ·rfl
       ·simp only [cond_true]
        cases B2p kv es<;>rfl
   | _=>rfl
 | none =>
 simp only
 unfold B4a A7p
 cases C3 T t with
 | none=>rfl
 | some k1=>cases k1 with
  | map kt et =>
   simp only
   cases T et with
   | none=>rfl
   | some te=>cases A0O T kt k with
    | none=>rfl
    | some kv =>
     simp only [M5]
     cases TK.notOther te.k
     ·rfl
     ·simp only [cond_true]
      cases A1S T t m
      ·simp only [cond_false]
       cases m with
       | m id =>
        simp only
        cases A4:of id with
        | none=>rfl
        | some o=>cases o with
         | map kt' et' es =>
          simp only [M5]
          cases (Nat.beq kt kt'&&Nat.beq et et')
          ·rfl
          ·simp only [cond_true]
           cases A3L kv es<;>rfl
         | vm kt' et' es=>exfalso;unfold A4T at hq;simp only [A4] at hq;cases hq
         | _=>rfl
       | _=>rfl
      ·rfl
  | _=>rfl
def B8Q (T:TT) (of:Nat→Option Ob) (nx s t:Nat) (u:A) (k:Out→Option R):Option R :=
 match u with
 | .w id ver off n=>match C3 T t with
  | some .str=>match C3 T s with
   | some (.slice el)=>match C3 T el with
    | some (.int .u8)=>bif Nat.beq (C2 T el) 1 then B2X T of el (.w id ver off n) fun p=>k ⟨.s p.1,[],p.2,[]⟩ else none
    | _=>none
   | _=>none
  | _=>ob (A2N T of nx s t (.w id ver off n)) k
 | u=>ob (A2N T of nx s t u) k
theorem B8R (of:Nat→Option Ob) (nx s t:Nat) (u:A) (k:Out→Option R):B8Q T of nx s t u k=ob (A2N T of nx s t u) k:=by
 unfold B8Q
 cases u with
 | w id ver off n =>
  simp only
  cases hk:C3 T t with
  | none=>rfl
  | some kk=>cases kk with
   | str =>
    simp only [A2N,hk,bytesOf]
    cases C3 T s with
    | none=>rfl
    | some k1=>cases k1 with
     | slice el =>
      simp only
      cases C3 T el with
      | none=>rfl
      | some k2=>cases k2 with
       | int ki=>cases ki<;>try rfl
                 simp only [A5b]
                 cases Nat.beq (C2 T el) 1
                 ·rfl
                 ·simp only [cond_true,if_true];cases J5 T of el (.w id ver off n)<;>rfl
       | _=>rfl
     | _=>rfl
   | _=>rfl
 | _=>rfl
def B8S (T:TT) (of:Nat→Option Ob) (t xt:Nat) (u v:A) (k:A×List (Nat×Ob)×List Nat→Option R):Option R :=
 match C3 T t with
 | some (.slice el)=>bif A1p T xt v&&(T el).isSome then
   B2X T of el v fun p=>bif Nat.ble p.1.length LIM then
    (match u with
    | .a id t1 path lo m=>match C3 T t1,of id with
     | some (.arr N el'),some (.box t0 a false)=>match atA T a path with
      | some (.v t2 y)=>bif Nat.beq el el'&&Nat.beq t1 t2 then
        (bif p.1.isEmpty then (match J5 T of el (.a id t1 path lo m) with
         | some q=>k (.i .i64 0,[],p.2++q.2)
         | none=>none) else
         bif Nat.ble p.1.length m&&Nat.ble (lo+m) N then (match A1G T a path (.v t1 (.l (Y0 y.els lo p.1))) with
          | some a'=>k (.i .i64 (p.1.length:Nat),[(id,.box t0 a' false)],id::p.2)
          | none=>none) else none) else ob (A0h T of t xt u v) k
      | _=>ob (A0h T of t xt u v) k
     | _,_=>ob (A0h T of t xt u v) k
    | u=>ob (A0h T of t xt u v) k)
    else none
  else none
 | _=>none
theorem B8T (of:Nat→Option Ob) (t xt:Nat) (u v:A) (k:A×List (Nat×Ob)×List Nat→Option R):B8S T of t xt u v k=ob (A0h T of t xt u v) k:=by
 unfold B8S
 cases hk:C3 T t with
 | none=>simp only [A0h,hk];rfl
 | some kk=>cases kk with
  | slice el =>
   simp only [A5b]
   cases hq:(A1p T xt v&&(T el).isSome) with
   | false=>simp only [A0h,hk,hq];rfl
   | true =>
    simp only [cond_true]
    cases hs:J5 T of el v with
    | none=>simp only [A0h,hk,hq,hs];rfl
    | some p =>
     obtain ⟨ns,ro⟩:=p
     simp only [ob]
     cases hl:Nat.ble ns.length LIM with
     | false=>simp only [A0h,hk,hq,hs,hl];rfl
     | true =>
      simp only [cond_true]
      cases u with
      | a id t1 path lo m =>
       simp only
       cases hk1:C3 T t1 with
       | none=>rfl
       | some k1=>cases k1 with
        | arr N el' =>
         cases ho:of id with
         | none=>rfl
         | some o=>cases o with
          | box t0 a sh=>cases sh
                         ·simp only
                          cases ha:atA T a path with
                          | none=>rfl
                          | some a1=>cases a1 with
                           | v t2 y =>
                            simp only
                            cases hb:(Nat.beq el el'&&Nat.beq t1 t2) with
                            | false=>rfl
                            | true =>
                             simp only [cond_true]
                             cases ns with
                             | nil =>
                              simp only [List.isEmpty_nil,cond_true,A0h,hk,hq,hs,hl,if_true]
                              cases J5 T of el (.a id t1 path lo m)<;>rfl
                             | cons n0 nr =>
                              simp only [List.isEmpty_cons,cond_false,A0h,hk,hq,hs,hl,hk1,ho,ha,hb,if_true,Bool.true_and]
                              cases Nat.ble (n0::nr).length m<;>cases Nat.ble (lo+m) N<;>try rfl
                              simp only [Bool.true_and,cond_true,if_true]
                              cases A1G T a path (.v t1 (.l (Y0 y.els lo (n0::nr))))<;>rfl
                           | _=>rfl
                         ·rfl
          | _=>rfl
        | _=>rfl
      | _=>rfl
  | _=>simp only [A0h,hk];rfl
variable {T:TT} {R:Type}
structure KC where
 f:Nat→H4
 y:Nat→H4
 ord:Nat→Bool
def KC.dir (K:KC):KS:=⟨fun f=>(K.f f).dir,fun id=>(K.y id).dir,K.ord⟩
structure KC.nat (K:KC):Prop where
 f:∀ f,(K.f f).nat
 y:∀ id,(K.y id).nat
def B08 (nx:Nat) (o:Out) (k:J7→Option R):Option R :=
 match o with
 | ⟨v,wo,ro,nw⟩=>match nw with
  | []=>k ⟨v,wo,ro,nx⟩
  | [j]=>bif Nat.beq j nx then k ⟨v,wo,ro,nx+1⟩ else none
  | _=>none
theorem B09 (nx:Nat) (o:Option Out) (k:J7→Option R):ob o (fun x=>B08 nx x k)=ob (A0j nx o) k:=by
 cases o with
 | none=>rfl
 | some x =>
  obtain ⟨v,wo,ro,nw⟩:=x
  simp only [ob,B08,A0j]
  cases nw with
  | nil=>rfl
  | cons j r=>cases r with
   | nil=>simp only;cases Nat.beq j nx<;>rfl
   | cons _ _=>rfl
def B21 (T:TT) (t:Nat) (k:A) (okk:Bool) (q:Nat×Nat×Nat×Nat×List (V×V×Bool)×Option V) (kk:A×List Nat→Option R):Option R :=
 match q.2.2.2.2.2 with
 | none=>match C3 T t with
  | some (.map kt et)=>match T et,A0O T kt k with
   | some te,some kv=>bif TK.notOther te.k then (bif Nat.beq kt q.2.1&&Nat.beq et q.2.2.1 then
     (bif A02 kv q.2.2.2.2.1 then kk (okA okk (mkA T et (A5j kv q.2.2.2.2.1)) true,[q.1]) else kk (okA okk (mkA T et te.zero) false,[q.1])) else none) else none
   | _,_=>none
  | _=>none
 | some _=>none
theorem B5B (t:Nat) (k:A) (okk:Bool) (q:Nat×Nat×Nat×Nat×List (V×V×Bool)×Option V) (kk:A×List Nat→Option R):B21 T t k okk q kk=ob (A5k T t k okk q) kk:=by
 unfold B21 A5k
 cases q.2.2.2.2.2 with
 | some _=>rfl
 | none=>cases C3 T t with
  | none=>rfl
  | some k1=>cases k1 with
   | map kt et =>
    simp only
    cases T et with
    | none=>rfl
    | some te=>cases A0O T kt k with
     | none=>rfl
     | some kv =>
      simp only [M5]
      cases TK.notOther te.k
      ·rfl
      ·simp only [cond_true]
       cases (Nat.beq kt q.2.1&&Nat.beq et q.2.2.1)
       ·rfl
       ·simp only [cond_true]
        cases A02 kv q.2.2.2.2.1<;>rfl
   | _=>rfl
def B22 (T:TT) (nx t:Nat) (k:A) (q:Nat×Nat×Nat×Nat×List (V×V×Bool)×Option V) (kk:Out→Option R):Option R :=
 match q.2.2.2.2.2 with
 | none=>match C3 T t with
  | some (.map kt et)=>match T et,A0O T kt k with
   | some te,some kv=>bif TK.notOther te.k then (bif Nat.beq kt q.2.1&&Nat.beq et q.2.2.1 then
     (bif A02 kv q.2.2.2.2.1 then (bif A8M kv q.2.2.2.2.1 then kk ⟨.o nx 1,[(q.1,.sm q.2.1 q.2.2.1 q.2.2.2.1 q.2.2.2.2.1 (some kv)),(nx,.row q.2.2.2.1 1 (A5j kv q.2.2.2.2.1).els false true)],[q.1],[nx]⟩ else none) else kk ⟨mkA T et te.zero,[],[q.1],[]⟩) else none) else none
   | _,_=>none
  | _=>none
 | some _=>none
theorem B5C (nx t:Nat) (k:A) (q:Nat×Nat×Nat×Nat×List (V×V×Bool)×Option V) (kk:Out→Option R):B22 T nx t k q kk=ob (A65 T nx t k q) kk:=by
 unfold B22 A65
 cases q.2.2.2.2.2 with
 | some _=>rfl
 | none=>cases C3 T t with
  | none=>rfl
  | some k1=>cases k1 with
   | map kt et =>
    simp only
    cases T et with
    | none=>rfl
    | some te=>cases A0O T kt k with
     | none=>rfl
     | some kv =>
      simp only [M5]
      cases TK.notOther te.k
      ·rfl
      ·simp only [cond_true]
       cases (Nat.beq kt q.2.1&&Nat.beq et q.2.2.1)
       ·rfl
       ·simp only [cond_true]
        cases A02 kv q.2.2.2.2.1
        ·rfl
        ·simp only [cond_true,M5]
         cases A8M kv q.2.2.2.2.1<;>rfl
   | _=>rfl
def B23 (T:TT) (lend:Bool) (nx:Nat) (of:Nat→Option Ob) (t:Nat) (m k:A) (okk:Bool) (kk:Out→Option R):Option R :=
 match A2J of m with
 | some q=>bif lend&&!okk then B22 T nx t k q kk else B21 T t k okk q fun p=>kk ⟨p.1,[],p.2,[]⟩
 | none=>B4a T of t m k okk fun p=>kk ⟨p.1,[],p.2,[]⟩
theorem B5D (lend:Bool) (nx:Nat) (of:Nat→Option Ob) (t:Nat) (m k:A) (okk:Bool) (kk:Out→Option R):B23 T lend nx of t m k okk kk=ob (A66 T lend nx of t m k okk) kk:=by
 unfold B23 A66
 cases A2J of m with
 | some q =>
  simp only
  cases lend&&!okk
  ·simp only [cond_false,B5B]
   cases A5k T t k okk q<;>rfl
  ·simp only [cond_true,B5C]
 | none =>
  simp only [B8P]
  cases A7t T of t m k okk<;>rfl
def B8U (T:TT) (of:Nat→Option Ob) (t:Nat) (k v:A) (q:Nat×Nat×Nat×Nat×List (V×V×Bool)×Option V) (kk:List (Nat×Ob)×List Nat→Option R):Option R :=
 match C3 T t with
 | some (.map kt et)=>match A0O T kt k with
  | some kv=>bif Nat.beq kt q.2.1&&Nat.beq et q.2.2.1 then (bif B9p q.2.2.2.2.2 kv then (match v with
    | .o rid ver=>match of rid with
     | some (.row el v' xs false sh)=>bif Nat.beq el q.2.2.2.1&&Nat.beq v' ver then kk ([(rid,.row el (ver+1) [] true false),(q.1,.sm q.2.1 q.2.2.1 q.2.2.2.1 (A2X kv (.l xs) true q.2.2.2.2.1) none)],[q.1,rid]) else none
     | _=>none
    | v=>match M3 T DEP of et v with
     | some (x,wo)=>bif !(T5 wo).contains q.1 then kk (wo++[(q.1,.sm q.2.1 q.2.2.1 q.2.2.2.1 (A2X kv x false q.2.2.2.2.1) none)],q.1::T5 wo) else none
     | none=>none) else none) else none
  | none=>none
 | _=>none
theorem B8V (of:Nat→Option Ob) (t:Nat) (k v:A) (q:Nat×Nat×Nat×Nat×List (V×V×Bool)×Option V) (kk:List (Nat×Ob)×List Nat→Option R):B8U T of t k v q kk=ob (B1t T of t k v q) kk:=by
 unfold B8U B1t
 cases C3 T t with
 | none=>rfl
 | some k1=>cases k1 with
  | map kt et =>
   simp only
   cases A0O T kt k with
   | none=>rfl
   | some kv =>
    simp only [M5]
    cases (Nat.beq kt q.2.1&&Nat.beq et q.2.2.1)
    ·rfl
    ·simp only [cond_true]
     cases B9p q.2.2.2.2.2 kv
     ·rfl
     ·simp only [cond_true]
      have gen:∀ v:A,(match M3 T DEP of et v with
        | some (x,wo)=>bif !(T5 wo).contains q.1 then kk (wo++[(q.1,.sm q.2.1 q.2.2.1 q.2.2.2.1 (A2X kv x false q.2.2.2.2.1) none)],q.1::T5 wo) else none
        | none=>none)=ob (match M3 T DEP of et v with
        | some (x,wo)=>if !(T5 wo).contains q.1 then some (wo++[(q.1,.sm q.2.1 q.2.2.1 q.2.2.2.1 (A2X kv x false q.2.2.2.2.1) none)],q.1::T5 wo) else none
        | none=>none) kk:=by
       intro v
       cases M3 T DEP of et v with
       | none=>rfl
       | some p =>
        obtain ⟨x,wo⟩:=p
        simp only [M5]
        cases !(T5 wo).contains q.1<;>rfl
      cases v with
      | o rid ver =>
       simp only
       cases of rid with
       | none=>rfl
       | some o=>cases o with
        | row el v' xs nl sh=>cases nl
                              ·simp only [M5];cases (Nat.beq el q.2.2.2.1&&Nat.beq v' ver)<;>rfl
                              ·rfl
        | _=>rfl
      | i k n=>exact gen (.i k n)
      | b y=>exact gen (.b y)
      | s l=>exact gen (.s l)
      | z v=>exact gen (.z v)
      | v t x=>exact gen (.v t x)
      | p i t r=>exact gen (.p i t r)
      | e i v j t r=>exact gen (.e i v j t r)
      | c t x=>exact gen (.c t x)
      | q t x=>exact gen (.q t x)
      | w i v o n=>exact gen (.w i v o n)
      | a i t r l m=>exact gen (.a i t r l m)
      | m i=>exact gen (.m i)
      | y i=>exact gen (.y i)
      | f n c=>exact gen (.f n c)
      | g t l=>exact gen (.g t l)
      | t l=>exact gen (.t l)
      | x=>exact gen .x
  | _=>rfl
def B4b (T:TT) (of:Nat→Option Ob) (nx t:Nat) (m k v:A) (kk:J7→Option R):Option R :=
 match A2J of m with
 | some q=>B8U T of t k v q fun p=>kk ⟨.x,p.1,p.2,nx⟩
 | none=>ob (B8c T of t m k v) fun p=>kk ⟨.x,p.1,p.2,nx⟩
theorem B8W (of:Nat→Option Ob) (nx t:Nat) (m k v:A) (kk:J7→Option R):B4b T of nx t m k v kk=ob (A6I T of nx t m k v) kk:=by
 unfold B4b A6I B6c
 cases A2J of m with
 | some q =>
  simp only [B8V]
  cases B1t T of t k v q<;>rfl
 | none =>
  simp only
  cases B8c T of t m k v<;>rfl
def B8X (T:TT) (of:Nat→Option Ob) (t:Nat) (u:A) (k:A×List Nat→Option R):Option R :=
 match A2J of u with
 | some q=>(match C3 T t with
  | some (.map _ _)=>bif Nat.ble q.2.2.2.2.1.length 9223372036854775807 then k (.i .i64 (q.2.2.2.2.1.length:Nat),[q.1]) else none
  | _=>none)
 | none=>C1Y T of t u k
theorem B8Y (of:Nat→Option Ob) (t:Nat) (u:A) (k:A×List Nat→Option R):B8X T of t u k=ob (A5n T of t u) k:=by
 unfold B8X A5n
 cases A2J of u with
 | none=>exact C1Z _ _ _ _
 | some q =>
  unfold B9r
  cases C3 T t with
  | none=>rfl
  | some kk=>cases kk with
   | map kt et=>simp only;cases Nat.ble q.2.2.2.2.1.length 9223372036854775807<;>rfl
   | _=>rfl
def B8Z (T:TT) (K:KC) (ev:Operand→A) (of:Nat→Option Ob) (nx:Nat) (k:Call) (kk:J7→Option R):Option R :=
 match k.callee with
 | .value f=>match ev f with
  | .f fn cap=>match bdP cap with
   | some p=>K.f fn R (p::k.args.toList.map ev) of nx kk
   | none=>bif cap.all (U1 T) then K.f fn R (k.args.toList.map ev++cap) of nx kk else none
  | .y id=>K.y id R (k.args.toList.map ev) of nx kk
  | _=>none
 | .builtin .len=>match k.argTypes.toList,k.args.toList with
  | [t],[x]=>B8X T of t (ev x) fun p=>kk (.pv nx p.1 p.2)
  | _,_=>none
 | .builtin .append=>match k.argTypes.toList,k.args.toList with
  | [t,xt],[x,y]=>bif A1p T xt (ev y) then A9J T of nx t (ev x) (ev y) fun o=>B08 nx o kk else bif isQ T (ev x) then ob (A0j nx (A4j T nx t xt (ev x) (ev y))) kk else none
  | _,_=>none
 | .builtin .copy=>match k.argTypes.toList,k.args.toList with
  | [t,xt],[x,y]=>B8S T of t xt (ev x) (ev y) fun p=>kk ⟨p.1,p.2.1,p.2.2,nx⟩
  | _,_=>none
 | _=>ob (X0 T (.no fun _ _ _ _=>none) ev of nx k) kk
theorem B80 {K:KC} (hK:K.nat) (ev:Operand→A) (of:Nat→Option Ob) (nx:Nat) (k:Call) (kk:J7→Option R):B8Z T K ev of nx k kk=ob (X0 T K.dir ev of nx k) kk:=by
 unfold B8Z
 split
 ·rename_i f hk
  simp only [X0,hk]
  cases ev f with
  | f fn cap =>
   simp only
   cases bdP cap with
   | some p=>exact hK.f fn R _ of nx kk
   | none =>
   simp only [M5]
   cases cap.all (U1 T)
   ·rfl
   ·simp only [cond_true];exact hK.f fn R _ of nx kk
  | y id=>exact hK.y id R _ of nx kk
  | _=>rfl
 ·rename_i hk
  simp only [X0,hk]
  split
  ·rename_i t x h1 h2
   rw [h1,h2]
   simp only [B8Y]
   cases A5n T of t (ev x)<;>rfl
  ·rename_i hne
   split
   ·rename_i t x h1 h2;exact absurd h2 (hne _ _ h1)
   ·rfl
 ·rename_i hk
  simp only [X0,hk]
  split
  ·rename_i t xt x y h1 h2
   rw [h1,h2]
   simp only [B2Z,B09]
   cases A1p T xt (ev y)
   ·simp only [cond_false,Bool.false_eq_true,if_false]
    cases isQ T (ev x)<;>rfl
   ·simp only [cond_true,if_true]
  ·rename_i hne
   split
   ·rename_i t xt x y h1 h2;exact absurd h2 (hne _ _ _ _ h1)
   ·rfl
 ·rename_i hk
  simp only [X0,hk]
  split
  ·rename_i t xt x y h1 h2
   rw [h1,h2]
   simp only [B8T]
   cases A0h T of t xt (ev x) (ev y)<;>rfl
  ·rename_i hne
   split
   ·rename_i t xt x y h1 h2;exact absurd h2 (hne _ _ _ _ h1)
   ·rfl
 ·rename_i h1 h2 h3 h4
  have:X0 T (.no fun _ _ _ _=>none) ev of nx k=X0 T K.dir ev of nx k:=by
   unfold X0
   split
   ·rename_i f hk;exact absurd hk (h1 f)
   all_goals rfl
  rw [this]
def B4c (T:TT) (K:KC) (ev:Operand→A) (of:Nat→Option Ob) (nx:Nat) (o:Oper) (k:J7→Option R):Option R :=
 match o.op with
 | .pick q a b=>match ev q with
  | .b t=>k (.pv nx (bif t then ev a else ev b) [])
  | _=>none
 | .binOp op t x y _=>D3y T of op t (ev x) (ev y) fun p=>k (.pv nx p.1 p.2)
 | .unOp op _ x=>unC op (ev x) fun v=>k (.pv nx v [])
 | .convert s t x=>B8Q T of nx s t (ev x) fun o=>B08 nx o k
 | .sliceToArrayPointer t x=>D3A T of t (ev x) fun p=>k ⟨p.1,p.2.1,p.2.2,nx⟩
 | .makeSlice t l c=>A3c T nx t (ev l) (ev c) k
 | .lookup t m c okk=>B23 T (B6a o.pos) nx of t (ev m) (ev c) okk fun o=>B08 nx o k
 | .mapUpdate t m c v=>B4b T of nx t (ev m) (ev c) (ev v) k
 | .insert t m c v=>B4b T of nx t (ev m) (ev c) (ev v) k
 | .slice t x lo hi mx=>B20 T of t (ev x) (lo.map ev) (hi.map ev) (mx.map ev) fun p=>k ⟨p.1,p.2.1,p.2.2,nx⟩
 | .indexAddr t x ix=>match ev ix with
  | .i _ i=>A3b T of t i (ev x) fun p=>k (.pv nx p.1 p.2)
  | _=>none
 | .index t x ix=>match ev ix with
  | .i _ i=>B2Y T t i (ev x) fun v=>k (.pv nx v [])
  | _=>none
 | .call c=>B8Z T K ev of nx c k
 | _=>ob (K8 T (.no fun _ _ _ _=>none) ev of nx o) k
theorem B81 {nx:Nat} (o:Option (A×List Nat)) (k:J7→Option R):ob (pvR nx o) k=ob o fun p=>k (.pv nx p.1 p.2):=by cases o<;>rfl
theorem B82 {nx:Nat} (o:Option A) (k:J7→Option R):ob (pvO nx o) k=ob o fun v=>k (.pv nx v []):=by cases o<;>rfl
theorem D3B {nx:Nat} (o:Option (A×List (Nat×Ob)×List Nat)) (k:J7→Option R):ob (pvW nx o) k=ob o fun p=>k ⟨p.1,p.2.1,p.2.2,nx⟩:=by cases o<;>rfl
theorem B1a {K:KC} (hK:K.nat) (ev:Operand→A) (of:Nat→Option Ob) (nx:Nat) (o:Oper) (k:J7→Option R):B4c T K ev of nx o k=ob (K8 T K.dir ev of nx o) k:=by
 obtain ⟨dst,op,ty,pos,after,guard⟩:=o
 cases op<;>simp only [B4c,K8,C1X,D3z,B8R,C10,A6Z,B5D,B8W,B5A,B81,B82,D3B,B09,B80 hK]
 case pick q a b=>cases ev q<;>rfl
 case indexAddr t x ix=>cases ev ix<;>simp only [A6Y,B81]<;>rfl
 case index t x ix=>cases ev ix<;>simp only [B5z,B82]<;>rfl
def D3C (T:TT) (K:KC) (ops:Array Oper) (sl:Nat→A) (of:Nat→Option Ob) (nx:Nat) (o:Oper) (k:J9→Option R):Option R :=
 match o.guard with
 | none=>B4c T K (M4 sl) of nx o fun out=>bif Nat.ble nx out.nx then k (.mk1 o (o.looksAt ops) nx out) else none
 | some (g,want)=>match (ops[g]?).bind (·.dst) with
  | some d=>match sl d with
   | .t _=>k (.skip o (o.looksAt ops) nx)
   | .b q=>bif (bif want then q else !q) then (B4c T K (M4 sl) of nx o fun out=>bif Nat.ble nx out.nx then k (.mk1 o (o.looksAt ops) nx out) else none) else k (.skip o (o.looksAt ops) nx)
   | _=>none
  | none=>none
theorem C11 {K:KC} (hK:K.nat) (ops:Array Oper) (sl:Nat→A) (of:Nat→Option Ob) (nx:Nat) (o:Oper) (k:J9→Option R):D3C T K ops sl of nx o k=ob (V2 T K.dir ops sl of nx o) k:=by
 have go:ob (K8 T K.dir (M4 sl) of nx o) (fun out=>bif Nat.ble nx out.nx then k (.mk1 o (o.looksAt ops) nx out) else none)=ob (match K8 T K.dir (M4 sl) of nx o with
   | some out=>if Nat.ble nx out.nx=true then some (J9.mk1 o (o.looksAt ops) nx out) else none
   | none=>none) k:=by
  cases K8 T K.dir (M4 sl) of nx o with
  | none=>rfl
  | some out=>simp only [ob];cases Nat.ble nx out.nx<;>rfl
 unfold D3C V2
 cases o.guard with
 | none=>simp only [B1a hK];exact go
 | some p =>
  obtain ⟨g,want⟩:=p
  simp only
  cases (ops[g]?).bind (·.dst) with
  | none=>rfl
  | some d =>
   simp only
   cases sl d with
   | t _=>rfl
   | b q =>
    simp only [B1a hK,go]
    cases q<;>cases want<;>rfl
   | _=>rfl
def D89 {α:Type} (a:A) (k:A→α):α :=
 match a with
 | .b q=>match q with
  | true=>k (.b true)
  | false=>k (.b false)
 | a=>k a
theorem C12 {α:Type} (a:A) (k:A→α):D89 a k=k a:=by
 cases a with
 | b q=>cases q<;>rfl
 | _=>rfl
def D9a (fl:Bool) (a:A) (k:A→Option R):Option R :=
 match fl with
 | true=>D3D a k
 | false=>D89 a k
theorem C13 (fl:Bool) (a:A) (k:A→Option R):D9a fl a k=k a:=by
 cases fl
 ·exact C12 a k
 ·exact B4e a k
def ob2 {α β:Type} (o:Option (α×β)) (k:α→β→Option R):Option R :=
 match o with
 | some p=>k p.1 p.2
 | none=>none
def B5E (T:TT) (K:KC) (fl:Bool) (ops:Array Oper) (of:Nat→Option Ob):List Oper→St→(List J9→St→Option R)→Option R
 | [],σ,k=>k [] σ
 | o::r,σ,k=>D3C T K ops (C4 σ.sl) (B5 σ.ob of) σ.nx o fun E=>D9a fl E.val fun v=>A12 E.hi fun h=>D3E (W0 σ.ob E.ro σ.rd) fun rd =>
   B5E T K fl ops of r { sl:=match E.dst with | some d=>(d,v)::σ.sl | none=>σ.sl,ob:=Z0 σ.ob E.wo,rd:=rd,nx:=h,mks:=σ.mks } fun Es σ'=>k ({ E with val:=v,hi:=h }::Es) σ'
theorem B4d {K:KC} (hK:K.nat) (fl:Bool) (ops:Array Oper) (of:Nat→Option Ob):∀ (l:List Oper) (σ:St) (k:List J9→St→Option R),B5E T K fl ops of l σ k=ob2 (F2 T K.dir ops of l σ) k:=by
 intro l
 induction l with
 | nil=>intro σ k;rfl
 | cons o r ih =>
  intro σ k
  rw [Z7]
  simp only [B5E,C11 hK,C13,N2,B4f,ih]
  cases V2 T K.dir ops (C4 σ.sl) (B5 σ.ob of) σ.nx o with
  | none=>rfl
  | some E =>
   simp only [ob,St.app]
   cases F2 T K.dir ops of r _ with
   | none=>rfl
   | some p=>rfl
abbrev LC:=Code→Option ((R:Type)→(Nat→Option Ob)→St→(Exit→St→Option R)→Option R)
def A5c (ks:List Nat) (f:St→(Exit→St→Option R)→Option R):Nat→St→(Exit→St→Option R)→Option R
 | 0,_,_=>none
 | n+1,σ,k=>f (σ.tidy ks) fun ex σ1=>match ex with
  | .normal=>A5c ks f n σ1 k
  | ex=>k ex σ1
def B24 (T:TT) (K:KC) (nt:Nat) (of:Nat→Option Ob) (R:Type) (g:Operand) (ps:Array Nat) (asg body:Code) (σ:St) (k:Exit→St→Option R):Option R :=
 match σ.mks with
 | some l=>match M4 (C4 σ.sl) g with
  | .f f cap=>bif K.ord f&&cap.all (U1 T) then
    (fun (ob1:Tr)=>K.f f R (.y (σ.nx+1)::cap) (B5 ob1 of) (σ.nx+2) fun out=>bif Nat.ble (σ.nx+2) out.nx then
     (fun (ob2:Tr)=>match ob2.get (σ.nx+1) with
     | some (.lp (some r))=>(match A9N r.st with
      | true=>(match B1i r.pend with
       | some ex=>k ex ⟨σ.sl,ob2.set (σ.nx+1) (.lp (some { r with st:=.exhausted })),W0 ob1 out.ro σ.rd,out.nx,some (σ.nx::l)⟩
       | none=>none)
      | false=>none)
     | _=>none) (Z0 ob1 out.wo) else none) ((σ.ob.set σ.nx (.lp none)).set (σ.nx+1) (.lp (some ⟨nt,A4N σ.sl (A2U σ.sl []),ps,asg,body,.ready,none⟩)))
   else none
  | _=>none
 | none=>none
theorem B5F {K:KC} (hK:K.nat) {nt:Nat} {of:Nat→Option Ob} {R:Type} {g:Operand} {ps:Array Nat} {asg body:Code} {σ:St} {k:Exit→St→Option R}:B24 T K nt of R g ps asg body σ k=ob2 (A4x T K.dir nt of g ps asg body σ) k:=by
 unfold B24 A4x
 cases σ.mks with
 | none=>rfl
 | some l =>
  simp only
  cases M4 (C4 σ.sl) g with
  | f f cap =>
   simp only
   show (bif K.ord f&&cap.all (U1 T) then _ else _)=ob2 (if (K.ord f&&cap.all (U1 T))=true then _ else _) k
   cases (K.ord f&&cap.all (U1 T))
   ·rfl
   ·simp only [cond_true,if_true]
    generalize (σ.ob.set σ.nx (.lp none)).set (σ.nx+1) (.lp (some ⟨nt,A4N σ.sl (A2U σ.sl []),ps,asg,body,.ready,none⟩))=ob1
    rw [hK.f f]
    show ob ((K.f f).dir _ _ _) _=ob2 (match (K.f f).dir _ _ _ with | some out=>_ | none=>none) k
    cases (K.f f).dir (.y (σ.nx+1)::cap) (B5 ob1 of) (σ.nx+2) with
    | none=>rfl
    | some out =>
     simp only [ob]
     cases Nat.ble (σ.nx+2) out.nx
     ·rfl
     ·simp only [cond_true,if_true]
      cases (Z0 ob1 out.wo).get (σ.nx+1) with
      | none=>rfl
      | some o =>
       cases o with
       | lp q =>
        cases q with
        | none=>rfl
        | some r =>
         simp only
         cases A9N r.st
         ·rfl
         ·simp only
          cases B1i r.pend<;>rfl
       | _=>rfl
  | _=>rfl
def T6 (T:TT) (K:KC) (Lo:LC) (fl:Bool) (fu nt:Nat) (of:Nat→Option Ob) (R:Type):Code→St→(Exit→St→Option R)→Option R
 | .skip,σ,k=>k .normal σ
 | .ret,σ,k=>k .ret σ
 | .exit id,σ,k=>k (.exit id) σ
 | .region _ ops draw,σ,k =>
  match draw with
  | false=>bif ops.toList.all (V8 nt) then B5E T K fl ops of ops.toList σ fun _ σ'=>k .normal σ' else none
  | true=>bif A2T nt ops then (B5E T K fl ops of ops.toList σ fun Es σ'=>bif A1T (Q6 ops.toList []) Es 0 Es then k .normal σ' else
    B5E T K fl ops of ops.toList (σ.pre of (B5L (B5 σ.ob of) Es)) fun Es2 σ2=>bif A1T (Q6 ops.toList []) Es2 0 Es2 then k .normal σ2 else none) else none
 | .seq x y,σ,k=>T6 T K Lo fl fu nt of R x σ fun ex σ1=>match ex with
  | .normal=>T6 T K Lo fl fu nt of R y σ1 k
  | ex=>k ex σ1
 | .cond q x y,σ,k=>match M4 (C4 σ.sl) q with
  | .b t=>bif t then T6 T K Lo fl fu nt of R x σ k else T6 T K Lo fl fu nt of R y σ k
  | _=>none
 | .block id body,σ,k=>T6 T K Lo fl fu nt of R body σ fun ex σ'=>match ex with
  | .exit id'=>k (bif Nat.beq id' id then .normal else .exit id') σ'
  | ex=>k ex σ'
 | .loop body,σ,k=>match Lo body with
  | some s=>s R of σ k
  | none=>A5c (A2U σ.sl []) (fun σ k=>T6 T K Lo fl fu nt of R body σ k) fu σ k
 | .rangeFunc g ps asg body,σ,k=>B24 T K nt of R g ps asg body σ k
 | _,_,_=>none
abbrev LS:=(R:Type)→(Nat→Option Ob)→St→(Exit→St→Option R)→Option R
def LS.nat (s:LS):Prop:=∀ (R:Type) (of:Nat→Option Ob) (σ:St) (k:Exit→St→Option R),s R of σ k=ob2 (s (Exit×St) of σ fun ex σ=>some (ex,σ)) k
def LS.dir (s:LS) (of:Nat→Option Ob) (σ:St):Option (Exit×St):=s (Exit×St) of σ fun ex σ=>some (ex,σ)
def W8 (Lo:LC):A4w:=fun b=>match Lo b with
 | some s=>some (LS.dir s)
 | none=>none
def A2k (Lo:LC):Prop:=∀ b s,Lo b=some s→LS.nat s
theorem F7:A2k (fun _=>none):=fun b s h=>by cases h
theorem B25 {ks:List Nat} {f:St→(Exit→St→Option R)→Option R} {g:St→Option (Exit×St)} (h:∀ σ k,f σ k=ob2 (g σ) k):∀ (n:Nat) (σ:St) (k:Exit→St→Option R),A5c ks f n σ k=ob2 (A2m ks g n σ) k:=by
 intro n
 induction n with
 | zero=>intro σ k;rfl
 | succ n ih =>
  intro σ k
  simp only [A5c,A2m,h]
  cases hg:g (σ.tidy ks) with
  | none=>rfl
  | some p =>
   obtain ⟨ex,σ1⟩:=p
   simp only [ob2]
   cases ex with
   | normal=>exact ih σ1 k
   | _=>rfl
theorem A2l {K:KC} (hK:K.nat) {Lo:LC} (hLo:A2k Lo) {fl:Bool} {fu nt:Nat} (of:Nat→Option Ob) (R:Type):∀ (c:Code) (σ:St) (k:Exit→St→Option R),T6 T K Lo fl fu nt of R c σ k=ob2 (H5 T K.dir (W8 Lo) fu nt of c σ) k:=by
 intro c
 induction c with
 | skip=>intro σ k;rfl
 | ret=>intro σ k;rfl
 | exit id=>intro σ k;rfl
 | region id ops draw =>
  intro σ k
  cases draw with
  | false =>
   simp only [T6,H5,B4d hK]
   cases ops.toList.all (V8 nt)
   ·rfl
   ·simp only [cond_true,if_true]
    cases F2 T K.dir ops of ops.toList σ<;>rfl
  | true =>
   simp only [T6,H5,B4d hK]
   cases A2T nt ops
   ·rfl
   ·simp only [cond_true,if_true]
    cases F2 T K.dir ops of ops.toList σ with
    | none=>rfl
    | some p =>
     obtain ⟨Es,σ'⟩:=p
     simp only [ob2]
     cases A1T (Q6 ops.toList []) Es 0 Es
     ·simp only [cond_false,Bool.false_eq_true,if_false]
      cases F2 T K.dir ops of ops.toList (σ.pre of (B5L (B5 σ.ob of) Es)) with
      | none=>rfl
      | some p2 =>
       obtain ⟨Es2,σ2⟩:=p2
       simp only
       cases A1T (Q6 ops.toList []) Es2 0 Es2<;>rfl
     ·rfl
 | seq x y ihx ihy =>
  intro σ k
  simp only [T6,H5]
  rw [ihx]
  cases H5 T K.dir (W8 Lo) fu nt of x σ with
  | none=>rfl
  | some p =>
   obtain ⟨ex,σ1⟩:=p
   simp only [ob2]
   cases ex with
   | normal=>exact ihy σ1 k
   | _=>rfl
 | cond q x y ihx ihy =>
  intro σ k
  simp only [T6,H5]
  cases M4 (C4 σ.sl) q with
  | b t=>cases t
         ·exact ihy σ k
         ·exact ihx σ k
  | _=>rfl
 | block id body ih =>
  intro σ k
  simp only [T6,H5]
  rw [ih]
  cases H5 T K.dir (W8 Lo) fu nt of body σ with
  | none=>rfl
  | some p =>
   obtain ⟨ex,σ1⟩:=p
   simp only [ob2]
   cases ex with
   | exit id'=>simp only;cases Nat.beq id' id<;>rfl
   | _=>rfl
 | loop body ih =>
  intro σ k
  simp only [T6,H5]
  cases hb:Lo body with
  | none =>
   simp only [W8,hb]
   exact B25 (fun σ k=>ih σ k) fu σ k
  | some s =>
   simp only [W8,hb]
   exact hLo body s hb R of σ k
 | rangeFunc g ps asg body _ _ =>
  intro σ k
  simp only [T6,H5]
  exact B5F hK
 | _=>intro σ k;rfl
def W6 (P:Program) (T:TT) (K:KC) (Lo:Nat→LC) (fl:Bool) (fu f:Nat):H4:=fun R args of nx k =>
 match P.funcs[f]? with
 | some fn=>match fn.body with
  | some code=>bif !(fn.name == "runtime.NumGoroutine")&&Nat.ble args.length fn.ntmps then
    T6 T K (Lo nx) fl fu fn.ntmps of R code ⟨A1U 0 args,.e,[],nx,some []⟩ fun ex σ=>bif A60 ex then
     (match σ.mks with
     | some ms=>bif A4z nx σ.nx σ.ob.get ms then
      (match A13 T (C4 σ.sl) (B5 σ.ob of) fn.results.toList with
      | some p=>k (A0i ms (A0p nx p.1 σ p.2))
      | none=>none) else none
     | none=>none) else none
    else none
  | none=>none
 | none=>none
theorem A6s {P:Program} {K:KC} (hK:K.nat) {Lo:Nat→LC} (hL:∀ n0,A2k (Lo n0)) {fl:Bool} {fu f:Nat} (R:Type) (args:List A) (of:Nat→Option Ob) (nx:Nat) (k:J7→Option R) :
  W6 P T K Lo fl fu f R args of nx k=ob (A3S P T K.dir (fun n0=>W8 (Lo n0)) fu f args of nx) k:=by
 unfold W6 A3S
 cases hf:P.funcs[f]? with
 | none=>rfl
 | some fn =>
  simp only
  cases hb:fn.body with
  | none=>rfl
  | some code =>
   simp only [M5]
   cases (!(fn.name == "runtime.NumGoroutine")&&Nat.ble args.length fn.ntmps)
   ·rfl
   ·simp only [cond_true]
    rw [A2l hK (hL nx) of R code]
    cases H5 T K.dir (W8 (Lo nx)) fu fn.ntmps of code ⟨A1U 0 args,.e,[],nx,some []⟩ with
    | none=>rfl
    | some p =>
     obtain ⟨ex,σ⟩:=p
     simp only [ob2,M5]
     cases A60 ex
     ·rfl
     ·simp only [cond_true]
      cases σ.mks with
      | none=>rfl
      | some ms =>
       simp only [M5]
       cases A4z nx σ.nx σ.ob.get ms
       ·rfl
       ·simp only [cond_true]
        cases A13 T (C4 σ.sl) (B5 σ.ob of) fn.results.toList<;>rfl
theorem A8z {P:Program} {K:KC} (hK:K.nat) {Lo:Nat→LC} (hL:∀ n0,A2k (Lo n0)) {fl:Bool} {fu f:Nat}:(W6 P T K Lo fl fu f).nat:=by
 intro R args of nx k
 rw [A6s hK hL]
 have:(W6 P T K Lo fl fu f).dir args of nx=A3S P T K.dir (fun n0=>W8 (Lo n0)) fu f args of nx:=by
  show W6 P T K Lo fl fu f J7 args of nx some=_
  rw [A6s hK hL]
  cases A3S P T K.dir (fun n0=>W8 (Lo n0)) fu f args of nx<;>rfl
 rw [this]
theorem B1b {P:Program} (hm:P.follows .mixedOrders=true) (hT:H2 T P) {K:KC} (hK:K.nat) (hS:KOK P T K.dir) {Lo:Nat→LC} (hL:∀ n0,A2k (Lo n0)) {fl:Bool} {fu f:Nat} (hO:∀ n0 fn code,P.funcs[f]? = some fn→fn.body=some code→M2 P T fn.ntmps n0 (W8 (Lo n0)) code):B2 P T f (W6 P T K Lo fl fu f).dir:=by
 have:(W6 P T K Lo fl fu f).dir=A3S P T K.dir (fun n0=>W8 (Lo n0)) fu f:=by
  funext args of nx
  show W6 P T K Lo fl fu f J7 args of nx some=_
  rw [A6s hK hL]
  cases A3S P T K.dir (fun n0=>W8 (Lo n0)) fu f args of nx<;>rfl
 rw [this]
 exact B4l hm hT hS hO
theorem A8A:W8 (fun _=>none)=fun _=>none:=rfl
def A3d (T:TT) (K:KC) (fl:Bool) (fu id:Nat):H4:=fun R args of nx k =>
 match lpE W7 (of id) with
 | some r=>bif Nat.beq args.length r.ps.size&&r.ps.toList.all (fun p=>Nat.blt p r.nt) then
   T6 T K (fun _=>none) fl fu r.nt of R r.asg ⟨A9Q r.ps.toList args r.sl,.e,[id],nx,none⟩ fun ex σ1=>match ex with
    | .normal=>(match lpE W7 (B5 σ1.ob of id) with
     | some r1=>T6 T K (fun _=>none) fl fu r.nt of R r.body (setLp σ1 id { r1 with st:=.busy }) fun ex2 σ2=>ob (C19 id nx of (some (ex2,σ2))) k
     | none=>none)
    | _=>none
   else none
 | none=>none
theorem A8B {K:KC} (hK:K.nat) {fl:Bool} {fu id:Nat} (R:Type) (args:List A) (of:Nat→Option Ob) (nx:Nat) (k:J7→Option R):A3d T K fl fu id R args of nx k=ob (A0R T K.dir fu id args of nx) k:=by
 unfold A3d A0R
 cases lpE W7 (of id) with
 | none=>rfl
 | some r =>
  simp only [M5]
  cases (Nat.beq args.length r.ps.size&&r.ps.toList.all (fun p=>Nat.blt p r.nt))
  ·rfl
  ·simp only [cond_true]
   rw [A2l hK F7 of R r.asg,A8A]
   cases H5 T K.dir (fun _=>none) fu r.nt of r.asg ⟨A9Q r.ps.toList args r.sl,.e,[id],nx,none⟩ with
   | none=>rfl
   | some p =>
    obtain ⟨ex,σ1⟩:=p
    simp only [ob2]
    cases ex with
    | normal =>
     simp only
     cases lpE W7 (B5 σ1.ob of id) with
     | none=>rfl
     | some r1 =>
      simp only
      rw [A2l hK F7 of R r.body,A8A]
      cases H5 T K.dir (fun _=>none) fu r.nt of r.body (setLp σ1 id { r1 with st:=.busy }) with
      | none=>rfl
      | some p2=>rfl
    | _=>rfl
theorem A6t {K:KC} (hK:K.nat) {fl:Bool} {fu id:Nat}:(A3d T K fl fu id).dir=A0R T K.dir fu id:=by
 funext args of nx
 show A3d T K fl fu id J7 args of nx some=_
 rw [A8B hK]
 cases A0R T K.dir fu id args of nx<;>rfl
theorem B26 {K:KC} (hK:K.nat) {fl:Bool} {fu id:Nat}:(A3d T K fl fu id).nat:=by
 intro R args of nx k
 rw [A6t hK,A8B hK]
end Go.Vm
end