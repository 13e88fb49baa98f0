/- What the operations of a program do, shown once for all programs; and numbers. -/
import Derived.Test.YtffgbjbmojdeeaaGreatDoorVm2
import Derived.ChangeKeysEq
import Derived.Laws.BytesString
set_option linter.constructorNameAsVariable false
set_option linter.unusedVariables false
set_option linter.unusedSimpArgs false
set_option linter.unnecessarySimpa false
noncomputable section
namespace Go.Vm
open Go.RowKit
variable {P:Program} {T:TT} {c:F1} {e:A8} {of:Nat→Option Ob}
def ieq:Int→Int→Bool
 | .ofNat a,.ofNat b=>Nat.beq a b
 | .negSucc a,.negSucc b=>Nat.beq a b
 | _,_=>false
theorem Q9 {a b:Int}:ieq a b=true↔a=b:=by
 cases a<;>cases b<;>simp [ieq]
 exact Int.ofNat_inj.symm
theorem A19 (a b:Int):ieq a b=(a == b):=by
 rw [Bool.eq_iff_iff,Q9];simp
mutual
def P7:V→V→Bool
 | .i a,.i b=>ieq a b
 | .b a,.b b=>a == b
 | .s a,.s b=>N3 a b
 | .l a,.l b=>N3 a b
 | .n,.n=>true
 | .f a,.f b=>Nat.beq a b
 | _,_=>false
def N3:List V→List V→Bool
 | [],[]=>true
 | a::r,b::s=>P7 a b&&N3 r s
 | _,_=>false
end
mutual
theorem F0:∀ (a b:V),P7 a b=true↔a=b:=by
 intro a b
 cases a with
 | i n=>cases b<;>simp [P7,Q9]
 | b x=>cases b<;>simp [P7]
 | s l=>cases b<;>simp [P7,N4 l]
 | l xs=>cases b<;>simp [P7,N4 xs]
 | n=>cases b<;>simp [P7]
 | f n=>cases b<;>simp [P7]
theorem N4:∀ (a b:List V),N3 a b=true↔a=b:=by
 intro a b
 cases a with
 | nil=>cases b<;>simp [N3]
 | cons x r=>cases b with
  | nil=>simp [N3]
  | cons y s=>simp [N3,F0 x,N4 r]
end
theorem A0D (a:V):P7 a a=true:=(F0 a a).2 rfl
theorem A9K (a b:ByteArray):(a == b)=true↔a=b:=by
 obtain ⟨x⟩:=a
 obtain ⟨y⟩:=b
 constructor
 ·intro h
  have e:x=y:=by simpa using (show (x == y)=true from h)
  rw [e]
 ·intro h
  injection h with h
  subst h
  show (x == x)=true
  simp
theorem B64 (bs:ByteArray):∀ (n i:Nat) (r:List UInt8),bs.size - i=n→ByteArray.toList.loop bs i r=r.reverse++bs.data.toList.drop i:=by
 intro n
 induction n with
 | zero =>
  intro i r h
  rw [ByteArray.toList.loop]
  have:¬ i < bs.size:=by omega
  simp only [this,if_false]
  rw [List.drop_of_length_le (by rw [C3u];have:bs.size=bs.data.size:=rfl;omega)]
  simp
 | succ n ih =>
  intro i r h
  rw [ByteArray.toList.loop]
  have hi:i < bs.size:=by omega
  have hi2:i < bs.data.toList.length:=by rw [C3u];exact hi
  simp only [hi,if_true]
  rw [ih (i+1) _ (by omega),List.drop_eq_getElem_cons hi2]
  have hi3:i < bs.data.size:=hi
  have:bs.get! i=bs.data.toList[i]:=by
   show bs.data[i]! = _
   rw [getElem!_pos bs.data i hi3];simp
  rw [this];simp
theorem A1B (bs:ByteArray):bs.toList=bs.data.toList:=by
 have:=B64 bs bs.size 0 [] (by omega)
 simpa [ByteArray.toList] using this
theorem A3J {m n:ByteArray} (h:W9 m=W9 n):m=n:=by
 have h2:m.data.toList=n.data.toList:=by
  have:=congrArg (List.map fun v=>UInt8.ofNat v.int.toNat) h
  simpa [W9,V.int,Function.comp_def] using this
 have h3:m.data=n.data:=Array.ext' h2
 cases m;cases n;simp at h3;rw [h3]
def eqT (T:TT):Nat→Nat→Bool
 | 0,_=>false
 | f+1,t=>match T t with
  | some te=>match te.k with
   | .int _ | .bool | .str=>true
   | .arr _ el=>eqT T f el
   | .struct fs=>te.eq&&fs.all (eqT T f)
   | _=>false
  | none=>false
theorem A0E {t:Nat} {te:TE} (hT:F4 T P) (ht:T t=some te) {xs:Array Value} {pre d post:List Value} {off:Nat} {y:V} (hx:xs.toList=pre++(d++post)) (hp:pre.length=off) (hd:RV T e [t] [y] d) (w:World) :
  ∃ v,(part t xs off).run P w=.ok v w∧B3 T e (.v t y) v:=by
 have hl:=hd.one_len
 rw [E4 ht] at hl
 subst hp
 rcases Z7 ht (RA.v1 hd) (G9 t y) with ⟨ha,hr⟩ | ⟨ha,v,rfl,hr⟩
 ·refine ⟨.agg (xs.extract pre.length (pre.length+te.size)),by simp [part,A2p (hT _ _ ht),ha,C7 (hT _ _ ht)],?_⟩
  have:xs.extract pre.length (pre.length+te.size)=d.toArray:=by
   apply Array.ext'
   rw [Array.toList_extract,hx,List.extract_eq_take_drop,List.drop_left,← hl]
   simp
  rw [this];exact hr
 ·have hv:xs[pre.length]? = some v:=by rw [← Array.getElem?_toList,hx];simp
  exact ⟨v,by simp [part,A2p (hT _ _ ht),ha,hv],hr⟩
theorem A53 {xs ys:List V} {i:Nat} {x y:V} (hx:xs[i]? = some x) (hy:ys[i]? = some y):N3 (xs.drop i) (ys.drop i)=(P7 x y&&N3 (xs.drop (i+1)) (ys.drop (i+1))):=by
 obtain ⟨h1,rfl⟩:=List.getElem?_eq_some_iff.1 hx
 obtain ⟨h2,rfl⟩:=List.getElem?_eq_some_iff.1 hy
 rw [List.drop_eq_getElem_cons h1,List.drop_eq_getElem_cons h2]
 rfl
theorem M2 {t:Nat} {x:V} {a:Value} (h:B3 T e (.v t x) a) (hk:∃ k,B2 T t=some k∧k.agg=true):∃ cs,a=.agg cs∧RV T e [t] [x] cs.toList:=by
 obtain ⟨cs,rfl⟩:=h.2.1 hk
 exact ⟨cs,rfl,h.1⟩
theorem A3h (hT:F4 T P) (w:World):∀ (f:Nat) (t d:Nat) (x y:V) (a b:Value),eqT T f t=true→B3 T e (.v t x) a→B3 T e (.v t y) b→(Op.equalIn (d+f) t a b).run P w=.ok (P7 x y) w:=by
 intro f
 induction f with
 | zero=>intro t d x y a b h;simp [eqT] at h
 | succ f ih =>
  intro t d x y a b h ha hb
  simp only [eqT] at h
  split at h<;>try (cases h;done)
  rename_i te hte
  have hok:=hT _ _ hte
  have hkk:=G2 hte
  have Q7:te.k.agg=false→RV T e [t] [x] [a]∧RV T e [t] [y] [b]:=fun hs=>⟨C5 ha ⟨_,hkk,hs⟩,C5 hb ⟨_,hkk,hs⟩⟩
  split at h
  ·rename_i k hk
   rw [hk] at hkk
   obtain ⟨q1,q2⟩:=Q7 (by rw [hk];rfl)
   obtain ⟨m,rfl,hm,_⟩:=q1.int_inv hkk
   obtain ⟨n,rfl,hn,_⟩:=q2.int_inv hkk
   injection hm with hm;injection hn with hn
   subst hm;subst hn
   rw [show d+(f+1)=(d+f)+1 by omega]
   simp [Op.equalIn,A2 (N7 hok hk),P7,A19]
  ·rename_i hk
   rw [hk] at hkk
   obtain ⟨q1,q2⟩:=Q7 (by rw [hk];rfl)
   obtain ⟨m,rfl,hm⟩:=q1.bool_inv hkk
   obtain ⟨n,rfl,hn⟩:=q2.bool_inv hkk
   injection hm with hm;injection hn with hn
   subst hm;subst hn
   rw [show d+(f+1)=(d+f)+1 by omega]
   simp [Op.equalIn,A2 (Z5 hok hk),P7]
  ·rename_i hk
   rw [hk] at hkk
   obtain ⟨q1,q2⟩:=Q7 (by rw [hk];rfl)
   obtain ⟨m,rfl,hm⟩:=q1.str_inv hkk
   obtain ⟨n,rfl,hn⟩:=q2.str_inv hkk
   injection hm with hm;injection hn with hn
   subst hm;subst hn
   rw [show d+(f+1)=(d+f)+1 by omega]
   simp only [Op.equalIn,Sem.run_bind,A2 (L8 hok hk),Result.andThen_ok,Sem.run_pure]
   congr 1
   rw [Bool.eq_iff_iff]
   simp only [P7,N4,A9K]
   exact ⟨fun h=>by rw [h],A3J⟩
  ·rename_i n el hk
   rw [hk] at hkk
   obtain ⟨as0,rfl,hra⟩:=M2 ha ⟨_,hkk,rfl⟩
   obtain ⟨bs,rfl,hrb⟩:=M2 hb ⟨_,hkk,rfl⟩
   obtain ⟨xs,rfl,hxl,hxs⟩:=hra.arr_inv hkk
   obtain ⟨ys,rfl,hyl,hys⟩:=hrb.arr_inv hkk
   obtain ⟨tel,hel⟩:∃ tel,T el=some tel:=by
    cases f with
    | zero=>simp [eqT] at h
    | succ f=>simp only [eqT] at h;split at h<;>first | exact ⟨_,by assumption⟩ | cases h
   obtain ⟨i,dd,z,h1,h2,h3,_⟩:=(hT _ _ hel).fits
   have hc:P.cellsOf el=B1 T el:=by
    have:=C7 (hT _ _ hel) w
    rw [run_sizeOf w h1] at this
    injection this with this _
    rw [E4 hel];omega
   rw [show d+(f+1)=(d+f)+1 by omega,run_equalIn_array w (d+f) as0 bs (L9 hok hk) h1,hc]
   have key:∀ (m k:Nat),k+m=n→(Op.eqItems (d+f) el (B1 T el) as0 bs (List.range' k m)).run P w=.ok (N3 (xs.drop k) (ys.drop k)) w:=by
    intro m
    induction m with
    | zero =>
     intro k hkm
     rw [List.drop_of_length_le (by omega),List.drop_of_length_le (by omega)]
     simp [Op.eqItems,N3]
    | succ m ihm =>
     intro k hkm
     have hg:(List.replicate n el)[k]? = some el:=by rw [List.getElem?_replicate,if_pos (by omega)]
     obtain ⟨x',p1,d1,s1,e1,e2,e3,e4,e5⟩:=hxs.at hg
     obtain ⟨y',p2,d2,s2,g1,g2,g3,g4,g5⟩:=hys.at hg
     rw [List.take_replicate,B4,Nat.min_eq_left (by omega)] at e3 g3
     obtain ⟨u,r1,r2⟩:=A0E hT hel e2 e3 e5 w
     obtain ⟨v,r3,r4⟩:=A0E hT hel g2 g3 g5 w
     have r5:=ih el d x' y' u v h r2 r4
     rw [List.range'_succ]
     simp only [Op.eqItems,Sem.run_bind,r1,r3,r5,Result.andThen_ok]
     rw [A53 e1 g1]
     have r6:=ihm (k+1) (by omega)
     cases P7 x' y'
     ·simp
     ·simpa using r6
   have:=key n 0 (by omega)
   rw [List.range_eq_range']
   simpa [P7] using this
  ·rename_i fs hk
   rw [hk] at hkk
   simp only [C3o,List.all_eq_true] at h
   obtain ⟨heq,hall⟩:=h
   obtain ⟨as0,rfl,hra⟩:=M2 ha ⟨_,hkk,rfl⟩
   obtain ⟨bs,rfl,hrb⟩:=M2 hb ⟨_,hkk,rfl⟩
   obtain ⟨xs,rfl,hxs⟩:=hra.struct_inv hkk
   obtain ⟨ys,rfl,hys⟩:=hrb.struct_inv hkk
   obtain ⟨gs,g1,g2,g3⟩:=J6 hok hk
   obtain ⟨k1,k2,k3⟩:=hok.eqok heq
   have hfs:P.fieldsOf t=gs:=by simp [Program.fieldsOf,g1]
   rw [show d+(f+1)=(d+f)+1 by omega,run_equalIn_struct w (d+f) t as0 bs (by rw [hfs];exact g1) k2,hfs]
   have key:∀ (m k:Nat),k+m=gs.toList.length→(Op.eqFields (d+f) as0 bs (gs.toList.drop k)).run P w=.ok (N3 (xs.drop k) (ys.drop k)) w:=by
    intro m
    have hlx:=hxs.length.2
    have hly:=hys.length.2
    have hlf:fs.length=gs.toList.length:=by rw [← g2,C3r]
    induction m with
    | zero =>
     intro k hkm
     rw [List.drop_of_length_le (by omega),List.drop_of_length_le (by omega),List.drop_of_length_le (by omega)]
     simp [Op.eqFields,N3]
    | succ m ihm =>
     intro k hkm
     have hlt:k < gs.toList.length:=by omega
     have hg:fs[k]? = some gs.toList[k].type:=by rw [← g2,List.getElem?_map,C3A hlt];rfl
     have hmem:gs.toList[k].type∈fs:=List.mem_of_getElem? hg
     have hoff:=g3 k gs.toList[k] (by simp)
     obtain ⟨x',p1,d1,s1,e1,e2,e3,e4,e5⟩:=hxs.at hg
     obtain ⟨y',p2,d2,s2,q1,q2,q3,q4,q5⟩:=hys.at hg
     have hft:=hall _ hmem
     obtain ⟨tel,hel⟩:∃ tel,T gs.toList[k].type=some tel:=by
      cases f with
      | zero=>simp [eqT] at hft
      | succ f=>simp only [eqT] at hft;split at hft<;>first | exact ⟨_,by assumption⟩ | cases hft
     obtain ⟨u,r1,r2⟩:=A0E hT hel e2 (e3.trans hoff.symm) e5 w
     obtain ⟨v,r3,r4⟩:=A0E hT hel q2 (q3.trans hoff.symm) q5 w
     have r5:=ih _ d x' y' u v hft r2 r4
     have hnm:=k3 gs g1 gs.toList[k] (List.getElem_mem hlt)
     rw [List.drop_eq_getElem_cons hlt]
     simp only [Op.eqFields,hnm,ne_eq,not_false_eq_true,if_true,Sem.run_bind,r1,r3,r5,Result.andThen_ok]
     rw [A53 e1 q1]
     have r6:=ihm (k+1) (by omega)
     cases P7 x' y'
     ·simp
     ·simpa using r6
   have:=key gs.toList.length 0 (by omega)
   simpa [P7] using this
  ·cases h
variable {P:Program} {T:TT} {c:F1} {e:A8} {of:Nat→Option Ob}
def F5 (op:BinOp) (k:IntKind) (x y:Int):Int :=
 let a:=BitVec.ofInt k.bits x
 let b:=BitVec.ofInt k.bits y
 k.wrap (match op with
  | .and=>(a &&& b).toNat
  | .or=>(a ||| b).toNat
  | .xor=>(a ^^^ b).toNat
  | _=>(a &&& ~~~b).toNat:Nat)
def C2P:Int→Int→Bool
 | .ofNat a,.ofNat b=>Nat.ble a b
 | .ofNat _,.negSucc _=>false
 | .negSucc _,.ofNat _=>true
 | .negSucc a,.negSucc b=>Nat.ble b a
def C2Q:Int→Int→Bool
 | .ofNat a,.ofNat b=>Nat.ble (a+1) b
 | .ofNat _,.negSucc _=>false
 | .negSucc _,.ofNat _=>true
 | .negSucc a,.negSucc b=>Nat.ble (b+1) a
@[simp] theorem ileN_dec (a b:Int):C2P a b=decide (a≤b):=by
 rw [Bool.eq_iff_iff,C3z]
 cases a with
 | ofNat m=>cases b with
  | ofNat n=>show Nat.ble m n=true↔_;rw [Nat.ble_eq];exact Int.ofNat_le.symm
  | negSucc n=>show false=true↔_;simp only [Int.ofNat_eq_natCast,Int.negSucc_eq];exact ⟨fun h=>(by cases h),fun h=>by omega⟩
 | negSucc m=>cases b with
  | ofNat n=>show true=true↔_;simp only [Int.ofNat_eq_natCast,Int.negSucc_eq];exact ⟨fun h=>by omega,fun h=>trivial⟩
  | negSucc n=>show Nat.ble n m=true↔_;rw [Nat.ble_eq];simp only [Int.negSucc_eq];omega
@[simp] theorem iltN_dec (a b:Int):C2Q a b=decide (a < b):=by
 rw [Bool.eq_iff_iff,C3z]
 cases a with
 | ofNat m=>cases b with
  | ofNat n=>show Nat.ble (m+1) n=true↔_;rw [Nat.ble_eq];exact Int.ofNat_lt.symm
  | negSucc n=>show false=true↔_;simp only [Int.ofNat_eq_natCast,Int.negSucc_eq];exact ⟨fun h=>(by cases h),fun h=>by omega⟩
 | negSucc m=>cases b with
  | ofNat n=>show true=true↔_;simp only [Int.ofNat_eq_natCast,Int.negSucc_eq];exact ⟨fun h=>by omega,fun h=>trivial⟩
  | negSucc n=>show Nat.ble (n+1) m=true↔_;rw [Nat.ble_eq];simp only [Int.negSucc_eq];omega
def J1 (a b:Int):Bool:=C2P a b
def E8 (a b:Int):Bool:=C2Q a b
def A1K (op:BinOp) (k:IntKind) (a b:Int):Option A :=
 match op with
 | .add=>some (.i k (k.wrap (a+b)))
 | .sub=>some (.i k (k.wrap (a - b)))
 | .mul=>some (.i k (k.wrap (a * b)))
 | .quo=>if ieq b 0 then none else some (.i k (k.wrap (a.tdiv b)))
 | .rem=>if ieq b 0 then none else some (.i k (a.tmod b))
 | .and=>some (.i k (F5 .and k a b))
 | .or=>some (.i k (F5 .or k a b))
 | .xor=>some (.i k (F5 .xor k a b))
 | .andNot=>some (.i k (F5 .andNot k a b))
 | .shl=>if J1 0 b then some (.i k (k.wrap (a * 2 ^ min b.toNat k.bits))) else none
 | .shr=>if J1 0 b then some (.i k (a.fdiv (2 ^ min b.toNat k.bits))) else none
 | .eql=>some (.b (ieq a b))
 | .neq=>some (.b (!ieq a b))
 | .lss=>some (.b (E8 a b))
 | .leq=>some (.b (J1 a b))
 | .gtr=>some (.b (E8 b a))
 | .geq=>some (.b (J1 b a))
def A0Z:BinOp→Bool
 | .shl | .shr=>true
 | _=>false
def sLt:List V→List V→Bool
 | _,[]=>false
 | [],_::_=>true
 | a::x,b::y=>E8 a.int b.int||(ieq a.int b.int&&sLt x y)
def A9L (op:BinOp) (x y:List V):Option A :=
 match op with
 | .add=>if Nat.ble (x.length+y.length) LIM then some (.s (x++y)) else none
 | .eql=>some (.b (N3 x y))
 | .neq=>some (.b (!N3 x y))
 | .lss=>some (.b (sLt x y))
 | .leq=>some (.b (sLt x y||N3 x y))
 | .gtr=>some (.b (!(sLt x y||N3 x y)))
 | .geq=>some (.b (!sLt x y))
 | _=>none
def isN:V→Bool
 | .n=>true
 | _=>false
def C2R:Value→Nat
 | .pointer _=>0
 | .slice _ _ _=>1
 | .map _=>2
 | .func _ _ _ | .nilFunc=>3
 | _=>9
def A8f (T:TT) (t:Nat):Nat :=
 match B2 T t with
 | some (.ptr _)=>0
 | some (.slice _)=>1
 | some (.map _ _)=>2
 | some .func=>3
 | _=>8
def B65 (T:TT) (of:Nat→Option Ob):A→Option (Bool×Nat×List Nat)
 | .z v=>some (true,C2R v,[])
 | .v t x=>if Nat.ble (A8f T t) 3 then some (isN x,A8f T t,[]) else none
 | .p _ _ _ | .c _ _=>some (false,0,[])
 | .m _=>some (false,2,[])
 | .f _ _=>some (false,3,[])
 | .o id ver=>match of id with
  | some (.row _ v _ nl _)=>if Nat.beq v ver then some (nl,1,[id]) else none
  | _=>none
 | .w id ver _ _=>match of id with
  | some (.row _ v _ _ _)=>if Nat.beq v ver then some (false,1,[id]) else none
  | _=>none
 | .a _ _ _ _ _=>some (false,1,[])
 | _=>none
def isZ:A→Bool
 | .z _=>true
 | _=>false
def EQD:Nat:=8
def B9T:BinOp→Bool
 | .eql | .neq=>true
 | _=>false
def A4F (op:BinOp) (q:Bool):Bool :=
 match op with
 | .eql=>q
 | _=>!q
def B8u (T:TT) (of:Nat→Option Ob) (op:BinOp) (xt:Nat) (u v:A):Option (A×List Nat) :=
 match B65 T of u,B65 T of v with
 | some (p,k,r),some (q,k',s)=>if Nat.beq k k'&&Nat.beq k (A8f T xt) then some (.b (A4F op (p&&q)),r++s) else none
 | _,_=>none
def B8v (T:TT) (t:Nat):Bool :=
 match T t with
 | some te=>(te.k.agg&&te.eq)||(match te.k with | .bool=>true | _=>false)
 | none=>false
def B4J (T:TT) (op:BinOp) (xt:Nat) (u v:A):Option (A×List Nat) :=
 if eqT T EQD xt&&B8v T xt then (match H7 T xt u,H7 T xt v with
  | some a,some b=>match A2q a,A2q b with
   | some x,some y=>some (.b (A4F op (P7 x y)),[])
   | _,_=>none
  | _,_=>none) else none
def A4G (T:TT) (of:Nat→Option Ob) (op:BinOp) (xt:Nat) (u v:A):Option (A×List Nat) :=
 match u,v with
 | .i k a,.i k' b=>if A0Z op||A2W k k' then (match A1K op k a b with
   | some r=>some (r,[])
   | none=>none) else none
 | .s a,.s b=>match A9L op a b with
  | some r=>some (r,[])
  | none=>none
 | u,v=>if B9T op then (if isZ u||isZ v then B8u T of op xt u v else B4J T op xt u v) else none
theorem W4 (op:BinOp) (k:IntKind) (a b:Int) (w:World) (h:op=.and∨op=.or∨op=.xor∨op=.andNot):(Op.intBits op k a b).run P w=.ok (.int k (F5 op k a b)) w:=by
 rcases h with rfl | rfl | rfl | rfl<;>rfl
theorem A0l {op:BinOp} {t:TypeId} {x y:Operand} {a b:Value} {w:World} (ha:one a=true) (hb:a≠.nilIface):(eqGuard op t x y a b).run P w=.ok () w:=by
 unfold eqGuard
 cases op<;>simp<;>(cases a<;>simp_all [one])
theorem B4K {b:Int} (h:ieq b 0=false):b≠0:=by
 intro q;rw [Q9.2 q] at h;cases h
theorem Q3 {k:IntKind} {a b:Int} (h:inR k a):inR k (a.tmod b):=by
 have h0:lo k≤0∧0≤hi k:=by cases k<;>simp [lo,hi]
 obtain ⟨h1,h2⟩:=h
 cases a with
 | ofNat m =>
  have e:Int.tmod (Int.ofNat m) b=((m % b.natAbs:Nat):Int):=by cases b<;>simp [Int.tmod]
  have:m % b.natAbs≤m:=Nat.mod_le _ _
  rw [e]
  constructor<;>simp only [Int.ofNat_eq_natCast] at h1 h2<;>omega
 | negSucc m =>
  have e:Int.tmod (Int.negSucc m) b = -(((m+1) % b.natAbs:Nat):Int):=by cases b<;>simp [Int.tmod]
  have:(m+1) % b.natAbs≤m+1:=Nat.mod_le _ _
  rw [e]
  rw [Int.negSucc_eq] at h1 h2
  constructor<;>omega
theorem Q4 {k:IntKind} {a:Int} (s:Nat) (h:inR k a):inR k (a.fdiv (2 ^ s)):=by
 have h0:lo k≤0∧0≤hi k:=by cases k<;>simp [lo,hi]
 obtain ⟨h1,h2⟩:=h
 have hp:(0:Int) < 2 ^ s:=Int.pow_pos (by decide)
 rw [Int.fdiv_eq_ediv_of_nonneg _ (by omega)]
 constructor
 ·rcases Int.lt_or_le a 0 with hn | hn
  ·have:a≤a / 2 ^ s:=by
    rw [Int.le_ediv_iff_mul_le hp]
    have:=Int.mul_nonneg (show 0 ≤ -a by omega) (show (0:Int)≤2 ^ s - 1 by omega)
    rw [Int.mul_sub,Int.neg_mul,Int.mul_one] at this
    omega
   omega
  ·have:=Int.ediv_nonneg hn (show (0:Int)≤2 ^ s by omega);omega
 ·rcases Int.lt_or_le a 0 with hn | hn
  ·have:=Int.ediv_neg_of_neg_of_pos hn hp;omega
  ·have:=Int.ediv_le_self (2 ^ s) hn;omega
theorem A5a {op:BinOp} {t:TypeId} {k k':IntKind} {a b:Int} {w:World} {r:A} (hra:inR k a) (hk:A0Z op=true∨k=k') (h:A1K op k a b=some r) :
  ∃ v,(binOp op t (.int k a) (.int k' b)).run P w=.ok v w∧∀ e:A8,B3 T e r v:=by
 cases op
 case shl =>
  simp only [A1K] at h
  split at h
  ·rename_i hb
   injection h with h;subst h
   have:¬ b < 0:=by simp only [J1,ileN_dec,C3z] at hb;omega
   exact ⟨_,by simp [binOp,Op.shift,this]<;>rfl,fun e=>G6 (by first | exact J5 _ _ | exact Q3 hra | exact Q4 _ hra)⟩
  ·cases h
 case shr =>
  simp only [A1K] at h
  split at h
  ·rename_i hb
   injection h with h;subst h
   have:¬ b < 0:=by simp only [J1,ileN_dec,C3z] at hb;omega
   exact ⟨_,by simp [binOp,Op.shift,this]<;>rfl,fun e=>G6 (by first | exact J5 _ _ | exact Q3 hra | exact Q4 _ hra)⟩
  ·cases h
 all_goals
  have hk:k=k':=by rcases hk with hk | hk;cases hk;exact hk
  subst hk
  simp only [A1K] at h
 case quo =>
  split at h
  ·cases h
  ·rename_i hb
   injection h with h;subst h
   have hb:=B4K (by simpa using hb)
   exact ⟨_,by simp [binOp,Op.intDiv,hb]<;>rfl,fun e=>G6 (by first | exact J5 _ _ | exact Q3 hra | exact Q4 _ hra)⟩
 case rem =>
  split at h
  ·cases h
  ·rename_i hb
   injection h with h;subst h
   have hb:=B4K (by simpa using hb)
   exact ⟨_,by simp [binOp,Op.intDiv,hb]<;>rfl,fun e=>G6 (by first | exact J5 _ _ | exact Q3 hra | exact Q4 _ hra)⟩
 case and=>injection h with h;subst h;exact ⟨_,by simp [binOp];exact W4 _ _ _ _ _ (by simp),fun e=>G6 (by first | exact J5 _ _ | exact Q3 hra | exact Q4 _ hra)⟩
 case or=>injection h with h;subst h;exact ⟨_,by simp [binOp];exact W4 _ _ _ _ _ (by simp),fun e=>G6 (by first | exact J5 _ _ | exact Q3 hra | exact Q4 _ hra)⟩
 case xor=>injection h with h;subst h;exact ⟨_,by simp [binOp];exact W4 _ _ _ _ _ (by simp),fun e=>G6 (by first | exact J5 _ _ | exact Q3 hra | exact Q4 _ hra)⟩
 case andNot=>injection h with h;subst h;exact ⟨_,by simp [binOp];exact W4 _ _ _ _ _ (by simp),fun e=>G6 (by first | exact J5 _ _ | exact Q3 hra | exact Q4 _ hra)⟩
 case add=>injection h with h;subst h;exact ⟨_,by simp [binOp,Op.intArith]<;>rfl,fun e=>G6 (by first | exact J5 _ _ | exact Q3 hra | exact Q4 _ hra)⟩
 case sub=>injection h with h;subst h;exact ⟨_,by simp [binOp,Op.intArith]<;>rfl,fun e=>G6 (by first | exact J5 _ _ | exact Q3 hra | exact Q4 _ hra)⟩
 case mul=>injection h with h;subst h;exact ⟨_,by simp [binOp,Op.intArith]<;>rfl,fun e=>G6 (by first | exact J5 _ _ | exact Q3 hra | exact Q4 _ hra)⟩
 case eql=>injection h with h;subst h;exact ⟨_,by simp [binOp,Op.intCmp]<;>rfl,fun e=>by rw [A19];exact A17 _⟩
 case neq=>injection h with h;subst h;exact ⟨_,by simp [binOp,Op.intCmp]<;>rfl,fun e=>by rw [A19];exact A17 _⟩
 all_goals injection h with h;subst h;exact ⟨_,by simp [binOp,Op.intCmp,J1,E8]<;>rfl,fun e=>A17 _⟩
theorem B2c:∀ (x y:List UInt8),sLt (x.map fun b=>V.i (b.toNat:Int)) (y.map fun b=>V.i (b.toNat:Int))=Op.bytesLess x y:=by
 intro x
 induction x with
 | nil=>intro y;cases y<;>rfl
 | cons a x ih =>
  intro y
  cases y with
  | nil=>rfl
  | cons b y =>
   simp only [List.map_cons,sLt,Op.bytesLess,ih,V.int]
   have e1:E8 (a.toNat:Int) (b.toNat:Int)=decide (a < b):=by
    rw [E8,iltN_dec]
    rw [Bool.eq_iff_iff,C3z,C3z,UInt8.lt_iff_toNat_lt]
    omega
   have e2:ieq (a.toNat:Int) (b.toNat:Int)=(a == b):=by
    rw [Bool.eq_iff_iff,Q9,beq_iff_eq]
    constructor
    ·intro h;exact UInt8.toNat_inj.1 (by omega)
    ·rintro rfl;rfl
   rw [e1,e2]
theorem B9U (a b:ByteArray):N3 (W9 a) (W9 b)=(a.toList == b.toList):=by
 rw [Bool.eq_iff_iff,N4,beq_iff_eq,A1B,A1B]
 constructor
 ·intro h;rw [A3J h]
 ·intro h
  have:a.data=b.data:=Array.ext' h
  cases a;cases b;simp at this;rw [this]
theorem B9V (a b:ByteArray):sLt (W9 a) (W9 b)=Op.bytesLess a.toList b.toList:=by
 rw [A1B,A1B];exact B2c _ _
theorem A0d (a:ByteArray):(W9 a).length=a.size:=by unfold W9;rw [C3r,C3u];rfl
theorem A5b {op:BinOp} {t:TypeId} {a b:ByteArray} {w:World} {r:A} (h:A9L op (W9 a) (W9 b)=some r) :
  ∃ v,(binOp op t (.string a) (.string b)).run P w=.ok v w∧∀ e:A8,B3 T e r v:=by
 cases op<;>simp only [A9L,B9U,B9V,A0d] at h<;>try (cases h;done)
 case add =>
  split at h
  ·rename_i hl
   injection h with h;subst h
   have hl:=C3t hl
   unfold LIM at hl
   have:¬ (((a.size+b.size:Nat):Int) > IntKind.i64.max):=by
    have e1:IntKind.i64.max=9223372036854775807:=rfl
    rw [e1];omega
   refine ⟨.string (a++b),by simp only [binOp,Op.stringOp,if_neg this];rfl,fun e=>?_⟩
   have:W9 a++W9 b=W9 (a++b):=by
    unfold W9
    rw [ByteArray.data_append,Array.toList_append,List.map_append]
   rw [this];exact A3S _
  ·cases h
 all_goals injection h with h;subst h;exact ⟨_,rfl,fun e=>A17 _⟩
theorem RV.ptr_inv {t:Nat} {el:Nat} {x:V} {cs:List Value} (h:RV T e [t] [x] cs) (hk:B2 T t=some (.ptr el)):x=.n∧cs=[.pointer none]:=by
 cases h with
 | ptr h1 h2 h=>cases h;exact ⟨rfl,rfl⟩
 | int h1=>rw [hk] at h1;cases h1
 | bool h1=>rw [hk] at h1;cases h1
 | str h1=>rw [hk] at h1;cases h1
 | nils h1=>rw [hk] at h1;cases h1
 | map h1=>rw [hk] at h1;cases h1
 | func h1=>rw [hk] at h1;cases h1
 | fn h1=>rw [hk] at h1;cases h1
 | slice h1=>rw [hk] at h1;cases h1
 | arr h1=>rw [hk] at h1;cases h1
 | struct h1=>rw [hk] at h1;cases h1
theorem RV.map_inv {t:Nat} {k el:Nat} {x:V} {cs:List Value} (h:RV T e [t] [x] cs) (hk:B2 T t=some (.map k el)):x=.n∧cs=[.map none]:=by
 cases h with
 | map h1 h2 h=>cases h;exact ⟨rfl,rfl⟩
 | int h1=>rw [hk] at h1;cases h1
 | bool h1=>rw [hk] at h1;cases h1
 | str h1=>rw [hk] at h1;cases h1
 | ptr h1=>rw [hk] at h1;cases h1
 | nils h1=>rw [hk] at h1;cases h1
 | func h1=>rw [hk] at h1;cases h1
 | fn h1=>rw [hk] at h1;cases h1
 | slice h1=>rw [hk] at h1;cases h1
 | arr h1=>rw [hk] at h1;cases h1
 | struct h1=>rw [hk] at h1;cases h1
def NV (a:Value) (q:Bool) (k:Nat):Prop :=
 (k=0∧∃ p,a=.pointer p∧q=p.isNone)∨(k=1∧∃ p n c,a=.slice p n c∧q=p.isNone)∨(k=2∧∃ p,a=.map p∧q=p.isNone)∨(k=3∧((a=.nilFunc∧q=true)∨∃ f x y,a=.func f x y∧q=false))
theorem A54 {of':Nat→Option Ob} {u:A} {a:Value} {q:Bool} {k:Nat} {ro:List Nat} (h:A5 T c e of') (hn:B65 T of u=some (q,k,ro)) (ho:∀ id∈ro,of' id=of id) (hx:B3 T e u a):NV a q k:=by
 cases u<;>simp only [B65] at hn<;>try (cases hn;done)
 case z v =>
  injection hn with hn;injection hn with h1 h2;injection h2 with h2 h3;subst h1;subst h2
  have hx:RA T e [.z v] [a]:=hx
  cases hx with
  | r g1 _ _=>exact g1.elim
  | z hz _ =>
   unfold A1Y at hz
   split at hz
   ·exact .inl ⟨rfl,none,rfl,rfl⟩
   ·exact .inr (.inl ⟨rfl,none,0,0,rfl,rfl⟩)
   ·exact .inr (.inr (.inl ⟨rfl,none,rfl,rfl⟩))
   ·exact .inr (.inr (.inr ⟨rfl,.inl ⟨rfl,rfl⟩⟩))
   ·cases hz
 case v t x =>
  split at hn<;>try (cases hn;done)
  rename_i hkt
  injection hn with hn;injection hn with h1 h2;injection h2 with h2 h3;subst h1;subst h2
  have key:∀ k,B2 T t=some k→k.agg=false→RV T e [t] [x] [a]:=fun k hk hg=>C5 hx ⟨k,hk,hg⟩
  unfold A8f at hkt ⊢
  split at hkt<;>try (cases hkt;done)
  all_goals
   rename_i hk
   have hv:=key _ hk rfl
  ·obtain ⟨rfl,hq⟩:=hv.ptr_inv hk
   injection hq with hq;subst hq;exact .inl ⟨rfl,none,rfl,rfl⟩
  ·rcases hv.slice_inv hk with ⟨rfl,hq⟩ | ⟨ys,ds,ad,cap,rfl,hq,_⟩
   ·injection hq with hq _;subst hq;exact .inr (.inl ⟨rfl,_,_,_,rfl,rfl⟩)
   ·injection hq with hq _;subst hq;exact .inr (.inl ⟨rfl,_,_,_,rfl,rfl⟩)
  ·obtain ⟨rfl,hq⟩:=hv.map_inv hk
   injection hq with hq;subst hq;exact .inr (.inr (.inl ⟨rfl,none,rfl,rfl⟩))
  ·rcases hv.func_inv hk with ⟨rfl,hq⟩ | ⟨fn,rfl,hq⟩
   ·injection hq with hq;subst hq;exact .inr (.inr (.inr ⟨rfl,.inl ⟨rfl,rfl⟩⟩))
   ·injection hq with hq;subst hq;exact .inr (.inr (.inr ⟨rfl,.inr ⟨_,_,_,rfl,rfl⟩⟩))
 case p id t path =>
  injection hn with hn;injection hn with h1 h2;injection h2 with h2 h3;subst h1;subst h2
  obtain ⟨b,off,_,_,_,_,rfl⟩:=F6 hx
  exact .inl ⟨rfl,_,rfl,rfl⟩
 case c t x =>
  injection hn with hn;injection hn with h1 h2;injection h2 with h2 h3;subst h1;subst h2
  have hx:RA T e [.c t x] [a]:=hx
  cases hx with
  | c _ _ _=>exact .inl ⟨rfl,_,rfl,rfl⟩
  | r g1 _ _=>exact g1.elim
 case m id =>
  injection hn with hn;injection hn with h1 h2;injection h2 with h2 h3;subst h1;subst h2
  have hx:RA T e [.m id] [a]:=hx
  cases hx with
  | r g1 _ _=>obtain ⟨b,_,_,_,rfl⟩:=g1;exact .inr (.inr (.inl ⟨rfl,_,rfl,rfl⟩))
 case f fn cap =>
  injection hn with hn;injection hn with h1 h2;injection h2 with h2 h3;subst h1;subst h2
  have hx:RA T e [.f fn cap] [a]:=hx
  cases hx with
  | f _ _=>exact .inr (.inr (.inr ⟨rfl,.inr ⟨_,_,_,rfl,rfl⟩⟩))
  | r g1 _ _=>obtain ⟨_,_,_,_,_,_,_,_,_,_,rfl⟩:=A0R g1;exact .inr (.inr (.inr ⟨rfl,.inr ⟨_,_,_,rfl,rfl⟩⟩))
 case o id ver =>
  split at hn<;>try (cases hn;done)
  rename_i el v xs nl sh hof
  split at hn<;>try (cases hn;done)
  rename_i hc
  have:=C3n hc;subst this
  injection hn with hn;injection hn with h1 h2;injection h2 with h2 h3;subst h1;subst h2;subst h3
  obtain ⟨v0,v1,v2,v3,v4,v5,h6⟩:=G3 h ((ho id (by simp)).trans hof)
  rcases h6 with ⟨rfl,g1,_⟩ | ⟨rfl,b,o,cs,ty,fz,pre,ys,post,h1,_⟩
  ·rcases F7 hx v2 with ⟨_,_,rfl⟩ | ⟨b,o,cap,k,k1,_⟩
   ·exact .inr (.inl ⟨rfl,_,_,_,rfl,rfl⟩)
   ·rw [g1] at k1;cases k1
  ·rcases F7 hx v2 with ⟨k1,_,_⟩ | ⟨b,o,cap,k,k1,_,_,_,rfl⟩
   ·rw [h1] at k1;cases k1
   ·exact .inr (.inl ⟨rfl,_,_,_,rfl,rfl⟩)
 case w id ver off n =>
  split at hn<;>try (cases hn;done)
  rename_i el v xs nl sh hof
  split at hn<;>try (cases hn;done)
  rename_i hc
  have:=C3n hc;subst this
  injection hn with hn;injection hn with h1 h2;injection h2 with h2 h3;subst h1;subst h2;subst h3
  obtain ⟨v0,v1,v2,_⟩:=G3 h ((ho id (by simp)).trans hof)
  obtain ⟨b,o,cap,k,_,_,_,_,_,rfl⟩:=N8 hx v2
  exact .inr (.inl ⟨rfl,_,_,_,rfl,rfl⟩)
 case a id t path lo m =>
  injection hn with hn;injection hn with h1 h2;injection h2 with h2 h3;subst h1;subst h2
  obtain ⟨b,off,n,el,k,cap,_,_,_,_,_,_,_,_,rfl⟩:=S3 hx
  exact .inr (.inl ⟨rfl,_,_,_,rfl,rfl⟩)
theorem A6V {t:Nat} {u a:A} {x:V} {v:Value} {te:TE} (hte:T t=some te) (hu:B3 T e u v) (ha:H7 T t u=some a) (hp:A2q a=some x):B3 T e (.v t x) v:=by
 obtain ⟨r1,r2⟩:=A1e hu ha
 have r3:=A3H r1 r2 hp
 rcases Z7 hte (RA.v1 r3) (G9 t x) with ⟨ha',hr⟩ | ⟨ha',w,hw,hr⟩
 ·have hcs:∃ cs,v=.agg cs:=by
   cases u with
   | v t' y =>
    simp only [H7] at ha
    split at ha
    ·rename_i hs
     obtain ⟨p,q⟩:=A9 hs
     exact hu.2.1 ⟨te.k,by rw [← p];exact G2 hte,ha'⟩
    ·cases ha
   | g t' l=>exact hu.2
   | i k n =>
    simp only [H7] at ha
    split at ha
    ·rename_i hf
     rw [B8 hu] at r3
     have:=r3
     simp only [Value.cells] at this
     exfalso
     simp only [B6,C3o] at hf
     obtain ⟨hf,_⟩:=hf
     split at hf
     ·rename_i hk;rw [G2 hte] at hk;injection hk with hk;rw [hk] at ha';cases ha'
     ·cases hf
    ·cases ha
   | b q =>
    simp only [H7] at ha
    split at ha
    ·rename_i hf
     exfalso
     simp only [B6,C3o] at hf
     obtain ⟨hf,_⟩:=hf
     split at hf
     ·rename_i hk;rw [G2 hte] at hk;injection hk with hk;rw [hk] at ha';cases ha'
     ·cases hf
    ·cases ha
   | s q =>
    simp only [H7] at ha
    split at ha
    ·rename_i hf
     exfalso
     simp only [B6,C3o] at hf
     obtain ⟨hf,_⟩:=hf
     split at hf
     ·rename_i hk;rw [G2 hte] at hk;injection hk with hk;rw [hk] at ha';cases ha'
     ·cases hf
    ·cases ha
   | z y =>
    simp only [H7] at ha
    split at ha<;>try (cases ha;done)
    all_goals (rename_i hk;rw [G2 hte] at hk;injection hk with hk;rw [hk] at ha';cases ha')
   | _ =>
    simp only [H7] at ha
    try (split at ha)
    all_goals first | (cases ha;done) | (injection ha with ha;subst ha;simp [A2q] at hp)
  obtain ⟨cs,rfl⟩:=hcs
  simpa [Value.cells] using hr
 ·have ho:one v=true:=by
   cases v<;>first | rfl | skip
   ·rename_i cs
    exfalso
    have hag:te.k.agg=true:=by
     cases u with
     | v t' y =>
      simp only [H7] at ha
      split at ha
      ·rename_i hs
       obtain ⟨p,q⟩:=A9 hs
       obtain ⟨k,k1,k2⟩:=hu.2.2 ⟨_,rfl⟩
       rw [← p,G2 hte] at k1
       injection k1 with k1;rw [k1];exact k2
      ·cases ha
     | g t' l =>
      simp only [H7] at ha
      split at ha
      ·injection ha with ha;subst ha;simp [A2q] at hp
      ·cases ha
     | i k n=>cases B8 hu
     | b q=>cases Y4 hu
     | s q=>obtain ⟨_,h,_⟩:=N5 hu;cases h
     | z y =>
      have hu:RA T e [.z y] [_]:=hu
      have:=hu.one_ (.agg cs) (by simp)
      simp [one] at this
     | _ =>
      simp only [H7] at ha
      try (split at ha)
      all_goals first | (cases ha;done) | (injection ha with ha;subst ha;simp [A2q] at hp)
    rw [hag] at ha';cases ha'
   ·rename_i cs
    have:=r3.one _ (show Value.tuple cs∈_ by simp [Value.cells])
    simp [one] at this
  rw [E6 ho] at hw
  injection hw with hw;subst hw
  exact hr
theorem B9W {t el:Nat} (hu:P.underlying t=some (.pointer el)) (d:Nat) {p q:Option Addr} (h:p=none∨q=none) (w:World):(Op.equalIn (d+1) t (.pointer p) (.pointer q)).run P w=.ok (p.isNone&&q.isNone) w:=by
 cases p<;>cases q<;>simp [Op.equalIn,A2 hu] at h ⊢
theorem B9X {t el:Nat} (hu:P.underlying t=some (.slice el)) (d:Nat) {p q:Option Addr} {n k n' k':Nat} (h:p=none∨q=none) (w:World):(Op.equalIn (d+1) t (.slice p n k) (.slice q n' k')).run P w=.ok (p.isNone&&q.isNone) w:=by
 cases p<;>cases q<;>simp [Op.equalIn,A2 hu] at h ⊢
theorem B9Y {t kt el:Nat} (hu:P.underlying t=some (.map kt el)) (d:Nat) {p q:Option Nat} (h:p=none∨q=none) (w:World):(Op.equalIn (d+1) t (.map p) (.map q)).run P w=.ok (p.isNone&&q.isNone) w:=by
 cases p<;>cases q<;>simp [Op.equalIn,A2 hu] at h ⊢
theorem B9Z {t:Nat} {ps rs:Array TypeId} {vr:Bool} (hu:P.underlying t=some (.func ps rs vr)) (d:Nat) (w:World):(Op.equalIn (d+1) t .nilFunc .nilFunc).run P w=.ok true w:=by
 simp [Op.equalIn,A2 hu]
theorem B90 {t:Nat} {ps rs:Array TypeId} {vr:Bool} (hu:P.underlying t=some (.func ps rs vr)) (d:Nat) (f:Fn) (x y:Array Value) (w:World):(Op.equalIn (d+1) t .nilFunc (.func f x y)).run P w=.ok false w:=by
 simp [Op.equalIn,A2 hu]
theorem B91 {t:Nat} {ps rs:Array TypeId} {vr:Bool} (hu:P.underlying t=some (.func ps rs vr)) (d:Nat) (f:Fn) (x y:Array Value) (w:World):(Op.equalIn (d+1) t (.func f x y) .nilFunc).run P w=.ok false w:=by
 simp [Op.equalIn,A2 hu]
theorem B2d (hT:F4 T P) {of':Nat→Option Ob} {op:BinOp} {xt:TypeId} {x y:Operand} {u v r:A} {a b:Value} {ro:List Nat} (h:A5 T c e of') (hx:B3 T e u a) (hy:B3 T e v b) (hb:A4G T of op xt u v=some (r,ro)) (ho:∀ id∈ro,of' id=of id) :
  B9 P (do pure (.value (← (do eqGuard op xt x y a b;binOp op xt a b)))) e.w (C4 T c e of' ⟨r,[],ro,[]⟩):=by
 unfold A4G at hb
 split at hb
 ·rename_i k a' k' b'
  split at hb<;>try (cases hb;done)
  rename_i hc
  split at hb<;>try (cases hb;done)
  rename_i r' hr
  injection hb with hb;injection hb with h1 h2;subst h1;subst h2
  simp only [Bool.or_eq_true] at hc
  obtain ⟨w,h1,h2⟩:=A5a (P:=P) (T:=T) (t:=xt) (w:=e.w) (L1 hx) (hc.imp (fun q=>q) A0T) hr
  rw [B8 hx,B8 hy]
  refine A1 ?_ (A4 h (h2 e))
  have hg:=A0l (P:=P) (op:=op) (t:=xt) (x:=x) (y:=y) (a:=.int k a') (b:=.int k' b') (w:=e.w) rfl (by simp)
  simp [hg,h1]
 ·rename_i a' b'
  split at hb<;>try (cases hb;done)
  rename_i r' hr
  injection hb with hb;injection hb with h1 h2;subst h1;subst h2
  obtain ⟨s1,rfl,rfl⟩:=N5 hx
  obtain ⟨s2,rfl,rfl⟩:=N5 hy
  obtain ⟨w,h1,h2⟩:=A5b (P:=P) (T:=T) (t:=xt) (w:=e.w) hr
  refine A1 ?_ (A4 h (h2 e))
  have hg:=A0l (P:=P) (op:=op) (t:=xt) (x:=x) (y:=y) (a:=.string s1) (b:=.string s2) (w:=e.w) rfl (by simp)
  simp [hg,h1]
 ·rename_i u v _ _
  split at hb<;>try (cases hb;done)
  rename_i hop
  split at hb
  ·-- with nil
   rename_i hz
   unfold B8u at hb
   split at hb<;>try (cases hb;done)
   rename_i p k1 r1 q k2 s1 hu hv
   split at hb<;>try (cases hb;done)
   rename_i hn
   simp only [C3o] at hn
   have hk12:=C3n hn.1
   have hkt:=C3n hn.2
   subst hk12
   injection hb with hb;injection hb with h1 h2;subst h1;subst h2
   have ha:=A54 h hu (fun id A7=>ho id (by simp [A7])) hx
   have hbb:=A54 h hv (fun id A7=>ho id (by simp [A7])) hy
   have zz:∀ {w:A} {d:Value},isZ w=true→B3 T e w d→A1Y d=true:=fun {w d} hw hd=>by
    cases w<;>simp only [isZ] at hw<;>try (cases hw;done)
    have hd:RA T e [.z _] [d]:=hd
    cases hd with
    | z g _=>exact g
    | r g1 _ _=>exact g1.elim
   have hnil:A1Y a=true∨A1Y b=true:=by
    simp only [Bool.or_eq_true] at hz
    exact hz.imp (fun q=>zz q hx) (fun q=>zz q hy)
   have run:(Op.equal xt a b).run P e.w=.ok (p&&q) e.w∧a≠.nilIface∧one a=true∧(∀ o,o=.eql∨o=.neq→binOp o xt a b=(do let r ← Op.equal xt a b;pure (.bool (if o=.eql then r else !r)))):=by
    unfold A8f at hkt
    split at hkt
    ·rename_i el hk
     obtain ⟨te,h1,h2⟩:=A6 hk
     subst hkt
     obtain ⟨d,d1,d2⟩:=R5 (hT _ _ h1)
     rw [h2] at d2
     cases d<;>simp only [TK.fits] at d2
     rcases ha with ⟨_,p',rfl,rfl⟩ | ⟨q0,_⟩ | ⟨q0,_⟩ | ⟨q0,_⟩<;>try (cases q0;done)
     rcases hbb with ⟨_,q',rfl,rfl⟩ | ⟨q0,_⟩ | ⟨q0,_⟩ | ⟨q0,_⟩<;>try (cases q0;done)
     refine ⟨?_,by simp,rfl,fun o ho=>by rcases ho with rfl | rfl<;>simp [binOp]⟩
     exact B9W d1 9999 (hnil.imp (fun q=>by cases p'<;>first | rfl | (simp [A1Y] at q;done)) (fun q=>by cases q'<;>first | rfl | (simp [A1Y] at q;done))) e.w
    ·rename_i el hk
     obtain ⟨te,h1,h2⟩:=A6 hk
     subst hkt
     have d1:=D4 (hT _ _ h1) h2
     rcases ha with ⟨q0,_⟩ | ⟨_,p',n1,c1,rfl,rfl⟩ | ⟨q0,_⟩ | ⟨q0,_⟩<;>try (cases q0;done)
     rcases hbb with ⟨q0,_⟩ | ⟨_,q',n2,c2,rfl,rfl⟩ | ⟨q0,_⟩ | ⟨q0,_⟩<;>try (cases q0;done)
     refine ⟨?_,by simp,rfl,fun o ho=>by rcases ho with rfl | rfl<;>simp [binOp]⟩
     exact B9X d1 9999 (hnil.imp (fun q=>by cases p'<;>first | rfl | (simp [A1Y] at q;done)) (fun q=>by cases q'<;>first | rfl | (simp [A1Y] at q;done))) e.w
    ·rename_i k el hk
     obtain ⟨te,h1,h2⟩:=A6 hk
     subst hkt
     have d1:=H2 (hT _ _ h1) h2
     rcases ha with ⟨q0,_⟩ | ⟨q0,_⟩ | ⟨_,p',rfl,rfl⟩ | ⟨q0,_⟩<;>try (cases q0;done)
     rcases hbb with ⟨q0,_⟩ | ⟨q0,_⟩ | ⟨_,q',rfl,rfl⟩ | ⟨q0,_⟩<;>try (cases q0;done)
     refine ⟨?_,by simp,rfl,fun o ho=>by rcases ho with rfl | rfl<;>simp [binOp]⟩
     exact B9Y d1 9999 (hnil.imp (fun q=>by cases p'<;>first | rfl | (simp [A1Y] at q;done)) (fun q=>by cases q'<;>first | rfl | (simp [A1Y] at q;done))) e.w
    ·rename_i hk
     obtain ⟨te,h1,h2⟩:=A6 hk
     subst hkt
     obtain ⟨d,d1,d2⟩:=R5 (hT _ _ h1)
     rw [h2] at d2
     cases d<;>simp only [TK.fits] at d2
     rcases ha with ⟨q0,_⟩ | ⟨q0,_⟩ | ⟨q0,_⟩ | ⟨_,⟨rfl,rfl⟩ | ⟨f1,x1,y1,rfl,rfl⟩⟩<;>try (cases q0;done)
     all_goals (rcases hbb with ⟨q0,_⟩ | ⟨q0,_⟩ | ⟨q0,_⟩ | ⟨_,⟨rfl,rfl⟩ | ⟨f2,x2,y2,rfl,rfl⟩⟩<;>try (cases q0;done))
     all_goals first | (refine ⟨?_,by simp,rfl,fun o ho=>by rcases ho with rfl | rfl<;>simp [binOp]⟩;first | exact B9Z d1 9999 e.w | exact B90 d1 9999 _ _ _ e.w | exact B91 d1 9999 _ _ _ e.w) | (simp [A1Y] at hnil;done)
    ·subst hkt
     rcases ha with ⟨q0,_⟩ | ⟨q0,_⟩ | ⟨q0,_⟩ | ⟨q0,_⟩<;>cases q0
   obtain ⟨z1,z2,z3,z4⟩:=run
   have hg:=A0l (P:=P) (op:=op) (t:=xt) (x:=x) (y:=y) (a:=a) (b:=b) (w:=e.w) z3 z2
   refine A1 ?_ (A4 h (A17 _))
   cases op<;>simp only [B9T] at hop<;>try (cases hop;done)
   ·simp [hg,z4 .eql (.inl rfl),z1,A4F]
   ·simp [hg,z4 .neq (.inr rfl),z1,A4F]
  ·unfold B4J at hb
   split at hb<;>try (cases hb;done)
   rename_i hc
   split at hb<;>try (cases hb;done)
   rename_i a1 b1 ha hb1
   split at hb<;>try (cases hb;done)
   rename_i xv yv hxv hyv
   injection hb with hb;injection hb with h1 h2;subst h1;subst h2
   simp only [C3o] at hc
   obtain ⟨hc1,hc2⟩:=hc
   unfold B8v at hc2
   split at hc2<;>try (cases hc2;done)
   rename_i te hte
   have ra:=A6V hte hx ha hxv
   have rb:=A6V hte hy hb1 hyv
   have hrun:=A3h hT e.w EQD xt 9992 xv yv a b hc1 ra rb
   have hrun:(Op.equal xt a b).run P e.w=.ok (P7 xv yv) e.w:=hrun
   simp only [Bool.or_eq_true,C3o] at hc2
   have fin:(eqGuard op xt x y a b).run P e.w=.ok () e.w→(∀ o,o=.eql∨o=.neq→binOp o xt a b=(do let r ← Op.equal xt a b;pure (.bool (if o=.eql then r else !r))))→B9 P (do pure (.value (← (do eqGuard op xt x y a b;binOp op xt a b)))) e.w (C4 T c e of' ⟨.b (A4F op (P7 xv yv)),[],[],[]⟩):=fun hg hb'=>by
    refine A1 ?_ (A4 h (A17 _))
    cases op<;>simp only [B9T] at hop<;>try (cases hop;done)
    ·simp [hg,hb' .eql (.inl rfl),hrun,A4F]
    ·simp [hg,hb' .neq (.inr rfl),hrun,A4F]
   rcases hc2 with ⟨hag,heq⟩ | hbo
   ·obtain ⟨as0,rfl,_⟩:=M2 ra ⟨_,G2 hte,hag⟩
    obtain ⟨bs,rfl,_⟩:=M2 rb ⟨_,G2 hte,hag⟩
    have hg:(eqGuard op xt x y (.agg as0) (.agg bs)).run P e.w=.ok () e.w:=by
     unfold eqGuard
     cases op<;>simp [((hT _ _ hte).eqok heq).1]
    exact fin hg (fun o ho=>by rcases ho with rfl | rfl<;>simp [binOp])
   ·split at hbo<;>try (cases hbo;done)
    rename_i hk
    have hkk:=G2 hte
    rw [hk] at hkk
    obtain ⟨m,rfl,hm⟩:=(C5 ra ⟨_,hkk,rfl⟩).bool_inv hkk
    obtain ⟨n,rfl,hn⟩:=(C5 rb ⟨_,hkk,rfl⟩).bool_inv hkk
    injection hm with hm;injection hn with hn
    subst hm;subst hn
    exact fin (A0l rfl (by simp)) (fun o ho=>by rcases ho with rfl | rfl<;>simp [binOp])
variable {P:Program} {T:TT} {c:F1} {e:A8} {of:Nat→Option Ob}
def A9M (of:Nat→Option Ob) (id ver:Nat):Bool :=
 match of id with
 | some (.row _ v _ _ _)=>Nat.beq v ver
 | _=>false
def M9 (T:TT) (of:Nat→Option Ob) (s f:Nat) (u:A):Option (A×List Nat) :=
 match B2 T s with
 | some (.struct fs)=>match fs[f]? with
  | some ft=>if Nat.blt 0 (B1 T ft) then
    match u with
    | .p id t path=>if same T s t then some (.p id ft (path++[f]),[]) else none
    | .e id ver i t path=>if same T s t&&A9M of id ver then some (.e id ver i ft (path++[f]),[id]) else none
    | .c t y=>if same T s t then some (.c ft (y.nth f),[]) else none
    | _=>none
   else none
  | none=>none
 | _=>none
theorem A1C {t:Nat} {y:V} {x:Value} (h:B3 T e (.c t y) x):∃ a ds,x=.pointer (some a)∧RV T e [t] [y] ds∧Fz e a ds:=by
 have h:RA T e [.c t y] [x]:=h
 cases h with
 | c h1 h2 h3=>exact ⟨_,_,rfl,h1,h2⟩
 | r g1 _ _=>exact g1.elim
theorem Fz.part {a:Addr} {pre d post:List Value} (h:Fz e a (pre++(d++post))):Fz e (a.add pre.length) d:=by
 by_cases hd:d=[]
 ·subst hd;exact ⟨fun q=>absurd rfl q,fun j y hj=>by simp at hj⟩
 obtain ⟨b,o,s⟩:=a
 have hs:s=none:=h.1 (by simp [hd])
 subst hs
 rw [C2]
 refine ⟨fun _=>rfl,fun j y hj=>?_⟩
 have:=h.2 (pre.length+j) y (J7 hj)
 rw [C2] at this ⊢
 rw [Nat.add_assoc]
 exact ⟨this.1,by have:=this.2;simp only [Nat.add_assoc] at this ⊢;exact this⟩
theorem A20 {of':Nat→Option Ob} (h:A5 T c e of') {id ver:Nat} (hc:A9M of id ver=true) (ho:of' id=of id):e.bn id=ver:=by
 unfold A9M at hc
 split at hc
 ·rename_i el v xs nl sh hof
  have:=C3n hc
  subst this
  exact (G3 h (ho.trans hof)).2.2.1
 ·cases hc
theorem A5c (hT:F4 T P) {of':Nat→Option Ob} {s f:Nat} {u r:A} {x:Value} {ro:List Nat} (h:A5 T c e of') (hr:M9 T of s f u=some (r,ro)) (ho:∀ id∈ro,of' id=of id) (hx:B3 T e u x) :
  B9 P (do pure (.value (← Instr.fieldAt s x f))) e.w (C4 T c e of' ⟨r,[],ro,[]⟩):=by
 unfold M9 at hr
 split at hr<;>try (cases hr;done)
 rename_i fs hk
 obtain ⟨te,h1,h2⟩:=A6 hk
 obtain ⟨gs,g1,g2,g3⟩:=J6 (hT _ _ h1) h2
 split at hr<;>try (cases hr;done)
 rename_i ft hft
 obtain ⟨g,hg,rfl⟩:=X7 g2 hft
 have hoff:=g3 _ _ hg
 split at hr<;>try (cases hr;done)
 rename_i hz
 have hz:0 < B1 T g.type:=by simpa using hz
 obtain ⟨tf,htf⟩:∃ tf,T g.type=some tf:=by
  cases hq:T g.type with
  | none=>simp [B1,hq] at hz
  | some tf=>exact ⟨tf,rfl⟩
 have run:∀ a:Addr,(Instr.fieldAt s (.pointer (some a)) f).run P e.w=.ok (.pointer (some (a.add g.offset))) e.w:=fun a=>by
  have:tf.size≠0:=by rw [E4 htf] at hz;omega
  simp [Instr.fieldAt,A2 g1,hg,Instr.sureAddr,fieldPlace,C7 (hT _ _ htf),this]
 have pth:∀ t,same T s t=true→Pth T t [f] g.type g.offset:=fun t hs=>by
  have:=Pth.fld (T:=T) (t:=t) ((A9 hs).1.symm.trans hk) hft .nil
  rw [Nat.add_zero,← hoff] at this
  exact this
 split at hr
 ·rename_i id t path
  split at hr<;>try (cases hr;done)
  rename_i hs
  injection hr with hr;injection hr with h1 h2;subst h1;subst h2
  obtain ⟨b,off,u1,u2,u3,u4,rfl⟩:=F6 hx
  refine A1 (run _) (A4 h ?_)
  rw [C2]
  exact A2r u1 u2 u3 (u4.append (pth t hs))
 ·rename_i id ver i t path
  split at hr<;>try (cases hr;done)
  rename_i hs
  injection hr with hr;injection hr with h1 h2;subst h1;subst h2
  simp only [C3o] at hs
  have hv:=A20 h hs.2 (ho _ (by simp))
  have hx':RA T e [.e id ver i t path] [x]:=hx
  cases hx' with
  | r k1 k2 _ =>
   obtain ⟨_,u1,u2,u3,u4⟩:=k1
   obtain ⟨b,o,off,q1,q2,q3,rfl⟩:=u4 hv
   refine A1 (run _) (A4 h ?_)
   rw [C2]
   exact RA.r ⟨rfl,u1,u2,u3,fun _=>⟨b,o,_,q1,q2.append (pth t hs.1),q3,by rw [Nat.add_assoc (o+_)]⟩⟩ rfl .nil
 ·rename_i t y
  split at hr<;>try (cases hr;done)
  rename_i hs
  injection hr with hr;injection hr with h1 h2;subst h1;subst h2
  obtain ⟨a,ds,rfl,q1,q2⟩:=A1C hx
  refine A1 (run _) (A4 h ?_)
  obtain ⟨ys,rfl,hy⟩:=q1.struct_inv ((A9 hs).1.symm.trans hk)
  obtain ⟨z,pre,d,post,k1,rfl,k2,k3,k4⟩:=hy.at hft
  rw [A1Z k1,hoff,← k2]
  exact RA.c k4 q2.part .nil
 ·cases hr
def J8 (T:TT) (of:Nat→Option Ob) (t:Nat) (i:Int) (u:A):Option (A×List Nat) :=
 match B2 T t with
 | some (.arr n el)=>if J1 0 i&&E8 i n&&(T el).isSome then
   match u with
   | .p id t' path=>if same T t t' then some (.p id el (path++[i.toNat]),[]) else none
   | .e id ver j t' path=>if same T t t'&&A9M of id ver then some (.e id ver j el (path++[i.toNat]),[id]) else none
   | .c t' y=>if same T t t' then some (.c el (y.nth i.toNat),[]) else none
   | _=>none
  else none
 | some (.slice el)=>if J1 0 i&&(T el).isSome then
   match u with
   | .o id ver=>match of id with
    | some (.row el' v xs _ _)=>if Nat.beq el el'&&Nat.beq v ver&&E8 i xs.length then some (.e id ver i.toNat el [],[id]) else none
    | _=>none
   | .w id ver off n=>match of id with
    | some (.row el' v xs _ _)=>if Nat.beq el el'&&Nat.beq v ver&&E8 i n then some (.e id ver (off+i.toNat) el [],[id]) else none
    | _=>none
   | .v t' y=>if same T t t'&&E8 i y.els.length then some (.c el (y.nth i.toNat),[]) else none
   | .q t' y=>if same T t t'&&E8 i y.els.length then some (.c el (y.nth i.toNat),[]) else none
   | .a id t1 path l0 m=>match B2 T t1 with
    | some (.arr _ el')=>if Nat.beq el el'&&E8 i m then some (.p id el (path++[l0+i.toNat]),[]) else none
    | _=>none
   | _=>none
  else none
 | _=>none
theorem K9 {a b:Int}:J1 a b=true↔a≤b:=by simp [J1]
theorem H0 {a b:Int}:E8 a b=true↔a < b:=by simp [E8]
theorem A6W {t n el i:Nat} (hk:B2 T t=some (.arr n el)) (hi:i < n):Pth T t [i] el (i * B1 T el):=by
 have:=Pth.idx (T:=T) hk hi .nil
 rwa [Nat.add_zero] at this
theorem B0L {el n:Nat} {ys:List V} {ds:List Value} {a:Addr} (h:RV T e (List.replicate n el) ys ds) (hf:Fz e a ds) {i:Nat} (hi:i < n):RA T e [.c el ((V.l ys).nth i)] [.pointer (some (a.add (i * B1 T el)))]:=by
 have hg:(List.replicate n el)[i]? = some el:=by rw [List.getElem?_replicate,if_pos hi]
 obtain ⟨z,pre,d,post,k1,rfl,k2,k3,k4⟩:=h.at hg
 rw [List.take_replicate,B4,Nat.min_eq_left (by omega)] at k2
 rw [A1Z k1,← k2]
 exact RA.c k4 hf.part .nil
theorem A4H {t el:Nat} {y:V} {v:Value} (hr:RV T e [t] [y] [v]) (hk:B2 T t=some (.slice el)) {i:Nat} (hi:i < y.els.length) :
  ∃ a n cap,v=.slice (some a) n cap∧n=y.els.length∧RA T e [.c el (y.nth i)] [.pointer (some (a.add (i * B1 T el)))]:=by
 rcases hr.slice_inv hk with ⟨rfl,hv⟩ | ⟨ys,ds,a,cap,rfl,hv,h1,h2,h3⟩
 ·simp [V.els] at hi
 ·injection hv with hv;subst hv
  exact ⟨a,_,cap,rfl,rfl,B0L h3 h2 hi⟩
theorem A5d (hT:F4 T P) {of':Nat→Option Ob} {t:Nat} {k:IntKind} {i:Int} {u r:A} {x:Value} {ro:List Nat} (h:A5 T c e of') (hr:J8 T of t i u=some (r,ro)) (ho:∀ id∈ro,of' id=of id) (hx:B3 T e u x) :
  B9 P (do pure (.value (← Instr.indexAt t x (.int k i)))) e.w (C4 T c e of' ⟨r,[],ro,[]⟩):=by
 unfold J8 at hr
 split at hr
 ·rename_i n el hk
  obtain ⟨te,h1,h2⟩:=A6 hk
  have hu:=L9 (hT _ _ h1) h2
  split at hr<;>try (cases hr;done)
  rename_i hc
  simp only [C3o,K9,H0] at hc
  obtain ⟨⟨h0,hn⟩,hel⟩:=hc
  obtain ⟨tel,htel⟩:=C3s.1 hel
  have run:∀ a:Addr,(Instr.indexAt t (.pointer (some a)) (.int k i)).run P e.w=.ok (.pointer (some (a.add (i.toNat * B1 T el)))) e.w:=fun a=>by
   rw [E4 htel]
   simp [Instr.indexAt,asIntOf,A2 hu,C7 (hT _ _ htel),h0,hn,Instr.sureAddr]
  split at hr
  ·rename_i id t' path
   split at hr<;>try (cases hr;done)
   rename_i hs
   injection hr with hr;injection hr with e1 e2;subst e1;subst e2
   obtain ⟨b,off,u1,u2,u3,u4,rfl⟩:=F6 hx
   refine A1 (run _) (A4 h ?_)
   rw [C2]
   exact A2r u1 u2 u3 (u4.append (A6W ((A9 hs).1.symm.trans hk) (by omega)))
  ·rename_i id ver j t' path
   split at hr<;>try (cases hr;done)
   rename_i hs
   injection hr with hr;injection hr with e1 e2;subst e1;subst e2
   simp only [C3o] at hs
   have hv:=A20 h hs.2 (ho _ (by simp))
   have hx':RA T e [.e id ver j t' path] [x]:=hx
   cases hx' with
   | r k1 k2 _ =>
    obtain ⟨_,u1,u2,u3,u4⟩:=k1
    obtain ⟨b,o,off,q1,q2,q3,rfl⟩:=u4 hv
    refine A1 (run _) (A4 h ?_)
    rw [C2]
    exact RA.r ⟨rfl,u1,u2,u3,fun _=>⟨b,o,_,q1,q2.append (A6W ((A9 hs.1).1.symm.trans hk) (by omega)),q3,by rw [Nat.add_assoc (o+_)]⟩⟩ rfl .nil
  ·rename_i t' y
   split at hr<;>try (cases hr;done)
   rename_i hs
   injection hr with hr;injection hr with e1 e2;subst e1;subst e2
   obtain ⟨a,ds,rfl,q1,q2⟩:=A1C hx
   refine A1 (run _) (A4 h ?_)
   obtain ⟨ys,rfl,hl,hy⟩:=q1.arr_inv ((A9 hs).1.symm.trans hk)
   exact B0L hy q2 (by omega)
  ·cases hr
 ·rename_i el hk
  obtain ⟨te,h1,h2⟩:=A6 hk
  have hu:=D4 (hT _ _ h1) h2
  split at hr<;>try (cases hr;done)
  rename_i hc
  simp only [C3o,K9] at hc
  obtain ⟨h0,hel⟩:=hc
  obtain ⟨tel,htel⟩:=C3s.1 hel
  have run:∀ (a:Addr) (n cap:Nat),i < n→(Instr.indexAt t (.slice (some a) n cap) (.int k i)).run P e.w=.ok (.pointer (some (a.add (i.toNat * B1 T el)))) e.w:=fun a n cap hn=>by
   rw [E4 htel]
   simp [Instr.indexAt,asIntOf,A2 hu,C7 (hT _ _ htel),h0,hn]
  split at hr
  ·rename_i id ver
   split at hr<;>try (cases hr;done)
   rename_i el' v xs nl sh hof
   split at hr<;>try (cases hr;done)
   rename_i hc
   simp only [C3o,H0] at hc
   have:=C3n hc.1.1;subst this
   have:=C3n hc.1.2;subst this
   injection hr with hr;injection hr with e1 e2;subst e1;subst e2
   obtain ⟨v0,v1,v2,v3,v4,v5,h6⟩:=G3 h ((ho id (by simp)).trans hof)
   rcases F7 hx v2 with ⟨k1,k2,_⟩ | ⟨b,o,cap,k',k1,k2,k3,k4,rfl⟩
   ·omega
   ·refine A1 (run _ _ _ (by omega)) (A4 h ?_)
    rw [C2,k4 (by omega),← v3]
    exact RA.r ⟨rfl,v0,by omega,v1,fun _=>⟨b,o,0,k1,by rw [v3];exact .nil,by omega,by rw [Nat.add_zero]⟩⟩ rfl .nil
  ·rename_i id ver off n
   split at hr<;>try (cases hr;done)
   rename_i el' v xs nl sh hof
   split at hr<;>try (cases hr;done)
   rename_i hc
   simp only [C3o,H0] at hc
   have:=C3n hc.1.1;subst this
   have:=C3n hc.1.2;subst this
   injection hr with hr;injection hr with e1 e2;subst e1;subst e2
   obtain ⟨v0,v1,v2,v3,v4,v5,h6⟩:=G3 h ((ho id (by simp)).trans hof)
   obtain ⟨b,o,cap,k',k1,k2,k3,k4,k5,rfl⟩:=N8 hx v2
   refine A1 (run _ _ _ (by omega)) (A4 h ?_)
   rw [C2,k5 (by omega),← v3]
   exact RA.r ⟨rfl,v0,by omega,v1,fun _=>⟨b,o,0,k1,by rw [v3];exact .nil,by omega,by rw [Nat.add_zero,Nat.add_mul,Nat.add_assoc]⟩⟩ rfl .nil
  ·rename_i t' y
   split at hr<;>try (cases hr;done)
   rename_i hs
   simp only [C3o,H0] at hs
   injection hr with hr;injection hr with e1 e2;subst e1;subst e2
   have hk':=(A9 hs.1).1.symm.trans hk
   obtain ⟨a,n,cap,rfl,rfl,hra⟩:=A4H (C5 hx ⟨_,hk',rfl⟩) hk' (i:=i.toNat) (by omega)
   exact A1 (run _ _ _ hs.2) (A4 (v:=.c el (y.nth i.toNat)) h hra)
  ·rename_i t' y
   split at hr<;>try (cases hr;done)
   rename_i hs
   simp only [C3o,H0] at hs
   injection hr with hr;injection hr with e1 e2;subst e1;subst e2
   have hk':=(A9 hs.1).1.symm.trans hk
   have hx':RA T e [.q t' y] [x]:=hx
   cases hx' with
   | r g1 _ _=>exact g1.elim
   | q g1 g2 =>
    obtain ⟨a,n,cap,hv,hn,hra⟩:=A4H g1 hk' (i:=i.toNat) (by omega)
    rw [hv]
    exact A1 (run _ _ _ (by rw [hn];exact hs.2)) (A4 (v:=.c el (y.nth i.toNat)) h hra)
  ·rename_i id t1 path l0 m
   split at hr<;>try (cases hr;done)
   rename_i na el' hk1
   split at hr<;>try (cases hr;done)
   rename_i hc
   simp only [C3o,H0] at hc
   have:=C3n hc.1;subst this
   injection hr with hr;injection hr with e1 e2;subst e1;subst e2
   obtain ⟨b,off,n,el',k',cap,w0,w1,w2,w3,w4,w5,w6,w7,rfl⟩:=S3 hx
   rw [hk1] at w4;cases w4
   refine A1 (run _ _ _ hc.2) (A4 h ?_)
   rw [C2,w7 (by omega)]
   have:=A2r w0 w1 w2 (w3.append (A6W hk1 (i:=l0+i.toNat) (by omega)))
   rwa [Nat.add_mul,← Nat.add_assoc] at this
  ·cases hr
 ·cases hr
variable {P:Program} {T:TT} {c:F1} {e:A8} {of:Nat→Option Ob}
def Q5 (T:TT) (of:Nat→Option Ob) (t:Nat) (u:A):Option (A×List Nat) :=
 if (T t).isSome then
  match u with
  | .p id _ path=>match of id with
   | some (.box _ a _)=>match atA T a path with
    | some a1=>match H7 T t a1 with
     | some a2=>some (norm T a2,[id])
     | none=>none
    | none=>none
   | _=>none
  | .e id ver i _ path=>match of id with
   | some (.row el v xs _ _)=>if Nat.beq v ver then (match elA T el xs i path with
    | some a1=>match H7 T t a1 with
     | some a2=>some (norm T a2,[id])
     | none=>none
    | none=>none) else none
   | _=>none
  | .c t' y=>if same T t t' then some (mkA T t y,[]) else none
  | _=>none
 else none
theorem W5 {a:A} {x:Value} {t:Nat} {te:TE} (hte:T t=some te) (h:B3 T e a x) (hf:B6 T t a=true):B3 T e (norm T a) x:=by
 cases a with
 | v t' y =>
  have hq:t=t':=by simp only [B6] at hf;exact C3n hf
  subst hq
  have h1:=A2V h.1
  unfold norm
  have h2:=A1w h.1
  rcases Z7 hte h1 h2 with ⟨ha,hr⟩ | ⟨ha,w,hw,hr⟩
  ·obtain ⟨cs,rfl⟩:=h.2.1 ⟨te.k,G2 hte,ha⟩
   simpa [Value.cells] using hr
  ·have hs:=C5 h ⟨te.k,G2 hte,ha⟩
   have ho:=hs.one x (by simp)
   rw [E6 ho] at hw
   injection hw with hw;subst hw;exact hr
 | _=>exact h
theorem A55 {t:Nat} {te:TE} (hte:T t=some te) {a:A} (hf:B6 T t a=true) {wo:List (Nat×Ob)} {ro nw:List Nat} {x:Value} {w':World} (h:C4 T c e of ⟨a,wo,ro,nw⟩ x w'):C4 T c e of ⟨norm T a,wo,ro,nw⟩ x w':=by
 obtain ⟨e',p1,p2,p3,p4,p5⟩:=h
 exact ⟨e',p1,p2,p3,p4,W5 hte p5 hf⟩
theorem C8 {s:Sem Next} {w:World} {R R':Value→World→Prop} (h:B9 P s w R) (hr:∀ x w',R x w'→R' x w'):B9 P s w R':=by
 rcases h with ⟨x,w',h1,h2⟩ | ⟨w',h1,h2⟩ | ⟨f,args,w1,h1,h2⟩ | ⟨l,f,tmps,asg,body,w1,h1,h2⟩
 ·exact .inl ⟨x,w',h1,hr _ _ h2⟩
 ·exact .inr (.inl ⟨w',h1,hr _ _ h2⟩)
 ·exact .inr (.inr (.inl ⟨f,args,w1,h1,h2.mono fun en w' ⟨x,hx,hl⟩=>⟨x,hx,hr _ _ hl⟩⟩))
 ·exact .inr (.inr (.inr ⟨l,f,tmps,asg,body,w1,h1,h2.mono fun en w' ⟨x,hx,hl⟩=>⟨x,hx,hr _ _ hl⟩⟩))
theorem A3K {t:Nat} {a b:A} (h:H7 T t a=some b):B6 T t b=true:=by
 cases a with
 | v t' y=>simp only [H7] at h;split at h<;>first | (injection h with h;subst h;exact G9 _ _) | cases h
 | g t' l=>simp only [H7] at h;split at h<;>first | (injection h with h;subst h;simp [B6]) | cases h
 | z v =>
  simp only [H7] at h
  split at h<;>try (cases h;done)
  all_goals (split at h<;>first | (injection h with h;subst h;exact G9 _ _) | cases h)
 | t l=>simp [H7] at h
 | x=>simp [H7] at h
 | _=>simp only [H7] at h;split at h<;>first | (rename_i hs;injection h with h;subst h;exact hs) | cases h
theorem B4L (hT:F4 T P) {of':Nat→Option Ob} {t:Nat} {u r:A} {x:Value} {ro:List Nat} (h:A5 T c e of') (hr:Q5 T of t u=some (r,ro)) (ho:∀ id∈ro,of' id=of id) (hx:B3 T e u x) :
  B9 P (do pure (.value (← Instr.loadAt t x))) e.w (C4 T c e of' ⟨r,[],ro,[]⟩):=by
 unfold Q5 at hr
 split at hr<;>try (cases hr;done)
 rename_i ht
 obtain ⟨te,hte⟩:=C3s.1 ht
 split at hr
 ·rename_i id t' path
  split at hr<;>try (cases hr;done)
  rename_i t0 a sh hof
  split at hr<;>try (cases hr;done)
  rename_i a1 h1
  split at hr<;>try (cases hr;done)
  rename_i a2 h2
  injection hr with hr;injection hr with e1 e2;subst e1;subst e2
  exact C8 (A9F h hT hte ((ho id (by simp)).trans hof) h1 h2 hx) (fun x w'=>A55 hte (A3K h2))
 ·rename_i id ver i t' path
  split at hr<;>try (cases hr;done)
  rename_i el v xs nl sh hof
  split at hr<;>try (cases hr;done)
  rename_i hc
  have:=C3n hc;subst this
  split at hr<;>try (cases hr;done)
  rename_i a1 h1
  split at hr<;>try (cases hr;done)
  rename_i a2 h2
  injection hr with hr;injection hr with e1 e2;subst e1;subst e2
  exact C8 (A9G h hT hte ((ho id (by simp)).trans hof) h1 h2 hx) (fun x w'=>A55 hte (A3K h2))
 ·rename_i t' y
  split at hr<;>try (cases hr;done)
  rename_i hs
  injection hr with hr;injection hr with e1 e2;subst e1;subst e2
  obtain ⟨a,ds,rfl,q1,q2⟩:=A1C hx
  obtain ⟨p,q⟩:=A9 hs
  have q1':=q1.cast p q
  exact Z9 h hT hte (A2V q1') (A1w q1') (fun j z hj=>(q2.2 j z hj).1)
 ·cases hr
def A1k (T:TT) (of:Nat→Option Ob) (t:Nat) (u v:A):Option (List (Nat×Ob)×List Nat) :=
 if (T t).isSome then
  match u with
  | .p id t' path=>match of id with
   | some (.box t0 a false)=>if same T t t' then (match H7 T t' v with
    | some v'=>match A0S T a path v' with
     | some a'=>some ([(id,.box t0 a' false)],[id])
     | none=>none
    | none=>none) else none
   | _=>none
  | .e id ver i t' path=>match J0 T DEP of t' v with
   | some (xv,wo)=>match put of wo id with
    | some (.row el w xs nl false)=>if Nat.beq w ver&&same T t t' then (match A0S T (.v el (xs.getD i .n)) path (.v t' xv) with
     | some (.v t2 y)=>if Nat.beq t2 el then some (wo++[(id,.row el ver (xs.set i y) nl false)],id::U1 wo) else none
     | _=>none) else none
    | _=>none
   | none=>none
  | _=>none
 else none
theorem A56 (hT:F4 T P) {of':Nat→Option Ob} {t:Nat} {u v:A} {x y:Value} {wo:List (Nat×Ob)} {ro:List Nat} (h:A5 T c e of') (hr:A1k T of t u v=some (wo,ro)) (ho:∀ id∈ro,of' id=of id) (hx:B3 T e u x) (hy:B3 T e v y) :
  B9 P (do Instr.storeAt t x y;pure .skip) e.w (C4 T c e of' ⟨.x,wo,ro,[]⟩):=by
 unfold A1k at hr
 split at hr<;>try (cases hr;done)
 rename_i ht
 obtain ⟨te,hte⟩:=C3s.1 ht
 split at hr
 ·rename_i id t' path
  split at hr<;>try (cases hr;done)
  rename_i t0 a hof
  split at hr<;>try (cases hr;done)
  rename_i hs
  split at hr<;>try (cases hr;done)
  rename_i v' hv'
  split at hr<;>try (cases hr;done)
  rename_i a' ha'
  injection hr with hr;injection hr with e1 e2;subst e1;subst e2
  exact A79 h hT hte hs ((ho id (by simp)).trans hof) hv' ha' hx hy
 ·rename_i id ver i t' path
  split at hr<;>try (cases hr;done)
  rename_i xv wo1 htoV
  split at hr<;>try (cases hr;done)
  rename_i el w xs nl hof
  split at hr<;>try (cases hr;done)
  rename_i hc
  simp only [C3o] at hc
  have:=C3n hc.1;subst this
  split at hr<;>try (cases hr;done)
  rename_i t2 y' hput
  split at hr<;>try (cases hr;done)
  rename_i ht2
  have:=C3n ht2;subst this
  injection hr with hr;injection hr with e1 e2;subst e1;subst e2
  have htoV':=(Y5 (T:=T) DEP).1 of of' _ _ _ _ htoV (fun id A7=>ho id (by simp [A7]))
  refine A1R (out:=⟨.x,[(id,.row t2 w (xs.set i y') nl false)],[id],[]⟩) (Y8 h htoV' hy) (fun e1 hw h1 hle hU hq=>?_)
  have hof':put of' wo1 id=some (.row t2 w xs nl false):=by rw [A6g wo1 of' of id (ho id (by simp))];exact hof
  exact A8a h1 hT hte hc.2 hof' (RA.v1 hq) (G9 _ _) hput (hx.mono hle)
 ·cases hr
def A6X (T:TT) (s f:Nat) (u:A):Option A :=
 match B2 T s with
 | some (.struct fs)=>match fs[f]? with
  | some ft=>if (T ft).isSome then
    match u with
    | .v t y=>if same T s t then some (mkA T ft (y.nth f)) else none
    | .g t l=>if same T s t then (match l[f]? with
     | some a=>match H7 T ft a with
      | some b=>some (norm T b)
      | none=>none
     | none=>none) else none
    | _=>none
   else none
  | none=>none
 | _=>none
theorem A1D {t:Nat} {te:TE} (hT:F4 T P) (ht:T t=some te) {xs:Array Value} {pre d post:List Value} {off:Nat} {a:A} (hx:xs.toList=pre++(d++post)) (hp:pre.length=off) (hd:RA T e [a] d) (hf:B6 T t a=true) (w:World) :
  ∃ v,(part t xs off).run P w=.ok v w∧B3 T e a v:=by
 have hl:=hd.width hf
 rw [E4 ht] at hl
 subst hp
 rcases Z7 ht hd hf with ⟨ha,hr⟩ | ⟨ha,v,rfl,hr⟩
 ·refine ⟨.agg (xs.extract pre.length (pre.length+te.size)),by simp [part,A2p (hT _ _ ht),ha,C7 (hT _ _ ht)],?_⟩
  have:xs.extract pre.length (pre.length+te.size)=d.toArray:=by
   apply Array.ext'
   rw [Array.toList_extract,hx,List.extract_eq_take_drop,List.drop_left,← hl]
   simp
  rw [this];exact hr
 ·have hv:xs[pre.length]? = some v:=by rw [← Array.getElem?_toList,hx];simp
  exact ⟨v,by simp [part,A2p (hT _ _ ht),ha,hv],hr⟩
theorem B2e (hT:F4 T P) {s f:Nat} {u r:A} {x:Value} (h:A5 T c e of) (hr:A6X T s f u=some r) (hx:B3 T e u x) {ro:List Nat} :
  B9 P (do pure (.value (← Instr.field s x f))) e.w (C4 T c e of ⟨r,[],ro,[]⟩):=by
 unfold A6X at hr
 split at hr<;>try (cases hr;done)
 rename_i fs hk
 obtain ⟨te,h1,h2⟩:=A6 hk
 obtain ⟨gs,g1,g2,g3⟩:=J6 (hT _ _ h1) h2
 split at hr<;>try (cases hr;done)
 rename_i ft hft
 obtain ⟨g,hg,rfl⟩:=X7 g2 hft
 have hoff:=g3 _ _ hg
 split at hr<;>try (cases hr;done)
 rename_i hsome
 obtain ⟨tf,htf⟩:=C3s.1 hsome
 split at hr
 ·rename_i t y
  split at hr<;>try (cases hr;done)
  rename_i hs
  injection hr with hr;subst hr
  have hk':=(A9 hs).1.symm.trans hk
  obtain ⟨cs,rfl,hv⟩:=M2 hx ⟨_,hk',rfl⟩
  obtain ⟨ys,rfl,hy⟩:=hv.struct_inv hk'
  obtain ⟨z,pre,d,post,k1,k2,k3,k4,k5⟩:=hy.at hft
  rw [A1Z k1]
  obtain ⟨v,r1,r2⟩:=A1D hT htf k2 (k3.trans hoff.symm) (A2V k5) (A1w k5) e.w
  refine A1 (x:=v) (w':=e.w) ?_ (A4 h r2)
  simp [Instr.field,A2 g1,hg,asAgg,r1]
 ·rename_i t l
  split at hr<;>try (cases hr;done)
  rename_i hs
  split at hr<;>try (cases hr;done)
  rename_i a ha
  split at hr<;>try (cases hr;done)
  rename_i b hb
  injection hr with hr;subst hr
  obtain ⟨h3,cs,rfl⟩:=hx
  have h3:RA T e [.g t l] cs.toList:=h3
  have hct:chT T t=some fs:=by rw [← Z6 (A9 hs).1];simp [chT,hk]
  generalize hcs:cs.toList=dd at h3
  cases h3 with
  | g g4 g5 g6 g7 g8 =>
   cases g8
   rw [hct] at g4;cases g4
   obtain ⟨a',pre,d,post,k1,k2,k3,k4,k5,k6⟩:=g7.at g5 hft
   rw [ha] at k1;cases k1
   obtain ⟨q1,q2⟩:=A2X k5 hb
   rw [List.append_nil,k2] at hcs
   obtain ⟨v,r1,r2⟩:=A1D hT htf hcs (k3.trans hoff.symm) q1 q2 e.w
   refine A1 (x:=v) (w':=e.w) ?_ (A4 h (W5 htf r2 q2))
   simp [Instr.field,A2 g1,hg,asAgg,r1]
  | r g1 _ _=>exact g1.elim
 ·cases hr
def B92 (T:TT) (t:Nat) (i:Int) (t':Nat) (l:List A):Option A :=
 match B2 T t with
 | some (.arr n el)=>if same T t t'&&J1 0 i&&E8 i n&&(T el).isSome then (match l[i.toNat]? with
  | some a=>match H7 T el a with
   | some b=>some (norm T b)
   | none=>none
  | none=>none) else none
 | _=>none
def A21 (T:TT) (t:Nat) (i:Int) (u:A):Option A :=
 match u with
 | .s l=>match B2 T t with
  | some .str=>if J1 0 i&&E8 i l.length then some (.i .u8 (l.getD i.toNat .n).int) else none
  | _=>none
 | .v t' y=>match B2 T t with
  | some (.arr n el)=>if same T t t'&&J1 0 i&&E8 i n&&(T el).isSome then some (mkA T el (y.nth i.toNat)) else none
  | _=>none
 | .g t' l=>B92 T t i t' l
 | _=>none
theorem B2f (hT:F4 T P) {t:Nat} {k:IntKind} {i:Int} {u r:A} {x:Value} (h:A5 T c e of) (hr:A21 T t i u=some r) (hx:B3 T e u x) {ro:List Nat} :
  B9 P (do pure (.value (← Instr.index t x (.int k i)))) e.w (C4 T c e of ⟨r,[],ro,[]⟩):=by
 unfold A21 at hr
 split at hr
 ·rename_i l
  split at hr<;>try (cases hr;done)
  rename_i hk
  obtain ⟨te,h1,h2⟩:=A6 hk
  have hu:=L8 (hT _ _ h1) h2
  split at hr<;>try (cases hr;done)
  rename_i hc
  simp only [C3o,K9,H0] at hc
  injection hr with hr;subst hr
  obtain ⟨s,rfl,rfl⟩:=N5 hx
  rw [A0d] at hc
  have hlt:i.toNat < s.data.size:=by have:s.size=s.data.size:=rfl;omega
  have e1:s[i.toNat]? = some s.data[i.toNat]:=by
   have hi2:i.toNat < s.size:=hlt
   rw [getElem?_pos s i.toNat hi2]
   rfl
  have e2:(W9 s).getD i.toNat .n=V.i (s.data[i.toNat].toNat:Int):=by
   unfold W9
   simp [List.getD,Array.getElem?_eq_getElem hlt]
  rw [e2]
  have hb:=s.data[i.toNat].toNat_lt
  refine A1 (x:=.int .u8 s.data[i.toNat].toNat) (w':=e.w) ?_ (A4 h (G6 (by constructor<;>simp only [lo,hi,V.int]<;>omega)))
  simp [Instr.index,asIntOf,A2 hu,hc.1,e1]
 ·rename_i t' y
  split at hr<;>try (cases hr;done)
  rename_i n el hk
  obtain ⟨te,h1,h2⟩:=A6 hk
  have hu:=L9 (hT _ _ h1) h2
  split at hr<;>try (cases hr;done)
  rename_i hc
  simp only [C3o,K9,H0] at hc
  obtain ⟨⟨⟨hs,h0⟩,hn⟩,hel⟩:=hc
  obtain ⟨tel,htel⟩:=C3s.1 hel
  injection hr with hr;subst hr
  have hk':=(A9 hs).1.symm.trans hk
  obtain ⟨cs,rfl,hv⟩:=M2 hx ⟨_,hk',rfl⟩
  obtain ⟨ys,rfl,hl,hy⟩:=hv.arr_inv hk'
  have hg:(List.replicate n el)[i.toNat]? = some el:=by rw [List.getElem?_replicate,if_pos (by omega)]
  obtain ⟨z,pre,d,post,k1,k2,k3,k4,k5⟩:=hy.at hg
  rw [List.take_replicate,B4,Nat.min_eq_left (by omega),E4 htel] at k3
  rw [A1Z k1]
  obtain ⟨v,r1,r2⟩:=A1D hT htel k2 k3 (A2V k5) (A1w k5) e.w
  refine A1 (x:=v) (w':=e.w) ?_ (A4 h r2)
  simp [Instr.index,asIntOf,A2 hu,h0,hn,C7 (hT _ _ htel),r1]
 ·rename_i t' l
  unfold B92 at hr
  split at hr<;>try (cases hr;done)
  rename_i n el hk
  obtain ⟨te,h1,h2⟩:=A6 hk
  have hu:=L9 (hT _ _ h1) h2
  split at hr<;>try (cases hr;done)
  rename_i hc
  simp only [C3o,K9,H0] at hc
  obtain ⟨⟨⟨hs,h0⟩,hn⟩,hel⟩:=hc
  obtain ⟨tel,htel⟩:=C3s.1 hel
  split at hr<;>try (cases hr;done)
  rename_i a ha
  split at hr<;>try (cases hr;done)
  rename_i b hb
  injection hr with hr;subst hr
  obtain ⟨h3,cs,rfl⟩:=hx
  have h3:RA T e [.g t' l] cs.toList:=h3
  have hct:chT T t'=some (List.replicate n el):=by rw [← Z6 (A9 hs).1];simp [chT,hk]
  have hg:(List.replicate n el)[i.toNat]? = some el:=by rw [List.getElem?_replicate,if_pos (by omega)]
  generalize hcs:cs.toList=dd at h3
  cases h3 with
  | g g4 g5 g6 g7 g8 =>
   cases g8
   rw [hct] at g4;cases g4
   obtain ⟨a',pre,d,post,k1,k2,k3,k4,k5,k6⟩:=g7.at g5 hg
   rw [ha] at k1;cases k1
   obtain ⟨q1,q2⟩:=A2X k5 hb
   rw [List.append_nil,k2] at hcs
   rw [List.take_replicate,B4,Nat.min_eq_left (by omega),E4 htel] at k3
   obtain ⟨v,r1,r2⟩:=A1D hT htel hcs k3 q1 q2 e.w
   refine A1 (x:=v) (w':=e.w) ?_ (A4 h (W5 htel r2 q2))
   simp [Instr.index,asIntOf,A2 hu,h0,hn,C7 (hT _ _ htel),r1]
  | r g1 _ _=>exact g1.elim
 ·cases hr
variable {P:Program} {T:TT} {c:F1} {e:A8} {of:Nat→Option Ob}
theorem A8g {el:Nat} (hk:B2 T el=some (.int .u8)):∀ {n:Nat} {xs:List V} {us:List Value},RV T e (List.replicate n el) xs us→us=(xs.map V.int).map (Value.int .u8)∧∀ x∈xs,∃ m:Int,x=.i m∧inR .u8 m:=by
 intro n
 induction n with
 | zero =>
  intro xs us h
  have h1:=h.length.1
  have h2:=h.length.2
  simp only [List.replicate_zero,szs,List.length_eq_zero_iff,List.length_nil] at h1 h2
  subst h1;subst h2
  exact ⟨rfl,fun x hx=>by cases hx⟩
 | succ n ih =>
  intro xs us h
  rw [List.replicate_succ] at h
  cases xs with
  | nil=>have:=h.length.2;simp at this
  | cons x xs =>
   obtain ⟨d,r,rfl,h1,h2⟩:=h.cons_inv
   obtain ⟨m,rfl,rfl,hr⟩:=h1.int_inv hk
   obtain ⟨q1,q2⟩:=ih h2
   refine ⟨by rw [q1];rfl,fun y hy=>?_⟩
   rcases List.mem_cons.1 hy with rfl | hy
   ·exact ⟨m,rfl,hr⟩
   ·exact q2 y hy
theorem A9N:∀ (ns:List Int) (s:ByteArray),(ns.foldl (fun (r:ByteArray) (n:Int)=>r.push (UInt8.ofNat n.toNat)) s).data.toList=s.data.toList++ns.map fun n=>UInt8.ofNat n.toNat:=by
 intro ns
 induction ns with
 | nil=>intro s;simp
 | cons n ns ih=>intro s;rw [List.foldl_cons,ih];simp
theorem B4M {xs:List V} (h:∀ x∈xs,∃ m:Int,x=.i m∧inR .u8 m):W9 ((xs.map V.int).foldl (fun (r:ByteArray) (n:Int)=>r.push (UInt8.ofNat n.toNat)) ByteArray.empty)=xs:=by
 unfold W9
 rw [A9N]
 simp only [List.map_map,List.map_append]
 have:ByteArray.empty.data.toList=[]:=rfl
 rw [this,List.map_nil,List.nil_append]
 conv=>rhs;rw [← List.map_id xs]
 apply List.map_congr_left
 intro x hx
 obtain ⟨m,rfl,h1,h2⟩:=h x hx
 simp only [lo,hi] at h1 h2
 simp only [Function.comp,V.int,id]
 congr 1
 have:(UInt8.ofNat m.toNat).toNat=m.toNat:=UInt8.toNat_ofNat_of_lt' (by show _ < 256;omega)
 rw [this];omega
def bytesOf (T:TT) (of:Nat→Option Ob) (el:Nat) (u:A):Option (List V×List Nat) :=
 match B2 T el with
 | some (.int .u8)=>if Nat.beq (B1 T el) 1 then F9 T of el u else none
 | _=>none
theorem B2g {s t el:Nat} (hs:P.underlying s=some (.slice el)) (he:P.underlying el=some (.int .u8)) (ht:P.underlying t=some .string) {xt:TypeId} {w:World} {v:Value} {xs:List V} {us:List Value} (hsrc:Src P w xt v 1 xs.length us) (hus:us=(xs.map V.int).map (Value.int .u8))
  (hv:∃ a n k,v=.slice a n k):(convert s t v).run P w=.ok (.string ((xs.map V.int).foldl (fun (r:ByteArray) (n:Int)=>r.push (UInt8.ofNat n.toNat)) ByteArray.empty)) w:=by
 obtain ⟨a,n,k,rfl⟩:=hv
 rw [run_convert_bytes_string w s t el a n k hs he ht]
 have hn:n=xs.length:=by
  have:=hsrc.len w
  simp only [Builtin.lenOf,Sem.run_pure] at this
  injection this
 subst hn
 cases a with
 | none =>
  have hf:=hsrc.first w rfl
  simp only [Builtin.firstCells,Sem.run_pure] at hf
  injection hf with hf
  have h0:us=[]:=by simpa using hf.symm
  have hl:=hsrc.size
  rw [h0] at hl
  have hx:xs=[]:=List.eq_nil_of_length_eq_zero (by simpa using hl.symm)
  subst hx
  simp [Conv.bytesToString,Sem.run_pure]
 | some a =>
  have hf:=hsrc.first w rfl
  simp only [Builtin.firstCells,Nat.mul_one] at hf
  exact run_bytesToString w a _ k _ (by rw [hf,hus])
theorem B2h {s t el id:Nat} {te:TE} (h:A5 T c e of) (hT:F4 T P) (hs:P.underlying s=some .string) (ht:P.underlying t=some (.slice el)) (he:P.underlying el=some (.int .u8)) (hk:B2 T el=some (.int .u8)) (hz:B1 T el=1) (hu:¬ e.U id) {x:Value} {l:List V} (hx:B3 T e (.s l) x) {ro:List Nat} :
  B9 P (do pure (.value (← convert s t x))) e.w (C4 T c e of ⟨.o id 1,[(id,.row el 1 l false false)],ro,[id]⟩):=by
 obtain ⟨bs,rfl,rfl⟩:=N5 hx
 obtain ⟨hd0,hle0⟩:=h.same_heap (w':=e.w.drew) rfl rfl rfl rfl
 obtain ⟨cap,hcap⟩:∃ cap,cap=(Question.appendCap bs.size 0 el).cut (e.w.tape e.w.drawn (Question.appendCap bs.size 0 el)):=⟨_,rfl⟩
 have hle:bs.size≤cap:=by rw [hcap];simp only [Question.cut];omega
 obtain ⟨cells,hcells⟩:∃ cells:Array Value,cells=(bs.data.map fun b=>Value.int .u8 b.toNat)++Array.replicate (cap - bs.size) (.int .u8 0):=⟨_,rfl⟩
 have hbs:bs.data.size=bs.size:=rfl
 have hcs:cells.size=cap * B1 T el:=by
  rw [hcells]
  simp only [Array.size_append,Array.size_map,Array.size_replicate,hz];omega
 have hheap:(e.w.drew.alloc (.cells cells el)).heap[e.w.heap.size]? = some (.cells cells el (0,0)):=J2 e.w.drew _
 have hfr:(e.w.drew.alloc (.cells cells el)).freeze ⟨e.w.heap.size,cells.size,none⟩ 1=e.w.drew.alloc (.cells cells el (cells.size,cells.size+1)):=by
  unfold World.freeze
  rw [if_neg (by decide)]
  refine congrArg (fun h:Array Go.Obj=>World.mk h e.w.drew.tape e.w.drew.drawn e.w.drew.os e.w.drew.output) (a₁:=(e.w.drew.alloc (.cells cells el)).heap.modify e.w.heap.size _) (a₂:=(e.w.drew.alloc (.cells cells el (cells.size,cells.size+1))).heap) ?_
  apply Array.ext_getElem?
  intro i
  rw [Array.getElem?_modify]
  by_cases hi:e.w.heap.size=i
  ·subst hi
   rw [if_pos rfl,hheap]
   show _=(e.w.drew.alloc (.cells cells el (cells.size,cells.size+1))).heap[e.w.drew.heap.size]?
   rw [J2]
   rfl
  ·rw [if_neg hi]
   show (e.w.heap.push _)[i]? = (e.w.heap.push _)[i]?
   rw [Array.getElem?_push,Array.getElem?_push,if_neg (fun q=>hi q.symm),if_neg (fun q=>hi q.symm)]
 have hrun:(convert s t (.string bs)).run P e.w=.ok (.slice (some ⟨e.w.heap.size,0,none⟩) bs.size cap) (e.w.drew.alloc (.cells cells el (cells.size,cells.size+1))):=by
  rw [← hfr]
  have hsh:(e.w.drew.alloc (.cells cells el)).shape? e.w.heap.size=some (el,cells.size):=by
   unfold World.shape?
   rw [hheap]
  simp only [convert,Sem.run_bind,A2 hs,A2 ht,A2 he,Result.andThen_ok,Conv.stringToBytes]
  simp [choose,Sem.run,Question.forced,← hcap,newRow,← hcells,markStringish,shape,hsh,freeze]
 have hok:=B5q (id:=id) (el:=el) (xs:=W9 bs) (cs:=cells) (ys:=bs.data.toList.map fun b=>Value.int .u8 b.toNat) (post:=(Array.replicate (cap - bs.size) (Value.int .u8 0)).toList) (fz:=(cells.size,cells.size+1)) hd0 hu (by omega) (by rw [hcells];simp)
  (by have:=A7d (e:={ e with w:=e.w.drew }) hk hz bs.data.toList;simpa [W9] using this)
  (by
   have:=W1 { e with w:=e.w.drew } id 1 el (W9 bs).length cells el (cells.size,cells.size+1)
   simp only at this
   refine ⟨fun i hi=>?_,fun c t l hh hc=>?_⟩
   ·unfold World.frozen?
    rw [this]
    simp;omega
   ·rw [this] at hc
    injection hc with hc;injection hc with e1 e2 e3;injection e3 with e3 e4;omega)
 obtain ⟨e',p1,p2,p3,p4,p5⟩:=Z8 (ro:=ro) hd0 hu hok (A8z (n:=(W9 bs).length) (cap:=cap) hcs (by rw [A0d];exact hle))
 rw [A0d] at p5
 exact A1 hrun ⟨e',p1,p2,hle0.trans p3,p4,p5⟩
variable {P:Program} {T:TT} {c:F1} {e:A8} {of:Nat→Option Ob}
theorem B4N {t el id ver:Nat} (h:A5 T c e of) (hu:P.underlying t=some (.slice el)) (he:P.underlying el=some (.int .u8)) {xs:List V} {sh:Bool} {x:Value} (ho:of id=some (.row el ver xs false sh)) (hx:B3 T e (.o id ver) x) {ro:List Nat} :
  B9 P (do pure (.value (← convert t t x))) e.w (C4 T c e of ⟨.o id ver,[(id,.row el ver xs false sh)],ro,[]⟩):=by
 obtain ⟨u1,u2,u3,u4,u5,u6,u7⟩:=G3 h ho
 rcases u7 with ⟨hq,_,_⟩ | ⟨_,b,o,cs,ty,fz,pre,ys,post,g1,g2,g3,g4,g5,g6,g7,g8⟩
 ·cases hq
 rcases F7 hx u3 with ⟨k1,_,_⟩ | ⟨b',o',cap,k,k1,k2,k3,k4,rfl⟩
 ·rw [g1] at k1;cases k1
 rw [g1] at k1;cases k1
 obtain ⟨l,hh⟩:=fz
 have hlt:b < e.w.heap.size:=(Array.getElem?_eq_some_iff.1 g2).1
 obtain ⟨w',hw'⟩:∃ w',w'=e.w.freeze ⟨b,cs.size,none⟩ 1:=⟨_,rfl⟩
 obtain ⟨fz',hfz'⟩:∃ fz':Nat×Nat,fz'=(if l == hh then (cs.size,cs.size+1) else (min l cs.size,max hh (cs.size+1))):=⟨_,rfl⟩
 have hheap:w'.heap=e.w.heap.modify b (fun
   | .cells c elem (lo,hi)=>.cells c elem (if lo == hi then (cs.size,cs.size+1) else (min lo cs.size,max hi (cs.size+1)))
   | o=>o):=by rw [hw'];unfold World.freeze;rw [if_neg (by decide)];rfl
 have h1:w'.heap[b]? = some (.cells cs ty fz'):=by
  rw [hheap,Array.getElem?_modify,if_pos rfl,g2,hfz'];rfl
 have hne:∀ k,k≠b→w'.heap[k]? = e.w.heap[k]? := fun k hk=>by rw [hheap,Array.getElem?_modify,if_neg (Ne.symm hk)]
 have hsz:w'.heap.size=e.w.heap.size:=by rw [hheap];simp
 have hos:w'.os=e.w.os∧w'.tape=e.w.tape∧w'.output=e.w.output:=by rw [hw'];unfold World.freeze;rw [if_neg (by decide)];exact ⟨rfl,rfl,rfl⟩
 have hlh:l≤hh:=g3.2 cs ty l hh g2
 have hsize:l < hh→cs.size≤l:=fun hl=>by
  rcases Nat.lt_or_ge l cs.size with h0 | h0
  ·have:=g3.1 l h0
   simp only [World.frozen?,g2,Nat.le_refl,decide_true,Bool.true_and,decide_eq_false_iff_not,Nat.not_lt] at this
   omega
  ·exact h0
 have hfz:cs.size≤fz'.1∧fz'.1≤fz'.2:=by
  rw [hfz']
  by_cases hq:l=hh
  ·subst hq;simp
  ·have:=hsize (by omega)
   have hb:(l == hh)=false:=by simpa using hq
   rw [hb]
   simp only [Bool.false_eq_true,if_false]
   omega
 have hfree:A0y w' b cs:=by
  refine ⟨fun i hi=>?_,fun c t l2 h2 hc=>?_⟩
  ·have:¬ fz'.1≤i:=by omega
   simp [World.frozen?,h1,this]
  ·rw [h1] at hc
   injection hc with hc;injection hc with e1 e2 e3
   rw [e3] at hfz;exact hfz.2
 obtain ⟨hos',hll⟩:=h.write ho g1 g2 h1 rfl hne hsz hos (fun i _=>rfl) (o':=.row el ver xs false sh)
  (fun hle=>⟨u1,u2,u3,u4,u5,u6,.inr ⟨rfl,b,o,cs,ty,fz',pre,ys,post,g1,h1,hfree,g4,g5,g6.mono hle,g7,g8⟩⟩)
 refine A1 (x:=.slice (some ⟨b,k,none⟩) (e.ln id) cap) (w':=w') ?_ ⟨_,rfl,hos',hll,fun _ hu=>.inl hu,hx.mono hll⟩
 have hshape:e.w.shape? b=some (ty,cs.size):=by unfold World.shape?;rw [g2]
 simp [convert,A2 hu,A2 he,markStringish,shape,freeze,Sem.run,hshape,hw']
def A1O (T:TT) (of:Nat→Option Ob) (nx s t:Nat) (u:A):Option Out :=
 match B2 T t with
 | some (.int k)=>match u with
  | .i _ n=>if (T s).isSome then some (.pure (.i k (k.wrap n))) else none
  | _=>none
 | some .str=>match u with
  | .s l=>if (T s).isSome then some (.pure (.s l)) else none
  | u=>match B2 T s with
   | some (.slice el)=>match bytesOf T of el u with
    | some (xs,ro)=>some ⟨.s xs,[],ro,[]⟩
    | none=>none
   | _=>none
 | some (.slice el)=>match u,B2 T s,B2 T el with
  | .s l,some .str,some (.int .u8)=>if Nat.beq (B1 T el) 1 then some ⟨.o nx 1,[(nx,.row el 1 l false false)],[],[nx]⟩ else none
  | .o id ver,_,some (.int .u8)=>match of id with
   | some (.row el' v xs false sh)=>if Nat.beq s t&&Nat.beq el el'&&Nat.beq v ver then some ⟨.o id ver,[(id,.row el ver xs false sh)],[id],[]⟩ else none
   | _=>none
  | _,_,_=>none
 | _=>none
theorem A14 {of':Nat→Option Ob} {el:Nat} {a:A} {v:Value} {ns:List V} {ro:List Nat} (h:A5 T c e of') (hs:F9 T of el a=some (ns,ro)) (ho:∀ id∈ro,of' id=of id) (hr:B3 T e a v) (hns:∀ l,a≠.s l):∃ p n k,v=.slice p n k:=by
 cases a with
 | s l=>exact absurd rfl (hns l)
 | v t x =>
  simp only [F9] at hs
  split at hs<;>try (cases hs;done)
  rename_i el' hk
  rcases (C5 hr ⟨_,hk,rfl⟩).slice_inv hk with ⟨_,hv⟩ | ⟨ys,ds,ad,cap,_,hv,_⟩<;>(injection hv with hv;exact ⟨_,_,_,hv⟩)
 | q t x =>
  have hr:RA T e [.q t x] [v]:=hr
  cases hr with
  | q _ _=>exact ⟨_,_,_,rfl⟩
  | r g1 _ _=>exact g1.elim
 | z y =>
  simp only [F9] at hs
  split at hs
  ·rename_i hz
   have hr:RA T e [.z y] [v]:=hr
   cases hr with
   | z _ _=>rw [A0K hz];exact ⟨_,_,_,rfl⟩
   | r g1 _ _=>exact g1.elim
  ·cases hs
 | o id ver =>
  simp only [F9] at hs
  split at hs<;>try (cases hs;done)
  rename_i el' v' xs nl sh hof
  split at hs<;>try (cases hs;done)
  rename_i hc
  simp only [C3o] at hc
  have:=C3n hc.2;subst this
  injection hs with hs;injection hs with h1 h2;subst h2
  have hv:=(G3 h ((ho id (by simp)).trans hof)).2.2.1
  rcases F7 hr hv with ⟨_,_,rfl⟩ | ⟨b,o,cap,k,_,_,_,_,rfl⟩<;>exact ⟨_,_,_,rfl⟩
 | w id ver off n =>
  simp only [F9] at hs
  split at hs<;>try (cases hs;done)
  rename_i el' v' xs nl sh hof
  split at hs<;>try (cases hs;done)
  rename_i hc
  simp only [C3o] at hc
  have:=C3n hc.1.2;subst this
  injection hs with hs;injection hs with h1 h2;subst h2
  have hv:=(G3 h ((ho id (by simp)).trans hof)).2.2.1
  obtain ⟨b,o,cap,k,_,_,_,_,_,rfl⟩:=N8 hr hv
  exact ⟨_,_,_,rfl⟩
 | a id t1 path l0 m =>
  obtain ⟨b,off,n,el',k,cap,_,_,_,_,_,_,_,_,rfl⟩:=S3 hr
  exact ⟨_,_,_,rfl⟩
 | _=>simp [F9] at hs
theorem B4O (hT:F4 T P) {of':Nat→Option Ob} {nx s t:Nat} {u:A} {x:Value} {out:Out} (h:A5 T c e of') (hr:A1O T of nx s t u=some out) (ho:∀ id∈out.ro,of' id=of id) (hu:∀ id∈out.nw,¬ e.U id) (hx:B3 T e u x) :
  B9 P (do pure (.value (← convert s t x))) e.w (C4 T c e of' out):=by
 have hsd:(T s).isSome=true→∃ d,P.underlying s=some d:=fun hs=>by
  obtain ⟨te,hte⟩:=C3s.1 hs
  obtain ⟨d,h1,_⟩:=R5 (hT _ _ hte)
  exact ⟨d,h1⟩
 unfold A1O at hr
 split at hr
 ·rename_i k hk
  obtain ⟨te,h1,h2⟩:=A6 hk
  have ht:=N7 (hT _ _ h1) h2
  split at hr<;>try (cases hr;done)
  rename_i k' n
  split at hr<;>try (cases hr;done)
  rename_i hs
  obtain ⟨d,hs⟩:=hsd hs
  injection hr with hr;subst hr
  rw [B8 hx]
  refine A1 (x:=.int k (k.wrap n)) ?_ (A4 h (G6 (J5 k n)))
  simp [convert,A2 hs,A2 ht,Conv.intToInt]
 ·rename_i hk
  obtain ⟨te,h1,h2⟩:=A6 hk
  have ht:=L8 (hT _ _ h1) h2
  split at hr
  ·rename_i l
   split at hr<;>try (cases hr;done)
   rename_i hs
   obtain ⟨d,hs⟩:=hsd hs
   injection hr with hr;subst hr
   obtain ⟨bs,rfl,rfl⟩:=N5 hx
   refine A1 (x:=.string bs) ?_ (A4 h (A3S bs))
   simp [convert,A2 hs,A2 ht]
  ·rename_i u hns
   split at hr<;>try (cases hr;done)
   rename_i el hks
   obtain ⟨tes,hs1,hs2⟩:=A6 hks
   have hs:=D4 (hT _ _ hs1) hs2
   split at hr<;>try (cases hr;done)
   rename_i xs ro hb
   injection hr with hr;subst hr
   unfold bytesOf at hb
   split at hb<;>try (cases hb;done)
   rename_i hke
   obtain ⟨tee,he1,he2⟩:=A6 hke
   have he:=N7 (hT _ _ he1) he2
   split at hb<;>try (cases hb;done)
   rename_i hz
   have hz:=C3n hz
   obtain ⟨us,s1,s2⟩:=A3v (xt:=s) h (.inl ⟨el,hs⟩) (fun l hl=>absurd hl (hns l)) hb ho hx
   rw [hz] at s1
   obtain ⟨c1,c2⟩:=A8g hke s2
   refine A1 (B2g hs he ht s1 c1 (A14 h hb ho hx hns)) (A4 h (v:=.s xs) ?_)
   have:=A3S (T:=T) (e:=e) ((xs.map V.int).foldl (fun (r:ByteArray) (n:Int)=>r.push (UInt8.ofNat n.toNat)) ByteArray.empty)
   rwa [B4M c2] at this
 ·rename_i el hk
  obtain ⟨te,h1,h2⟩:=A6 hk
  have ht:=D4 (hT _ _ h1) h2
  split at hr<;>try (cases hr;done)
  case h_2 id ver hke =>
   split at hr<;>try (cases hr;done)
   rename_i el' v xs sh hof
   split at hr<;>try (cases hr;done)
   rename_i hcc
   simp only [C3o] at hcc
   have:=C3n hcc.1.1;subst this
   have:=C3n hcc.1.2;subst this
   have:=C3n hcc.2;subst this
   injection hr with hr;subst hr
   obtain ⟨tee,he1,he2⟩:=A6 hke
   exact B4N h ht (N7 (hT _ _ he1) he2) ((ho id (by simp)).trans hof) hx
  rename_i l hks hke
  split at hr<;>try (cases hr;done)
  rename_i hz
  injection hr with hr;subst hr
  obtain ⟨tes,hs1,hs2⟩:=A6 hks
  obtain ⟨tee,he1,he2⟩:=A6 hke
  exact B2h (te:=te) h hT (L8 (hT _ _ hs1) hs2) ht (N7 (hT _ _ he1) he2) hke (C3n hz) (hu nx (by simp)) hx
 ·cases hr
def A9O (T:TT) (of:Nat→Option Ob) (t:Nat) (u:A):Option (A×List Nat) :=
 match B2 T t with
 | some .str=>match u with
  | .s l=>if Nat.ble l.length 9223372036854775807 then some (.i .i64 (l.length:Nat),[]) else none
  | _=>none
 | some (.slice el)=>match F9 T of el u with
  | some (xs,ro)=>match u with
   | .s _=>none
   | _=>if Nat.ble xs.length 9223372036854775807 then some (.i .i64 (xs.length:Nat),ro) else none
  | none=>none
 | some (.map _ _)=>match u with
  | .m id=>match of id with
   | some (.map _ _ es)=>if Nat.ble es.length 9223372036854775807 then some (.i .i64 (es.length:Nat),[id]) else none
   | _=>none
  | _=>none
 | _=>none
variable {P:Program} {T:TT} {c:F1} {e:A8} {of:Nat→Option Ob}
theorem A2x {n:Nat} (h:Nat.ble n 9223372036854775807=true):inR .i64 (n:Nat):=by
 have:=C3t h
 constructor<;>simp only [lo,hi]<;>omega
theorem P1 {id:Nat} {x:Value} (h:B3 T e (.m id) x):∃ b,e.U id∧e.bn id=0∧e.ι id=some (b,0)∧x=.map (some b):=by
 have h:RA T e [.m id] [x]:=h
 cases h with
 | r h1 _ _=>exact h1
theorem MR.length {kt et:Nat} {es:List (V×A)} {ms:List MapEntry} (h:MR T e kt et es ms):es.length=ms.length:=by
 induction h with
 | nil=>rfl
 | cons _ _ _ _ ih=>simp [ih]
theorem A6Y {id kt et:Nat} {es:List (V×A)} (h:A5 T c e of) (ho:of id=some (.map kt et es)):e.U id∧e.bn id=0∧∃ b ms clock,e.ι id=some (b,0)∧e.w.heap[b]? = some (.map ms clock)∧((es.map (·.1)).Nodup∧StB ms clock)∧∃ es',es'.Perm es∧MR T e kt et es' ms.toList:=h.ok _ _ ho
theorem B0M (hT:F4 T P) {of':Nat→Option Ob} {t ty:TypeId} {u r:A} {x:Value} {ro:List Nat} (h:A5 T c e of') (hr:A9O T of t u=some (r,ro)) (ho:∀ id∈ro,of' id=of id) (hx:B3 T e u x) :
  B9 P (do pure (.value (← Builtin.len_ #[t] ty #[x]))) e.w (C4 T c e of' ⟨r,[],ro,[]⟩):=by
 unfold A9O at hr
 split at hr
 ·rename_i hk
  obtain ⟨te,h1,h2⟩:=A6 hk
  split at hr<;>try (cases hr;done)
  rename_i l
  split at hr<;>try (cases hr;done)
  rename_i hl
  injection hr with hr;injection hr with e1 e2;subst e1;subst e2
  obtain ⟨s,rfl,rfl⟩:=N5 hx
  refine A1 (x:=.int .i64 s.size) (w':=e.w) (by simp [Builtin.len_,A2 (L8 (hT _ _ h1) h2),goInt]) ?_
  have:=G6 (T:=T) (e:=e) (A2x hl)
  rw [A0d] at this ⊢
  exact A4 h this
 ·rename_i el hk
  obtain ⟨te,h1,h2⟩:=A6 hk
  have hu:=D4 (hT _ _ h1) h2
  split at hr<;>try (cases hr;done)
  rename_i xs ro' hs
  have key:∀ (hns:∀ l,u≠.s l),(if Nat.ble xs.length 9223372036854775807 then some (A.i .i64 (xs.length:Nat),ro') else none)=some (r,ro)→B9 P (do pure (.value (← Builtin.len_ #[t] ty #[x]))) e.w (C4 T c e of' ⟨r,[],ro,[]⟩):=by
   intro hns hr
   split at hr<;>try (cases hr;done)
   rename_i hl
   injection hr with hr;injection hr with e1 e2;subst e1;subst e2
   obtain ⟨us,s1,s2⟩:=A3v (xt:=t) h (.inl ⟨el,hu⟩) (fun l hl=>absurd hl (hns l)) hs ho hx
   obtain ⟨p,n,k,rfl⟩:=A14 h hs ho hx hns
   have hn:n=xs.length:=by
    have:=s1.len e.w
    simp only [Builtin.lenOf,Sem.run_pure] at this
    injection this
   subst hn
   exact A1 (x:=.int .i64 xs.length) (w':=e.w) (by simp [Builtin.len_,A2 hu,goInt]) (A4 h (G6 (A2x hl)))
  cases u with
  | s l=>cases hr
  | _=>exact key (fun l q=>by cases q) hr
 ·rename_i kt et hk
  obtain ⟨te,h1,h2⟩:=A6 hk
  have hu:=H2 (hT _ _ h1) h2
  split at hr<;>try (cases hr;done)
  rename_i id
  split at hr<;>try (cases hr;done)
  rename_i kt' et' es hof
  split at hr<;>try (cases hr;done)
  rename_i hl
  injection hr with hr;injection hr with e1 e2;subst e1;subst e2
  obtain ⟨b,u1,u2,u3,rfl⟩:=P1 hx
  obtain ⟨v1,v2,b',ms,clock,v3,v4,v5,es',v6,v7⟩:=A6Y h ((ho id (by simp)).trans hof)
  rw [u3] at v3;cases v3
  have hlen:ms.size=es.length:=by rw [← v6.length_eq,v7.length,C3u]
  have hg:∀ w:World,w.heap[b]? = some (.map ms clock)→(getObj b).run P w=.ok (.map ms clock) w:=fun w hw=>by simp [getObj,Sem.run,hw]
  refine A1 (x:=.int .i64 ms.size) (w':=e.w) (by simp [Builtin.len_,A2 hu,goInt,hg _ v4]) ?_
  rw [hlen]
  exact A4 h (G6 (A2x hl))
 ·cases hr
def B93 (T:TT) (t:Nat) (u:A):Option A :=
 match B2 T t with
 | some (.slice _)=>match u with
  | .v t' .n=>if same T t t' then some (.i .i64 0) else none
  | .z v=>if A3Q v then some (.i .i64 0) else none
  | .q t' x=>if same T t t'&&Nat.ble x.els.length 9223372036854775807 then some (.i .i64 (x.els.length:Nat)) else none
  | _=>none
 | _=>none
theorem B66 (hT:F4 T P) {t ty:TypeId} {u r:A} {x:Value} (h:A5 T c e of) (hr:B93 T t u=some r) (hx:B3 T e u x) {ro:List Nat} :
  B9 P (do pure (.value (← Builtin.cap_ #[t] ty #[x]))) e.w (C4 T c e of ⟨r,[],ro,[]⟩):=by
 unfold B93 at hr
 split at hr<;>try (cases hr;done)
 rename_i el hk
 obtain ⟨te,h1,h2⟩:=A6 hk
 have hu:=D4 (hT _ _ h1) h2
 have key:∀ p (m k:Nat),x=.slice p m k→Nat.ble k 9223372036854775807=true→B9 P (do pure (.value (← Builtin.cap_ #[t] ty #[x]))) e.w (C4 T c e of ⟨.i .i64 (k:Nat),[],ro,[]⟩):=by
  rintro p m k rfl hl
  exact A1 (x:=.int .i64 k) (w':=e.w) (by simp [Builtin.cap_,A2 hu,goInt]) (A4 h (G6 (A2x hl)))
 split at hr
 ·rename_i t'
  split at hr<;>try (cases hr;done)
  rename_i hs
  injection hr with hr;subst hr
  have hk':=(A9 hs).1.symm.trans hk
  rcases (C5 hx ⟨_,hk',rfl⟩).slice_inv hk' with ⟨_,hv⟩ | ⟨_,_,_,_,h0,_⟩
  ·injection hv with hv;exact key none 0 0 hv rfl
  ·cases h0
 ·split at hr<;>try (cases hr;done)
  rename_i v hz
  injection hr with hr;subst hr
  have hx:RA T e [.z v] [x]:=hx
  cases hx with
  | z _ _=>exact key none 0 0 (A0K hz) rfl
  | r g1 _ _=>exact g1.elim
 ·rename_i t' y
  split at hr<;>try (cases hr;done)
  rename_i hc
  simp only [C3o] at hc
  injection hr with hr;subst hr
  have hk':=(A9 hc.1).1.symm.trans hk
  have hx:RA T e [.q t' y] [x]:=hx
  cases hx with
  | q g1 _ =>
   rename_i p n
   rcases g1.slice_inv hk' with ⟨rfl,hv⟩ | ⟨ys,_,_,_,rfl,hv,_⟩
   ·injection hv with hv;injection hv with hv1 hv2 hv3
    subst hv2
    exact key _ 0 0 rfl rfl
   ·injection hv with hv;injection hv with hv1 hv2 hv3
    subst hv2
    exact key _ _ _ rfl hc.2
  | r g1 _ _=>exact g1.elim
 ·cases hr
def B2i (mx:Bool) (u v:A):Option A :=
 match u,v with
 | .i k a,.i k' b=>if A2W k k' then some (.i k (bif (bif mx then E8 a b else E8 b a) then b else a)) else none
 | _,_=>none
theorem B94 {t:Array TypeId} {ty:TypeId} {u v r:A} {a b:Value} (h:A5 T c e of) (hr:B2i false u v=some r) (hu:B3 T e u a) (hv:B3 T e v b) {ro:List Nat} :
  B9 P (do pure (.value (← Builtin.min_ t ty #[a,b]))) e.w (C4 T c e of ⟨r,[],ro,[]⟩):=by
 unfold B2i at hr
 split at hr<;>try (cases hr;done)
 split at hr<;>try (cases hr;done)
 rename_i hk
 have:=A0T hk;subst this
 injection hr with hr;subst hr
 have r1:=L1 hu
 have r2:=L1 hv
 rw [B8 hu,B8 hv]
 rename_i k m n
 refine A1 (x:=.int k (if n < m then n else m)) (w':=e.w) (by simp [Builtin.min_,Builtin.min2]) ?_
 have:(bif (bif false then E8 m n else E8 n m) then n else m)=if n < m then n else m:=by
  simp only [cond_false]
  by_cases hlt:n < m
  ·rw [H0.2 hlt,if_pos hlt];rfl
  ·have:E8 n m=false:=by rw [← Bool.not_eq_true,H0];exact hlt
   rw [this,if_neg hlt];rfl
 rw [this]
 refine A4 h (G6 ?_)
 split
 ·exact r2
 ·exact r1
theorem B95 {t:Array TypeId} {ty:TypeId} {u v r:A} {a b:Value} (h:A5 T c e of) (hr:B2i true u v=some r) (hu:B3 T e u a) (hv:B3 T e v b) {ro:List Nat} :
  B9 P (do pure (.value (← Builtin.max_ t ty #[a,b]))) e.w (C4 T c e of ⟨r,[],ro,[]⟩):=by
 unfold B2i at hr
 split at hr<;>try (cases hr;done)
 split at hr<;>try (cases hr;done)
 rename_i hk
 have:=A0T hk;subst this
 injection hr with hr;subst hr
 have r1:=L1 hu
 have r2:=L1 hv
 rw [B8 hu,B8 hv]
 rename_i k m n
 refine A1 (x:=.int k (if m < n then n else m)) (w':=e.w) (by simp [Builtin.max_,Builtin.max2]) ?_
 have:(bif (bif true then E8 m n else E8 n m) then n else m)=if m < n then n else m:=by
  simp only [cond_true]
  by_cases hlt:m < n
  ·rw [H0.2 hlt,if_pos hlt];rfl
  ·have:E8 m n=false:=by rw [← Bool.not_eq_true,H0];exact hlt
   rw [this,if_neg hlt];rfl
 rw [this]
 refine A4 h (G6 ?_)
 split
 ·exact r2
 ·exact r1
def A9P (k:IntKind) (n:Int):Bool:=J1 (lo k) n&&J1 n (hi k)
theorem A4I {k:IntKind} {n:Int} (h:A9P k n=true):inR k n:=by
 simp only [A9P,C3o,K9] at h;exact h
def chk (k:IntKind) (n:Int):Option A:=if A9P k n then some (.i k n) else none
theorem B4P {k:IntKind} {n:Int} {r:A} (h:chk k n=some r):r=.i k n∧inR k n:=by
 unfold chk at h
 split at h
 ·rename_i hc;injection h with h;exact ⟨h.symm,A4I hc⟩
 ·cases h
def unA (op:UnOp) (u:A):Option A :=
 match op,u with
 | .neg,.i k n=>some (.i k (k.wrap (0 - n)))
 | .xor,.i k n=>chk k (F5 .xor k (if k.signed then -1 else k.max) n)
 | .not,.b q=>some (.b !q)
 | _,_=>none
theorem B96 {op:UnOp} {u r:A} {x:Value} (h:A5 T c e of) (hr:unA op u=some r) (hx:B3 T e u x) {ro:List Nat} :
  B9 P (do pure (.value (← Op.unary op x))) e.w (C4 T c e of ⟨r,[],ro,[]⟩):=by
 unfold unA at hr
 split at hr
 ·injection hr with hr;subst hr
  rw [B8 hx]
  exact A1 (by simp [Op.unary,Op.intArith]) (A4 h (G6 (J5 _ _)))
 ·obtain ⟨rfl,hrg⟩:=B4P hr
  rw [B8 hx]
  exact A1 (by simp [Op.unary];exact W4 _ _ _ _ _ (by simp)) (A4 h (G6 hrg))
 ·injection hr with hr;subst hr
  rw [Y4 hx]
  exact A1 (by simp [Op.unary]) (A4 h (A17 _))
 ·cases hr
def B67 (i:Nat) (u:A):Option A :=
 match u with
 | .t l=>match l[i]? with
  | some (.t _)=>none
  | r=>r
 | _=>none
theorem B68 {i:Nat} {u r:A} {x:Value} (h:A5 T c e of) (hr:B67 i u=some r) (hx:B3 T e u x) {ro:List Nat} :
  B9 P (do pure (.value (← Instr.extract x i))) e.w (C4 T c e of ⟨r,[],ro,[]⟩):=by
 unfold B67 at hr
 split at hr<;>try (cases hr;done)
 rename_i l
 split at hr
 ·cases hr
 ·rename_i hne
  obtain ⟨xs,rfl,hs,hall⟩:=hx
  obtain ⟨hi,-⟩:=List.getElem?_eq_some_iff.1 hr
  have hxi:xs[i]? = some xs[i]:=Array.getElem?_eq_getElem (by omega)
  refine A1 (x:=xs[i]) (w':=e.w) (by simp [Instr.extract,hxi]) (A4 h ?_)
  have:=hall i r xs[i] hr hxi
  cases r with
  | t l=>exact absurd hr (hne l)
  | _=>exact this
variable {P:Program} {T:TT} {c:F1} {e:A8} {of:Nat→Option Ob}
def B69 (of:Nat→Option Ob) (u:A):Option (List Nat) :=
 match u with
 | .p _ _ _=>some []
 | .c _ _=>some []
 | .f _ _=>some []
 | .e id ver _ _ _=>if A9M of id ver then some [id] else none
 | _=>none
theorem A57 {fn:Nat} {cap:List A} {x:Value} (h:B3 T e (.f fn cap) x) (hb:bdP cap=none:=by rfl):∃ vs,x=.func (.func fn) #[] vs.toArray∧RA T e cap vs:=by
 have h:RA T e [.f fn cap] [x]:=h
 cases h with
 | f h1 _=>exact ⟨_,rfl,h1⟩
 | r h1 _ _=>obtain ⟨_,_,_,rfl,_⟩:=A0R h1;cases hb
theorem A9Q {fn:Nat} {cap:List A} {x:Value} (h:B3 T e (.f fn cap) x):∃ a b,x=.func (.func fn) a b:=by
 have h:RA T e [.f fn cap] [x]:=h
 cases h with
 | f h1 _=>exact ⟨_,_,rfl⟩
 | r h1 _ _=>obtain ⟨_,_,_,_,_,_,_,_,_,_,rfl⟩:=A0R h1;exact ⟨_,_,rfl⟩
theorem A9R {fn:Nat} {cap:List A} {p:A} {x:Value} (h:B3 T e (.f fn cap) x) (hb:bdP cap=some p):∃ y,x=.func (.func fn) #[y] #[]∧B3 T e p y:=by
 have h:RA T e [.f fn cap] [x]:=h
 cases h with
 | f h1 _ =>
  unfold bdP at hb
  split at hb
  ·cases h1 with
   | r g _ _=>exact g.elim
  ·cases hb
 | r h1 _ _ =>
  obtain ⟨id,t,path,rfl,b,off,q1,q2,q3,q4,rfl⟩:=A0R h1
  injection hb with hb;subst hb
  exact ⟨_,rfl,RA.r ⟨b,off,q1,q2,q3,q4,rfl⟩ rfl .nil⟩
theorem B7a {of':Nat→Option Ob} {u:A} {ρ:Operand→Value} {o:Oper} {y:Operand} {ro:List Nat} (hop:o.op=.nilCheck y) (h:A5 T c e of') (hr:B69 of u=some ro) (ho:∀ id∈ro,of' id=of id) (hx:B3 T e u (ρ y)) :
  B9 P (execOp ρ o) e.w (C4 T c e of' ⟨u,[],ro,[]⟩):=by
 have key:(∃ a,ρ y=.pointer (some a))→B9 P (execOp ρ o) e.w (C4 T c e of' ⟨u,[],ro,[]⟩):=fun ⟨a,ha⟩=>by
  have:execOp ρ o=pure (.value (ρ y)):=by simp [execOp,hop,ha]
  rw [this]
  exact .inl ⟨ρ y,e.w,by simp,A4 h hx⟩
 unfold B69 at hr
 split at hr<;>try (cases hr;done)
 ·obtain ⟨b,off,_,_,_,_,hv⟩:=F6 hx
  exact key ⟨_,hv⟩
 ·obtain ⟨a,ds,hv,_⟩:=A1C hx
  exact key ⟨_,hv⟩
 ·obtain ⟨_,_,hv⟩:=A9Q hx
  have:execOp ρ o=pure (.value (ρ y)):=by simp [execOp,hop,hv]
  rw [this]
  exact .inl ⟨ρ y,e.w,by simp,A4 h hx⟩
 ·split at hr<;>try (cases hr;done)
  rename_i hc
  injection hr with hr;subst hr
  obtain ⟨b,o',off,_,_,_,hv⟩:=A2Y hx (A20 h hc (ho _ (by simp)))
  exact key ⟨_,hv⟩
theorem A3i (h:A5 T c e of) {id el ver:Nat} {xs:List V} {sh:Bool} (ho:of id=some (.row el ver xs false sh)) {off n:Nat} {x:Value} (hn:off+n≤xs.length) (hx:B3 T e (.w id ver off n) x) (h0:0 < n) :
  ∃ (e':A8) (a:Addr) (cap:Nat) (ds:List Value),e'.w=e.w∧A5 T c e' (D3 of id (some (.row el ver xs false true)))∧e.le e'∧(∀ j,e'.U j→e.U j)∧x=.slice (some a) n cap∧n≤cap∧Fz e' a ds∧RV T e' (List.replicate n el) ((xs.drop off).take n) ds:=by
 obtain ⟨v0,v1,v2,v3,v4,v5,h6⟩:=G3 h ho
 rcases h6 with ⟨hf,g1,rfl⟩ | ⟨_,b,o,cs,ty,fz,pre,ys,post,h1,h2,h3,h4,h5,h6,h7,h8⟩
 ·cases hf
 ·have hok:OK T (e.share b o (o+ys.length)) id (.row el ver xs false true) :=
   ⟨v0,v1,v2,v3,v4,v5,.inr ⟨rfl,b,o,cs,ty,fz,pre,ys,post,h1,h2,h3,h4,h5,h6.mono (G7 _ _ _ _),fun i hi hs=>hs.elim (h7 i hi) (fun ⟨_,_,hlt⟩=>by omega),(fun hh=>by cases hh),h8.2⟩⟩
  obtain ⟨b',o',cap,k,k1,k2,k3,k4,k5,rfl⟩:=N8 hx v2
  rw [h1] at k1;cases k1
  rw [v3] at k4 k5
  obtain ⟨as0,bs,zs,rfl,q1,q2,q3,q4⟩:=G4 h6 hn
  refine ⟨e.share b o (o+(as0++(bs++zs)).length),⟨b,k,none⟩,cap,bs,rfl,A0V h ho h1 hok,G7 _ _ _ _,fun _ hu=>hu,rfl,k2,⟨fun _=>rfl,fun j y hj=>?_⟩,q3.mono (G7 _ _ _ _)⟩
  have hjl:=(List.getElem?_eq_some_iff.1 hj).1
  have hkk:=k5 (by omega)
  refine ⟨?_,.inr ⟨rfl,by show o≤k+j;omega,by show k+j < _;simp only [C3p];omega⟩⟩
  show e.w.cell? _=_
  rw [C2,D6 h2,h4,hkk]
  have e1:pre++(as0++(bs++zs))++post=(pre++as0)++(bs++(zs++post)):=by simp
  rw [e1,show o+off * B1 T el+j=(pre++as0).length+j by simp only [C3p];omega]
  exact J7 hj
theorem A8h (h:A5 T c e of) {id t:Nat} {a:A} {sh:Bool} (ho:of id=some (.box t a sh)) {t1:Nat} {path:List Nat} {n el lo m:Nat} {x:Value} {y:V} (hat:atA T a path=some (.v t1 y)) (hk:B2 T t1=some (.arr n el)) (hx:B3 T e (.a id t1 path lo m) x) (h0:0 < m) :
  ∃ (e':A8) (ad:Addr) (cap:Nat) (ds:List Value),e'.w=e.w∧A5 T c e' (D3 of id (some (.box t a true)))∧e.le e'∧(∀ j,e'.U j→e.U j)∧x=.slice (some ad) m cap∧m≤cap∧Fz e' ad ds∧RV T e' (List.replicate m el) ((y.els.drop lo).take m) ds:=by
 obtain ⟨u1,u2,u3,u4,b,cs,ty,fz,g1,g2,g3,g4,g5,g6⟩:=Q8 h ho
 have hok:OK T (e.share b 0 cs.size) id (.box t a true):=⟨u1,u2,u3,u4,b,cs,ty,fz,g1,g2,g3,g4,g5.mono (G7 _ _ _ _),(fun hh=>by cases hh),g6.2⟩
 have hlen:cs.toList.length=cs.size:=C3u ..
 obtain ⟨b',off,n',el',k,cap,_,_,k1,k2,k3,k4,k5,k6,rfl⟩:=S3 hx
 rw [g1] at k1;cases k1
 rw [hk] at k3;cases k3
 rw [u3] at k2
 obtain ⟨pre,d,post,q1,q2,q3,q4,q5⟩:=R6 path g5 u4 k2 hat
 obtain ⟨as0,bs,zs,rfl,r1,r2,r3⟩:=A2E q4.v_inv hk k4
 refine ⟨e.share b 0 cs.size,⟨b,k,none⟩,cap,bs,rfl,A0V h ho g1 hok,G7 _ _ _ _,fun _ hu=>hu,rfl,k5,⟨fun _=>rfl,fun j z hj=>?_⟩,r3.mono (G7 _ _ _ _)⟩
 have hkk:=k6 (by omega)
 have hcell:cs.toList[k+j]? = some z:=by
  rw [q1,hkk]
  have e1:pre++((as0++(bs++zs))++post)=(pre++as0)++(bs++(zs++post)):=by simp
  rw [e1,show off+lo * B1 T el+j=(pre++as0).length+j by simp only [C3p];omega]
  exact J7 hj
 refine ⟨?_,.inr ⟨rfl,Nat.zero_le _,?_⟩⟩
 ·show e.w.cell? _=_
  rw [C2,D6 g2,hcell]
 ·have:=(List.getElem?_eq_some_iff.1 hcell).1
  rwa [C3u] at this
theorem Fz.take {a:Addr} {bs zs:List Value} (h:Fz e a (bs++zs)):Fz e a bs:=by
 refine ⟨fun hn=>h.1 (by simp [hn]),fun j y hj=>h.2 j y ?_⟩
 rw [List.getElem?_append_left (List.getElem?_eq_some_iff.1 hj).1];exact hj
theorem A9S {t n el m:Nat} {ys:List V} {ds:List Value} {a:Addr} (hk:B2 T t=some (.arr n el)) (hz:B1 T t=n * B1 T el) (hm:n≤m) (hf:Fz e a ds) (hr:RV T e (List.replicate m el) ys ds):B3 T e (.c t (.l (ys.take n))) (.pointer (some a)):=by
 obtain ⟨as0,bs,rfl,q2,q3,q4⟩:=hr.split_at n hm
 have:=RV.arr hk (by rw [q2,hz]) q3 .nil
 rw [List.append_nil] at this
 exact RA.c this hf.take .nil
def A8i (T:TT) (of:Nat→Option Ob) (t:Nat) (u:A):Option (A×List (Nat×Ob)×List Nat) :=
 match B2 T t with
 | some (.arr n el)=>if Nat.blt 0 n&&Nat.beq (B1 T t) (n * B1 T el) then
   match u with
   | .v t' y=>match B2 T t' with
    | some (.slice el')=>if Nat.beq el el'&&Nat.ble n y.els.length then some (.c t (.l (y.els.take n)),[],[]) else none
    | _=>none
   | .w id ver off m=>match of id with
    | some (.row el' v xs false _)=>if Nat.beq el el'&&Nat.beq v ver&&Nat.ble n m&&Nat.ble (off+m) xs.length then some (.c t (.l (((xs.drop off).take m).take n)),[(id,.row el' ver xs false true)],[id]) else none
    | _=>none
   | .o id ver=>match of id with
    | some (.row el' v xs false _)=>if Nat.beq el el'&&Nat.beq v ver&&Nat.ble n xs.length then some (.c t (.l (xs.take n)),[(id,.row el' ver xs false true)],[id]) else none
    | _=>none
   | .a id t1 path lo m=>match B2 T t1,of id with
    | some (.arr _ el'),some (.box t0 a sh)=>match atA T a path with
     | some (.v t2 y)=>if Nat.beq el el'&&Nat.beq t1 t2&&Nat.ble n m then some (.c t (.l (((y.els.drop lo).take m).take n)),(bif sh then [] else [(id,.box t0 a true)]),[id]) else none
     | _=>none
    | _,_=>none
   | _=>none
  else none
 | _=>none
theorem B7b (hT:F4 T P) {of':Nat→Option Ob} {t:Nat} {u r:A} {x:Value} {wo:List (Nat×Ob)} {ro:List Nat} (h:A5 T c e of') (hr:A8i T of t u=some (r,wo,ro)) (ho:∀ id∈ro,of' id=of id) (hx:B3 T e u x) :
  B9 P (do pure (.value (← Instr.arrayAt t x))) e.w (C4 T c e of' ⟨r,wo,ro,[]⟩):=by
 unfold A8i at hr
 split at hr<;>try (cases hr;done)
 rename_i n el hk
 obtain ⟨te,h1,h2⟩:=A6 hk
 have hu:=L9 (hT _ _ h1) h2
 split at hr<;>try (cases hr;done)
 rename_i hc
 simp only [C3o] at hc
 have h0:0 < n:=by simpa [Nat.blt_eq] using hc.1
 have hz:=C3n hc.2
 have key:∀ {a:Addr} {m cap:Nat},x=.slice (some a) m cap→n≤m→(Instr.arrayAt t x).run P e.w=.ok (.pointer (some a)) e.w:=fun {a m cap} hx hm=>by
  subst hx
  simp [Instr.arrayAt,A2 hu,show ¬ m < n by omega]
 have fin:∀ {id:Nat} {o:Ob} {m:Nat} {ys:List V},n≤m→(∃ (e':A8) (a:Addr) (cap:Nat) (ds:List Value),e'.w=e.w∧A5 T c e' (D3 of' id (some o))∧e.le e'∧(∀ j,e'.U j→e.U j)∧x=.slice (some a) m cap∧m≤cap∧Fz e' a ds∧RV T e' (List.replicate m el) ys ds) →
   B9 P (do pure (.value (← Instr.arrayAt t x))) e.w (C4 T c e of' ⟨.c t (.l (ys.take n)),[(id,o)],[id],[]⟩):=by
  rintro id o m ys hm ⟨e',a,cap,ds,p1,p2,p3,p4,p5,p6,p7,p8⟩
  exact A1 (key p5 hm) ⟨e',p1,p2,p3,fun j hj=>.inl (p4 j hj),A9S hk hz hm p7 p8⟩
 split at hr
 ·rename_i t' y
  split at hr<;>try (cases hr;done)
  rename_i el' hk'
  split at hr<;>try (cases hr;done)
  rename_i hc2
  simp only [C3o] at hc2
  have:=C3n hc2.1;subst this
  have hm:=C3t hc2.2
  injection hr with hr;injection hr with e1 e2;injection e2 with e2 e3;subst e1;subst e2;subst e3
  rcases (C5 hx ⟨_,hk',rfl⟩).slice_inv hk' with ⟨rfl,hv⟩ | ⟨ys,ds,a,cap,rfl,hv,q1,q2,q3⟩
  ·simp [V.els] at hm;omega
  ·injection hv with hv
   exact A1 (key hv hm) (A4 h (A9S hk hz hm q2 q3))
 ·rename_i id ver off m
  split at hr<;>try (cases hr;done)
  rename_i el' v xs sh hof
  split at hr<;>try (cases hr;done)
  rename_i hc2
  simp only [C3o] at hc2
  obtain ⟨⟨⟨c1,c2⟩,c3⟩,c4⟩:=hc2
  have:=C3n c1;subst this
  have:=C3n c2;subst this
  have hm:=C3t c3
  injection hr with hr;injection hr with e1 e2;injection e2 with e2 e3;subst e1;subst e2;subst e3
  exact fin hm (A3i h ((ho id (by simp)).trans hof) (C3t c4) hx (by omega))
 ·rename_i id ver
  split at hr<;>try (cases hr;done)
  rename_i el' v xs sh hof
  split at hr<;>try (cases hr;done)
  rename_i hc2
  simp only [C3o] at hc2
  obtain ⟨⟨c1,c2⟩,c3⟩:=hc2
  have:=C3n c1;subst this
  have:=C3n c2;subst this
  have hm:=C3t c3
  injection hr with hr;injection hr with e1 e2;injection e2 with e2 e3;subst e1;subst e2;subst e3
  have hof':=(ho id (by simp)).trans hof
  obtain ⟨v0,v1,v2,v3,v4,v5,h6⟩:=G3 h hof'
  have hι:e.ι id≠none:=by
   rcases h6 with ⟨hf,_⟩ | ⟨_,b,o,_,_,_,_,_,_,g,_⟩
   ·cases hf
   ·rw [g];intro q;cases q
  have:=fin (m:=xs.length) hm (A3i h hof' (off:=0) (by omega) (by rw [← v4];exact A4w hx v2 v1 hι v0) (by omega))
  simpa using this
 ·rename_i id t1 path l0 m
  split at hr<;>try (cases hr;done)
  rename_i n1 el' t0 a sh hk1 hof
  split at hr<;>try (cases hr;done)
  rename_i t2 y hat
  split at hr<;>try (cases hr;done)
  rename_i hc2
  simp only [C3o] at hc2
  obtain ⟨⟨c1,c2⟩,c3⟩:=hc2
  have:=C3n c1;subst this
  have:=C3n c2;subst this
  have hm:=C3t c3
  injection hr with hr;injection hr with e1 e2;injection e2 with e2 e3;subst e1;subst e2;subst e3
  have hof':=(ho id (by simp)).trans hof
  have hsb:=A8h h hof' hat hk1 hx (by omega)
  cases sh with
  | false=>exact fin hm hsb
  | true =>
   obtain ⟨e',a',cap,ds,p1,p2,p3,p4,p5,p6,p7,p8⟩:=hsb
   have hup:D3 of' id (some (.box t0 a true))=of':=by
    funext j
    by_cases q:j=id
    ·subst q;rw [upd_same,hof']
    ·rw [A3 _ _ q]
   rw [hup] at p2
   exact A1 (key p5 hm) ⟨e',p1,p2,p3,fun j hj=>.inl (p4 j hj),A9S hk hz hm p7 p8⟩
 ·cases hr
end Go.Vm
end