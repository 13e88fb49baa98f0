/- What the operations of a program do, shown once for all programs; and numbers. -/
import Derived.Test.YtgnfgafiegimoaaVm2
import Derived.ChangeKeysEq
import Derived.Laws.BytesString
set_option linter.constructorNameAsVariable false
set_option linter.unusedVariables false
set_option linter.unusedSimpArgs false
noncomputable section
namespace Go.Vm
open Go.RowKit
variable {P:Program} {T:TT} {c:N5} {e:B2} {of:Nat→Option Ob}
def ieq:Int→Int→Bool
 | .ofNat a,.ofNat b=>Nat.beq a b
 | .negSucc a,.negSucc b=>Nat.beq a b
 | _,_=>false
theorem Z3 {a b:Int}:ieq a b=true↔a=b:=by
 cases a<;>cases b<;>simp [ieq]
 exact Int.ofNat_inj.symm
theorem A4j (a b:Int):ieq a b=(a == b):=by
 rw [Bool.eq_iff_iff,Z3];simp
mutual
def V8:V→V→Bool
 | .i a,.i b=>ieq a b
 | .b a,.b b=>a == b
 | .s a,.s b=>A1z a b
 | .l a,.l b=>A1z a b
 | .n,.n=>true
 | .f a,.f b=>Nat.beq a b
 | _,_=>false
def A1z:List V→List V→Bool
 | [],[]=>true
 | a::r,b::s=>V8 a b&&A1z r s
 | _,_=>false
end
mutual
theorem M6:∀ (a b:V),V8 a b=true↔a=b:=by
 intro a b
 cases a with
 | i n=>cases b<;>simp [V8,Z3]
 | b x=>cases b<;>simp [V8]
 | s l=>cases b<;>simp [V8,A0V l]
 | l xs=>cases b<;>simp [V8,A0V xs]
 | n=>cases b<;>simp [V8]
 | f n=>cases b<;>simp [V8]
theorem A0V:∀ (a b:List V),A1z a b=true↔a=b:=by
 intro a b
 cases a with
 | nil=>cases b<;>simp [A1z]
 | cons x r=>cases b with
  | nil=>simp [A1z]
  | cons y s=>simp [A1z,M6 x,A0V r]
end
theorem A0W (a:V):V8 a a=true:=(M6 a a).2 rfl
theorem B08 (a b:ByteArray):(a == b)=true↔a=b:=by
 obtain ⟨x⟩:=a
 obtain ⟨y⟩:=b
 constructor
 ·intro h
  have e:x=y:=by simpa using (show (x == y)=true from h)
  rw [e]
 ·intro h
  injection h with h
  subst h
  show (x == x)=true
  simp
theorem C1t (bs:ByteArray):∀ (n i:Nat) (r:List UInt8),bs.size - i=n→ByteArray.toList.loop bs i r=r.reverse++bs.data.toList.drop i:=by
 intro n
 induction n with
 | zero =>
  intro i r h
  rw [ByteArray.toList.loop]
  have:¬ i < bs.size:=by omega
  simp only [this,if_false]
  rw [List.drop_of_length_le (by rw [C6R];have:bs.size=bs.data.size:=rfl;omega)]
  simp
 | succ n ih =>
  intro i r h
  rw [ByteArray.toList.loop]
  have hi:i < bs.size:=by omega
  have hi2:i < bs.data.toList.length:=by rw [C6R];exact hi
  simp only [hi,if_true]
  rw [ih (i+1) _ (by omega),List.drop_eq_getElem_cons hi2]
  have hi3:i < bs.data.size:=hi
  have:bs.get! i=bs.data.toList[i]:=by
   show bs.data[i]! = _
   rw [getElem!_pos bs.data i hi3];simp
  rw [this];simp
theorem A14 (bs:ByteArray):bs.toList=bs.data.toList:=by
 have:=C1t bs bs.size 0 [] (by omega)
 simpa [ByteArray.toList] using this
theorem A4k {m n:ByteArray} (h:txt m=txt n):m=n:=by
 have h2:m.data.toList=n.data.toList:=by
  have:=congrArg (List.map fun v=>UInt8.ofNat v.int.toNat) h
  simpa [txt,V.int,Function.comp_def] using this
 have h3:m.data=n.data:=Array.ext' h2
 cases m;cases n;simp at h3;rw [h3]
def eqT (T:TT):Nat→Nat→Bool
 | 0,_=>false
 | f+1,t=>match T t with
  | some te=>match te.k with
   | .int _ | .bool | .str=>true
   | .arr _ el=>eqT T f el
   | .struct fs=>te.eq&&fs.all (eqT T f)
   | _=>false
  | none=>false
theorem A0X {t:Nat} {te:TE} (hT:H7 T P) (ht:T t=some te) {xs:Array Value} {pre d post:List Value} {off:Nat} {y:V} (hx:xs.toList=pre++(d++post)) (hp:pre.length=off) (hd:RV T e [t] [y] d) (w:World) :
  ∃ v,(part t xs off).run P w=.ok v w∧B6 T e (.v t y) v:=by
 have hl:=hd.one_len
 rw [H1 ht] at hl
 subst hp
 rcases A0n ht (RA.v1 hd) (L0 t y) with ⟨ha,hr⟩ | ⟨ha,v,rfl,hr⟩
 ·refine ⟨.agg (xs.extract pre.length (pre.length+te.size)),by simp [part,A21 (hT _ _ ht),ha,F0 (hT _ _ ht)],?_⟩
  have:xs.extract pre.length (pre.length+te.size)=d.toArray:=by
   apply Array.ext'
   rw [Array.toList_extract,hx,List.extract_eq_take_drop,List.drop_left,← hl]
   simp
  rw [this];exact hr
 ·have hv:xs[pre.length]? = some v:=by rw [← Array.getElem?_toList,hx];simp
  exact ⟨v,by simp [part,A21 (hT _ _ ht),ha,hv],hr⟩
theorem A6z {xs ys:List V} {i:Nat} {x y:V} (hx:xs[i]? = some x) (hy:ys[i]? = some y):A1z (xs.drop i) (ys.drop i)=(V8 x y&&A1z (xs.drop (i+1)) (ys.drop (i+1))):=by
 obtain ⟨h1,rfl⟩:=List.getElem?_eq_some_iff.1 hx
 obtain ⟨h2,rfl⟩:=List.getElem?_eq_some_iff.1 hy
 rw [List.drop_eq_getElem_cons h1,List.drop_eq_getElem_cons h2]
 rfl
theorem P2 {t:Nat} {x:V} {a:Value} (h:B6 T e (.v t x) a) (hk:∃ k,C0 T t=some k∧k.agg=true):∃ cs,a=.agg cs∧RV T e [t] [x] cs.toList:=by
 obtain ⟨cs,rfl⟩:=h.2.1 hk
 exact ⟨cs,rfl,h.1⟩
theorem A3Q (hT:H7 T P) (w:World):∀ (f:Nat) (t d:Nat) (x y:V) (a b:Value),eqT T f t=true→B6 T e (.v t x) a→B6 T e (.v t y) b→(Op.equalIn (d+f) t a b).run P w=.ok (V8 x y) w:=by
 intro f
 induction f with
 | zero=>intro t d x y a b h;simp [eqT] at h
 | succ f ih =>
  intro t d x y a b h ha hb
  simp only [eqT] at h
  split at h<;>try (cases h;done)
  rename_i te hte
  have hok:=hT _ _ hte
  have hkk:=J4 hte
  have T6:te.k.agg=false→RV T e [t] [x] [a]∧RV T e [t] [y] [b]:=fun hs=>⟨D5 ha ⟨_,hkk,hs⟩,D5 hb ⟨_,hkk,hs⟩⟩
  split at h
  ·rename_i k hk
   rw [hk] at hkk
   obtain ⟨q1,q2⟩:=T6 (by rw [hk];rfl)
   obtain ⟨m,rfl,hm,_⟩:=q1.int_inv hkk
   obtain ⟨n,rfl,hn,_⟩:=q2.int_inv hkk
   injection hm with hm;injection hn with hn
   subst hm;subst hn
   rw [show d+(f+1)=(d+f)+1 by omega]
   simp [Op.equalIn,A2 (Q6 hok hk),V8,A4j]
  ·rename_i hk
   rw [hk] at hkk
   obtain ⟨q1,q2⟩:=T6 (by rw [hk];rfl)
   obtain ⟨m,rfl,hm⟩:=q1.bool_inv hkk
   obtain ⟨n,rfl,hn⟩:=q2.bool_inv hkk
   injection hm with hm;injection hn with hn
   subst hm;subst hn
   rw [show d+(f+1)=(d+f)+1 by omega]
   simp [Op.equalIn,A2 (A0m hok hk),V8]
  ·rename_i hk
   rw [hk] at hkk
   obtain ⟨q1,q2⟩:=T6 (by rw [hk];rfl)
   obtain ⟨m,rfl,hm⟩:=q1.str_inv hkk
   obtain ⟨n,rfl,hn⟩:=q2.str_inv hkk
   injection hm with hm;injection hn with hn
   subst hm;subst hn
   rw [show d+(f+1)=(d+f)+1 by omega]
   simp only [Op.equalIn,Sem.run_bind,A2 (P5 hok hk),Result.andThen_ok,Sem.run_pure]
   congr 1
   rw [Bool.eq_iff_iff]
   simp only [V8,A0V,B08]
   exact ⟨fun h=>by rw [h],A4k⟩
  ·rename_i n el hk
   rw [hk] at hkk
   obtain ⟨as,rfl,hra⟩:=P2 ha ⟨_,hkk,rfl⟩
   obtain ⟨bs,rfl,hrb⟩:=P2 hb ⟨_,hkk,rfl⟩
   obtain ⟨xs,rfl,hxl,hxs⟩:=hra.arr_inv hkk
   obtain ⟨ys,rfl,hyl,hys⟩:=hrb.arr_inv hkk
   obtain ⟨tel,hel⟩:∃ tel,T el=some tel:=by
    cases f with
    | zero=>simp [eqT] at h
    | succ f=>simp only [eqT] at h;split at h<;>first | exact ⟨_,by assumption⟩ | cases h
   obtain ⟨i,dd,z,h1,h2,h3,_⟩:=(hT _ _ hel).fits
   have hc:P.cellsOf el=B4 T el:=by
    have:=F0 (hT _ _ hel) w
    rw [run_sizeOf w h1] at this
    injection this with this _
    rw [H1 hel];omega
   rw [show d+(f+1)=(d+f)+1 by omega,run_equalIn_array w (d+f) as bs (Q7 hok hk) h1,hc]
   have key:∀ (m k:Nat),k+m=n→(Op.eqItems (d+f) el (B4 T el) as bs (List.range' k m)).run P w=.ok (A1z (xs.drop k) (ys.drop k)) w:=by
    intro m
    induction m with
    | zero =>
     intro k hkm
     rw [List.drop_of_length_le (by omega),List.drop_of_length_le (by omega)]
     simp [Op.eqItems,A1z]
    | succ m ihm =>
     intro k hkm
     have hg:(List.replicate n el)[k]? = some el:=by rw [List.getElem?_replicate,if_pos (by omega)]
     obtain ⟨x',p1,d1,s1,e1,e2,e3,e4,e5⟩:=hxs.at hg
     obtain ⟨y',p2,d2,s2,g1,g2,g3,g4,g5⟩:=hys.at hg
     rw [List.take_replicate,B9,Nat.min_eq_left (by omega)] at e3 g3
     obtain ⟨u,r1,r2⟩:=A0X hT hel e2 e3 e5 w
     obtain ⟨v,r3,r4⟩:=A0X hT hel g2 g3 g5 w
     have r5:=ih el d x' y' u v h r2 r4
     rw [List.range'_succ]
     simp only [Op.eqItems,Sem.run_bind,r1,r3,r5,Result.andThen_ok]
     rw [A6z e1 g1]
     have r6:=ihm (k+1) (by omega)
     cases V8 x' y'
     ·simp
     ·simpa using r6
   have:=key n 0 (by omega)
   rw [List.range_eq_range']
   simpa [V8] using this
  ·rename_i fs hk
   rw [hk] at hkk
   simp only [C6L,List.all_eq_true] at h
   obtain ⟨heq,hall⟩:=h
   obtain ⟨as,rfl,hra⟩:=P2 ha ⟨_,hkk,rfl⟩
   obtain ⟨bs,rfl,hrb⟩:=P2 hb ⟨_,hkk,rfl⟩
   obtain ⟨xs,rfl,hxs⟩:=hra.struct_inv hkk
   obtain ⟨ys,rfl,hys⟩:=hrb.struct_inv hkk
   obtain ⟨gs,g1,g2,g3⟩:=M9 hok hk
   obtain ⟨k1,k2,k3⟩:=hok.eqok heq
   have hfs:P.fieldsOf t=gs:=by simp [Program.fieldsOf,g1]
   rw [show d+(f+1)=(d+f)+1 by omega,run_equalIn_struct w (d+f) t as bs (by rw [hfs];exact g1) k2,hfs]
   have key:∀ (m k:Nat),k+m=gs.toList.length→(Op.eqFields (d+f) as bs (gs.toList.drop k)).run P w=.ok (A1z (xs.drop k) (ys.drop k)) w:=by
    intro m
    have hlx:=hxs.length.2
    have hly:=hys.length.2
    have hlf:fs.length=gs.toList.length:=by rw [← g2,C6O]
    induction m with
    | zero =>
     intro k hkm
     rw [List.drop_of_length_le (by omega),List.drop_of_length_le (by omega),List.drop_of_length_le (by omega)]
     simp [Op.eqFields,A1z]
    | succ m ihm =>
     intro k hkm
     have hlt:k < gs.toList.length:=by omega
     have hg:fs[k]? = some gs.toList[k].type:=by rw [← g2,List.getElem?_map,C6X hlt];rfl
     have hmem:gs.toList[k].type∈fs:=List.mem_of_getElem? hg
     have hoff:=g3 k gs.toList[k] (by simp)
     obtain ⟨x',p1,d1,s1,e1,e2,e3,e4,e5⟩:=hxs.at hg
     obtain ⟨y',p2,d2,s2,q1,q2,q3,q4,q5⟩:=hys.at hg
     have hft:=hall _ hmem
     obtain ⟨tel,hel⟩:∃ tel,T gs.toList[k].type=some tel:=by
      cases f with
      | zero=>simp [eqT] at hft
      | succ f=>simp only [eqT] at hft;split at hft<;>first | exact ⟨_,by assumption⟩ | cases hft
     obtain ⟨u,r1,r2⟩:=A0X hT hel e2 (e3.trans hoff.symm) e5 w
     obtain ⟨v,r3,r4⟩:=A0X hT hel q2 (q3.trans hoff.symm) q5 w
     have r5:=ih _ d x' y' u v hft r2 r4
     have hnm:=k3 gs g1 gs.toList[k] (List.getElem_mem hlt)
     rw [List.drop_eq_getElem_cons hlt]
     simp only [Op.eqFields,hnm,ne_eq,not_false_eq_true,if_true,Sem.run_bind,r1,r3,r5,Result.andThen_ok]
     rw [A6z e1 q1]
     have r6:=ihm (k+1) (by omega)
     cases V8 x' y'
     ·simp
     ·simpa using r6
   have:=key gs.toList.length 0 (by omega)
   simpa [V8] using this
  ·cases h
variable {P:Program} {T:TT} {c:N5} {e:B2} {of:Nat→Option Ob}
def F7 (op:BinOp) (k:IntKind) (x y:Int):Int :=
 let a:=BitVec.ofInt k.bits x
 let b:=BitVec.ofInt k.bits y
 k.wrap (match op with
  | .and=>(a &&& b).toNat
  | .or=>(a ||| b).toNat
  | .xor=>(a ^^^ b).toNat
  | _=>(a &&& ~~~b).toNat:Nat)
def C5N:Int→Int→Bool
 | .ofNat a,.ofNat b=>Nat.ble a b
 | .ofNat _,.negSucc _=>false
 | .negSucc _,.ofNat _=>true
 | .negSucc a,.negSucc b=>Nat.ble b a
def C5O:Int→Int→Bool
 | .ofNat a,.ofNat b=>Nat.ble (a+1) b
 | .ofNat _,.negSucc _=>false
 | .negSucc _,.ofNat _=>true
 | .negSucc a,.negSucc b=>Nat.ble (b+1) a
@[simp] theorem ileN_dec (a b:Int):C5N a b=decide (a≤b):=by
 rw [Bool.eq_iff_iff,C6W]
 cases a with
 | ofNat m=>cases b with
  | ofNat n=>show Nat.ble m n=true↔_;rw [Nat.ble_eq];exact Int.ofNat_le.symm
  | negSucc n=>show false=true↔_;simp only [Int.ofNat_eq_natCast,Int.negSucc_eq];exact ⟨fun h=>(by cases h),fun h=>by omega⟩
 | negSucc m=>cases b with
  | ofNat n=>show true=true↔_;simp only [Int.ofNat_eq_natCast,Int.negSucc_eq];exact ⟨fun h=>by omega,fun h=>trivial⟩
  | negSucc n=>show Nat.ble n m=true↔_;rw [Nat.ble_eq];simp only [Int.negSucc_eq];omega
@[simp] theorem iltN_dec (a b:Int):C5O a b=decide (a < b):=by
 rw [Bool.eq_iff_iff,C6W]
 cases a with
 | ofNat m=>cases b with
  | ofNat n=>show Nat.ble (m+1) n=true↔_;rw [Nat.ble_eq];exact Int.ofNat_lt.symm
  | negSucc n=>show false=true↔_;simp only [Int.ofNat_eq_natCast,Int.negSucc_eq];exact ⟨fun h=>(by cases h),fun h=>by omega⟩
 | negSucc m=>cases b with
  | ofNat n=>show true=true↔_;simp only [Int.ofNat_eq_natCast,Int.negSucc_eq];exact ⟨fun h=>by omega,fun h=>trivial⟩
  | negSucc n=>show Nat.ble (n+1) m=true↔_;rw [Nat.ble_eq];simp only [Int.negSucc_eq];omega
def F9 (a b:Int):Bool:=C5N a b
def G0 (a b:Int):Bool:=C5O a b
def A7B (op:BinOp) (k:IntKind) (a b:Int):Option A :=
 match op with
 | .add=>some (.i k (k.wrap (a+b)))
 | .sub=>some (.i k (k.wrap (a - b)))
 | .mul=>some (.i k (k.wrap (a * b)))
 | .quo=>if ieq b 0 then none else some (.i k (k.wrap (a.tdiv b)))
 | .rem=>if ieq b 0 then none else some (.i k (a.tmod b))
 | .and=>some (.i k (F7 .and k a b))
 | .or=>some (.i k (F7 .or k a b))
 | .xor=>some (.i k (F7 .xor k a b))
 | .andNot=>some (.i k (F7 .andNot k a b))
 | .shl=>if F9 0 b then some (.i k (k.wrap (a * 2 ^ min b.toNat k.bits))) else none
 | .shr=>if F9 0 b then some (.i k (a.fdiv (2 ^ min b.toNat k.bits))) else none
 | .eql=>some (.b (ieq a b))
 | .neq=>some (.b (!ieq a b))
 | .lss=>some (.b (G0 a b))
 | .leq=>some (.b (F9 a b))
 | .gtr=>some (.b (G0 b a))
 | .geq=>some (.b (F9 b a))
def A4l:BinOp→Bool
 | .shl | .shr=>true
 | _=>false
def sLt:List V→List V→Bool
 | _,[]=>false
 | [],_::_=>true
 | a::x,b::y=>G0 a.int b.int||(ieq a.int b.int&&sLt x y)
def B09 (op:BinOp) (x y:List V):Option A :=
 match op with
 | .add=>if Nat.ble (x.length+y.length) LIM then some (.s (x++y)) else none
 | .eql=>some (.b (A1z x y))
 | .neq=>some (.b (!A1z x y))
 | .lss=>some (.b (sLt x y))
 | .leq=>some (.b (sLt x y||A1z x y))
 | .gtr=>some (.b (!(sLt x y||A1z x y)))
 | .geq=>some (.b (!sLt x y))
 | _=>none
def isN:V→Bool
 | .n=>true
 | _=>false
def C5P:Value→Nat
 | .pointer _=>0
 | .slice _ _ _=>1
 | .map _=>2
 | .func _ _ _ | .nilFunc=>3
 | _=>9
def A9f (T:TT) (t:Nat):Nat :=
 match C0 T t with
 | some (.ptr _)=>0
 | some (.slice _)=>1
 | some (.map _ _)=>2
 | some .func=>3
 | _=>8
def C1u (T:TT) (of:Nat→Option Ob):A→Option (Bool×Nat×List Nat)
 | .z v=>some (true,C5P v,[])
 | .v t x=>if Nat.ble (A9f T t) 3 then some (isN x,A9f T t,[]) else none
 | .p _ _ _ | .c _ _=>some (false,0,[])
 | .m _=>some (false,2,[])
 | .f _ _=>some (false,3,[])
 | .o id ver=>match of id with
  | some (.row _ v _ nl _)=>if Nat.beq v ver then some (nl,1,[id]) else none
  | _=>none
 | .w id ver _ _=>match of id with
  | some (.row _ v _ _ _)=>if Nat.beq v ver then some (false,1,[id]) else none
  | _=>none
 | .a _ _ _ _ _=>some (false,1,[])
 | _=>none
def isZ:A→Bool
 | .z _=>true
 | _=>false
def EQD:Nat:=8
def C4s:BinOp→Bool
 | .eql | .neq=>true
 | _=>false
def A5k (op:BinOp) (q:Bool):Bool :=
 match op with
 | .eql=>q
 | _=>!q
def C2J (T:TT) (of:Nat→Option Ob) (op:BinOp) (xt:Nat) (u v:A):Option (A×List Nat) :=
 match C1u T of u,C1u T of v with
 | some (p,k,r),some (q,k',s)=>if Nat.beq k k'&&Nat.beq k (A9f T xt) then some (.b (A5k op (p&&q)),r++s) else none
 | _,_=>none
def C2K (T:TT) (t:Nat):Bool :=
 match T t with
 | some te=>(te.k.agg&&te.eq)||(match te.k with | .bool=>true | _=>false)
 | none=>false
def B7C (T:TT) (op:BinOp) (xt:Nat) (u v:A):Option (A×List Nat) :=
 if eqT T EQD xt&&C2K T xt then (match R7 T xt u,R7 T xt v with
  | some a,some b=>match A3G a,A3G b with
   | some x,some y=>some (.b (A5k op (V8 x y)),[])
   | _,_=>none
  | _,_=>none) else none
def B1a (T:TT) (of:Nat→Option Ob) (op:BinOp) (xt:Nat) (u v:A):Option (A×List Nat) :=
 match u,v with
 | .i k a,.i k' b=>if A4l op||A58 k k' then (match A7B op k a b with
   | some r=>some (r,[])
   | none=>none) else none
 | .s a,.s b=>match B09 op a b with
  | some r=>some (r,[])
  | none=>none
 | u,v=>if C4s op then (if isZ u||isZ v then C2J T of op xt u v else B7C T op xt u v) else none
theorem Y1 (op:BinOp) (k:IntKind) (a b:Int) (w:World) (h:op=.and∨op=.or∨op=.xor∨op=.andNot):(Op.intBits op k a b).run P w=.ok (.int k (F7 op k a b)) w:=by
 rcases h with rfl | rfl | rfl | rfl<;>rfl
theorem A0w {op:BinOp} {t:TypeId} {x y:Operand} {a b:Value} {w:World} (ha:one a=true) (hb:a≠.nilIface):(eqGuard op t x y a b).run P w=.ok () w:=by
 unfold eqGuard
 cases op<;>simp<;>(cases a<;>simp_all [one])
theorem B7D {b:Int} (h:ieq b 0=false):b≠0:=by
 intro q;rw [Z3.2 q] at h;cases h
theorem S1 {k:IntKind} {a b:Int} (h:inR k a):inR k (a.tmod b):=by
 have h0:lo k≤0∧0≤hi k:=by cases k<;>simp [lo,hi]
 obtain ⟨h1,h2⟩:=h
 cases a with
 | ofNat m =>
  have e:Int.tmod (Int.ofNat m) b=((m % b.natAbs:Nat):Int):=by cases b<;>simp [Int.tmod]
  have:m % b.natAbs≤m:=Nat.mod_le _ _
  rw [e]
  constructor<;>simp only [Int.ofNat_eq_natCast] at h1 h2<;>omega
 | negSucc m =>
  have e:Int.tmod (Int.negSucc m) b = -(((m+1) % b.natAbs:Nat):Int):=by cases b<;>simp [Int.tmod]
  have:(m+1) % b.natAbs≤m+1:=Nat.mod_le _ _
  rw [e]
  rw [Int.negSucc_eq] at h1 h2
  constructor<;>omega
theorem S3 {k:IntKind} {a:Int} (s:Nat) (h:inR k a):inR k (a.fdiv (2 ^ s)):=by
 have h0:lo k≤0∧0≤hi k:=by cases k<;>simp [lo,hi]
 obtain ⟨h1,h2⟩:=h
 have hp:(0:Int) < 2 ^ s:=Int.pow_pos (by decide)
 rw [Int.fdiv_eq_ediv_of_nonneg _ (by omega)]
 constructor
 ·rcases Int.lt_or_le a 0 with hn | hn
  ·have:a≤a / 2 ^ s:=by
    rw [Int.le_ediv_iff_mul_le hp]
    have:=Int.mul_nonneg (show 0 ≤ -a by omega) (show (0:Int)≤2 ^ s - 1 by omega)
    rw [Int.mul_sub,Int.neg_mul,Int.mul_one] at this
    omega
   omega
  ·have:=Int.ediv_nonneg hn (show (0:Int)≤2 ^ s by omega);omega
 ·rcases Int.lt_or_le a 0 with hn | hn
  ·have:=Int.ediv_neg_of_neg_of_pos hn hp;omega
  ·have:=Int.ediv_le_self (2 ^ s) hn;omega
theorem A5Y {op:BinOp} {t:TypeId} {k k':IntKind} {a b:Int} {w:World} {r:A} (hra:inR k a) (hk:A4l op=true∨k=k') (h:A7B op k a b=some r) :
  ∃ v,(binOp op t (.int k a) (.int k' b)).run P w=.ok v w∧∀ e:B2,B6 T e r v:=by
 cases op
 case shl =>
  simp only [A7B] at h
  split at h
  ·rename_i hb
   injection h with h;subst h
   have:¬ b < 0:=by simp only [F9,ileN_dec,C6W] at hb;omega
   exact ⟨_,by simp [binOp,Op.shift,this]<;>rfl,fun e=>L9 (by first | exact M8 _ _ | exact S1 hra | exact S3 _ hra)⟩
  ·cases h
 case shr =>
  simp only [A7B] at h
  split at h
  ·rename_i hb
   injection h with h;subst h
   have:¬ b < 0:=by simp only [F9,ileN_dec,C6W] at hb;omega
   exact ⟨_,by simp [binOp,Op.shift,this]<;>rfl,fun e=>L9 (by first | exact M8 _ _ | exact S1 hra | exact S3 _ hra)⟩
  ·cases h
 all_goals
  have hk:k=k':=by rcases hk with hk | hk;cases hk;exact hk
  subst hk
  simp only [A7B] at h
 case quo =>
  split at h
  ·cases h
  ·rename_i hb
   injection h with h;subst h
   have hb:=B7D (by simpa using hb)
   exact ⟨_,by simp [binOp,Op.intDiv,hb]<;>rfl,fun e=>L9 (by first | exact M8 _ _ | exact S1 hra | exact S3 _ hra)⟩
 case rem =>
  split at h
  ·cases h
  ·rename_i hb
   injection h with h;subst h
   have hb:=B7D (by simpa using hb)
   exact ⟨_,by simp [binOp,Op.intDiv,hb]<;>rfl,fun e=>L9 (by first | exact M8 _ _ | exact S1 hra | exact S3 _ hra)⟩
 case and=>injection h with h;subst h;exact ⟨_,by simp [binOp];exact Y1 _ _ _ _ _ (by simp),fun e=>L9 (by first | exact M8 _ _ | exact S1 hra | exact S3 _ hra)⟩
 case or=>injection h with h;subst h;exact ⟨_,by simp [binOp];exact Y1 _ _ _ _ _ (by simp),fun e=>L9 (by first | exact M8 _ _ | exact S1 hra | exact S3 _ hra)⟩
 case xor=>injection h with h;subst h;exact ⟨_,by simp [binOp];exact Y1 _ _ _ _ _ (by simp),fun e=>L9 (by first | exact M8 _ _ | exact S1 hra | exact S3 _ hra)⟩
 case andNot=>injection h with h;subst h;exact ⟨_,by simp [binOp];exact Y1 _ _ _ _ _ (by simp),fun e=>L9 (by first | exact M8 _ _ | exact S1 hra | exact S3 _ hra)⟩
 case add=>injection h with h;subst h;exact ⟨_,by simp [binOp,Op.intArith]<;>rfl,fun e=>L9 (by first | exact M8 _ _ | exact S1 hra | exact S3 _ hra)⟩
 case sub=>injection h with h;subst h;exact ⟨_,by simp [binOp,Op.intArith]<;>rfl,fun e=>L9 (by first | exact M8 _ _ | exact S1 hra | exact S3 _ hra)⟩
 case mul=>injection h with h;subst h;exact ⟨_,by simp [binOp,Op.intArith]<;>rfl,fun e=>L9 (by first | exact M8 _ _ | exact S1 hra | exact S3 _ hra)⟩
 case eql=>injection h with h;subst h;exact ⟨_,by simp [binOp,Op.intCmp]<;>rfl,fun e=>by rw [A4j];exact A2B _⟩
 case neq=>injection h with h;subst h;exact ⟨_,by simp [binOp,Op.intCmp]<;>rfl,fun e=>by rw [A4j];exact A2B _⟩
 all_goals injection h with h;subst h;exact ⟨_,by simp [binOp,Op.intCmp,F9,G0]<;>rfl,fun e=>A2B _⟩
theorem B5e:∀ (x y:List UInt8),sLt (x.map fun b=>V.i (b.toNat:Int)) (y.map fun b=>V.i (b.toNat:Int))=Op.bytesLess x y:=by
 intro x
 induction x with
 | nil=>intro y;cases y<;>rfl
 | cons a x ih =>
  intro y
  cases y with
  | nil=>rfl
  | cons b y =>
   simp only [List.map_cons,sLt,Op.bytesLess,ih,V.int]
   have e1:G0 (a.toNat:Int) (b.toNat:Int)=decide (a < b):=by
    rw [G0,iltN_dec]
    rw [Bool.eq_iff_iff,C6W,C6W,UInt8.lt_iff_toNat_lt]
    omega
   have e2:ieq (a.toNat:Int) (b.toNat:Int)=(a == b):=by
    rw [Bool.eq_iff_iff,Z3,beq_iff_eq]
    constructor
    ·intro h;exact UInt8.toNat_inj.1 (by omega)
    ·rintro rfl;rfl
   rw [e1,e2]
theorem C4t (a b:ByteArray):A1z (txt a) (txt b)=(a.toList == b.toList):=by
 rw [Bool.eq_iff_iff,A0V,beq_iff_eq,A14,A14]
 constructor
 ·intro h;rw [A4k h]
 ·intro h
  have:a.data=b.data:=Array.ext' h
  cases a;cases b;simp at this;rw [this]
theorem C4u (a b:ByteArray):sLt (txt a) (txt b)=Op.bytesLess a.toList b.toList:=by
 rw [A14,A14];exact B5e _ _
theorem A0i (a:ByteArray):(txt a).length=a.size:=by unfold txt;rw [C6O,C6R];rfl
theorem A5Z {op:BinOp} {t:TypeId} {a b:ByteArray} {w:World} {r:A} (h:B09 op (txt a) (txt b)=some r) :
  ∃ v,(binOp op t (.string a) (.string b)).run P w=.ok v w∧∀ e:B2,B6 T e r v:=by
 cases op<;>simp only [B09,C4t,C4u,A0i] at h<;>try (cases h;done)
 case add =>
  split at h
  ·rename_i hl
   injection h with h;subst h
   have hl:=C6Q hl
   unfold LIM at hl
   have:¬ (((a.size+b.size:Nat):Int) > IntKind.i64.max):=by
    have e1:IntKind.i64.max=9223372036854775807:=rfl
    rw [e1];omega
   refine ⟨.string (a++b),by simp only [binOp,Op.stringOp,if_neg this];rfl,fun e=>?_⟩
   have:txt a++txt b=txt (a++b):=by
    unfold txt
    rw [ByteArray.data_append,Array.toList_append,List.map_append]
   rw [this];exact A8u _
  ·cases h
 all_goals injection h with h;subst h;exact ⟨_,rfl,fun e=>A2B _⟩
theorem RV.ptr_inv {t:Nat} {el:Nat} {x:V} {cs:List Value} (h:RV T e [t] [x] cs) (hk:C0 T t=some (.ptr el)):x=.n∧cs=[.pointer none]:=by
 cases h with
 | ptr h1 h2 h=>cases h;exact ⟨rfl,rfl⟩
 | int h1=>rw [hk] at h1;cases h1
 | bool h1=>rw [hk] at h1;cases h1
 | str h1=>rw [hk] at h1;cases h1
 | nils h1=>rw [hk] at h1;cases h1
 | map h1=>rw [hk] at h1;cases h1
 | func h1=>rw [hk] at h1;cases h1
 | fn h1=>rw [hk] at h1;cases h1
 | slice h1=>rw [hk] at h1;cases h1
 | arr h1=>rw [hk] at h1;cases h1
 | struct h1=>rw [hk] at h1;cases h1
theorem RV.map_inv {t:Nat} {k el:Nat} {x:V} {cs:List Value} (h:RV T e [t] [x] cs) (hk:C0 T t=some (.map k el)):x=.n∧cs=[.map none]:=by
 cases h with
 | map h1 h2 h=>cases h;exact ⟨rfl,rfl⟩
 | int h1=>rw [hk] at h1;cases h1
 | bool h1=>rw [hk] at h1;cases h1
 | str h1=>rw [hk] at h1;cases h1
 | ptr h1=>rw [hk] at h1;cases h1
 | nils h1=>rw [hk] at h1;cases h1
 | func h1=>rw [hk] at h1;cases h1
 | fn h1=>rw [hk] at h1;cases h1
 | slice h1=>rw [hk] at h1;cases h1
 | arr h1=>rw [hk] at h1;cases h1
 | struct h1=>rw [hk] at h1;cases h1
def NV (a:Value) (q:Bool) (k:Nat):Prop :=
 (k=0∧∃ p,a=.pointer p∧q=p.isNone)∨(k=1∧∃ p n c,a=.slice p n c∧q=p.isNone)∨(k=2∧∃ p,a=.map p∧q=p.isNone)∨(k=3∧((a=.nilFunc∧q=true)∨∃ f x y,a=.func f x y∧q=false))
theorem A6A {of':Nat→Option Ob} {u:A} {a:Value} {q:Bool} {k:Nat} {ro:List Nat} (h:A6 T c e of') (hn:C1u T of u=some (q,k,ro)) (ho:∀ id∈ro,of' id=of id) (hx:B6 T e u a):NV a q k:=by
 cases u<;>simp only [C1u] at hn<;>try (cases hn;done)
 case z v =>
  injection hn with hn;injection hn with h1 h2;injection h2 with h2 h3;subst h1;subst h2
  have hx:RA T e [.z v] [a]:=hx
  cases hx with
  | r g1 _ _=>exact g1.elim
  | z hz _ =>
   unfold A2w at hz
   split at hz
   ·exact .inl ⟨rfl,none,rfl,rfl⟩
   ·exact .inr (.inl ⟨rfl,none,0,0,rfl,rfl⟩)
   ·exact .inr (.inr (.inl ⟨rfl,none,rfl,rfl⟩))
   ·exact .inr (.inr (.inr ⟨rfl,.inl ⟨rfl,rfl⟩⟩))
   ·cases hz
 case v t x =>
  split at hn<;>try (cases hn;done)
  rename_i hkt
  injection hn with hn;injection hn with h1 h2;injection h2 with h2 h3;subst h1;subst h2
  have key:∀ k,C0 T t=some k→k.agg=false→RV T e [t] [x] [a]:=fun k hk hg=>D5 hx ⟨k,hk,hg⟩
  unfold A9f at hkt ⊢
  split at hkt<;>try (cases hkt;done)
  all_goals
   rename_i hk
   have hv:=key _ hk rfl
  ·obtain ⟨rfl,hq⟩:=hv.ptr_inv hk
   injection hq with hq;subst hq;exact .inl ⟨rfl,none,rfl,rfl⟩
  ·rcases hv.slice_inv hk with ⟨rfl,hq⟩ | ⟨ys,ds,ad,cap,rfl,hq,_⟩
   ·injection hq with hq _;subst hq;exact .inr (.inl ⟨rfl,_,_,_,rfl,rfl⟩)
   ·injection hq with hq _;subst hq;exact .inr (.inl ⟨rfl,_,_,_,rfl,rfl⟩)
  ·obtain ⟨rfl,hq⟩:=hv.map_inv hk
   injection hq with hq;subst hq;exact .inr (.inr (.inl ⟨rfl,none,rfl,rfl⟩))
  ·rcases hv.func_inv hk with ⟨rfl,hq⟩ | ⟨fn,rfl,hq⟩
   ·injection hq with hq;subst hq;exact .inr (.inr (.inr ⟨rfl,.inl ⟨rfl,rfl⟩⟩))
   ·injection hq with hq;subst hq;exact .inr (.inr (.inr ⟨rfl,.inr ⟨_,_,_,rfl,rfl⟩⟩))
 case p id t path =>
  injection hn with hn;injection hn with h1 h2;injection h2 with h2 h3;subst h1;subst h2
  obtain ⟨b,off,_,_,_,_,rfl⟩:=Q8 hx
  exact .inl ⟨rfl,_,rfl,rfl⟩
 case c t x =>
  injection hn with hn;injection hn with h1 h2;injection h2 with h2 h3;subst h1;subst h2
  have hx:RA T e [.c t x] [a]:=hx
  cases hx with
  | c _ _ _=>exact .inl ⟨rfl,_,rfl,rfl⟩
  | r g1 _ _=>exact g1.elim
 case m id =>
  injection hn with hn;injection hn with h1 h2;injection h2 with h2 h3;subst h1;subst h2
  have hx:RA T e [.m id] [a]:=hx
  cases hx with
  | r g1 _ _=>obtain ⟨b,_,_,_,rfl⟩:=g1;exact .inr (.inr (.inl ⟨rfl,_,rfl,rfl⟩))
 case f fn cap =>
  injection hn with hn;injection hn with h1 h2;injection h2 with h2 h3;subst h1;subst h2
  have hx:RA T e [.f fn cap] [a]:=hx
  cases hx with
  | f _ _=>exact .inr (.inr (.inr ⟨rfl,.inr ⟨_,_,_,rfl,rfl⟩⟩))
  | r g1 _ _=>exact g1.elim
 case o id ver =>
  split at hn<;>try (cases hn;done)
  rename_i el v xs nl sh hof
  split at hn<;>try (cases hn;done)
  rename_i hc
  have:=C6K hc;subst this
  injection hn with hn;injection hn with h1 h2;injection h2 with h2 h3;subst h1;subst h2;subst h3
  obtain ⟨v0,v1,v2,v3,v4,v5,h6⟩:=L1 h ((ho id (by simp)).trans hof)
  rcases h6 with ⟨rfl,g1,_⟩ | ⟨rfl,b,o,cs,ty,fz,pre,ys,post,h1,_⟩
  ·rcases L4 hx v2 with ⟨_,_,rfl⟩ | ⟨b,o,cap,k,k1,_⟩
   ·exact .inr (.inl ⟨rfl,_,_,_,rfl,rfl⟩)
   ·rw [g1] at k1;cases k1
  ·rcases L4 hx v2 with ⟨k1,_,_⟩ | ⟨b,o,cap,k,k1,_,_,_,rfl⟩
   ·rw [h1] at k1;cases k1
   ·exact .inr (.inl ⟨rfl,_,_,_,rfl,rfl⟩)
 case w id ver off n =>
  split at hn<;>try (cases hn;done)
  rename_i el v xs nl sh hof
  split at hn<;>try (cases hn;done)
  rename_i hc
  have:=C6K hc;subst this
  injection hn with hn;injection hn with h1 h2;injection h2 with h2 h3;subst h1;subst h2;subst h3
  obtain ⟨v0,v1,v2,_⟩:=L1 h ((ho id (by simp)).trans hof)
  obtain ⟨b,o,cap,k,_,_,_,_,_,rfl⟩:=Q9 hx v2
  exact .inr (.inl ⟨rfl,_,_,_,rfl,rfl⟩)
 case a id t path lo m =>
  injection hn with hn;injection hn with h1 h2;injection h2 with h2 h3;subst h1;subst h2
  obtain ⟨b,off,n,el,k,cap,_,_,_,_,_,_,_,_,rfl⟩:=U1 hx
  exact .inr (.inl ⟨rfl,_,_,_,rfl,rfl⟩)
theorem A7C {t:Nat} {u a:A} {x:V} {v:Value} {te:TE} (hte:T t=some te) (hu:B6 T e u v) (ha:R7 T t u=some a) (hp:A3G a=some x):B6 T e (.v t x) v:=by
 obtain ⟨r1,r2⟩:=A1T hu ha
 have r3:=A4r r1 r2 hp
 rcases A0n hte (RA.v1 r3) (L0 t x) with ⟨ha',hr⟩ | ⟨ha',w,hw,hr⟩
 ·have hcs:∃ cs,v=.agg cs:=by
   cases u with
   | v t' y =>
    simp only [R7] at ha
    split at ha
    ·rename_i hs
     obtain ⟨p,q⟩:=B5 hs
     exact hu.2.1 ⟨te.k,by rw [← p];exact J4 hte,ha'⟩
    ·cases ha
   | g t' l=>exact hu.2
   | i k n =>
    simp only [R7] at ha
    split at ha
    ·rename_i hf
     rw [C9 hu] at r3
     have:=r3
     simp only [Value.cells] at this
     exfalso
     simp only [C1,C6L] at hf
     obtain ⟨hf,_⟩:=hf
     split at hf
     ·rename_i hk;rw [J4 hte] at hk;injection hk with hk;rw [hk] at ha';cases ha'
     ·cases hf
    ·cases ha
   | b q =>
    simp only [R7] at ha
    split at ha
    ·rename_i hf
     exfalso
     simp only [C1,C6L] at hf
     obtain ⟨hf,_⟩:=hf
     split at hf
     ·rename_i hk;rw [J4 hte] at hk;injection hk with hk;rw [hk] at ha';cases ha'
     ·cases hf
    ·cases ha
   | s q =>
    simp only [R7] at ha
    split at ha
    ·rename_i hf
     exfalso
     simp only [C1,C6L] at hf
     obtain ⟨hf,_⟩:=hf
     split at hf
     ·rename_i hk;rw [J4 hte] at hk;injection hk with hk;rw [hk] at ha';cases ha'
     ·cases hf
    ·cases ha
   | z y =>
    simp only [R7] at ha
    split at ha<;>try (cases ha;done)
    all_goals (rename_i hk;rw [J4 hte] at hk;injection hk with hk;rw [hk] at ha';cases ha')
   | _ =>
    simp only [R7] at ha
    try (split at ha)
    all_goals first | (cases ha;done) | (injection ha with ha;subst ha;simp [A3G] at hp)
  obtain ⟨cs,rfl⟩:=hcs
  simpa [Value.cells] using hr
 ·have ho:one v=true:=by
   cases v<;>first | rfl | skip
   ·rename_i cs
    exfalso
    have hag:te.k.agg=true:=by
     cases u with
     | v t' y =>
      simp only [R7] at ha
      split at ha
      ·rename_i hs
       obtain ⟨p,q⟩:=B5 hs
       obtain ⟨k,k1,k2⟩:=hu.2.2 ⟨_,rfl⟩
       rw [← p,J4 hte] at k1
       injection k1 with k1;rw [k1];exact k2
      ·cases ha
     | g t' l =>
      simp only [R7] at ha
      split at ha
      ·injection ha with ha;subst ha;simp [A3G] at hp
      ·cases ha
     | i k n=>cases C9 hu
     | b q=>cases Z8 hu
     | s q=>obtain ⟨_,h,_⟩:=U3 hu;cases h
     | z y =>
      have hu:RA T e [.z y] [_]:=hu
      have:=hu.one_ (.agg cs) (by simp)
      simp [one] at this
     | _ =>
      simp only [R7] at ha
      try (split at ha)
      all_goals first | (cases ha;done) | (injection ha with ha;subst ha;simp [A3G] at hp)
    rw [hag] at ha';cases ha'
   ·rename_i cs
    have:=r3.one _ (show Value.tuple cs∈_ by simp [Value.cells])
    simp [one] at this
  rw [G8 ho] at hw
  injection hw with hw;subst hw
  exact hr
theorem C4v {t el:Nat} (hu:P.underlying t=some (.pointer el)) (d:Nat) {p q:Option Addr} (h:p=none∨q=none) (w:World):(Op.equalIn (d+1) t (.pointer p) (.pointer q)).run P w=.ok (p.isNone&&q.isNone) w:=by
 cases p<;>cases q<;>simp [Op.equalIn,A2 hu] at h ⊢
theorem C4w {t el:Nat} (hu:P.underlying t=some (.slice el)) (d:Nat) {p q:Option Addr} {n k n' k':Nat} (h:p=none∨q=none) (w:World):(Op.equalIn (d+1) t (.slice p n k) (.slice q n' k')).run P w=.ok (p.isNone&&q.isNone) w:=by
 cases p<;>cases q<;>simp [Op.equalIn,A2 hu] at h ⊢
theorem C4x {t kt el:Nat} (hu:P.underlying t=some (.map kt el)) (d:Nat) {p q:Option Nat} (h:p=none∨q=none) (w:World):(Op.equalIn (d+1) t (.map p) (.map q)).run P w=.ok (p.isNone&&q.isNone) w:=by
 cases p<;>cases q<;>simp [Op.equalIn,A2 hu] at h ⊢
theorem C4y {t:Nat} {ps rs:Array TypeId} {vr:Bool} (hu:P.underlying t=some (.func ps rs vr)) (d:Nat) (w:World):(Op.equalIn (d+1) t .nilFunc .nilFunc).run P w=.ok true w:=by
 simp [Op.equalIn,A2 hu]
theorem C4z {t:Nat} {ps rs:Array TypeId} {vr:Bool} (hu:P.underlying t=some (.func ps rs vr)) (d:Nat) (f:Fn) (x y:Array Value) (w:World):(Op.equalIn (d+1) t .nilFunc (.func f x y)).run P w=.ok false w:=by
 simp [Op.equalIn,A2 hu]
theorem C4A {t:Nat} {ps rs:Array TypeId} {vr:Bool} (hu:P.underlying t=some (.func ps rs vr)) (d:Nat) (f:Fn) (x y:Array Value) (w:World):(Op.equalIn (d+1) t (.func f x y) .nilFunc).run P w=.ok false w:=by
 simp [Op.equalIn,A2 hu]
theorem B5f (hT:H7 T P) {of':Nat→Option Ob} {op:BinOp} {xt:TypeId} {x y:Operand} {u v r:A} {a b:Value} {ro:List Nat} (h:A6 T c e of') (hx:B6 T e u a) (hy:B6 T e v b) (hb:B1a T of op xt u v=some (r,ro)) (ho:∀ id∈ro,of' id=of id) :
  C7 P (do pure (.value (← (do eqGuard op xt x y a b;binOp op xt a b)))) e.w (D1 T c e of' ⟨r,[],ro,[]⟩):=by
 unfold B1a at hb
 split at hb
 ·rename_i k a' k' b'
  split at hb<;>try (cases hb;done)
  rename_i hc
  split at hb<;>try (cases hb;done)
  rename_i r' hr
  injection hb with hb;injection hb with h1 h2;subst h1;subst h2
  simp only [Bool.or_eq_true] at hc
  obtain ⟨w,h1,h2⟩:=A5Y (P:=P) (T:=T) (t:=xt) (w:=e.w) (S7 hx) (hc.imp (fun q=>q) A1p) hr
  rw [C9 hx,C9 hy]
  refine A1 ?_ (A7 h (h2 e))
  have hg:=A0w (P:=P) (op:=op) (t:=xt) (x:=x) (y:=y) (a:=.int k a') (b:=.int k' b') (w:=e.w) rfl (by simp)
  simp [hg,h1]
 ·rename_i a' b'
  split at hb<;>try (cases hb;done)
  rename_i r' hr
  injection hb with hb;injection hb with h1 h2;subst h1;subst h2
  obtain ⟨s1,rfl,rfl⟩:=U3 hx
  obtain ⟨s2,rfl,rfl⟩:=U3 hy
  obtain ⟨w,h1,h2⟩:=A5Z (P:=P) (T:=T) (t:=xt) (w:=e.w) hr
  refine A1 ?_ (A7 h (h2 e))
  have hg:=A0w (P:=P) (op:=op) (t:=xt) (x:=x) (y:=y) (a:=.string s1) (b:=.string s2) (w:=e.w) rfl (by simp)
  simp [hg,h1]
 ·rename_i u v _ _
  split at hb<;>try (cases hb;done)
  rename_i hop
  split at hb
  ·-- with nil
   rename_i hz
   unfold C2J at hb
   split at hb<;>try (cases hb;done)
   rename_i p k1 r1 q k2 s1 hu hv
   split at hb<;>try (cases hb;done)
   rename_i hn
   simp only [C6L] at hn
   have hk12:=C6K hn.1
   have hkt:=C6K hn.2
   subst hk12
   injection hb with hb;injection hb with h1 h2;subst h1;subst h2
   have ha:=A6A h hu (fun id A3=>ho id (by simp [A3])) hx
   have hbb:=A6A h hv (fun id A3=>ho id (by simp [A3])) hy
   have zz:∀ {w:A} {d:Value},isZ w=true→B6 T e w d→A2w d=true:=fun {w d} hw hd=>by
    cases w<;>simp only [isZ] at hw<;>try (cases hw;done)
    have hd:RA T e [.z _] [d]:=hd
    cases hd with
    | z g _=>exact g
    | r g1 _ _=>exact g1.elim
   have hnil:A2w a=true∨A2w b=true:=by
    simp only [Bool.or_eq_true] at hz
    exact hz.imp (fun q=>zz q hx) (fun q=>zz q hy)
   have run:(Op.equal xt a b).run P e.w=.ok (p&&q) e.w∧a≠.nilIface∧one a=true∧(∀ o,o=.eql∨o=.neq→binOp o xt a b=(do let r ← Op.equal xt a b;pure (.bool (if o=.eql then r else !r)))):=by
    unfold A9f at hkt
    split at hkt
    ·rename_i el hk
     obtain ⟨te,h1,h2⟩:=A8 hk
     subst hkt
     obtain ⟨d,d1,d2⟩:=T7 (hT _ _ h1)
     rw [h2] at d2
     cases d<;>simp only [TK.fits] at d2
     rcases ha with ⟨_,p',rfl,rfl⟩ | ⟨q0,_⟩ | ⟨q0,_⟩ | ⟨q0,_⟩<;>try (cases q0;done)
     rcases hbb with ⟨_,q',rfl,rfl⟩ | ⟨q0,_⟩ | ⟨q0,_⟩ | ⟨q0,_⟩<;>try (cases q0;done)
     refine ⟨?_,by simp,rfl,fun o ho=>by rcases ho with rfl | rfl<;>simp [binOp]⟩
     exact C4v d1 9999 (hnil.imp (fun q=>by cases p'<;>first | rfl | (simp [A2w] at q;done)) (fun q=>by cases q'<;>first | rfl | (simp [A2w] at q;done))) e.w
    ·rename_i el hk
     obtain ⟨te,h1,h2⟩:=A8 hk
     subst hkt
     have d1:=F3 (hT _ _ h1) h2
     rcases ha with ⟨q0,_⟩ | ⟨_,p',n1,c1,rfl,rfl⟩ | ⟨q0,_⟩ | ⟨q0,_⟩<;>try (cases q0;done)
     rcases hbb with ⟨q0,_⟩ | ⟨_,q',n2,c2,rfl,rfl⟩ | ⟨q0,_⟩ | ⟨q0,_⟩<;>try (cases q0;done)
     refine ⟨?_,by simp,rfl,fun o ho=>by rcases ho with rfl | rfl<;>simp [binOp]⟩
     exact C4w d1 9999 (hnil.imp (fun q=>by cases p'<;>first | rfl | (simp [A2w] at q;done)) (fun q=>by cases q'<;>first | rfl | (simp [A2w] at q;done))) e.w
    ·rename_i k el hk
     obtain ⟨te,h1,h2⟩:=A8 hk
     subst hkt
     have d1:=L3 (hT _ _ h1) h2
     rcases ha with ⟨q0,_⟩ | ⟨q0,_⟩ | ⟨_,p',rfl,rfl⟩ | ⟨q0,_⟩<;>try (cases q0;done)
     rcases hbb with ⟨q0,_⟩ | ⟨q0,_⟩ | ⟨_,q',rfl,rfl⟩ | ⟨q0,_⟩<;>try (cases q0;done)
     refine ⟨?_,by simp,rfl,fun o ho=>by rcases ho with rfl | rfl<;>simp [binOp]⟩
     exact C4x d1 9999 (hnil.imp (fun q=>by cases p'<;>first | rfl | (simp [A2w] at q;done)) (fun q=>by cases q'<;>first | rfl | (simp [A2w] at q;done))) e.w
    ·rename_i hk
     obtain ⟨te,h1,h2⟩:=A8 hk
     subst hkt
     obtain ⟨d,d1,d2⟩:=T7 (hT _ _ h1)
     rw [h2] at d2
     cases d<;>simp only [TK.fits] at d2
     rcases ha with ⟨q0,_⟩ | ⟨q0,_⟩ | ⟨q0,_⟩ | ⟨_,⟨rfl,rfl⟩ | ⟨f1,x1,y1,rfl,rfl⟩⟩<;>try (cases q0;done)
     all_goals (rcases hbb with ⟨q0,_⟩ | ⟨q0,_⟩ | ⟨q0,_⟩ | ⟨_,⟨rfl,rfl⟩ | ⟨f2,x2,y2,rfl,rfl⟩⟩<;>try (cases q0;done))
     all_goals first | (refine ⟨?_,by simp,rfl,fun o ho=>by rcases ho with rfl | rfl<;>simp [binOp]⟩;first | exact C4y d1 9999 e.w | exact C4z d1 9999 _ _ _ e.w | exact C4A d1 9999 _ _ _ e.w) | (simp [A2w] at hnil;done)
    ·subst hkt
     rcases ha with ⟨q0,_⟩ | ⟨q0,_⟩ | ⟨q0,_⟩ | ⟨q0,_⟩<;>cases q0
   obtain ⟨z1,z2,z3,z4⟩:=run
   have hg:=A0w (P:=P) (op:=op) (t:=xt) (x:=x) (y:=y) (a:=a) (b:=b) (w:=e.w) z3 z2
   refine A1 ?_ (A7 h (A2B _))
   cases op<;>simp only [C4s] at hop<;>try (cases hop;done)
   ·simp [hg,z4 .eql (.inl rfl),z1,A5k]
   ·simp [hg,z4 .neq (.inr rfl),z1,A5k]
  ·unfold B7C at hb
   split at hb<;>try (cases hb;done)
   rename_i hc
   split at hb<;>try (cases hb;done)
   rename_i a1 b1 ha hb1
   split at hb<;>try (cases hb;done)
   rename_i xv yv hxv hyv
   injection hb with hb;injection hb with h1 h2;subst h1;subst h2
   simp only [C6L] at hc
   obtain ⟨hc1,hc2⟩:=hc
   unfold C2K at hc2
   split at hc2<;>try (cases hc2;done)
   rename_i te hte
   have ra:=A7C hte hx ha hxv
   have rb:=A7C hte hy hb1 hyv
   have hrun:=A3Q hT e.w EQD xt 9992 xv yv a b hc1 ra rb
   have hrun:(Op.equal xt a b).run P e.w=.ok (V8 xv yv) e.w:=hrun
   simp only [Bool.or_eq_true,C6L] at hc2
   have fin:(eqGuard op xt x y a b).run P e.w=.ok () e.w→(∀ o,o=.eql∨o=.neq→binOp o xt a b=(do let r ← Op.equal xt a b;pure (.bool (if o=.eql then r else !r))))→C7 P (do pure (.value (← (do eqGuard op xt x y a b;binOp op xt a b)))) e.w (D1 T c e of' ⟨.b (A5k op (V8 xv yv)),[],[],[]⟩):=fun hg hb'=>by
    refine A1 ?_ (A7 h (A2B _))
    cases op<;>simp only [C4s] at hop<;>try (cases hop;done)
    ·simp [hg,hb' .eql (.inl rfl),hrun,A5k]
    ·simp [hg,hb' .neq (.inr rfl),hrun,A5k]
   rcases hc2 with ⟨hag,heq⟩ | hbo
   ·obtain ⟨as,rfl,_⟩:=P2 ra ⟨_,J4 hte,hag⟩
    obtain ⟨bs,rfl,_⟩:=P2 rb ⟨_,J4 hte,hag⟩
    have hg:(eqGuard op xt x y (.agg as) (.agg bs)).run P e.w=.ok () e.w:=by
     unfold eqGuard
     cases op<;>simp [((hT _ _ hte).eqok heq).1]
    exact fin hg (fun o ho=>by rcases ho with rfl | rfl<;>simp [binOp])
   ·split at hbo<;>try (cases hbo;done)
    rename_i hk
    have hkk:=J4 hte
    rw [hk] at hkk
    obtain ⟨m,rfl,hm⟩:=(D5 ra ⟨_,hkk,rfl⟩).bool_inv hkk
    obtain ⟨n,rfl,hn⟩:=(D5 rb ⟨_,hkk,rfl⟩).bool_inv hkk
    injection hm with hm;injection hn with hn
    subst hm;subst hn
    exact fin (A0w rfl (by simp)) (fun o ho=>by rcases ho with rfl | rfl<;>simp [binOp])
variable {P:Program} {T:TT} {c:N5} {e:B2} {of:Nat→Option Ob}
def B1b (of:Nat→Option Ob) (id ver:Nat):Bool :=
 match of id with
 | some (.row _ v _ _ _)=>Nat.beq v ver
 | _=>false
def A2s (T:TT) (of:Nat→Option Ob) (s f:Nat) (u:A):Option (A×List Nat) :=
 match C0 T s with
 | some (.struct fs)=>match fs[f]? with
  | some ft=>if Nat.blt 0 (B4 T ft) then
    match u with
    | .p id t path=>if H8 T s t then some (.p id ft (path++[f]),[]) else none
    | .e id ver i t path=>if H8 T s t&&B1b of id ver then some (.e id ver i ft (path++[f]),[id]) else none
    | .c t y=>if H8 T s t then some (.c ft (y.nth f),[]) else none
    | _=>none
   else none
  | none=>none
 | _=>none
theorem A15 {t:Nat} {y:V} {x:Value} (h:B6 T e (.c t y) x):∃ a ds,x=.pointer (some a)∧RV T e [t] [y] ds∧Fz e a ds:=by
 have h:RA T e [.c t y] [x]:=h
 cases h with
 | c h1 h2 h3=>exact ⟨_,_,rfl,h1,h2⟩
 | r g1 _ _=>exact g1.elim
theorem Fz.part {a:Addr} {pre d post:List Value} (h:Fz e a (pre++(d++post))):Fz e (a.add pre.length) d:=by
 by_cases hd:d=[]
 ·subst hd;exact ⟨fun q=>absurd rfl q,fun j y hj=>by simp at hj⟩
 obtain ⟨b,o,s⟩:=a
 have hs:s=none:=h.1 (by simp [hd])
 subst hs
 rw [D0]
 refine ⟨fun _=>rfl,fun j y hj=>?_⟩
 have:=h.2 (pre.length+j) y (N6 hj)
 rw [D0] at this ⊢
 rw [Nat.add_assoc]
 exact ⟨this.1,by have:=this.2;simp only [Nat.add_assoc] at this ⊢;exact this⟩
theorem A3s {of':Nat→Option Ob} (h:A6 T c e of') {id ver:Nat} (hc:B1b of id ver=true) (ho:of' id=of id):e.bn id=ver:=by
 unfold B1b at hc
 split at hc
 ·rename_i el v xs nl sh hof
  have:=C6K hc
  subst this
  exact (L1 h (ho.trans hof)).2.2.1
 ·cases hc
theorem A50 (hT:H7 T P) {of':Nat→Option Ob} {s f:Nat} {u r:A} {x:Value} {ro:List Nat} (h:A6 T c e of') (hr:A2s T of s f u=some (r,ro)) (ho:∀ id∈ro,of' id=of id) (hx:B6 T e u x) :
  C7 P (do pure (.value (← Instr.fieldAt s x f))) e.w (D1 T c e of' ⟨r,[],ro,[]⟩):=by
 unfold A2s at hr
 split at hr<;>try (cases hr;done)
 rename_i fs hk
 obtain ⟨te,h1,h2⟩:=A8 hk
 obtain ⟨gs,g1,g2,g3⟩:=M9 (hT _ _ h1) h2
 split at hr<;>try (cases hr;done)
 rename_i ft hft
 obtain ⟨g,hg,rfl⟩:=Z5 g2 hft
 have hoff:=g3 _ _ hg
 split at hr<;>try (cases hr;done)
 rename_i hz
 have hz:0 < B4 T g.type:=by simpa using hz
 obtain ⟨tf,htf⟩:∃ tf,T g.type=some tf:=by
  cases hq:T g.type with
  | none=>simp [B4,hq] at hz
  | some tf=>exact ⟨tf,rfl⟩
 have run:∀ a:Addr,(Instr.fieldAt s (.pointer (some a)) f).run P e.w=.ok (.pointer (some (a.add g.offset))) e.w:=fun a=>by
  have:tf.size≠0:=by rw [H1 htf] at hz;omega
  simp [Instr.fieldAt,A2 g1,hg,Instr.sureAddr,fieldPlace,F0 (hT _ _ htf),this]
 have pth:∀ t,H8 T s t=true→Pth T t [f] g.type g.offset:=fun t hs=>by
  have:=Pth.fld (T:=T) (t:=t) ((B5 hs).1.symm.trans hk) hft .nil
  rw [Nat.add_zero,← hoff] at this
  exact this
 split at hr
 ·rename_i id t path
  split at hr<;>try (cases hr;done)
  rename_i hs
  injection hr with hr;injection hr with h1 h2;subst h1;subst h2
  obtain ⟨b,off,u1,u2,u3,u4,rfl⟩:=Q8 hx
  refine A1 (run _) (A7 h ?_)
  rw [D0]
  exact A5G u1 u2 u3 (u4.append (pth t hs))
 ·rename_i id ver i t path
  split at hr<;>try (cases hr;done)
  rename_i hs
  injection hr with hr;injection hr with h1 h2;subst h1;subst h2
  simp only [C6L] at hs
  have hv:=A3s h hs.2 (ho _ (by simp))
  have hx':RA T e [.e id ver i t path] [x]:=hx
  cases hx' with
  | r k1 k2 _ =>
   obtain ⟨_,u1,u2,u3,u4⟩:=k1
   obtain ⟨b,o,off,q1,q2,q3,rfl⟩:=u4 hv
   refine A1 (run _) (A7 h ?_)
   rw [D0]
   exact RA.r ⟨rfl,u1,u2,u3,fun _=>⟨b,o,_,q1,q2.append (pth t hs.1),q3,by rw [Nat.add_assoc (o+_)]⟩⟩ rfl .nil
 ·rename_i t y
  split at hr<;>try (cases hr;done)
  rename_i hs
  injection hr with hr;injection hr with h1 h2;subst h1;subst h2
  obtain ⟨a,ds,rfl,q1,q2⟩:=A15 hx
  refine A1 (run _) (A7 h ?_)
  obtain ⟨ys,rfl,hy⟩:=q1.struct_inv ((B5 hs).1.symm.trans hk)
  obtain ⟨z,pre,d,post,k1,rfl,k2,k3,k4⟩:=hy.at hft
  rw [A2x k1,hoff,← k2]
  exact RA.c k4 q2.part .nil
 ·cases hr
def A0j (T:TT) (of:Nat→Option Ob) (t:Nat) (i:Int) (u:A):Option (A×List Nat) :=
 match C0 T t with
 | some (.arr n el)=>if F9 0 i&&G0 i n&&(T el).isSome then
   match u with
   | .p id t' path=>if H8 T t t' then some (.p id el (path++[i.toNat]),[]) else none
   | .e id ver j t' path=>if H8 T t t'&&B1b of id ver then some (.e id ver j el (path++[i.toNat]),[id]) else none
   | .c t' y=>if H8 T t t' then some (.c el (y.nth i.toNat),[]) else none
   | _=>none
  else none
 | some (.slice el)=>if F9 0 i&&(T el).isSome then
   match u with
   | .o id ver=>match of id with
    | some (.row el' v xs _ _)=>if Nat.beq el el'&&Nat.beq v ver&&G0 i xs.length then some (.e id ver i.toNat el [],[id]) else none
    | _=>none
   | .w id ver off n=>match of id with
    | some (.row el' v xs _ _)=>if Nat.beq el el'&&Nat.beq v ver&&G0 i n then some (.e id ver (off+i.toNat) el [],[id]) else none
    | _=>none
   | .v t' y=>if H8 T t t'&&G0 i y.els.length then some (.c el (y.nth i.toNat),[]) else none
   | .q t' y=>if H8 T t t'&&G0 i y.els.length then some (.c el (y.nth i.toNat),[]) else none
   | .a id t1 path l0 m=>match C0 T t1 with
    | some (.arr _ el')=>if Nat.beq el el'&&G0 i m then some (.p id el (path++[l0+i.toNat]),[]) else none
    | _=>none
   | _=>none
  else none
 | _=>none
theorem E5 {a b:Int}:F9 a b=true↔a≤b:=by simp [F9]
theorem G5 {a b:Int}:G0 a b=true↔a < b:=by simp [G0]
theorem A7D {t n el i:Nat} (hk:C0 T t=some (.arr n el)) (hi:i < n):Pth T t [i] el (i * B4 T el):=by
 have:=Pth.idx (T:=T) hk hi .nil
 rwa [Nat.add_zero] at this
theorem B2T {el n:Nat} {ys:List V} {ds:List Value} {a:Addr} (h:RV T e (List.replicate n el) ys ds) (hf:Fz e a ds) {i:Nat} (hi:i < n):RA T e [.c el ((V.l ys).nth i)] [.pointer (some (a.add (i * B4 T el)))]:=by
 have hg:(List.replicate n el)[i]? = some el:=by rw [List.getElem?_replicate,if_pos hi]
 obtain ⟨z,pre,d,post,k1,rfl,k2,k3,k4⟩:=h.at hg
 rw [List.take_replicate,B9,Nat.min_eq_left (by omega)] at k2
 rw [A2x k1,← k2]
 exact RA.c k4 hf.part .nil
theorem A5l {t el:Nat} {y:V} {v:Value} (hr:RV T e [t] [y] [v]) (hk:C0 T t=some (.slice el)) {i:Nat} (hi:i < y.els.length) :
  ∃ a n cap,v=.slice (some a) n cap∧n=y.els.length∧RA T e [.c el (y.nth i)] [.pointer (some (a.add (i * B4 T el)))]:=by
 rcases hr.slice_inv hk with ⟨rfl,hv⟩ | ⟨ys,ds,a,cap,rfl,hv,h1,h2,h3⟩
 ·simp [V.els] at hi
 ·injection hv with hv;subst hv
  exact ⟨a,_,cap,rfl,rfl,B2T h3 h2 hi⟩
theorem A51 (hT:H7 T P) {of':Nat→Option Ob} {t:Nat} {k:IntKind} {i:Int} {u r:A} {x:Value} {ro:List Nat} (h:A6 T c e of') (hr:A0j T of t i u=some (r,ro)) (ho:∀ id∈ro,of' id=of id) (hx:B6 T e u x) :
  C7 P (do pure (.value (← Instr.indexAt t x (.int k i)))) e.w (D1 T c e of' ⟨r,[],ro,[]⟩):=by
 unfold A0j at hr
 split at hr
 ·rename_i n el hk
  obtain ⟨te,h1,h2⟩:=A8 hk
  have hu:=Q7 (hT _ _ h1) h2
  split at hr<;>try (cases hr;done)
  rename_i hc
  simp only [C6L,E5,G5] at hc
  obtain ⟨⟨h0,hn⟩,hel⟩:=hc
  obtain ⟨tel,htel⟩:=C6P.1 hel
  have run:∀ a:Addr,(Instr.indexAt t (.pointer (some a)) (.int k i)).run P e.w=.ok (.pointer (some (a.add (i.toNat * B4 T el)))) e.w:=fun a=>by
   rw [H1 htel]
   simp [Instr.indexAt,asIntOf,A2 hu,F0 (hT _ _ htel),h0,hn,Instr.sureAddr]
  split at hr
  ·rename_i id t' path
   split at hr<;>try (cases hr;done)
   rename_i hs
   injection hr with hr;injection hr with e1 e2;subst e1;subst e2
   obtain ⟨b,off,u1,u2,u3,u4,rfl⟩:=Q8 hx
   refine A1 (run _) (A7 h ?_)
   rw [D0]
   exact A5G u1 u2 u3 (u4.append (A7D ((B5 hs).1.symm.trans hk) (by omega)))
  ·rename_i id ver j t' path
   split at hr<;>try (cases hr;done)
   rename_i hs
   injection hr with hr;injection hr with e1 e2;subst e1;subst e2
   simp only [C6L] at hs
   have hv:=A3s h hs.2 (ho _ (by simp))
   have hx':RA T e [.e id ver j t' path] [x]:=hx
   cases hx' with
   | r k1 k2 _ =>
    obtain ⟨_,u1,u2,u3,u4⟩:=k1
    obtain ⟨b,o,off,q1,q2,q3,rfl⟩:=u4 hv
    refine A1 (run _) (A7 h ?_)
    rw [D0]
    exact RA.r ⟨rfl,u1,u2,u3,fun _=>⟨b,o,_,q1,q2.append (A7D ((B5 hs.1).1.symm.trans hk) (by omega)),q3,by rw [Nat.add_assoc (o+_)]⟩⟩ rfl .nil
  ·rename_i t' y
   split at hr<;>try (cases hr;done)
   rename_i hs
   injection hr with hr;injection hr with e1 e2;subst e1;subst e2
   obtain ⟨a,ds,rfl,q1,q2⟩:=A15 hx
   refine A1 (run _) (A7 h ?_)
   obtain ⟨ys,rfl,hl,hy⟩:=q1.arr_inv ((B5 hs).1.symm.trans hk)
   exact B2T hy q2 (by omega)
  ·cases hr
 ·rename_i el hk
  obtain ⟨te,h1,h2⟩:=A8 hk
  have hu:=F3 (hT _ _ h1) h2
  split at hr<;>try (cases hr;done)
  rename_i hc
  simp only [C6L,E5] at hc
  obtain ⟨h0,hel⟩:=hc
  obtain ⟨tel,htel⟩:=C6P.1 hel
  have run:∀ (a:Addr) (n cap:Nat),i < n→(Instr.indexAt t (.slice (some a) n cap) (.int k i)).run P e.w=.ok (.pointer (some (a.add (i.toNat * B4 T el)))) e.w:=fun a n cap hn=>by
   rw [H1 htel]
   simp [Instr.indexAt,asIntOf,A2 hu,F0 (hT _ _ htel),h0,hn]
  split at hr
  ·rename_i id ver
   split at hr<;>try (cases hr;done)
   rename_i el' v xs nl sh hof
   split at hr<;>try (cases hr;done)
   rename_i hc
   simp only [C6L,G5] at hc
   have:=C6K hc.1.1;subst this
   have:=C6K hc.1.2;subst this
   injection hr with hr;injection hr with e1 e2;subst e1;subst e2
   obtain ⟨v0,v1,v2,v3,v4,v5,h6⟩:=L1 h ((ho id (by simp)).trans hof)
   rcases L4 hx v2 with ⟨k1,k2,_⟩ | ⟨b,o,cap,k',k1,k2,k3,k4,rfl⟩
   ·omega
   ·refine A1 (run _ _ _ (by omega)) (A7 h ?_)
    rw [D0,k4 (by omega),← v3]
    exact RA.r ⟨rfl,v0,by omega,v1,fun _=>⟨b,o,0,k1,by rw [v3];exact .nil,by omega,by rw [Nat.add_zero]⟩⟩ rfl .nil
  ·rename_i id ver off n
   split at hr<;>try (cases hr;done)
   rename_i el' v xs nl sh hof
   split at hr<;>try (cases hr;done)
   rename_i hc
   simp only [C6L,G5] at hc
   have:=C6K hc.1.1;subst this
   have:=C6K hc.1.2;subst this
   injection hr with hr;injection hr with e1 e2;subst e1;subst e2
   obtain ⟨v0,v1,v2,v3,v4,v5,h6⟩:=L1 h ((ho id (by simp)).trans hof)
   obtain ⟨b,o,cap,k',k1,k2,k3,k4,k5,rfl⟩:=Q9 hx v2
   refine A1 (run _ _ _ (by omega)) (A7 h ?_)
   rw [D0,k5 (by omega),← v3]
   exact RA.r ⟨rfl,v0,by omega,v1,fun _=>⟨b,o,0,k1,by rw [v3];exact .nil,by omega,by rw [Nat.add_zero,Nat.add_mul,Nat.add_assoc]⟩⟩ rfl .nil
  ·rename_i t' y
   split at hr<;>try (cases hr;done)
   rename_i hs
   simp only [C6L,G5] at hs
   injection hr with hr;injection hr with e1 e2;subst e1;subst e2
   have hk':=(B5 hs.1).1.symm.trans hk
   obtain ⟨a,n,cap,rfl,rfl,hra⟩:=A5l (D5 hx ⟨_,hk',rfl⟩) hk' (i:=i.toNat) (by omega)
   exact A1 (run _ _ _ hs.2) (A7 (v:=.c el (y.nth i.toNat)) h hra)
  ·rename_i t' y
   split at hr<;>try (cases hr;done)
   rename_i hs
   simp only [C6L,G5] at hs
   injection hr with hr;injection hr with e1 e2;subst e1;subst e2
   have hk':=(B5 hs.1).1.symm.trans hk
   have hx':RA T e [.q t' y] [x]:=hx
   cases hx' with
   | r g1 _ _=>exact g1.elim
   | q g1 g2 =>
    obtain ⟨a,n,cap,hv,hn,hra⟩:=A5l g1 hk' (i:=i.toNat) (by omega)
    rw [hv]
    exact A1 (run _ _ _ (by rw [hn];exact hs.2)) (A7 (v:=.c el (y.nth i.toNat)) h hra)
  ·rename_i id t1 path l0 m
   split at hr<;>try (cases hr;done)
   rename_i na el' hk1
   split at hr<;>try (cases hr;done)
   rename_i hc
   simp only [C6L,G5] at hc
   have:=C6K hc.1;subst this
   injection hr with hr;injection hr with e1 e2;subst e1;subst e2
   obtain ⟨b,off,n,el',k',cap,w0,w1,w2,w3,w4,w5,w6,w7,rfl⟩:=U1 hx
   rw [hk1] at w4;cases w4
   refine A1 (run _ _ _ hc.2) (A7 h ?_)
   rw [D0,w7 (by omega)]
   have:=A5G w0 w1 w2 (w3.append (A7D hk1 (i:=l0+i.toNat) (by omega)))
   rwa [Nat.add_mul,← Nat.add_assoc] at this
  ·cases hr
 ·cases hr
variable {P:Program} {T:TT} {c:N5} {e:B2} {of:Nat→Option Ob}
def B7E (T:TT) (of:Nat→Option Ob) (t:Nat) (u:A):Option (A×List Nat) :=
 if (T t).isSome then
  match u with
  | .p id _ path=>match of id with
   | some (.box _ a _)=>match atA T a path with
    | some a1=>match R7 T t a1 with
     | some a2=>some (norm T a2,[id])
     | none=>none
    | none=>none
   | _=>none
  | .e id ver i _ path=>match of id with
   | some (.row el v xs _ _)=>if Nat.beq v ver then (match elA T el xs i path with
    | some a1=>match R7 T t a1 with
     | some a2=>some (norm T a2,[id])
     | none=>none
    | none=>none) else none
   | _=>none
  | .c t' y=>if H8 T t t' then some (mkA T t y,[]) else none
  | _=>none
 else none
theorem A0k {a:A} {x:Value} {t:Nat} {te:TE} (hte:T t=some te) (h:B6 T e a x) (hf:C1 T t a=true):B6 T e (norm T a) x:=by
 cases a with
 | v t' y =>
  have hq:t=t':=by simp only [C1] at hf;exact C6K hf
  subst hq
  have h1:=A3F h.1
  unfold norm
  have h2:=A18 h.1
  rcases A0n hte h1 h2 with ⟨ha,hr⟩ | ⟨ha,w,hw,hr⟩
  ·obtain ⟨cs,rfl⟩:=h.2.1 ⟨te.k,J4 hte,ha⟩
   simpa [Value.cells] using hr
  ·have hs:=D5 h ⟨te.k,J4 hte,ha⟩
   have ho:=hs.one x (by simp)
   rw [G8 ho] at hw
   injection hw with hw;subst hw;exact hr
 | _=>exact h
theorem A6B {t:Nat} {te:TE} (hte:T t=some te) {a:A} (hf:C1 T t a=true) {wo:List (Nat×Ob)} {ro nw:List Nat} {x:Value} {w':World} (h:D1 T c e of ⟨a,wo,ro,nw⟩ x w'):D1 T c e of ⟨norm T a,wo,ro,nw⟩ x w':=by
 obtain ⟨e',p1,p2,p3,p4,p5⟩:=h
 exact ⟨e',p1,p2,p3,p4,A0k hte p5 hf⟩
theorem D6 {s:Sem Next} {w:World} {R R':Value→World→Prop} (h:C7 P s w R) (hr:∀ x w',R x w'→R' x w'):C7 P s w R':=by
 rcases h with ⟨x,w',h1,h2⟩ | ⟨w',h1,h2⟩ | ⟨f,args,w1,h1,h2⟩ | ⟨l,f,tmps,asg,body,w1,h1,h2⟩
 ·exact .inl ⟨x,w',h1,hr _ _ h2⟩
 ·exact .inr (.inl ⟨w',h1,hr _ _ h2⟩)
 ·exact .inr (.inr (.inl ⟨f,args,w1,h1,h2.mono fun en w' ⟨x,hx,hl⟩=>⟨x,hx,hr _ _ hl⟩⟩))
 ·exact .inr (.inr (.inr ⟨l,f,tmps,asg,body,w1,h1,h2.mono fun en w' ⟨x,hx,hl⟩=>⟨x,hx,hr _ _ hl⟩⟩))
theorem A4m {t:Nat} {a b:A} (h:R7 T t a=some b):C1 T t b=true:=by
 cases a with
 | v t' y=>simp only [R7] at h;split at h<;>first | (injection h with h;subst h;exact L0 _ _) | cases h
 | g t' l=>simp only [R7] at h;split at h<;>first | (injection h with h;subst h;simp [C1]) | cases h
 | z v =>
  simp only [R7] at h
  split at h<;>try (cases h;done)
  all_goals (split at h<;>first | (injection h with h;subst h;exact L0 _ _) | cases h)
 | t l=>simp [R7] at h
 | x=>simp [R7] at h
 | _=>simp only [R7] at h;split at h<;>first | (rename_i hs;injection h with h;subst h;exact hs) | cases h
theorem B7F (hT:H7 T P) {of':Nat→Option Ob} {t:Nat} {u r:A} {x:Value} {ro:List Nat} (h:A6 T c e of') (hr:B7E T of t u=some (r,ro)) (ho:∀ id∈ro,of' id=of id) (hx:B6 T e u x) :
  C7 P (do pure (.value (← Instr.loadAt t x))) e.w (D1 T c e of' ⟨r,[],ro,[]⟩):=by
 unfold B7E at hr
 split at hr<;>try (cases hr;done)
 rename_i ht
 obtain ⟨te,hte⟩:=C6P.1 ht
 split at hr
 ·rename_i id t' path
  split at hr<;>try (cases hr;done)
  rename_i t0 a sh hof
  split at hr<;>try (cases hr;done)
  rename_i a1 h1
  split at hr<;>try (cases hr;done)
  rename_i a2 h2
  injection hr with hr;injection hr with e1 e2;subst e1;subst e2
  exact D6 (B1r h hT hte ((ho id (by simp)).trans hof) h1 h2 hx) (fun x w'=>A6B hte (A4m h2))
 ·rename_i id ver i t' path
  split at hr<;>try (cases hr;done)
  rename_i el v xs nl sh hof
  split at hr<;>try (cases hr;done)
  rename_i hc
  have:=C6K hc;subst this
  split at hr<;>try (cases hr;done)
  rename_i a1 h1
  split at hr<;>try (cases hr;done)
  rename_i a2 h2
  injection hr with hr;injection hr with e1 e2;subst e1;subst e2
  exact D6 (B1s h hT hte ((ho id (by simp)).trans hof) h1 h2 hx) (fun x w'=>A6B hte (A4m h2))
 ·rename_i t' y
  split at hr<;>try (cases hr;done)
  rename_i hs
  injection hr with hr;injection hr with e1 e2;subst e1;subst e2
  obtain ⟨a,ds,rfl,q1,q2⟩:=A15 hx
  obtain ⟨p,q⟩:=B5 hs
  have q1':=q1.cast p q
  exact A0p h hT hte (A3F q1') (A18 q1') (fun j z hj=>(q2.2 j z hj).1)
 ·cases hr
def B1c (T:TT) (of:Nat→Option Ob) (t:Nat) (u v:A):Option (List (Nat×Ob)×List Nat) :=
 if (T t).isSome then
  match u with
  | .p id t' path=>match of id with
   | some (.box t0 a false)=>if H8 T t t' then (match R7 T t' v with
    | some v'=>match A2i T a path v' with
     | some a'=>some ([(id,.box t0 a' false)],[id])
     | none=>none
    | none=>none) else none
   | _=>none
  | .e id ver i t' path=>match M2 T DEP of t' v with
   | some (xv,wo)=>match put of wo id with
    | some (.row el w xs nl false)=>if Nat.beq w ver&&H8 T t t' then (match A2i T (.v el (xs.getD i .n)) path (.v t' xv) with
     | some (.v t2 y)=>if Nat.beq t2 el then some (wo++[(id,.row el ver (xs.set i y) nl false)],id::T2 wo) else none
     | _=>none) else none
    | _=>none
   | none=>none
  | _=>none
 else none
theorem B5g (hT:H7 T P) {of':Nat→Option Ob} {t:Nat} {u v:A} {x y:Value} {wo:List (Nat×Ob)} {ro:List Nat} (h:A6 T c e of') (hr:B1c T of t u v=some (wo,ro)) (ho:∀ id∈ro,of' id=of id) (hx:B6 T e u x) (hy:B6 T e v y) :
  C7 P (do Instr.storeAt t x y;pure .skip) e.w (D1 T c e of' ⟨.x,wo,ro,[]⟩):=by
 unfold B1c at hr
 split at hr<;>try (cases hr;done)
 rename_i ht
 obtain ⟨te,hte⟩:=C6P.1 ht
 split at hr
 ·rename_i id t' path
  split at hr<;>try (cases hr;done)
  rename_i t0 a hof
  split at hr<;>try (cases hr;done)
  rename_i hs
  split at hr<;>try (cases hr;done)
  rename_i v' hv'
  split at hr<;>try (cases hr;done)
  rename_i a' ha'
  injection hr with hr;injection hr with e1 e2;subst e1;subst e2
  exact A9z h hT hte hs ((ho id (by simp)).trans hof) hv' ha' hx hy
 ·rename_i id ver i t' path
  split at hr<;>try (cases hr;done)
  rename_i xv wo1 htoV
  split at hr<;>try (cases hr;done)
  rename_i el w xs nl hof
  split at hr<;>try (cases hr;done)
  rename_i hc
  simp only [C6L] at hc
  have:=C6K hc.1;subst this
  split at hr<;>try (cases hr;done)
  rename_i t2 y' hput
  split at hr<;>try (cases hr;done)
  rename_i ht2
  have:=C6K ht2;subst this
  injection hr with hr;injection hr with e1 e2;subst e1;subst e2
  have htoV':=(Z9 (T:=T) DEP).1 of of' _ _ _ _ htoV (fun id A3=>ho id (by simp [A3]))
  refine A2m (out:=⟨.x,[(id,.row t2 w (xs.set i y') nl false)],[id],[]⟩) (A0c h htoV' hy) (fun e1 hw h1 hle hU hq=>?_)
  have hof':put of' wo1 id=some (.row t2 w xs nl false):=by rw [A7a wo1 of' of id (ho id (by simp))];exact hof
  exact A9A h1 hT hte hc.2 hof' (RA.v1 hq) (L0 _ _) hput (hx.mono hle)
 ·cases hr
def B1d (T:TT) (s f:Nat) (u:A):Option A :=
 match C0 T s with
 | some (.struct fs)=>match fs[f]? with
  | some ft=>if (T ft).isSome then
    match u with
    | .v t y=>if H8 T s t then some (mkA T ft (y.nth f)) else none
    | .g t l=>if H8 T s t then (match l[f]? with
     | some a=>match R7 T ft a with
      | some b=>some (norm T b)
      | none=>none
     | none=>none) else none
    | _=>none
   else none
  | none=>none
 | _=>none
theorem A3t {t:Nat} {te:TE} (hT:H7 T P) (ht:T t=some te) {xs:Array Value} {pre d post:List Value} {off:Nat} {a:A} (hx:xs.toList=pre++(d++post)) (hp:pre.length=off) (hd:RA T e [a] d) (hf:C1 T t a=true) (w:World) :
  ∃ v,(part t xs off).run P w=.ok v w∧B6 T e a v:=by
 have hl:=hd.width hf
 rw [H1 ht] at hl
 subst hp
 rcases A0n ht hd hf with ⟨ha,hr⟩ | ⟨ha,v,rfl,hr⟩
 ·refine ⟨.agg (xs.extract pre.length (pre.length+te.size)),by simp [part,A21 (hT _ _ ht),ha,F0 (hT _ _ ht)],?_⟩
  have:xs.extract pre.length (pre.length+te.size)=d.toArray:=by
   apply Array.ext'
   rw [Array.toList_extract,hx,List.extract_eq_take_drop,List.drop_left,← hl]
   simp
  rw [this];exact hr
 ·have hv:xs[pre.length]? = some v:=by rw [← Array.getElem?_toList,hx];simp
  exact ⟨v,by simp [part,A21 (hT _ _ ht),ha,hv],hr⟩
theorem B5h (hT:H7 T P) {s f:Nat} {u r:A} {x:Value} (h:A6 T c e of) (hr:B1d T s f u=some r) (hx:B6 T e u x) {ro:List Nat} :
  C7 P (do pure (.value (← Instr.field s x f))) e.w (D1 T c e of ⟨r,[],ro,[]⟩):=by
 unfold B1d at hr
 split at hr<;>try (cases hr;done)
 rename_i fs hk
 obtain ⟨te,h1,h2⟩:=A8 hk
 obtain ⟨gs,g1,g2,g3⟩:=M9 (hT _ _ h1) h2
 split at hr<;>try (cases hr;done)
 rename_i ft hft
 obtain ⟨g,hg,rfl⟩:=Z5 g2 hft
 have hoff:=g3 _ _ hg
 split at hr<;>try (cases hr;done)
 rename_i hsome
 obtain ⟨tf,htf⟩:=C6P.1 hsome
 split at hr
 ·rename_i t y
  split at hr<;>try (cases hr;done)
  rename_i hs
  injection hr with hr;subst hr
  have hk':=(B5 hs).1.symm.trans hk
  obtain ⟨cs,rfl,hv⟩:=P2 hx ⟨_,hk',rfl⟩
  obtain ⟨ys,rfl,hy⟩:=hv.struct_inv hk'
  obtain ⟨z,pre,d,post,k1,k2,k3,k4,k5⟩:=hy.at hft
  rw [A2x k1]
  obtain ⟨v,r1,r2⟩:=A3t hT htf k2 (k3.trans hoff.symm) (A3F k5) (A18 k5) e.w
  refine A1 (x:=v) (w':=e.w) ?_ (A7 h r2)
  simp [Instr.field,A2 g1,hg,asAgg,r1]
 ·rename_i t l
  split at hr<;>try (cases hr;done)
  rename_i hs
  split at hr<;>try (cases hr;done)
  rename_i a ha
  split at hr<;>try (cases hr;done)
  rename_i b hb
  injection hr with hr;subst hr
  obtain ⟨h3,cs,rfl⟩:=hx
  have h3:RA T e [.g t l] cs.toList:=h3
  have hct:chT T t=some fs:=by rw [← A02 (B5 hs).1];simp [chT,hk]
  generalize hcs:cs.toList=dd at h3
  cases h3 with
  | g g4 g5 g6 g7 g8 =>
   cases g8
   rw [hct] at g4;cases g4
   obtain ⟨a',pre,d,post,k1,k2,k3,k4,k5,k6⟩:=g7.at g5 hft
   rw [ha] at k1;cases k1
   obtain ⟨q1,q2⟩:=A5F k5 hb
   rw [List.append_nil,k2] at hcs
   obtain ⟨v,r1,r2⟩:=A3t hT htf hcs (k3.trans hoff.symm) q1 q2 e.w
   refine A1 (x:=v) (w':=e.w) ?_ (A7 h (A0k htf r2 q2))
   simp [Instr.field,A2 g1,hg,asAgg,r1]
  | r g1 _ _=>exact g1.elim
 ·cases hr
def A5m (T:TT) (t:Nat) (i:Int) (u:A):Option A :=
 match u with
 | .s l=>match C0 T t with
  | some .str=>if F9 0 i&&G0 i l.length then some (.i .u8 (l.getD i.toNat .n).int) else none
  | _=>none
 | .v t' y=>match C0 T t with
  | some (.arr n el)=>if H8 T t t'&&F9 0 i&&G0 i n&&(T el).isSome then some (mkA T el (y.nth i.toNat)) else none
  | _=>none
 | _=>none
theorem B5i (hT:H7 T P) {t:Nat} {k:IntKind} {i:Int} {u r:A} {x:Value} (h:A6 T c e of) (hr:A5m T t i u=some r) (hx:B6 T e u x) {ro:List Nat} :
  C7 P (do pure (.value (← Instr.index t x (.int k i)))) e.w (D1 T c e of ⟨r,[],ro,[]⟩):=by
 unfold A5m at hr
 split at hr
 ·rename_i l
  split at hr<;>try (cases hr;done)
  rename_i hk
  obtain ⟨te,h1,h2⟩:=A8 hk
  have hu:=P5 (hT _ _ h1) h2
  split at hr<;>try (cases hr;done)
  rename_i hc
  simp only [C6L,E5,G5] at hc
  injection hr with hr;subst hr
  obtain ⟨s,rfl,rfl⟩:=U3 hx
  rw [A0i] at hc
  have hlt:i.toNat < s.data.size:=by have:s.size=s.data.size:=rfl;omega
  have e1:s[i.toNat]? = some s.data[i.toNat]:=by
   have hi2:i.toNat < s.size:=hlt
   rw [getElem?_pos s i.toNat hi2]
   rfl
  have e2:(txt s).getD i.toNat .n=V.i (s.data[i.toNat].toNat:Int):=by
   unfold txt
   simp [List.getD,Array.getElem?_eq_getElem hlt]
  rw [e2]
  have hb:=s.data[i.toNat].toNat_lt
  refine A1 (x:=.int .u8 s.data[i.toNat].toNat) (w':=e.w) ?_ (A7 h (L9 (by constructor<;>simp only [lo,hi,V.int]<;>omega)))
  simp [Instr.index,asIntOf,A2 hu,hc.1,e1]
 ·rename_i t' y
  split at hr<;>try (cases hr;done)
  rename_i n el hk
  obtain ⟨te,h1,h2⟩:=A8 hk
  have hu:=Q7 (hT _ _ h1) h2
  split at hr<;>try (cases hr;done)
  rename_i hc
  simp only [C6L,E5,G5] at hc
  obtain ⟨⟨⟨hs,h0⟩,hn⟩,hel⟩:=hc
  obtain ⟨tel,htel⟩:=C6P.1 hel
  injection hr with hr;subst hr
  have hk':=(B5 hs).1.symm.trans hk
  obtain ⟨cs,rfl,hv⟩:=P2 hx ⟨_,hk',rfl⟩
  obtain ⟨ys,rfl,hl,hy⟩:=hv.arr_inv hk'
  have hg:(List.replicate n el)[i.toNat]? = some el:=by rw [List.getElem?_replicate,if_pos (by omega)]
  obtain ⟨z,pre,d,post,k1,k2,k3,k4,k5⟩:=hy.at hg
  rw [List.take_replicate,B9,Nat.min_eq_left (by omega),H1 htel] at k3
  rw [A2x k1]
  obtain ⟨v,r1,r2⟩:=A3t hT htel k2 k3 (A3F k5) (A18 k5) e.w
  refine A1 (x:=v) (w':=e.w) ?_ (A7 h r2)
  simp [Instr.index,asIntOf,A2 hu,h0,hn,F0 (hT _ _ htel),r1]
 ·cases hr
variable {P:Program} {T:TT} {c:N5} {e:B2} {of:Nat→Option Ob}
theorem A9g {el:Nat} (hk:C0 T el=some (.int .u8)):∀ {n:Nat} {xs:List V} {us:List Value},RV T e (List.replicate n el) xs us→us=(xs.map V.int).map (Value.int .u8)∧∀ x∈xs,∃ m:Int,x=.i m∧inR .u8 m:=by
 intro n
 induction n with
 | zero =>
  intro xs us h
  have h1:=h.length.1
  have h2:=h.length.2
  simp only [List.replicate_zero,szs,List.length_eq_zero_iff,List.length_nil] at h1 h2
  subst h1;subst h2
  exact ⟨rfl,fun x hx=>by cases hx⟩
 | succ n ih =>
  intro xs us h
  rw [List.replicate_succ] at h
  cases xs with
  | nil=>have:=h.length.2;simp at this
  | cons x xs =>
   obtain ⟨d,r,rfl,h1,h2⟩:=h.cons_inv
   obtain ⟨m,rfl,rfl,hr⟩:=h1.int_inv hk
   obtain ⟨q1,q2⟩:=ih h2
   refine ⟨by rw [q1];rfl,fun y hy=>?_⟩
   rcases List.mem_cons.1 hy with rfl | hy
   ·exact ⟨m,rfl,hr⟩
   ·exact q2 y hy
theorem B1e:∀ (ns:List Int) (s:ByteArray),(ns.foldl (fun (r:ByteArray) (n:Int)=>r.push (UInt8.ofNat n.toNat)) s).data.toList=s.data.toList++ns.map fun n=>UInt8.ofNat n.toNat:=by
 intro ns
 induction ns with
 | nil=>intro s;simp
 | cons n ns ih=>intro s;rw [List.foldl_cons,ih];simp
theorem B7G {xs:List V} (h:∀ x∈xs,∃ m:Int,x=.i m∧inR .u8 m):txt ((xs.map V.int).foldl (fun (r:ByteArray) (n:Int)=>r.push (UInt8.ofNat n.toNat)) ByteArray.empty)=xs:=by
 unfold txt
 rw [B1e]
 simp only [List.map_map,List.map_append]
 have:ByteArray.empty.data.toList=[]:=rfl
 rw [this,List.map_nil,List.nil_append]
 conv=>rhs;rw [← List.map_id xs]
 apply List.map_congr_left
 intro x hx
 obtain ⟨m,rfl,h1,h2⟩:=h x hx
 simp only [lo,hi] at h1 h2
 simp only [Function.comp,V.int,id]
 congr 1
 have:(UInt8.ofNat m.toNat).toNat=m.toNat:=UInt8.toNat_ofNat_of_lt' (by show _ < 256;omega)
 rw [this];omega
def A7E (T:TT) (of:Nat→Option Ob) (el:Nat) (u:A):Option (List V×List Nat) :=
 match C0 T el with
 | some (.int .u8)=>if Nat.beq (B4 T el) 1 then U9 T of el u else none
 | _=>none
theorem B5j {s t el:Nat} (hs:P.underlying s=some (.slice el)) (he:P.underlying el=some (.int .u8)) (ht:P.underlying t=some .string) {xt:TypeId} {w:World} {v:Value} {xs:List V} {us:List Value} (hsrc:Src P w xt v 1 xs.length us) (hus:us=(xs.map V.int).map (Value.int .u8))
  (hv:∃ a n k,v=.slice a n k):(convert s t v).run P w=.ok (.string ((xs.map V.int).foldl (fun (r:ByteArray) (n:Int)=>r.push (UInt8.ofNat n.toNat)) ByteArray.empty)) w:=by
 obtain ⟨a,n,k,rfl⟩:=hv
 rw [run_convert_bytes_string w s t el a n k hs he ht]
 have hn:n=xs.length:=by
  have:=hsrc.len w
  simp only [Builtin.lenOf,Sem.run_pure] at this
  injection this
 subst hn
 cases a with
 | none =>
  have hf:=hsrc.first w rfl
  simp only [Builtin.firstCells,Sem.run_pure] at hf
  injection hf with hf
  have h0:us=[]:=by simpa using hf.symm
  have hl:=hsrc.size
  rw [h0] at hl
  have hx:xs=[]:=List.eq_nil_of_length_eq_zero (by simpa using hl.symm)
  subst hx
  simp [Conv.bytesToString,Sem.run_pure]
 | some a =>
  have hf:=hsrc.first w rfl
  simp only [Builtin.firstCells,Nat.mul_one] at hf
  exact run_bytesToString w a _ k _ (by rw [hf,hus])
theorem B5k {s t el id:Nat} {te:TE} (h:A6 T c e of) (hT:H7 T P) (hs:P.underlying s=some .string) (ht:P.underlying t=some (.slice el)) (he:P.underlying el=some (.int .u8)) (hk:C0 T el=some (.int .u8)) (hz:B4 T el=1) (hu:¬ e.U id) {x:Value} {l:List V} (hx:B6 T e (.s l) x) {ro:List Nat} :
  C7 P (do pure (.value (← convert s t x))) e.w (D1 T c e of ⟨.o id 1,[(id,.row el 1 l false false)],ro,[id]⟩):=by
 obtain ⟨bs,rfl,rfl⟩:=U3 hx
 obtain ⟨hd0,hle0⟩:=h.same_heap (w':=e.w.drew) rfl rfl rfl rfl
 obtain ⟨cap,hcap⟩:∃ cap,cap=(Question.appendCap bs.size 0 el).cut (e.w.tape e.w.drawn (Question.appendCap bs.size 0 el)):=⟨_,rfl⟩
 have hle:bs.size≤cap:=by rw [hcap];simp only [Question.cut];omega
 obtain ⟨cells,hcells⟩:∃ cells:Array Value,cells=(bs.data.map fun b=>Value.int .u8 b.toNat)++Array.replicate (cap - bs.size) (.int .u8 0):=⟨_,rfl⟩
 have hbs:bs.data.size=bs.size:=rfl
 have hcs:cells.size=cap * B4 T el:=by
  rw [hcells]
  simp only [Array.size_append,Array.size_map,Array.size_replicate,hz];omega
 have hheap:(e.w.drew.alloc (.cells cells el)).heap[e.w.heap.size]? = some (.cells cells el (0,0)):=P3 e.w.drew _
 have hfr:(e.w.drew.alloc (.cells cells el)).freeze ⟨e.w.heap.size,cells.size,none⟩ 1=e.w.drew.alloc (.cells cells el (cells.size,cells.size+1)):=by
  unfold World.freeze
  rw [if_neg (by decide)]
  refine congrArg (fun h:Array Go.Obj=>World.mk h e.w.drew.tape e.w.drew.drawn e.w.drew.os e.w.drew.output) (a₁:=(e.w.drew.alloc (.cells cells el)).heap.modify e.w.heap.size _) (a₂:=(e.w.drew.alloc (.cells cells el (cells.size,cells.size+1))).heap) ?_
  apply Array.ext_getElem?
  intro i
  rw [Array.getElem?_modify]
  by_cases hi:e.w.heap.size=i
  ·subst hi
   rw [if_pos rfl,hheap]
   show _=(e.w.drew.alloc (.cells cells el (cells.size,cells.size+1))).heap[e.w.drew.heap.size]?
   rw [P3]
   rfl
  ·rw [if_neg hi]
   show (e.w.heap.push _)[i]? = (e.w.heap.push _)[i]?
   rw [Array.getElem?_push,Array.getElem?_push,if_neg (fun q=>hi q.symm),if_neg (fun q=>hi q.symm)]
 have hrun:(convert s t (.string bs)).run P e.w=.ok (.slice (some ⟨e.w.heap.size,0,none⟩) bs.size cap) (e.w.drew.alloc (.cells cells el (cells.size,cells.size+1))):=by
  rw [← hfr]
  have hsh:(e.w.drew.alloc (.cells cells el)).shape? e.w.heap.size=some (el,cells.size):=by
   unfold World.shape?
   rw [hheap]
  simp only [convert,Sem.run_bind,A2 hs,A2 ht,A2 he,Result.andThen_ok,Conv.stringToBytes]
  simp [choose,Sem.run,Question.forced,← hcap,newRow,← hcells,markStringish,shape,hsh,freeze]
 have hok:=B9W (id:=id) (el:=el) (xs:=txt bs) (cs:=cells) (ys:=bs.data.toList.map fun b=>Value.int .u8 b.toNat) (post:=(Array.replicate (cap - bs.size) (Value.int .u8 0)).toList) (fz:=(cells.size,cells.size+1)) hd0 hu (by omega) (by rw [hcells];simp)
  (by have:=A8s (e:={ e with w:=e.w.drew }) hk hz bs.data.toList;simpa [txt] using this)
  (by
   have:=Y3 { e with w:=e.w.drew } id 1 el (txt bs).length cells el (cells.size,cells.size+1)
   simp only at this
   refine ⟨fun i hi=>?_,fun c t l hh hc=>?_⟩
   ·unfold World.frozen?
    rw [this]
    simp;omega
   ·rw [this] at hc
    injection hc with hc;injection hc with e1 e2 e3;injection e3 with e3 e4;omega)
 obtain ⟨e',p1,p2,p3,p4,p5⟩:=A0o (ro:=ro) hd0 hu hok (B0j (n:=(txt bs).length) (cap:=cap) hcs (by rw [A0i];exact hle))
 rw [A0i] at p5
 exact A1 hrun ⟨e',p1,p2,hle0.trans p3,p4,p5⟩
variable {P:Program} {T:TT} {c:N5} {e:B2} {of:Nat→Option Ob}
theorem B7H {t el id ver:Nat} (h:A6 T c e of) (hu:P.underlying t=some (.slice el)) (he:P.underlying el=some (.int .u8)) {xs:List V} {sh:Bool} {x:Value} (ho:of id=some (.row el ver xs false sh)) (hx:B6 T e (.o id ver) x) {ro:List Nat} :
  C7 P (do pure (.value (← convert t t x))) e.w (D1 T c e of ⟨.o id ver,[(id,.row el ver xs false sh)],ro,[]⟩):=by
 obtain ⟨u1,u2,u3,u4,u5,u6,u7⟩:=L1 h ho
 rcases u7 with ⟨hq,_,_⟩ | ⟨_,b,o,cs,ty,fz,pre,ys,post,g1,g2,g3,g4,g5,g6,g7,g8⟩
 ·cases hq
 rcases L4 hx u3 with ⟨k1,_,_⟩ | ⟨b',o',cap,k,k1,k2,k3,k4,rfl⟩
 ·rw [g1] at k1;cases k1
 rw [g1] at k1;cases k1
 obtain ⟨l,hh⟩:=fz
 have hlt:b < e.w.heap.size:=(Array.getElem?_eq_some_iff.1 g2).1
 obtain ⟨w',hw'⟩:∃ w',w'=e.w.freeze ⟨b,cs.size,none⟩ 1:=⟨_,rfl⟩
 obtain ⟨fz',hfz'⟩:∃ fz':Nat×Nat,fz'=(if l == hh then (cs.size,cs.size+1) else (min l cs.size,max hh (cs.size+1))):=⟨_,rfl⟩
 have hheap:w'.heap=e.w.heap.modify b (fun
   | .cells c elem (lo,hi)=>.cells c elem (if lo == hi then (cs.size,cs.size+1) else (min lo cs.size,max hi (cs.size+1)))
   | o=>o):=by rw [hw'];unfold World.freeze;rw [if_neg (by decide)];rfl
 have h1:w'.heap[b]? = some (.cells cs ty fz'):=by
  rw [hheap,Array.getElem?_modify,if_pos rfl,g2,hfz'];rfl
 have hne:∀ k,k≠b→w'.heap[k]? = e.w.heap[k]? := fun k hk=>by rw [hheap,Array.getElem?_modify,if_neg (Ne.symm hk)]
 have hsz:w'.heap.size=e.w.heap.size:=by rw [hheap];simp
 have hos:w'.os=e.w.os∧w'.tape=e.w.tape∧w'.output=e.w.output:=by rw [hw'];unfold World.freeze;rw [if_neg (by decide)];exact ⟨rfl,rfl,rfl⟩
 have hlh:l≤hh:=g3.2 cs ty l hh g2
 have hsize:l < hh→cs.size≤l:=fun hl=>by
  rcases Nat.lt_or_ge l cs.size with h0 | h0
  ·have:=g3.1 l h0
   simp only [World.frozen?,g2,Nat.le_refl,decide_true,Bool.true_and,decide_eq_false_iff_not,Nat.not_lt] at this
   omega
  ·exact h0
 have hfz:cs.size≤fz'.1∧fz'.1≤fz'.2:=by
  rw [hfz']
  by_cases hq:l=hh
  ·subst hq;simp
  ·have:=hsize (by omega)
   have hb:(l == hh)=false:=by simpa using hq
   rw [hb]
   simp only [Bool.false_eq_true,if_false]
   omega
 have hfree:A0H w' b cs:=by
  refine ⟨fun i hi=>?_,fun c t l2 h2 hc=>?_⟩
  ·have:¬ fz'.1≤i:=by omega
   simp [World.frozen?,h1,this]
  ·rw [h1] at hc
   injection hc with hc;injection hc with e1 e2 e3
   rw [e3] at hfz;exact hfz.2
 obtain ⟨hos',hll⟩:=h.write ho g1 g2 h1 rfl hne hsz hos (fun i _=>rfl) (o':=.row el ver xs false sh)
  (fun hle=>⟨u1,u2,u3,u4,u5,u6,.inr ⟨rfl,b,o,cs,ty,fz',pre,ys,post,g1,h1,hfree,g4,g5,g6.mono hle,g7,g8⟩⟩)
 refine A1 (x:=.slice (some ⟨b,k,none⟩) (e.ln id) cap) (w':=w') ?_ ⟨_,rfl,hos',hll,fun _ hu=>.inl hu,hx.mono hll⟩
 have hshape:e.w.shape? b=some (ty,cs.size):=by unfold World.shape?;rw [g2]
 simp [convert,A2 hu,A2 he,markStringish,shape,freeze,Sem.run,hshape,hw']
def A5n (T:TT) (of:Nat→Option Ob) (nx s t:Nat) (u:A):Option Out :=
 match C0 T t with
 | some (.int k)=>match u with
  | .i _ n=>if (T s).isSome then some (.pure (.i k (k.wrap n))) else none
  | _=>none
 | some .str=>match u with
  | .s l=>if (T s).isSome then some (.pure (.s l)) else none
  | u=>match C0 T s with
   | some (.slice el)=>match A7E T of el u with
    | some (xs,ro)=>some ⟨.s xs,[],ro,[]⟩
    | none=>none
   | _=>none
 | some (.slice el)=>match u,C0 T s,C0 T el with
  | .s l,some .str,some (.int .u8)=>if Nat.beq (B4 T el) 1 then some ⟨.o nx 1,[(nx,.row el 1 l false false)],[],[nx]⟩ else none
  | .o id ver,_,some (.int .u8)=>match of id with
   | some (.row el' v xs false sh)=>if Nat.beq s t&&Nat.beq el el'&&Nat.beq v ver then some ⟨.o id ver,[(id,.row el ver xs false sh)],[id],[]⟩ else none
   | _=>none
  | _,_,_=>none
 | _=>none
theorem A2t {of':Nat→Option Ob} {el:Nat} {a:A} {v:Value} {ns:List V} {ro:List Nat} (h:A6 T c e of') (hs:U9 T of el a=some (ns,ro)) (ho:∀ id∈ro,of' id=of id) (hr:B6 T e a v) (hns:∀ l,a≠.s l):∃ p n k,v=.slice p n k:=by
 cases a with
 | s l=>exact absurd rfl (hns l)
 | v t x =>
  simp only [U9] at hs
  split at hs<;>try (cases hs;done)
  rename_i el' hk
  rcases (D5 hr ⟨_,hk,rfl⟩).slice_inv hk with ⟨_,hv⟩ | ⟨ys,ds,ad,cap,_,hv,_⟩<;>(injection hv with hv;exact ⟨_,_,_,hv⟩)
 | q t x =>
  have hr:RA T e [.q t x] [v]:=hr
  cases hr with
  | q _ _=>exact ⟨_,_,_,rfl⟩
  | r g1 _ _=>exact g1.elim
 | z y =>
  simp only [U9] at hs
  split at hs
  ·rename_i hz
   have hr:RA T e [.z y] [v]:=hr
   cases hr with
   | z _ _=>rw [A05 hz];exact ⟨_,_,_,rfl⟩
   | r g1 _ _=>exact g1.elim
  ·cases hs
 | o id ver =>
  simp only [U9] at hs
  split at hs<;>try (cases hs;done)
  rename_i el' v' xs nl sh hof
  split at hs<;>try (cases hs;done)
  rename_i hc
  simp only [C6L] at hc
  have:=C6K hc.2;subst this
  injection hs with hs;injection hs with h1 h2;subst h2
  have hv:=(L1 h ((ho id (by simp)).trans hof)).2.2.1
  rcases L4 hr hv with ⟨_,_,rfl⟩ | ⟨b,o,cap,k,_,_,_,_,rfl⟩<;>exact ⟨_,_,_,rfl⟩
 | w id ver off n =>
  simp only [U9] at hs
  split at hs<;>try (cases hs;done)
  rename_i el' v' xs nl sh hof
  split at hs<;>try (cases hs;done)
  rename_i hc
  simp only [C6L] at hc
  have:=C6K hc.1.2;subst this
  injection hs with hs;injection hs with h1 h2;subst h2
  have hv:=(L1 h ((ho id (by simp)).trans hof)).2.2.1
  obtain ⟨b,o,cap,k,_,_,_,_,_,rfl⟩:=Q9 hr hv
  exact ⟨_,_,_,rfl⟩
 | a id t1 path l0 m =>
  obtain ⟨b,off,n,el',k,cap,_,_,_,_,_,_,_,_,rfl⟩:=U1 hr
  exact ⟨_,_,_,rfl⟩
 | _=>simp [U9] at hs
theorem B7I (hT:H7 T P) {of':Nat→Option Ob} {nx s t:Nat} {u:A} {x:Value} {out:Out} (h:A6 T c e of') (hr:A5n T of nx s t u=some out) (ho:∀ id∈out.ro,of' id=of id) (hu:∀ id∈out.nw,¬ e.U id) (hx:B6 T e u x) :
  C7 P (do pure (.value (← convert s t x))) e.w (D1 T c e of' out):=by
 have hsd:(T s).isSome=true→∃ d,P.underlying s=some d:=fun hs=>by
  obtain ⟨te,hte⟩:=C6P.1 hs
  obtain ⟨d,h1,_⟩:=T7 (hT _ _ hte)
  exact ⟨d,h1⟩
 unfold A5n at hr
 split at hr
 ·rename_i k hk
  obtain ⟨te,h1,h2⟩:=A8 hk
  have ht:=Q6 (hT _ _ h1) h2
  split at hr<;>try (cases hr;done)
  rename_i k' n
  split at hr<;>try (cases hr;done)
  rename_i hs
  obtain ⟨d,hs⟩:=hsd hs
  injection hr with hr;subst hr
  rw [C9 hx]
  refine A1 (x:=.int k (k.wrap n)) ?_ (A7 h (L9 (M8 k n)))
  simp [convert,A2 hs,A2 ht,Conv.intToInt]
 ·rename_i hk
  obtain ⟨te,h1,h2⟩:=A8 hk
  have ht:=P5 (hT _ _ h1) h2
  split at hr
  ·rename_i l
   split at hr<;>try (cases hr;done)
   rename_i hs
   obtain ⟨d,hs⟩:=hsd hs
   injection hr with hr;subst hr
   obtain ⟨bs,rfl,rfl⟩:=U3 hx
   refine A1 (x:=.string bs) ?_ (A7 h (A8u bs))
   simp [convert,A2 hs,A2 ht]
  ·rename_i u hns
   split at hr<;>try (cases hr;done)
   rename_i el hks
   obtain ⟨tes,hs1,hs2⟩:=A8 hks
   have hs:=F3 (hT _ _ hs1) hs2
   split at hr<;>try (cases hr;done)
   rename_i xs ro hb
   injection hr with hr;subst hr
   unfold A7E at hb
   split at hb<;>try (cases hb;done)
   rename_i hke
   obtain ⟨tee,he1,he2⟩:=A8 hke
   have he:=Q6 (hT _ _ he1) he2
   split at hb<;>try (cases hb;done)
   rename_i hz
   have hz:=C6K hz
   obtain ⟨us,s1,s2⟩:=A4c (xt:=s) h (.inl ⟨el,hs⟩) (fun l hl=>absurd hl (hns l)) hb ho hx
   rw [hz] at s1
   obtain ⟨c1,c2⟩:=A9g hke s2
   refine A1 (B5j hs he ht s1 c1 (A2t h hb ho hx hns)) (A7 h (v:=.s xs) ?_)
   have:=A8u (T:=T) (e:=e) ((xs.map V.int).foldl (fun (r:ByteArray) (n:Int)=>r.push (UInt8.ofNat n.toNat)) ByteArray.empty)
   rwa [B7G c2] at this
 ·rename_i el hk
  obtain ⟨te,h1,h2⟩:=A8 hk
  have ht:=F3 (hT _ _ h1) h2
  split at hr<;>try (cases hr;done)
  case h_2 id ver hke =>
   split at hr<;>try (cases hr;done)
   rename_i el' v xs sh hof
   split at hr<;>try (cases hr;done)
   rename_i hcc
   simp only [C6L] at hcc
   have:=C6K hcc.1.1;subst this
   have:=C6K hcc.1.2;subst this
   have:=C6K hcc.2;subst this
   injection hr with hr;subst hr
   obtain ⟨tee,he1,he2⟩:=A8 hke
   exact B7H h ht (Q6 (hT _ _ he1) he2) ((ho id (by simp)).trans hof) hx
  rename_i l hks hke
  split at hr<;>try (cases hr;done)
  rename_i hz
  injection hr with hr;subst hr
  obtain ⟨tes,hs1,hs2⟩:=A8 hks
  obtain ⟨tee,he1,he2⟩:=A8 hke
  exact B5k (te:=te) h hT (P5 (hT _ _ hs1) hs2) ht (Q6 (hT _ _ he1) he2) hke (C6K hz) (hu nx (by simp)) hx
 ·cases hr
def B5l (T:TT) (of:Nat→Option Ob) (t:Nat) (u:A):Option (A×List Nat) :=
 match C0 T t with
 | some .str=>match u with
  | .s l=>if Nat.ble l.length 9223372036854775807 then some (.i .i64 (l.length:Nat),[]) else none
  | _=>none
 | some (.slice el)=>match U9 T of el u with
  | some (xs,ro)=>match u with
   | .s _=>none
   | _=>if Nat.ble xs.length 9223372036854775807 then some (.i .i64 (xs.length:Nat),ro) else none
  | none=>none
 | some (.map _ _)=>match u with
  | .m id=>match of id with
   | some (.map _ _ es)=>if Nat.ble es.length 9223372036854775807 then some (.i .i64 (es.length:Nat),[id]) else none
   | _=>none
  | _=>none
 | _=>none
variable {P:Program} {T:TT} {c:N5} {e:B2} {of:Nat→Option Ob}
theorem A2S {n:Nat} (h:Nat.ble n 9223372036854775807=true):inR .i64 (n:Nat):=by
 have:=C6Q h
 constructor<;>simp only [lo,hi]<;>omega
theorem Q4 {id:Nat} {x:Value} (h:B6 T e (.m id) x):∃ b,e.U id∧e.bn id=0∧e.ι id=some (b,0)∧x=.map (some b):=by
 have h:RA T e [.m id] [x]:=h
 cases h with
 | r h1 _ _=>exact h1
theorem MR.length {kt et:Nat} {es:List (V×A)} {ms:List MapEntry} (h:MR T e kt et es ms):es.length=ms.length:=by
 induction h with
 | nil=>rfl
 | cons _ _ _ _ ih=>simp [ih]
theorem A7F {id kt et:Nat} {es:List (V×A)} (h:A6 T c e of) (ho:of id=some (.map kt et es)):e.U id∧e.bn id=0∧∃ b ms clock,e.ι id=some (b,0)∧e.w.heap[b]? = some (.map ms clock)∧((es.map (·.1)).Nodup∧StB ms clock)∧∃ es',es'.Perm es∧MR T e kt et es' ms.toList:=h.ok _ _ ho
theorem B2U (hT:H7 T P) {of':Nat→Option Ob} {t ty:TypeId} {u r:A} {x:Value} {ro:List Nat} (h:A6 T c e of') (hr:B5l T of t u=some (r,ro)) (ho:∀ id∈ro,of' id=of id) (hx:B6 T e u x) :
  C7 P (do pure (.value (← Builtin.len_ #[t] ty #[x]))) e.w (D1 T c e of' ⟨r,[],ro,[]⟩):=by
 unfold B5l at hr
 split at hr
 ·rename_i hk
  obtain ⟨te,h1,h2⟩:=A8 hk
  split at hr<;>try (cases hr;done)
  rename_i l
  split at hr<;>try (cases hr;done)
  rename_i hl
  injection hr with hr;injection hr with e1 e2;subst e1;subst e2
  obtain ⟨s,rfl,rfl⟩:=U3 hx
  refine A1 (x:=.int .i64 s.size) (w':=e.w) (by simp [Builtin.len_,A2 (P5 (hT _ _ h1) h2),goInt]) ?_
  have:=L9 (T:=T) (e:=e) (A2S hl)
  rw [A0i] at this ⊢
  exact A7 h this
 ·rename_i el hk
  obtain ⟨te,h1,h2⟩:=A8 hk
  have hu:=F3 (hT _ _ h1) h2
  split at hr<;>try (cases hr;done)
  rename_i xs ro' hs
  have key:∀ (hns:∀ l,u≠.s l),(if Nat.ble xs.length 9223372036854775807 then some (A.i .i64 (xs.length:Nat),ro') else none)=some (r,ro)→C7 P (do pure (.value (← Builtin.len_ #[t] ty #[x]))) e.w (D1 T c e of' ⟨r,[],ro,[]⟩):=by
   intro hns hr
   split at hr<;>try (cases hr;done)
   rename_i hl
   injection hr with hr;injection hr with e1 e2;subst e1;subst e2
   obtain ⟨us,s1,s2⟩:=A4c (xt:=t) h (.inl ⟨el,hu⟩) (fun l hl=>absurd hl (hns l)) hs ho hx
   obtain ⟨p,n,k,rfl⟩:=A2t h hs ho hx hns
   have hn:n=xs.length:=by
    have:=s1.len e.w
    simp only [Builtin.lenOf,Sem.run_pure] at this
    injection this
   subst hn
   exact A1 (x:=.int .i64 xs.length) (w':=e.w) (by simp [Builtin.len_,A2 hu,goInt]) (A7 h (L9 (A2S hl)))
  cases u with
  | s l=>cases hr
  | _=>exact key (fun l q=>by cases q) hr
 ·rename_i kt et hk
  obtain ⟨te,h1,h2⟩:=A8 hk
  have hu:=L3 (hT _ _ h1) h2
  split at hr<;>try (cases hr;done)
  rename_i id
  split at hr<;>try (cases hr;done)
  rename_i kt' et' es hof
  split at hr<;>try (cases hr;done)
  rename_i hl
  injection hr with hr;injection hr with e1 e2;subst e1;subst e2
  obtain ⟨b,u1,u2,u3,rfl⟩:=Q4 hx
  obtain ⟨v1,v2,b',ms,clock,v3,v4,v5,es',v6,v7⟩:=A7F h ((ho id (by simp)).trans hof)
  rw [u3] at v3;cases v3
  have hlen:ms.size=es.length:=by rw [← v6.length_eq,v7.length,C6R]
  have hg:∀ w:World,w.heap[b]? = some (.map ms clock)→(getObj b).run P w=.ok (.map ms clock) w:=fun w hw=>by simp [getObj,Sem.run,hw]
  refine A1 (x:=.int .i64 ms.size) (w':=e.w) (by simp [Builtin.len_,A2 hu,goInt,hg _ v4]) ?_
  rw [hlen]
  exact A7 h (L9 (A2S hl))
 ·cases hr
def C4B (T:TT) (t:Nat) (u:A):Option A :=
 match C0 T t with
 | some (.slice _)=>match u with
  | .v t' .n=>if H8 T t t' then some (.i .i64 0) else none
  | .z v=>if A4B v then some (.i .i64 0) else none
  | .q t' x=>if H8 T t t'&&Nat.ble x.els.length 9223372036854775807 then some (.i .i64 (x.els.length:Nat)) else none
  | _=>none
 | _=>none
theorem C1v (hT:H7 T P) {t ty:TypeId} {u r:A} {x:Value} (h:A6 T c e of) (hr:C4B T t u=some r) (hx:B6 T e u x) {ro:List Nat} :
  C7 P (do pure (.value (← Builtin.cap_ #[t] ty #[x]))) e.w (D1 T c e of ⟨r,[],ro,[]⟩):=by
 unfold C4B at hr
 split at hr<;>try (cases hr;done)
 rename_i el hk
 obtain ⟨te,h1,h2⟩:=A8 hk
 have hu:=F3 (hT _ _ h1) h2
 have key:∀ p (m k:Nat),x=.slice p m k→Nat.ble k 9223372036854775807=true→C7 P (do pure (.value (← Builtin.cap_ #[t] ty #[x]))) e.w (D1 T c e of ⟨.i .i64 (k:Nat),[],ro,[]⟩):=by
  rintro p m k rfl hl
  exact A1 (x:=.int .i64 k) (w':=e.w) (by simp [Builtin.cap_,A2 hu,goInt]) (A7 h (L9 (A2S hl)))
 split at hr
 ·rename_i t'
  split at hr<;>try (cases hr;done)
  rename_i hs
  injection hr with hr;subst hr
  have hk':=(B5 hs).1.symm.trans hk
  rcases (D5 hx ⟨_,hk',rfl⟩).slice_inv hk' with ⟨_,hv⟩ | ⟨_,_,_,_,h0,_⟩
  ·injection hv with hv;exact key none 0 0 hv rfl
  ·cases h0
 ·split at hr<;>try (cases hr;done)
  rename_i v hz
  injection hr with hr;subst hr
  have hx:RA T e [.z v] [x]:=hx
  cases hx with
  | z _ _=>exact key none 0 0 (A05 hz) rfl
  | r g1 _ _=>exact g1.elim
 ·rename_i t' y
  split at hr<;>try (cases hr;done)
  rename_i hc
  simp only [C6L] at hc
  injection hr with hr;subst hr
  have hk':=(B5 hc.1).1.symm.trans hk
  have hx:RA T e [.q t' y] [x]:=hx
  cases hx with
  | q g1 _ =>
   rename_i p n
   rcases g1.slice_inv hk' with ⟨rfl,hv⟩ | ⟨ys,_,_,_,rfl,hv,_⟩
   ·injection hv with hv;injection hv with hv1 hv2 hv3
    subst hv2
    exact key _ 0 0 rfl rfl
   ·injection hv with hv;injection hv with hv1 hv2 hv3
    subst hv2
    exact key _ _ _ rfl hc.2
  | r g1 _ _=>exact g1.elim
 ·cases hr
def B5m (mx:Bool) (u v:A):Option A :=
 match u,v with
 | .i k a,.i k' b=>if A58 k k' then some (.i k (bif (bif mx then G0 a b else G0 b a) then b else a)) else none
 | _,_=>none
theorem C4C {t:Array TypeId} {ty:TypeId} {u v r:A} {a b:Value} (h:A6 T c e of) (hr:B5m false u v=some r) (hu:B6 T e u a) (hv:B6 T e v b) {ro:List Nat} :
  C7 P (do pure (.value (← Builtin.min_ t ty #[a,b]))) e.w (D1 T c e of ⟨r,[],ro,[]⟩):=by
 unfold B5m at hr
 split at hr<;>try (cases hr;done)
 split at hr<;>try (cases hr;done)
 rename_i hk
 have:=A1p hk;subst this
 injection hr with hr;subst hr
 have r1:=S7 hu
 have r2:=S7 hv
 rw [C9 hu,C9 hv]
 rename_i k m n
 refine A1 (x:=.int k (if n < m then n else m)) (w':=e.w) (by simp [Builtin.min_,Builtin.min2]) ?_
 have:(bif (bif false then G0 m n else G0 n m) then n else m)=if n < m then n else m:=by
  simp only [cond_false]
  by_cases hlt:n < m
  ·rw [G5.2 hlt,if_pos hlt];rfl
  ·have:G0 n m=false:=by rw [← Bool.not_eq_true,G5];exact hlt
   rw [this,if_neg hlt];rfl
 rw [this]
 refine A7 h (L9 ?_)
 split
 ·exact r2
 ·exact r1
theorem C4D {t:Array TypeId} {ty:TypeId} {u v r:A} {a b:Value} (h:A6 T c e of) (hr:B5m true u v=some r) (hu:B6 T e u a) (hv:B6 T e v b) {ro:List Nat} :
  C7 P (do pure (.value (← Builtin.max_ t ty #[a,b]))) e.w (D1 T c e of ⟨r,[],ro,[]⟩):=by
 unfold B5m at hr
 split at hr<;>try (cases hr;done)
 split at hr<;>try (cases hr;done)
 rename_i hk
 have:=A1p hk;subst this
 injection hr with hr;subst hr
 have r1:=S7 hu
 have r2:=S7 hv
 rw [C9 hu,C9 hv]
 rename_i k m n
 refine A1 (x:=.int k (if m < n then n else m)) (w':=e.w) (by simp [Builtin.max_,Builtin.max2]) ?_
 have:(bif (bif true then G0 m n else G0 n m) then n else m)=if m < n then n else m:=by
  simp only [cond_true]
  by_cases hlt:m < n
  ·rw [G5.2 hlt,if_pos hlt];rfl
  ·have:G0 m n=false:=by rw [← Bool.not_eq_true,G5];exact hlt
   rw [this,if_neg hlt];rfl
 rw [this]
 refine A7 h (L9 ?_)
 split
 ·exact r2
 ·exact r1
def B1f (k:IntKind) (n:Int):Bool:=F9 (lo k) n&&F9 n (hi k)
theorem A5o {k:IntKind} {n:Int} (h:B1f k n=true):inR k n:=by
 simp only [B1f,C6L,E5] at h;exact h
def chk (k:IntKind) (n:Int):Option A:=if B1f k n then some (.i k n) else none
theorem B7J {k:IntKind} {n:Int} {r:A} (h:chk k n=some r):r=.i k n∧inR k n:=by
 unfold chk at h
 split at h
 ·rename_i hc;injection h with h;exact ⟨h.symm,A5o hc⟩
 ·cases h
def unA (op:UnOp) (u:A):Option A :=
 match op,u with
 | .neg,.i k n=>some (.i k (k.wrap (0 - n)))
 | .xor,.i k n=>chk k (F7 .xor k (if k.signed then -1 else k.max) n)
 | .not,.b q=>some (.b !q)
 | _,_=>none
theorem C4E {op:UnOp} {u r:A} {x:Value} (h:A6 T c e of) (hr:unA op u=some r) (hx:B6 T e u x) {ro:List Nat} :
  C7 P (do pure (.value (← Op.unary op x))) e.w (D1 T c e of ⟨r,[],ro,[]⟩):=by
 unfold unA at hr
 split at hr
 ·injection hr with hr;subst hr
  rw [C9 hx]
  exact A1 (by simp [Op.unary,Op.intArith]) (A7 h (L9 (M8 _ _)))
 ·obtain ⟨rfl,hrg⟩:=B7J hr
  rw [C9 hx]
  exact A1 (by simp [Op.unary];exact Y1 _ _ _ _ _ (by simp)) (A7 h (L9 hrg))
 ·injection hr with hr;subst hr
  rw [Z8 hx]
  exact A1 (by simp [Op.unary]) (A7 h (A2B _))
 ·cases hr
def C4F (i:Nat) (u:A):Option A :=
 match u with
 | .t l=>match l[i]? with
  | some (.t _)=>none
  | r=>r
 | _=>none
theorem C1w {i:Nat} {u r:A} {x:Value} (h:A6 T c e of) (hr:C4F i u=some r) (hx:B6 T e u x) {ro:List Nat} :
  C7 P (do pure (.value (← Instr.extract x i))) e.w (D1 T c e of ⟨r,[],ro,[]⟩):=by
 unfold C4F at hr
 split at hr<;>try (cases hr;done)
 rename_i l
 split at hr
 ·cases hr
 ·rename_i hne
  obtain ⟨xs,rfl,hs,hall⟩:=hx
  obtain ⟨hi,-⟩:=List.getElem?_eq_some_iff.1 hr
  have hxi:xs[i]? = some xs[i]:=Array.getElem?_eq_getElem (by omega)
  refine A1 (x:=xs[i]) (w':=e.w) (by simp [Instr.extract,hxi]) (A7 h ?_)
  have:=hall i r xs[i] hr hxi
  cases r with
  | t l=>exact absurd hr (hne l)
  | _=>exact this
variable {P:Program} {T:TT} {c:N5} {e:B2} {of:Nat→Option Ob}
def C4G (of:Nat→Option Ob) (u:A):Option (List Nat) :=
 match u with
 | .p _ _ _=>some []
 | .c _ _=>some []
 | .f _ _=>some []
 | .e id ver _ _ _=>if B1b of id ver then some [id] else none
 | _=>none
theorem A3u {fn:Nat} {cap:List A} {x:Value} (h:B6 T e (.f fn cap) x):∃ vs,x=.func (.func fn) #[] vs.toArray∧RA T e cap vs:=by
 have h:RA T e [.f fn cap] [x]:=h
 cases h with
 | f h1 _=>exact ⟨_,rfl,h1⟩
 | r h1 _ _=>exact h1.elim
theorem C1x {of':Nat→Option Ob} {u:A} {ρ:Operand→Value} {o:Oper} {y:Operand} {ro:List Nat} (hop:o.op=.nilCheck y) (h:A6 T c e of') (hr:C4G of u=some ro) (ho:∀ id∈ro,of' id=of id) (hx:B6 T e u (ρ y)) :
  C7 P (execOp ρ o) e.w (D1 T c e of' ⟨u,[],ro,[]⟩):=by
 have key:(∃ a,ρ y=.pointer (some a))→C7 P (execOp ρ o) e.w (D1 T c e of' ⟨u,[],ro,[]⟩):=fun ⟨a,ha⟩=>by
  have:execOp ρ o=pure (.value (ρ y)):=by simp [execOp,hop,ha]
  rw [this]
  exact .inl ⟨ρ y,e.w,by simp,A7 h hx⟩
 unfold C4G at hr
 split at hr<;>try (cases hr;done)
 ·obtain ⟨b,off,_,_,_,_,hv⟩:=Q8 hx
  exact key ⟨_,hv⟩
 ·obtain ⟨a,ds,hv,_⟩:=A15 hx
  exact key ⟨_,hv⟩
 ·obtain ⟨vs,hv,_⟩:=A3u hx
  have:execOp ρ o=pure (.value (ρ y)):=by simp [execOp,hop,hv]
  rw [this]
  exact .inl ⟨ρ y,e.w,by simp,A7 h hx⟩
 ·split at hr<;>try (cases hr;done)
  rename_i hc
  injection hr with hr;subst hr
  obtain ⟨b,o',off,_,_,_,hv⟩:=A3H hx (A3s h hc (ho _ (by simp)))
  exact key ⟨_,hv⟩
theorem A3R (h:A6 T c e of) {id el ver:Nat} {xs:List V} {sh:Bool} (ho:of id=some (.row el ver xs false sh)) {off n:Nat} {x:Value} (hn:off+n≤xs.length) (hx:B6 T e (.w id ver off n) x) (h0:0 < n) :
  ∃ (e':B2) (a:Addr) (cap:Nat) (ds:List Value),e'.w=e.w∧A6 T c e' (F2 of id (some (.row el ver xs false true)))∧e.le e'∧(∀ j,e'.U j→e.U j)∧x=.slice (some a) n cap∧n≤cap∧Fz e' a ds∧RV T e' (List.replicate n el) ((xs.drop off).take n) ds:=by
 obtain ⟨v0,v1,v2,v3,v4,v5,h6⟩:=L1 h ho
 rcases h6 with ⟨hf,g1,rfl⟩ | ⟨_,b,o,cs,ty,fz,pre,ys,post,h1,h2,h3,h4,h5,h6,h7,h8⟩
 ·cases hf
 ·have hok:OK T (e.share b o (o+ys.length)) id (.row el ver xs false true) :=
   ⟨v0,v1,v2,v3,v4,v5,.inr ⟨rfl,b,o,cs,ty,fz,pre,ys,post,h1,h2,h3,h4,h5,h6.mono (J8 _ _ _ _),fun i hi hs=>hs.elim (h7 i hi) (fun ⟨_,_,hlt⟩=>by omega),fun hh=>by cases hh⟩⟩
  obtain ⟨b',o',cap,k,k1,k2,k3,k4,k5,rfl⟩:=Q9 hx v2
  rw [h1] at k1;cases k1
  rw [v3] at k4 k5
  obtain ⟨as,bs,zs,rfl,q1,q2,q3,q4⟩:=J5 h6 hn
  refine ⟨e.share b o (o+(as++(bs++zs)).length),⟨b,k,none⟩,cap,bs,rfl,A1q h ho h1 hok,J8 _ _ _ _,fun _ hu=>hu,rfl,k2,⟨fun _=>rfl,fun j y hj=>?_⟩,q3.mono (J8 _ _ _ _)⟩
  have hjl:=(List.getElem?_eq_some_iff.1 hj).1
  have hkk:=k5 (by omega)
  refine ⟨?_,.inr ⟨rfl,by show o≤k+j;omega,by show k+j < _;simp only [C6M];omega⟩⟩
  show e.w.cell? _=_
  rw [D0,G4 h2,h4,hkk]
  have e1:pre++(as++(bs++zs))++post=(pre++as)++(bs++(zs++post)):=by simp
  rw [e1,show o+off * B4 T el+j=(pre++as).length+j by simp only [C6M];omega]
  exact N6 hj
theorem A9h (h:A6 T c e of) {id t:Nat} {a:A} {sh:Bool} (ho:of id=some (.box t a sh)) {t1:Nat} {path:List Nat} {n el lo m:Nat} {x:Value} {y:V} (hat:atA T a path=some (.v t1 y)) (hk:C0 T t1=some (.arr n el)) (hx:B6 T e (.a id t1 path lo m) x) (h0:0 < m) :
  ∃ (e':B2) (ad:Addr) (cap:Nat) (ds:List Value),e'.w=e.w∧A6 T c e' (F2 of id (some (.box t a true)))∧e.le e'∧(∀ j,e'.U j→e.U j)∧x=.slice (some ad) m cap∧m≤cap∧Fz e' ad ds∧RV T e' (List.replicate m el) ((y.els.drop lo).take m) ds:=by
 obtain ⟨u1,u2,u3,u4,b,cs,ty,fz,g1,g2,g3,g4,g5,g6⟩:=X4 h ho
 have hok:OK T (e.share b 0 cs.size) id (.box t a true):=⟨u1,u2,u3,u4,b,cs,ty,fz,g1,g2,g3,g4,g5.mono (J8 _ _ _ _),fun hh=>by cases hh⟩
 have hlen:cs.toList.length=cs.size:=C6R ..
 obtain ⟨b',off,n',el',k,cap,_,_,k1,k2,k3,k4,k5,k6,rfl⟩:=U1 hx
 rw [g1] at k1;cases k1
 rw [hk] at k3;cases k3
 rw [u3] at k2
 obtain ⟨pre,d,post,q1,q2,q3,q4,q5⟩:=Y2 path g5 u4 k2 hat
 obtain ⟨as,bs,zs,rfl,r1,r2,r3⟩:=A3c q4.v_inv hk k4
 refine ⟨e.share b 0 cs.size,⟨b,k,none⟩,cap,bs,rfl,A1q h ho g1 hok,J8 _ _ _ _,fun _ hu=>hu,rfl,k5,⟨fun _=>rfl,fun j z hj=>?_⟩,r3.mono (J8 _ _ _ _)⟩
 have hkk:=k6 (by omega)
 have hcell:cs.toList[k+j]? = some z:=by
  rw [q1,hkk]
  have e1:pre++((as++(bs++zs))++post)=(pre++as)++(bs++(zs++post)):=by simp
  rw [e1,show off+lo * B4 T el+j=(pre++as).length+j by simp only [C6M];omega]
  exact N6 hj
 refine ⟨?_,.inr ⟨rfl,Nat.zero_le _,?_⟩⟩
 ·show e.w.cell? _=_
  rw [D0,G4 g2,hcell]
 ·have:=(List.getElem?_eq_some_iff.1 hcell).1
  rwa [C6R] at this
theorem Fz.take {a:Addr} {bs zs:List Value} (h:Fz e a (bs++zs)):Fz e a bs:=by
 refine ⟨fun hn=>h.1 (by simp [hn]),fun j y hj=>h.2 j y ?_⟩
 rw [List.getElem?_append_left (List.getElem?_eq_some_iff.1 hj).1];exact hj
theorem B7K {t n el m:Nat} {ys:List V} {ds:List Value} {a:Addr} (hk:C0 T t=some (.arr n el)) (hz:B4 T t=n * B4 T el) (hm:n≤m) (hf:Fz e a ds) (hr:RV T e (List.replicate m el) ys ds):B6 T e (.c t (.l (ys.take n))) (.pointer (some a)):=by
 obtain ⟨as,bs,rfl,q2,q3,q4⟩:=hr.split_at n hm
 have:=RV.arr hk (by rw [q2,hz]) q3 .nil
 rw [List.append_nil] at this
 exact RA.c this hf.take .nil
def B1g (T:TT) (of:Nat→Option Ob) (t:Nat) (u:A):Option (A×List (Nat×Ob)×List Nat) :=
 match C0 T t with
 | some (.arr n el)=>if Nat.blt 0 n&&Nat.beq (B4 T t) (n * B4 T el) then
   match u with
   | .v t' y=>match C0 T t' with
    | some (.slice el')=>if Nat.beq el el'&&Nat.ble n y.els.length then some (.c t (.l (y.els.take n)),[],[]) else none
    | _=>none
   | .w id ver off m=>match of id with
    | some (.row el' v xs false _)=>if Nat.beq el el'&&Nat.beq v ver&&Nat.ble n m&&Nat.ble (off+m) xs.length then some (.c t (.l (((xs.drop off).take m).take n)),[(id,.row el' ver xs false true)],[id]) else none
    | _=>none
   | .o id ver=>match of id with
    | some (.row el' v xs false _)=>if Nat.beq el el'&&Nat.beq v ver&&Nat.ble n xs.length then some (.c t (.l (xs.take n)),[(id,.row el' ver xs false true)],[id]) else none
    | _=>none
   | .a id t1 path lo m=>match C0 T t1,of id with
    | some (.arr _ el'),some (.box t0 a _)=>match atA T a path with
     | some (.v t2 y)=>if Nat.beq el el'&&Nat.beq t1 t2&&Nat.ble n m then some (.c t (.l (((y.els.drop lo).take m).take n)),[(id,.box t0 a true)],[id]) else none
     | _=>none
    | _,_=>none
   | _=>none
  else none
 | _=>none
theorem C1y (hT:H7 T P) {of':Nat→Option Ob} {t:Nat} {u r:A} {x:Value} {wo:List (Nat×Ob)} {ro:List Nat} (h:A6 T c e of') (hr:B1g T of t u=some (r,wo,ro)) (ho:∀ id∈ro,of' id=of id) (hx:B6 T e u x) :
  C7 P (do pure (.value (← Instr.arrayAt t x))) e.w (D1 T c e of' ⟨r,wo,ro,[]⟩):=by
 unfold B1g at hr
 split at hr<;>try (cases hr;done)
 rename_i n el hk
 obtain ⟨te,h1,h2⟩:=A8 hk
 have hu:=Q7 (hT _ _ h1) h2
 split at hr<;>try (cases hr;done)
 rename_i hc
 simp only [C6L] at hc
 have h0:0 < n:=by simpa [Nat.blt_eq] using hc.1
 have hz:=C6K hc.2
 have key:∀ {a:Addr} {m cap:Nat},x=.slice (some a) m cap→n≤m→(Instr.arrayAt t x).run P e.w=.ok (.pointer (some a)) e.w:=fun {a m cap} hx hm=>by
  subst hx
  simp [Instr.arrayAt,A2 hu,show ¬ m < n by omega]
 have fin:∀ {id:Nat} {o:Ob} {m:Nat} {ys:List V},n≤m→(∃ (e':B2) (a:Addr) (cap:Nat) (ds:List Value),e'.w=e.w∧A6 T c e' (F2 of' id (some o))∧e.le e'∧(∀ j,e'.U j→e.U j)∧x=.slice (some a) m cap∧m≤cap∧Fz e' a ds∧RV T e' (List.replicate m el) ys ds) →
   C7 P (do pure (.value (← Instr.arrayAt t x))) e.w (D1 T c e of' ⟨.c t (.l (ys.take n)),[(id,o)],[id],[]⟩):=by
  rintro id o m ys hm ⟨e',a,cap,ds,p1,p2,p3,p4,p5,p6,p7,p8⟩
  exact A1 (key p5 hm) ⟨e',p1,p2,p3,fun j hj=>.inl (p4 j hj),B7K hk hz hm p7 p8⟩
 split at hr
 ·rename_i t' y
  split at hr<;>try (cases hr;done)
  rename_i el' hk'
  split at hr<;>try (cases hr;done)
  rename_i hc2
  simp only [C6L] at hc2
  have:=C6K hc2.1;subst this
  have hm:=C6Q hc2.2
  injection hr with hr;injection hr with e1 e2;injection e2 with e2 e3;subst e1;subst e2;subst e3
  rcases (D5 hx ⟨_,hk',rfl⟩).slice_inv hk' with ⟨rfl,hv⟩ | ⟨ys,ds,a,cap,rfl,hv,q1,q2,q3⟩
  ·simp [V.els] at hm;omega
  ·injection hv with hv
   exact A1 (key hv hm) (A7 h (B7K hk hz hm q2 q3))
 ·rename_i id ver off m
  split at hr<;>try (cases hr;done)
  rename_i el' v xs sh hof
  split at hr<;>try (cases hr;done)
  rename_i hc2
  simp only [C6L] at hc2
  obtain ⟨⟨⟨c1,c2⟩,c3⟩,c4⟩:=hc2
  have:=C6K c1;subst this
  have:=C6K c2;subst this
  have hm:=C6Q c3
  injection hr with hr;injection hr with e1 e2;injection e2 with e2 e3;subst e1;subst e2;subst e3
  exact fin hm (A3R h ((ho id (by simp)).trans hof) (C6Q c4) hx (by omega))
 ·rename_i id ver
  split at hr<;>try (cases hr;done)
  rename_i el' v xs sh hof
  split at hr<;>try (cases hr;done)
  rename_i hc2
  simp only [C6L] at hc2
  obtain ⟨⟨c1,c2⟩,c3⟩:=hc2
  have:=C6K c1;subst this
  have:=C6K c2;subst this
  have hm:=C6Q c3
  injection hr with hr;injection hr with e1 e2;injection e2 with e2 e3;subst e1;subst e2;subst e3
  have hof':=(ho id (by simp)).trans hof
  obtain ⟨v0,v1,v2,v3,v4,v5,h6⟩:=L1 h hof'
  have hι:e.ι id≠none:=by
   rcases h6 with ⟨hf,_⟩ | ⟨_,b,o,_,_,_,_,_,_,g,_⟩
   ·cases hf
   ·rw [g];intro q;cases q
  have:=fin (m:=xs.length) hm (A3R h hof' (off:=0) (by omega) (by rw [← v4];exact A5H hx v2 v1 hι v0) (by omega))
  simpa using this
 ·rename_i id t1 path l0 m
  split at hr<;>try (cases hr;done)
  rename_i n1 el' t0 a sh hk1 hof
  split at hr<;>try (cases hr;done)
  rename_i t2 y hat
  split at hr<;>try (cases hr;done)
  rename_i hc2
  simp only [C6L] at hc2
  obtain ⟨⟨c1,c2⟩,c3⟩:=hc2
  have:=C6K c1;subst this
  have:=C6K c2;subst this
  have hm:=C6Q c3
  injection hr with hr;injection hr with e1 e2;injection e2 with e2 e3;subst e1;subst e2;subst e3
  exact fin hm (A9h h ((ho id (by simp)).trans hof) hat hk1 hx (by omega))
 ·cases hr
variable {P:Program} {T:TT} {c:N5} {e:B2} {of:Nat→Option Ob}
def R2 (n:Nat) (lo hi:Option A):Option (Nat×Nat) :=
 match J2 (0:Nat) lo,J2 n hi with
 | some l,some h=>if F9 0 l&&F9 l h&&F9 h n then some (l.toNat,(h - l).toNat) else none
 | _,_=>none
theorem S4 {n a m:Nat} {lo hi:Option A} (h:R2 n lo hi=some (a,m)):∃ l hh:Int,J2 (0:Nat) lo=some l∧J2 n hi=some hh∧0≤l∧l≤hh∧hh≤n∧a=l.toNat∧m=(hh - l).toNat:=by
 unfold R2 at h
 split at h<;>try (cases h;done)
 rename_i l hh h1 h2
 split at h<;>try (cases h;done)
 rename_i hc
 simp only [C6L,E5] at hc
 injection h with h;injection h with e1 e2
 exact ⟨l,hh,h1,h2,hc.1.1,hc.1.2,hc.2,e1.symm,e2.symm⟩
def zV (T:TT) (t:Nat) (u:A):A :=
 match u with
 | .z v=>if A4B v&&T6 T t then .v t .n else .z v
 | .q t' y=>.v t' y
 | u=>u
theorem B2V {t el:Nat} (hk:C0 T t=some (.slice el)) (hz:B4 T t=1):B6 T e (.v t .n) (.slice none 0 0):=by
 refine ⟨.nils hk hz .nil,⟨fun ⟨k,h1,h2⟩=>?_,fun ⟨cs,h⟩=>by cases h⟩⟩
 rw [hk] at h1;cases h1;cases h2
theorem B7L {t el:Nat} {y:V} {v:Value} (hk:C0 T t=some (.slice el)) (h:RV T e [t] [y] [v]) (ho:one v=true):B6 T e (.v t y) v:=by
 refine ⟨by rw [G8 ho];exact h,⟨fun ⟨k,h1,h2⟩=>?_,fun ⟨cs,h⟩=>by subst h;cases ho⟩⟩
 rw [hk] at h1;cases h1;cases h2
theorem C2L {t el:Nat} {u:A} {x:Value} (hk:C0 T t=some (.slice el)) (hx:B6 T e u x) (hq:∀ t' y,u=.q t' y→∃ el',C0 T t'=some (.slice el')):B6 T e (zV T t u) x:=by
 unfold zV
 split
 ·rename_i v
  split
  ·rename_i hc
   simp only [C6L] at hc
   have hx:RA T e [.z v] [x]:=hx
   cases hx with
   | z _ _=>rw [A05 hc.1];exact B2V hk (G3 hc.2)
   | r g1 _ _=>exact g1.elim
  ·exact hx
 ·rename_i t' y
  obtain ⟨el',hk'⟩:=hq _ _ rfl
  have hx:RA T e [.q t' y] [x]:=hx
  cases hx with
  | q g1 _=>exact B7L hk' g1 rfl
  | r g1 _ _=>exact g1.elim
 ·exact hx
def isQ (T:TT) (u:A):Bool :=
 match u with
 | .q t _=>match C0 T t with
  | some (.slice _)=>true
  | _=>false
 | _=>true
theorem A9i {u:A} (h:isQ T u=true):∀ t' y,u=.q t' y→∃ el',C0 T t'=some (.slice el'):=by
 rintro t' y rfl
 simp only [isQ] at h
 split at h
 ·exact ⟨_,by assumption⟩
 ·cases h
def A3v (T:TT) (of:Nat→Option Ob) (t:Nat) (u:A) (lo hi mx:Option A):Option (A×List (Nat×Ob)×List Nat) :=
 match C0 T t with
 | some .str=>match u,mx with
  | .s l,none=>match R2 l.length lo hi with
   | some (a,m)=>some (.s ((l.drop a).take m),[],[])
   | none=>none
  | _,_=>none
 | some (.slice el)=>if (T el).isSome&&isQ T u then
   match mx with
   | none=>match zV T t u with
    | .v t' y=>if H8 T t t' then (match R2 y.els.length lo hi with
     | some (a,m)=>some (.v t' (A4D y a m),[],[])
     | none=>none) else none
    | .w id ver off n=>match of id with
     | some (.row el' v xs _ _)=>if Nat.beq el el'&&Nat.beq v ver then (match R2 n lo hi with
      | some (a,m)=>some (.w id ver (off+a) m,[],[id])
      | none=>none) else none
     | _=>none
    | .o id ver=>match of id with
     | some (.row el' v xs false _)=>if Nat.beq el el'&&Nat.beq v ver then (match R2 xs.length lo hi with
      | some (a,m)=>some (.w id ver (0+a) m,[],[id])
      | none=>none) else none
     | some (.row el' v xs true _)=>if Nat.beq el el'&&Nat.beq v ver&&T6 T t then (match R2 0 lo hi with
      | some (a,m)=>some (.v t (A4D .n a m),[],[id])
      | none=>none) else none
     | _=>none
    | .a id t1 path lo0 m=>match C0 T t1 with
     | some (.arr _ el')=>if Nat.beq el el' then (match R2 m lo hi with
      | some (a,k)=>some (.a id t1 path (lo0+a) k,[],[])
      | none=>none) else none
     | _=>none
    | _=>none
   | some mx=>match J2 (0:Nat) lo,hi,mx with
    | some l,some (.i _ h),.i _ h'=>if ieq h h' then (match M2 T DEP of t u with
     | some (x,wo)=>if F9 0 l&&F9 l h&&F9 h x.els.length then some (.q t (A4D x l.toNat (h - l).toNat),wo,T2 wo) else none
     | none=>none) else none
    | _,_,_=>none
  else none
 | some (.arr n el)=>match u,mx with
  | .p id t1 path,none=>if H8 T t t1&&(T el).isSome then (match R2 n lo hi with
   | some (a,m)=>some (.a id t1 path a m,[],[])
   | none=>none) else none
  | _,_=>none
 | _=>none
theorem B2W {t el:Nat} {u:A} {x:Value} (hk:C0 T t=some (.slice el)) {y:V} {wo:List (Nat×Ob)} {d:Nat} (ht:M2 T d of t u=some (y,wo)) (h:A6 T c e of) (hx:B6 T e u x):one x=true:=by
 cases d with
 | zero=>simp [M2] at ht
 | succ d =>
 have hone:RA T e [u] [x]→one x=true:=fun h=>RA.one_ h x (by simp)
 cases u with
 | v t' y' =>
  simp only [M2,R7] at ht
  split at ht<;>try (cases ht;done)
  rename_i b hb
  split at hb<;>try (cases hb;done)
  rename_i hs
  have hv:=D5 hx ⟨_,(B5 hs).1.symm.trans hk,rfl⟩
  exact hv.one x (by simp)
 | g t' l =>
  simp only [M2] at ht
  split at ht<;>try (cases ht;done)
  rename_i hs
  have:chT T t'=none:=by rw [← A02 (B5 hs).1];simp [chT,hk]
  simp [this] at ht
 | t l=>simp [M2,R7] at ht
 | x=>simp [M2,R7] at ht
 | _=>exact hone hx
theorem B5n (hT:H7 T P) {of':Nat→Option Ob} {t:Nat} {u r:A} {x:Value} {lo hi mx:Option A} {lo' hi' mx':Option Value} {wo:List (Nat×Ob)} {ro:List Nat} (h:A6 T c e of') (hr:A3v T of t u lo hi mx=some (r,wo,ro)) (ho:∀ id∈ro,of' id=of id) (hx:B6 T e u x) (hlo:Z0 T e lo lo') (hhi:Z0 T e hi hi') (hmx:Z0 T e mx mx') :
  C7 P (do pure (.value (← Instr.sliceAt t x lo' hi' mx'))) e.w (D1 T c e of' ⟨r,wo,ro,[]⟩):=by
 unfold A3v at hr
 split at hr
 ·rename_i hk
  obtain ⟨te,h1,h2⟩:=A8 hk
  split at hr<;>try (cases hr;done)
  rename_i l
  split at hr<;>try (cases hr;done)
  rename_i a m hb
  injection hr with hr;injection hr with e1 e2;injection e2 with e2 e3;subst e1;subst e2;subst e3
  obtain ⟨l1,h1',b1,b2,b3,b4,b5,rfl,rfl⟩:=S4 hb
  cases hmx
  exact A5M h (P5 (hT _ _ h1) h2) hx hlo hhi b1 b2 b3 b4 b5
 ·rename_i el hk
  obtain ⟨te,h1,h2⟩:=A8 hk
  have hu:=F3 (hT _ _ h1) h2
  split at hr<;>try (cases hr;done)
  rename_i hel
  simp only [C6L] at hel
  obtain ⟨tel,hel'⟩:=C6P.1 hel.1
  split at hr
  ·cases hmx
   have hz:=C2L hk hx (A9i hel.2)
   generalize zV T t u=u' at hz hr
   split at hr<;>try (cases hr;done)
   ·rename_i t' y
    split at hr<;>try (cases hr;done)
    rename_i hs
    split at hr<;>try (cases hr;done)
    rename_i a m hb
    injection hr with hr;injection hr with e1 e2;injection e2 with e2 e3;subst e1;subst e2;subst e3
    obtain ⟨l1,h1',b1,b2,b3,b4,b5,rfl,rfl⟩:=S4 hb
    exact A3J h hT hu hel' ((B5 hs).1.symm.trans hk) hz hlo hhi b1 b2 b3 b4 b5
   ·rename_i id ver off n
    split at hr<;>try (cases hr;done)
    rename_i el' v xs nl sh hof
    split at hr<;>try (cases hr;done)
    rename_i hc
    simp only [C6L] at hc
    have:=C6K hc.1;subst this
    have:=C6K hc.2;subst this
    split at hr<;>try (cases hr;done)
    rename_i a m hb
    injection hr with hr;injection hr with e1 e2;injection e2 with e2 e3;subst e1;subst e2;subst e3
    obtain ⟨l1,h1',b1,b2,b3,b4,b5,rfl,rfl⟩:=S4 hb
    exact A3I h hT hu hel' ((ho id (by simp)).trans hof) hz hlo hhi b1 b2 b3 b4 b5
   ·rename_i id ver
    split at hr<;>try (cases hr;done)
    ·rename_i el' v xs sh hof
     split at hr<;>try (cases hr;done)
     rename_i hc
     simp only [C6L] at hc
     have:=C6K hc.1;subst this
     have:=C6K hc.2;subst this
     split at hr<;>try (cases hr;done)
     rename_i a m hb
     injection hr with hr;injection hr with e1 e2;injection e2 with e2 e3;subst e1;subst e2;subst e3
     obtain ⟨l1,h1',b1,b2,b3,b4,b5,rfl,rfl⟩:=S4 hb
     have hof':=(ho id (by simp)).trans hof
     obtain ⟨v0,v1,v2,v3,v4,v5,h6⟩:=L1 h hof'
     have hι:e.ι id≠none:=by
      rcases h6 with ⟨hf,_⟩ | ⟨_,b,o,_,_,_,_,_,_,g,_⟩
      ·cases hf
      ·rw [g];intro q;cases q
     have hw:=A5H hz v2 v1 hι v0
     rw [v4] at hw
     exact A3I h hT hu hel' hof' hw hlo hhi b1 b2 b3 b4 b5
    ·rename_i el' v xs sh hof
     split at hr<;>try (cases hr;done)
     rename_i hc
     simp only [C6L] at hc
     have:=C6K hc.1.1;subst this
     have:=C6K hc.1.2;subst this
     split at hr<;>try (cases hr;done)
     rename_i a m hb
     injection hr with hr;injection hr with e1 e2;injection e2 with e2 e3;subst e1;subst e2;subst e3
     obtain ⟨l1,h1',b1,b2,b3,b4,b5,rfl,rfl⟩:=S4 hb
     have hof':=(ho id (by simp)).trans hof
     obtain ⟨v0,v1,v2,v3,v4,v5,h6⟩:=L1 h hof'
     have hxn:x=.slice none 0 0:=by
      rcases h6 with ⟨_,g1,rfl⟩ | ⟨hf,_⟩
      ·rcases L4 hz v2 with ⟨_,_,hv⟩ | ⟨b,o,cap,k,k1,_⟩
       ·exact hv
       ·rw [g1] at k1;cases k1
      ·cases hf
     rw [hxn]
     exact A3J h hT hu hel' hk (B2V hk (G3 hc.2)) hlo hhi b1 b2 b3 b4 b5
   ·rename_i id t1 path lo0 m
    split at hr<;>try (cases hr;done)
    rename_i n1 el' hk1
    split at hr<;>try (cases hr;done)
    rename_i hc
    have:=C6K hc;subst this
    split at hr<;>try (cases hr;done)
    rename_i a k hb
    injection hr with hr;injection hr with e1 e2;injection e2 with e2 e3;subst e1;subst e2;subst e3
    obtain ⟨l1,h1',b1,b2,b3,b4,b5,rfl,rfl⟩:=S4 hb
    exact A8v h hT hu hel' hk1 hz hlo hhi b1 b2 b3 b4 b5
  ·split at hr<;>try (cases hr;done)
   rename_i l0 k1 hh k2 hh' hl0
   split at hr<;>try (cases hr;done)
   rename_i he
   have:=Z3.1 he;subst this
   split at hr<;>try (cases hr;done)
   rename_i y wo' htv
   split at hr<;>try (cases hr;done)
   rename_i hc
   simp only [C6L,E5] at hc
   injection hr with hr;injection hr with e1 e2;injection e2 with e2 e3;subst e1;subst e2;subst e3
   cases hhi with | some hhi =>
   cases hmx with | some hmx =>
   have htv':=(Z9 (T:=T) DEP).1 of of' _ _ _ _ htv ho
   have:=A2m (out:=⟨.q t (A4D y l0.toNat (hh - l0).toNat),[],[],[]⟩) (ro:=T2 wo') (A0c h htv' hx) (fun e1 hw h1 hle hU hq=>A69 h1 hT hu hel' hk (B7L hk (by rwa [G8 (B2W hk htv' h hx)] at hq) (B2W hk htv' h hx)) (hlo.mono hle) hl0 (hhi.mono hle) (hmx.mono hle) rfl rfl hc.1.1 hc.1.2 hc.2)
   simpa using this
 ·rename_i n el hk
  obtain ⟨te,h1,h2⟩:=A8 hk
  have hu:=Q7 (hT _ _ h1) h2
  split at hr<;>try (cases hr;done)
  rename_i id t1 path
  split at hr<;>try (cases hr;done)
  rename_i hc
  simp only [C6L] at hc
  obtain ⟨tel,hel'⟩:=C6P.1 hc.2
  split at hr<;>try (cases hr;done)
  rename_i a m hb
  injection hr with hr;injection hr with e1 e2;injection e2 with e2 e3;subst e1;subst e2;subst e3
  obtain ⟨l1,h1',b1,b2,b3,b4,b5,rfl,rfl⟩:=S4 hb
  cases hmx
  exact A8w h hT hu hel' ((B5 hc.1).1.symm.trans hk) hx hlo hhi b1 b2 b3 b4 b5
 ·cases hr
end Go.Vm
end