/- What the operations of a program do, shown once for all programs; and numbers. -/
import Derived.Test.YteoeonfajlnggaaGreatVm8
import Derived.Test.YteoeonfajlnggaaGreatVm7
import Derived.Laws.Externs
import Derived.Lib.Bytealg
import Derived.OpenShut
import Derived.WalkKit
import Derived.ProofKit
import Derived.JoinedOf
import Derived.ChangeShapes
import Derived.Sort.KeysCollected
import Derived.WideShapes
import Derived.Below
import Derived.Calls
set_option linter.constructorNameAsVariable false
set_option linter.unusedVariables false
set_option linter.unusedSimpArgs false
noncomputable section
namespace Go.Vm
open Go.RowKit
variable {T:TT} {R:Type} {P:Program}
abbrev ln {R:Type} (n:Nat) (k:Option R):Option R:=bif Nat.ble n 9223372036854775807 then k else none
abbrev Z9 {R:Type} (n:Nat) (k:Option R):Option R:=bif Nat.ble n LIM then k else none
def gtL (l:List V) (i:Int):Int:=(l.getD i.toNat .n).int
def X4 (a b:Int):Int:=H6 .xor .u64 a b
def A13 (a b:Int):Int:=H6 .and .u64 a b
def rtU (x:Int) (n:Nat):Int:=(H6 .or .u64 (x.fdiv (2 ^ n)) (WU (x * 2 ^ (32 - n)))).tmod 4294967296
def D2i (x:Int):Int:=X4 (X4 (rtU x 7) (rtU x 18)) (x.fdiv (2 ^ 3))
def D2j (x:Int):Int:=X4 (X4 (rtU x 17) (rtU x 19)) (x.fdiv (2 ^ 10))
def C3C (xs:List V) (i:Int):Int:=WU (WU (256 * WU (WU (256 * WU (WU (256 * WU (WU (256 * 0)+WU (gtL xs (B3 (i+0)))))+WU (gtL xs (B3 (i+1)))))+WU (gtL xs (B3 (i+2)))))+WU (gtL xs (B3 (i+3))))
def sh8:Nat→V→V
 | 0,x=>x
 | j+1,x=>sh8 j (x.put (j+1) (.i (elV x j)))
def D32 (x:V) (k w:Int):V :=
 let e:=elV x 4
 let a:=elV x 0
 let t:=(WU (WU (WU (WU (elV x 7+X4 (X4 (rtU e 6) (rtU e 11)) (rtU e 25))+X4 (A13 e (elV x 5)) (A13 (WU (4294967295 - e)) (elV x 6)))+k)+w)).tmod 4294967296
 let small:=X4 (X4 (rtU a 2) (rtU a 13)) (rtU a 22)
 let most:=X4 (X4 (A13 a (elV x 1)) (A13 a (elV x 2))) (A13 (elV x 1) (elV x 2))
 let y:=(sh8 7 x).put 4 (.i ((WU (elV (sh8 7 x) 4+t)).tmod 4294967296))
 y.put 0 (.i ((WU (WU (t+small)+most)).tmod 4294967296))
def ad8:Nat→Nat→V→V→V
 | 0,_,v,_=>v
 | m+1,j,v,x=>ad8 m (j+1) (v.put j (.i ((WU (elV v j+elV x j)).tmod 4294967296))) x
inductive C7Z where
 | m (b:V) (xs:List V)
inductive D2k where
 | o (b:V) (xs:List V)
def C70 (R:Type) (p:C7Z) (K:C7Z→Option R) (kx:D2k→Option R):Option R :=
 match p with
 | .m b xs =>
  ln xs.length <| bif !(Y6 ((xs.length:Int).tmod 64) 56) then Z9 (xs.length+1) <| K (.m b (xs++[.i 0])) else kx (.o b xs)
inductive C71 where
 | m (z:V) (v:V) (xs:List V) (kk:V) (at_:Int) (ws:List V) (i:Int)
inductive C3D where
 | o (z:V) (v:V) (xs:List V) (kk:V) (at_:Int) (ws:List V) (i:Int)
def B5d (R:Type) (p:C71) (K:C71→Option R) (kx:C3D→Option R):Option R :=
 match p with
 | .m z v xs kk at_ ws i =>
  bif D4 i 64 then
   (bif D4 i 16 then
    ck (B3 (B3 (at_+B3 (4 * i))+0)) xs.length <| ck (B3 (B3 (at_+B3 (4 * i))+1)) xs.length <| ck (B3 (B3 (at_+B3 (4 * i))+2)) xs.length <| ck (B3 (B3 (at_+B3 (4 * i))+3)) xs.length <|
    Z9 (ws.length+1) <| K (.m z v xs kk at_ (ws++[.i (C3C xs (B3 (at_+B3 (4 * i))))]) (B3 (i+1)))
   else
    ck (B3 (i - 15)) ws.length <| ck (B3 (i - 15)) ws.length <| ck (B3 (i - 15)) ws.length <| ck (B3 (i - 2)) ws.length <| ck (B3 (i - 2)) ws.length <| ck (B3 (i - 2)) ws.length <|
    ck (B3 (i - 16)) ws.length <| ck (B3 (i - 7)) ws.length <| Z9 (ws.length+1) <|
    K (.m z v xs kk at_ (ws++[.i ((WU (WU (WU (gtL ws (B3 (i - 16))+D2i (gtL ws (B3 (i - 15))))+gtL ws (B3 (i - 7)))+D2j (gtL ws (B3 (i - 2))))).tmod 4294967296)]) (B3 (i+1))))
  else kx (.o z v xs kk at_ ws i)
inductive C72 where
 | m (z:V) (v:V) (xs:List V) (kk:V) (at_:Int) (ws:List V) (x:V) (i:Int)
inductive C73 where
 | o (z:V) (v:V) (xs:List V) (kk:V) (at_:Int) (ws:List V) (x:V) (i:Int)
def C3E (R:Type) (p:C72) (K:C72→Option R) (kx:C73→Option R):Option R :=
 match p with
 | .m z v xs kk at_ ws x i =>
  bif D4 i 64 then ck i 64 <| ck i ws.length <| K (.m z v xs kk at_ ws (D32 x (elV kk i) (gtL ws i)) (B3 (i+1))) else kx (.o z v xs kk at_ ws x i)
inductive C74 where
 | m (z:V) (v:V) (xs:List V) (kk:V) (at_:Int)
inductive D2l where
 | o (z:V) (v:V) (xs:List V) (kk:V) (at_:Int)
def C75 (R:Type) (p:C74) (K:C74→Option R) (kx:D2l→Option R):Option R :=
 match p with
 | .m z v xs kk at_ =>
  ln xs.length <| bif D4 at_ xs.length then
   C8 (B5d R) (A3 FU) (.m z v xs kk at_ [] 0) (fun | .o z v xs kk at_ ws _=>C8 (C3E R) (A3 FU) (.m z v xs kk at_ ws v 0) (fun | .o z v xs kk at_ _ x _=>K (.m z (ad8 8 0 v x) xs kk (B3 (at_+64)))))
  else kx (.o z v xs kk at_)
variable {T:TT} {R:Type} {P:Program}
def bt (n:Int) (j:Nat):V:=.i (IntKind.wrap .u8 ((n.fdiv (2 ^ (8 * j))).tmod 256))
def ap8 {R:Type} (n:Int):Nat→List V→(List V→Option R)→Option R
 | 0,xs,k=>k xs
 | j+1,xs,k=>Z9 (xs.length+1) <| ap8 n j (xs++[bt n j]) k
theorem E3 {n:Nat} {k:Option R} (h:n≤1073741824):Z9 n k=k:=by
 unfold Z9 LIM
 rw [D54 h];rfl
theorem G3 {n:Nat} {k:Option R} (h:n≤9223372036854775807):ln n k=k:=by
 unfold ln
 rw [D54 h];rfl
theorem A14 (a b:Nat):(a:Int).tmod (b:Int)=((a % b:Nat):Int):=rfl
theorem A0P {a b:Int} (h:a=b):Y6 a b=true:=P0.2 h
theorem A2t {a b:Int} (h:a≠b):Y6 a b=false:=by
 cases hq:Y6 a b with
 | false=>rfl
 | true=>exact absurd (P0.1 hq) h
theorem D33 {b:V}:∀ (m n:Nat) (xs:List V) (k:D2k→Option R),(xs.length+m) % 64=56→m < 64→xs.length+m≤1073741824→m < n →
  C8 (C70 R) n (.m b xs) k=k (.o b (xs++List.replicate m (.i 0))):=by
 intro m
 induction m with
 | zero =>
  intro n xs k h1 h2 h3 h4
  obtain ⟨n,rfl⟩:∃ n',n=n'+1:=⟨n - 1,by omega⟩
  rw [C8]
  show ln xs.length (bif !(Y6 ((xs.length:Int).tmod 64) 56) then _ else _)=_
  rw [G3 (by omega),show (64:Int)=((64:Nat):Int) from rfl,A14,A0P (by omega)]
  simp
 | succ m ih =>
  intro n xs k h1 h2 h3 h4
  obtain ⟨n,rfl⟩:∃ n',n=n'+1:=⟨n - 1,by omega⟩
  rw [C8]
  show ln xs.length (bif !(Y6 ((xs.length:Int).tmod 64) 56) then Z9 (xs.length+1) _ else _)=_
  rw [G3 (by omega),show (64:Int)=((64:Nat):Int) from rfl,A14,A2t (by omega),E3 (by omega)]
  simp only [Bool.not_false,cond_true]
  rw [ih n (xs++[V.i 0]) k (by simp;omega) (by omega) (by simp;omega) (by omega)]
  simp [List.replicate_succ]
theorem D34 {n:Nat} (j:Nat):bt (n:Int) j=nv (n / 2 ^ (8 * j) % 256):=by
 unfold bt
 rw [A0A,Nat.shiftRight_eq_div_pow,show (256:Int)=((256:Nat):Int) from rfl,A14]
 have:IntKind.wrap .u8 ((n / 2 ^ (8 * j) % 256:Nat):Int)=((n / 2 ^ (8 * j) % 256:Nat):Int):=by
  have hl:n / 2 ^ (8 * j) % 256 < 256:=Nat.mod_lt _ (by decide)
  unfold IntKind.wrap
  simp [IntKind.bits,IntKind.signed]
 rw [this];rfl
theorem D2m {n:Int}:∀ (j:Nat) (xs:List V) (k:List V→Option R),xs.length+j≤1073741824→ap8 n j xs k=k (xs++((List.range j).reverse.map (bt n))):=by
 intro j
 induction j with
 | zero=>intro xs k h;simp [ap8]
 | succ j ih =>
  intro xs k h
  rw [ap8,E3 (by omega),ih _ _ (by simp;omega)]
  simp [List.range_succ]
def Gpd (el:Nat):FC:=fun R xs k=>match xs with
 | [b]=>Z9 (([]:List V).length+b.els.length) <| Z9 (b.els.length+1) <| C8 (C70 R) (A3 FU) (.m b (b.els++[.i 128])) (fun | .o b xs=>ln b.els.length <| ap8 (WU (WU b.els.length * 8)) 8 xs fun xs=>k [.r el xs false])
 | _=>none
def Fpd (el:Nat):FC:=fun R xs k=>match xs with
 | [b]=>bif Nat.ble b.els.length 1000000000 then k [.r el (b.els++(M4 b.els.length).map nv) false] else none
 | _=>none
theorem C76 (el:Nat):FC.nat (Fpd el):=by
 intro R xs k
 unfold Fpd
 split
 ·rename_i b;cases Nat.ble b.els.length 1000000000<;>rfl
 ·rfl
theorem HID:64 < A3 FU:=by rw [A27];decide
theorem D2n (el:Nat) {b:V} {rs:List Rs} (h:Fpd el (List Rs) [b] some=some rs):Gpd el (List Rs) [b] some=some rs:=by
 simp only [Fpd] at h
 cases hl:Nat.ble b.els.length 1000000000 with
 | false=>rw [hl] at h;cases h
 | true =>
  rw [hl] at h
  have hl:=D50 hl
  simp only [Gpd]
  have HID:=HID
  rw [E3 (by simp;omega),E3 (by omega),D33 ((119 - b.els.length % 64) % 64) (A3 FU) (b.els++[V.i 128]) _ (by simp;omega) (by omega) (by simp;omega) (by omega)]
  simp only
  rw [G3 (by omega),D2m _ _ _ (by simp;omega)]
  have hw:WU (WU (b.els.length:Int) * 8)=((8 * b.els.length:Nat):Int):=by
   rw [C4 (by omega),show ((b.els.length:Int) * 8)=((8 * b.els.length:Nat):Int) by push_cast;omega,C4 (by omega)]
  rw [hw]
  refine Eq.trans ?_ h
  simp only [cond_true]
  congr 3
  unfold M4
  generalize 8 * b.els.length=N
  rw [show (List.range 8).reverse=[7,6,5,4,3,2,1,0] from rfl]
  simp only [List.map_cons,List.map_append,List.append_assoc,List.map_replicate,List.cons_append,List.nil_append,List.map_nil,D34,Nat.mul_zero,Nat.pow_zero,Nat.div_one]
  rfl
variable {T:TT} {R:Type} {P:Program}
theorem A5g {a:Nat} (h:a < R3):a < 18446744073709551616:=Nat.lt_of_lt_of_le h (by decide)
theorem Z0 {a b:Nat} (ha:a < R3) (hb:b < R3):X4 (a:Int) (b:Int)=((a ^^^ b:Nat):Int):=A2D (A5g ha) (A5g hb)
theorem A4v {a b:Nat} (ha:a < R3) (hb:b < R3):A13 (a:Int) (b:Int)=((a &&& b:Nat):Int):=A8p (A5g ha) (A5g hb)
theorem A1G {a n:Nat} (h:a < R3) (hn:0 < n) (hn2:n < 32):rtU (a:Int) n=((A3D a n:Nat):Int):=by
 unfold rtU A3D
 have h2:a <<< (32 - n) < 18446744073709551616:=by
  rw [Nat.shiftLeft_eq]
  have:2 ^ (32 - n)≤2 ^ 32:=Nat.pow_le_pow_right (by decide) (by omega)
  have h3:a * 2 ^ (32 - n)≤a * 2 ^ 32:=Nat.mul_le_mul_left _ this
  have h':a < 4294967296:=h
  omega
 rw [A4M,A0A,C4 h2,B9F (A5g (A1K h)) h2,show (4294967296:Int)=((4294967296:Nat):Int) from rfl,A14]
 congr 1
 rw [show (4294967296:Nat)=2 ^ 32 from rfl,Nat.or_mod_two_pow,show R3=2 ^ 32 from rfl,Nat.mod_eq_of_lt (show a >>> n < 2 ^ 32 from A1K h)]
theorem C77 {a:Nat} (h:a < R3):D2i (a:Int)=((sS0 a:Nat):Int):=by
 unfold D2i sS0
 rw [A1G h (by decide) (by decide),A1G h (by decide) (by decide),A0A,Z0 (C6 h) (C6 h),Z0 (R5 (C6 h) (C6 h)) (A1K h)]
theorem C78 {a:Nat} (h:a < R3):D2j (a:Int)=((sS1 a:Nat):Int):=by
 unfold D2j sS1
 rw [A1G h (by decide) (by decide),A1G h (by decide) (by decide),A0A,Z0 (C6 h) (C6 h),Z0 (R5 (C6 h) (C6 h)) (A1K h)]
theorem D2o {a b c:Nat} (ha:a < R3):chN a b c < R3:=by
 unfold chN
 have:4294967295 - a < R3:=by show _ < 4294967296;omega
 exact R5 (T3 ha) (T3 this)
theorem C79 {a b c:Nat} (ha:a < R3) (hb:b < R3):B5P a b c < R3:=by
 unfold B5P
 exact R5 (R5 (T3 ha) (T3 ha)) (T3 hb)
theorem C3F (n:Nat):(n:Int).tmod 4294967296=((n % 4294967296:Nat):Int):=rfl
theorem C8a {s:S8} (h:OkS s) {k w:Nat} (hk:k < R3) (hw:w < R3):D32 (R6 s) (k:Int) (w:Int)=R6 (B5Q s k w):=by
 have hne:4294967295 - s.e < R3:=by show _ < 4294967296;omega
 have hb1:X4 (X4 (rtU (s.e:Int) 6) (rtU (s.e:Int) 11)) (rtU (s.e:Int) 25)=((bS1 s.e:Nat):Int):=by
  rw [A1G h.e (by decide) (by decide),A1G h.e (by decide) (by decide),A1G h.e (by decide) (by decide),Z0 (C6 h.e) (C6 h.e),Z0 (R5 (C6 h.e) (C6 h.e)) (C6 h.e)];rfl
 have hb0:X4 (X4 (rtU (s.a:Int) 2) (rtU (s.a:Int) 13)) (rtU (s.a:Int) 22)=((bS0 s.a:Nat):Int):=by
  rw [A1G h.a (by decide) (by decide),A1G h.a (by decide) (by decide),A1G h.a (by decide) (by decide),Z0 (C6 h.a) (C6 h.a),Z0 (R5 (C6 h.a) (C6 h.a)) (C6 h.a)];rfl
 have hch:X4 (A13 (s.e:Int) (s.f:Int)) (A13 (WU (4294967295 - (s.e:Int))) (s.g:Int))=((chN s.e s.f s.g:Nat):Int):=by
  have he:s.e < 4294967296:=h.e
  rw [show (4294967295 - (s.e:Int))=((4294967295 - s.e:Nat):Int) by omega,C4 (A5g hne),A4v h.e h.f,A4v hne h.g,Z0 (T3 h.e) (T3 hne)];rfl
 have hmaj:X4 (X4 (A13 (s.a:Int) (s.b:Int)) (A13 (s.a:Int) (s.c:Int))) (A13 (s.b:Int) (s.c:Int))=((B5P s.a s.b s.c:Nat):Int):=by
  rw [A4v h.a h.b,A4v h.a h.c,A4v h.b h.c,Z0 (T3 h.a) (T3 h.a),Z0 (R5 (T3 h.a) (T3 h.a)) (T3 h.b)];rfl
 have l1:s.h < 4294967296:=h.h
 have l2:bS1 s.e < 4294967296:=D3c h.e
 have l3:chN s.e s.f s.g < 4294967296:=D2o h.e
 have l4:bS0 s.a < 4294967296:=D3b h.a
 have l5:B5P s.a s.b s.c < 4294967296:=C79 h.a h.b
 have l6:s.d < 4294967296:=h.d
 have hk:k < 4294967296:=hk
 have hw:w < 4294967296:=hw
 have ht:(WU (WU (WU (WU ((s.h:Int)+X4 (X4 (rtU (s.e:Int) 6) (rtU (s.e:Int) 11)) (rtU (s.e:Int) 25))+X4 (A13 (s.e:Int) (s.f:Int)) (A13 (WU (4294967295 - (s.e:Int))) (s.g:Int)))+(k:Int))+(w:Int))).tmod 4294967296=(((s.h+bS1 s.e+chN s.e s.f s.g+k+w) % 4294967296:Nat):Int):=by
  rw [hb1,hch,← Int.natCast_add,C4 (by omega),← Int.natCast_add,C4 (by omega),← Int.natCast_add,C4 (by omega),← Int.natCast_add,C4 (by omega),C3F]
 show V.l [.i ((WU (WU ((WU (WU (WU (WU ((s.h:Int)+X4 (X4 (rtU (s.e:Int) 6) (rtU (s.e:Int) 11)) (rtU (s.e:Int) 25))+X4 (A13 (s.e:Int) (s.f:Int)) (A13 (WU (4294967295 - (s.e:Int))) (s.g:Int)))+(k:Int))+(w:Int))).tmod 4294967296+X4 (X4 (rtU (s.a:Int) 2) (rtU (s.a:Int) 13)) (rtU (s.a:Int) 22))+X4 (X4 (A13 (s.a:Int) (s.b:Int)) (A13 (s.a:Int) (s.c:Int))) (A13 (s.b:Int) (s.c:Int)))).tmod 4294967296),
  .i s.a,.i s.b,.i s.c,.i ((WU ((s.d:Int)+(WU (WU (WU (WU ((s.h:Int)+X4 (X4 (rtU (s.e:Int) 6) (rtU (s.e:Int) 11)) (rtU (s.e:Int) 25))+X4 (A13 (s.e:Int) (s.f:Int)) (A13 (WU (4294967295 - (s.e:Int))) (s.g:Int)))+(k:Int))+(w:Int))).tmod 4294967296)).tmod 4294967296),.i s.e,.i s.f,.i s.g]=_
 rw [ht,hb0,hmaj,← Int.natCast_add,C4 (by omega),← Int.natCast_add,C4 (by omega),C3F,← Int.natCast_add,C4 (by omega),C3F]
 unfold B5Q R6
 simp only [Q6,nv]
 refine congrArg V.l ?_
 congr 1
 ·congr 1;congr 1;show _=_ % 4294967296;omega
 ·congr 3
  congr 1
  congr 1;congr 1;show _=_ % 4294967296;omega
theorem D2p {s x:S8} (hs:OkS s) (hx:OkS x):ad8 8 0 (R6 s) (R6 x)=R6 (B5R s x):=by
 have q:∀ a b:Nat,a < R3→b < R3→(WU ((a:Int)+(b:Int))).tmod 4294967296=(((a+b) % R3:Nat):Int):=fun a b ha hb=>by
  have ha:a < 4294967296:=ha
  have hb:b < 4294967296:=hb
  rw [← Int.natCast_add,C4 (by omega),C3F]
 show V.l [.i ((WU ((s.a:Int)+(x.a:Int))).tmod 4294967296),.i ((WU ((s.b:Int)+(x.b:Int))).tmod 4294967296),.i ((WU ((s.c:Int)+(x.c:Int))).tmod 4294967296),.i ((WU ((s.d:Int)+(x.d:Int))).tmod 4294967296),.i ((WU ((s.e:Int)+(x.e:Int))).tmod 4294967296),.i ((WU ((s.f:Int)+(x.f:Int))).tmod 4294967296),.i ((WU ((s.g:Int)+(x.g:Int))).tmod 4294967296),.i ((WU ((s.h:Int)+(x.h:Int))).tmod 4294967296)]=_
 rw [q _ _ hs.a hx.a,q _ _ hs.b hx.b,q _ _ hs.c hx.c,q _ _ hs.d hx.d,q _ _ hs.e hx.e,q _ _ hs.f hx.f,q _ _ hs.g hx.g,q _ _ hs.h hx.h]
 unfold B5R R6
 simp only [Q6]
 rfl
theorem A7H {l:List Nat} {j a:Nat} (h:l[j]? = some a):gtL (l.map nv) (j:Int)=(a:Int):=by
 unfold gtL
 rw [show ((j:Int)).toNat=j from rfl,List.getD,List.getElem?_map,h]
 rfl
theorem A6v {l:List Nat} {q:Nat} (h:q < l.length):gtL (l.reverse.map nv) ((l.length - 1 - q:Nat):Int)=((l.getD q 0:Nat):Int):=by
 have:=A4N (r:=[]) h
 rw [List.append_nil] at this
 exact this
theorem C3G {bs:List Nat} (hb:∀ b∈bs,b < 256) {j b0 b1 b2 b3:Nat} (hj:j < 4611686018427387904) (h0:bs[j]? = some b0) (h1:bs[j+1]? = some b1) (h2:bs[j+2]? = some b2) (h3:bs[j+3]? = some b3) :
  C3C (bs.map nv) (j:Int)=(((((b0 * 256+b1) * 256+b2) * 256+b3:Nat)):Int):=by
 have l0:=hb b0 (List.mem_of_getElem? h0)
 have l1:=hb b1 (List.mem_of_getElem? h1)
 have l2:=hb b2 (List.mem_of_getElem? h2)
 have l3:=hb b3 (List.mem_of_getElem? h3)
 have w:∀ d:Nat,d < 4→B3 ((j:Int)+(d:Int))=((j+d:Nat):Int):=fun d hd=>by rw [G8 (by omega) (by omega)];push_cast;rfl
 have e0:B3 ((j:Int)+0)=((j:Nat):Int):=w 0 (by decide)
 have e1:B3 ((j:Int)+1)=((j+1:Nat):Int):=w 1 (by decide)
 have e2:B3 ((j:Int)+2)=((j+2:Nat):Int):=w 2 (by decide)
 have e3:B3 ((j:Int)+3)=((j+3:Nat):Int):=w 3 (by decide)
 unfold C3C
 rw [e0,e1,e2,e3,A7H h0,A7H h1,A7H h2,A7H h3,C4 (n:=b0) (by omega),C4 (n:=b1) (by omega),C4 (n:=b2) (by omega),C4 (n:=b3) (by omega)]
 have z:WU (256 * 0)=((0:Nat):Int):=rfl
 have m:∀ a:Nat,a < 4294967296→WU (256 * (a:Int))=((256 * a:Nat):Int):=fun a ha=>by
  rw [show (256 * (a:Int))=((256 * a:Nat):Int) by omega,C4 (by omega)]
 rw [z,← Int.natCast_add,C4 (by omega),m _ (by omega),← Int.natCast_add,C4 (by omega),m _ (by omega),← Int.natCast_add,C4 (by omega),m _ (by omega),← Int.natCast_add,C4 (by omega)]
 congr 1;omega
theorem D2q {z v kk:V} {bs:List Nat} (hb:∀ b∈bs,b < 256) {a:Nat} (hl:a+64≤bs.length) (hB:bs.length < 4611686018427387000):∀ (m j n:Nat) (l:List Nat) (k:C3D→Option R),j+m=16→l.length=j →
  C8 (B5d R) (m+n) (.m z v (bs.map nv) kk (a:Int) (l.reverse.map nv) (j:Int)) k=C8 (B5d R) n (.m z v (bs.map nv) kk (a:Int) ((N5 m (bs.drop (a+4 * j)) l).reverse.map nv) 16) k:=by
 intro m
 induction m with
 | zero =>
  intro j n l k hj hlen
  have:j=16:=by omega
  subst this
  rw [Nat.zero_add]
  rfl
 | succ m ih =>
  intro j n l k hj hlen
  obtain ⟨b0,b1,b2,b3,g0,g1,g2,g3,gd⟩:=D4x (bs:=bs) (k:=a+4 * j) (by omega)
  have w0:B3 ((a:Int)+B3 (4 * (j:Int)))=((a+4 * j:Nat):Int):=by rw [G8 (n:=4 * (j:Int)) (by omega) (by omega),G8 (by omega) (by omega)];push_cast;rfl
  have w:∀ d:Nat,d < 4→B3 (((a+4 * j:Nat):Int)+(d:Int))=((a+4 * j+d:Nat):Int):=fun d hd=>by rw [G8 (by omega) (by omega)];push_cast;rfl
  have e0:B3 (((a+4 * j:Nat):Int)+0)=((a+4 * j:Nat):Int):=w 0 (by decide)
  have e1:B3 (((a+4 * j:Nat):Int)+1)=((a+4 * j+1:Nat):Int):=w 1 (by decide)
  have e2:B3 (((a+4 * j:Nat):Int)+2)=((a+4 * j+2:Nat):Int):=w 2 (by decide)
  have e3:B3 (((a+4 * j:Nat):Int)+3)=((a+4 * j+3:Nat):Int):=w 3 (by decide)
  have wj:B3 ((j:Int)+1)=((j+1:Nat):Int):=by rw [G8 (by omega) (by omega)];push_cast;rfl
  rw [show m+1+n=(m+n)+1 by omega,C8]
  show (bif D4 (j:Int) 64 then (bif D4 (j:Int) 16 then _ else _) else _)=_
  rw [show D4 (j:Int) 64=true by simp [D4];omega,show D4 (j:Int) 16=true by simp [D4];omega]
  simp only [cond_true]
  rw [w0,e0,e1,e2,e3,D5Y,D5Y,List.length_reverse,H0 (by omega) (by omega),H0 (by omega) (by omega),H0 (by omega) (by omega),H0 (by omega) (by omega),E3 (by omega),wj,C3G hb (by omega) g0 g1 g2 g3]
  have hl2:l.reverse.map nv++[V.i ((((b0 * 256+b1) * 256+b2) * 256+b3:Nat):Int)]=((((b0 * 256+b1) * 256+b2) * 256+b3)::l).reverse.map nv:=by simp;rfl
  rw [hl2,ih (j+1) n _ k (by omega) (by simp [hlen]),gd]
  simp only [N5,Q6]
  rfl
theorem D2r {z v xs:V} {ws:List V} {at_:Int} {kk:V}:∀ (m n:Nat) (l:List Nat) (k:C3D→Option R),l.length+m=64→16≤l.length→(∀ a∈l,a < R3)→m < n →
  C8 (B5d R) n (.m z v ws kk at_ (l.reverse.map nv) (l.length:Int)) k=k (.o z v ws kk at_ ((A2B m l).reverse.map nv) 64):=by
 intro m
 induction m with
 | zero =>
  intro n l k hj h16 hlt hn
  obtain ⟨n,rfl⟩:∃ n',n=n'+1:=⟨n - 1,by omega⟩
  have:l.length=64:=by omega
  rw [this]
  rfl
 | succ m ih =>
  intro n l k hj h16 hlt hn
  obtain ⟨n,rfl⟩:∃ n',n=n'+1:=⟨n - 1,by omega⟩
  have wi:∀ d:Nat,d≤16→B3 ((l.length:Int) - (d:Int))=((l.length - d:Nat):Int):=fun d hd=>by rw [G8 (by omega) (by omega)];omega
  have wj:B3 ((l.length:Int)+1)=((l.length+1:Nat):Int):=by rw [G8 (by omega) (by omega)];push_cast;rfl
  have e15:B3 ((l.length:Int) - 15)=((l.length - 1 - 14:Nat):Int):=(wi 15 (by omega)).trans (by omega)
  have e2:B3 ((l.length:Int) - 2)=((l.length - 1 - 1:Nat):Int):=(wi 2 (by omega)).trans (by omega)
  have e16:B3 ((l.length:Int) - 16)=((l.length - 1 - 15:Nat):Int):=(wi 16 (by omega)).trans (by omega)
  have e7:B3 ((l.length:Int) - 7)=((l.length - 1 - 6:Nat):Int):=(wi 7 (by omega)).trans (by omega)
  rw [C8]
  show (bif D4 (l.length:Int) 64 then (bif D4 (l.length:Int) 16 then _ else _) else _)=_
  rw [show D4 (l.length:Int) 64=true by simp [D4];omega,show D4 (l.length:Int) 16=false by simp [D4];omega]
  simp only [cond_true,cond_false]
  rw [D5Y,List.length_reverse,e15,e2,e16,e7,H0 (by omega) (by omega),H0 (by omega) (by omega),H0 (by omega) (by omega),H0 (by omega) (by omega),H0 (by omega) (by omega),H0 (by omega) (by omega),H0 (by omega) (by omega),H0 (by omega) (by omega),E3 (by omega),wj]
  rw [A6v (by omega),A6v (by omega),A6v (by omega),A6v (by omega),C77 (A1A hlt _),C78 (A1A hlt _)]
  have g1:l.getD 15 0 < 4294967296:=A1A hlt 15
  have g2:l.getD 6 0 < 4294967296:=A1A hlt 6
  have g3:sS0 (l.getD 14 0) < 4294967296:=D29 (A1A hlt 14)
  have g4:sS1 (l.getD 1 0) < 4294967296:=D3a (A1A hlt 1)
  have hval:(WU (WU (WU (((l.getD 15 0:Nat):Int)+((sS0 (l.getD 14 0):Nat):Int))+((l.getD 6 0:Nat):Int))+((sS1 (l.getD 1 0):Nat):Int))).tmod 4294967296=((A4L l:Nat):Int):=by
   rw [← Int.natCast_add,C4 (by omega),← Int.natCast_add,C4 (by omega),← Int.natCast_add,C4 (by omega),C3F]
   rfl
  rw [hval]
  have hl2:l.reverse.map nv++[V.i ((A4L l:Nat):Int)]=(A4L l::l).reverse.map nv:=by simp;rfl
  rw [hl2]
  have:=ih n (A4L l::l) k (by simp;omega) (by simp;omega) (fun a ha=>by
   rcases List.mem_cons.1 ha with rfl | ha
   ·exact Nat.mod_lt _ (by decide)
   ·exact hlt a ha) (by omega)
  rw [D52] at this
  rw [this]
  simp only [A2B,Q6]
theorem D35 {z v:V} {xs:List V} {at_:Int} {K W:List Nat} (hK:K.length=64) (hW:W.length=64) (kK:∀ a∈K,a < R3) (kW:∀ a∈W,a < R3):∀ (m j n:Nat) (x:S8) (k:C73→Option R),j+m=64→OkS x→m < n →
  C8 (C3E R) n (.m z v xs (.l (K.map nv)) at_ (W.map nv) (R6 x) (j:Int)) k=k (.o z v xs (.l (K.map nv)) at_ (W.map nv) (R6 (B0u (K.drop j) (W.drop j) x)) 64):=by
 intro m
 induction m with
 | zero =>
  intro j n x k hj hx hn
  obtain ⟨n,rfl⟩:∃ n',n=n'+1:=⟨n - 1,by omega⟩
  have:j=64:=by omega
  subst this
  rw [List.drop_of_length_le (by omega),List.drop_of_length_le (by omega)]
  rfl
 | succ m ih =>
  intro j n x k hj hx hn
  obtain ⟨n,rfl⟩:∃ n',n=n'+1:=⟨n - 1,by omega⟩
  have wj:B3 ((j:Int)+1)=((j+1:Nat):Int):=by rw [G8 (by omega) (by omega)];push_cast;rfl
  rw [C8]
  show (bif D4 (j:Int) 64 then _ else _)=_
  rw [show D4 (j:Int) 64=true by simp [D4];omega,cond_true]
  simp only
  rw [D5Y,H0 (by omega) (by omega),H0 (by omega) (by omega),wj,A8t (by omega),A7H (D57 (show j < W.length by omega)),C8a hx (kK _ (List.getElem_mem ..)) (kW _ (List.getElem_mem ..)),ih (j+1) n _ k (by omega) (B13 hx _ _) (by omega)]
  rw [List.drop_eq_getElem_cons (show j < K.length by omega),List.drop_eq_getElem_cons (show j < W.length by omega)]
  rfl
theorem C3H:∀ (ks ws:List Nat) {s:S8},OkS s→OkS (B0u ks ws s):=by
 intro ks
 induction ks with
 | nil=>intro ws s h;cases ws<;>exact h
 | cons k ks ih =>
  intro ws s h
  cases ws with
  | nil=>exact h
  | cons w ws=>exact ih ws (B13 h k w)
theorem B21:∀ (m:Nat) (l acc:List Nat),N5 m (l.take (4 * m)) acc=N5 m l acc:=by
 intro m
 induction m with
 | zero=>intro l acc;rfl
 | succ m ih =>
  intro l acc
  match l with
  | b0::b1::b2::b3::r =>
   rw [show 4 * (m+1)=4 * m+1+1+1+1 by omega]
   simp only [List.take_succ_cons,N5,Q6]
   exact ih r _
  | []=>rfl
  | [_]=>rw [List.take_of_length_le (by simp;omega)]
  | [_,_]=>rw [List.take_of_length_le (by simp;omega)]
  | [_,_,_]=>rw [List.take_of_length_le (by simp;omega)]
theorem A9Y (s:S8) (l:List Nat):A29 s (l.take 64)=A29 s l:=by
 unfold A29
 rw [B21 16 l []]
theorem B68 (s:S8) (l:List Nat):OkS (A29 s l):=C9g
theorem D36 {z:V} {bs:List Nat} (hb:∀ b∈bs,b < 256) (hB:bs.length < 4611686018427387000):∀ (m q n:Nat) (s:S8) (k:D2l→Option R),bs.length=64 * (q+m)→OkS s→m < n →
  C8 (C75 R) n (.m z (R6 s) (bs.map nv) A3b ((64 * q:Nat):Int)) k=k (.o z (R6 (L0 m s (bs.drop (64 * q)))) (bs.map nv) A3b ((64 * (q+m):Nat):Int)):=by
 intro m
 induction m with
 | zero =>
  intro q n s k hl hs hn
  obtain ⟨n,rfl⟩:∃ n',n=n'+1:=⟨n - 1,by omega⟩
  rw [C8]
  show ln (bs.map nv).length (bif D4 ((64 * q:Nat):Int) (bs.map nv).length then _ else _)=_
  rw [D5Y,G3 (by omega),show D4 ((64 * q:Nat):Int) (bs.length:Int)=false by simp [D4];omega]
  rfl
 | succ m ih =>
  intro q n s k hl hs hn
  obtain ⟨n,rfl⟩:∃ n',n=n'+1:=⟨n - 1,by omega⟩
  have HID:=HID
  have h16:A3 FU=16+(A3 FU - 16):=by omega
  obtain ⟨w1,w2⟩:=A3a 16 (bs.drop (64 * q)) [] (fun b h=>hb b (List.mem_of_mem_drop h)) (fun a h=>by cases h) (by simp;omega)
  obtain ⟨c1,c2⟩:=B0w 48 (N5 16 (bs.drop (64 * q)) []) w1
  have h1:∀ k':C3D→Option R,C8 (B5d R) (A3 FU) (.m z (R6 s) (bs.map nv) A3b ((64 * q:Nat):Int) [] 0) k'=k' (.o z (R6 s) (bs.map nv) A3b ((64 * q:Nat):Int) ((A2B 48 (N5 16 (bs.drop (64 * q)) [])).reverse.map nv) 64):=fun k'=>by
   have e:=D2q (R:=R) (z:=z) (v:=R6 s) (kk:=A3b) hb (a:=64 * q) (by omega) hB 16 0 (A3 FU - 16) [] k' rfl rfl
   rw [← h16] at e
   refine e.trans ?_
   have e2:=D2r (R:=R) (z:=z) (v:=R6 s) (xs:=z) (ws:=bs.map nv) (at_:=((64 * q:Nat):Int)) (kk:=A3b) 48 (A3 FU - 16) (N5 16 (bs.drop (64 * q)) []) k' (by rw [w2];rfl) (by rw [w2];simp) w1 (by omega)
   rw [w2] at e2
   exact e2
  have h2:∀ k':C73→Option R,C8 (C3E R) (A3 FU) (.m z (R6 s) (bs.map nv) A3b ((64 * q:Nat):Int) ((A2B 48 (N5 16 (bs.drop (64 * q)) [])).reverse.map nv) (R6 s) 0) k'=k' (.o z (R6 s) (bs.map nv) A3b ((64 * q:Nat):Int) ((A2B 48 (N5 16 (bs.drop (64 * q)) [])).reverse.map nv) (R6 (B0u B0v (A2B 48 (N5 16 (bs.drop (64 * q)) [])).reverse s)) 64):=fun k' =>
   D35 (K:=B0v) (W:=(A2B 48 (N5 16 (bs.drop (64 * q)) [])).reverse) rfl (by rw [List.length_reverse,c2,w2];rfl) B3I (fun a h=>c1 a (List.mem_reverse.1 h)) 64 0 (A3 FU) s k' rfl hs (by omega)
  rw [C8]
  show ln (bs.map nv).length (bif D4 ((64 * q:Nat):Int) (bs.map nv).length then _ else _)=_
  rw [D5Y,G3 (by omega),show D4 ((64 * q:Nat):Int) (bs.length:Int)=true by simp [D4];omega,cond_true,h1]
  simp only
  rw [h2]
  simp only
  rw [D2p hs (C3H _ _ hs)]
  have wj:B3 (((64 * q:Nat):Int)+64)=((64 * (q+1):Nat):Int):=by rw [G8 (by omega) (by omega)];push_cast;omega
  rw [wj]
  have:=ih (q+1) n (A29 s (bs.drop (64 * q))) k (by omega) (B68 _ _) (by omega)
  unfold A29 at this
  refine this.trans ?_
  rw [show 64 * (q+(m+1))=64 * (q+1+m) by omega]
  have hm:L0 (m+1) s (bs.drop (64 * q))=L0 m (A29 s (bs.drop (64 * q))) (bs.drop (64 * (q+1))):=by
   cases hd:bs.drop (64 * q) with
   | nil=>have:=congrArg List.length hd;simp at this;omega
   | cons b r =>
    simp only [L0]
    rw [← hd,A9Y,List.drop_drop]
    congr 2
  rw [hm]
  rfl
theorem A5S:∀ (m d:Nat) (s:S8) (l:List Nat),l.length≤64 * m→L0 (m+d) s l=L0 m s l:=by
 intro m
 induction m with
 | zero =>
  intro d s l h
  have:l=[]:=List.length_eq_zero_iff.1 (by omega)
  subst this
  cases d<;>rfl
 | succ m ih =>
  intro d s l h
  rw [show m+1+d=(m+d)+1 by omega]
  cases l with
  | nil=>rfl
  | cons b r =>
   simp only [L0]
   exact ih d _ _ (by simp at h ⊢;omega)
variable {T:TT} {R:Type} {P:Program}
def z32:V:=.l (List.replicate 32 (.i 0))
def A2M (j:Nat):Nat→Int→V→V
 | 0,_,h=>h
 | i+1,n,h=>A2M j i (WU (n.tdiv 256)) (h.put (4 * j+i) (.i (IntKind.wrap .u8 (n.tmod 256))))
def B22 (v:V):Nat→Nat→V→V
 | 0,_,h=>h
 | m+1,j,h=>B22 v m (j+1) (A2M j 4 (elV v j) h)
def s0V:V:=R6 s0N
def Gsm (h:Nat):FC:=fun R xs k=>match xs with
 | [b]=>bif Nat.ble b.els.length 1000000000 then C8 (C75 R) (A3 FU) (.m z32 s0V (b.els++(M4 b.els.length).map nv) A3b 0) (fun | .o z v xs kk at_=>k [.d h (B22 v 8 0 z32)]) else none
 | _=>none
def B1G (b:V):V:=.l ((A3E (V9 b)).map nv)
def Fsm (h:Nat):FC:=fun R xs k=>match xs with
 | [b]=>bif Nat.ble b.els.length 1000000000 then k [.d h (B1G b)] else none
 | _=>none
theorem C8b (h:Nat):FC.nat (Fsm h):=by
 intro R xs k
 unfold Fsm
 split
 ·rename_i b;cases Nat.ble b.els.length 1000000000<;>rfl
 ·rfl
theorem B1H {n:Nat} (h:n < 256):IntKind.wrap .u8 (n:Int)=(n:Int):=by
 unfold IntKind.wrap
 simp [IntKind.bits,IntKind.signed]
 omega
theorem C8c {s:S8} (h:OkS s):B22 (R6 s) 8 0 z32=.l ((D25 s).map nv):=by
 have one:∀ (j a:Nat) (h:V),a < R3→A2M j 4 (a:Int) h=(((h.put (4 * j+3) (nv (a % 256))).put (4 * j+2) (nv (a / 256 % 256))).put (4 * j+1) (nv (a / 65536 % 256))).put (4 * j) (nv (a / 16777216 % 256)):=by
  intro j a h ha
  have ha:a < 4294967296:=ha
  have td:∀ n:Nat,(n:Int).tdiv 256=((n / 256:Nat):Int):=fun _=>rfl
  have tm:∀ n:Nat,(n:Int).tmod 256=((n % 256:Nat):Int):=fun _=>rfl
  simp only [A2M,td,tm]
  rw [C4 (n:=a / 256) (by omega),td,tm,C4 (n:=a / 256 / 256) (by omega),td,tm,C4 (n:=a / 256 / 256 / 256) (by omega),tm,B1H (by omega),B1H (by omega),B1H (by omega),B1H (by omega)]
  rw [show a / 256 / 256 / 256 % 256=a / 16777216 % 256 by omega,show a / 256 / 256 % 256=a / 65536 % 256 by omega]
  rfl
 have e:B22 (R6 s) 8 0 z32=A2M 7 4 (s.h:Int) (A2M 6 4 (s.g:Int) (A2M 5 4 (s.f:Int) (A2M 4 4 (s.e:Int) (A2M 3 4 (s.d:Int) (A2M 2 4 (s.c:Int) (A2M 1 4 (s.b:Int) (A2M 0 4 (s.a:Int) z32))))))):=by kernel_rfl
 rw [e,one _ _ _ h.a,one _ _ _ h.b,one _ _ _ h.c,one _ _ _ h.d,one _ _ _ h.e,one _ _ _ h.f,one _ _ _ h.g,one _ _ _ h.h]
 refine (?_:@Eq V _ _)
 kernel_rfl
theorem C3I:OkS s0N:=⟨by decide,by decide,by decide,by decide,by decide,by decide,by decide,by decide⟩
theorem A9Z:∀ (n:Nat) (s:S8) (l:List Nat),OkS s→OkS (L0 n s l):=by
 intro n
 induction n with
 | zero=>intro s l h;exact h
 | succ n ih =>
  intro s l h
  cases l with
  | nil=>exact h
  | cons b r=>exact ih _ _ (B68 _ _)
theorem C8d {n:Nat}:∀ a∈M4 n,a < 256:=by
 intro a ha
 simp only [M4,List.mem_cons,D55,List.not_mem_nil,or_false] at ha
 rcases ha with rfl | h | h
 ·decide
 ·rw [List.eq_of_mem_replicate h];decide
 ·rcases h with rfl | rfl | rfl | rfl | rfl | rfl | rfl | rfl<;>exact Nat.mod_lt _ (by decide)
theorem A15 (n:Nat):(M4 n).length=9+(119 - n % 64) % 64:=by
 simp only [M4,D52,D5W,List.length_replicate,List.length_nil]
 omega
theorem D2s (h:Nat) {b:V} {bs:List Nat} (hx:b.els=bs.map nv) (hb:∀ b∈bs,b < 256) {rs:List Rs} (hF:Fsm h (List Rs) [b] some=some rs):Gsm h (List Rs) [b] some=some rs:=by
 simp only [Fsm] at hF
 cases hl:Nat.ble b.els.length 1000000000 with
 | false=>rw [hl] at hF;cases hF
 | true =>
  rw [hl] at hF
  simp only [Gsm,hl,cond_true]
  have hl:=D50 hl
  have hlen:b.els.length=bs.length:=by rw [hx,D5Y]
  have HID:4611686018427387904=A3 FU:=(A27 _).symm
  have hx2:b.els++(M4 b.els.length).map nv=(bs++M4 bs.length).map nv:=by rw [hlen,hx,List.map_append]
  have hpl:(bs++M4 bs.length).length=64 * (0+(bs.length+9+(119 - bs.length % 64) % 64) / 64):=by
   rw [D5W,A15];omega
  have law:=D36 (R:=List Rs) (z:=z32) (bs:=bs++M4 bs.length) (fun a ha=>by
   rcases D55.1 ha with h | h
   ·exact hb a h
   ·exact C8d a h) (by omega) ((bs.length+9+(119 - bs.length % 64) % 64) / 64) 0 (A3 FU) s0N (fun | .o z v xs kk at_=>some [Rs.d h (B22 v 8 0 z32)]) hpl C3I (by omega)
  rw [hx2]
  refine law.trans ?_
  refine Eq.trans ?_ hF
  simp only [cond_true]
  rw [C8c (A9Z _ _ _ C3I)]
  unfold B1G A3E
  rw [Y3 hx,List.drop_zero]
  congr 6
  have:=A5S ((bs.length+9+(119 - bs.length % 64) % 64) / 64) (bs.length / 64+2 - (bs.length+9+(119 - bs.length % 64) % 64) / 64) s0N (bs++M4 bs.length) (by omega)
  rw [← this]
  congr 1
  omega
variable {T:TT} {P:Program} {c:J8} {e eb:B4} {of of':Nat→Option Ob}
def A2u {α:Type}:List V→(List V→α)→α
 | [],k=>k []
 | a::r,k=>match a with
  | .i n=>C6q n fun n=>A2u r fun r=>k (.i n::r)
  | a=>A2u r fun r=>k (a::r)
theorem A7I {α:Type}:∀ (l:List V) (k:List V→α),A2u l k=k l:=by
 intro l
 induction l with
 | nil=>intro k;rfl
 | cons a r ih =>
  intro k
  cases a with
  | i n=>simp only [A2u,B0H,ih]
  | _=>simp only [A2u,ih]
def D37 {α:Type} (v:V) (k:V→α):α :=
 match v with
 | .l xs=>A2u xs fun xs=>k (.l xs)
 | .i n=>C6q n fun n=>k (.i n)
 | v=>k v
theorem C8e {α:Type} (v:V) (k:V→α):D37 v k=k v:=by
 cases v with
 | l xs=>exact A7I xs _
 | i n=>exact B0H n fun n=>k (.i n)
 | _=>rfl
def A90 {α:Type}:List Rs→(List Rs→α)→α
 | [],k=>k []
 | r::l,k=>match r with
  | .d t y=>D37 y fun y=>A90 l fun l=>k (.d t y::l)
  | .r el xs nl=>A2u xs fun xs=>A90 l fun l=>k (.r el xs nl::l)
theorem C3J {α:Type}:∀ (l:List Rs) (k:List Rs→α),A90 l k=k l:=by
 intro l
 induction l with
 | nil=>intro k;rfl
 | cons r l ih =>
  intro k
  cases r with
  | d t y=>simp only [A90,C8e,ih]
  | r el xs nl=>simp only [A90,A7I,ih]
def C3K (F:FC):FC:=fun R xs k=>F R xs fun rs=>A90 rs k
theorem C8f (F:FC):C3K F=F:=by
 funext R xs k
 unfold C3K
 congr 1
 funext rs
 exact C3J rs k
theorem D5.see {f:Nat} {sh:Bool} {ts:List Nat} {F:FC} (h:J2 P T f (J9 T sh ts F).dir):J2 P T f (J9 T sh ts (C3K F)).dir:=by
 rw [C8f];exact h
theorem D5.at {tab:List (Nat×D7)} (h:D5 P T tab) {f:Nat} {s:D7} (hs:A3K tab f=some s):J2 P T f s.dir:=(h f s (A2e hs)).2
theorem A8V (w:World):∀ (ns:List Nat) (a:Addr) (acc:ByteArray),(∀ (j:Nat) y,(ns.map fun n=>Value.int .u8 ((n:Nat):Int))[j]? = some y→w.cell? (a.add j)=some y) →
  (Extern.Bytes.loadBytes a ns.length acc).run P w=.ok ⟨(acc.data.toList++ns.map (fun n=>n.toUInt8)).toArray⟩ w:=by
 intro ns
 induction ns with
 | nil=>intro a acc _;simp [Extern.Bytes.loadBytes]
 | cons n ns ih =>
  intro a acc h
  have h0:w.cell? a=some (.int .u8 ((n:Nat):Int)):=by
   have:=h 0 _ rfl
   rwa [show a.add 0=a from by unfold Addr.add;simp] at this
  have ih:=ih (a.add 1) (acc.push n.toUInt8) (fun j y hj=>by
   rw [Addr.add_add,Nat.add_comm]
   exact h (j+1) y (by simpa using hj))
  rw [D52,Extern.Bytes.loadBytes]
  simp only [Sem.run_bind]
  rw [Go.run_load,h0]
  simp only [Result.andThen,Int.toNat_natCast]
  rw [ih]
  simp
theorem C3L {e:B4} {el:Nat} {kd:IntKind} (he:C5 T el=some (.int kd)) (hlo:lo kd=0):∀ {n:Nat} {xs:List V} {cs:List Value},RV T e (List.replicate n el) xs cs→∃ ns:List Nat,xs=ns.map nv∧cs=(ns.map fun n=>Value.int kd ((n:Nat):Int))∧∀ a∈ns,(a:Int)≤hi kd:=by
 intro n
 induction n with
 | zero=>intro xs cs h;cases h;exact ⟨[],rfl,rfl,fun a ha=>by cases ha⟩
 | succ n ih =>
  intro xs cs h
  rw [List.replicate_succ] at h
  cases xs with
  | nil=>cases h
  | cons x xs =>
   obtain ⟨d,r,rfl,g1,g2⟩:=h.cons_inv
   obtain ⟨m,rfl,rfl,hr⟩:=g1.int_inv he
   obtain ⟨ns,rfl,rfl,hn⟩:=ih g2
   unfold inR at hr
   rw [hlo] at hr
   have hm:((m.toNat:Nat):Int)=m:=by omega
   refine ⟨m.toNat::ns,?_,?_,fun a ha=>?_⟩
   ·simp only [List.map_cons,nv,hm]
   ·simp only [List.map_cons,hm,List.singleton_append]
   ·rcases List.mem_cons.1 ha with rfl | ha
    ·omega
    ·exact hn a ha
theorem A7J {u8 u8s:Nat} (h1:C5 T u8s=some (.slice u8)) (h2:C5 T u8=some (.int .u8)) {x:V} {v:Value} (h:RV T e [u8s] [x] v.cells.toList) (ha:W7 T u8s v) :
  ∃ ns:List Nat,x.els=ns.map nv∧(∀ a∈ns,a < 256)∧(Extern.Bytes.bytesOf v).run P e.w=.ok ⟨(ns.map (fun n=>n.toUInt8)).toArray⟩ e.w:=by
 have hv:v.cells=#[v]:=by
  cases v with
  | agg cs =>
   obtain ⟨k,hk,hg⟩:=ha.2 ⟨cs,rfl⟩
   rw [h1] at hk;cases hk;cases hg
  | _=>rfl
 rw [hv] at h
 rcases h.slice_inv h1 with ⟨rfl,hc⟩ | ⟨ys,ds,a,cap,rfl,hc,hle,hfz,hrow⟩
 ·simp at hc;subst hc
  exact ⟨[],rfl,(fun a h=>by cases h),rfl⟩
 ·simp at hc;subst hc
  obtain ⟨ns,rfl,rfl,hn⟩:=C3L h2 rfl hrow
  refine ⟨ns,rfl,B7K hn,?_⟩
  show (Extern.Bytes.loadBytes a (ns.map nv).length .empty).run P e.w=_
  rw [D5Y,A8V e.w ns a .empty (fun j y hj=>(hfz.2 j y hj).1)]
  simp
def J7:List V→List V→Int
 | [],[]=>0
 | [],_::_ => -1
 | _::_,[]=>1
 | a::x,b::y=>bif D4 a.int b.int then -1 else bif D4 b.int a.int then 1 else J7 x y
theorem C8g:∀ (a b:List Nat),(∀ x∈a,x < 256)→(∀ x∈b,x < 256)→Lib.compareBytes (a.map (fun n=>n.toUInt8)) (b.map (fun n=>n.toUInt8))=J7 (a.map nv) (b.map nv):=by
 intro a
 induction a with
 | nil=>intro b _ _;cases b<;>rfl
 | cons x a ih =>
  intro b ha hb
  cases b with
  | nil=>rfl
  | cons y b =>
   have hx:=ha x (by simp)
   have hy:=hb y (by simp)
   have q:∀ m n:Nat,m < 256→n < 256→(m.toUInt8 < n.toUInt8↔m < n):=fun m n hm hn=>by
    rw [UInt8.lt_iff_toNat_lt]
    simp [Nat.toUInt8,UInt8.toNat_ofNat',Nat.mod_eq_of_lt hm,Nat.mod_eq_of_lt hn]
   simp only [List.map_cons,Lib.compareBytes,J7]
   rw [ih b (fun z h=>ha z (by simp [h])) (fun z h=>hb z (by simp [h]))]
   have e1:D4 (nv x).int (nv y).int=decide (x < y):=by rw [Bool.eq_iff_iff,H8];simp [nv,V.int]
   have e2:D4 (nv y).int (nv x).int=decide (y < x):=by rw [Bool.eq_iff_iff,H8];simp [nv,V.int]
   rw [e1,e2]
   by_cases h1:x < y
   ·rw [if_pos ((q x y hx hy).2 h1)];simp [h1]
   ·rw [if_neg (fun h=>h1 ((q x y hx hy).1 h))]
    by_cases h2:y < x
    ·rw [if_pos ((q y x hy hx).2 h2)];simp [h1,h2]
    ·rw [if_neg (fun h=>h2 ((q y x hy hx).1 h))];simp [h1,h2]
theorem B8N:∀ (a b:List V),inR .i64 (J7 a b):=by
 have z0:inR .i64 0:=⟨by decide,by decide⟩
 have z1:inR .i64 1:=⟨by decide,by decide⟩
 have zm:inR .i64 (-1):=⟨by decide,by decide⟩
 intro a
 induction a with
 | nil=>intro b;cases b<;>assumption
 | cons x a ih =>
  intro b
  cases b with
  | nil=>exact z1
  | cons y b =>
   simp only [J7]
   cases D4 x.int y.int
   ·cases D4 y.int x.int
    ·exact ih b
    ·exact z1
   ·exact zm
def C8h (T:TT) (u8s:Nat):Sym:=fun args of nx =>
 match A0K T of [u8s,u8s] args with
 | some ([x,y],wo)=>some ⟨.i .i64 (J7 x.els y.els),[],X0 wo,nx⟩
 | _=>none
theorem C3M {u8 u8s:Nat} (h1:C5 T u8s=some (.slice u8)) (h2:C5 T u8=some (.int .u8)) {f:FuncId} {fn:Func} (hf:P.funcs[f]? = some fn) (hname:(fn.name == "runtime.NumGoroutine")=false) (hb:fn.body.isNone=true) (hn:Extern.findNext fn=none) (he:Extern.find fn=some Extern.BytealgCompare.compare):J2 P T f (C8h T u8s):=by
 intro c e of of' as0 vals nx out hos hs hro hu hvals
 unfold C8h at hs
 split at hs<;>try (cases hs;done)
 rename_i x y wo hv
 injection hs with hs;subst hs
 obtain ⟨e1,g1,g2,g3,g4,g5⟩:=A8m hos hv hro hvals
 obtain ⟨vals⟩:=vals
 simp only at g5
 cases g5 with
 | @cons _ _ _ _ v1 _ r1 a1 g5 =>
 cases g5 with
 | @cons _ _ _ _ v2 _ r2 a2 g5 =>
 cases g5
 obtain ⟨n1,p1,q1,b1⟩:=A7J (P:=P) h1 h2 r1 a1
 obtain ⟨n2,p2,q2,b2⟩:=A7J (P:=P) h1 h2 r2 a2
 rw [g1] at b1 b2
 have hrun:(callFunc f #[v1,v2]).run P e.w=.ok (.value (.int .i64 (J7 x.els y.els))) e.w:=by
  rw [run_callFunc_extern hf hname hb hn he]
  show ((do pure (goInt (Extern.BytealgCompare.cmp (← Extern.Bytes.bytesOf v1) (← Extern.Bytes.bytesOf v2))):Sem Value).run P e.w).andThen _=_
  simp only [Sem.run_bind,b1,b2,Result.andThen,Sem.run_pure]
  rw [Lib.cmp_eq,p1,p2,← C8g _ _ q1 q2]
  rfl
 exact M6 (.inl ⟨_,e.w,hrun,A6 hos (P5 (B8N _ _))⟩)
section
variable {P:Program} {H:Type} {enc:TypeId×Value→H} {w w':World} {b0:Nat} {held:Bool}
theorem A16 {α β:Type} {g g':α→Option β}:∀ (l:List α) (xs:List β),l.mapM g=some xs→(∀ a∈l,∀ x,g a=some x→g' a=some x)→l.mapM g'=some xs:=by
 intro l
 induction l with
 | nil=>intro xs h _;simpa using h
 | cons a r ih =>
  intro xs h hg
  simp only [List.mapM_cons] at h ⊢
  cases ha:g a with
  | none=>simp [ha] at h
  | some x =>
   cases hr:r.mapM g with
   | none=>simp [ha,hr] at h
   | some ys =>
    simp [ha,hr] at h
    rw [hg a (by simp) x ha,ih ys hr (fun i hi=>hg i (by simp [hi]))]
    simp [h]
theorem A2v (a:Addr) (i:Nat):(a.add i).block=a.block:=by
 unfold Addr.add;split<;>simp_all
theorem A7K {a:Addr} {v:Value} (h:w.cell? a=some v):a.block < w.heap.size:=by
 unfold World.cell? at h
 cases hb:w.heap[a.block]? with
 | none=>simp [hb] at h
 | some o=>exact (Array.getElem?_eq_some_iff.1 hb).1
theorem B8O {a:Addr} (hb:w'.heap[a.block]? = w.heap[a.block]?):w'.cell? a=w.cell? a:=by
 unfold World.cell?;rw [hb]
theorem B8P (hw:∀ i,i < w.heap.size→w'.heap[i]? = w.heap[i]?) {a:Addr} {n:Nat} {l:List Value} (hn:0 < n) (h:w.cells? b0 a n=some l):a.block < w.heap.size∧w'.cells? b0 a n=some l:=by
 unfold World.cells? at h ⊢
 split at h<;>try (cases h;done)
 rename_i hb
 rw [if_pos hb]
 have hblk:a.block < w.heap.size:=by
  obtain ⟨m,rfl⟩:∃ m,n=m+1:=⟨n - 1,by omega⟩
  rw [List.range_succ_eq_map,List.mapM_cons] at h
  cases h0:w.cell? (a.add 0) with
  | none=>simp [h0] at h
  | some v=>have:=A7K h0;rwa [A2v] at this
 refine ⟨hblk,A16 _ _ h (fun i _ x hx=>?_)⟩
 have e:=B8O (w:=w) (w':=w') (a:=a.add i) (by rw [A2v];exact hw _ hblk)
 rw [e];exact hx
def A6w (P:Program) (R:List TypeId):Bool:=R.all fun t=>match P.underlying t with
 | some (.slice e)=>decide (0 < P.cellsOf e)&&R.contains e
 | some (.pointer e)=>decide (0 < P.cellsOf e)&&R.contains e
 | some (.struct fs)=>fs.toList.all fun f=>R.contains f.type
 | some (.array _ e)=>R.contains e
 | some (.map _ e)=>R.contains e
 | _=>true
theorem C3N {R:List TypeId} (hR:A6w P R=true) (hw:∀ i,i < w.heap.size→w'.heap[i]? = w.heap[i]?) :
  ∀ (fuel:Nat) (t:TypeId) (cs:List Value) (x:DataW H×List MemPlace),t∈R→DataW.trod enc P w b0 (fun _=>true) true fuel t cs=some x→DataW.trod enc P w' b0 (fun b=>decide (b < w.heap.size)) true fuel t cs=some x:=by
 intro fuel
 induction fuel with
 | zero=>intro t cs x _ h;simp [DataW.trod] at h
 | succ fuel ih =>
  intro t cs x ht h
  have hRt:=(List.all_eq_true.1 hR) t ht
  have bindcells:∀ (a:Addr) (n:Nat) (e:TypeId) (y:DataW H×List MemPlace),e∈R→0 < n→(w.cells? b0 a n).bind (DataW.trod enc P w b0 (fun _=>true) true fuel e)=some y →
    a.block < w.heap.size∧(w'.cells? b0 a n).bind (DataW.trod enc P w' b0 (fun b=>decide (b < w.heap.size)) true fuel e)=some y:=fun a n e y he hn h=>by
   cases hc:w.cells? b0 a n with
   | none=>simp [hc] at h
   | some l =>
    rw [hc] at h
    obtain ⟨h1,h2⟩:=B8P hw hn hc
    exact ⟨h1,by rw [h2];exact ih _ _ _ he h⟩
  simp only [DataW.trod] at h ⊢
  split at h
  case h_6 a e hu =>
   rw [hu] at hRt
   simp only [D5V,D56,List.contains_iff_mem] at hRt
   obtain ⟨y,hy,rfl⟩:=Option.map_eq_some_iff.1 h
   rw [(bindcells _ _ _ _ hRt.2 hRt.1 hy).2];rfl
  case h_8 e a len cap hu =>
   rw [hu] at hRt
   simp only [D5V,D56,List.contains_iff_mem] at hRt
   split at h<;>try (cases h;done)
   rename_i hc
   rw [if_pos hc]
   cases h1:(List.range len).mapM (fun i=>(w.cells? b0 (a.add (i * P.cellsOf e)) (P.cellsOf e)).bind (DataW.trod enc P w b0 (fun _=>true) true fuel e)) with
   | none=>rw [h1] at h;cases h
   | some elems =>
    rw [h1] at h
    have g1:=A16 _ _ h1 (fun i _ y hy=>(bindcells _ _ _ _ hRt.2 hRt.1 hy).2)
    rw [g1]
    simp only [Option.bind_some,if_true] at h ⊢
    obtain ⟨rest,hr,rfl⟩:=Option.map_eq_some_iff.1 h
    by_cases hb:a.block < w.heap.size
    ·have g2:=A16 _ _ hr (fun i _ y hy=>(bindcells _ _ _ _ hRt.2 hRt.1 hy).2)
     rw [if_pos (by simpa using hb),g2];rfl
    ·have hz:cap - len=0:=by
      rcases Nat.eq_zero_or_pos (cap - len) with h0 | h0
      ·exact h0
      ·exfalso
       obtain ⟨m,hm⟩:∃ m,cap - len=m+1:=⟨cap - len - 1,by omega⟩
       rw [hm,List.range_succ_eq_map,List.mapM_cons] at hr
       cases h0:(w.cells? b0 (a.add ((len+0) * P.cellsOf e)) (P.cellsOf e)).bind (DataW.trod enc P w b0 (fun _=>true) true fuel e) with
       | none=>rw [h0] at hr;simp at hr
       | some y =>
        have:=(bindcells _ _ _ _ hRt.2 hRt.1 h0).1
        rw [A2v] at this
        exact hb this
     rw [hz] at hr
     simp at hr;subst hr
     rw [if_neg (by simpa using hb)];rfl
  case h_9 fs cs' hu =>
   rw [hu] at hRt
   simp only [List.all_eq_true,List.contains_iff_mem] at hRt
   split at h<;>try (cases h;done)
   rename_i hc
   rw [if_pos hc]
   obtain ⟨y,hy,rfl⟩:=Option.map_eq_some_iff.1 h
   rw [A16 _ _ hy (fun f hf z hz=>ih _ _ _ (hRt f hf) hz)];rfl
  case h_10 n e cs' hu =>
   rw [hu] at hRt
   simp only [List.contains_iff_mem] at hRt
   split at h<;>try (cases h;done)
   rename_i hc
   rw [if_pos hc]
   obtain ⟨y,hy,rfl⟩:=Option.map_eq_some_iff.1 h
   rw [A16 _ _ hy (fun i _ z hz=>ih _ _ _ hRt hz)];rfl
  case h_14 k e b hu =>
   rw [hu] at hRt
   simp only [List.contains_iff_mem] at hRt
   cases ho:w.heap[b]? with
   | none=>rw [ho] at h;cases h
   | some o =>
    have hb:b < w.heap.size:=(Array.getElem?_eq_some_iff.1 ho).1
    rw [ho] at h
    rw [hw b hb,ho]
    cases o with
    | map es clock =>
     simp only at h ⊢
     split at h<;>try (cases h;done)
     rename_i hc
     rw [if_pos hc]
     obtain ⟨xs,h1,h2⟩:=Option.bind_eq_some_iff.1 h
     rw [A16 _ _ h1 (fun a _ y hy=>by
      obtain ⟨key,k1,k2⟩:=Option.bind_eq_some_iff.1 hy
      rw [k1]
      simp only [Option.bind_some]
      split at k2<;>try (cases k2;done)
      rename_i hf
      rw [if_pos hf]
      obtain ⟨z,hz,rfl⟩:=Option.map_eq_some_iff.1 k2
      rw [ih _ _ _ hRt hz];rfl)]
     exact h2
    | _=>cases h
  all_goals exact h
theorem B23 {R:List TypeId} (hR:A6w P R=true) (hw:∀ i,i < w.heap.size→w'.heap[i]? = w.heap[i]?) :
  ∀ (ts:List TypeId) (vs:List Value) (ds:List (DataW H)) (ps:List MemPlace),(∀ t∈ts,t∈R)→DataW.TrodAll enc P w b0 (fun _=>true) true ts vs ds ps→DataW.TrodAll enc P w' b0 (fun b=>decide (b < w.heap.size)) true ts vs ds ps:=by
 intro ts
 induction ts with
 | nil =>
  intro vs ds ps _ h
  cases vs<;>cases ds<;>first | exact h | (exact False.elim h)
 | cons t r ih =>
  intro vs ds ps hts h
  cases vs with
  | nil=>exact False.elim h
  | cons v vs =>
   cases ds with
   | nil=>exact False.elim h
   | cons d ds =>
    obtain ⟨p,q,⟨fuel,h1⟩,h2,h3⟩:=h
    exact ⟨p,q,⟨fuel,C3N hR hw _ _ _ _ (hts _ (by simp)) h1⟩,ih _ _ _ (fun t ht=>hts t (by simp [ht])) h2,h3⟩
theorem B8Q {f:Func} {s:ChangeSpec} {args:Array Value} {ds gs:List (DataW H)} {before:List MemPlace} {fresh:Bool} {R:List TypeId} (hR:A6w P R=true) (hpR:f.params.toList.all (fun t=>R.contains t)=true)
  (hW:DataW.Whole enc P f.params.toList s.vars false w args.toList ds gs before) (hs:B0n w w') (hv:s.vars=[]) {t:TypeId} (hr:f.resultTypes=#[t]) (ht:P.underlying t=some .bool)
  (hfn:s.fn H (ds++gs)={ results:=[.lit (.bool true)],args:=ds }):s.post enc P f false fresh false false w args (.bool true) w':=by
 have hW':=hW
 obtain ⟨p,q,hA,hV,hb,hz,hn⟩:=hW
 rw [hv] at hV
 have hgq:gs=[]∧q=[]:=by cases gs<;>first | exact ⟨rfl,hV⟩ | exact False.elim hV
 obtain ⟨rfl,rfl⟩:=hgq
 refine ⟨ds,[],before,[],p,[],hW',?_,?_,?_,hs.kept _,fun h=>by cases h⟩
 ·rw [hfn,hr]
  exact ⟨[],[],⟨1,by simp [DataW.trod,ht,Value.cells]⟩,rfl,rfl⟩
 ·rw [hfn];exact B23 hR hs.2.2.2 _ _ _ _ (fun t ht=>by have:=(List.all_eq_true.1 hpR) t ht;simpa [List.contains_iff_mem] using this) hA
 ·rw [hfn,hv];rfl
end
variable {T:TT} {P:Program}
def B69:List (Nat×Sym)→Nat→Option Sym
 | [],_=>none
 | (k,s)::r,f=>bif Nat.beq k f then some s else B69 r f
def C8i (P:Program) (T:TT):List (Nat×Sym)→Prop
 | []=>True
 | (k,s)::r=>J2 P T k s∧C8i P T r
theorem C3O:∀ {l:List (Nat×Sym)},C8i P T l→∀ f s,B69 l f=some s→J2 P T f s:=by
 intro l
 induction l with
 | nil=>intro _ f s h;cases h
 | cons p r ih =>
  obtain ⟨k,s0⟩:=p
  intro h f s hs
  simp only [B69] at hs
  cases hk:Nat.beq k f with
  | true =>
   rw [hk] at hs;simp only [cond_true,D5X] at hs
   have:=D5U hk;subst this;subst hs
   exact h.1
  | false=>rw [hk] at hs;exact ih h.2 f s hs
def C8j (P:Program) (T:TT) (l:List (Nat×Sym)) (fu d f:Nat):Sym:=C4V P T (B69 l) (fun _ _ _=>none) fu d f
theorem C8k (hm:P.follows .mixedOrders=true) (hT:L8 T P) {l:List (Nat×Sym)} (h:C8i P T l) {fu d f:Nat}:J2 P T f (C8j P T l fu d f):=by
 rw [C8j]
 exact B9v hm hT (C3O h) (fun f n0 fn code _ _=>A4 code) d f
variable {T:TT} {P:Program} {c:J8} {e eb:B4} {of of':Nat→Option Ob}
def B4.got (e:B4) (w':World) (id g ty ln:Nat):B4:={ w:=w',ι:=F8 e.ι id (some (g,0)),S:=e.S,bn:=F8 e.bn id 1,U:=fun j=>j=id∨e.U j,ty:=F8 e.ty id ty,ln:=F8 e.ln id ln,G:=e.G }
theorem A5.le_got (h:A5 T c e of) {w':World} (hb:Below e.w.heap.size e.w w') {id:Nat} (hu:¬ e.U id) (g ty ln:Nat):e.le (e.got w' id g ty ln):=by
 have hne:∀ j,e.U j→j≠id:=fun j hj he=>hu (he ▸ hj)
 refine ⟨fun b i hs=>⟨hs,fun x hx=>?_⟩,fun _ hj=>.inr hj,fun j hj _=>⟨upd_ne _ _ (hne j hj),upd_ne _ _ (hne j hj),fun b o hb'=>D9 (hb.block _ (h.lt _ _ _ hj hb'))⟩,fun j hj h0=>?_,fun j hj=>?_,fun j hj=>upd_ne _ _ (hne j hj),hb.size,fun b hlt=>D9 (hb.block _ hlt)⟩
 ·rw [← hx];exact F7 (hb.block _ (h.slt _ _ hs))
 ·show F8 e.bn id 1 j=0
  rw [upd_ne _ _ (hne j hj)];exact h0
 ·show _≤F8 e.bn id 1 j
  rw [upd_ne _ _ (hne j hj)];exact Nat.le_refl _
theorem A5.got (h:A5 T c e of) {w':World} (hb:Below e.w.heap.size e.w w') {id:Nat} (hu:¬ e.U id) {g ty ln:Nat} (hg:e.w.heap.size≤g) (hg2:g < w'.heap.size) {o:Ob} (ho:OK T (e.got w' id g ty ln) id o) :
  A5 T c (e.got w' id g ty ln) (F8 of id (some o)):=by
 have hle:=h.le_got hb hu g ty ln
 have ιne:∀ j,j≠id→(e.got w' id g ty ln).ι j=e.ι j:=fun j hj=>upd_ne _ _ hj
 have ιid:(e.got w' id g ty ln).ι id=some (g,0):=upd_same _ _ _
 have obne:∀ j,j≠id→F8 of id (some o) j=of j:=fun j hj=>upd_ne _ _ hj
 have old:∀ j b q,(of j).isSome→e.ι j=some (b,q)→b < e.w.heap.size:=fun j b q hj hb=>by
  obtain ⟨x,hx⟩:=D5Z.1 hj
  exact h.lt _ _ _ (h.ok _ _ hx).use hb
 refine ⟨fun j x hj=>?_,fun j k b q b' q' hj hk hb1 hb' hne=>?_,fun j b q hj hb1=>?_,fun j b q hj hb1=>?_,fun b i hs=>?_,h.s0,h.snew,hb.os.trans h.os,hb.tape.trans h.tape,hb.output.trans h.output,Nat.le_trans h.size hb.size,fun k hk hm=>?_,?_⟩
 ·by_cases he:j=id
  ·subst he;rw [upd_same] at hj;cases hj;exact ho
  ·rw [obne _ he] at hj
   exact (h.ok _ _ hj).keep hle (upd_ne _ _ he) (fun b q hb1=>hb.block _ (old _ _ _ (by rw [hj];rfl) hb1)) (fun _ _ _ _ hs=>hs) (fun a o' b _ hG=>⟨hG,hb.block _ (h.g.lt _ _ hG),fun i hs=>hs⟩)
 ·by_cases h1:j=id
  ·subst h1
   have hk':k≠j:=Ne.symm hne
   rw [obne _ hk'] at hk;rw [ιne _ hk'] at hb'
   have:=old _ _ _ hk hb'
   rw [ιid] at hb1;cases hb1;omega
  ·by_cases h2:k=id
   ·subst h2
    rw [obne _ h1] at hj;rw [ιne _ h1] at hb1
    have:=old _ _ _ hj hb1
    rw [ιid] at hb';cases hb';omega
   ·rw [obne _ h1] at hj;rw [obne _ h2] at hk;rw [ιne _ h1] at hb1;rw [ιne _ h2] at hb'
    exact h.sep _ _ _ _ _ _ hj hk hb1 hb' hne
 ·by_cases h1:j=id
  ·subst h1
   rw [ιid] at hb1;cases hb1;exact .inl (Nat.le_trans h.size hg)
  ·rw [obne _ h1] at hj;rw [ιne _ h1] at hb1
   exact h.own _ _ _ hj hb1
 ·show b < w'.heap.size
  by_cases h1:j=id
  ·subst h1
   rw [ιid] at hb1;cases hb1;exact hg2
  ·rw [ιne _ h1] at hb1
   rcases hj with hj | hj
   ·exact absurd hj h1
   ·exact Nat.lt_of_lt_of_le (h.lt _ _ _ hj hb1) hb.size
 ·exact Nat.lt_of_lt_of_le (h.slt _ _ hs) hb.size
 ·exact (hb.block _ (Nat.lt_of_lt_of_le hk h.size)).trans (h.block k hk hm)
 ·refine h.g.mono (fun _ _ q=>q) rfl (fun _ q=>q) hb.size (fun j b o hj hb1=>?_)
  by_cases h1:j=id
  ·subst h1
   rw [ιid] at hb1;cases hb1;exact .inr hg
  ·rw [obne _ h1] at hj;rw [ιne _ h1] at hb1
   exact .inl ⟨j,o,hj,hb1⟩
theorem A5.below (h:A5 T c e of) {w':World} (hb:Below e.w.heap.size e.w w'):A5 T c { e with w:=w' } of∧e.le { e with w:=w' }:=by
 have hle:e.le { e with w:=w' }:=⟨fun b i hs=>⟨hs,fun x hx=>by rw [← hx];exact F7 (hb.block _ (h.slt _ _ hs))⟩,fun _ hj=>hj,fun j hj _=>⟨rfl,rfl,fun b o hb'=>D9 (hb.block _ (h.lt _ _ _ hj hb'))⟩,fun _ _ h0=>h0,fun _ _=>Nat.le_refl _,fun _ _=>rfl,hb.size,fun b hlt=>D9 (hb.block _ hlt)⟩
 refine ⟨⟨fun j x hj=>(h.ok _ _ hj).keep hle rfl (fun b q hb1=>hb.block _ (h.lt _ _ _ (h.ok _ _ hj).use hb1)) (fun _ _ _ _ hs=>hs) (fun a o' b _ hG=>⟨hG,hb.block _ (h.g.lt _ _ hG),fun i hs=>hs⟩),h.sep,h.own,fun j b q hj hb1=>Nat.lt_of_lt_of_le (h.lt _ _ _ hj hb1) hb.size,fun b i hs=>Nat.lt_of_lt_of_le (h.slt _ _ hs) hb.size,h.s0,h.snew,hb.os.trans h.os,hb.tape.trans h.tape,hb.output.trans h.output,Nat.le_trans h.size hb.size,fun k hk hm=>(hb.block _ (Nat.lt_of_lt_of_le hk h.size)).trans (h.block k hk hm),h.g.mono (fun _ _ q=>q) rfl (fun _ q=>q) hb.size (fun j b o hj hb1=>.inl ⟨j,o,hj,hb1⟩)⟩,hle⟩
open Go.RowKit Go.Maps
variable {T:TT} {P:Program} {c:J8} {e eb:B4} {of of':Nat→Option Ob}
variable {P:Program} {T:TT} {c:J8} {e eb:B4} {of of':Nat→Option Ob}
def B1I:Sym:=fun args of nx =>
 match args with
 | [.m id]=>match of id with
  | some (.map kt et es)=>some ⟨.m nx,[(nx,.map kt et es)],[id],nx+1⟩
  | some (.vm kt et es)=>some ⟨.m nx,[(nx,.vm kt et es)],[id],nx+1⟩
  | _=>none
 | _=>none
def C3P (P:Program) (f:Nat):Prop:=∀ (b:Nat) (es:Array MapEntry) (clock:Nat) (w:World),w.heap[b]? = some (.map es clock)→Calls P f #[.map (some b)] w fun e w'=>e=.returned (.map (some w.heap.size))∧w'=w.alloc (.map es clock)
theorem B8R {f:Nat} (hC:C3P P f) (hen:∀ args w,(callFunc f args).run P w=.ok (.enter f args) w):J2 P T f B1I:=by
 intro c e of of' as0 vals nx out hos hs hro hu hvals
 unfold B1I at hs
 split at hs<;>try (cases hs;done)
 rename_i id
 split at hs<;>try (cases hs;done)
 all_goals rename_i kt et es hof
 all_goals
  injection hs with hs;subst hs
  have hof':=(hro id (by simp)).trans hof
  obtain ⟨h1,h2,b,ms,clock,h3,h4,h5,es',h6,h7⟩:=hos.ok _ _ hof'
  obtain ⟨x,hv,hx⟩:∃ x,vals.toList=[x]∧C2 T e (.m id) x:=by
   cases hvals':vals.toList with
   | nil=>rw [hvals'] at hvals;cases hvals
   | cons x r =>
    rw [hvals'] at hvals
    cases hvals with
    | cons g1 g2=>cases g2;exact ⟨x,rfl,g1⟩
  obtain ⟨b',_,_,k3,k4⟩:=Q3 hx
  rw [h3] at k3;cases k3
  have hva:vals=#[.map (some b)]:=by rw [← k4];exact B4j hv
  subst hva
  have hun:¬ e.U nx:=hu nx (Nat.le_refl _) (Nat.lt_succ_self _)
  refine .inr (.inr (.inl ⟨f,_,e.w,hen _ _,(hC b ms clock e.w h4).mono fun en w' ⟨g1,g2⟩=>⟨_,g1,?_⟩⟩))
  have hle:=hos.le_newM hun (.map ms clock)
  refine ⟨e.newM nx (.map ms clock),g2.symm,hos.newM hun ?_,hle,fun j hj=>hj.elim (fun q=>.inr (by subst q;exact ⟨Nat.le_refl _,Nat.lt_succ_self _⟩)) .inl,?_⟩
  ·exact ⟨.inl rfl,upd_same _ _ _,e.w.heap.size,ms,clock,upd_same _ _ _,Q1 _ _,h5,es',h6,h7.mono hle⟩
  ·exact RA.r ⟨e.w.heap.size,.inl rfl,upd_same _ _ _,upd_same _ _ _,rfl⟩ rfl .nil
variable {R:Type}
variable {P:Program} {T:TT} {R:Type} {e:B4}
variable {P:Program} {T:TT} {R:Type} {c:J8} {e:B4} {of:Nat→Option Ob}
variable {P:Program} {T:TT} {R:Type} {c:J8} {e:B4} {of:Nat→Option Ob}
theorem A5h:∀ (l:List (Nat×Ob)) {f g:Nat→Option Ob} {id:Nat},f id=g id→put f l id=put g l id:=by
 intro l
 induction l with
 | nil=>intro f g id h;exact h
 | cons p r ih =>
  intro f g id h
  refine ih ?_
  simp only [F8]
  split
  ·rfl
  ·exact h
variable {P:Program} {T:TT} {R:Type}
variable {P:Program} {T:TT} {R:Type}
def Z1:Nat→Int→List V
 | 0,_=>[]
 | m+1,n=>.i (IntKind.wrap .u8 n)::Z1 m (n.fdiv (2 ^ 8))
def Z7 (n:Int):List V :=
 bif D4 n 253 then Z1 1 n else bif D4 n 65536 then .i 253::Z1 2 n else bif D4 n 4294967296 then .i 254::Z1 4 n else .i 255::Z1 8 n
theorem A1f (n:Int):1≤(Z7 n).length∧(Z7 n).length≤9:=by
 unfold Z7
 cases D4 n 253<;>cases D4 n 65536<;>cases D4 n 4294967296<;>simp [Z1]
variable {P:Program} {T:TT} {R:Type}
variable {P:Program} {T:TT} {R:Type}
variable {P:Program} {T:TT} {R:Type}
variable {P:Program} {T:TT} {R:Type}
variable {P:Program} {T:TT} {R:Type}
variable {P:Program} {T:TT}
variable {R:Type}
variable {P:Program} {T:TT} {R:Type}
variable {P:Program} {T:TT} {R:Type}
def A8W {R:Type}:Nat→Int→List V→(List V→Option R)→Option R
 | 0,n,xs,k=>k xs
 | m+1,n,xs,k=>Z9 (xs.length+1) <| A8W m (n.fdiv (2 ^ 8)) (xs++[.i (IntKind.wrap .u8 n)]) k
theorem A7L:∀ (m:Nat) (n:Int) (xs:List V) (k:List V→Option R),xs.length+m≤LIM→A8W m n xs k=k (xs++Z1 m n):=by
 intro m
 induction m with
 | zero=>intro n xs k h;simp [A8W,Z1]
 | succ m ih =>
  intro n xs k h
  have h:xs.length+(m+1)≤1073741824:=h
  unfold A8W Z1
  rw [E3 (by omega),ih _ _ _ (by rw [D5W];show xs.length+1+m≤1073741824;omega)]
  simp
variable {P:Program} {T:TT} {R:Type}
inductive D where
 | int (k:IntKind) | bool | str | slice (d:D) | arr (n:Nat) (d:D) | struct (ds:List D)
mutual
def D.has:D→V→Prop
 | .int k,x=>∃ n,x=.i n∧inR k n
 | .bool,x=>∃ b,x=.b b
 | .str,x=>∃ ns:List Nat,x=.s (ns.map nv)∧∀ a∈ns,a < 256
 | .slice d,x=>x=.n∨∃ ys,x=.l ys∧∀ y∈ys,D.has d y
 | .arr n d,x=>∃ ys,x=.l ys∧ys.length=n∧∀ y∈ys,D.has d y
 | .struct ds,x=>∃ ys,x=.l ys∧D.hasL ds ys
def D.hasL:List D→List V→Prop
 | [],[]=>True
 | d::ds,x::xs=>D.has d x∧D.hasL ds xs
 | _,_=>False
end
mutual
def X5 (T:TT):Nat→Nat→Option D
 | 0,_=>none
 | n+1,t=>match C5 T t with
  | some (.int k)=>some (.int k)
  | some .bool=>some .bool
  | some .str=>some .str
  | some (.slice el)=>match X5 T n el with
   | some d=>some (.slice d)
   | none=>none
  | some (.arr m el)=>match X5 T n el with
   | some d=>some (.arr m d)
   | none=>none
  | some (.struct fs)=>match Z2 T n fs with
   | some ds=>some (.struct ds)
   | none=>none
  | _=>none
def Z2 (T:TT):Nat→List Nat→Option (List D)
 | _,[]=>some []
 | 0,_::_=>none
 | n+1,t::ts=>match X5 T n t with
  | some d=>match Z2 T n ts with
   | some ds=>some (d::ds)
   | none=>none
  | none=>none
end
theorem B7a {e:B4} {t:Nat} {ts:List Nat} {xs:List V} {cs:List Value} (h:RV T e (t::ts) xs cs):∃ x r c1 c2,xs=x::r∧RV T e [t] [x] c1∧RV T e ts r c2:=by
 obtain ⟨as0,bs,c1,c2,rfl,rfl,h1,h2⟩:=RV.split [t] (ts':=ts) h
 obtain ⟨a,rfl⟩:=List.length_eq_one_iff.1 h1.length.2
 exact ⟨a,bs,c1,c2,rfl,h1,h2⟩
theorem C3Q {e:B4} {el:Nat} {p:V→Prop} (hp:∀ x cs,RV T e [el] [x] cs→p x):∀ {n:Nat} {xs:List V} {cs:List Value},RV T e (List.replicate n el) xs cs→∀ x∈xs,p x:=by
 intro n
 induction n with
 | zero=>intro xs cs h x hx;cases h;cases hx
 | succ n ih =>
  intro xs cs h x hx
  rw [List.replicate_succ] at h
  obtain ⟨y,r,c1,c2,rfl,h1,h2⟩:=B7a h
  rcases List.mem_cons.1 hx with rfl | hx
  ·exact hp _ _ h1
  ·exact ih h2 x hx
theorem B24:∀ (n:Nat) {e:B4},(∀ (t:Nat) (d:D),X5 T n t=some d→∀ x cs,RV T e [t] [x] cs→d.has x)∧(∀ (ts:List Nat) (ds:List D),Z2 T n ts=some ds→∀ xs cs,RV T e ts xs cs→D.hasL ds xs):=by
 intro n
 induction n with
 | zero =>
  intro e
  refine ⟨fun t d h=>(by rw [X5] at h;cases h),fun ts ds h xs cs hx=>?_⟩
  cases ts with
  | nil=>rw [Z2] at h;cases h;cases hx;trivial
  | cons t ts=>rw [Z2] at h;cases h
 | succ n ih =>
  intro e
  refine ⟨fun t d h x cs hx=>?_,fun ts ds h xs cs hx=>?_⟩
  ·rw [X5] at h
   split at h
   ·rename_i k hk;cases h;obtain ⟨m,rfl,_,hr⟩:=hx.int_inv hk;exact ⟨m,rfl,hr⟩
   ·rename_i hk;cases h
    cases hx with
    | bool _ _ _=>exact ⟨_,rfl⟩
    | int g1=>rw [hk] at g1;cases g1
    | str g1=>rw [hk] at g1;cases g1
    | ptr g1=>rw [hk] at g1;cases g1
    | nils g1=>rw [hk] at g1;cases g1
    | map g1=>rw [hk] at g1;cases g1
    | func g1=>rw [hk] at g1;cases g1
    | fn g1=>rw [hk] at g1;cases g1
    | slice g1=>rw [hk] at g1;cases g1
    | arr g1=>rw [hk] at g1;cases g1
    | struct g1=>rw [hk] at g1;cases g1
   ·rename_i hk;cases h
    cases hx with
    | @str _ s _ _ _ _ _ _ =>
     refine ⟨s.data.toList.map fun b=>b.toNat,?_,fun a ha=>?_⟩
     ·unfold txt;rw [List.map_map];rfl
     ·obtain ⟨b,_,rfl⟩:=List.mem_map.1 ha;exact b.toNat_lt
    | int g1=>rw [hk] at g1;cases g1
    | bool g1=>rw [hk] at g1;cases g1
    | ptr g1=>rw [hk] at g1;cases g1
    | nils g1=>rw [hk] at g1;cases g1
    | map g1=>rw [hk] at g1;cases g1
    | func g1=>rw [hk] at g1;cases g1
    | fn g1=>rw [hk] at g1;cases g1
    | slice g1=>rw [hk] at g1;cases g1
    | arr g1=>rw [hk] at g1;cases g1
    | struct g1=>rw [hk] at g1;cases g1
   ·rename_i el hk
    split at h<;>cases h
    rename_i d hd
    rcases hx.slice_inv hk with ⟨rfl,_⟩ | ⟨ys,ds,a,cap,rfl,_,_,_,g⟩
    ·exact .inl rfl
    ·exact .inr ⟨ys,rfl,C3Q (fun x cs hx=>(ih (e:=e)).1 el d hd x cs hx) g⟩
   ·rename_i m el hk
    split at h<;>cases h
    rename_i d hd
    obtain ⟨ys,rfl,hl,g⟩:=hx.arr_inv hk
    exact ⟨ys,rfl,hl,C3Q (fun x cs hx=>(ih (e:=e)).1 el d hd x cs hx) g⟩
   ·rename_i fs hk
    split at h<;>cases h
    rename_i ds hd
    obtain ⟨ys,rfl,g⟩:=hx.struct_inv hk
    exact ⟨ys,rfl,(ih (e:=e)).2 fs ds hd _ _ g⟩
   ·cases h
  ·cases ts with
   | nil=>rw [Z2] at h;cases h;cases hx;trivial
   | cons t ts =>
    rw [Z2] at h
    split at h<;>try (cases h;done)
    rename_i d hd
    split at h<;>cases h
    rename_i ds hds
    obtain ⟨x,r,c1,c2,rfl,h1,h2⟩:=B7a hx
    exact ⟨(ih (e:=e)).1 t d hd _ _ h1,(ih (e:=e)).2 ts ds hds _ _ h2⟩
theorem TV.has:∀ {ts:List Nat} {xs:List V} (n:Nat) {ds:List D},TV T ts xs→Z2 T n ts=some ds→D.hasL ds xs:=by
 intro ts
 induction ts with
 | nil =>
  intro xs n ds h hd
  have:=h.len
  cases xs with
  | nil=>cases n<;>(rw [Z2] at hd;cases hd;trivial)
  | cons _ _=>cases this
 | cons t ts ih =>
  intro xs n ds h hd
  cases n with
  | zero=>rw [Z2] at hd;cases hd
  | succ n =>
   rw [Z2] at hd
   split at hd<;>try (cases hd;done)
   rename_i d hd1
   split at hd<;>cases hd
   rename_i ds hd2
   cases xs with
   | nil=>have:=h.len;cases this
   | cons x xs =>
    obtain ⟨e,cs,hx⟩:=h.head
    exact ⟨(B24 n).1 t d hd1 x cs hx,ih n h.tail hd2⟩
theorem A0H {d0:D} {xs:List V} (h:D.hasL [d0] xs):∃ a,xs=[a]∧d0.has a:=by
 cases xs with
 | nil=>exact (h).elim
 | cons x0 r0 =>
 cases r0 with
 | cons _ _=>exact (h.2).elim
 | nil=>exact ⟨x0,rfl,h.1⟩
theorem A5T {d0 d1:D} {xs:List V} (h:D.hasL [d0,d1] xs):∃ a b,xs=[a,b]∧d0.has a∧d1.has b:=by
 cases xs with
 | nil=>exact (h).elim
 | cons x0 r0 =>
 cases r0 with
 | nil=>exact (h.2).elim
 | cons x1 r1 =>
 cases r1 with
 | cons _ _=>exact (h.2.2).elim
 | nil=>exact ⟨x0,x1,rfl,h.1,h.2.1⟩
theorem C3R {d0 d1 d2:D} {xs:List V} (h:D.hasL [d0,d1,d2] xs):∃ a b c,xs=[a,b,c]∧d0.has a∧d1.has b∧d2.has c:=by
 cases xs with
 | nil=>exact (h).elim
 | cons x0 r0 =>
 cases r0 with
 | nil=>exact (h.2).elim
 | cons x1 r1 =>
 cases r1 with
 | nil=>exact (h.2.2).elim
 | cons x2 r2 =>
 cases r2 with
 | cons _ _=>exact (h.2.2.2).elim
 | nil=>exact ⟨x0,x1,x2,rfl,h.1,h.2.1,h.2.2.1⟩
theorem D38 {d0 d1 d2 d3:D} {xs:List V} (h:D.hasL [d0,d1,d2,d3] xs):∃ a b c d,xs=[a,b,c,d]∧d0.has a∧d1.has b∧d2.has c∧d3.has d:=by
 cases xs with
 | nil=>exact (h).elim
 | cons x0 r0 =>
 cases r0 with
 | nil=>exact (h.2).elim
 | cons x1 r1 =>
 cases r1 with
 | nil=>exact (h.2.2).elim
 | cons x2 r2 =>
 cases r2 with
 | nil=>exact (h.2.2.2).elim
 | cons x3 r3 =>
 cases r3 with
 | cons _ _=>exact (h.2.2.2.2).elim
 | nil=>exact ⟨x0,x1,x2,x3,rfl,h.1,h.2.1,h.2.2.1,h.2.2.2.1⟩
theorem u8s {ys:List V} (h:∀ y∈ys,(D.int .u8).has y):∃ ns:List Nat,ys=ns.map nv∧∀ a∈ns,a < 256:=by
 induction ys with
 | nil=>exact ⟨[],rfl,fun a ha=>by cases ha⟩
 | cons y ys ih =>
  obtain ⟨ns,rfl,hn⟩:=ih (fun z hz=>h z (List.mem_cons_of_mem _ hz))
  obtain ⟨m,rfl,h1,h2⟩:=h y (List.mem_cons_self ..)
  simp only [lo,hi] at h1 h2
  refine ⟨m.toNat::ns,?_,fun a ha=>?_⟩
  ·simp only [List.map_cons,nv];rw [show ((m.toNat:Nat):Int)=m by omega]
  ·rcases List.mem_cons.1 ha with rfl | ha
   ·omega
   ·exact hn a ha
def gF (g:List V→Bool) (r:List V→List Rs):FC:=fun R xs k=>bif g xs then k (r xs) else none
theorem B5e (g:List V→Bool) (r:List V→List Rs):FC.nat (gF g r):=by
 intro R xs k
 unfold gF
 cases g xs<;>rfl
theorem D0A {g:List V→Bool} {r:List V→List Rs} {xs:List V} {rs:List Rs} (h:gF g r (List Rs) xs some=some rs):g xs=true∧rs=r xs:=by
 unfold gF at h
 cases hg:g xs with
 | false=>rw [hg] at h;cases h
 | true=>rw [hg] at h;simp only [cond_true,D5X] at h;exact ⟨rfl,h.symm⟩
theorem F4 (hm:P.follows .mixedOrders=true) (hT:L8 T P) {tab:List (Nat×D7)} (h:D5 P T tab) {f d fu:Nat} {Lo:Nat→LC} {sh:Bool} {ts:List Nat} {rk:List RK} {g:List V→Bool} {r:List V→List Rs} (hts:ts.all (fun t=>(T t).isSome)=true)
  (hL:H1 P T f Lo) (n:Nat) {ds:List D} (hd:Z2 T n ts=some ds)
  (hF:∀ xs,D.hasL ds xs→g xs=true→G7 P T (F3 P T tab false fu d) Lo false fu f (List Rs) (P9 T ts xs) (fun _=>none) 0 (fun out=>S9 T sh rk out)=some (r xs)) :
  D5 P T ((f,J9 T sh ts (gF g r))::tab) :=
 B3F hm hT h (B5e g r) hts hL fun xs rs htv hrs=>by
  obtain ⟨h1,rfl⟩:=D0A hrs
  exact hF xs (htv.has n hd) h1
variable {P:Program} {T:TT} {R:Type}
abbrev LB:Nat:=268435456
def shb (x:V):Bool:=Nat.ble x.els.length LB
theorem A21 {x:V} (h:shb x=true):x.els.length≤268435456:=D50 h
theorem A0Q:∀ (m:Nat) (n:Int),(Z1 m n).length=m:=by
 intro m
 induction m with
 | zero=>intro n;rfl
 | succ m ih=>intro n;show (Z1 m _).length+1=m+1;rw [ih]
def C3S {R:Type} (n:Int) (bs:List V) (k:List V→Option R):Option R :=
 bif D4 n 253 then Z9 (bs.length+1) <| k (bs++[.i (IntKind.wrap .u8 n)]) else
 bif D4 n 65536 then Z9 (bs.length+1) <| A8W 2 n (bs++[.i 253]) k else
 bif D4 n 4294967296 then Z9 (bs.length+1) <| A8W 4 n (bs++[.i 254]) k else Z9 (bs.length+1) <| A8W 8 n (bs++[.i 255]) k
theorem A7M {n:Int} {bs:List V} {k:List V→Option R} (h:bs.length≤1073741800):C3S n bs k=k (bs++Z7 n):=by
 unfold C3S Z7
 have hp:∀ (m:Nat) (b:V),m≤8→A8W m n (bs++[b]) k=k (bs++b::Z1 m n):=fun m b hm=>by
  rw [A7L m n _ _ (by rw [D5W];show bs.length+1+m≤1073741824;omega)]
  simp
 rw [E3 (by omega),E3 (by omega),E3 (by omega),E3 (by omega),hp _ _ (by omega),hp _ _ (by omega),hp _ _ (by omega)]
 cases D4 n 253<;>cases D4 n 65536<;>cases D4 n 4294967296<;>rfl
def B8S {R:Type} (bs xs:List V) (k:List V→Option R):Option R:=ln xs.length <| C3S (WU (xs.length:Nat)) bs (fun ys=>Z9 (ys.length+xs.length) <| k (ys++xs))
def A0R (xs:List V):List V:=Z7 (xs.length:Nat)++xs
theorem A4w {bs xs:List V} {k:List V→Option R} (h1:bs.length≤536870912) (h2:xs.length≤268435456):B8S bs xs k=k (bs++A0R xs):=by
 unfold B8S A0R
 have:=A1f (xs.length:Nat)
 rw [G3 (by omega),C4 (by omega),A7M (by omega),E3 (by rw [D5W];omega),List.append_assoc]
def leD:Nat→Int→List V
 | 0,_=>[]
 | m+1,n=>.i (IntKind.wrap .u8 (n.tmod 256))::leD m (IntKind.wrap .u64 (n.tdiv 256))
theorem B1J (n:Int):IntKind.wrap .u8 n=n % 256:=by
 unfold IntKind.wrap
 simp [IntKind.bits,IntKind.signed]
theorem A4x:∀ (m:Nat) {n:Int},0≤n→n < 18446744073709551616→leD m n=Z1 m n:=by
 intro m
 induction m with
 | zero=>intro n _ _;rfl
 | succ m ih =>
  intro n h1 h2
  have e1:IntKind.wrap .u64 (n.tdiv 256)=n.fdiv (2 ^ 8):=by
   obtain ⟨q,rfl⟩:=Int.eq_ofNat_of_zero_le h1
   have:((q:Nat):Int).tdiv 256=((q / 256:Nat):Int):=rfl
   rw [this]
   show WU _=_
   rw [C4 (by omega),Int.fdiv_eq_ediv_of_nonneg _ (by decide)]
   omega
  have e2:IntKind.wrap .u8 (n.tmod 256)=IntKind.wrap .u8 n:=by
   obtain ⟨q,rfl⟩:=Int.eq_ofNat_of_zero_le h1
   have:((q:Nat):Int).tmod 256=((q % 256:Nat):Int):=rfl
   rw [this,B1J,B1J];omega
  have h3:n.fdiv (2 ^ 8)=n / 256:=Int.fdiv_eq_ediv_of_nonneg n (by decide)
  show V.i _::leD m _=V.i _::Z1 m _
  rw [e1,e2,ih (by rw [h3];omega) (by rw [h3];omega)]
def D2t {R:Type} (n:Int) (k:List V→Option R):Option R :=
 bif F2 n 252 then k [.i (IntKind.wrap .u8 n)] else
 bif F2 n 65535 then k (.i 253::leD 2 n) else
 bif F2 n 4294967295 then k (.i 254::leD 4 n) else k (.i 255::leD 8 n)
theorem B1K (a b:Int):F2 a b=D4 a (b+1):=by
 simp only [F2,D4,ileN_dec,iltN_dec]
 rw [Bool.eq_iff_iff,D56,D56];omega
theorem C3T {n:Int} {k:List V→Option R} (h1:0≤n) (h2:n < 18446744073709551616):D2t n k=k (Z7 n):=by
 unfold D2t Z7
 rw [show F2 n 252=D4 n 253 from B1K n 252,show F2 n 65535=D4 n 65536 from B1K n 65535,show F2 n 4294967295=D4 n 4294967296 from B1K n 4294967295,A4x 2 h1 h2,A4x 4 h1 h2,A4x 8 h1 h2]
 cases D4 n 253<;>cases D4 n 65536<;>cases D4 n 4294967296<;>rfl
def A7N:List V→Bool
 | [b,n,s]=>(Y6 s.int 8||Y6 s.int 4)&&shb b
 | _=>false
def B25 (el:Nat):List V→List Rs
 | [b,n,s]=>[.r el (b.els++Z1 s.int.toNat n.int) false]
 | _=>[]
def B26:List V→Bool
 | [b,.l [x]]=>shb b&&shb x
 | _=>false
def D39 (el:Nat):List V→List Rs
 | [b,.l [x]]=>[.r el (b.els++A0R x.els) false]
 | _=>[]
def D4a:List V→Bool
 | [b,n]=>shb b
 | _=>false
def D4b (el:Nat):List V→List Rs
 | [b,n]=>[.r el (b.els++Z7 n.int) false]
 | _=>[]
def D2u {R:Type} (n:Int) (bs:List V) (k:List V→Option R):Option R :=
 ln bs.length <| ln bs.length <| bif Y6 (bs.length:Nat) (bs.length:Nat) then bif F2 ((0:Nat):Int) ((0:Nat):Int)&&F2 ((0:Nat):Int) (bs.length:Nat)&&F2 (bs.length:Nat) (bs.length:Nat) then
  C3S n (A5z (.l bs) 0 (((bs.length:Nat):Int) - ((0:Nat):Int)).toNat).els k else none else none
theorem C3U {R:Type} {n:Int} {bs:List V} {k:List V→Option R} (h:bs.length≤1073741800):D2u n bs k=k (bs++Z7 n):=by
 unfold D2u
 rw [G3 (by omega),G3 (by omega),P0.2 rfl,D3.2 (by omega),D3.2 (by omega),D3.2 (by omega)]
 have:(A5z (.l bs) 0 (((bs.length:Nat):Int) - ((0:Nat):Int)).toNat).els=bs:=by
  show (bs.drop 0).take _=bs
  rw [List.drop_zero,List.take_of_length_le (by omega)]
 simp only [Bool.and_self,cond_true]
 rw [this]
 exact A7M h
def X6 (x:V):List V:=(x.nth 0).els++Z1 4 (x.nth 1).int
def D0B:List V→Bool
 | [_]=>true
 | _=>false
def D0C (el:Nat):List V→List Rs
 | [x]=>[.r el (X6 x) false]
 | _=>[]
def C3V:List V→Bool
 | [n,s]=>Y6 s.int 8||Y6 s.int 4
 | _=>false
def B27 (el:Nat):List V→List Rs
 | [n,s]=>[.r el (Z1 s.int.toNat n.int) false]
 | _=>[]
def D4c:List V→Bool
 | [n]=>true
 | _=>false
def D4d (el:Nat):List V→List Rs
 | [n]=>[.r el (Z7 n.int) false]
 | _=>[]
def B28:List V→Bool
 | [x]=>shb x
 | _=>false
def D4e (el:Nat):List V→List Rs
 | [x]=>[.r el (A0R x.els) false]
 | _=>[]
theorem D0D {s:Int} (h:(Y6 s 8||Y6 s 4)=true):s=8∨s=4:=by
 rw [Bool.or_eq_true] at h
 exact h.imp P0.1 P0.1
theorem C8l {b:V} {n s:Int} (h:A7N [b,.i n,.i s]=true):(s=8∨s=4)∧shb b=true:=by
 rw [A7N,D5V] at h
 exact ⟨D0D h.1,h.2⟩
theorem C8m {n s:Int} (h:C3V [.i n,.i s]=true):s=8∨s=4:=by
 rw [C3V] at h
 exact D0D h
theorem B7b (el:Nat) (b:V) (n:Int):B25 el [b,.i n,.i 8]=[.r el (b.els++Z1 8 n) false]:=by rw [B25,show (V.i 8).int.toNat=8 from by decide];rfl
theorem B7c (el:Nat) (b:V) (n:Int):B25 el [b,.i n,.i 4]=[.r el (b.els++Z1 4 n) false]:=by rw [B25,show (V.i 4).int.toNat=4 from by decide];rfl
theorem C8n (el:Nat) (n:Int):B27 el [.i n,.i 8]=[.r el (Z1 8 n) false]:=by rw [B27,show (V.i 8).int.toNat=8 from by decide];rfl
theorem C8o (el:Nat) (n:Int):B27 el [.i n,.i 4]=[.r el (Z1 4 n) false]:=by rw [B27,show (V.i 4).int.toNat=4 from by decide];rfl
theorem A2w {x:V} (h:(D.slice (.int .u8)).has x):x=.n∨∃ ys,x=.l ys:=h.imp id fun ⟨ys,q,_⟩=>⟨ys,q⟩
theorem C3W {x:V} (h:(D.struct [.arr 32 (.int .u8),.int .u32]).has x):∃ hs n,x=.l [.l hs,.i n]∧hs.length=32∧0≤n∧n < 4294967296:=by
 obtain ⟨ys,rfl,hy⟩:=h
 match ys,hy with
 | [a,b],hy =>
  obtain ⟨⟨hs,rfl,hl,_⟩,⟨n,rfl,hn⟩,_⟩:=hy
  refine ⟨hs,n,rfl,hl,hn.1,?_⟩
  have:=hn.2;simp only [hi] at this;omega
variable {P:Program} {T:TT} {R:Type}
theorem A4y (l:List V):l.length < (A0R l).length∧(A0R l).length≤l.length+9:=by
 unfold A0R
 have:=A1f (l.length:Nat)
 rw [D5W];omega
theorem A0h {n:Nat} (h:n < 1000000000):B3 ((n:Int)+1)=((n+1:Nat):Int):=by rw [G8 (by omega) (by omega)];omega
abbrev A8X:D:=.struct [.arr 32 (.int .u8),.int .u32]
theorem C3X {x:V} (h:A8X.has x):(X6 x).length=36:=by
 obtain ⟨hs,n,rfl,hl,_⟩:=C3W h
 show (hs++Z1 4 n).length=36
 rw [D5W,hl,A0Q]
theorem A3U:200000≤A3 FU:=by rw [A27];decide
variable {P:Program} {T:TT}
abbrev ML:Nat:=9223372036854775807
mutual
def D.sm:D→V→Prop
 | .str,x=>x.els.length≤ML
 | .slice d,x=>x.els.length≤ML∧∀ y∈x.els,D.sm d y
 | .arr _ d,x=>∀ y∈x.els,D.sm d y
 | .struct ds,x=>D.smL ds x.els
 | _,_=>True
def D.smL:List D→List V→Prop
 | d::ds,x::xs=>D.sm d x∧D.smL ds xs
 | _,_=>True
end
theorem L8.zero (hT:L8 T P) {t:Nat} {k:TK} (hk:C5 T t=some k) (ho:k≠.other):∃ x cs,∀ e,RV T e [t] [x] cs:=by
 obtain ⟨te,h1,rfl⟩:=A9 hk
 obtain ⟨i,d,z,_,_,_,_,_,_,h7,_⟩:=(hT _ _ h1).fits
 rcases h7 with h7 | h7
 ·exact ⟨_,_,h7⟩
 ·exact absurd h7 ho
theorem RV.sz1 {e:B4} {t:Nat} {x:V} {cs:List Value} {k:TK} (hk:C5 T t=some k) (ha:k.agg=false) (h:RV T e [t] [x] cs):B8 T t=1:=by
 cases h with
 | int _ h2=>exact h2
 | bool _ h2=>exact h2
 | str _ h2=>exact h2
 | ptr _ h2=>exact h2
 | nils _ h2=>exact h2
 | map _ h2=>exact h2
 | func _ h2=>exact h2
 | fn _ h2=>exact h2
 | slice _ h2=>exact h2
 | arr h1=>rw [hk] at h1;cases h1;cases ha
 | struct h1=>rw [hk] at h1;cases h1;cases ha
def e0:B4:={ w:=default,ι:=fun _=>none,S:=fun _ _=>False,bn:=fun _=>0,U:=fun _=>False,ty:=fun _=>0,ln:=fun _=>0,G:=fun _ _=>False }
theorem L8.sz1 (hT:L8 T P) {t:Nat} {k:TK} (hk:C5 T t=some k) (ha:k.agg=false) (ho:k≠.other):B8 T t=1:=by
 obtain ⟨x,cs,h⟩:=hT.zero hk ho
 exact (h e0).sz1 hk ha
theorem L8.szS (hT:L8 T P) {t:Nat} {fs:List Nat} (hk:C5 T t=some (.struct fs)):B8 T t=szs T fs:=by
 obtain ⟨x,cs,h⟩:=hT.zero hk (by intro h;cases h)
 obtain ⟨ys,rfl,g⟩:=(h e0).struct_inv hk
 have h1:=(h e0).length.1
 have h2:=g.length.1
 simp only [szs] at h1;omega
theorem L8.szA (hT:L8 T P) {t n el:Nat} (hk:C5 T t=some (.arr n el)):B8 T t=n * B8 T el:=by
 obtain ⟨x,cs,h⟩:=hT.zero hk (by intro h;cases h)
 obtain ⟨ys,rfl,_,g⟩:=(h e0).arr_inv hk
 have h1:=(h e0).length.1
 have h2:=g.length.1
 rw [D0] at h2
 simp only [szs] at h1;omega
theorem L8.cells (hT:L8 T P) {t:Nat} {k:TK} (hk:C5 T t=some k):P.cellsOf t=B8 T t:=by
 obtain ⟨te,h1,rfl⟩:=A9 hk
 obtain ⟨i,d,z,g1,_,g3,_⟩:=(hT _ _ h1).fits
 unfold Program.cellsOf
 rw [g1,K6 h1,← g3];rfl
theorem D2v {k:IntKind} {n:Int} (h:(Lit.int k n).wf=true):inR k n:=by
 have:k.min≤n∧n≤k.max:=by simpa [Lit.wf,D5V,D56] using h
 cases k<;>simpa [inR,lo,hi,IntKind.min,IntKind.max,IntKind.signed,IntKind.bits] using this
theorem add_add (a:Addr) (p q:Nat):(a.add p).add q=a.add (p+q):=by
 unfold Addr.add
 by_cases h1:p=0
 ·subst h1;simp
 ·by_cases h2:q=0
  ·subst h2;simp [h1]
  ·simp [h1,h2,show p+q≠0 by omega,Nat.add_assoc]
theorem B8T {w:World} {b0:Nat} {a:Addr} {n:Nat} {l:List Value} (h:w.cells? b0 a n=some l):l.length=n∧∀ k,k < n→w.cell? (a.add k)=l[k]? := by
 unfold World.cells? at h
 split at h<;>try (cases h;done)
 have h1:=mapM_some_length h
 refine ⟨by simpa using h1,fun k hk=>?_⟩
 exact mapM_some_get h k k (by simp [hk])
section
variable {w:World} {H:Type} {enc:TypeId×Value→H}
theorem B29 {el:Nat} {e:B4} {q:V→Prop}:∀ (n:Nat) (cs:List Value),cs.length=n * B8 T el→(∀ i,i < n→∃ y,RV T e [el] [y] ((cs.drop (i * B8 T el)).take (B8 T el))∧q y)→∃ ys,ys.length=n∧RV T e (List.replicate n el) ys cs∧∀ y∈ys,q y:=by
 intro n
 induction n with
 | zero =>
  intro cs hl _
  have:cs=[]:=List.eq_nil_of_length_eq_zero (by simpa using hl)
  subst this
  exact ⟨[],rfl,.nil,fun y hy=>by cases hy⟩
 | succ n ih =>
  intro cs hl hp
  rw [Nat.succ_mul] at hl
  obtain ⟨y,hy,hq⟩:=hp 0 (by omega)
  rw [Nat.zero_mul,List.drop_zero] at hy
  obtain ⟨ys,h1,h2,h3⟩:=ih (cs.drop (B8 T el)) (by rw [List.length_drop];omega) (fun i hi=>by
   obtain ⟨z,hz,hqz⟩:=hp (i+1) (by omega)
   refine ⟨z,?_,hqz⟩
   rw [List.drop_drop,show B8 T el+i * B8 T el=(i+1) * B8 T el by rw [Nat.succ_mul];omega]
   exact hz)
  refine ⟨y::ys,by simp [h1],?_,fun z hz=>?_⟩
  ·have:=RV.append hy h2
   rw [List.take_append_drop] at this
   exact this
  ·rcases List.mem_cons.1 hz with rfl | hz
   ·exact hq
   ·exact h3 z hz
theorem B8U {e:B4}:∀ (fs:List Nat) (n:Nat) (ds:List D) (cs:List Value),Z2 T n fs=some ds→cs.length=szs T fs→(∀ (j f m:Nat) (d:D),m≤n→fs[j]? = some f→X5 T m f=some d→∃ y,RV T e [f] [y] ((cs.drop (szs T (fs.take j))).take (B8 T f))∧d.sm y)→∃ ys,RV T e fs ys cs∧D.smL ds ys:=by
 intro fs
 induction fs with
 | nil =>
  intro n ds cs hd hl _
  have:cs=[]:=List.eq_nil_of_length_eq_zero hl
  subst this
  rw [Z2] at hd;cases hd
  exact ⟨[],.nil,trivial⟩
 | cons f r ih =>
  intro n ds cs hd hl hp
  cases n with
  | zero=>rw [Z2] at hd;cases hd
  | succ n =>
  rw [Z2] at hd
  split at hd<;>try (cases hd;done)
  rename_i d hd1
  split at hd<;>cases hd
  rename_i ds' hds
  simp only [szs] at hl
  obtain ⟨y,hy,hq⟩:=hp 0 f n d (by omega) rfl hd1
  simp only [List.take_zero,szs,List.drop_zero] at hy
  obtain ⟨ys,h2,h3⟩:=ih n ds' (cs.drop (B8 T f)) hds (by rw [List.length_drop];omega) (fun j g m d' hm hj hd'=>by
   obtain ⟨z,hz,hqz⟩:=hp (j+1) g m d' (by omega) (by simpa using hj) hd'
   refine ⟨z,?_,hqz⟩
   rw [List.drop_drop]
   simpa only [List.take_succ_cons,szs] using hz)
  refine ⟨y::ys,?_,hq,h3⟩
  have:=RV.append hy h2
  rw [List.take_append_drop] at this
  exact this
theorem C8p (hT:L8 T P):∀ (n m:Nat),m≤n→∀ (t:Nat) (d:D),X5 T m t=some d→∀ (fuel:Nat) (cs:List Value) (x:DataW H×List MemPlace),DataW.trod enc P w 0 (fun _=>true) true fuel t cs=some x→∃ y,RV T (base w) [t] [y] cs∧d.sm y:=by
 intro n
 induction n with
 | zero=>intro m hm t d h;obtain rfl:m=0:=by omega
         rw [X5] at h;cases h
 | succ n ih =>
  intro m hm t d h fuel cs x hx
  cases m with
  | zero=>rw [X5] at h;cases h
  | succ m =>
  have hm:m≤n:=by omega
  rw [X5] at h
  split at h
  ·rename_i k hk
   obtain ⟨te,h1,h2⟩:=A9 hk
   obtain ⟨v,rfl,_,hw⟩:=DataW.trod_int (U0 (hT _ _ h1) h2) hx
   cases h;exact ⟨.i v,.int hk (hT.sz1 hk rfl (by intro h;cases h)) (D2v hw) .nil,trivial⟩
  ·rename_i hk
   obtain ⟨te,h1,h2⟩:=A9 hk
   obtain ⟨b,rfl,_⟩:=DataW.trod_bool (A07 (hT _ _ h1) h2) hx
   cases h;exact ⟨.b b,.bool hk (hT.sz1 hk rfl (by intro h;cases h)) .nil,trivial⟩
  ·rename_i hk
   obtain ⟨te,h1,h2⟩:=A9 hk
   obtain ⟨s,rfl,_,hsz⟩:=DataW.trod_string (S4 (hT _ _ h1) h2) hx
   cases h
   refine ⟨.s (txt s),.str hk (hT.sz1 hk rfl (by intro h;cases h)) .nil,?_⟩
   show (txt s).length≤ML
   unfold txt
   rw [D5Y,D51]
   exact Nat.le_trans hsz (by decide)
  ·rename_i el hk
   split at h<;>cases h
   rename_i d hd
   obtain ⟨te,h1,h2⟩:=A9 hk
   have hz1:=hT.sz1 hk rfl (by intro h;cases h)
   rcases DataW.trod_slice (G2 (hT _ _ h1) h2) hx with ⟨rfl,_⟩ | ⟨a,len,cap,elems,rest,k,_,rfl,_,_,hcap,hmx,hel,he,_,_⟩
   ·exact ⟨.n,.nils hk hz1 .nil,Nat.zero_le _,fun y hy=>by cases hy⟩
   ·have hsz:P.cellsOf el=B8 T el:=by
     cases hke:C5 T el with
     | none=>cases m with
      | zero=>rw [X5] at hd;cases hd
      | succ m=>rw [X5,hke] at hd;cases hd
     | some ke=>exact hT.cells hke
    rw [hsz] at he
    have key:∀ i,i < len→∃ l y,l.length=B8 T el∧(∀ k,k < B8 T el→w.cell? (a.add (i * B8 T el+k))=l[k]?)∧RV T (base w) [el] [y] l∧d.sm y:=fun i hi=>by
     have h3:=he i hi
     rw [D57 (by omega)] at h3
     obtain ⟨l,g1,g2⟩:=Option.bind_eq_some_iff.1 h3
     obtain ⟨g3,g4⟩:=B8T g1
     obtain ⟨y,hy,hq⟩:=ih m hm el d hd _ _ _ g2
     exact ⟨l,y,g3,fun k hk=>by rw [← g4 k hk,add_add],hy,hq⟩
    have hcell:∀ j,j < len * B8 T el→∃ v,w.cell? (a.add j)=some v:=fun j hj=>by
     have hpos:0 < B8 T el:=by
      rcases Nat.eq_zero_or_pos (B8 T el) with h0 | h0
      ·rw [h0] at hj;omega
      ·exact h0
     have hi:j / B8 T el < len:=Nat.div_lt_of_lt_mul (by rw [Nat.mul_comm];exact hj)
     obtain ⟨l,y,g1,g2,_⟩:=key _ hi
     have hk:=Nat.mod_lt j hpos
     have:=g2 _ hk
     rw [show j / B8 T el * B8 T el+j % B8 T el=j by rw [Nat.mul_comm];exact Nat.div_add_mod j _,D57 (by omega)] at this
     exact ⟨_,this⟩
    let ds:List Value:=(List.range (len * B8 T el)).map fun j=>(w.cell? (a.add j)).getD undef
    have hds:ds.length=len * B8 T el:=by simp [ds]
    have hget:∀ j,j < len * B8 T el→ds[j]? = w.cell? (a.add j):=fun j hj=>by
     obtain ⟨v,hv⟩:=hcell j hj
     simp only [ds,List.getElem?_map,List.getElem?_range hj,Option.map_some,hv,Option.getD_some]
    have hparts:∀ i,i < len→∃ y,RV T (base w) [el] [y] ((ds.drop (i * B8 T el)).take (B8 T el))∧d.sm y:=fun i hi=>by
     obtain ⟨l,y,g1,g2,g3,g4⟩:=key i hi
     refine ⟨y,?_,g4⟩
     have:(ds.drop (i * B8 T el)).take (B8 T el)=l:=by
      apply List.ext_getElem?
      intro k
      rcases Nat.lt_or_ge k (B8 T el) with hk | hk
      ·have:(i+1) * B8 T el≤len * B8 T el:=Nat.mul_le_mul_right _ (by omega)
       rw [Nat.succ_mul] at this
       rw [List.getElem?_take_of_lt hk,List.getElem?_drop,hget _ (by omega),g2 k hk]
      ·rw [List.getElem?_eq_none (by simp;omega),List.getElem?_eq_none (by omega)]
     rw [this];exact g3
    obtain ⟨ys,h4,h5,h6⟩:=B29 len ds hds hparts
    refine ⟨.l ys,.slice hk hz1 h4 hcap ⟨fun hne=>?_,fun j y hj=>?_⟩ h5 .nil,?_,h6⟩
    ·have hpos:0 < len * B8 T el:=by
      rcases Nat.eq_zero_or_pos (len * B8 T el) with h0 | h0
      ·exact absurd (List.eq_nil_of_length_eq_zero (hds.trans h0)) hne
      ·exact h0
     obtain ⟨v,hv⟩:=hcell 0 hpos
     simpa [Addr.add] using World.cell?_spot hv
    ·have hjl:j < len * B8 T el:=by rw [← hds];exact (List.getElem?_eq_some_iff.1 hj).1
     rw [hget j hjl] at hj
     refine ⟨hj,?_⟩
     have:=A7K hj
     rw [A2v] at this
     exact this
    ·show ys.length≤ML
     rw [h4];exact Nat.le_trans hcap (Nat.le_trans hmx (by decide))
  ·rename_i k el hk
   split at h<;>cases h
   rename_i d hd
   obtain ⟨te,h1,h2⟩:=A9 hk
   obtain ⟨xs,m',_,_,hl,hn,hi⟩:=DataW.trod_array (U1 (hT _ _ h1) h2) hx
   have hsz:P.cellsOf el=B8 T el:=by
    cases hke:C5 T el with
    | none=>cases m with
     | zero=>rw [X5] at hd;cases hd
     | succ m=>rw [X5,hke] at hd;cases hd
    | some ke=>exact hT.cells hke
   rw [hT.cells hk,hT.szA hk] at hl
   obtain ⟨ys,h4,h5,h6⟩:=B29 (q:=d.sm) k cs hl (fun i h=>by
    have h3:=hi i h
    rw [hsz,D57 (by omega)] at h3
    exact ih m hm el d hd _ _ _ h3)
   refine ⟨.l ys,?_,h6⟩
   have:=RV.arr hk (by rw [hT.szA hk,hl]) h5 (RV.nil (T:=T) (e:=base w))
   rwa [List.append_nil] at this
  ·rename_i fs hk
   split at h<;>cases h
   rename_i ds hd
   obtain ⟨te,h1,h2⟩:=A9 hk
   obtain ⟨gs,g1,g2,g3⟩:=Q8 (hT _ _ h1) h2
   obtain ⟨xs,m',_,_,hl,hn,hi⟩:=DataW.trod_struct g1 hx
   rw [hT.cells hk,hT.szS hk] at hl
   obtain ⟨ys,h5,h6⟩:=B8U fs m ds cs hd hl (fun j f m1 d1 hm1 hj hd1=>by
    obtain ⟨g,q1,rfl⟩:=A0O g2 hj
    have h3:=hi j g q1
    have hlt:j < xs.length:=by rw [hn];exact (Array.getElem?_eq_some_iff.1 q1).1
    have hsz:P.cellsOf g.type=B8 T g.type:=by
     cases hke:C5 T g.type with
     | none=>cases m1 with
      | zero=>rw [X5] at hd1;cases hd1
      | succ m1=>rw [X5,hke] at hd1;cases hd1
     | some ke=>exact hT.cells hke
    rw [hsz,g3 j g q1,D57 hlt] at h3
    exact ih m1 (by omega) _ d1 hd1 _ _ _ h3)
   refine ⟨.l ys,?_,h6⟩
   have:=RV.struct hk (by rw [hT.szS hk,hl]) h5 (RV.nil (T:=T) (e:=base w))
   rwa [List.append_nil] at this
  ·cases h
theorem C3Y (hT:L8 T P) {t m b:Nat} {v:Value} {d:D} (hd:X5 T m t=some d) {r:Reach} (h:Value.okWide P w r b t v):W7 T t v:=by
 cases m with
 | zero=>rw [X5] at hd;cases hd
 | succ m =>
 have no:∀ {k:TK} {u:TypeDesc},C5 T t=some k→k.agg=false→P.underlying t=some u→(u=.bool∨u=.string∨(∃ k,u=.int k)∨∃ e,u=.slice e)→W7 T t v:=fun {k u} hk ha hu hc=>by
  refine ⟨fun ⟨k',hk',ha'⟩=>(by rw [hk] at hk';cases hk';rw [ha] at ha';cases ha'),fun ⟨cs,hv⟩=>?_⟩
  subst hv
  rcases hc with rfl | rfl | ⟨k',rfl⟩ | ⟨e',rfl⟩<;>simp [Value.okWide,Cell.okWide,Cell.ok,hu] at h
 rw [X5] at hd
 split at hd
 ·rename_i k hk;obtain ⟨te,h1,h2⟩:=A9 hk
  exact no hk rfl (U0 (hT _ _ h1) h2) (.inr (.inr (.inl ⟨_,rfl⟩)))
 ·rename_i hk;obtain ⟨te,h1,h2⟩:=A9 hk
  exact no hk rfl (A07 (hT _ _ h1) h2) (.inl rfl)
 ·rename_i hk;obtain ⟨te,h1,h2⟩:=A9 hk
  exact no hk rfl (S4 (hT _ _ h1) h2) (.inr (.inl rfl))
 ·rename_i el hk;obtain ⟨te,h1,h2⟩:=A9 hk
  exact no hk rfl (G2 (hT _ _ h1) h2) (.inr (.inr (.inr ⟨_,rfl⟩)))
 ·rename_i k el hk;obtain ⟨te,h1,h2⟩:=A9 hk
  have hu:=U1 (hT _ _ h1) h2
  unfold Value.okWide at h
  rw [hu] at h
  obtain ⟨cs,rfl,_⟩:=h
  exact ⟨fun _=>⟨cs,rfl⟩,fun _=>⟨_,hk,rfl⟩⟩
 ·rename_i fs hk;obtain ⟨te,h1,h2⟩:=A9 hk
  obtain ⟨gs,hu,_⟩:=Q8 (hT _ _ h1) h2
  unfold Value.okWide at h
  rw [hu] at h
  obtain ⟨cs,rfl,_⟩:=h
  exact ⟨fun _=>⟨cs,rfl⟩,fun _=>⟨_,hk,rfl⟩⟩
 ·cases hd
theorem B8V (hT:L8 T P) {r:Reach} {b:Nat}:∀ (ts:List Nat) {n:Nat} {Ds:List D} (vs:List Value) {ds:List (DataW H)} {ps:List MemPlace},Z2 T n ts=some Ds→DataW.TrodAll enc P w 0 (fun _=>true) true ts vs ds ps →
  (∀ (j:Nat) t v,ts[j]? = some t→vs[j]? = some v→Value.okWide P w r b t v)→∃ xs,RP T (base w) ts xs vs∧D.smL Ds xs:=by
 intro ts
 induction ts with
 | nil =>
  intro n Ds vs ds ps _ h _
  cases vs with
  | nil=>exact ⟨[],.nil,by cases Ds<;>exact trivial⟩
  | cons v vs=>cases ds<;>exact h.elim
 | cons t ts ih =>
  intro n Ds vs ds ps hd h hv
  cases vs with
  | nil=>cases ds<;>exact h.elim
  | cons v vs =>
   cases ds with
   | nil=>exact h.elim
   | cons d ds =>
    obtain ⟨p,q,⟨fuel,h1⟩,h2,_⟩:=h
    cases n with
    | zero=>rw [Z2] at hd;cases hd
    | succ n =>
     rw [Z2] at hd
     split at hd<;>try (cases hd;done)
     rename_i D hD
     split at hd<;>cases hd
     rename_i Ds' hDs
     obtain ⟨y,hy,hq⟩:=C8p hT n n (Nat.le_refl _) t D hD fuel _ _ h1
     obtain ⟨xs,hxs,hqs⟩:=ih vs hDs h2 (fun j t v h1 h2=>hv (j+1) t v (by simpa using h1) (by simpa using h2))
     exact ⟨y::xs,.cons hy (C3Y hT hD (hv 0 t v rfl rfl)) hxs,hq,hqs⟩
end
def leB:Nat→Nat→List Nat
 | 0,_=>[]
 | m+1,n=>n % 256::leB m (n / 256)
theorem B7d:∀ (m n:Nat),Z1 m (n:Int)=(leB m n).map nv:=by
 intro m
 induction m with
 | zero=>intro n;rfl
 | succ m ih =>
  intro n
  show V.i (IntKind.wrap .u8 (n:Int))::Z1 m ((n:Int).fdiv (2 ^ 8))=nv (n % 256)::(leB m (n / 256)).map nv
  rw [B1J,Int.fdiv_eq_ediv_of_nonneg _ (by decide),show ((n:Int) / 2 ^ 8)=((n / 256:Nat):Int) by omega,ih,show ((n:Int) % 256)=((n % 256:Nat):Int) by omega]
  rfl
theorem A1v (a b:Nat):D4 (a:Int) (b:Int)=decide (a < b):=by
 simp only [D4,iltN_dec]
 rw [Bool.eq_iff_iff,D56,D56];omega
theorem C3Z (a:Int):Y6 a a=true:=P0.2 rfl
abbrev B7e:D:=.struct [.struct [.int .i64,.slice (.int .u8)],.int .i64,.bool]
abbrev A0i:D:=.struct [A8X,B7e]
variable {R:Type}
variable {R:Type}
theorem A1g {l:V} {a r:List V} {x:V} (h:l.els=a++x::r):l.nth ((a.length:Nat):Int).toNat=x:=by
 unfold V.nth
 rw [h];simp
theorem A6x {s:V} (h:A0i.has s):∃ r c,s=.l [r,c]∧A8X.has r∧B7e.has c:=by
 obtain ⟨ys,rfl,hy⟩:=h
 obtain ⟨a,b,rfl,ha,hb⟩:=A5T hy
 exact ⟨a,b,rfl,ha,hb⟩
end Go.Vm
namespace Go.Vm.Wd
open Go.RowKit
theorem C8q {k:IntKind} {t:Int} (h:k.min≤t∧t≤k.max):k.wrap t=t:=by
 obtain ⟨h1,h2⟩:=h
 cases k<;>simp only [IntKind.wrap,IntKind.min,IntKind.max,IntKind.bits,IntKind.signed] at *<;>simp at *<;>omega
def blen (n:Nat):Nat:=if n=0 then 0 else n.log2+1
theorem C8r {n k:Nat} (h1:2 ^ k≤n) (h2:n < 2 ^ (k+1)):blen n=k+1:=by
 have hn:n≠0:=by have:=Nat.two_pow_pos k;omega
 rw [blen,if_neg hn,(Nat.log2_eq_iff hn).2 ⟨h1,h2⟩]
theorem B7f {n:Nat} (h:n≠0):2 ^ (blen n - 1)≤n:=by
 rw [blen,if_neg h];exact Nat.log2_self_le h
theorem C8s (n:Nat):n < 2 ^ blen n:=by
 rw [blen];split
 ·omega
 ·exact Nat.lt_log2_self
theorem C30 {n:Nat} (h:n≠0):0 < blen n:=by rw [blen,if_neg h];omega
theorem B5f {d r k:Nat} (hd:d≠0) (hr:r < 2 ^ k):blen (r+2 ^ k * d)=k+blen d:=by
 have h1:=B7f hd
 have h2:=C8s d
 have h3:=C30 hd
 obtain ⟨b,hb⟩:∃ b,blen d=b+1:=⟨blen d - 1,by omega⟩
 rw [hb] at h1 h2 ⊢
 have h1:2 ^ b≤d:=by simpa using h1
 rw [← Nat.add_assoc]
 refine C8r ?_ ?_
 ·rw [Nat.pow_add]
  have:2 ^ k * 2 ^ b≤2 ^ k * d:=Nat.mul_le_mul_left _ h1
  omega
 ·have:2 ^ k * (d+1)≤2 ^ k * 2 ^ (b+1):=Nat.mul_le_mul_left _ h2
  rw [Nat.add_assoc,Nat.pow_add]
  rw [Nat.mul_add] at this
  omega
theorem C31 {n k:Nat} (h:n / 2 ^ k≠0):blen n=k+blen (n / 2 ^ k):=by
 have:=B5f (d:=n / 2 ^ k) (r:=n % 2 ^ k) (k:=k) h (Nat.mod_lt _ (Nat.two_pow_pos k))
 rwa [Nat.mod_add_div] at this
theorem A7O {x:Int} (k:Nat) (h:((2 ^ k:Nat):Int)≤x):(blen x.toNat:Int)=k+blen (x / ((2 ^ k:Nat):Int)).toNat:=by
 obtain ⟨X,rfl⟩:=Int.eq_ofNat_of_zero_le (a:=x) (by have:=Int.natCast_nonneg (2 ^ k);omega)
 have hX:2 ^ k≤X:=by omega
 have e:((X:Int) / ((2 ^ k:Nat):Int)).toNat=X / 2 ^ k:=by rw [← Int.natCast_ediv];exact Int.toNat_natCast _
 rw [e,Int.toNat_natCast,C31 (k:=k) (by have:=Nat.div_pos hX (Nat.two_pow_pos k);omega)]
 omega
theorem B5g {n k:Nat} (h:n < 2 ^ k):blen n≤k:=by
 by_cases hn:n=0
 ·subst hn;simp [blen]
 ·have h1:=B7f hn
  rcases Nat.lt_or_ge k (blen n) with h2 | h2
  ·exfalso
   have:2 ^ k≤2 ^ (blen n - 1):=Nat.pow_le_pow_right (by decide) (by omega)
   omega
  ·exact h2
theorem B5h {n:Nat} (h:n < 256):blen n≤8:=B5g h
end Go.Vm.Wd
namespace Go.Vm.Wd
open Go.RowKit
def A1w:ByteArray:=⟨#[0,1,2,2,3,3,3,3,4,4,4,4,4,4,4,4,5,5,5,5,5,5,5,5,5,5,5,5,5,5,5,5,6,6,6,6,6,6,6,6,6,6,6,6,6,6,6,6,6,6,6,6,6,6,6,6,6,6,6,6,6,6,6,6,7,7,7,7,7,7,7,7,7,7,7,7,7,7,7,7,7,7,7,7,7,7,7,7,7,7,7,7,7,7,7,7,7,7,7,7,7,7,7,7,7,7,7,7,7,7,7,7,7,7,7,7,7,7,7,7,7,7,7,7,7,7,7,7,8,8,8,8,8,8,8,8,8,8,8,8,8,8,8,8,8,8,8,8,8,8,8,8,8,8,8,8,8,8,8,8,8,8,8,8,8,8,8,8,8,8,8,8,8,8,8,8,8,8,8,8,8,8,8,8,8,8,8,8,8,8,8,8,8,8,8,8,8,8,8,8,8,8,8,8,8,8,8,8,8,8,8,8,8,8,8,8,8,8,8,8,8,8,8,8,8,8,8,8,8,8,8,8,8,8,8,8,8,8,8,8,8,8,8,8,8,8,8,8,8,8,8,8,8,8,8,8]⟩
theorem C32:∀ k:Fin 256,(A1w.data.getD k.val 0).toNat=blen k.val:=by decide +kernel
theorem A91:A1w.size=256:=by decide +kernel
theorem C8t {k:Int} (h:0≤k∧k≤255):(((A1w.data.getD k.toNat 0).toNat:Nat):Int)=blen k.toNat:=by
 exact congrArg (fun n:Nat=>(n:Int)) (C32 ⟨k.toNat,by omega⟩)
variable {R:Type}
def l8V:List V:=txt A1w
abbrev W8 (n:Int):Int:=IntKind.wrap .u8 n
def lnE (n w:Int) (k:Int→Option R):Option R:=bif F2 0 (W8 n)&&D4 (W8 n) (l8V.length:Nat) then k (B3 (w+B3 (l8V.getD (W8 n).toNat .n).int)) else none
def ln8 (n w:Int) (k:Int→Option R):Option R:=bif F2 256 n then lnE (n.fdiv (2 ^ 8)) (B3 (w+8)) k else lnE n w k
def C8u (n w:Int) (k:Int→Option R):Option R:=bif F2 65536 n then ln8 (n.fdiv (2 ^ 16)) (B3 (w+16)) k else ln8 n w k
def ln64 (n:Int) (k:Int→Option R):Option R:=bif F2 4294967296 n then C8u (n.fdiv (2 ^ 32)) 32 k else C8u n 0 k
theorem D2w:l8V.length=256:=by
 show (A1w.data.toList.map _).length=256
 rw [D5Y,D51];exact A91
theorem D4f {i:Int} (h:0≤i∧i≤255):(l8V.getD i.toNat .n).int=(blen i.toNat:Int):=by
 rw [← C8t h]
 have hs:i.toNat < A1w.data.size:=by have:=A91;show _ < A1w.size;omega
 show ((A1w.data.toList.map fun b=>V.i (b.toNat:Int)).getD i.toNat .n).int=_
 rw [List.getD_eq_getElem?_getD,List.getElem?_map,Array.getElem?_toList,Array.getElem?_eq_getElem hs,Array.getD_eq_getD_getElem?,Array.getElem?_eq_getElem hs]
 rfl
theorem D4g {n:Int} (h:0≤n∧n≤255):W8 n=n:=C8q h
theorem B7g {n w:Int} {k:Int→Option R} (h:0≤n∧n≤255) (hw:0≤w∧w≤60):lnE n w k=k (w+(blen n.toNat:Int)):=by
 unfold lnE
 have hb:=B5h (n:=n.toNat) (by omega)
 rw [D4g h,D3.2 h.1,D2w,D4f h,G8 (n:=(blen n.toNat:Int)) (by omega) (by omega),G8 (by omega) (by omega),show D4 n (256:Nat)=true by simp [D4];omega]
 simp only [Bool.and_self,cond_true]
theorem fd {n:Int} (k:Nat) (h:0≤n):n.fdiv ((2:Int) ^ k)=n / ((2 ^ k:Nat):Int):=by
 rw [Int.fdiv_eq_ediv_of_nonneg _ (by exact Int.le_of_lt (Int.pow_pos (by decide)))]
 congr 1
theorem B7h {n w:Int} {k:Int→Option R} (h:0≤n∧n≤65535) (hw:0≤w∧w≤48):ln8 n w k=k (w+(blen n.toNat:Int)):=by
 unfold ln8
 cases hc:F2 256 n with
 | false =>
  have hc:n < 256:=by cases hq:decide (n < 256) with | true=>exact of_decide_eq_true hq | false=>have:=of_decide_eq_false hq;rw [D3.2 (by omega)] at hc;cases hc
  exact B7g (by omega) (by omega)
 | true =>
  have hc:=D3.1 hc
  have e:=A7O (x:=n) 8 (by omega)
  rw [fd 8 h.1,G8 (by omega) (by omega),cond_true,B7g (by omega) (by omega),e]
  congr 1;omega
theorem C33 {a b:Int} (h:F2 a b=false):b < a:=by
 by_cases hc:a≤b
 ·rw [D3.2 hc] at h;cases h
 ·omega
theorem B3a {n w:Int} {k:Int→Option R} (h:0≤n∧n≤4294967295) (hw:0≤w∧w≤32):C8u n w k=k (w+(blen n.toNat:Int)):=by
 unfold C8u
 cases hc:F2 65536 n with
 | false=>have hc:=C33 hc;exact B7h (by omega) (by omega)
 | true =>
  have hc:=D3.1 hc
  have e:=A7O (x:=n) 16 (by omega)
  rw [fd 16 h.1,G8 (by omega) (by omega),cond_true,B7h (by omega) (by omega),e]
  congr 1;omega
theorem ln64_law {n:Int} {k:Int→Option R} (h:0≤n∧n≤18446744073709551615):ln64 n k=k (blen n.toNat:Int):=by
 unfold ln64
 cases hc:F2 4294967296 n with
 | false=>have hc:=C33 hc;simp only [cond_false];rw [B3a (by omega) (by omega)];congr 1;omega
 | true =>
  have hc:=D3.1 hc
  have e:=A7O (x:=n) 32 (by omega)
  rw [fd 32 h.1,cond_true,B3a (by omega) (by omega),e]
  congr 1
end Go.Vm.Wd
namespace Go.Vm.Wd
open Go.RowKit
variable {R:Type}
end Go.Vm.Wd
namespace Go.Vm.Wd
open Go.RowKit
variable {R:Type}
end Go.Vm.Wd
namespace Go.Vm.Wd
open Go.RowKit
variable {R:Type}
end Go.Vm.Wd
namespace Go.Vm
open Go.RowKit
variable {P:Program} {T:TT} {R:Type} {c:J8} {e e':B4} {of:Nat→Option Ob}
section
variable (ρ:Nat→Nat) (τ:Nat→Nat→Option Nat)
def rnV (id ver:Nat) (k:Nat→A):A :=
 match τ id ver with
 | some v=>k v
 | none=>.x
mutual
def rnA:A→A
 | .p id t path=>.p (ρ id) t path
 | .e id ver i t path=>rnV τ id ver fun v=>.e (ρ id) v i t path
 | .o id ver=>rnV τ id ver fun v=>.o (ρ id) v
 | .w id ver off n=>rnV τ id ver fun v=>.w (ρ id) v off n
 | .a id t path lo m=>.a (ρ id) t path lo m
 | .m id=>.m (ρ id)
 | .y id=>.y (ρ id)
 | .f fn l=>.f fn (rnL l)
 | .g t l=>.g t (rnL l)
 | .t l=>.t (rnL l)
 | a=>a
def rnL:List A→List A
 | []=>[]
 | a::r=>rnA a::rnL r
end
def rnE:List (V×A)→List (V×A)
 | []=>[]
 | p::r=>(p.1,rnA ρ τ p.2)::rnE r
def rnO (id:Nat):Ob→Ob
 | .box t a sh=>.box t (rnA ρ τ a) sh
 | .row el ver xs nl sh=>.row el (match τ id ver with | some v=>v | none=>0) xs nl sh
 | .map kt et es=>.map kt et (rnE ρ τ es)
 | .vm kt et es=>.vm kt et es
 | .sm kt st el es ho=>.sm kt st el es ho
 | .it (some m)=>.it (some (ρ m))
 | .it none=>.it none
 | .lp q=>.lp none
end
def okT:Ob→Bool
 | .lp (some _)=>false
 | _=>true
structure REN (e e':B4) (ρ:Nat→Nat) (τ:Nat→Nat→Option Nat) (D:Nat→Prop):Prop where
 w:e'.w=e.w
 S:∀ b i,e'.S b i↔e.S b i
 use:∀ id,D id→e.U id→e'.U (ρ id)
 ι:∀ id,D id→e.U id→e'.ι (ρ id)=e.ι id
 ty:∀ id,D id→e.U id→e'.ty (ρ id)=e.ty id
 ln:∀ id,D id→e.U id→e'.ln (ρ id)=e.ln id
 bn0:∀ id,D id→e.U id→e.bn id=0→e'.bn (ρ id)=0
 ver:∀ id ver v,D id→e.U id→τ id ver=some v→0 < ver→ver≤e.bn id→0 < v∧v≤e'.bn (ρ id)∧(e'.bn (ρ id)=v→e.bn id=ver)
 G:∀ id a o b,D id→e.U id→e.ι id=some (a,o)→e.G a b→e'.G a b
variable {ρ:Nat→Nat} {τ:Nat→Nat→Option Nat} {D:Nat→Prop}
theorem REN.fz (h:REN e e' ρ τ D) {a:Addr} {ds:List Value} (q:Fz e a ds):Fz e' a ds:=⟨q.1,fun j y hj=>by
 obtain ⟨p1,p2⟩:=q.2 j y hj
 rw [h.w];exact ⟨p1,(h.S _ _).2 p2⟩⟩
theorem REN.rv (h:REN e e' ρ τ D) {ts:List Nat} {xs:List V} {cs:List Value} (q:RV T e ts xs cs):RV T e' ts xs cs:=q.change fun _ _=>h.fz
theorem R1.ren (h:REN e e' ρ τ D) {a:A} {v:Value} (q:R1 T e a v) (ho:one v=true) (hd:∀ id∈E1 a,D id):R1 T e' (rnA ρ τ a) v:=by
 cases a with
 | x=>exact q
 | p id t path =>
  obtain ⟨b,off,h1,h2,h3,h4,h5⟩:=q
  have d:=hd id (by simp [E1])
  exact ⟨b,off,h.use _ d h1,h.bn0 _ d h1 h2,(h.ι _ d h1).trans h3,by rw [h.ty _ d h1];exact h4,h5⟩
 | a id t path lo m =>
  obtain ⟨b,off,n,el,k,cap,h1,h2,h3,h4,h5⟩:=q
  have d:=hd id (by simp [E1])
  exact ⟨b,off,n,el,k,cap,h.use _ d h1,h.bn0 _ d h1 h2,(h.ι _ d h1).trans h3,by rw [h.ty _ d h1];exact h4,h5⟩
 | m id =>
  obtain ⟨b,h1,h2,h3,h4⟩:=q
  have d:=hd id (by simp [E1])
  exact ⟨b,h.use _ d h1,h.bn0 _ d h1 h2,(h.ι _ d h1).trans h3,h4⟩
 | y id =>
  obtain ⟨b,h1,h2,h3,h4⟩:=q
  have d:=hd id (by simp [E1])
  exact ⟨b,h.use _ d h1,h.bn0 _ d h1 h2,(h.ι _ d h1).trans h3,h4⟩
 | e id ver i t path =>
  obtain ⟨h0,h1,h2,h3,h4⟩:=q
  have d:=hd id (by simp [E1])
  simp only [rnA,rnV]
  cases hv:τ id ver with
  | none=>exact ho
  | some v' =>
   obtain ⟨v1,v2,v3⟩:=h.ver _ _ _ d h1 hv h3 h2
   refine ⟨h0,h.use _ d h1,v2,v1,fun hb=>?_⟩
   obtain ⟨b,o,off,g1,g2,g3,g4⟩:=h4 (v3 hb)
   exact ⟨b,o,off,(h.ι _ d h1).trans g1,by rw [h.ty _ d h1];exact g2,by rw [h.ln _ d h1];exact g3,by rw [h.ty _ d h1];exact g4⟩
 | o id ver =>
  obtain ⟨h0,h1,h2,h3,h4⟩:=q
  have d:=hd id (by simp [E1])
  simp only [rnA,rnV]
  cases hv:τ id ver with
  | none=>exact ho
  | some v' =>
   obtain ⟨v1,v2,v3⟩:=h.ver _ _ _ d h1 hv h3 h2
   refine ⟨h0,h.use _ d h1,v2,v1,fun hb=>?_⟩
   rcases h4 (v3 hb) with ⟨g1,g2,g3⟩ | ⟨b,o,cap,k,g1,g2,g3,g5,g4⟩
   ·exact .inl ⟨(h.ι _ d h1).trans g1,by rw [h.ln _ d h1];exact g2,g3⟩
   ·exact .inr ⟨b,o,cap,k,(h.ι _ d h1).trans g1,by rw [h.ln _ d h1];exact g2,by rw [h.ty _ d h1,h.w];exact g3,g5,by rw [h.ln _ d h1];exact g4⟩
 | w id ver off n =>
  obtain ⟨h0,h1,h2,h3,h4⟩:=q
  have d:=hd id (by simp [E1])
  simp only [rnA,rnV]
  cases hv:τ id ver with
  | none=>exact ho
  | some v' =>
   obtain ⟨v1,v2,v3⟩:=h.ver _ _ _ d h1 hv h3 h2
   refine ⟨h0,h.use _ d h1,v2,v1,fun hb=>?_⟩
   obtain ⟨b,o,cap,k,g1,g2,g3,g4,g5,g6⟩:=h4 (v3 hb)
   exact ⟨b,o,cap,k,(h.ι _ d h1).trans g1,g2,by rw [h.ln _ d h1];exact g3,by rw [h.ty _ d h1,h.w];exact g4,by rw [h.ty _ d h1];exact g5,g6⟩
 | _=>exact q.elim
theorem B1L {t:Nat} {a:A}:D2 T t a=true→D2 T t (rnA ρ τ a)=true:=by
 cases a with
 | e id ver i t' path=>intro h;simp only [rnA,rnV];cases τ id ver<;>exact h
 | o id ver=>intro h;simp only [rnA,rnV];cases τ id ver<;>exact h
 | w id ver off n=>intro h;simp only [rnA,rnV];cases τ id ver<;>exact h
 | _=>exact fun h=>h
theorem C8v:∀ {ts:List Nat} {l:List A},A0f T ts l=true→A0f T ts (rnL ρ τ l)=true:=by
 intro ts
 induction ts with
 | nil=>intro l h;cases l with
  | nil=>rfl
  | cons _ _=>cases h
 | cons t ts ih=>intro l h;cases l with
  | nil=>cases h
  | cons a l =>
   simp only [rnL,A0f,D5V] at h ⊢
   exact ⟨B1L h.1,ih h.2⟩
theorem RA.ren (h:REN e e' ρ τ D) {l:List A} {cs:List Value} (q:RA T e l cs):(∀ id∈E5 l,D id)→RA T e' (rnL ρ τ l) cs:=by
 induction q with
 | nil=>intro _;exact .nil
 | i hr _ ih=>intro hd;exact .i hr (ih fun id A3=>hd id (by simpa [E5,E1] using A3))
 | b _ ih=>intro hd;exact .b (ih fun id A3=>hd id (by simpa [E5,E1] using A3))
 | s _ ih=>intro hd;exact .s (ih fun id A3=>hd id (by simpa [E5,E1] using A3))
 | z h1 _ ih=>intro hd;exact .z h1 (ih fun id A3=>hd id (by simpa [E5,E1] using A3))
 | v h1 _ ih=>intro hd;exact .v (h.rv h1) (ih fun id A3=>hd id (by simpa [E5,E1] using A3))
 | c h1 h2 _ ih=>intro hd;exact .c (h.rv h1) (h.fz h2) (ih fun id A3=>hd id (by simpa [E5,E1] using A3))
 | q h1 _ ih=>intro hd;exact .q (h.rv h1) (ih fun id A3=>hd id (by simpa [E5,E1] using A3))
 | f _ _ ih1 ih=>intro hd;exact .f (ih1 fun id A3=>hd id (by simp [E5,E1,A3])) (ih fun id A3=>hd id (by simp [E5,A3]))
 | g h1 h2 h3 _ _ ih1 ih=>intro hd;exact .g h1 (C8v h2) h3 (ih1 fun id A3=>hd id (by simp [E5,E1,A3])) (ih fun id A3=>hd id (by simp [E5,A3]))
 | r h1 h2 _ ih=>intro hd;exact .r (h1.ren h h2 fun id A3=>hd id (by simp [E5,A3])) h2 (ih fun id A3=>hd id (by simp [E5,A3]))
theorem H5.ren (h:REN e e' ρ τ D) {a:A} {v:Value} (q:H5 T e a v) (hd:∀ id∈E1 a,D id):H5 T e' (rnA ρ τ a) v:=by
 have one:∀ {b:A},RA T e [b] [v]→(∀ id∈E1 b,D id)→RA T e' [rnA ρ τ b] [v]:=fun g hb=>RA.ren h g fun id A3=>hb id (by simpa [E5] using A3)
 cases a with
 | x=>trivial
 | t l=>exact q.elim
 | v t y=>exact ⟨h.rv q.1,q.2⟩
 | g t l=>exact ⟨RA.ren h q.1 fun id A3=>hd id (by simpa [E5] using A3),q.2⟩
 | e id ver i t path =>
  have:=one (b:=.e id ver i t path) q hd
  simp only [rnA,rnV] at this ⊢
  cases hv:τ id ver with
  | none=>trivial
  | some v'=>rw [hv] at this;exact this
 | o id ver =>
  have:=one (b:=.o id ver) q hd
  simp only [rnA,rnV] at this ⊢
  cases hv:τ id ver with
  | none=>trivial
  | some v'=>rw [hv] at this;exact this
 | w id ver off n =>
  have:=one (b:=.w id ver off n) q hd
  simp only [rnA,rnV] at this ⊢
  cases hv:τ id ver with
  | none=>trivial
  | some v'=>rw [hv] at this;exact this
 | i k n=>exact one (b:=.i k n) q hd
 | b y=>exact one (b:=.b y) q hd
 | s l=>exact one (b:=.s l) q hd
 | z y=>exact one (b:=.z y) q hd
 | p id t path=>exact one (b:=.p id t path) q hd
 | c t y=>exact one (b:=.c t y) q hd
 | q t y=>exact one (b:=.q t y) q hd
 | a id t path lo m=>exact one (b:=.a id t path lo m) q hd
 | m id=>exact one (b:=.m id) q hd
 | y id=>exact one (b:=.y id) q hd
 | f fn l=>exact one (b:=.f fn l) q hd
theorem C8w:∀ {l:List A} {k:Nat} {v:A},(rnL ρ τ l)[k]? = some v→∃ a,l[k]? = some a∧v=rnA ρ τ a:=by
 intro l
 induction l with
 | nil=>intro k v h;simp [rnL] at h
 | cons a l ih =>
  intro k v h
  cases k with
  | zero=>simp [rnL] at h;exact ⟨a,rfl,h.symm⟩
  | succ k=>exact ih (by simpa [rnL] using h)
theorem C8x:∀ {l:List A},(rnL ρ τ l).length=l.length:=by
 intro l
 induction l with
 | nil=>rfl
 | cons a l ih=>simp [rnL,ih]
theorem C34:∀ {l:List A} {k:Nat} {a:A},l[k]? = some a→∀ id∈E1 a,id∈E5 l:=by
 intro l
 induction l with
 | nil=>intro k a h;simp at h
 | cons b l ih =>
  intro k a h id A3
  cases k with
  | zero=>simp at h;subst h;simp [E5,A3]
  | succ k=>simp [E5,ih (by simpa using h) id A3]
theorem C35 {e:B4} {a:A} {v:Value} (h:H5 T e a v):C2 T e a v:=by
 cases a with
 | t l=>exact h.elim
 | _=>exact h
theorem C2.ren (h:REN e e' ρ τ D) {a:A} {v:Value} (q:C2 T e a v) (hd:∀ id∈E1 a,D id):C2 T e' (rnA ρ τ a) v:=by
 by_cases ht:∃ l,a=.t l
 ·obtain ⟨l,rfl⟩:=ht
  obtain ⟨xs,rfl,h2,h3⟩:=q
  refine ⟨xs,rfl,by rw [C8x];exact h2,fun k v x hv hx=>?_⟩
  obtain ⟨b,hb,rfl⟩:=C8w hv
  exact (h3 k b x hb hx).ren h fun id A3=>hd id (by simp only [E1];exact C34 hb id A3)
 ·exact C35 ((A6E q fun l hl=>ht ⟨l,hl⟩).ren h hd)
theorem T2.ren (h:REN e e' ρ τ D) {l:List A} {vs:List Value} (q:T2 T e l vs):(∀ id∈E5 l,D id)→T2 T e' (rnL ρ τ l) vs:=by
 induction q with
 | nil=>intro _;exact .nil
 | cons h1 _ ih=>intro hd;exact .cons (h1.ren h fun id A3=>hd id (by simp [E5,A3])) (ih fun id A3=>hd id (by simp [E5,A3]))
theorem MR.ren (h:REN e e' ρ τ D) {kt et:Nat} {es:List (V×A)} {ms:List MapEntry} (q:MR T e kt et es ms):(∀ id∈A2X es,D id)→MR T e' kt et (rnE ρ τ es) ms:=by
 induction q with
 | nil=>intro _;exact .nil
 | cons h1 h2 h3 _ ih =>
  intro hd
  exact .cons (show H5 T e' (.v _ _) _ from ⟨h.rv h1.1,h1.2⟩) (h2.ren h fun id A3=>hd id (by simp [A2X,A3])) (B1L h3) (ih fun id A3=>hd id (by simp [A2X,A3]))
theorem A4z:∀ l:List (V×A),rnE ρ τ l=l.map fun p=>(p.1,rnA ρ τ p.2):=by
 intro l
 induction l with
 | nil=>rfl
 | cons p r ih=>simp [rnE,ih]
theorem C36 {et:Nat}:∀ es:List (V×V),A2X (vms et es)=[]:=by
 intro es
 induction es with
 | nil=>rfl
 | cons p r ih=>simp only [vms,A2X,E1,ih,List.nil_append]
theorem C8y {et:Nat}:∀ es:List (V×V),rnE ρ τ (vms et es)=vms et es:=by
 intro es
 induction es with
 | nil=>rfl
 | cons p r ih=>simp only [vms,rnE,ih];rfl
theorem OK.ren (h:REN e e' ρ τ D) {id:Nat} {o:Ob} (q:OK T e id o) (di:D id) (hd:∀ k∈A1E o,D k) (ho:okT o=true)
  (hv:∀ el ver xs nl sh,o=.row el ver xs nl sh→∃ v,τ id ver=some v∧e'.bn (ρ id)=v):OK T e' (ρ id) (rnO ρ τ id o):=by
 cases o with
 | box t a sh =>
  obtain ⟨h1,h2,h2',h2'',b,cs,ty,fz,h3,h4,h5,h5',h6,h7⟩:=q
  refine ⟨h.use _ di h1,h.bn0 _ di h1 h2,(h.ty _ di h1).trans h2',B1L h2'',b,cs,ty,fz,(h.ι _ di h1).trans h3,by rw [h.w];exact h4,?_,h5',RA.ren h h6 (fun k hk=>hd k (by simpa [E5,A1E] using hk)),fun hh i hc=>h7 hh i ((h.S _ _).1 hc)⟩
  unfold A1F at h5 ⊢;rw [h.w];exact h5
 | row el ver xs nl sh =>
  obtain ⟨h1,h2,h3,h4,h4',h5,h6⟩:=q
  obtain ⟨v,hτ,hbv⟩:=hv _ _ _ _ _ rfl
  obtain ⟨v1,v2,v3⟩:=h.ver _ _ _ di h1 hτ h2 (by omega)
  simp only [rnO,hτ]
  refine ⟨h.use _ di h1,v1,hbv,(h.ty _ di h1).trans h4,(h.ln _ di h1).trans h4',h5,?_⟩
  rcases h6 with ⟨g1,g2,g3⟩ | ⟨nn',b,o,cs,t,fz,pre,ys,post,g1,g2,g3,g4,g5,g6,g7,g8⟩
  ·exact .inl ⟨g1,(h.ι _ di h1).trans g2,g3⟩
  ·refine .inr ⟨nn',b,o,cs,t,fz,pre,ys,post,(h.ι _ di h1).trans g1,by rw [h.w];exact g2,?_,g4,g5,h.rv g6,fun i hi hc=>g7 i hi ((h.S _ _).1 hc),fun hh i hi hc=>g8 hh i hi ((h.S _ _).1 hc)⟩
   unfold A1F at g3 ⊢;rw [h.w];exact g3
 | map kt et es =>
  obtain ⟨h1,h2,b,ms,clock,h3,h4,⟨h5,h5'⟩,es',h6,h7⟩:=q
  refine ⟨h.use _ di h1,h.bn0 _ di h1 h2,b,ms,clock,(h.ι _ di h1).trans h3,by rw [h.w];exact h4,⟨by rw [A4z,List.map_map];exact h5,h5'⟩,rnE ρ τ es',by rw [A4z,A4z];exact h6.map _,h7.ren h fun k hk=>hd k (A41 h6.symm k hk)⟩
 | vm kt et es =>
  obtain ⟨h1,h2,b,ms,clock,h3,h4,⟨h5,h5'⟩,es',h6,h7⟩:=q
  refine ⟨h.use _ di h1,h.bn0 _ di h1 h2,b,ms,clock,(h.ι _ di h1).trans h3,by rw [h.w];exact h4,⟨h5,h5'⟩,rnE ρ τ es',by rw [← C8y (ρ:=ρ) (τ:=τ) es,A4z,A4z];exact h6.map _,h7.ren h fun k hk=>by
   have:=A41 h6.symm k hk
   rw [C36] at this;cases this⟩
 | sm kt st el es ho' =>
  obtain ⟨h1,h2,ha,hb',hc,b,ms,clock,h3,h4,h5,es',bs,h6,h7⟩:=q
  refine ⟨h.use _ di h1,h.bn0 _ di h1 h2,ha,hb',hc,b,ms,clock,(h.ι _ di h1).trans h3,by rw [h.w];exact h4,h5,es',bs,h6,SR.move (e:=e) (e':=e') (fun a ds=>h.fz) h.w (fun b i=>(h.S b i).1) (fun b' hG=>h.G id b 0 b' di h1 h3 hG) h7⟩
 | lp q' =>
  cases q' with
  | none =>
   obtain ⟨h1,h2,b,h3,h4⟩:=q
   exact ⟨h.use _ di h1,h.bn0 _ di h1 h2,b,(h.ι _ di h1).trans h3,by rw [h.w];exact h4⟩
  | some r=>cases ho
 | it q' =>
  cases q' with
  | none =>
   obtain ⟨h1,h2,b,x,y,z,h3,h4⟩:=q
   exact ⟨h.use _ di h1,h.bn0 _ di h1 h2,b,x,y,z,(h.ι _ di h1).trans h3,by rw [h.w];exact h4⟩
  | some m =>
   obtain ⟨h1,h2,b,bm,x,z,h3,h4,h5,h6,h7⟩:=q
   have dm:=hd m (by simp [A1E])
   exact ⟨h.use _ di h1,h.bn0 _ di h1 h2,b,bm,x,z,(h.ι _ di h1).trans h3,by rw [h.w];exact h4,h.use _ dm h5,h.bn0 _ dm h5 h6,(h.ι _ dm h5).trans h7⟩
end Go.Vm
end