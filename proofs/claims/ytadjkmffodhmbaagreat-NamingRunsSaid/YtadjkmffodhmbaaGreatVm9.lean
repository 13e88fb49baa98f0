/- What the operations of a program do, shown once for all programs; and numbers. -/
import Derived.Test.YtadjkmffodhmbaaGreatVm8
import Derived.Test.YtadjkmffodhmbaaGreatVm7
import Derived.Laws.Externs
import Derived.Lib.Bytealg
import Derived.OpenShut
import Derived.WalkKit
import Derived.ProofKit
import Derived.JoinedOf
import Derived.ChangeShapes
import Derived.Sort.KeysCollected
import Derived.WideShapes
import Derived.Below
import Derived.Calls
set_option linter.constructorNameAsVariable false
set_option linter.unusedVariables false
set_option linter.unusedSimpArgs false
noncomputable section
namespace Go.Vm
open Go.RowKit
variable {T:TT} {R:Type} {P:Program}
abbrev ln {R:Type} (n:Nat) (k:Option R):Option R:=bif Nat.ble n 9223372036854775807 then k else none
abbrev N0 {R:Type} (n:Nat) (k:Option R):Option R:=bif Nat.ble n LIM then k else none
def gtL (l:List V) (i:Int):Int:=(l.getD i.toNat .n).int
def W1 (a b:Int):Int:=J8 .xor .u64 a b
def A1m (a b:Int):Int:=J8 .and .u64 a b
def rtU (x:Int) (n:Nat):Int:=(J8 .or .u64 (x.fdiv (2 ^ n)) (WU (x * 2 ^ (32 - n)))).tmod 4294967296
def C7i (x:Int):Int:=W1 (W1 (rtU x 7) (rtU x 18)) (x.fdiv (2 ^ 3))
def C7j (x:Int):Int:=W1 (W1 (rtU x 17) (rtU x 19)) (x.fdiv (2 ^ 10))
def B7t (xs:List V) (i:Int):Int:=WU (WU (256 * WU (WU (256 * WU (WU (256 * WU (WU (256 * 0)+WU (gtL xs (D7 (i+0)))))+WU (gtL xs (D7 (i+1)))))+WU (gtL xs (D7 (i+2)))))+WU (gtL xs (D7 (i+3))))
def sh8:Nat→V→V
 | 0,x=>x
 | j+1,x=>sh8 j (x.put (j+1) (.i (elV x j)))
def D0z (x:V) (k w:Int):V :=
 let e:=elV x 4
 let a:=elV x 0
 let t:=(WU (WU (WU (WU (elV x 7+W1 (W1 (rtU e 6) (rtU e 11)) (rtU e 25))+W1 (A1m e (elV x 5)) (A1m (WU (4294967295 - e)) (elV x 6)))+k)+w)).tmod 4294967296
 let small:=W1 (W1 (rtU a 2) (rtU a 13)) (rtU a 22)
 let most:=W1 (W1 (A1m a (elV x 1)) (A1m a (elV x 2))) (A1m (elV x 1) (elV x 2))
 let y:=(sh8 7 x).put 4 (.i ((WU (elV (sh8 7 x) 4+t)).tmod 4294967296))
 y.put 0 (.i ((WU (WU (t+small)+most)).tmod 4294967296))
def ad8:Nat→Nat→V→V→V
 | 0,_,v,_=>v
 | m+1,j,v,x=>ad8 m (j+1) (v.put j (.i ((WU (elV v j+elV x j)).tmod 4294967296))) x
inductive B4x where
 | m (b:V) (xs:List V)
inductive C7k where
 | o (b:V) (xs:List V)
def C2l (R:Type) (p:B4x) (K:B4x→Option R) (kx:C7k→Option R):Option R :=
 match p with
 | .m b xs =>
  ln xs.length <| bif !(L5 ((xs.length:Int).tmod 64) 56) then N0 (xs.length+1) <| K (.m b (xs++[.i 0])) else kx (.o b xs)
inductive B4y where
 | m (z:V) (v:V) (xs:List V) (kk:V) (at_:Int) (ws:List V) (i:Int)
inductive B7u where
 | o (z:V) (v:V) (xs:List V) (kk:V) (at_:Int) (ws:List V) (i:Int)
def B1i (R:Type) (p:B4y) (K:B4y→Option R) (kx:B7u→Option R):Option R :=
 match p with
 | .m z v xs kk at_ ws i =>
  bif B5 i 64 then
   (bif B5 i 16 then
    ck (D7 (D7 (at_+D7 (4 * i))+0)) xs.length <| ck (D7 (D7 (at_+D7 (4 * i))+1)) xs.length <| ck (D7 (D7 (at_+D7 (4 * i))+2)) xs.length <| ck (D7 (D7 (at_+D7 (4 * i))+3)) xs.length <|
    N0 (ws.length+1) <| K (.m z v xs kk at_ (ws++[.i (B7t xs (D7 (at_+D7 (4 * i))))]) (D7 (i+1)))
   else
    ck (D7 (i - 15)) ws.length <| ck (D7 (i - 15)) ws.length <| ck (D7 (i - 15)) ws.length <| ck (D7 (i - 2)) ws.length <| ck (D7 (i - 2)) ws.length <| ck (D7 (i - 2)) ws.length <|
    ck (D7 (i - 16)) ws.length <| ck (D7 (i - 7)) ws.length <| N0 (ws.length+1) <|
    K (.m z v xs kk at_ (ws++[.i ((WU (WU (WU (gtL ws (D7 (i - 16))+C7i (gtL ws (D7 (i - 15))))+gtL ws (D7 (i - 7)))+C7j (gtL ws (D7 (i - 2))))).tmod 4294967296)]) (D7 (i+1))))
  else kx (.o z v xs kk at_ ws i)
inductive B4z where
 | m (z:V) (v:V) (xs:List V) (kk:V) (at_:Int) (ws:List V) (x:V) (i:Int)
inductive C2m where
 | o (z:V) (v:V) (xs:List V) (kk:V) (at_:Int) (ws:List V) (x:V) (i:Int)
def B7v (R:Type) (p:B4z) (K:B4z→Option R) (kx:C2m→Option R):Option R :=
 match p with
 | .m z v xs kk at_ ws x i =>
  bif B5 i 64 then ck i 64 <| ck i ws.length <| K (.m z v xs kk at_ ws (D0z x (elV kk i) (gtL ws i)) (D7 (i+1))) else kx (.o z v xs kk at_ ws x i)
inductive B4A where
 | m (z:V) (v:V) (xs:List V) (kk:V) (at_:Int)
inductive C7l where
 | o (z:V) (v:V) (xs:List V) (kk:V) (at_:Int)
def C2n (R:Type) (p:B4A) (K:B4A→Option R) (kx:C7l→Option R):Option R :=
 match p with
 | .m z v xs kk at_ =>
  ln xs.length <| bif B5 at_ xs.length then
   E1 (B1i R) (A2 FU) (.m z v xs kk at_ [] 0) (fun | .o z v xs kk at_ ws _=>E1 (B7v R) (A2 FU) (.m z v xs kk at_ ws v 0) (fun | .o z v xs kk at_ _ x _=>K (.m z (ad8 8 0 v x) xs kk (D7 (at_+64)))))
  else kx (.o z v xs kk at_)
variable {T:TT} {R:Type} {P:Program}
def bt (n:Int) (j:Nat):V:=.i (IntKind.wrap .u8 ((n.fdiv (2 ^ (8 * j))).tmod 256))
def ap8 {R:Type} (n:Int):Nat→List V→(List V→Option R)→Option R
 | 0,xs,k=>k xs
 | j+1,xs,k=>N0 (xs.length+1) <| ap8 n j (xs++[bt n j]) k
theorem B3 {n:Nat} {k:Option R} (h:n≤1073741824):N0 n k=k:=by
 unfold N0 LIM
 rw [D2R h];rfl
theorem B7 {n:Nat} {k:Option R} (h:n≤9223372036854775807):ln n k=k:=by
 unfold ln
 rw [D2R h];rfl
theorem A1n (a b:Nat):(a:Int).tmod (b:Int)=((a % b:Nat):Int):=rfl
theorem B3d {a b:Int} (h:a=b):L5 a b=true:=L7.2 h
theorem B7w {a b:Int} (h:a≠b):L5 a b=false:=by
 cases hq:L5 a b with
 | false=>rfl
 | true=>exact absurd (L7.1 hq) h
theorem D0A {b:V}:∀ (m n:Nat) (xs:List V) (k:C7k→Option R),(xs.length+m) % 64=56→m < 64→xs.length+m≤1073741824→m < n →
  E1 (C2l R) n (.m b xs) k=k (.o b (xs++List.replicate m (.i 0))):=by
 intro m
 induction m with
 | zero =>
  intro n xs k h1 h2 h3 h4
  obtain ⟨n,rfl⟩:∃ n',n=n'+1:=⟨n - 1,by omega⟩
  rw [E1]
  show ln xs.length (bif !(L5 ((xs.length:Int).tmod 64) 56) then _ else _)=_
  rw [B7 (by omega),show (64:Int)=((64:Nat):Int) from rfl,A1n,B3d (by omega)]
  simp
 | succ m ih =>
  intro n xs k h1 h2 h3 h4
  obtain ⟨n,rfl⟩:∃ n',n=n'+1:=⟨n - 1,by omega⟩
  rw [E1]
  show ln xs.length (bif !(L5 ((xs.length:Int).tmod 64) 56) then N0 (xs.length+1) _ else _)=_
  rw [B7 (by omega),show (64:Int)=((64:Nat):Int) from rfl,A1n,B7w (by omega),B3 (by omega)]
  simp only [Bool.not_false,cond_true]
  rw [ih n (xs++[V.i 0]) k (by simp;omega) (by omega) (by simp;omega) (by omega)]
  simp [List.replicate_succ]
theorem D0B {n:Nat} (j:Nat):bt (n:Int) j=nv (n / 2 ^ (8 * j) % 256):=by
 unfold bt
 rw [A0n,Nat.shiftRight_eq_div_pow,show (256:Int)=((256:Nat):Int) from rfl,A1n]
 have:IntKind.wrap .u8 ((n / 2 ^ (8 * j) % 256:Nat):Int)=((n / 2 ^ (8 * j) % 256:Nat):Int):=by
  have hl:n / 2 ^ (8 * j) % 256 < 256:=Nat.mod_lt _ (by decide)
  unfold IntKind.wrap
  simp [IntKind.bits,IntKind.signed]
 rw [this];rfl
theorem C7m {n:Int}:∀ (j:Nat) (xs:List V) (k:List V→Option R),xs.length+j≤1073741824→ap8 n j xs k=k (xs++((List.range j).reverse.map (bt n))):=by
 intro j
 induction j with
 | zero=>intro xs k h;simp [ap8]
 | succ j ih =>
  intro xs k h
  rw [ap8,B3 (by omega),ih _ _ (by simp;omega)]
  simp [List.range_succ]
def Gpd (el:Nat):FC:=fun R xs k=>match xs with
 | [b]=>N0 (([]:List V).length+b.els.length) <| N0 (b.els.length+1) <| E1 (C2l R) (A2 FU) (.m b (b.els++[.i 128])) (fun | .o b xs=>ln b.els.length <| ap8 (WU (WU b.els.length * 8)) 8 xs fun xs=>k [.r el xs false])
 | _=>none
def Fpd (el:Nat):FC:=fun R xs k=>match xs with
 | [b]=>bif Nat.ble b.els.length 1000000000 then k [.r el (b.els++(M0 b.els.length).map nv) false] else none
 | _=>none
theorem C2o (el:Nat):FC.nat (Fpd el):=by
 intro R xs k
 unfold Fpd
 split
 ·rename_i b;cases Nat.ble b.els.length 1000000000<;>rfl
 ·rfl
theorem HID:64 < A2 FU:=by rw [A3c];decide
theorem C7n (el:Nat) {b:V} {rs:List Rs} (h:Fpd el (List Rs) [b] some=some rs):Gpd el (List Rs) [b] some=some rs:=by
 simp only [Fpd] at h
 cases hl:Nat.ble b.els.length 1000000000 with
 | false=>rw [hl] at h;cases h
 | true =>
  rw [hl] at h
  have hl:=D2N hl
  simp only [Gpd]
  have HID:=HID
  rw [B3 (by simp;omega),B3 (by omega),D0A ((119 - b.els.length % 64) % 64) (A2 FU) (b.els++[V.i 128]) _ (by simp;omega) (by omega) (by simp;omega) (by omega)]
  simp only
  rw [B7 (by omega),C7m _ _ _ (by simp;omega)]
  have hw:WU (WU (b.els.length:Int) * 8)=((8 * b.els.length:Nat):Int):=by
   rw [D5 (by omega),show ((b.els.length:Int) * 8)=((8 * b.els.length:Nat):Int) by push_cast;omega,D5 (by omega)]
  rw [hw]
  refine Eq.trans ?_ h
  simp only [cond_true]
  congr 3
  unfold M0
  generalize 8 * b.els.length=N
  rw [show (List.range 8).reverse=[7,6,5,4,3,2,1,0] from rfl]
  simp only [List.map_cons,List.map_append,List.append_assoc,List.map_replicate,List.cons_append,List.nil_append,List.map_nil,D0B,Nat.mul_zero,Nat.pow_zero,Nat.div_one]
  rfl
variable {T:TT} {R:Type} {P:Program}
theorem A4e {a:Nat} (h:a < Q6):a < 18446744073709551616:=Nat.lt_of_lt_of_le h (by decide)
theorem Y1 {a b:Nat} (ha:a < Q6) (hb:b < Q6):W1 (a:Int) (b:Int)=((a ^^^ b:Nat):Int):=B1W (A4e ha) (A4e hb)
theorem A3n {a b:Nat} (ha:a < Q6) (hb:b < Q6):A1m (a:Int) (b:Int)=((a &&& b:Nat):Int):=B1V (A4e ha) (A4e hb)
theorem A08 {a n:Nat} (h:a < Q6) (hn:0 < n) (hn2:n < 32):rtU (a:Int) n=((A20 a n:Nat):Int):=by
 unfold rtU A20
 have h2:a <<< (32 - n) < 18446744073709551616:=by
  rw [Nat.shiftLeft_eq]
  have:2 ^ (32 - n)≤2 ^ 32:=Nat.pow_le_pow_right (by decide) (by omega)
  have h3:a * 2 ^ (32 - n)≤a * 2 ^ 32:=Nat.mul_le_mul_left _ this
  have h':a < 4294967296:=h
  omega
 rw [A3F,A0n,D5 h2,B5m (A4e (A1d h)) h2,show (4294967296:Int)=((4294967296:Nat):Int) from rfl,A1n]
 congr 1
 rw [show (4294967296:Nat)=2 ^ 32 from rfl,Nat.or_mod_two_pow,show Q6=2 ^ 32 from rfl,Nat.mod_eq_of_lt (show a >>> n < 2 ^ 32 from A1d h)]
theorem C2p {a:Nat} (h:a < Q6):C7i (a:Int)=((sS0 a:Nat):Int):=by
 unfold C7i sS0
 rw [A08 h (by decide) (by decide),A08 h (by decide) (by decide),A0n,Y1 (C6 h) (C6 h),Y1 (Q9 (C6 h) (C6 h)) (A1d h)]
theorem C2q {a:Nat} (h:a < Q6):C7j (a:Int)=((sS1 a:Nat):Int):=by
 unfold C7j sS1
 rw [A08 h (by decide) (by decide),A08 h (by decide) (by decide),A0n,Y1 (C6 h) (C6 h),Y1 (Q9 (C6 h) (C6 h)) (A1d h)]
theorem C7o {a b c:Nat} (ha:a < Q6):chN a b c < Q6:=by
 unfold chN
 have:4294967295 - a < Q6:=by show _ < 4294967296;omega
 exact Q9 (S9 ha) (S9 this)
theorem C2r {a b c:Nat} (ha:a < Q6) (hb:b < Q6):B1R a b c < Q6:=by
 unfold B1R
 exact Q9 (Q9 (S9 ha) (S9 ha)) (S9 hb)
theorem B7x (n:Nat):(n:Int).tmod 4294967296=((n % 4294967296:Nat):Int):=rfl
theorem C2s {s:S8} (h:OkS s) {k w:Nat} (hk:k < Q6) (hw:w < Q6):D0z (R2 s) (k:Int) (w:Int)=R2 (B1S s k w):=by
 have hne:4294967295 - s.e < Q6:=by show _ < 4294967296;omega
 have hb1:W1 (W1 (rtU (s.e:Int) 6) (rtU (s.e:Int) 11)) (rtU (s.e:Int) 25)=((bS1 s.e:Nat):Int):=by
  rw [A08 h.e (by decide) (by decide),A08 h.e (by decide) (by decide),A08 h.e (by decide) (by decide),Y1 (C6 h.e) (C6 h.e),Y1 (Q9 (C6 h.e) (C6 h.e)) (C6 h.e)];rfl
 have hb0:W1 (W1 (rtU (s.a:Int) 2) (rtU (s.a:Int) 13)) (rtU (s.a:Int) 22)=((bS0 s.a:Nat):Int):=by
  rw [A08 h.a (by decide) (by decide),A08 h.a (by decide) (by decide),A08 h.a (by decide) (by decide),Y1 (C6 h.a) (C6 h.a),Y1 (Q9 (C6 h.a) (C6 h.a)) (C6 h.a)];rfl
 have hch:W1 (A1m (s.e:Int) (s.f:Int)) (A1m (WU (4294967295 - (s.e:Int))) (s.g:Int))=((chN s.e s.f s.g:Nat):Int):=by
  have he:s.e < 4294967296:=h.e
  rw [show (4294967295 - (s.e:Int))=((4294967295 - s.e:Nat):Int) by omega,D5 (A4e hne),A3n h.e h.f,A3n hne h.g,Y1 (S9 h.e) (S9 hne)];rfl
 have hmaj:W1 (W1 (A1m (s.a:Int) (s.b:Int)) (A1m (s.a:Int) (s.c:Int))) (A1m (s.b:Int) (s.c:Int))=((B1R s.a s.b s.c:Nat):Int):=by
  rw [A3n h.a h.b,A3n h.a h.c,A3n h.b h.c,Y1 (S9 h.a) (S9 h.a),Y1 (Q9 (S9 h.a) (S9 h.a)) (S9 h.b)];rfl
 have l1:s.h < 4294967296:=h.h
 have l2:bS1 s.e < 4294967296:=C8o h.e
 have l3:chN s.e s.f s.g < 4294967296:=C7o h.e
 have l4:bS0 s.a < 4294967296:=C8n h.a
 have l5:B1R s.a s.b s.c < 4294967296:=C2r h.a h.b
 have l6:s.d < 4294967296:=h.d
 have hk:k < 4294967296:=hk
 have hw:w < 4294967296:=hw
 have ht:(WU (WU (WU (WU ((s.h:Int)+W1 (W1 (rtU (s.e:Int) 6) (rtU (s.e:Int) 11)) (rtU (s.e:Int) 25))+W1 (A1m (s.e:Int) (s.f:Int)) (A1m (WU (4294967295 - (s.e:Int))) (s.g:Int)))+(k:Int))+(w:Int))).tmod 4294967296=(((s.h+bS1 s.e+chN s.e s.f s.g+k+w) % 4294967296:Nat):Int):=by
  rw [hb1,hch,← Int.natCast_add,D5 (by omega),← Int.natCast_add,D5 (by omega),← Int.natCast_add,D5 (by omega),← Int.natCast_add,D5 (by omega),B7x]
 show V.l [.i ((WU (WU ((WU (WU (WU (WU ((s.h:Int)+W1 (W1 (rtU (s.e:Int) 6) (rtU (s.e:Int) 11)) (rtU (s.e:Int) 25))+W1 (A1m (s.e:Int) (s.f:Int)) (A1m (WU (4294967295 - (s.e:Int))) (s.g:Int)))+(k:Int))+(w:Int))).tmod 4294967296+W1 (W1 (rtU (s.a:Int) 2) (rtU (s.a:Int) 13)) (rtU (s.a:Int) 22))+W1 (W1 (A1m (s.a:Int) (s.b:Int)) (A1m (s.a:Int) (s.c:Int))) (A1m (s.b:Int) (s.c:Int)))).tmod 4294967296),
  .i s.a,.i s.b,.i s.c,.i ((WU ((s.d:Int)+(WU (WU (WU (WU ((s.h:Int)+W1 (W1 (rtU (s.e:Int) 6) (rtU (s.e:Int) 11)) (rtU (s.e:Int) 25))+W1 (A1m (s.e:Int) (s.f:Int)) (A1m (WU (4294967295 - (s.e:Int))) (s.g:Int)))+(k:Int))+(w:Int))).tmod 4294967296)).tmod 4294967296),.i s.e,.i s.f,.i s.g]=_
 rw [ht,hb0,hmaj,← Int.natCast_add,D5 (by omega),← Int.natCast_add,D5 (by omega),B7x,← Int.natCast_add,D5 (by omega),B7x]
 unfold B1S R2
 simp only [Q1,nv]
 refine congrArg V.l ?_
 congr 1
 ·congr 1;congr 1;show _=_ % 4294967296;omega
 ·congr 3
  congr 1
  congr 1;congr 1;show _=_ % 4294967296;omega
theorem C7p {s x:S8} (hs:OkS s) (hx:OkS x):ad8 8 0 (R2 s) (R2 x)=R2 (B1T s x):=by
 have q:∀ a b:Nat,a < Q6→b < Q6→(WU ((a:Int)+(b:Int))).tmod 4294967296=(((a+b) % Q6:Nat):Int):=fun a b ha hb=>by
  have ha:a < 4294967296:=ha
  have hb:b < 4294967296:=hb
  rw [← Int.natCast_add,D5 (by omega),B7x]
 show V.l [.i ((WU ((s.a:Int)+(x.a:Int))).tmod 4294967296),.i ((WU ((s.b:Int)+(x.b:Int))).tmod 4294967296),.i ((WU ((s.c:Int)+(x.c:Int))).tmod 4294967296),.i ((WU ((s.d:Int)+(x.d:Int))).tmod 4294967296),.i ((WU ((s.e:Int)+(x.e:Int))).tmod 4294967296),.i ((WU ((s.f:Int)+(x.f:Int))).tmod 4294967296),.i ((WU ((s.g:Int)+(x.g:Int))).tmod 4294967296),.i ((WU ((s.h:Int)+(x.h:Int))).tmod 4294967296)]=_
 rw [q _ _ hs.a hx.a,q _ _ hs.b hx.b,q _ _ hs.c hx.c,q _ _ hs.d hx.d,q _ _ hs.e hx.e,q _ _ hs.f hx.f,q _ _ hs.g hx.g,q _ _ hs.h hx.h]
 unfold B1T R2
 simp only [Q1]
 rfl
theorem A50 {l:List Nat} {j a:Nat} (h:l[j]? = some a):gtL (l.map nv) (j:Int)=(a:Int):=by
 unfold gtL
 rw [show ((j:Int)).toNat=j from rfl,List.getD,List.getElem?_map,h]
 rfl
theorem A45 {l:List Nat} {q:Nat} (h:q < l.length):gtL (l.reverse.map nv) ((l.length - 1 - q:Nat):Int)=((l.getD q 0:Nat):Int):=by
 have:=A3G (r:=[]) h
 rw [List.append_nil] at this
 exact this
theorem B7y {bs:List Nat} (hb:∀ b∈bs,b < 256) {j b0 b1 b2 b3:Nat} (hj:j < 4611686018427387904) (h0:bs[j]? = some b0) (h1:bs[j+1]? = some b1) (h2:bs[j+2]? = some b2) (h3:bs[j+3]? = some b3) :
  B7t (bs.map nv) (j:Int)=(((((b0 * 256+b1) * 256+b2) * 256+b3:Nat)):Int):=by
 have l0:=hb b0 (List.mem_of_getElem? h0)
 have l1:=hb b1 (List.mem_of_getElem? h1)
 have l2:=hb b2 (List.mem_of_getElem? h2)
 have l3:=hb b3 (List.mem_of_getElem? h3)
 have w:∀ d:Nat,d < 4→D7 ((j:Int)+(d:Int))=((j+d:Nat):Int):=fun d hd=>by rw [F8 (by omega) (by omega)];push_cast;rfl
 have e0:D7 ((j:Int)+0)=((j:Nat):Int):=w 0 (by decide)
 have e1:D7 ((j:Int)+1)=((j+1:Nat):Int):=w 1 (by decide)
 have e2:D7 ((j:Int)+2)=((j+2:Nat):Int):=w 2 (by decide)
 have e3:D7 ((j:Int)+3)=((j+3:Nat):Int):=w 3 (by decide)
 unfold B7t
 rw [e0,e1,e2,e3,A50 h0,A50 h1,A50 h2,A50 h3,D5 (n:=b0) (by omega),D5 (n:=b1) (by omega),D5 (n:=b2) (by omega),D5 (n:=b3) (by omega)]
 have z:WU (256 * 0)=((0:Nat):Int):=rfl
 have m:∀ a:Nat,a < 4294967296→WU (256 * (a:Int))=((256 * a:Nat):Int):=fun a ha=>by
  rw [show (256 * (a:Int))=((256 * a:Nat):Int) by omega,D5 (by omega)]
 rw [z,← Int.natCast_add,D5 (by omega),m _ (by omega),← Int.natCast_add,D5 (by omega),m _ (by omega),← Int.natCast_add,D5 (by omega),m _ (by omega),← Int.natCast_add,D5 (by omega)]
 congr 1;omega
theorem C7q {z v kk:V} {bs:List Nat} (hb:∀ b∈bs,b < 256) {a:Nat} (hl:a+64≤bs.length) (hB:bs.length < 4611686018427387000):∀ (m j n:Nat) (l:List Nat) (k:B7u→Option R),j+m=16→l.length=j →
  E1 (B1i R) (m+n) (.m z v (bs.map nv) kk (a:Int) (l.reverse.map nv) (j:Int)) k=E1 (B1i R) n (.m z v (bs.map nv) kk (a:Int) ((M7 m (bs.drop (a+4 * j)) l).reverse.map nv) 16) k:=by
 intro m
 induction m with
 | zero =>
  intro j n l k hj hlen
  have:j=16:=by omega
  subst this
  rw [Nat.zero_add]
  rfl
 | succ m ih =>
  intro j n l k hj hlen
  obtain ⟨b0,b1,b2,b3,g0,g1,g2,g3,gd⟩:=D0Z (bs:=bs) (k:=a+4 * j) (by omega)
  have w0:D7 ((a:Int)+D7 (4 * (j:Int)))=((a+4 * j:Nat):Int):=by rw [F8 (n:=4 * (j:Int)) (by omega) (by omega),F8 (by omega) (by omega)];push_cast;rfl
  have w:∀ d:Nat,d < 4→D7 (((a+4 * j:Nat):Int)+(d:Int))=((a+4 * j+d:Nat):Int):=fun d hd=>by rw [F8 (by omega) (by omega)];push_cast;rfl
  have e0:D7 (((a+4 * j:Nat):Int)+0)=((a+4 * j:Nat):Int):=w 0 (by decide)
  have e1:D7 (((a+4 * j:Nat):Int)+1)=((a+4 * j+1:Nat):Int):=w 1 (by decide)
  have e2:D7 (((a+4 * j:Nat):Int)+2)=((a+4 * j+2:Nat):Int):=w 2 (by decide)
  have e3:D7 (((a+4 * j:Nat):Int)+3)=((a+4 * j+3:Nat):Int):=w 3 (by decide)
  have wj:D7 ((j:Int)+1)=((j+1:Nat):Int):=by rw [F8 (by omega) (by omega)];push_cast;rfl
  rw [show m+1+n=(m+n)+1 by omega,E1]
  show (bif B5 (j:Int) 64 then (bif B5 (j:Int) 16 then _ else _) else _)=_
  rw [show B5 (j:Int) 64=true by simp [B5];omega,show B5 (j:Int) 16=true by simp [B5];omega]
  simp only [cond_true]
  rw [w0,e0,e1,e2,e3,D2L,D2L,List.length_reverse,C9 (by omega) (by omega),C9 (by omega) (by omega),C9 (by omega) (by omega),C9 (by omega) (by omega),B3 (by omega),wj,B7y hb (by omega) g0 g1 g2 g3]
  have hl2:l.reverse.map nv++[V.i ((((b0 * 256+b1) * 256+b2) * 256+b3:Nat):Int)]=((((b0 * 256+b1) * 256+b2) * 256+b3)::l).reverse.map nv:=by simp;rfl
  rw [hl2,ih (j+1) n _ k (by omega) (by simp [hlen]),gd]
  simp only [M7,Q1]
  rfl
theorem C7r {z v xs:V} {ws:List V} {at_:Int} {kk:V}:∀ (m n:Nat) (l:List Nat) (k:B7u→Option R),l.length+m=64→16≤l.length→(∀ a∈l,a < Q6)→m < n →
  E1 (B1i R) n (.m z v ws kk at_ (l.reverse.map nv) (l.length:Int)) k=k (.o z v ws kk at_ ((A1V m l).reverse.map nv) 64):=by
 intro m
 induction m with
 | zero =>
  intro n l k hj h16 hlt hn
  obtain ⟨n,rfl⟩:∃ n',n=n'+1:=⟨n - 1,by omega⟩
  have:l.length=64:=by omega
  rw [this]
  rfl
 | succ m ih =>
  intro n l k hj h16 hlt hn
  obtain ⟨n,rfl⟩:∃ n',n=n'+1:=⟨n - 1,by omega⟩
  have wi:∀ d:Nat,d≤16→D7 ((l.length:Int) - (d:Int))=((l.length - d:Nat):Int):=fun d hd=>by rw [F8 (by omega) (by omega)];omega
  have wj:D7 ((l.length:Int)+1)=((l.length+1:Nat):Int):=by rw [F8 (by omega) (by omega)];push_cast;rfl
  have e15:D7 ((l.length:Int) - 15)=((l.length - 1 - 14:Nat):Int):=(wi 15 (by omega)).trans (by omega)
  have e2:D7 ((l.length:Int) - 2)=((l.length - 1 - 1:Nat):Int):=(wi 2 (by omega)).trans (by omega)
  have e16:D7 ((l.length:Int) - 16)=((l.length - 1 - 15:Nat):Int):=(wi 16 (by omega)).trans (by omega)
  have e7:D7 ((l.length:Int) - 7)=((l.length - 1 - 6:Nat):Int):=(wi 7 (by omega)).trans (by omega)
  rw [E1]
  show (bif B5 (l.length:Int) 64 then (bif B5 (l.length:Int) 16 then _ else _) else _)=_
  rw [show B5 (l.length:Int) 64=true by simp [B5];omega,show B5 (l.length:Int) 16=false by simp [B5];omega]
  simp only [cond_true,cond_false]
  rw [D2L,List.length_reverse,e15,e2,e16,e7,C9 (by omega) (by omega),C9 (by omega) (by omega),C9 (by omega) (by omega),C9 (by omega) (by omega),C9 (by omega) (by omega),C9 (by omega) (by omega),C9 (by omega) (by omega),C9 (by omega) (by omega),B3 (by omega),wj]
  rw [A45 (by omega),A45 (by omega),A45 (by omega),A45 (by omega),C2p (A05 hlt _),C2q (A05 hlt _)]
  have g1:l.getD 15 0 < 4294967296:=A05 hlt 15
  have g2:l.getD 6 0 < 4294967296:=A05 hlt 6
  have g3:sS0 (l.getD 14 0) < 4294967296:=C8l (A05 hlt 14)
  have g4:sS1 (l.getD 1 0) < 4294967296:=C8m (A05 hlt 1)
  have hval:(WU (WU (WU (((l.getD 15 0:Nat):Int)+((sS0 (l.getD 14 0):Nat):Int))+((l.getD 6 0:Nat):Int))+((sS1 (l.getD 1 0):Nat):Int))).tmod 4294967296=((A3E l:Nat):Int):=by
   rw [← Int.natCast_add,D5 (by omega),← Int.natCast_add,D5 (by omega),← Int.natCast_add,D5 (by omega),B7x]
   rfl
  rw [hval]
  have hl2:l.reverse.map nv++[V.i ((A3E l:Nat):Int)]=(A3E l::l).reverse.map nv:=by simp;rfl
  rw [hl2]
  have:=ih n (A3E l::l) k (by simp;omega) (by simp;omega) (fun a ha=>by
   rcases List.mem_cons.1 ha with rfl | ha
   ·exact Nat.mod_lt _ (by decide)
   ·exact hlt a ha) (by omega)
  rw [D2P] at this
  rw [this]
  simp only [A1V,Q1]
theorem D0C {z v:V} {xs:List V} {at_:Int} {K W:List Nat} (hK:K.length=64) (hW:W.length=64) (kK:∀ a∈K,a < Q6) (kW:∀ a∈W,a < Q6):∀ (m j n:Nat) (x:S8) (k:C2m→Option R),j+m=64→OkS x→m < n →
  E1 (B7v R) n (.m z v xs (.l (K.map nv)) at_ (W.map nv) (R2 x) (j:Int)) k=k (.o z v xs (.l (K.map nv)) at_ (W.map nv) (R2 (A71 (K.drop j) (W.drop j) x)) 64):=by
 intro m
 induction m with
 | zero =>
  intro j n x k hj hx hn
  obtain ⟨n,rfl⟩:∃ n',n=n'+1:=⟨n - 1,by omega⟩
  have:j=64:=by omega
  subst this
  rw [List.drop_of_length_le (by omega),List.drop_of_length_le (by omega)]
  rfl
 | succ m ih =>
  intro j n x k hj hx hn
  obtain ⟨n,rfl⟩:∃ n',n=n'+1:=⟨n - 1,by omega⟩
  have wj:D7 ((j:Int)+1)=((j+1:Nat):Int):=by rw [F8 (by omega) (by omega)];push_cast;rfl
  rw [E1]
  show (bif B5 (j:Int) 64 then _ else _)=_
  rw [show B5 (j:Int) 64=true by simp [B5];omega,cond_true]
  simp only
  rw [D2L,C9 (by omega) (by omega),C9 (by omega) (by omega),wj,A6v (by omega),A50 (D2U (show j < W.length by omega)),C2s hx (kK _ (List.getElem_mem ..)) (kW _ (List.getElem_mem ..)),ih (j+1) n _ k (by omega) (A8X hx _ _) (by omega)]
  rw [List.drop_eq_getElem_cons (show j < K.length by omega),List.drop_eq_getElem_cons (show j < W.length by omega)]
  rfl
theorem B7z:∀ (ks ws:List Nat) {s:S8},OkS s→OkS (A71 ks ws s):=by
 intro ks
 induction ks with
 | nil=>intro ws s h;cases ws<;>exact h
 | cons k ks ih =>
  intro ws s h
  cases ws with
  | nil=>exact h
  | cons w ws=>exact ih ws (A8X h k w)
theorem A9C:∀ (m:Nat) (l acc:List Nat),M7 m (l.take (4 * m)) acc=M7 m l acc:=by
 intro m
 induction m with
 | zero=>intro l acc;rfl
 | succ m ih =>
  intro l acc
  match l with
  | b0::b1::b2::b3::r =>
   rw [show 4 * (m+1)=4 * m+1+1+1+1 by omega]
   simp only [List.take_succ_cons,M7,Q1]
   exact ih r _
  | []=>rfl
  | [_]=>rw [List.take_of_length_le (by simp;omega)]
  | [_,_]=>rw [List.take_of_length_le (by simp;omega)]
  | [_,_,_]=>rw [List.take_of_length_le (by simp;omega)]
theorem A7P (s:S8) (l:List Nat):A2o s (l.take 64)=A2o s l:=by
 unfold A2o
 rw [A9C 16 l []]
theorem B3e (s:S8) (l:List Nat):OkS (A2o s l):=C3M
theorem D0D {z:V} {bs:List Nat} (hb:∀ b∈bs,b < 256) (hB:bs.length < 4611686018427387000):∀ (m q n:Nat) (s:S8) (k:C7l→Option R),bs.length=64 * (q+m)→OkS s→m < n →
  E1 (C2n R) n (.m z (R2 s) (bs.map nv) A2q ((64 * q:Nat):Int)) k=k (.o z (R2 (K0 m s (bs.drop (64 * q)))) (bs.map nv) A2q ((64 * (q+m):Nat):Int)):=by
 intro m
 induction m with
 | zero =>
  intro q n s k hl hs hn
  obtain ⟨n,rfl⟩:∃ n',n=n'+1:=⟨n - 1,by omega⟩
  rw [E1]
  show ln (bs.map nv).length (bif B5 ((64 * q:Nat):Int) (bs.map nv).length then _ else _)=_
  rw [D2L,B7 (by omega),show B5 ((64 * q:Nat):Int) (bs.length:Int)=false by simp [B5];omega]
  rfl
 | succ m ih =>
  intro q n s k hl hs hn
  obtain ⟨n,rfl⟩:∃ n',n=n'+1:=⟨n - 1,by omega⟩
  have HID:=HID
  have h16:A2 FU=16+(A2 FU - 16):=by omega
  obtain ⟨w1,w2⟩:=A2p 16 (bs.drop (64 * q)) [] (fun b h=>hb b (List.mem_of_mem_drop h)) (fun a h=>by cases h) (by simp;omega)
  obtain ⟨c1,c2⟩:=A73 48 (M7 16 (bs.drop (64 * q)) []) w1
  have h1:∀ k':B7u→Option R,E1 (B1i R) (A2 FU) (.m z (R2 s) (bs.map nv) A2q ((64 * q:Nat):Int) [] 0) k'=k' (.o z (R2 s) (bs.map nv) A2q ((64 * q:Nat):Int) ((A1V 48 (M7 16 (bs.drop (64 * q)) [])).reverse.map nv) 64):=fun k'=>by
   have e:=C7q (R:=R) (z:=z) (v:=R2 s) (kk:=A2q) hb (a:=64 * q) (by omega) hB 16 0 (A2 FU - 16) [] k' rfl rfl
   rw [← h16] at e
   refine e.trans ?_
   have e2:=C7r (R:=R) (z:=z) (v:=R2 s) (xs:=z) (ws:=bs.map nv) (at_:=((64 * q:Nat):Int)) (kk:=A2q) 48 (A2 FU - 16) (M7 16 (bs.drop (64 * q)) []) k' (by rw [w2];rfl) (by rw [w2];simp) w1 (by omega)
   rw [w2] at e2
   exact e2
  have h2:∀ k':C2m→Option R,E1 (B7v R) (A2 FU) (.m z (R2 s) (bs.map nv) A2q ((64 * q:Nat):Int) ((A1V 48 (M7 16 (bs.drop (64 * q)) [])).reverse.map nv) (R2 s) 0) k'=k' (.o z (R2 s) (bs.map nv) A2q ((64 * q:Nat):Int) ((A1V 48 (M7 16 (bs.drop (64 * q)) [])).reverse.map nv) (R2 (A71 A72 (A1V 48 (M7 16 (bs.drop (64 * q)) [])).reverse s)) 64):=fun k' =>
   D0C (K:=A72) (W:=(A1V 48 (M7 16 (bs.drop (64 * q)) [])).reverse) rfl (by rw [List.length_reverse,c2,w2];rfl) B0k (fun a h=>c1 a (List.mem_reverse.1 h)) 64 0 (A2 FU) s k' rfl hs (by omega)
  rw [E1]
  show ln (bs.map nv).length (bif B5 ((64 * q:Nat):Int) (bs.map nv).length then _ else _)=_
  rw [D2L,B7 (by omega),show B5 ((64 * q:Nat):Int) (bs.length:Int)=true by simp [B5];omega,cond_true,h1]
  simp only
  rw [h2]
  simp only
  rw [C7p hs (B7z _ _ hs)]
  have wj:D7 (((64 * q:Nat):Int)+64)=((64 * (q+1):Nat):Int):=by rw [F8 (by omega) (by omega)];push_cast;omega
  rw [wj]
  have:=ih (q+1) n (A2o s (bs.drop (64 * q))) k (by omega) (B3e _ _) (by omega)
  unfold A2o at this
  refine this.trans ?_
  rw [show 64 * (q+(m+1))=64 * (q+1+m) by omega]
  have hm:K0 (m+1) s (bs.drop (64 * q))=K0 m (A2o s (bs.drop (64 * q))) (bs.drop (64 * (q+1))):=by
   cases hd:bs.drop (64 * q) with
   | nil=>have:=congrArg List.length hd;simp at this;omega
   | cons b r =>
    simp only [K0]
    rw [← hd,A7P,List.drop_drop]
    congr 2
  rw [hm]
  rfl
theorem A4J:∀ (m d:Nat) (s:S8) (l:List Nat),l.length≤64 * m→K0 (m+d) s l=K0 m s l:=by
 intro m
 induction m with
 | zero =>
  intro d s l h
  have:l=[]:=List.length_eq_zero_iff.1 (by omega)
  subst this
  cases d<;>rfl
 | succ m ih =>
  intro d s l h
  rw [show m+1+d=(m+d)+1 by omega]
  cases l with
  | nil=>rfl
  | cons b r =>
   simp only [K0]
   exact ih d _ _ (by simp at h ⊢;omega)
variable {T:TT} {R:Type} {P:Program}
def z32:V:=.l (List.replicate 32 (.i 0))
def A13 (j:Nat):Nat→Int→V→V
 | 0,_,h=>h
 | i+1,n,h=>A13 j i (WU (n.tdiv 256)) (h.put (4 * j+i) (.i (IntKind.wrap .u8 (n.tmod 256))))
def A9D (v:V):Nat→Nat→V→V
 | 0,_,h=>h
 | m+1,j,h=>A9D v m (j+1) (A13 j 4 (elV v j) h)
def s0V:V:=R2 s0N
def Gsm (h:Nat):FC:=fun R xs k=>match xs with
 | [b]=>bif Nat.ble b.els.length 1000000000 then E1 (C2n R) (A2 FU) (.m z32 s0V (b.els++(M0 b.els.length).map nv) A2q 0) (fun | .o z v xs kk at_=>k [.d h (A9D v 8 0 z32)]) else none
 | _=>none
def A8z (b:V):V:=.l ((A3d (H0 b)).map nv)
def Fsm (h:Nat):FC:=fun R xs k=>match xs with
 | [b]=>bif Nat.ble b.els.length 1000000000 then k [.d h (A8z b)] else none
 | _=>none
theorem C2t (h:Nat):FC.nat (Fsm h):=by
 intro R xs k
 unfold Fsm
 split
 ·rename_i b;cases Nat.ble b.els.length 1000000000<;>rfl
 ·rfl
theorem A8A {n:Nat} (h:n < 256):IntKind.wrap .u8 (n:Int)=(n:Int):=by
 unfold IntKind.wrap
 simp [IntKind.bits,IntKind.signed]
 omega
theorem C2u {s:S8} (h:OkS s):A9D (R2 s) 8 0 z32=.l ((C8i s).map nv):=by
 have one:∀ (j a:Nat) (h:V),a < Q6→A13 j 4 (a:Int) h=(((h.put (4 * j+3) (nv (a % 256))).put (4 * j+2) (nv (a / 256 % 256))).put (4 * j+1) (nv (a / 65536 % 256))).put (4 * j) (nv (a / 16777216 % 256)):=by
  intro j a h ha
  have ha:a < 4294967296:=ha
  have td:∀ n:Nat,(n:Int).tdiv 256=((n / 256:Nat):Int):=fun _=>rfl
  have tm:∀ n:Nat,(n:Int).tmod 256=((n % 256:Nat):Int):=fun _=>rfl
  simp only [A13,td,tm]
  rw [D5 (n:=a / 256) (by omega),td,tm,D5 (n:=a / 256 / 256) (by omega),td,tm,D5 (n:=a / 256 / 256 / 256) (by omega),tm,A8A (by omega),A8A (by omega),A8A (by omega),A8A (by omega)]
  rw [show a / 256 / 256 / 256 % 256=a / 16777216 % 256 by omega,show a / 256 / 256 % 256=a / 65536 % 256 by omega]
  rfl
 have e:A9D (R2 s) 8 0 z32=A13 7 4 (s.h:Int) (A13 6 4 (s.g:Int) (A13 5 4 (s.f:Int) (A13 4 4 (s.e:Int) (A13 3 4 (s.d:Int) (A13 2 4 (s.c:Int) (A13 1 4 (s.b:Int) (A13 0 4 (s.a:Int) z32))))))):=by kernel_rfl
 rw [e,one _ _ _ h.a,one _ _ _ h.b,one _ _ _ h.c,one _ _ _ h.d,one _ _ _ h.e,one _ _ _ h.f,one _ _ _ h.g,one _ _ _ h.h]
 refine (?_:@Eq V _ _)
 kernel_rfl
theorem B7A:OkS s0N:=⟨by decide,by decide,by decide,by decide,by decide,by decide,by decide,by decide⟩
theorem A7Q:∀ (n:Nat) (s:S8) (l:List Nat),OkS s→OkS (K0 n s l):=by
 intro n
 induction n with
 | zero=>intro s l h;exact h
 | succ n ih =>
  intro s l h
  cases l with
  | nil=>exact h
  | cons b r=>exact ih _ _ (B3e _ _)
theorem C2v {n:Nat}:∀ a∈M0 n,a < 256:=by
 intro a ha
 simp only [M0,List.mem_cons,D2S,List.not_mem_nil,or_false] at ha
 rcases ha with rfl | h | h
 ·decide
 ·rw [List.eq_of_mem_replicate h];decide
 ·rcases h with rfl | rfl | rfl | rfl | rfl | rfl | rfl | rfl<;>exact Nat.mod_lt _ (by decide)
theorem A1o (n:Nat):(M0 n).length=9+(119 - n % 64) % 64:=by
 simp only [M0,D2P,D2J,List.length_replicate,List.length_nil]
 omega
theorem C7s (h:Nat) {b:V} {bs:List Nat} (hx:b.els=bs.map nv) (hb:∀ b∈bs,b < 256) {rs:List Rs} (hF:Fsm h (List Rs) [b] some=some rs):Gsm h (List Rs) [b] some=some rs:=by
 simp only [Fsm] at hF
 cases hl:Nat.ble b.els.length 1000000000 with
 | false=>rw [hl] at hF;cases hF
 | true =>
  rw [hl] at hF
  simp only [Gsm,hl,cond_true]
  have hl:=D2N hl
  have hlen:b.els.length=bs.length:=by rw [hx,D2L]
  have HID:4611686018427387904=A2 FU:=(A3c _).symm
  have hx2:b.els++(M0 b.els.length).map nv=(bs++M0 bs.length).map nv:=by rw [hlen,hx,List.map_append]
  have hpl:(bs++M0 bs.length).length=64 * (0+(bs.length+9+(119 - bs.length % 64) % 64) / 64):=by
   rw [D2J,A1o];omega
  have law:=D0D (R:=List Rs) (z:=z32) (bs:=bs++M0 bs.length) (fun a ha=>by
   rcases D2S.1 ha with h | h
   ·exact hb a h
   ·exact C2v a h) (by omega) ((bs.length+9+(119 - bs.length % 64) % 64) / 64) 0 (A2 FU) s0N (fun | .o z v xs kk at_=>some [Rs.d h (A9D v 8 0 z32)]) hpl B7A (by omega)
  rw [hx2]
  refine law.trans ?_
  refine Eq.trans ?_ hF
  simp only [cond_true]
  rw [C2u (A7Q _ _ _ B7A)]
  unfold A8z A3d
  rw [J1 hx,List.drop_zero]
  congr 6
  have:=A4J ((bs.length+9+(119 - bs.length % 64) % 64) / 64) (bs.length / 64+2 - (bs.length+9+(119 - bs.length % 64) % 64) / 64) s0N (bs++M0 bs.length) (by omega)
  rw [← this]
  congr 1
  omega
variable {T:TT} {P:Program} {c:L0} {e eb:A9} {of of':Nat→Option Ob}
def A1K {α:Type}:List V→(List V→α)→α
 | [],k=>k []
 | a::r,k=>match a with
  | .i n=>C3b n fun n=>A1K r fun r=>k (.i n::r)
  | a=>A1K r fun r=>k (a::r)
theorem A51 {α:Type}:∀ (l:List V) (k:List V→α),A1K l k=k l:=by
 intro l
 induction l with
 | nil=>intro k;rfl
 | cons a r ih =>
  intro k
  cases a with
  | i n=>simp only [A1K,A8O,ih]
  | _=>simp only [A1K,ih]
def D0E {α:Type} (v:V) (k:V→α):α :=
 match v with
 | .l xs=>A1K xs fun xs=>k (.l xs)
 | .i n=>C3b n fun n=>k (.i n)
 | v=>k v
theorem C2w {α:Type} (v:V) (k:V→α):D0E v k=k v:=by
 cases v with
 | l xs=>exact A51 xs _
 | i n=>exact A8O n fun n=>k (.i n)
 | _=>rfl
def A7R {α:Type}:List Rs→(List Rs→α)→α
 | [],k=>k []
 | r::l,k=>match r with
  | .d t y=>D0E y fun y=>A7R l fun l=>k (.d t y::l)
  | .r el xs nl=>A1K xs fun xs=>A7R l fun l=>k (.r el xs nl::l)
theorem B7B {α:Type}:∀ (l:List Rs) (k:List Rs→α),A7R l k=k l:=by
 intro l
 induction l with
 | nil=>intro k;rfl
 | cons r l ih =>
  intro k
  cases r with
  | d t y=>simp only [A7R,C2w,ih]
  | r el xs nl=>simp only [A7R,A51,ih]
def B7C (F:FC):FC:=fun R xs k=>F R xs fun rs=>A7R rs k
theorem C2x (F:FC):B7C F=F:=by
 funext R xs k
 unfold B7C
 congr 1
 funext rs
 exact B7B rs k
theorem D2.see {f:Nat} {sh:Bool} {ts:List Nat} {F:FC} (h:N4 P T f (F6 T sh ts F).dir):N4 P T f (F6 T sh ts (B7C F)).dir:=by
 rw [C2x];exact h
theorem D2.at {tab:List (Nat×E5)} (h:D2 P T tab) {f:Nat} {s:E5} (hs:A23 tab f=some s):N4 P T f s.dir:=(h f s (A1z hs)).2
section
variable {P:Program} {H:Type} {enc:TypeId×Value→H} {w w':World} {b0:Nat} {held:Bool}
theorem A1p {α β:Type} {g g':α→Option β}:∀ (l:List α) (xs:List β),l.mapM g=some xs→(∀ a∈l,∀ x,g a=some x→g' a=some x)→l.mapM g'=some xs:=by
 intro l
 induction l with
 | nil=>intro xs h _;simpa using h
 | cons a r ih =>
  intro xs h hg
  simp only [List.mapM_cons] at h ⊢
  cases ha:g a with
  | none=>simp [ha] at h
  | some x =>
   cases hr:r.mapM g with
   | none=>simp [ha,hr] at h
   | some ys =>
    simp [ha,hr] at h
    rw [hg a (by simp) x ha,ih ys hr (fun i hi=>hg i (by simp [hi]))]
    simp [h]
theorem A1L (a:Addr) (i:Nat):(a.add i).block=a.block:=by
 unfold Addr.add;split<;>simp_all
theorem A52 {a:Addr} {v:Value} (h:w.cell? a=some v):a.block < w.heap.size:=by
 unfold World.cell? at h
 cases hb:w.heap[a.block]? with
 | none=>simp [hb] at h
 | some o=>exact (Array.getElem?_eq_some_iff.1 hb).1
theorem B4B {a:Addr} (hb:w'.heap[a.block]? = w.heap[a.block]?):w'.cell? a=w.cell? a:=by
 unfold World.cell?;rw [hb]
theorem B4C (hw:∀ i,i < w.heap.size→w'.heap[i]? = w.heap[i]?) {a:Addr} {n:Nat} {l:List Value} (hn:0 < n) (h:w.cells? b0 a n=some l):a.block < w.heap.size∧w'.cells? b0 a n=some l:=by
 unfold World.cells? at h ⊢
 split at h<;>try (cases h;done)
 rename_i hb
 rw [if_pos hb]
 have hblk:a.block < w.heap.size:=by
  obtain ⟨m,rfl⟩:∃ m,n=m+1:=⟨n - 1,by omega⟩
  rw [List.range_succ_eq_map,List.mapM_cons] at h
  cases h0:w.cell? (a.add 0) with
  | none=>simp [h0] at h
  | some v=>have:=A52 h0;rwa [A1L] at this
 refine ⟨hblk,A1p _ _ h (fun i _ x hx=>?_)⟩
 have e:=B4B (w:=w) (w':=w') (a:=a.add i) (by rw [A1L];exact hw _ hblk)
 rw [e];exact hx
def A46 (P:Program) (R:List TypeId):Bool:=R.all fun t=>match P.underlying t with
 | some (.slice e)=>decide (0 < P.cellsOf e)&&R.contains e
 | some (.pointer e)=>decide (0 < P.cellsOf e)&&R.contains e
 | some (.struct fs)=>fs.toList.all fun f=>R.contains f.type
 | some (.array _ e)=>R.contains e
 | some (.map _ e)=>R.contains e
 | _=>true
theorem B7D {R:List TypeId} (hR:A46 P R=true) (hw:∀ i,i < w.heap.size→w'.heap[i]? = w.heap[i]?) :
  ∀ (fuel:Nat) (t:TypeId) (cs:List Value) (x:DataW H×List MemPlace),t∈R→DataW.trod enc P w b0 (fun _=>true) true fuel t cs=some x→DataW.trod enc P w' b0 (fun b=>decide (b < w.heap.size)) true fuel t cs=some x:=by
 intro fuel
 induction fuel with
 | zero=>intro t cs x _ h;simp [DataW.trod] at h
 | succ fuel ih =>
  intro t cs x ht h
  have hRt:=(List.all_eq_true.1 hR) t ht
  have bindcells:∀ (a:Addr) (n:Nat) (e:TypeId) (y:DataW H×List MemPlace),e∈R→0 < n→(w.cells? b0 a n).bind (DataW.trod enc P w b0 (fun _=>true) true fuel e)=some y →
    a.block < w.heap.size∧(w'.cells? b0 a n).bind (DataW.trod enc P w' b0 (fun b=>decide (b < w.heap.size)) true fuel e)=some y:=fun a n e y he hn h=>by
   cases hc:w.cells? b0 a n with
   | none=>simp [hc] at h
   | some l =>
    rw [hc] at h
    obtain ⟨h1,h2⟩:=B4C hw hn hc
    exact ⟨h1,by rw [h2];exact ih _ _ _ he h⟩
  simp only [DataW.trod] at h ⊢
  split at h
  case h_6 a e hu =>
   rw [hu] at hRt
   simp only [D2I,D2T,List.contains_iff_mem] at hRt
   obtain ⟨y,hy,rfl⟩:=Option.map_eq_some_iff.1 h
   rw [(bindcells _ _ _ _ hRt.2 hRt.1 hy).2];rfl
  case h_8 e a len cap hu =>
   rw [hu] at hRt
   simp only [D2I,D2T,List.contains_iff_mem] at hRt
   split at h<;>try (cases h;done)
   rename_i hc
   rw [if_pos hc]
   cases h1:(List.range len).mapM (fun i=>(w.cells? b0 (a.add (i * P.cellsOf e)) (P.cellsOf e)).bind (DataW.trod enc P w b0 (fun _=>true) true fuel e)) with
   | none=>rw [h1] at h;cases h
   | some elems =>
    rw [h1] at h
    have g1:=A1p _ _ h1 (fun i _ y hy=>(bindcells _ _ _ _ hRt.2 hRt.1 hy).2)
    rw [g1]
    simp only [Option.bind_some,if_true] at h ⊢
    obtain ⟨rest,hr,rfl⟩:=Option.map_eq_some_iff.1 h
    by_cases hb:a.block < w.heap.size
    ·have g2:=A1p _ _ hr (fun i _ y hy=>(bindcells _ _ _ _ hRt.2 hRt.1 hy).2)
     rw [if_pos (by simpa using hb),g2];rfl
    ·have hz:cap - len=0:=by
      rcases Nat.eq_zero_or_pos (cap - len) with h0 | h0
      ·exact h0
      ·exfalso
       obtain ⟨m,hm⟩:∃ m,cap - len=m+1:=⟨cap - len - 1,by omega⟩
       rw [hm,List.range_succ_eq_map,List.mapM_cons] at hr
       cases h0:(w.cells? b0 (a.add ((len+0) * P.cellsOf e)) (P.cellsOf e)).bind (DataW.trod enc P w b0 (fun _=>true) true fuel e) with
       | none=>rw [h0] at hr;simp at hr
       | some y =>
        have:=(bindcells _ _ _ _ hRt.2 hRt.1 h0).1
        rw [A1L] at this
        exact hb this
     rw [hz] at hr
     simp at hr;subst hr
     rw [if_neg (by simpa using hb)];rfl
  case h_9 fs cs' hu =>
   rw [hu] at hRt
   simp only [List.all_eq_true,List.contains_iff_mem] at hRt
   split at h<;>try (cases h;done)
   rename_i hc
   rw [if_pos hc]
   obtain ⟨y,hy,rfl⟩:=Option.map_eq_some_iff.1 h
   rw [A1p _ _ hy (fun f hf z hz=>ih _ _ _ (hRt f hf) hz)];rfl
  case h_10 n e cs' hu =>
   rw [hu] at hRt
   simp only [List.contains_iff_mem] at hRt
   split at h<;>try (cases h;done)
   rename_i hc
   rw [if_pos hc]
   obtain ⟨y,hy,rfl⟩:=Option.map_eq_some_iff.1 h
   rw [A1p _ _ hy (fun i _ z hz=>ih _ _ _ hRt hz)];rfl
  case h_14 k e b hu =>
   rw [hu] at hRt
   simp only [List.contains_iff_mem] at hRt
   cases ho:w.heap[b]? with
   | none=>rw [ho] at h;cases h
   | some o =>
    have hb:b < w.heap.size:=(Array.getElem?_eq_some_iff.1 ho).1
    rw [ho] at h
    rw [hw b hb,ho]
    cases o with
    | map es clock =>
     simp only at h ⊢
     split at h<;>try (cases h;done)
     rename_i hc
     rw [if_pos hc]
     obtain ⟨xs,h1,h2⟩:=Option.bind_eq_some_iff.1 h
     rw [A1p _ _ h1 (fun a _ y hy=>by
      obtain ⟨key,k1,k2⟩:=Option.bind_eq_some_iff.1 hy
      rw [k1]
      simp only [Option.bind_some]
      split at k2<;>try (cases k2;done)
      rename_i hf
      rw [if_pos hf]
      obtain ⟨z,hz,rfl⟩:=Option.map_eq_some_iff.1 k2
      rw [ih _ _ _ hRt hz];rfl)]
     exact h2
    | _=>cases h
  all_goals exact h
theorem A9E {R:List TypeId} (hR:A46 P R=true) (hw:∀ i,i < w.heap.size→w'.heap[i]? = w.heap[i]?) :
  ∀ (ts:List TypeId) (vs:List Value) (ds:List (DataW H)) (ps:List MemPlace),(∀ t∈ts,t∈R)→DataW.TrodAll enc P w b0 (fun _=>true) true ts vs ds ps→DataW.TrodAll enc P w' b0 (fun b=>decide (b < w.heap.size)) true ts vs ds ps:=by
 intro ts
 induction ts with
 | nil =>
  intro vs ds ps _ h
  cases vs<;>cases ds<;>first | exact h | (exact False.elim h)
 | cons t r ih =>
  intro vs ds ps hts h
  cases vs with
  | nil=>exact False.elim h
  | cons v vs =>
   cases ds with
   | nil=>exact False.elim h
   | cons d ds =>
    obtain ⟨p,q,⟨fuel,h1⟩,h2,h3⟩:=h
    exact ⟨p,q,⟨fuel,B7D hR hw _ _ _ _ (hts _ (by simp)) h1⟩,ih _ _ _ (fun t ht=>hts t (by simp [ht])) h2,h3⟩
theorem B4D {f:Func} {s:ChangeSpec} {args:Array Value} {ds gs:List (DataW H)} {before:List MemPlace} {fresh:Bool} {R:List TypeId} (hR:A46 P R=true) (hpR:f.params.toList.all (fun t=>R.contains t)=true)
  (hW:DataW.Whole enc P f.params.toList s.vars false w args.toList ds gs before) (hs:B0p w w') (hv:s.vars=[]) {t:TypeId} (hr:f.resultTypes=#[t]) (ht:P.underlying t=some .bool)
  (hfn:s.fn H (ds++gs)={ results:=[.lit (.bool true)],args:=ds }):s.post enc P f false fresh false false w args (.bool true) w':=by
 have hW':=hW
 obtain ⟨p,q,hA,hV,hb,hz,hn⟩:=hW
 rw [hv] at hV
 have hgq:gs=[]∧q=[]:=by cases gs<;>first | exact ⟨rfl,hV⟩ | exact False.elim hV
 obtain ⟨rfl,rfl⟩:=hgq
 refine ⟨ds,[],before,[],p,[],hW',?_,?_,?_,hs.kept _,fun h=>by cases h⟩
 ·rw [hfn,hr]
  exact ⟨[],[],⟨1,by simp [DataW.trod,ht,Value.cells]⟩,rfl,rfl⟩
 ·rw [hfn];exact A9E hR hs.2.2.2 _ _ _ _ (fun t ht=>by have:=(List.all_eq_true.1 hpR) t ht;simpa [List.contains_iff_mem] using this) hA
 ·rw [hfn,hv];rfl
end
variable {T:TT} {P:Program}
def B3f:List (Nat×Sym)→Nat→Option Sym
 | [],_=>none
 | (k,s)::r,f=>bif Nat.beq k f then some s else B3f r f
def C2y (P:Program) (T:TT):List (Nat×Sym)→Prop
 | []=>True
 | (k,s)::r=>N4 P T k s∧C2y P T r
theorem B7E:∀ {l:List (Nat×Sym)},C2y P T l→∀ f s,B3f l f=some s→N4 P T f s:=by
 intro l
 induction l with
 | nil=>intro _ f s h;cases h
 | cons p r ih =>
  obtain ⟨k,s0⟩:=p
  intro h f s hs
  simp only [B3f] at hs
  cases hk:Nat.beq k f with
  | true =>
   rw [hk] at hs;simp only [cond_true,D2K] at hs
   have:=D2H hk;subst this;subst hs
   exact h.1
  | false=>rw [hk] at hs;exact ih h.2 f s hs
def C2z (P:Program) (T:TT) (l:List (Nat×Sym)) (fu d f:Nat):Sym:=B9j P T (B3f l) (fun _ _ _=>none) fu d f
theorem C2A (hm:P.follows .mixedOrders=true) (hT:L8 T P) {l:List (Nat×Sym)} (h:C2y P T l) {fu d f:Nat}:N4 P T f (C2z P T l fu d f):=by
 rw [C2z]
 exact B5D hm hT (B7E h) (fun f n0 fn code _ _=>A6 code) d f
variable {T:TT} {P:Program} {c:L0} {e eb:A9} {of of':Nat→Option Ob}
def A9.got (e:A9) (w':World) (id g ty ln:Nat):A9:={ w:=w',ι:=F9 e.ι id (some (g,0)),S:=e.S,bn:=F9 e.bn id 1,U:=fun j=>j=id∨e.U j,ty:=F9 e.ty id ty,ln:=F9 e.ln id ln,G:=e.G }
theorem A5.le_got (h:A5 T c e of) {w':World} (hb:Below e.w.heap.size e.w w') {id:Nat} (hu:¬ e.U id) (g ty ln:Nat):e.le (e.got w' id g ty ln):=by
 have hne:∀ j,e.U j→j≠id:=fun j hj he=>hu (he ▸ hj)
 refine ⟨fun b i hs=>⟨hs,fun x hx=>?_⟩,fun _ hj=>.inr hj,fun j hj _=>⟨upd_ne _ _ (hne j hj),upd_ne _ _ (hne j hj),fun b o hb'=>D8 (hb.block _ (h.lt _ _ _ hj hb'))⟩,fun j hj h0=>?_,fun j hj=>?_,fun j hj=>upd_ne _ _ (hne j hj),hb.size,fun b hlt=>D8 (hb.block _ hlt)⟩
 ·rw [← hx];exact F4 (hb.block _ (h.slt _ _ hs))
 ·show F9 e.bn id 1 j=0
  rw [upd_ne _ _ (hne j hj)];exact h0
 ·show _≤F9 e.bn id 1 j
  rw [upd_ne _ _ (hne j hj)];exact Nat.le_refl _
theorem A5.got (h:A5 T c e of) {w':World} (hb:Below e.w.heap.size e.w w') {id:Nat} (hu:¬ e.U id) {g ty ln:Nat} (hg:e.w.heap.size≤g) (hg2:g < w'.heap.size) {o:Ob} (ho:OK T (e.got w' id g ty ln) id o) :
  A5 T c (e.got w' id g ty ln) (F9 of id (some o)):=by
 have hle:=h.le_got hb hu g ty ln
 have ιne:∀ j,j≠id→(e.got w' id g ty ln).ι j=e.ι j:=fun j hj=>upd_ne _ _ hj
 have ιid:(e.got w' id g ty ln).ι id=some (g,0):=upd_same _ _ _
 have obne:∀ j,j≠id→F9 of id (some o) j=of j:=fun j hj=>upd_ne _ _ hj
 have old:∀ j b q,(of j).isSome→e.ι j=some (b,q)→b < e.w.heap.size:=fun j b q hj hb=>by
  obtain ⟨x,hx⟩:=D2M.1 hj
  exact h.lt _ _ _ (h.ok _ _ hx).use hb
 refine ⟨fun j x hj=>?_,fun j k b q b' q' hj hk hb1 hb' hne=>?_,fun j b q hj hb1=>?_,fun j b q hj hb1=>?_,fun b i hs=>?_,h.s0,h.snew,hb.os.trans h.os,hb.tape.trans h.tape,hb.output.trans h.output,Nat.le_trans h.size hb.size,fun k hk hm=>?_,?_⟩
 ·by_cases he:j=id
  ·subst he;rw [upd_same] at hj;cases hj;exact ho
  ·rw [obne _ he] at hj
   exact (h.ok _ _ hj).keep hle (upd_ne _ _ he) (fun b q hb1=>hb.block _ (old _ _ _ (by rw [hj];rfl) hb1)) (fun _ _ _ _ hs=>hs) (fun a o' b _ hG=>⟨hG,hb.block _ (h.g.lt _ _ hG),fun i hs=>hs⟩)
 ·by_cases h1:j=id
  ·subst h1
   have hk':k≠j:=Ne.symm hne
   rw [obne _ hk'] at hk;rw [ιne _ hk'] at hb'
   have:=old _ _ _ hk hb'
   rw [ιid] at hb1;cases hb1;omega
  ·by_cases h2:k=id
   ·subst h2
    rw [obne _ h1] at hj;rw [ιne _ h1] at hb1
    have:=old _ _ _ hj hb1
    rw [ιid] at hb';cases hb';omega
   ·rw [obne _ h1] at hj;rw [obne _ h2] at hk;rw [ιne _ h1] at hb1;rw [ιne _ h2] at hb'
    exact h.sep _ _ _ _ _ _ hj hk hb1 hb' hne
 ·by_cases h1:j=id
  ·subst h1
   rw [ιid] at hb1;cases hb1;exact .inl (Nat.le_trans h.size hg)
  ·rw [obne _ h1] at hj;rw [ιne _ h1] at hb1
   exact h.own _ _ _ hj hb1
 ·show b < w'.heap.size
  by_cases h1:j=id
  ·subst h1
   rw [ιid] at hb1;cases hb1;exact hg2
  ·rw [ιne _ h1] at hb1
   rcases hj with hj | hj
   ·exact absurd hj h1
   ·exact Nat.lt_of_lt_of_le (h.lt _ _ _ hj hb1) hb.size
 ·exact Nat.lt_of_lt_of_le (h.slt _ _ hs) hb.size
 ·exact (hb.block _ (Nat.lt_of_lt_of_le hk h.size)).trans (h.block k hk hm)
 ·refine h.g.mono (fun _ _ q=>q) rfl (fun _ q=>q) hb.size (fun j b o hj hb1=>?_)
  by_cases h1:j=id
  ·subst h1
   rw [ιid] at hb1;cases hb1;exact .inr hg
  ·rw [obne _ h1] at hj;rw [ιne _ h1] at hb1
   exact .inl ⟨j,o,hj,hb1⟩
theorem A5.below (h:A5 T c e of) {w':World} (hb:Below e.w.heap.size e.w w'):A5 T c { e with w:=w' } of∧e.le { e with w:=w' }:=by
 have hle:e.le { e with w:=w' }:=⟨fun b i hs=>⟨hs,fun x hx=>by rw [← hx];exact F4 (hb.block _ (h.slt _ _ hs))⟩,fun _ hj=>hj,fun j hj _=>⟨rfl,rfl,fun b o hb'=>D8 (hb.block _ (h.lt _ _ _ hj hb'))⟩,fun _ _ h0=>h0,fun _ _=>Nat.le_refl _,fun _ _=>rfl,hb.size,fun b hlt=>D8 (hb.block _ hlt)⟩
 refine ⟨⟨fun j x hj=>(h.ok _ _ hj).keep hle rfl (fun b q hb1=>hb.block _ (h.lt _ _ _ (h.ok _ _ hj).use hb1)) (fun _ _ _ _ hs=>hs) (fun a o' b _ hG=>⟨hG,hb.block _ (h.g.lt _ _ hG),fun i hs=>hs⟩),h.sep,h.own,fun j b q hj hb1=>Nat.lt_of_lt_of_le (h.lt _ _ _ hj hb1) hb.size,fun b i hs=>Nat.lt_of_lt_of_le (h.slt _ _ hs) hb.size,h.s0,h.snew,hb.os.trans h.os,hb.tape.trans h.tape,hb.output.trans h.output,Nat.le_trans h.size hb.size,fun k hk hm=>(hb.block _ (Nat.lt_of_lt_of_le hk h.size)).trans (h.block k hk hm),h.g.mono (fun _ _ q=>q) rfl (fun _ q=>q) hb.size (fun j b o hj hb1=>.inl ⟨j,o,hj,hb1⟩)⟩,hle⟩
theorem B7F (h:A5 T c e of) {el:Nat} {w':World} {v:Value} {xs:List V} {ys:List Value} {nx:Nat} (hb:Below e.w.heap.size e.w w') (hu:¬ e.U nx) (hsz:B9 T el=1) (hrow:w'.ownsRow e.w.heap.size el 1 v xs.length ys) (hv:∀ e',RV T e' (List.replicate xs.length el) xs ys) (hnl:v=.slice none 0 0↔xs=[]) {ro:List Nat} :
  Y3 T c e of nx ⟨.o nx 1,[(nx,.row el 1 xs xs.isEmpty false)],ro,nx+1⟩ v w':=by
 obtain ⟨hl,hc⟩:=hrow
 rcases hc with ⟨rfl,hn⟩ | ⟨g,cap,cur,rfl,hg,hgb,h1,h2,h3,h4⟩
 ·have hx:=hnl.1 rfl
  subst hx
  obtain ⟨q1,q2⟩:=h.below hb
  have hu':¬ ({ e with w:=w' }:A9).U nx:=hu
  have q3:=q1.nil (el:=el) hu' (nl:=true) rfl (by omega)
  refine ⟨A9.nil { e with w:=w' } nx el,rfl,q3,q2.trans (q1.le_nil hu'),fun j hj=>hj.elim (fun q=>.inr (by subst q;exact ⟨Nat.le_refl _,Nat.lt_succ_self _⟩)) .inl,?_⟩
  exact A2D (.inl rfl) (upd_same _ _ _) (by decide) (upd_same _ _ _) (upd_same _ _ _)
 ·have hne:xs≠[]:=fun q=>by have:=hnl.2 q;cases this
  have he:xs.isEmpty=false:=by cases xs with | nil=>exact absurd rfl hne | cons a r=>rfl
  rw [he]
  have hglt:g < w'.heap.size:=(Array.getElem?_eq_some_iff.1 hgb).1
  have hspl:cur.toList=[]++ys++cur.toList.drop (xs.length * 1):=by rw [List.nil_append,← h4,List.take_append_drop]
  have hok:OK T (e.got w' nx g el xs.length) nx (.row el 1 xs false false) :=
   ⟨.inl rfl,by decide,upd_same _ _ _,upd_same _ _ _,upd_same _ _ _,by omega,.inr ⟨rfl,g,0,cur,el,(0,0),[],ys,_,upd_same _ _ _,hgb,A1E hgb,hspl,rfl,hv _,fun i _ hs=>by have:=h.slt _ _ hs;omega,fun _ i _ hs=>by have:=h.slt _ _ hs;omega⟩⟩
  refine ⟨e.got w' nx g el xs.length,rfl,h.got hb hu hg hglt hok,h.le_got hb hu _ _ _,fun j hj=>hj.elim (fun q=>.inr (by subst q;exact ⟨Nat.le_refl _,Nat.lt_succ_self _⟩)) .inl,?_⟩
  have:=A0P (T:=T) (e:=e.got w' nx g el xs.length) (id:=nx) (ver:=1) (b:=g) (o:=0) (cap:=cap) (k:=0) (.inl rfl) (upd_same _ _ _) (by decide) (upd_same _ _ _) (by show F9 e.ln nx xs.length nx≤cap;rw [upd_same];exact h1)
   (by show 0+cap * B9 T (F9 e.ty nx el nx)=U1 w' g;rw [upd_same,hsz];simp [U1,hgb,h3]) (fun _=>rfl)
  have hln:(e.got w' nx g el xs.length).ln nx=xs.length:=upd_same _ _ _
  rw [hln] at this
  exact this
def tx (l:List UInt8):List V:=l.map fun b=>V.i (b.toNat:Int)
def V6:List V→List V→Bool
 | [],_=>true
 | _::_,[]=>false
 | a::x,b::y=>bif B5 a.int b.int then true else bif B5 b.int a.int then false else V6 x y
theorem C2B:∀ (a b:List UInt8),V6 (tx a) (tx b)=leB a b:=by
 intro a
 induction a with
 | nil=>intro b;cases b<;>simp [tx,V6,leB]
 | cons x a ih =>
  intro b
  cases b with
  | nil=>simp [tx,V6,leB]
  | cons y b =>
   have e1:B5 (V.i (x.toNat:Int)).int (V.i (y.toNat:Int)).int=decide (x < y):=by rw [Bool.eq_iff_iff,S6];simp [V.int,UInt8.lt_iff_toNat_lt]
   have e2:B5 (V.i (y.toNat:Int)).int (V.i (x.toNat:Int)).int=decide (y < x):=by rw [Bool.eq_iff_iff,S6];simp [V.int,UInt8.lt_iff_toNat_lt]
   have e3:V6 (tx (x::a)) (tx (y::b))=bif B5 (V.i (x.toNat:Int)).int (V.i (y.toNat:Int)).int then true else bif B5 (V.i (y.toNat:Int)).int (V.i (x.toNat:Int)).int then false else V6 (tx a) (tx b):=rfl
   rw [e3,e1,e2,ih b]
   simp only [leB,List.cons_le_cons_iff]
   by_cases h1:x < y
   ·simp [h1]
   ·by_cases h2:y < x
    ·have hne:x≠y:=fun q=>h1 (by rw [q] at h2;exact absurd h2 (UInt8.lt_irrefl y))
     simp [h1,h2,hne]
    ·have:x=y:=UInt8.le_antisymm (UInt8.not_lt.1 h2) (UInt8.not_lt.1 h1)
     subst this
     simp [h1]
def A3o (a:V):List V→List V
 | []=>[a]
 | b::r=>bif V6 a.els b.els then a::b::r else b::A3o a r
def Y9:List V→List V
 | []=>[]
 | a::r=>A3o a (Y9 r)
def A8B (a:List UInt8):List (List UInt8)→List (List UInt8)
 | []=>[a]
 | b::r=>bif leB a b then a::b::r else b::A8B a r
def A3p:List (List UInt8)→List (List UInt8)
 | []=>[]
 | a::r=>A8B a (A3p r)
def sV (l:List UInt8):V:=.s (tx l)
theorem C2C (a:List UInt8):∀ l:List (List UInt8),A3o (sV a) (l.map sV)=(A8B a l).map sV:=by
 intro l
 induction l with
 | nil=>rfl
 | cons b r ih =>
  have:V6 (sV a).els (sV b).els=leB a b:=C2B a b
  simp only [List.map_cons,A3o,A8B,this,ih]
  cases leB a b<;>rfl
theorem B7G:∀ l:List (List UInt8),Y9 (l.map sV)=(A3p l).map sV:=by
 intro l
 induction l with
 | nil=>rfl
 | cons a r ih=>simp only [List.map_cons,Y9,A3p,ih,C2C]
theorem A7S (a:List UInt8):∀ l,(A8B a l).Perm (a::l):=by
 intro l
 induction l with
 | nil=>exact .refl _
 | cons b r ih =>
  simp only [A8B]
  cases leB a b
  ·exact (ih.cons b).trans (List.Perm.swap a b r)
  ·exact .refl _
theorem A53:∀ l,(A3p l).Perm l:=by
 intro l
 induction l with
 | nil=>exact .refl _
 | cons a r ih=>exact (A7S a _).trans (ih.cons a)
theorem B7H {a b c:List UInt8} (h1:leB a b=true) (h2:leB b c=true):leB a c=true:=by simp only [leB,D2T] at *;exact List.le_trans h1 h2
theorem C2D {a b:List UInt8} (h:leB a b=false):leB b a=true:=by
 simp only [leB,D2T,decide_eq_false_iff_not] at *
 exact (List.le_total a b).resolve_left h
theorem A9F (a:List UInt8):∀ l,l.Pairwise (fun x y=>leB x y=true)→(A8B a l).Pairwise (fun x y=>leB x y=true):=by
 intro l
 induction l with
 | nil=>intro _;simp [A8B]
 | cons b r ih =>
  intro h
  obtain ⟨h1,h2⟩:=List.pairwise_cons.1 h
  simp only [A8B]
  cases hab:leB a b with
  | true =>
   refine List.pairwise_cons.2 ⟨fun x hx=>?_,h⟩
   rcases List.mem_cons.1 hx with rfl | hx
   ·exact hab
   ·exact B7H hab (h1 x hx)
  | false =>
   refine List.pairwise_cons.2 ⟨fun x hx=>?_,ih h2⟩
   rcases List.mem_cons.1 ((A7S a r).mem_iff.1 hx) with rfl | hx
   ·exact C2D hab
   ·exact h1 x hx
theorem A8C:∀ l,(A3p l).Pairwise (fun x y=>leB x y=true):=by
 intro l
 induction l with
 | nil=>exact .nil
 | cons a r ih=>exact A9F a _ ih
theorem A54 {l ss:List (List UInt8)} (h:ss.Perm l):ss.mergeSort leB=A3p l:=by
 have tr:∀ a b c:List UInt8,leB a b=true→leB b c=true→leB a c=true:=fun a b c=>B7H
 have to:∀ a b:List UInt8,(leB a b||leB b a)=true:=fun a b=>by simp only [leB,Bool.or_eq_true,D2T];exact List.le_total a b
 refine List.Perm.eq_of_pairwise (le:=fun a b=>leB a b=true) (fun a b _ _ h1 h2=>?_) (List.pairwise_mergeSort tr to ss) (A8C l) (((List.mergeSort_perm ss leB).trans h).trans (A53 l).symm)
 simp only [leB,D2T] at h1 h2
 exact List.le_antisymm h1 h2
theorem C2E {st:Nat} (hk:D4 T st=some .str) (hz:B9 T st=1) (e:A9):∀ l:List (List UInt8),RV T e (List.replicate l.length st) (l.map sV) (l.map Proofs.encStr):=by
 intro l
 induction l with
 | nil=>exact .nil
 | cons a r ih =>
  have:=RV.str (T:=T) (e:=e) (s:=⟨a.toArray⟩) hk hz ih
  simpa [List.replicate_succ,sV,tx,txt,Proofs.encStr] using this
open Go.RowKit Go.Maps
variable {T:TT} {P:Program} {c:L0} {e eb:A9} {of of':Nat→Option Ob}
def A55 (P:Program) (f g st:Nat):Prop:=∀ (Bm b nn:Nat) (D0:DataW Unit) (R:Value→Option (DataW Unit×List MemPlace)) (w:World),Bm < w.heap.size→w.cell? ⟨Bm,0,none⟩=some (.map (some b))→w.ownsMap P st R b nn D0→Maps.size D0≤1000000 →
 Calls P f #[.func (.func g) #[] #[.pointer (some ⟨Bm,0,none⟩)]] w fun e w'=>∃ (v:Value) (ss:List (List UInt8)),e=.returned v∧ss.Perm (strKeys D0)∧w'.ownsRow w.heap.size st 1 v ss.length ((ss.mergeSort leB).map Proofs.encStr)∧(v=.slice none 0 0↔ss=[])∧Below w.heap.size w w'
def okK:List (V×A)→Bool
 | []=>true
 | p::r=>(match p.1 with
  | .s l=>Nat.ble l.length 1000000
  | _=>false)&&okK r
def B3g:Ob→Option (Nat×List (V×A))
 | .map kt et es=>some (kt,es)
 | .sm kt st el es ho=>some (kt,A2c es)
 | _=>none
theorem B7I {id kt:Nat} {o:Ob} {es:List (V×A)} (h:A5 T c e of) (ho:of id=some o) (hk:B3g o=some (kt,es)):e.U id∧e.bn id=0∧∃ b ms clock,e.ι id=some (b,0)∧e.w.heap[b]? = some (.map ms clock)∧((es.map (·.1)).Nodup∧StB ms clock)∧∃ es' et,es'.Perm es∧MR T e kt et es' ms.toList:=by
 cases o with
 | map kt' et' es' =>
  injection hk with hk;injection hk with h1 h2;subst h1;subst h2
  obtain ⟨v1,v2,b,ms,clock,v3,v4,v5,es',v6,v7⟩:=A5Y h ho
  exact ⟨v1,v2,b,ms,clock,v3,v4,v5,es',_,v6,v7⟩
 | sm kt' st el es' ho' =>
  injection hk with hk;injection hk with h1 h2;subst h1;subst h2
  obtain ⟨u1,u2,hks,hz,hz3,b,ms,clock,v3,v4,v5,es',bs,v6,v7⟩:=A2u h ho
  exact ⟨u1,u2,b,ms,clock,v3,v4,⟨by rw [A2c,List.map_map];exact v5.1,v5.2⟩,A2c es',st,v6.map _,v7.mr hks hz⟩
 | _=>cases hk
def A4K (g st:Nat):Sym:=fun args of nx =>
 match args with
 | [.f g' [.p ib tb []]]=>bif Nat.beq g g' then (match of ib with
  | some (.box tb' (.m mid) _)=>match of mid with
   | some o=>match B3g o with
    | some (kt,es)=>bif Nat.beq kt st&&(okK es&&Nat.ble es.length 1000000) then (C3c (Y9 (es.map (·.1))) fun ks=>some ⟨.o nx 1,[(nx,.row st 1 ks ks.isEmpty false)],[ib,mid],nx+1⟩) else none
    | none=>none
   | _=>none
  | _=>none) else none
 | _=>none
def A2g (m:MapEntry):List UInt8 :=
 match m.key with
 | .string s=>s.data.toList
 | _=>[]
theorem C2F {kt et:Nat} (hk:D4 T kt=some .str):∀ {es:List (V×A)} {ms:List MapEntry},MR T e kt et es ms→es.map (·.1)=(ms.map A2g).map sV∧ms.map (·.key)=(ms.map A2g).map Proofs.encStr:=by
 intro es ms h
 induction h with
 | nil=>exact ⟨rfl,rfl⟩
 | @cons k a r m ms h1 h2 h3 h4 ih =>
  obtain ⟨i1,i2⟩:=ih
  obtain ⟨h1,hag⟩:=h1
  obtain ⟨key,val,born⟩:=m
  simp only at h1 hag
  have hn:¬ ∃ cs,key=.agg cs:=fun q=>by
   obtain ⟨k',g1,g2⟩:=hag.2 q
   rw [hk] at g1;cases g1;cases g2
  have hcs:key.cells=#[key]:=by
   cases key with
   | agg cs=>exact absurd ⟨cs,rfl⟩ hn
   | _=>rfl
  rw [hcs] at h1
  obtain ⟨s,rfl,rfl⟩:∃ s,k=.s (txt s)∧key=.string s:=by
   generalize hcs:(#[key]:Array Value).toList=cs at h1
   cases h1 with
   | @str _ s _ _ cs g1 g2 g3=>cases g3;simp at hcs;exact ⟨s,rfl,hcs⟩
   | int g1=>rw [hk] at g1;cases g1
   | bool g1=>rw [hk] at g1;cases g1
   | ptr g1=>rw [hk] at g1;cases g1
   | nils g1=>rw [hk] at g1;cases g1
   | map g1=>rw [hk] at g1;cases g1
   | func g1=>rw [hk] at g1;cases g1
   | fn g1=>rw [hk] at g1;cases g1
   | slice g1=>rw [hk] at g1;cases g1
   | arr g1=>rw [hk] at g1;cases g1
   | struct g1=>rw [hk] at g1;cases g1
  refine ⟨?_,?_⟩
  ·rw [List.map_cons,i1];rfl
  ·rw [List.map_cons,i2];simp [A2g,Proofs.encStr]
theorem C2G:∀ {es:List (V×A)},okK es=true→∀ p∈es,∀ l,p.1=.s l→l.length≤1000000:=by
 intro es
 induction es with
 | nil=>intro _ p hp;cases hp
 | cons q r ih =>
  intro h p hp l hl
  simp only [okK,D2I] at h
  rcases List.mem_cons.1 hp with rfl | hp
  ·have h1:=h.1
   rw [hl] at h1
   exact D2N h1
  ·exact ih h.2 p hp l hl
theorem D0F:∀ l:List UInt8,(tx l).map (fun v=>v.int.toNat.toUInt8)=l:=by
 intro l
 induction l with
 | nil=>rfl
 | cons a r ih =>
  show ((a.toNat:Int).toNat.toUInt8)::(tx r).map _=_
  rw [ih]
  congr 1
  simp
def R0:Value→Option (DataW Unit×List MemPlace):=fun _=>some (.nil,[])
theorem A9G (hT:L8 T P) {f g st:Nat} (hS:A55 P f g st) (hk:D4 T st=some .str) (hz:B9 T st=1) (hen:∀ args w,(callFunc f args).run P w=.ok (.enter f args) w):N4 P T f (A4K g st):=by
 intro c e of of' as vals nx out hos hs hro hu hvals
 unfold A4K at hs
 split at hs<;>try (cases hs;done)
 rename_i g' ib tb
 cases hg:Nat.beq g g' with
 | false=>rw [hg] at hs;cases hs
 | true =>
 rw [hg] at hs
 have:=D2H hg;subst this
 simp only [cond_true] at hs
 split at hs<;>try (cases hs;done)
 rename_i tb' mid sh hob
 split at hs<;>try (cases hs;done)
 rename_i ob hom
 split at hs<;>try (cases hs;done)
 rename_i kt es hmk
 cases hc:Nat.beq kt st&&(okK es&&Nat.ble es.length 1000000) with
 | false=>rw [hc] at hs;cases hs
 | true =>
 rw [hc,cond_true,A49] at hs
 simp only [D2I] at hc
 obtain ⟨c1,c2,c3⟩:=hc
 have:=D2H c1;subst this
 have c3:=D2N c3
 injection hs with hs;subst hs
 have hob':of' ib=some (.box tb' (.m mid) sh):=(hro ib (by simp)).trans hob
 have hom':of' mid=some ob:=(hro mid (by simp)).trans hom
 obtain ⟨x1,x2,x3,x4,Bm,cs,ty,fz,x5,x6,x7,x8,x9,x10⟩:=hos.ok _ _ hob'
 obtain ⟨y1,y2,b,ms,clock,y3,y4,⟨y5,y5'⟩,es',et,y6,y7⟩:=B7I hos hom' hmk
 obtain ⟨v,hvs⟩:∃ v,vals=#[v]:=by
  obtain ⟨vals⟩:=vals
  cases hvals with | cons h1 h2=>cases h2;exact ⟨_,rfl⟩
 subst hvs
 have hv:C3 T e (.f g [.p ib tb []]) v:=by cases hvals with | cons h1 _=>exact h1
 obtain ⟨vs,rfl,hcap⟩:=A2B hv
 obtain ⟨v2,rfl⟩:=hcap.single rfl
 obtain ⟨Bm',off,p1,p2,p3,p4,rfl⟩:=M5 (T:=T) (e:=e) (id:=ib) (t:=tb) (path:=[]) hcap
 rw [x5] at p3
 cases p3
 cases p4
 obtain ⟨v3,hcs⟩:=x9.single rfl
 have hm3:∃ b',e.U mid∧e.bn mid=0∧e.ι mid=some (b',0)∧v3=.map (some b'):=R7 (by rw [hcs] at x9;exact x9)
 obtain ⟨b',_,_,z3,rfl⟩:=hm3
 rw [y3] at z3;cases z3
 have hcell:e.w.cell? ⟨Bm,0,none⟩=some (.map (some b)):=by
  have:cs[0]? = some (.map (some b)):=by rw [← Array.getElem?_toList,hcs];rfl
  simp [World.cell?,x6,this]
 obtain ⟨k1,k2⟩:=C2F hk y7
 have hu':P.underlying kt=some .string:=by
  obtain ⟨te,h1,h2⟩:=B1 hk
  exact P9 (hT _ _ h1) h2
 have hlen:es.length=ms.size:=by rw [← y6.length_eq,y7.length,D2O]
 have hrd:∀ m∈ms.toList,WideElems.rd P kt R0 m=some (.string (A2g m),.nil):=by
  intro m hm
  have hmk:m.key=Proofs.encStr (A2g m):=by
   obtain ⟨i,hi,rfl⟩:=List.mem_iff_getElem.1 hm
   have:=congrArg (fun l=>l[i]?) k2
   simp only [List.getElem?_map,D2U hi,Option.map_some,D2K] at this
   exact this
  have hl:(A2g m).length≤1000000:=by
   have:sV (A2g m)∈(ms.toList.map A2g).map sV:=List.mem_map_of_mem (List.mem_map_of_mem hm)
   rw [← k1] at this
   obtain ⟨p,hp,hpe⟩:=List.mem_map.1 this
   have:=C2G c2 p (y6.mem_iff.1 hp) _ hpe
   simpa [tx] using this
  have hkey:keyOf P kt m.key=some (.string (A2g m)):=by
   rw [hmk]
   simp [keyOf,hu',mapKey,Proofs.encStr]
   exact Nat.le_trans hl (by decide)
  simp [WideElems.rd,hkey,R0]
 have hndk:(ms.toList.map A2g).Nodup:=by
  have h1:(es'.map (·.1)).Nodup:=(y6.map _).nodup_iff.2 y5
  rw [k1] at h1
  exact (List.pairwise_map.1 h1).imp (fun h q=>h (by rw [q]))
 have hst:MapKept.Stamped ms clock:=by
  refine ⟨y5'.1,y5'.2,?_⟩
  rw [k2]
  exact List.Pairwise.map _ (fun a b hab q=>hab (Go.encStr_inj q)) hndk
 have hfit:WideElems.Fit P kt R0 ms clock:=⟨Nat.le_trans (by omega) (show 1000000≤maxLen by decide),hst,fun m hm=>⟨_,hrd m hm⟩⟩
 have hown:e.w.ownsMap P kt R0 b 1000000 (.map ((ms.toList.map (WideElems.rg P kt R0)).foldr DataW.insert [])):=⟨ms,clock,y4,hfit,by omega,rfl⟩
 have hrgs:(ms.toList.map (WideElems.rg P kt R0)).map (fun p=>strOf p.1)=ms.toList.map A2g:=by
  rw [List.map_map]
  refine List.map_congr_left (fun m hm=>?_)
  simp only [Function.comp]
  rw [WideElems.rg_of (hrd m hm)]
  rfl
 have hperm:(strKeys (.map ((ms.toList.map (WideElems.rg P kt R0)).foldr DataW.insert []))).Perm (ms.toList.map A2g):=by
  rw [← hrgs]
  exact (WideShapes.sorted_perm _).map _
 have hsize:Maps.size (.map ((ms.toList.map (WideElems.rg P kt R0)).foldr DataW.insert []):DataW Unit)≤1000000:=by
  rw [Maps.size_eq,(WideShapes.sorted_perm _).length_eq]
  simp;omega
 have hcall:=hS Bm b 1000000 _ R0 e.w (Array.getElem?_eq_some_iff.1 x6).1 hcell hown hsize
 have hks:Y9 (es.map (·.1))=(A3p (ms.toList.map A2g)).map sV:=by
  have hp:(es.map (·.1)).Perm ((ms.toList.map A2g).map sV):=by rw [← k1];exact (y6.map _).symm
  obtain ⟨l,hl⟩:∃ l:List (List UInt8),es.map (·.1)=l.map sV:=by
   have:∀ x∈es.map (·.1),∃ a,x=sV a:=fun x hx=>by
    obtain ⟨a,_,ha⟩:=List.mem_map.1 (hp.mem_iff.1 hx)
    exact ⟨a,ha.symm⟩
   clear hp
   generalize es.map (·.1)=xs at this
   induction xs with
   | nil=>exact ⟨[],rfl⟩
   | cons x r ih =>
    obtain ⟨l,rfl⟩:=ih (fun y hy=>this y (by simp [hy]))
    obtain ⟨a,rfl⟩:=this x (by simp)
    exact ⟨a::l,rfl⟩
  have hpl:l.Perm (ms.toList.map A2g):=by
   rw [hl] at hp
   have hun:∀ l:List (List UInt8),(l.map sV).map (fun v=>v.els.map fun v=>v.int.toNat.toUInt8)=l:=by
    intro l
    rw [List.map_map]
    conv=>rhs;rw [← List.map_id l]
    refine List.map_congr_left (fun a _=>?_)
    exact D0F a
   have:=hp.map (fun v=>v.els.map fun v=>v.int.toNat.toUInt8)
   rwa [hun,hun] at this
  rw [hl,B7G]
  congr 1
  exact (A54 (List.Perm.refl l)).symm.trans (A54 hpl)
 refine .inr (.inr (.inl ⟨f,_,e.w,hen _ _,hcall.mono fun en w' ⟨v,ss,h1,h2,h3,h4,h5⟩=>⟨v,h1,?_⟩⟩))
 rw [hks]
 rw [A54 (h2.trans hperm)] at h3
 have hlss:((A3p (ms.toList.map A2g)).map sV).length=ss.length:=by rw [D2L,(A53 _).length_eq,(h2.trans hperm).length_eq]
 refine B7F (ys:=(A3p (ms.toList.map A2g)).map Proofs.encStr) hos h5 (hu nx (Nat.le_refl _) (Nat.lt_succ_self _)) hz (by rw [hlss];exact h3) (fun e'=>by rw [D2L];exact C2E hk hz e' _) ?_
 rw [h4]
 constructor
 ·intro q;rw [q] at hlss;exact List.length_eq_zero_iff.1 hlss
 ·intro q;rw [q] at hlss;exact List.length_eq_zero_iff.1 hlss.symm
variable {P:Program} {T:TT} {c:L0} {e eb:A9} {of of':Nat→Option Ob}
variable {R:Type}
variable {P:Program} {T:TT} {R:Type} {e:A9}
variable {P:Program} {T:TT} {R:Type} {c:L0} {e:A9} {of:Nat→Option Ob}
variable {P:Program} {T:TT} {R:Type} {c:L0} {e:A9} {of:Nat→Option Ob}
theorem A4f:∀ (l:List (Nat×Ob)) {f g:Nat→Option Ob} {id:Nat},f id=g id→put f l id=put g l id:=by
 intro l
 induction l with
 | nil=>intro f g id h;exact h
 | cons p r ih =>
  intro f g id h
  refine ih ?_
  simp only [F9]
  split
  ·rfl
  ·exact h
variable {P:Program} {T:TT} {R:Type}
variable {P:Program} {T:TT} {R:Type}
def Z1:Nat→Int→List V
 | 0,_=>[]
 | m+1,n=>.i (IntKind.wrap .u8 n)::Z1 m (n.fdiv (2 ^ 8))
def Y8 (n:Int):List V :=
 bif B5 n 253 then Z1 1 n else bif B5 n 65536 then .i 253::Z1 2 n else bif B5 n 4294967296 then .i 254::Z1 4 n else .i 255::Z1 8 n
theorem A0N (n:Int):1≤(Y8 n).length∧(Y8 n).length≤9:=by
 unfold Y8
 cases B5 n 253<;>cases B5 n 65536<;>cases B5 n 4294967296<;>simp [Z1]
variable {P:Program} {T:TT} {R:Type}
variable {P:Program} {T:TT} {R:Type}
variable {P:Program} {T:TT} {R:Type}
variable {P:Program} {T:TT} {R:Type}
variable {P:Program} {T:TT} {R:Type}
variable {P:Program} {T:TT}
variable {R:Type}
variable {P:Program} {T:TT} {R:Type}
variable {P:Program} {T:TT} {R:Type}
def A7s {R:Type}:Nat→Int→List V→(List V→Option R)→Option R
 | 0,n,xs,k=>k xs
 | m+1,n,xs,k=>N0 (xs.length+1) <| A7s m (n.fdiv (2 ^ 8)) (xs++[.i (IntKind.wrap .u8 n)]) k
theorem A56:∀ (m:Nat) (n:Int) (xs:List V) (k:List V→Option R),xs.length+m≤LIM→A7s m n xs k=k (xs++Z1 m n):=by
 intro m
 induction m with
 | zero=>intro n xs k h;simp [A7s,Z1]
 | succ m ih =>
  intro n xs k h
  have h:xs.length+(m+1)≤1073741824:=h
  unfold A7s Z1
  rw [B3 (by omega),ih _ _ _ (by rw [D2J];show xs.length+1+m≤1073741824;omega)]
  simp
variable {P:Program} {T:TT} {R:Type}
inductive D where
 | int (k:IntKind) | bool | str | slice (d:D) | arr (n:Nat) (d:D) | struct (ds:List D)
mutual
def D.has:D→V→Prop
 | .int k,x=>∃ n,x=.i n∧inR k n
 | .bool,x=>∃ b,x=.b b
 | .str,x=>∃ ns:List Nat,x=.s (ns.map nv)∧∀ a∈ns,a < 256
 | .slice d,x=>x=.n∨∃ ys,x=.l ys∧∀ y∈ys,D.has d y
 | .arr n d,x=>∃ ys,x=.l ys∧ys.length=n∧∀ y∈ys,D.has d y
 | .struct ds,x=>∃ ys,x=.l ys∧D.hasL ds ys
def D.hasL:List D→List V→Prop
 | [],[]=>True
 | d::ds,x::xs=>D.has d x∧D.hasL ds xs
 | _,_=>False
end
mutual
def X1 (T:TT):Nat→Nat→Option D
 | 0,_=>none
 | n+1,t=>match D4 T t with
  | some (.int k)=>some (.int k)
  | some .bool=>some .bool
  | some .str=>some .str
  | some (.slice el)=>match X1 T n el with
   | some d=>some (.slice d)
   | none=>none
  | some (.arr m el)=>match X1 T n el with
   | some d=>some (.arr m d)
   | none=>none
  | some (.struct fs)=>match X2 T n fs with
   | some ds=>some (.struct ds)
   | none=>none
  | _=>none
def X2 (T:TT):Nat→List Nat→Option (List D)
 | _,[]=>some []
 | 0,_::_=>none
 | n+1,t::ts=>match X1 T n t with
  | some d=>match X2 T n ts with
   | some ds=>some (d::ds)
   | none=>none
  | none=>none
end
theorem B3h {e:A9} {t:Nat} {ts:List Nat} {xs:List V} {cs:List Value} (h:RV T e (t::ts) xs cs):∃ x r c1 c2,xs=x::r∧RV T e [t] [x] c1∧RV T e ts r c2:=by
 obtain ⟨as,bs,c1,c2,rfl,rfl,h1,h2⟩:=RV.split [t] (ts':=ts) h
 obtain ⟨a,rfl⟩:=List.length_eq_one_iff.1 h1.length.2
 exact ⟨a,bs,c1,c2,rfl,h1,h2⟩
theorem B7J {e:A9} {el:Nat} {p:V→Prop} (hp:∀ x cs,RV T e [el] [x] cs→p x):∀ {n:Nat} {xs:List V} {cs:List Value},RV T e (List.replicate n el) xs cs→∀ x∈xs,p x:=by
 intro n
 induction n with
 | zero=>intro xs cs h x hx;cases h;cases hx
 | succ n ih =>
  intro xs cs h x hx
  rw [List.replicate_succ] at h
  obtain ⟨y,r,c1,c2,rfl,h1,h2⟩:=B3h h
  rcases List.mem_cons.1 hx with rfl | hx
  ·exact hp _ _ h1
  ·exact ih h2 x hx
theorem B7K:∀ (n:Nat) {e:A9},(∀ (t:Nat) (d:D),X1 T n t=some d→∀ x cs,RV T e [t] [x] cs→d.has x)∧(∀ (ts:List Nat) (ds:List D),X2 T n ts=some ds→∀ xs cs,RV T e ts xs cs→D.hasL ds xs):=by
 intro n
 induction n with
 | zero =>
  intro e
  refine ⟨fun t d h=>(by rw [X1] at h;cases h),fun ts ds h xs cs hx=>?_⟩
  cases ts with
  | nil=>rw [X2] at h;cases h;cases hx;trivial
  | cons t ts=>rw [X2] at h;cases h
 | succ n ih =>
  intro e
  refine ⟨fun t d h x cs hx=>?_,fun ts ds h xs cs hx=>?_⟩
  ·rw [X1] at h
   split at h
   ·rename_i k hk;cases h;obtain ⟨m,rfl,_,hr⟩:=hx.int_inv hk;exact ⟨m,rfl,hr⟩
   ·rename_i hk;cases h
    cases hx with
    | bool _ _ _=>exact ⟨_,rfl⟩
    | int g1=>rw [hk] at g1;cases g1
    | str g1=>rw [hk] at g1;cases g1
    | ptr g1=>rw [hk] at g1;cases g1
    | nils g1=>rw [hk] at g1;cases g1
    | map g1=>rw [hk] at g1;cases g1
    | func g1=>rw [hk] at g1;cases g1
    | fn g1=>rw [hk] at g1;cases g1
    | slice g1=>rw [hk] at g1;cases g1
    | arr g1=>rw [hk] at g1;cases g1
    | struct g1=>rw [hk] at g1;cases g1
   ·rename_i hk;cases h
    cases hx with
    | @str _ s _ _ _ _ _ _ =>
     refine ⟨s.data.toList.map fun b=>b.toNat,?_,fun a ha=>?_⟩
     ·unfold txt;rw [List.map_map];rfl
     ·obtain ⟨b,_,rfl⟩:=List.mem_map.1 ha;exact b.toNat_lt
    | int g1=>rw [hk] at g1;cases g1
    | bool g1=>rw [hk] at g1;cases g1
    | ptr g1=>rw [hk] at g1;cases g1
    | nils g1=>rw [hk] at g1;cases g1
    | map g1=>rw [hk] at g1;cases g1
    | func g1=>rw [hk] at g1;cases g1
    | fn g1=>rw [hk] at g1;cases g1
    | slice g1=>rw [hk] at g1;cases g1
    | arr g1=>rw [hk] at g1;cases g1
    | struct g1=>rw [hk] at g1;cases g1
   ·rename_i el hk
    split at h<;>cases h
    rename_i d hd
    rcases hx.slice_inv hk with ⟨rfl,_⟩ | ⟨ys,ds,a,cap,rfl,_,_,_,g⟩
    ·exact .inl rfl
    ·exact .inr ⟨ys,rfl,B7J (fun x cs hx=>(ih (e:=e)).1 el d hd x cs hx) g⟩
   ·rename_i m el hk
    split at h<;>cases h
    rename_i d hd
    obtain ⟨ys,rfl,hl,g⟩:=hx.arr_inv hk
    exact ⟨ys,rfl,hl,B7J (fun x cs hx=>(ih (e:=e)).1 el d hd x cs hx) g⟩
   ·rename_i fs hk
    split at h<;>cases h
    rename_i ds hd
    obtain ⟨ys,rfl,g⟩:=hx.struct_inv hk
    exact ⟨ys,rfl,(ih (e:=e)).2 fs ds hd _ _ g⟩
   ·cases h
  ·cases ts with
   | nil=>rw [X2] at h;cases h;cases hx;trivial
   | cons t ts =>
    rw [X2] at h
    split at h<;>try (cases h;done)
    rename_i d hd
    split at h<;>cases h
    rename_i ds hds
    obtain ⟨x,r,c1,c2,rfl,h1,h2⟩:=B3h hx
    exact ⟨(ih (e:=e)).1 t d hd _ _ h1,(ih (e:=e)).2 ts ds hds _ _ h2⟩
theorem TV.has:∀ {ts:List Nat} {xs:List V} (n:Nat) {ds:List D},TV T ts xs→X2 T n ts=some ds→D.hasL ds xs:=by
 intro ts
 induction ts with
 | nil =>
  intro xs n ds h hd
  have:=h.len
  cases xs with
  | nil=>cases n<;>(rw [X2] at hd;cases hd;trivial)
  | cons _ _=>cases this
 | cons t ts ih =>
  intro xs n ds h hd
  cases n with
  | zero=>rw [X2] at hd;cases hd
  | succ n =>
   rw [X2] at hd
   split at hd<;>try (cases hd;done)
   rename_i d hd1
   split at hd<;>cases hd
   rename_i ds hd2
   cases xs with
   | nil=>have:=h.len;cases this
   | cons x xs =>
    obtain ⟨e,cs,hx⟩:=h.head
    exact ⟨(B7K n).1 t d hd1 x cs hx,ih n h.tail hd2⟩
theorem S4 {d0:D} {xs:List V} (h:D.hasL [d0] xs):∃ a,xs=[a]∧d0.has a:=by
 cases xs with
 | nil=>exact (h).elim
 | cons x0 r0 =>
 cases r0 with
 | cons _ _=>exact (h.2).elim
 | nil=>exact ⟨x0,rfl,h.1⟩
theorem A14 {d0 d1:D} {xs:List V} (h:D.hasL [d0,d1] xs):∃ a b,xs=[a,b]∧d0.has a∧d1.has b:=by
 cases xs with
 | nil=>exact (h).elim
 | cons x0 r0 =>
 cases r0 with
 | nil=>exact (h.2).elim
 | cons x1 r1 =>
 cases r1 with
 | cons _ _=>exact (h.2.2).elim
 | nil=>exact ⟨x0,x1,rfl,h.1,h.2.1⟩
theorem B3i {d0 d1 d2:D} {xs:List V} (h:D.hasL [d0,d1,d2] xs):∃ a b c,xs=[a,b,c]∧d0.has a∧d1.has b∧d2.has c:=by
 cases xs with
 | nil=>exact (h).elim
 | cons x0 r0 =>
 cases r0 with
 | nil=>exact (h.2).elim
 | cons x1 r1 =>
 cases r1 with
 | nil=>exact (h.2.2).elim
 | cons x2 r2 =>
 cases r2 with
 | cons _ _=>exact (h.2.2.2).elim
 | nil=>exact ⟨x0,x1,x2,rfl,h.1,h.2.1,h.2.2.1⟩
theorem B7L {d0 d1 d2 d3:D} {xs:List V} (h:D.hasL [d0,d1,d2,d3] xs):∃ a b c d,xs=[a,b,c,d]∧d0.has a∧d1.has b∧d2.has c∧d3.has d:=by
 cases xs with
 | nil=>exact (h).elim
 | cons x0 r0 =>
 cases r0 with
 | nil=>exact (h.2).elim
 | cons x1 r1 =>
 cases r1 with
 | nil=>exact (h.2.2).elim
 | cons x2 r2 =>
 cases r2 with
 | nil=>exact (h.2.2.2).elim
 | cons x3 r3 =>
 cases r3 with
 | cons _ _=>exact (h.2.2.2.2).elim
 | nil=>exact ⟨x0,x1,x2,x3,rfl,h.1,h.2.1,h.2.2.1,h.2.2.2.1⟩
theorem D0G {d0 d1 d2 d3 d4:D} {xs:List V} (h:D.hasL [d0,d1,d2,d3,d4] xs):∃ a b c d e,xs=[a,b,c,d,e]∧d0.has a∧d1.has b∧d2.has c∧d3.has d∧d4.has e:=by
 cases xs with
 | nil=>exact (h).elim
 | cons x0 r0 =>
 cases r0 with
 | nil=>exact (h.2).elim
 | cons x1 r1 =>
 cases r1 with
 | nil=>exact (h.2.2).elim
 | cons x2 r2 =>
 cases r2 with
 | nil=>exact (h.2.2.2).elim
 | cons x3 r3 =>
 cases r3 with
 | nil=>exact (h.2.2.2.2).elim
 | cons x4 r4 =>
 cases r4 with
 | cons _ _=>exact (h.2.2.2.2.2).elim
 | nil=>exact ⟨x0,x1,x2,x3,x4,rfl,h.1,h.2.1,h.2.2.1,h.2.2.2.1,h.2.2.2.2.1⟩
theorem u8s {ys:List V} (h:∀ y∈ys,(D.int .u8).has y):∃ ns:List Nat,ys=ns.map nv∧∀ a∈ns,a < 256:=by
 induction ys with
 | nil=>exact ⟨[],rfl,fun a ha=>by cases ha⟩
 | cons y ys ih =>
  obtain ⟨ns,rfl,hn⟩:=ih (fun z hz=>h z (List.mem_cons_of_mem _ hz))
  obtain ⟨m,rfl,h1,h2⟩:=h y (List.mem_cons_self ..)
  simp only [lo,hi] at h1 h2
  refine ⟨m.toNat::ns,?_,fun a ha=>?_⟩
  ·simp only [List.map_cons,nv];rw [show ((m.toNat:Nat):Int)=m by omega]
  ·rcases List.mem_cons.1 ha with rfl | ha
   ·omega
   ·exact hn a ha
def gF (g:List V→Bool) (r:List V→List Rs):FC:=fun R xs k=>bif g xs then k (r xs) else none
theorem B1j (g:List V→Bool) (r:List V→List Rs):FC.nat (gF g r):=by
 intro R xs k
 unfold gF
 cases g xs<;>rfl
theorem C5Z {g:List V→Bool} {r:List V→List Rs} {xs:List V} {rs:List Rs} (h:gF g r (List Rs) xs some=some rs):g xs=true∧rs=r xs:=by
 unfold gF at h
 cases hg:g xs with
 | false=>rw [hg] at h;cases h
 | true=>rw [hg] at h;simp only [cond_true,D2K] at h;exact ⟨rfl,h.symm⟩
theorem B8 (hm:P.follows .mixedOrders=true) (hT:L8 T P) {tab:List (Nat×E5)} (h:D2 P T tab) {f d fu:Nat} {Lo:Nat→LC} {sh:Bool} {ts:List Nat} {rk:List RK} {g:List V→Bool} {r:List V→List Rs} (hts:ts.all (fun t=>(T t).isSome)=true)
  (hL:H8 P T f Lo) (n:Nat) {ds:List D} (hd:X2 T n ts=some ds)
  (hF:∀ xs,D.hasL ds xs→g xs=true→C4 P T (E9 P T tab false fu d) Lo false fu f (List Rs) (G2 T ts xs) (fun _=>none) 0 (fun out=>H2 T sh rk out)=some (r xs)) :
  D2 P T ((f,F6 T sh ts (gF g r))::tab) :=
 B0i hm hT h (B1j g r) hts hL fun xs rs htv hrs=>by
  obtain ⟨h1,rfl⟩:=C5Z hrs
  exact hF xs (htv.has n hd) h1
variable {P:Program} {T:TT} {R:Type}
abbrev LB:Nat:=268435456
def shb (x:V):Bool:=Nat.ble x.els.length LB
theorem A2h {x:V} (h:shb x=true):x.els.length≤268435456:=D2N h
theorem A0v:∀ (m:Nat) (n:Int),(Z1 m n).length=m:=by
 intro m
 induction m with
 | zero=>intro n;rfl
 | succ m ih=>intro n;show (Z1 m _).length+1=m+1;rw [ih]
def B7M {R:Type} (n:Int) (bs:List V) (k:List V→Option R):Option R :=
 bif B5 n 253 then N0 (bs.length+1) <| k (bs++[.i (IntKind.wrap .u8 n)]) else
 bif B5 n 65536 then N0 (bs.length+1) <| A7s 2 n (bs++[.i 253]) k else
 bif B5 n 4294967296 then N0 (bs.length+1) <| A7s 4 n (bs++[.i 254]) k else N0 (bs.length+1) <| A7s 8 n (bs++[.i 255]) k
theorem A57 {n:Int} {bs:List V} {k:List V→Option R} (h:bs.length≤1073741800):B7M n bs k=k (bs++Y8 n):=by
 unfold B7M Y8
 have hp:∀ (m:Nat) (b:V),m≤8→A7s m n (bs++[b]) k=k (bs++b::Z1 m n):=fun m b hm=>by
  rw [A56 m n _ _ (by rw [D2J];show bs.length+1+m≤1073741824;omega)]
  simp
 rw [B3 (by omega),B3 (by omega),B3 (by omega),B3 (by omega),hp _ _ (by omega),hp _ _ (by omega),hp _ _ (by omega)]
 cases B5 n 253<;>cases B5 n 65536<;>cases B5 n 4294967296<;>rfl
def B4E {R:Type} (bs xs:List V) (k:List V→Option R):Option R:=ln xs.length <| B7M (WU (xs.length:Nat)) bs (fun ys=>N0 (ys.length+xs.length) <| k (ys++xs))
def A0w (xs:List V):List V:=Y8 (xs.length:Nat)++xs
theorem A3q {bs xs:List V} {k:List V→Option R} (h1:bs.length≤536870912) (h2:xs.length≤268435456):B4E bs xs k=k (bs++A0w xs):=by
 unfold B4E A0w
 have:=A0N (xs.length:Nat)
 rw [B7 (by omega),D5 (by omega),A57 (by omega),B3 (by rw [D2J];omega),List.append_assoc]
def leD:Nat→Int→List V
 | 0,_=>[]
 | m+1,n=>.i (IntKind.wrap .u8 (n.tmod 256))::leD m (IntKind.wrap .u64 (n.tdiv 256))
theorem B3j (n:Int):IntKind.wrap .u8 n=n % 256:=by
 unfold IntKind.wrap
 simp [IntKind.bits,IntKind.signed]
theorem A3r:∀ (m:Nat) {n:Int},0≤n→n < 18446744073709551616→leD m n=Z1 m n:=by
 intro m
 induction m with
 | zero=>intro n _ _;rfl
 | succ m ih =>
  intro n h1 h2
  have e1:IntKind.wrap .u64 (n.tdiv 256)=n.fdiv (2 ^ 8):=by
   obtain ⟨q,rfl⟩:=Int.eq_ofNat_of_zero_le h1
   have:((q:Nat):Int).tdiv 256=((q / 256:Nat):Int):=rfl
   rw [this]
   show WU _=_
   rw [D5 (by omega),Int.fdiv_eq_ediv_of_nonneg _ (by decide)]
   omega
  have e2:IntKind.wrap .u8 (n.tmod 256)=IntKind.wrap .u8 n:=by
   obtain ⟨q,rfl⟩:=Int.eq_ofNat_of_zero_le h1
   have:((q:Nat):Int).tmod 256=((q % 256:Nat):Int):=rfl
   rw [this,B3j,B3j];omega
  have h3:n.fdiv (2 ^ 8)=n / 256:=Int.fdiv_eq_ediv_of_nonneg n (by decide)
  show V.i _::leD m _=V.i _::Z1 m _
  rw [e1,e2,ih (by rw [h3];omega) (by rw [h3];omega)]
def C7t {R:Type} (n:Int) (k:List V→Option R):Option R :=
 bif C0 n 252 then k [.i (IntKind.wrap .u8 n)] else
 bif C0 n 65535 then k (.i 253::leD 2 n) else
 bif C0 n 4294967295 then k (.i 254::leD 4 n) else k (.i 255::leD 8 n)
theorem A8D (a b:Int):C0 a b=B5 a (b+1):=by
 simp only [C0,B5,ileN_dec,iltN_dec]
 rw [Bool.eq_iff_iff,D2T,D2T];omega
theorem B7N {n:Int} {k:List V→Option R} (h1:0≤n) (h2:n < 18446744073709551616):C7t n k=k (Y8 n):=by
 unfold C7t Y8
 rw [show C0 n 252=B5 n 253 from A8D n 252,show C0 n 65535=B5 n 65536 from A8D n 65535,show C0 n 4294967295=B5 n 4294967296 from A8D n 4294967295,A3r 2 h1 h2,A3r 4 h1 h2,A3r 8 h1 h2]
 cases B5 n 253<;>cases B5 n 65536<;>cases B5 n 4294967296<;>rfl
def A58:List V→Bool
 | [b,n,s]=>(L5 s.int 8||L5 s.int 4)&&shb b
 | _=>false
def A9H (el:Nat):List V→List Rs
 | [b,n,s]=>[.r el (b.els++Z1 s.int.toNat n.int) false]
 | _=>[]
def A9I:List V→Bool
 | [b,.l [x]]=>shb b&&shb x
 | _=>false
def D0H (el:Nat):List V→List Rs
 | [b,.l [x]]=>[.r el (b.els++A0w x.els) false]
 | _=>[]
def D0I:List V→Bool
 | [b,n]=>shb b
 | _=>false
def D0J (el:Nat):List V→List Rs
 | [b,n]=>[.r el (b.els++Y8 n.int) false]
 | _=>[]
def C7u {R:Type} (n:Int) (bs:List V) (k:List V→Option R):Option R :=
 ln bs.length <| ln bs.length <| bif L5 (bs.length:Nat) (bs.length:Nat) then bif C0 ((0:Nat):Int) ((0:Nat):Int)&&C0 ((0:Nat):Int) (bs.length:Nat)&&C0 (bs.length:Nat) (bs.length:Nat) then
  B7M n (A00 (.l bs) 0 (((bs.length:Nat):Int) - ((0:Nat):Int)).toNat).els k else none else none
theorem B7O {R:Type} {n:Int} {bs:List V} {k:List V→Option R} (h:bs.length≤1073741800):C7u n bs k=k (bs++Y8 n):=by
 unfold C7u
 rw [B7 (by omega),B7 (by omega),L7.2 rfl,J9.2 (by omega),J9.2 (by omega),J9.2 (by omega)]
 have:(A00 (.l bs) 0 (((bs.length:Nat):Int) - ((0:Nat):Int)).toNat).els=bs:=by
  show (bs.drop 0).take _=bs
  rw [List.drop_zero,List.take_of_length_le (by omega)]
 simp only [Bool.and_self,cond_true]
 rw [this]
 exact A57 h
def A18 (x:V):List V:=(x.nth 0).els++Z1 4 (x.nth 1).int
def C50:List V→Bool
 | [_]=>true
 | _=>false
def C51 (el:Nat):List V→List Rs
 | [x]=>[.r el (A18 x) false]
 | _=>[]
def B7P:List V→Bool
 | [n,s]=>L5 s.int 8||L5 s.int 4
 | _=>false
def A9J (el:Nat):List V→List Rs
 | [n,s]=>[.r el (Z1 s.int.toNat n.int) false]
 | _=>[]
def D0K:List V→Bool
 | [n]=>true
 | _=>false
def D0L (el:Nat):List V→List Rs
 | [n]=>[.r el (Y8 n.int) false]
 | _=>[]
def A9K:List V→Bool
 | [x]=>shb x
 | _=>false
def D0M (el:Nat):List V→List Rs
 | [x]=>[.r el (A0w x.els) false]
 | _=>[]
theorem C52 {s:Int} (h:(L5 s 8||L5 s 4)=true):s=8∨s=4:=by
 rw [Bool.or_eq_true] at h
 exact h.imp L7.1 L7.1
theorem C2H {b:V} {n s:Int} (h:A58 [b,.i n,.i s]=true):(s=8∨s=4)∧shb b=true:=by
 rw [A58,D2I] at h
 exact ⟨C52 h.1,h.2⟩
theorem C2I {n s:Int} (h:B7P [.i n,.i s]=true):s=8∨s=4:=by
 rw [B7P] at h
 exact C52 h
theorem B3k (el:Nat) (b:V) (n:Int):A9H el [b,.i n,.i 8]=[.r el (b.els++Z1 8 n) false]:=by rw [A9H,show (V.i 8).int.toNat=8 from by decide];rfl
theorem B3l (el:Nat) (b:V) (n:Int):A9H el [b,.i n,.i 4]=[.r el (b.els++Z1 4 n) false]:=by rw [A9H,show (V.i 4).int.toNat=4 from by decide];rfl
theorem C2J (el:Nat) (n:Int):A9J el [.i n,.i 8]=[.r el (Z1 8 n) false]:=by rw [A9J,show (V.i 8).int.toNat=8 from by decide];rfl
theorem C2K (el:Nat) (n:Int):A9J el [.i n,.i 4]=[.r el (Z1 4 n) false]:=by rw [A9J,show (V.i 4).int.toNat=4 from by decide];rfl
theorem A2C {x:V} (h:(D.slice (.int .u8)).has x):x=.n∨∃ ys,x=.l ys:=h.imp id fun ⟨ys,q,_⟩=>⟨ys,q⟩
theorem B7Q {x:V} (h:(D.struct [.arr 32 (.int .u8),.int .u32]).has x):∃ hs n,x=.l [.l hs,.i n]∧hs.length=32∧0≤n∧n < 4294967296:=by
 obtain ⟨ys,rfl,hy⟩:=h
 match ys,hy with
 | [a,b],hy =>
  obtain ⟨⟨hs,rfl,hl,_⟩,⟨n,rfl,hn⟩,_⟩:=hy
  refine ⟨hs,n,rfl,hl,hn.1,?_⟩
  have:=hn.2;simp only [hi] at this;omega
variable {P:Program} {T:TT} {R:Type}
theorem A3s (l:List V):l.length < (A0w l).length∧(A0w l).length≤l.length+9:=by
 unfold A0w
 have:=A0N (l.length:Nat)
 rw [D2J];omega
theorem L9 {n:Nat} (h:n < 1000000000):D7 ((n:Int)+1)=((n+1:Nat):Int):=by rw [F8 (by omega) (by omega)];omega
abbrev B7R:D:=.struct [.arr 32 (.int .u8),.int .u32]
abbrev A2X:D:=.struct [.str,.str,.int .i64,B7R]
theorem B7S {x:V} (h:B7R.has x):(A18 x).length=36:=by
 obtain ⟨hs,n,rfl,hl,_⟩:=B7Q h
 show (hs++Z1 4 n).length=36
 rw [D2J,hl,A0v]
theorem D0N {x:V} (h:A2X.has x):∃ nm v n r,x=.l [.s nm,.s v,.i n,r]∧inR .i64 n∧B7R.has r:=by
 obtain ⟨ys,rfl,hy⟩:=h
 obtain ⟨a,b,c,d,rfl,⟨na,rfl,_⟩,⟨nb,rfl,_⟩,⟨n,rfl,hn⟩,hd⟩:=B7L hy
 exact ⟨_,_,n,d,rfl,hn,hd⟩
theorem U0:200000≤A2 FU:=by rw [A3c];decide
variable {P:Program} {T:TT}
abbrev ML:Nat:=9223372036854775807
mutual
def D.sm:D→V→Prop
 | .str,x=>x.els.length≤ML
 | .slice d,x=>x.els.length≤ML∧∀ y∈x.els,D.sm d y
 | .arr _ d,x=>∀ y∈x.els,D.sm d y
 | .struct ds,x=>D.smL ds x.els
 | _,_=>True
def D.smL:List D→List V→Prop
 | d::ds,x::xs=>D.sm d x∧D.smL ds xs
 | _,_=>True
end
theorem L8.zero (hT:L8 T P) {t:Nat} {k:TK} (hk:D4 T t=some k) (ho:k≠.other):∃ x cs,∀ e,RV T e [t] [x] cs:=by
 obtain ⟨te,h1,rfl⟩:=B1 hk
 obtain ⟨i,d,z,_,_,_,_,_,_,h7,_⟩:=(hT _ _ h1).fits
 rcases h7 with h7 | h7
 ·exact ⟨_,_,h7⟩
 ·exact absurd h7 ho
theorem RV.sz1 {e:A9} {t:Nat} {x:V} {cs:List Value} {k:TK} (hk:D4 T t=some k) (ha:k.agg=false) (h:RV T e [t] [x] cs):B9 T t=1:=by
 cases h with
 | int _ h2=>exact h2
 | bool _ h2=>exact h2
 | str _ h2=>exact h2
 | ptr _ h2=>exact h2
 | nils _ h2=>exact h2
 | map _ h2=>exact h2
 | func _ h2=>exact h2
 | fn _ h2=>exact h2
 | slice _ h2=>exact h2
 | arr h1=>rw [hk] at h1;cases h1;cases ha
 | struct h1=>rw [hk] at h1;cases h1;cases ha
def e0:A9:={ w:=default,ι:=fun _=>none,S:=fun _ _=>False,bn:=fun _=>0,U:=fun _=>False,ty:=fun _=>0,ln:=fun _=>0,G:=fun _ _=>False }
theorem L8.sz1 (hT:L8 T P) {t:Nat} {k:TK} (hk:D4 T t=some k) (ha:k.agg=false) (ho:k≠.other):B9 T t=1:=by
 obtain ⟨x,cs,h⟩:=hT.zero hk ho
 exact (h e0).sz1 hk ha
theorem L8.szS (hT:L8 T P) {t:Nat} {fs:List Nat} (hk:D4 T t=some (.struct fs)):B9 T t=szs T fs:=by
 obtain ⟨x,cs,h⟩:=hT.zero hk (by intro h;cases h)
 obtain ⟨ys,rfl,g⟩:=(h e0).struct_inv hk
 have h1:=(h e0).length.1
 have h2:=g.length.1
 simp only [szs] at h1;omega
theorem L8.szA (hT:L8 T P) {t n el:Nat} (hk:D4 T t=some (.arr n el)):B9 T t=n * B9 T el:=by
 obtain ⟨x,cs,h⟩:=hT.zero hk (by intro h;cases h)
 obtain ⟨ys,rfl,_,g⟩:=(h e0).arr_inv hk
 have h1:=(h e0).length.1
 have h2:=g.length.1
 rw [D6] at h2
 simp only [szs] at h1;omega
theorem L8.cells (hT:L8 T P) {t:Nat} {k:TK} (hk:D4 T t=some k):P.cellsOf t=B9 T t:=by
 obtain ⟨te,h1,rfl⟩:=B1 hk
 obtain ⟨i,d,z,g1,_,g3,_⟩:=(hT _ _ h1).fits
 unfold Program.cellsOf
 rw [g1,L3 h1,← g3];rfl
theorem C7v {k:IntKind} {n:Int} (h:(Lit.int k n).wf=true):inR k n:=by
 have:k.min≤n∧n≤k.max:=by simpa [Lit.wf,D2I,D2T] using h
 cases k<;>simpa [inR,lo,hi,IntKind.min,IntKind.max,IntKind.signed,IntKind.bits] using this
theorem C2L (a:Addr) (p q:Nat):(a.add p).add q=a.add (p+q):=by
 unfold Addr.add
 by_cases h1:p=0
 ·subst h1;simp
 ·by_cases h2:q=0
  ·subst h2;simp [h1]
  ·simp [h1,h2,show p+q≠0 by omega,Nat.add_assoc]
theorem B4F {w:World} {b0:Nat} {a:Addr} {n:Nat} {l:List Value} (h:w.cells? b0 a n=some l):l.length=n∧∀ k,k < n→w.cell? (a.add k)=l[k]? := by
 unfold World.cells? at h
 split at h<;>try (cases h;done)
 have h1:=mapM_some_length h
 refine ⟨by simpa using h1,fun k hk=>?_⟩
 exact mapM_some_get h k k (by simp [hk])
section
variable {w:World} {H:Type} {enc:TypeId×Value→H}
theorem A9L {el:Nat} {e:A9} {q:V→Prop}:∀ (n:Nat) (cs:List Value),cs.length=n * B9 T el→(∀ i,i < n→∃ y,RV T e [el] [y] ((cs.drop (i * B9 T el)).take (B9 T el))∧q y)→∃ ys,ys.length=n∧RV T e (List.replicate n el) ys cs∧∀ y∈ys,q y:=by
 intro n
 induction n with
 | zero =>
  intro cs hl _
  have:cs=[]:=List.eq_nil_of_length_eq_zero (by simpa using hl)
  subst this
  exact ⟨[],rfl,.nil,fun y hy=>by cases hy⟩
 | succ n ih =>
  intro cs hl hp
  rw [Nat.succ_mul] at hl
  obtain ⟨y,hy,hq⟩:=hp 0 (by omega)
  rw [Nat.zero_mul,List.drop_zero] at hy
  obtain ⟨ys,h1,h2,h3⟩:=ih (cs.drop (B9 T el)) (by rw [List.length_drop];omega) (fun i hi=>by
   obtain ⟨z,hz,hqz⟩:=hp (i+1) (by omega)
   refine ⟨z,?_,hqz⟩
   rw [List.drop_drop,show B9 T el+i * B9 T el=(i+1) * B9 T el by rw [Nat.succ_mul];omega]
   exact hz)
  refine ⟨y::ys,by simp [h1],?_,fun z hz=>?_⟩
  ·have:=RV.append hy h2
   rw [List.take_append_drop] at this
   exact this
  ·rcases List.mem_cons.1 hz with rfl | hz
   ·exact hq
   ·exact h3 z hz
theorem B4G {e:A9}:∀ (fs:List Nat) (n:Nat) (ds:List D) (cs:List Value),X2 T n fs=some ds→cs.length=szs T fs→(∀ (j f m:Nat) (d:D),m≤n→fs[j]? = some f→X1 T m f=some d→∃ y,RV T e [f] [y] ((cs.drop (szs T (fs.take j))).take (B9 T f))∧d.sm y)→∃ ys,RV T e fs ys cs∧D.smL ds ys:=by
 intro fs
 induction fs with
 | nil =>
  intro n ds cs hd hl _
  have:cs=[]:=List.eq_nil_of_length_eq_zero hl
  subst this
  rw [X2] at hd;cases hd
  exact ⟨[],.nil,trivial⟩
 | cons f r ih =>
  intro n ds cs hd hl hp
  cases n with
  | zero=>rw [X2] at hd;cases hd
  | succ n =>
  rw [X2] at hd
  split at hd<;>try (cases hd;done)
  rename_i d hd1
  split at hd<;>cases hd
  rename_i ds' hds
  simp only [szs] at hl
  obtain ⟨y,hy,hq⟩:=hp 0 f n d (by omega) rfl hd1
  simp only [List.take_zero,szs,List.drop_zero] at hy
  obtain ⟨ys,h2,h3⟩:=ih n ds' (cs.drop (B9 T f)) hds (by rw [List.length_drop];omega) (fun j g m d' hm hj hd'=>by
   obtain ⟨z,hz,hqz⟩:=hp (j+1) g m d' (by omega) (by simpa using hj) hd'
   refine ⟨z,?_,hqz⟩
   rw [List.drop_drop]
   simpa only [List.take_succ_cons,szs] using hz)
  refine ⟨y::ys,?_,hq,h3⟩
  have:=RV.append hy h2
  rw [List.take_append_drop] at this
  exact this
theorem C2M (hT:L8 T P):∀ (n m:Nat),m≤n→∀ (t:Nat) (d:D),X1 T m t=some d→∀ (fuel:Nat) (cs:List Value) (x:DataW H×List MemPlace),DataW.trod enc P w 0 (fun _=>true) true fuel t cs=some x→∃ y,RV T (R9 w) [t] [y] cs∧d.sm y:=by
 intro n
 induction n with
 | zero=>intro m hm t d h;obtain rfl:m=0:=by omega
         rw [X1] at h;cases h
 | succ n ih =>
  intro m hm t d h fuel cs x hx
  cases m with
  | zero=>rw [X1] at h;cases h
  | succ m =>
  have hm:m≤n:=by omega
  rw [X1] at h
  split at h
  ·rename_i k hk
   obtain ⟨te,h1,h2⟩:=B1 hk
   obtain ⟨v,rfl,_,hw⟩:=DataW.trod_int (T6 (hT _ _ h1) h2) hx
   cases h;exact ⟨.i v,.int hk (hT.sz1 hk rfl (by intro h;cases h)) (C7v hw) .nil,trivial⟩
  ·rename_i hk
   obtain ⟨te,h1,h2⟩:=B1 hk
   obtain ⟨b,rfl,_⟩:=DataW.trod_bool (A0U (hT _ _ h1) h2) hx
   cases h;exact ⟨.b b,.bool hk (hT.sz1 hk rfl (by intro h;cases h)) .nil,trivial⟩
  ·rename_i hk
   obtain ⟨te,h1,h2⟩:=B1 hk
   obtain ⟨s,rfl,_,hsz⟩:=DataW.trod_string (P9 (hT _ _ h1) h2) hx
   cases h
   refine ⟨.s (txt s),.str hk (hT.sz1 hk rfl (by intro h;cases h)) .nil,?_⟩
   show (txt s).length≤ML
   unfold txt
   rw [D2L,D2O]
   exact Nat.le_trans hsz (by decide)
  ·rename_i el hk
   split at h<;>cases h
   rename_i d hd
   obtain ⟨te,h1,h2⟩:=B1 hk
   have hz1:=hT.sz1 hk rfl (by intro h;cases h)
   rcases DataW.trod_slice (H1 (hT _ _ h1) h2) hx with ⟨rfl,_⟩ | ⟨a,len,cap,elems,rest,k,_,rfl,_,_,hcap,hmx,hel,he,_,_⟩
   ·exact ⟨.n,.nils hk hz1 .nil,Nat.zero_le _,fun y hy=>by cases hy⟩
   ·have hsz:P.cellsOf el=B9 T el:=by
     cases hke:D4 T el with
     | none=>cases m with
      | zero=>rw [X1] at hd;cases hd
      | succ m=>rw [X1,hke] at hd;cases hd
     | some ke=>exact hT.cells hke
    rw [hsz] at he
    have key:∀ i,i < len→∃ l y,l.length=B9 T el∧(∀ k,k < B9 T el→w.cell? (a.add (i * B9 T el+k))=l[k]?)∧RV T (R9 w) [el] [y] l∧d.sm y:=fun i hi=>by
     have h3:=he i hi
     rw [D2U (by omega)] at h3
     obtain ⟨l,g1,g2⟩:=Option.bind_eq_some_iff.1 h3
     obtain ⟨g3,g4⟩:=B4F g1
     obtain ⟨y,hy,hq⟩:=ih m hm el d hd _ _ _ g2
     exact ⟨l,y,g3,fun k hk=>by rw [← g4 k hk,C2L],hy,hq⟩
    have hcell:∀ j,j < len * B9 T el→∃ v,w.cell? (a.add j)=some v:=fun j hj=>by
     have hpos:0 < B9 T el:=by
      rcases Nat.eq_zero_or_pos (B9 T el) with h0 | h0
      ·rw [h0] at hj;omega
      ·exact h0
     have hi:j / B9 T el < len:=Nat.div_lt_of_lt_mul (by rw [Nat.mul_comm];exact hj)
     obtain ⟨l,y,g1,g2,_⟩:=key _ hi
     have hk:=Nat.mod_lt j hpos
     have:=g2 _ hk
     rw [show j / B9 T el * B9 T el+j % B9 T el=j by rw [Nat.mul_comm];exact Nat.div_add_mod j _,D2U (by omega)] at this
     exact ⟨_,this⟩
    let ds:List Value:=(List.range (len * B9 T el)).map fun j=>(w.cell? (a.add j)).getD undef
    have hds:ds.length=len * B9 T el:=by simp [ds]
    have hget:∀ j,j < len * B9 T el→ds[j]? = w.cell? (a.add j):=fun j hj=>by
     obtain ⟨v,hv⟩:=hcell j hj
     simp only [ds,List.getElem?_map,List.getElem?_range hj,Option.map_some,hv,Option.getD_some]
    have hparts:∀ i,i < len→∃ y,RV T (R9 w) [el] [y] ((ds.drop (i * B9 T el)).take (B9 T el))∧d.sm y:=fun i hi=>by
     obtain ⟨l,y,g1,g2,g3,g4⟩:=key i hi
     refine ⟨y,?_,g4⟩
     have:(ds.drop (i * B9 T el)).take (B9 T el)=l:=by
      apply List.ext_getElem?
      intro k
      rcases Nat.lt_or_ge k (B9 T el) with hk | hk
      ·have:(i+1) * B9 T el≤len * B9 T el:=Nat.mul_le_mul_right _ (by omega)
       rw [Nat.succ_mul] at this
       rw [List.getElem?_take_of_lt hk,List.getElem?_drop,hget _ (by omega),g2 k hk]
      ·rw [List.getElem?_eq_none (by simp;omega),List.getElem?_eq_none (by omega)]
     rw [this];exact g3
    obtain ⟨ys,h4,h5,h6⟩:=A9L len ds hds hparts
    refine ⟨.l ys,.slice hk hz1 h4 hcap ⟨fun hne=>?_,fun j y hj=>?_⟩ h5 .nil,?_,h6⟩
    ·have hpos:0 < len * B9 T el:=by
      rcases Nat.eq_zero_or_pos (len * B9 T el) with h0 | h0
      ·exact absurd (List.eq_nil_of_length_eq_zero (hds.trans h0)) hne
      ·exact h0
     obtain ⟨v,hv⟩:=hcell 0 hpos
     simpa [Addr.add] using World.cell?_spot hv
    ·have hjl:j < len * B9 T el:=by rw [← hds];exact (List.getElem?_eq_some_iff.1 hj).1
     rw [hget j hjl] at hj
     refine ⟨hj,?_⟩
     have:=A52 hj
     rw [A1L] at this
     exact this
    ·show ys.length≤ML
     rw [h4];exact Nat.le_trans hcap (Nat.le_trans hmx (by decide))
  ·rename_i k el hk
   split at h<;>cases h
   rename_i d hd
   obtain ⟨te,h1,h2⟩:=B1 hk
   obtain ⟨xs,m',_,_,hl,hn,hi⟩:=DataW.trod_array (T7 (hT _ _ h1) h2) hx
   have hsz:P.cellsOf el=B9 T el:=by
    cases hke:D4 T el with
    | none=>cases m with
     | zero=>rw [X1] at hd;cases hd
     | succ m=>rw [X1,hke] at hd;cases hd
    | some ke=>exact hT.cells hke
   rw [hT.cells hk,hT.szA hk] at hl
   obtain ⟨ys,h4,h5,h6⟩:=A9L (q:=d.sm) k cs hl (fun i h=>by
    have h3:=hi i h
    rw [hsz,D2U (by omega)] at h3
    exact ih m hm el d hd _ _ _ h3)
   refine ⟨.l ys,?_,h6⟩
   have:=RV.arr hk (by rw [hT.szA hk,hl]) h5 (RV.nil (T:=T) (e:=R9 w))
   rwa [List.append_nil] at this
  ·rename_i fs hk
   split at h<;>cases h
   rename_i ds hd
   obtain ⟨te,h1,h2⟩:=B1 hk
   obtain ⟨gs,g1,g2,g3⟩:=Q3 (hT _ _ h1) h2
   obtain ⟨xs,m',_,_,hl,hn,hi⟩:=DataW.trod_struct g1 hx
   rw [hT.cells hk,hT.szS hk] at hl
   obtain ⟨ys,h5,h6⟩:=B4G fs m ds cs hd hl (fun j f m1 d1 hm1 hj hd1=>by
    obtain ⟨g,q1,rfl⟩:=A0B g2 hj
    have h3:=hi j g q1
    have hlt:j < xs.length:=by rw [hn];exact (Array.getElem?_eq_some_iff.1 q1).1
    have hsz:P.cellsOf g.type=B9 T g.type:=by
     cases hke:D4 T g.type with
     | none=>cases m1 with
      | zero=>rw [X1] at hd1;cases hd1
      | succ m1=>rw [X1,hke] at hd1;cases hd1
     | some ke=>exact hT.cells hke
    rw [hsz,g3 j g q1,D2U hlt] at h3
    exact ih m1 (by omega) _ d1 hd1 _ _ _ h3)
   refine ⟨.l ys,?_,h6⟩
   have:=RV.struct hk (by rw [hT.szS hk,hl]) h5 (RV.nil (T:=T) (e:=R9 w))
   rwa [List.append_nil] at this
  ·cases h
theorem B7T (hT:L8 T P) {t m b:Nat} {v:Value} {d:D} (hd:X1 T m t=some d) {r:Reach} (h:Value.okWide P w r b t v):Z8 T t v:=by
 cases m with
 | zero=>rw [X1] at hd;cases hd
 | succ m =>
 have no:∀ {k:TK} {u:TypeDesc},D4 T t=some k→k.agg=false→P.underlying t=some u→(u=.bool∨u=.string∨(∃ k,u=.int k)∨∃ e,u=.slice e)→Z8 T t v:=fun {k u} hk ha hu hc=>by
  refine ⟨fun ⟨k',hk',ha'⟩=>(by rw [hk] at hk';cases hk';rw [ha] at ha';cases ha'),fun ⟨cs,hv⟩=>?_⟩
  subst hv
  rcases hc with rfl | rfl | ⟨k',rfl⟩ | ⟨e',rfl⟩<;>simp [Value.okWide,Cell.okWide,Cell.ok,hu] at h
 rw [X1] at hd
 split at hd
 ·rename_i k hk;obtain ⟨te,h1,h2⟩:=B1 hk
  exact no hk rfl (T6 (hT _ _ h1) h2) (.inr (.inr (.inl ⟨_,rfl⟩)))
 ·rename_i hk;obtain ⟨te,h1,h2⟩:=B1 hk
  exact no hk rfl (A0U (hT _ _ h1) h2) (.inl rfl)
 ·rename_i hk;obtain ⟨te,h1,h2⟩:=B1 hk
  exact no hk rfl (P9 (hT _ _ h1) h2) (.inr (.inl rfl))
 ·rename_i el hk;obtain ⟨te,h1,h2⟩:=B1 hk
  exact no hk rfl (H1 (hT _ _ h1) h2) (.inr (.inr (.inr ⟨_,rfl⟩)))
 ·rename_i k el hk;obtain ⟨te,h1,h2⟩:=B1 hk
  have hu:=T7 (hT _ _ h1) h2
  unfold Value.okWide at h
  rw [hu] at h
  obtain ⟨cs,rfl,_⟩:=h
  exact ⟨fun _=>⟨cs,rfl⟩,fun _=>⟨_,hk,rfl⟩⟩
 ·rename_i fs hk;obtain ⟨te,h1,h2⟩:=B1 hk
  obtain ⟨gs,hu,_⟩:=Q3 (hT _ _ h1) h2
  unfold Value.okWide at h
  rw [hu] at h
  obtain ⟨cs,rfl,_⟩:=h
  exact ⟨fun _=>⟨cs,rfl⟩,fun _=>⟨_,hk,rfl⟩⟩
 ·cases hd
theorem B4H (hT:L8 T P) {r:Reach} {b:Nat}:∀ (ts:List Nat) {n:Nat} {Ds:List D} (vs:List Value) {ds:List (DataW H)} {ps:List MemPlace},X2 T n ts=some Ds→DataW.TrodAll enc P w 0 (fun _=>true) true ts vs ds ps →
  (∀ (j:Nat) t v,ts[j]? = some t→vs[j]? = some v→Value.okWide P w r b t v)→∃ xs,RP T (R9 w) ts xs vs∧D.smL Ds xs:=by
 intro ts
 induction ts with
 | nil =>
  intro n Ds vs ds ps _ h _
  cases vs with
  | nil=>exact ⟨[],.nil,by cases Ds<;>exact trivial⟩
  | cons v vs=>cases ds<;>exact h.elim
 | cons t ts ih =>
  intro n Ds vs ds ps hd h hv
  cases vs with
  | nil=>cases ds<;>exact h.elim
  | cons v vs =>
   cases ds with
   | nil=>exact h.elim
   | cons d ds =>
    obtain ⟨p,q,⟨fuel,h1⟩,h2,_⟩:=h
    cases n with
    | zero=>rw [X2] at hd;cases hd
    | succ n =>
     rw [X2] at hd
     split at hd<;>try (cases hd;done)
     rename_i D hD
     split at hd<;>cases hd
     rename_i Ds' hDs
     obtain ⟨y,hy,hq⟩:=C2M hT n n (Nat.le_refl _) t D hD fuel _ _ h1
     obtain ⟨xs,hxs,hqs⟩:=ih vs hDs h2 (fun j t v h1 h2=>hv (j+1) t v (by simpa using h1) (by simpa using h2))
     exact ⟨y::xs,.cons hy (B7T hT hD (hv 0 t v rfl rfl)) hxs,hq,hqs⟩
end
def A9M:W8→Option Unit:=fun out=>bif B9o true (some out) then some () else none
theorem C7w {s:E5} (hn:s.nat) {args:List A} (h:s Unit args (fun _=>none) 0 A9M=some ()):B9o true (s.dir args (fun _=>none) 0)=true:=by
 rw [hn] at h
 obtain ⟨out,h1,h2⟩:=A3D h
 rw [h1]
 unfold A9M at h2
 cases hq:B9o true (some out) with
 | true=>rfl
 | false=>rw [hq] at h2;cases h2
theorem B4I (hT:L8 T P) {f:FuncId} {fn:Func} {code:Code} {s:E5} (hf:P.funcs[f]? = some fn) (hb:fn.body=some code) (hn:(fn.name == "runtime.NumGoroutine")=false) (hs:N4 P T f s.dir) (hnat:s.nat) {ts:List Nat} (hts:ts.all (fun t=>(T t).isSome)=true) (n:Nat) {Ds:List D} (hd:X2 T n ts=some Ds)
  (hrun:∀ xs,D.hasL Ds xs→D.smL Ds xs→s Unit (G2 T ts xs) (fun _=>none) 0 A9M=some ()) {w:World} {vals:Array Value} (ha:∃ xs,RP T (R9 w) ts xs vals.toList∧D.smL Ds xs):Calls P f vals w fun en w'=>en=.returned (.bool true)∧B0p w w':=by
 obtain ⟨xs,hx,hq⟩:=ha
 exact A85 hf hb hn hs (C7w hnat (hrun xs (TV.has n ⟨_,_,hx⟩ hd) hq)) (hx.reps hts)
theorem A3t (a b:Nat):B5 (a:Int) (b:Int)=decide (a < b):=by
 simp only [B5,iltN_dec]
 rw [Bool.eq_iff_iff,D2T,D2T];omega
variable {R:Type}
variable {R:Type}
theorem S7 {l:V} {a r:List V} {x:V} (h:l.els=a++x::r):l.nth ((a.length:Nat):Int).toNat=x:=by
 unfold V.nth
 rw [h];simp
variable {P:Program} {T:TT} {R:Type} {c:L0} {e e':A9} {of:Nat→Option Ob}
section
variable (ρ:Nat→Nat) (τ:Nat→Nat→Option Nat)
def rnV (id ver:Nat) (k:Nat→A):A :=
 match τ id ver with
 | some v=>k v
 | none=>.x
mutual
def rnA:A→A
 | .p id t path=>.p (ρ id) t path
 | .e id ver i t path=>rnV τ id ver fun v=>.e (ρ id) v i t path
 | .o id ver=>rnV τ id ver fun v=>.o (ρ id) v
 | .w id ver off n=>rnV τ id ver fun v=>.w (ρ id) v off n
 | .a id t path lo m=>.a (ρ id) t path lo m
 | .m id=>.m (ρ id)
 | .y id=>.y (ρ id)
 | .f fn l=>.f fn (rnL l)
 | .g t l=>.g t (rnL l)
 | .t l=>.t (rnL l)
 | a=>a
def rnL:List A→List A
 | []=>[]
 | a::r=>rnA a::rnL r
end
def rnE:List (V×A)→List (V×A)
 | []=>[]
 | p::r=>(p.1,rnA ρ τ p.2)::rnE r
def rnO (id:Nat):Ob→Ob
 | .box t a sh=>.box t (rnA ρ τ a) sh
 | .row el ver xs nl sh=>.row el (match τ id ver with | some v=>v | none=>0) xs nl sh
 | .map kt et es=>.map kt et (rnE ρ τ es)
 | .vm kt et es=>.vm kt et es
 | .sm kt st el es ho=>.sm kt st el es ho
 | .it (some m)=>.it (some (ρ m))
 | .it none=>.it none
 | .lp q=>.lp none
end
def okT:Ob→Bool
 | .lp (some _)=>false
 | _=>true
structure REN (e e':A9) (ρ:Nat→Nat) (τ:Nat→Nat→Option Nat) (D:Nat→Prop):Prop where
 w:e'.w=e.w
 S:∀ b i,e'.S b i↔e.S b i
 use:∀ id,D id→e.U id→e'.U (ρ id)
 ι:∀ id,D id→e.U id→e'.ι (ρ id)=e.ι id
 ty:∀ id,D id→e.U id→e'.ty (ρ id)=e.ty id
 ln:∀ id,D id→e.U id→e'.ln (ρ id)=e.ln id
 bn0:∀ id,D id→e.U id→e.bn id=0→e'.bn (ρ id)=0
 ver:∀ id ver v,D id→e.U id→τ id ver=some v→0 < ver→ver≤e.bn id→0 < v∧v≤e'.bn (ρ id)∧(e'.bn (ρ id)=v→e.bn id=ver)
 G:∀ id a o b,D id→e.U id→e.ι id=some (a,o)→e.G a b→e'.G a b
variable {ρ:Nat→Nat} {τ:Nat→Nat→Option Nat} {D:Nat→Prop}
theorem REN.fz (h:REN e e' ρ τ D) {a:Addr} {ds:List Value} (q:Fz e a ds):Fz e' a ds:=⟨q.1,fun j y hj=>by
 obtain ⟨p1,p2⟩:=q.2 j y hj
 rw [h.w];exact ⟨p1,(h.S _ _).2 p2⟩⟩
theorem REN.rv (h:REN e e' ρ τ D) {ts:List Nat} {xs:List V} {cs:List Value} (q:RV T e ts xs cs):RV T e' ts xs cs:=q.change fun _ _=>h.fz
theorem R1.ren (h:REN e e' ρ τ D) {a:A} {v:Value} (q:R1 T e a v) (ho:one v=true) (hd:∀ id∈E4 a,D id):R1 T e' (rnA ρ τ a) v:=by
 cases a with
 | x=>exact q
 | p id t path =>
  obtain ⟨b,off,h1,h2,h3,h4,h5⟩:=q
  have d:=hd id (by simp [E4])
  exact ⟨b,off,h.use _ d h1,h.bn0 _ d h1 h2,(h.ι _ d h1).trans h3,by rw [h.ty _ d h1];exact h4,h5⟩
 | a id t path lo m =>
  obtain ⟨b,off,n,el,k,cap,h1,h2,h3,h4,h5⟩:=q
  have d:=hd id (by simp [E4])
  exact ⟨b,off,n,el,k,cap,h.use _ d h1,h.bn0 _ d h1 h2,(h.ι _ d h1).trans h3,by rw [h.ty _ d h1];exact h4,h5⟩
 | m id =>
  obtain ⟨b,h1,h2,h3,h4⟩:=q
  have d:=hd id (by simp [E4])
  exact ⟨b,h.use _ d h1,h.bn0 _ d h1 h2,(h.ι _ d h1).trans h3,h4⟩
 | y id =>
  obtain ⟨b,h1,h2,h3,h4⟩:=q
  have d:=hd id (by simp [E4])
  exact ⟨b,h.use _ d h1,h.bn0 _ d h1 h2,(h.ι _ d h1).trans h3,h4⟩
 | e id ver i t path =>
  obtain ⟨h0,h1,h2,h3,h4⟩:=q
  have d:=hd id (by simp [E4])
  simp only [rnA,rnV]
  cases hv:τ id ver with
  | none=>exact ho
  | some v' =>
   obtain ⟨v1,v2,v3⟩:=h.ver _ _ _ d h1 hv h3 h2
   refine ⟨h0,h.use _ d h1,v2,v1,fun hb=>?_⟩
   obtain ⟨b,o,off,g1,g2,g3,g4⟩:=h4 (v3 hb)
   exact ⟨b,o,off,(h.ι _ d h1).trans g1,by rw [h.ty _ d h1];exact g2,by rw [h.ln _ d h1];exact g3,by rw [h.ty _ d h1];exact g4⟩
 | o id ver =>
  obtain ⟨h0,h1,h2,h3,h4⟩:=q
  have d:=hd id (by simp [E4])
  simp only [rnA,rnV]
  cases hv:τ id ver with
  | none=>exact ho
  | some v' =>
   obtain ⟨v1,v2,v3⟩:=h.ver _ _ _ d h1 hv h3 h2
   refine ⟨h0,h.use _ d h1,v2,v1,fun hb=>?_⟩
   rcases h4 (v3 hb) with ⟨g1,g2,g3⟩ | ⟨b,o,cap,k,g1,g2,g3,g5,g4⟩
   ·exact .inl ⟨(h.ι _ d h1).trans g1,by rw [h.ln _ d h1];exact g2,g3⟩
   ·exact .inr ⟨b,o,cap,k,(h.ι _ d h1).trans g1,by rw [h.ln _ d h1];exact g2,by rw [h.ty _ d h1,h.w];exact g3,g5,by rw [h.ln _ d h1];exact g4⟩
 | w id ver off n =>
  obtain ⟨h0,h1,h2,h3,h4⟩:=q
  have d:=hd id (by simp [E4])
  simp only [rnA,rnV]
  cases hv:τ id ver with
  | none=>exact ho
  | some v' =>
   obtain ⟨v1,v2,v3⟩:=h.ver _ _ _ d h1 hv h3 h2
   refine ⟨h0,h.use _ d h1,v2,v1,fun hb=>?_⟩
   obtain ⟨b,o,cap,k,g1,g2,g3,g4,g5,g6⟩:=h4 (v3 hb)
   exact ⟨b,o,cap,k,(h.ι _ d h1).trans g1,g2,by rw [h.ln _ d h1];exact g3,by rw [h.ty _ d h1,h.w];exact g4,by rw [h.ty _ d h1];exact g5,g6⟩
 | _=>exact q.elim
theorem A8E {t:Nat} {a:A}:D3 T t a=true→D3 T t (rnA ρ τ a)=true:=by
 cases a with
 | e id ver i t' path=>intro h;simp only [rnA,rnV];cases τ id ver<;>exact h
 | o id ver=>intro h;simp only [rnA,rnV];cases τ id ver<;>exact h
 | w id ver off n=>intro h;simp only [rnA,rnV];cases τ id ver<;>exact h
 | _=>exact fun h=>h
theorem C2N:∀ {ts:List Nat} {l:List A},Y6 T ts l=true→Y6 T ts (rnL ρ τ l)=true:=by
 intro ts
 induction ts with
 | nil=>intro l h;cases l with
  | nil=>rfl
  | cons _ _=>cases h
 | cons t ts ih=>intro l h;cases l with
  | nil=>cases h
  | cons a l =>
   simp only [rnL,Y6,D2I] at h ⊢
   exact ⟨A8E h.1,ih h.2⟩
theorem RA.ren (h:REN e e' ρ τ D) {l:List A} {cs:List Value} (q:RA T e l cs):(∀ id∈F3 l,D id)→RA T e' (rnL ρ τ l) cs:=by
 induction q with
 | nil=>intro _;exact .nil
 | i hr _ ih=>intro hd;exact .i hr (ih fun id A2=>hd id (by simpa [F3,E4] using A2))
 | b _ ih=>intro hd;exact .b (ih fun id A2=>hd id (by simpa [F3,E4] using A2))
 | s _ ih=>intro hd;exact .s (ih fun id A2=>hd id (by simpa [F3,E4] using A2))
 | z h1 _ ih=>intro hd;exact .z h1 (ih fun id A2=>hd id (by simpa [F3,E4] using A2))
 | v h1 _ ih=>intro hd;exact .v (h.rv h1) (ih fun id A2=>hd id (by simpa [F3,E4] using A2))
 | c h1 h2 _ ih=>intro hd;exact .c (h.rv h1) (h.fz h2) (ih fun id A2=>hd id (by simpa [F3,E4] using A2))
 | q h1 _ ih=>intro hd;exact .q (h.rv h1) (ih fun id A2=>hd id (by simpa [F3,E4] using A2))
 | f _ _ ih1 ih=>intro hd;exact .f (ih1 fun id A2=>hd id (by simp [F3,E4,A2])) (ih fun id A2=>hd id (by simp [F3,A2]))
 | g h1 h2 h3 _ _ ih1 ih=>intro hd;exact .g h1 (C2N h2) h3 (ih1 fun id A2=>hd id (by simp [F3,E4,A2])) (ih fun id A2=>hd id (by simp [F3,A2]))
 | r h1 h2 _ ih=>intro hd;exact .r (h1.ren h h2 fun id A2=>hd id (by simp [F3,A2])) h2 (ih fun id A2=>hd id (by simp [F3,A2]))
theorem H6.ren (h:REN e e' ρ τ D) {a:A} {v:Value} (q:H6 T e a v) (hd:∀ id∈E4 a,D id):H6 T e' (rnA ρ τ a) v:=by
 have one:∀ {b:A},RA T e [b] [v]→(∀ id∈E4 b,D id)→RA T e' [rnA ρ τ b] [v]:=fun g hb=>RA.ren h g fun id A2=>hb id (by simpa [F3] using A2)
 cases a with
 | x=>trivial
 | t l=>exact q.elim
 | v t y=>exact ⟨h.rv q.1,q.2⟩
 | g t l=>exact ⟨RA.ren h q.1 fun id A2=>hd id (by simpa [F3] using A2),q.2⟩
 | e id ver i t path =>
  have:=one (b:=.e id ver i t path) q hd
  simp only [rnA,rnV] at this ⊢
  cases hv:τ id ver with
  | none=>trivial
  | some v'=>rw [hv] at this;exact this
 | o id ver =>
  have:=one (b:=.o id ver) q hd
  simp only [rnA,rnV] at this ⊢
  cases hv:τ id ver with
  | none=>trivial
  | some v'=>rw [hv] at this;exact this
 | w id ver off n =>
  have:=one (b:=.w id ver off n) q hd
  simp only [rnA,rnV] at this ⊢
  cases hv:τ id ver with
  | none=>trivial
  | some v'=>rw [hv] at this;exact this
 | i k n=>exact one (b:=.i k n) q hd
 | b y=>exact one (b:=.b y) q hd
 | s l=>exact one (b:=.s l) q hd
 | z y=>exact one (b:=.z y) q hd
 | p id t path=>exact one (b:=.p id t path) q hd
 | c t y=>exact one (b:=.c t y) q hd
 | q t y=>exact one (b:=.q t y) q hd
 | a id t path lo m=>exact one (b:=.a id t path lo m) q hd
 | m id=>exact one (b:=.m id) q hd
 | y id=>exact one (b:=.y id) q hd
 | f fn l=>exact one (b:=.f fn l) q hd
theorem C2O:∀ {l:List A} {k:Nat} {v:A},(rnL ρ τ l)[k]? = some v→∃ a,l[k]? = some a∧v=rnA ρ τ a:=by
 intro l
 induction l with
 | nil=>intro k v h;simp [rnL] at h
 | cons a l ih =>
  intro k v h
  cases k with
  | zero=>simp [rnL] at h;exact ⟨a,rfl,h.symm⟩
  | succ k=>exact ih (by simpa [rnL] using h)
theorem C2P:∀ {l:List A},(rnL ρ τ l).length=l.length:=by
 intro l
 induction l with
 | nil=>rfl
 | cons a l ih=>simp [rnL,ih]
theorem B7U:∀ {l:List A} {k:Nat} {a:A},l[k]? = some a→∀ id∈E4 a,id∈F3 l:=by
 intro l
 induction l with
 | nil=>intro k a h;simp at h
 | cons b l ih =>
  intro k a h id A2
  cases k with
  | zero=>simp at h;subst h;simp [F3,A2]
  | succ k=>simp [F3,ih (by simpa using h) id A2]
theorem B7V {e:A9} {a:A} {v:Value} (h:H6 T e a v):C3 T e a v:=by
 cases a with
 | t l=>exact h.elim
 | _=>exact h
theorem C3.ren (h:REN e e' ρ τ D) {a:A} {v:Value} (q:C3 T e a v) (hd:∀ id∈E4 a,D id):C3 T e' (rnA ρ τ a) v:=by
 by_cases ht:∃ l,a=.t l
 ·obtain ⟨l,rfl⟩:=ht
  obtain ⟨xs,rfl,h2,h3⟩:=q
  refine ⟨xs,rfl,by rw [C2P];exact h2,fun k v x hv hx=>?_⟩
  obtain ⟨b,hb,rfl⟩:=C2O hv
  exact (h3 k b x hb hx).ren h fun id A2=>hd id (by simp only [E4];exact B7U hb id A2)
 ·exact B7V ((A5e q fun l hl=>ht ⟨l,hl⟩).ren h hd)
theorem U3.ren (h:REN e e' ρ τ D) {l:List A} {vs:List Value} (q:U3 T e l vs):(∀ id∈F3 l,D id)→U3 T e' (rnL ρ τ l) vs:=by
 induction q with
 | nil=>intro _;exact .nil
 | cons h1 _ ih=>intro hd;exact .cons (h1.ren h fun id A2=>hd id (by simp [F3,A2])) (ih fun id A2=>hd id (by simp [F3,A2]))
theorem MR.ren (h:REN e e' ρ τ D) {kt et:Nat} {es:List (V×A)} {ms:List MapEntry} (q:MR T e kt et es ms):(∀ id∈A2w es,D id)→MR T e' kt et (rnE ρ τ es) ms:=by
 induction q with
 | nil=>intro _;exact .nil
 | cons h1 h2 h3 _ ih =>
  intro hd
  exact .cons (show H6 T e' (.v _ _) _ from ⟨h.rv h1.1,h1.2⟩) (h2.ren h fun id A2=>hd id (by simp [A2w,A2])) (A8E h3) (ih fun id A2=>hd id (by simp [A2w,A2]))
theorem A3u:∀ l:List (V×A),rnE ρ τ l=l.map fun p=>(p.1,rnA ρ τ p.2):=by
 intro l
 induction l with
 | nil=>rfl
 | cons p r ih=>simp [rnE,ih]
theorem B7W {et:Nat}:∀ es:List (V×V),A2w (vms et es)=[]:=by
 intro es
 induction es with
 | nil=>rfl
 | cons p r ih=>simp only [vms,A2w,E4,ih,List.nil_append]
theorem C2Q {et:Nat}:∀ es:List (V×V),rnE ρ τ (vms et es)=vms et es:=by
 intro es
 induction es with
 | nil=>rfl
 | cons p r ih=>simp only [vms,rnE,ih];rfl
theorem OK.ren (h:REN e e' ρ τ D) {id:Nat} {o:Ob} (q:OK T e id o) (di:D id) (hd:∀ k∈A12 o,D k) (ho:okT o=true)
  (hv:∀ el ver xs nl sh,o=.row el ver xs nl sh→∃ v,τ id ver=some v∧e'.bn (ρ id)=v):OK T e' (ρ id) (rnO ρ τ id o):=by
 cases o with
 | box t a sh =>
  obtain ⟨h1,h2,h2',h2'',b,cs,ty,fz,h3,h4,h5,h5',h6,h7⟩:=q
  refine ⟨h.use _ di h1,h.bn0 _ di h1 h2,(h.ty _ di h1).trans h2',A8E h2'',b,cs,ty,fz,(h.ι _ di h1).trans h3,by rw [h.w];exact h4,?_,h5',RA.ren h h6 (fun k hk=>hd k (by simpa [F3,A12] using hk)),fun hh i hc=>h7 hh i ((h.S _ _).1 hc)⟩
  unfold A1h at h5 ⊢;rw [h.w];exact h5
 | row el ver xs nl sh =>
  obtain ⟨h1,h2,h3,h4,h4',h5,h6⟩:=q
  obtain ⟨v,hτ,hbv⟩:=hv _ _ _ _ _ rfl
  obtain ⟨v1,v2,v3⟩:=h.ver _ _ _ di h1 hτ h2 (by omega)
  simp only [rnO,hτ]
  refine ⟨h.use _ di h1,v1,hbv,(h.ty _ di h1).trans h4,(h.ln _ di h1).trans h4',h5,?_⟩
  rcases h6 with ⟨g1,g2,g3⟩ | ⟨nn',b,o,cs,t,fz,pre,ys,post,g1,g2,g3,g4,g5,g6,g7,g8⟩
  ·exact .inl ⟨g1,(h.ι _ di h1).trans g2,g3⟩
  ·refine .inr ⟨nn',b,o,cs,t,fz,pre,ys,post,(h.ι _ di h1).trans g1,by rw [h.w];exact g2,?_,g4,g5,h.rv g6,fun i hi hc=>g7 i hi ((h.S _ _).1 hc),fun hh i hi hc=>g8 hh i hi ((h.S _ _).1 hc)⟩
   unfold A1h at g3 ⊢;rw [h.w];exact g3
 | map kt et es =>
  obtain ⟨h1,h2,b,ms,clock,h3,h4,⟨h5,h5'⟩,es',h6,h7⟩:=q
  refine ⟨h.use _ di h1,h.bn0 _ di h1 h2,b,ms,clock,(h.ι _ di h1).trans h3,by rw [h.w];exact h4,⟨by rw [A3u,List.map_map];exact h5,h5'⟩,rnE ρ τ es',by rw [A3u,A3u];exact h6.map _,h7.ren h fun k hk=>hd k (A4A h6.symm k hk)⟩
 | vm kt et es =>
  obtain ⟨h1,h2,b,ms,clock,h3,h4,⟨h5,h5'⟩,es',h6,h7⟩:=q
  refine ⟨h.use _ di h1,h.bn0 _ di h1 h2,b,ms,clock,(h.ι _ di h1).trans h3,by rw [h.w];exact h4,⟨h5,h5'⟩,rnE ρ τ es',by rw [← C2Q (ρ:=ρ) (τ:=τ) es,A3u,A3u];exact h6.map _,h7.ren h fun k hk=>by
   have:=A4A h6.symm k hk
   rw [B7W] at this;cases this⟩
 | sm kt st el es ho' =>
  obtain ⟨h1,h2,ha,hb',hc,b,ms,clock,h3,h4,h5,es',bs,h6,h7⟩:=q
  refine ⟨h.use _ di h1,h.bn0 _ di h1 h2,ha,hb',hc,b,ms,clock,(h.ι _ di h1).trans h3,by rw [h.w];exact h4,h5,es',bs,h6,SR.move (e:=e) (e':=e') (fun a ds=>h.fz) h.w (fun b i=>(h.S b i).1) (fun b' hG=>h.G id b 0 b' di h1 h3 hG) h7⟩
 | lp q' =>
  cases q' with
  | none =>
   obtain ⟨h1,h2,b,h3,h4⟩:=q
   exact ⟨h.use _ di h1,h.bn0 _ di h1 h2,b,(h.ι _ di h1).trans h3,by rw [h.w];exact h4⟩
  | some r=>cases ho
 | it q' =>
  cases q' with
  | none =>
   obtain ⟨h1,h2,b,x,y,z,h3,h4⟩:=q
   exact ⟨h.use _ di h1,h.bn0 _ di h1 h2,b,x,y,z,(h.ι _ di h1).trans h3,by rw [h.w];exact h4⟩
  | some m =>
   obtain ⟨h1,h2,b,bm,x,z,h3,h4,h5,h6,h7⟩:=q
   have dm:=hd m (by simp [A12])
   exact ⟨h.use _ di h1,h.bn0 _ di h1 h2,b,bm,x,z,(h.ι _ di h1).trans h3,by rw [h.w];exact h4,h.use _ dm h5,h.bn0 _ dm h5 h6,(h.ι _ dm h5).trans h7⟩
end Go.Vm
end