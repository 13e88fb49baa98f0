/- What the operations of a program do, shown once for all programs; and numbers. -/
import Derived.Test.YtgnfgafiegimoaaVm8
import Derived.Test.YtgnfgafiegimoaaVm7
import Derived.Laws.Externs
import Derived.Lib.Bytealg
import Derived.OpenShut
import Derived.WalkKit
import Derived.ProofKit
import Derived.JoinedOf
import Derived.ChangeShapes
set_option linter.constructorNameAsVariable false
set_option linter.unusedVariables false
set_option linter.unusedSimpArgs false
noncomputable section
namespace Go.Vm
open Go.RowKit
variable {T:TT} {R:Type} {P:Program}
abbrev ln {R:Type} (n:Nat) (k:Option R):Option R:=bif Nat.ble n 9223372036854775807 then k else none
abbrev lim {R:Type} (n:Nat) (k:Option R):Option R:=bif Nat.ble n LIM then k else none
def gtL (l:List V) (i:Int):Int:=(l.getD i.toNat .n).int
def T4 (a b:Int):Int:=F7 .xor .u64 a b
def A0P (a b:Int):Int:=F7 .and .u64 a b
def rtU (x:Int) (n:Nat):Int:=(F7 .or .u64 (x.fdiv (2 ^ n)) (WU (x * 2 ^ (32 - n)))).tmod 4294967296
def C39 (x:Int):Int:=T4 (T4 (rtU x 7) (rtU x 18)) (x.fdiv (2 ^ 3))
def C4a (x:Int):Int:=T4 (T4 (rtU x 17) (rtU x 19)) (x.fdiv (2 ^ 10))
def B6N (xs:List V) (i:Int):Int:=WU (WU (256 * WU (WU (256 * WU (WU (256 * WU (WU (256 * 0)+WU (gtL xs (B1 (i+0)))))+WU (gtL xs (B1 (i+1)))))+WU (gtL xs (B1 (i+2)))))+WU (gtL xs (B1 (i+3))))
def sh8:Nat→V→V
 | 0,x=>x
 | j+1,x=>sh8 j (x.put (j+1) (.i (elV x j)))
def C5C (x:V) (k w:Int):V :=
 let e:=elV x 4
 let a:=elV x 0
 let t:=(WU (WU (WU (WU (elV x 7+T4 (T4 (rtU e 6) (rtU e 11)) (rtU e 25))+T4 (A0P e (elV x 5)) (A0P (WU (4294967295 - e)) (elV x 6)))+k)+w)).tmod 4294967296
 let small:=T4 (T4 (rtU a 2) (rtU a 13)) (rtU a 22)
 let most:=T4 (T4 (A0P a (elV x 1)) (A0P a (elV x 2))) (A0P (elV x 1) (elV x 2))
 let y:=(sh8 7 x).put 4 (.i ((WU (elV (sh8 7 x) 4+t)).tmod 4294967296))
 y.put 0 (.i ((WU (WU (t+small)+most)).tmod 4294967296))
def ad8:Nat→Nat→V→V→V
 | 0,_,v,_=>v
 | m+1,j,v,x=>ad8 m (j+1) (v.put j (.i ((WU (elV v j+elV x j)).tmod 4294967296))) x
inductive B4C where
 | m (b:V) (xs:List V)
inductive C4b where
 | o (b:V) (xs:List V)
def C0B (R:Type) (p:B4C) (K:B4C→Option R) (kx:C4b→Option R):Option R :=
 match p with
 | .m b xs =>
  ln xs.length <| bif !(ieq ((xs.length:Int).tmod 64) 56) then lim (xs.length+1) <| K (.m b (xs++[.i 0])) else kx (.o b xs)
inductive B4D where
 | m (z:V) (v:V) (xs:List V) (kk:V) (at_:Int) (ws:List V) (i:Int)
inductive B6O where
 | o (z:V) (v:V) (xs:List V) (kk:V) (at_:Int) (ws:List V) (i:Int)
def B0U (R:Type) (p:B4D) (K:B4D→Option R) (kx:B6O→Option R):Option R :=
 match p with
 | .m z v xs kk at_ ws i =>
  bif G0 i 64 then
   (bif G0 i 16 then
    ck (B1 (B1 (at_+B1 (4 * i))+0)) xs.length <| ck (B1 (B1 (at_+B1 (4 * i))+1)) xs.length <| ck (B1 (B1 (at_+B1 (4 * i))+2)) xs.length <| ck (B1 (B1 (at_+B1 (4 * i))+3)) xs.length <|
    lim (ws.length+1) <| K (.m z v xs kk at_ (ws++[.i (B6N xs (B1 (at_+B1 (4 * i))))]) (B1 (i+1)))
   else
    ck (B1 (i - 15)) ws.length <| ck (B1 (i - 15)) ws.length <| ck (B1 (i - 15)) ws.length <| ck (B1 (i - 2)) ws.length <| ck (B1 (i - 2)) ws.length <| ck (B1 (i - 2)) ws.length <|
    ck (B1 (i - 16)) ws.length <| ck (B1 (i - 7)) ws.length <| lim (ws.length+1) <|
    K (.m z v xs kk at_ (ws++[.i ((WU (WU (WU (gtL ws (B1 (i - 16))+C39 (gtL ws (B1 (i - 15))))+gtL ws (B1 (i - 7)))+C4a (gtL ws (B1 (i - 2))))).tmod 4294967296)]) (B1 (i+1))))
  else kx (.o z v xs kk at_ ws i)
inductive B4E where
 | m (z:V) (v:V) (xs:List V) (kk:V) (at_:Int) (ws:List V) (x:V) (i:Int)
inductive C0C where
 | o (z:V) (v:V) (xs:List V) (kk:V) (at_:Int) (ws:List V) (x:V) (i:Int)
def B6P (R:Type) (p:B4E) (K:B4E→Option R) (kx:C0C→Option R):Option R :=
 match p with
 | .m z v xs kk at_ ws x i =>
  bif G0 i 64 then ck i 64 <| ck i ws.length <| K (.m z v xs kk at_ ws (C5C x (elV kk i) (gtL ws i)) (B1 (i+1))) else kx (.o z v xs kk at_ ws x i)
inductive B4F where
 | m (z:V) (v:V) (xs:List V) (kk:V) (at_:Int)
inductive C4c where
 | o (z:V) (v:V) (xs:List V) (kk:V) (at_:Int)
def C0D (R:Type) (p:B4F) (K:B4F→Option R) (kx:C4c→Option R):Option R :=
 match p with
 | .m z v xs kk at_ =>
  ln xs.length <| bif G0 at_ xs.length then
   D2 (B0U R) (A3 FU) (.m z v xs kk at_ [] 0) (fun | .o z v xs kk at_ ws _=>D2 (B6P R) (A3 FU) (.m z v xs kk at_ ws v 0) (fun | .o z v xs kk at_ _ x _=>K (.m z (ad8 8 0 v x) xs kk (B1 (at_+64)))))
  else kx (.o z v xs kk at_)
variable {T:TT} {R:Type} {P:Program}
def bt (n:Int) (j:Nat):V:=.i (IntKind.wrap .u8 ((n.fdiv (2 ^ (8 * j))).tmod 256))
def ap8 {R:Type} (n:Int):Nat→List V→(List V→Option R)→Option R
 | 0,xs,k=>k xs
 | j+1,xs,k=>lim (xs.length+1) <| ap8 n j (xs++[bt n j]) k
theorem A2o {n:Nat} {k:Option R} (h:n≤1073741824):lim n k=k:=by
 unfold lim LIM
 rw [C6U h];rfl
theorem A1s {n:Nat} {k:Option R} (h:n≤9223372036854775807):ln n k=k:=by
 unfold ln
 rw [C6U h];rfl
theorem A2H (a b:Nat):(a:Int).tmod (b:Int)=((a % b:Nat):Int):=rfl
theorem V3 {a b:Int} (h:a=b):ieq a b=true:=Z3.2 h
theorem A0C {a b:Int} (h:a≠b):ieq a b=false:=by
 cases hq:ieq a b with
 | false=>rfl
 | true=>exact absurd (Z3.1 hq) h
theorem C5D {b:V}:∀ (m n:Nat) (xs:List V) (k:C4b→Option R),(xs.length+m) % 64=56→m < 64→xs.length+m≤1073741824→m < n →
  D2 (C0B R) n (.m b xs) k=k (.o b (xs++List.replicate m (.i 0))):=by
 intro m
 induction m with
 | zero =>
  intro n xs k h1 h2 h3 h4
  obtain ⟨n,rfl⟩:∃ n',n=n'+1:=⟨n - 1,by omega⟩
  rw [D2]
  show ln xs.length (bif !(ieq ((xs.length:Int).tmod 64) 56) then _ else _)=_
  rw [A1s (by omega),show (64:Int)=((64:Nat):Int) from rfl,A2H,V3 (by omega)]
  simp
 | succ m ih =>
  intro n xs k h1 h2 h3 h4
  obtain ⟨n,rfl⟩:∃ n',n=n'+1:=⟨n - 1,by omega⟩
  rw [D2]
  show ln xs.length (bif !(ieq ((xs.length:Int).tmod 64) 56) then lim (xs.length+1) _ else _)=_
  rw [A1s (by omega),show (64:Int)=((64:Nat):Int) from rfl,A2H,A0C (by omega),A2o (by omega)]
  simp only [Bool.not_false,cond_true]
  rw [ih n (xs++[V.i 0]) k (by simp;omega) (by omega) (by simp;omega) (by omega)]
  simp [List.replicate_succ]
theorem C5E {n:Nat} (j:Nat):bt (n:Int) j=nv (n / 2 ^ (8 * j) % 256):=by
 unfold bt
 rw [A0g,Nat.shiftRight_eq_div_pow,show (256:Int)=((256:Nat):Int) from rfl,A2H]
 have:IntKind.wrap .u8 ((n / 2 ^ (8 * j) % 256:Nat):Int)=((n / 2 ^ (8 * j) % 256:Nat):Int):=by
  have hl:n / 2 ^ (8 * j) % 256 < 256:=Nat.mod_lt _ (by decide)
  unfold IntKind.wrap
  simp [IntKind.bits,IntKind.signed]
 rw [this];rfl
theorem C4d {n:Int}:∀ (j:Nat) (xs:List V) (k:List V→Option R),xs.length+j≤1073741824→ap8 n j xs k=k (xs++((List.range j).reverse.map (bt n))):=by
 intro j
 induction j with
 | zero=>intro xs k h;simp [ap8]
 | succ j ih =>
  intro xs k h
  rw [ap8,A2o (by omega),ih _ _ (by simp;omega)]
  simp [List.range_succ]
def Gpd (el:Nat):FC:=fun R xs k=>match xs with
 | [b]=>lim (([]:List V).length+b.els.length) <| lim (b.els.length+1) <| D2 (C0B R) (A3 FU) (.m b (b.els++[.i 128])) (fun | .o b xs=>ln b.els.length <| ap8 (WU (WU b.els.length * 8)) 8 xs fun xs=>k [.r el xs false])
 | _=>none
def Fpd (el:Nat):FC:=fun R xs k=>match xs with
 | [b]=>bif Nat.ble b.els.length 1000000000 then k [.r el (b.els++(A3h b.els.length).map nv) false] else none
 | _=>none
theorem C0E (el:Nat):FC.nat (Fpd el):=by
 intro R xs k
 unfold Fpd
 split
 ·rename_i b;cases Nat.ble b.els.length 1000000000<;>rfl
 ·rfl
theorem HID:64 < A3 FU:=by rw [A7b];decide
theorem C4e (el:Nat) {b:V} {rs:List Rs} (h:Fpd el (List Rs) [b] some=some rs):Gpd el (List Rs) [b] some=some rs:=by
 simp only [Fpd] at h
 cases hl:Nat.ble b.els.length 1000000000 with
 | false=>rw [hl] at h;cases h
 | true =>
  rw [hl] at h
  have hl:=C6Q hl
  simp only [Gpd]
  have HID:=HID
  rw [A2o (by simp;omega),A2o (by omega),C5D ((119 - b.els.length % 64) % 64) (A3 FU) (b.els++[V.i 128]) _ (by simp;omega) (by omega) (by simp;omega) (by omega)]
  simp only
  rw [A1s (by omega),C4d _ _ _ (by simp;omega)]
  have hw:WU (WU (b.els.length:Int) * 8)=((8 * b.els.length:Nat):Int):=by
   rw [E0 (by omega),show ((b.els.length:Int) * 8)=((8 * b.els.length:Nat):Int) by push_cast;omega,E0 (by omega)]
  rw [hw]
  refine Eq.trans ?_ h
  simp only [cond_true]
  congr 3
  unfold A3h
  generalize 8 * b.els.length=N
  rw [show (List.range 8).reverse=[7,6,5,4,3,2,1,0] from rfl]
  simp only [List.map_cons,List.map_append,List.append_assoc,List.map_replicate,List.cons_append,List.nil_append,List.map_nil,C5E,Nat.mul_zero,Nat.pow_zero,Nat.div_one]
  rfl
variable {T:TT} {R:Type} {P:Program}
theorem A3k {a:Nat} (h:a < N0):a < 18446744073709551616:=Nat.lt_of_lt_of_le h (by decide)
theorem V4 {a b:Nat} (ha:a < N0) (hb:b < N0):T4 (a:Int) (b:Int)=((a ^^^ b:Nat):Int):=A1b (A3k ha) (A3k hb)
theorem A2I {a b:Nat} (ha:a < N0) (hb:b < N0):A0P (a:Int) (b:Int)=((a &&& b:Nat):Int):=A4N (A3k ha) (A3k hb)
theorem A0D {a n:Nat} (h:a < N0) (hn:0 < n) (hn2:n < 32):rtU (a:Int) n=((A2e a n:Nat):Int):=by
 unfold rtU A2e
 have h2:a <<< (32 - n) < 18446744073709551616:=by
  rw [Nat.shiftLeft_eq]
  have:2 ^ (32 - n)≤2 ^ 32:=Nat.pow_le_pow_right (by decide) (by omega)
  have h3:a * 2 ^ (32 - n)≤a * 2 ^ 32:=Nat.mul_le_mul_left _ this
  have h':a < 4294967296:=h
  omega
 rw [A2E,A0g,E0 h2,B4l (A3k (A0A h)) h2,show (4294967296:Int)=((4294967296:Nat):Int) from rfl,A2H]
 congr 1
 rw [show (4294967296:Nat)=2 ^ 32 from rfl,Nat.or_mod_two_pow,show N0=2 ^ 32 from rfl,Nat.mod_eq_of_lt (show a >>> n < 2 ^ 32 from A0A h)]
theorem C0F {a:Nat} (h:a < N0):C39 (a:Int)=((sS0 a:Nat):Int):=by
 unfold C39 sS0
 rw [A0D h (by decide) (by decide),A0D h (by decide) (by decide),A0g,V4 (B7 h) (B7 h),V4 (N1 (B7 h) (B7 h)) (A0A h)]
theorem C0G {a:Nat} (h:a < N0):C4a (a:Int)=((sS1 a:Nat):Int):=by
 unfold C4a sS1
 rw [A0D h (by decide) (by decide),A0D h (by decide) (by decide),A0g,V4 (B7 h) (B7 h),V4 (N1 (B7 h) (B7 h)) (A0A h)]
theorem C4f {a b c:Nat} (ha:a < N0):chN a b c < N0:=by
 unfold chN
 have:4294967295 - a < N0:=by show _ < 4294967296;omega
 exact N1 (P6 ha) (P6 this)
theorem C0H {a b c:Nat} (ha:a < N0) (hb:b < N0):B0E a b c < N0:=by
 unfold B0E
 exact N1 (N1 (P6 ha) (P6 ha)) (P6 hb)
theorem B6Q (n:Nat):(n:Int).tmod 4294967296=((n % 4294967296:Nat):Int):=rfl
theorem C0I {s:S8} (h:OkS s) {k w:Nat} (hk:k < N0) (hw:w < N0):C5C (stV s) (k:Int) (w:Int)=stV (B0F s k w):=by
 have hne:4294967295 - s.e < N0:=by show _ < 4294967296;omega
 have hb1:T4 (T4 (rtU (s.e:Int) 6) (rtU (s.e:Int) 11)) (rtU (s.e:Int) 25)=((bS1 s.e:Nat):Int):=by
  rw [A0D h.e (by decide) (by decide),A0D h.e (by decide) (by decide),A0D h.e (by decide) (by decide),V4 (B7 h.e) (B7 h.e),V4 (N1 (B7 h.e) (B7 h.e)) (B7 h.e)];rfl
 have hb0:T4 (T4 (rtU (s.a:Int) 2) (rtU (s.a:Int) 13)) (rtU (s.a:Int) 22)=((bS0 s.a:Nat):Int):=by
  rw [A0D h.a (by decide) (by decide),A0D h.a (by decide) (by decide),A0D h.a (by decide) (by decide),V4 (B7 h.a) (B7 h.a),V4 (N1 (B7 h.a) (B7 h.a)) (B7 h.a)];rfl
 have hch:T4 (A0P (s.e:Int) (s.f:Int)) (A0P (WU (4294967295 - (s.e:Int))) (s.g:Int))=((chN s.e s.f s.g:Nat):Int):=by
  have he:s.e < 4294967296:=h.e
  rw [show (4294967295 - (s.e:Int))=((4294967295 - s.e:Nat):Int) by omega,E0 (A3k hne),A2I h.e h.f,A2I hne h.g,V4 (P6 h.e) (P6 hne)];rfl
 have hmaj:T4 (T4 (A0P (s.a:Int) (s.b:Int)) (A0P (s.a:Int) (s.c:Int))) (A0P (s.b:Int) (s.c:Int))=((B0E s.a s.b s.c:Nat):Int):=by
  rw [A2I h.a h.b,A2I h.a h.c,A2I h.b h.c,V4 (P6 h.a) (P6 h.a),V4 (N1 (P6 h.a) (P6 h.a)) (P6 h.b)];rfl
 have l1:s.h < 4294967296:=h.h
 have l2:bS1 s.e < 4294967296:=C3M h.e
 have l3:chN s.e s.f s.g < 4294967296:=C4f h.e
 have l4:bS0 s.a < 4294967296:=C3L h.a
 have l5:B0E s.a s.b s.c < 4294967296:=C0H h.a h.b
 have l6:s.d < 4294967296:=h.d
 have hk:k < 4294967296:=hk
 have hw:w < 4294967296:=hw
 have ht:(WU (WU (WU (WU ((s.h:Int)+T4 (T4 (rtU (s.e:Int) 6) (rtU (s.e:Int) 11)) (rtU (s.e:Int) 25))+T4 (A0P (s.e:Int) (s.f:Int)) (A0P (WU (4294967295 - (s.e:Int))) (s.g:Int)))+(k:Int))+(w:Int))).tmod 4294967296=(((s.h+bS1 s.e+chN s.e s.f s.g+k+w) % 4294967296:Nat):Int):=by
  rw [hb1,hch,← Int.natCast_add,E0 (by omega),← Int.natCast_add,E0 (by omega),← Int.natCast_add,E0 (by omega),← Int.natCast_add,E0 (by omega),B6Q]
 show V.l [.i ((WU (WU ((WU (WU (WU (WU ((s.h:Int)+T4 (T4 (rtU (s.e:Int) 6) (rtU (s.e:Int) 11)) (rtU (s.e:Int) 25))+T4 (A0P (s.e:Int) (s.f:Int)) (A0P (WU (4294967295 - (s.e:Int))) (s.g:Int)))+(k:Int))+(w:Int))).tmod 4294967296+T4 (T4 (rtU (s.a:Int) 2) (rtU (s.a:Int) 13)) (rtU (s.a:Int) 22))+T4 (T4 (A0P (s.a:Int) (s.b:Int)) (A0P (s.a:Int) (s.c:Int))) (A0P (s.b:Int) (s.c:Int)))).tmod 4294967296),
  .i s.a,.i s.b,.i s.c,.i ((WU ((s.d:Int)+(WU (WU (WU (WU ((s.h:Int)+T4 (T4 (rtU (s.e:Int) 6) (rtU (s.e:Int) 11)) (rtU (s.e:Int) 25))+T4 (A0P (s.e:Int) (s.f:Int)) (A0P (WU (4294967295 - (s.e:Int))) (s.g:Int)))+(k:Int))+(w:Int))).tmod 4294967296)).tmod 4294967296),.i s.e,.i s.f,.i s.g]=_
 rw [ht,hb0,hmaj,← Int.natCast_add,E0 (by omega),← Int.natCast_add,E0 (by omega),B6Q,← Int.natCast_add,E0 (by omega),B6Q]
 unfold B0F stV
 simp only [M5,nv]
 refine congrArg V.l ?_
 congr 1
 ·congr 1;congr 1;show _=_ % 4294967296;omega
 ·congr 3
  congr 1
  congr 1;congr 1;show _=_ % 4294967296;omega
theorem C4g {s x:S8} (hs:OkS s) (hx:OkS x):ad8 8 0 (stV s) (stV x)=stV (B0G s x):=by
 have q:∀ a b:Nat,a < N0→b < N0→(WU ((a:Int)+(b:Int))).tmod 4294967296=(((a+b) % N0:Nat):Int):=fun a b ha hb=>by
  have ha:a < 4294967296:=ha
  have hb:b < 4294967296:=hb
  rw [← Int.natCast_add,E0 (by omega),B6Q]
 show V.l [.i ((WU ((s.a:Int)+(x.a:Int))).tmod 4294967296),.i ((WU ((s.b:Int)+(x.b:Int))).tmod 4294967296),.i ((WU ((s.c:Int)+(x.c:Int))).tmod 4294967296),.i ((WU ((s.d:Int)+(x.d:Int))).tmod 4294967296),.i ((WU ((s.e:Int)+(x.e:Int))).tmod 4294967296),.i ((WU ((s.f:Int)+(x.f:Int))).tmod 4294967296),.i ((WU ((s.g:Int)+(x.g:Int))).tmod 4294967296),.i ((WU ((s.h:Int)+(x.h:Int))).tmod 4294967296)]=_
 rw [q _ _ hs.a hx.a,q _ _ hs.b hx.b,q _ _ hs.c hx.c,q _ _ hs.d hx.d,q _ _ hs.e hx.e,q _ _ hs.f hx.f,q _ _ hs.g hx.g,q _ _ hs.h hx.h]
 unfold B0G stV
 simp only [M5]
 rfl
theorem A4Y {l:List Nat} {j a:Nat} (h:l[j]? = some a):gtL (l.map nv) (j:Int)=(a:Int):=by
 unfold gtL
 rw [show ((j:Int)).toNat=j from rfl,List.getD,List.getElem?_map,h]
 rfl
theorem A4f {l:List Nat} {q:Nat} (h:q < l.length):gtL (l.reverse.map nv) ((l.length - 1 - q:Nat):Int)=((l.getD q 0:Nat):Int):=by
 have:=A2F (r:=[]) h
 rw [List.append_nil] at this
 exact this
theorem B6R {bs:List Nat} (hb:∀ b∈bs,b < 256) {j b0 b1 b2 b3:Nat} (hj:j < 4611686018427387904) (h0:bs[j]? = some b0) (h1:bs[j+1]? = some b1) (h2:bs[j+2]? = some b2) (h3:bs[j+3]? = some b3) :
  B6N (bs.map nv) (j:Int)=(((((b0 * 256+b1) * 256+b2) * 256+b3:Nat)):Int):=by
 have l0:=hb b0 (List.mem_of_getElem? h0)
 have l1:=hb b1 (List.mem_of_getElem? h1)
 have l2:=hb b2 (List.mem_of_getElem? h2)
 have l3:=hb b3 (List.mem_of_getElem? h3)
 have w:∀ d:Nat,d < 4→B1 ((j:Int)+(d:Int))=((j+d:Nat):Int):=fun d hd=>by rw [G1 (by omega) (by omega)];push_cast;rfl
 have e0:B1 ((j:Int)+0)=((j:Nat):Int):=w 0 (by decide)
 have e1:B1 ((j:Int)+1)=((j+1:Nat):Int):=w 1 (by decide)
 have e2:B1 ((j:Int)+2)=((j+2:Nat):Int):=w 2 (by decide)
 have e3:B1 ((j:Int)+3)=((j+3:Nat):Int):=w 3 (by decide)
 unfold B6N
 rw [e0,e1,e2,e3,A4Y h0,A4Y h1,A4Y h2,A4Y h3,E0 (n:=b0) (by omega),E0 (n:=b1) (by omega),E0 (n:=b2) (by omega),E0 (n:=b3) (by omega)]
 have z:WU (256 * 0)=((0:Nat):Int):=rfl
 have m:∀ a:Nat,a < 4294967296→WU (256 * (a:Int))=((256 * a:Nat):Int):=fun a ha=>by
  rw [show (256 * (a:Int))=((256 * a:Nat):Int) by omega,E0 (by omega)]
 rw [z,← Int.natCast_add,E0 (by omega),m _ (by omega),← Int.natCast_add,E0 (by omega),m _ (by omega),← Int.natCast_add,E0 (by omega),m _ (by omega),← Int.natCast_add,E0 (by omega)]
 congr 1;omega
theorem C4h {z v kk:V} {bs:List Nat} (hb:∀ b∈bs,b < 256) {a:Nat} (hl:a+64≤bs.length) (hB:bs.length < 4611686018427387000):∀ (m j n:Nat) (l:List Nat) (k:B6O→Option R),j+m=16→l.length=j →
  D2 (B0U R) (m+n) (.m z v (bs.map nv) kk (a:Int) (l.reverse.map nv) (j:Int)) k=D2 (B0U R) n (.m z v (bs.map nv) kk (a:Int) ((J3 m (bs.drop (a+4 * j)) l).reverse.map nv) 16) k:=by
 intro m
 induction m with
 | zero =>
  intro j n l k hj hlen
  have:j=16:=by omega
  subst this
  rw [Nat.zero_add]
  rfl
 | succ m ih =>
  intro j n l k hj hlen
  obtain ⟨b0,b1,b2,b3,g0,g1,g2,g3,gd⟩:=C5q (bs:=bs) (k:=a+4 * j) (by omega)
  have w0:B1 ((a:Int)+B1 (4 * (j:Int)))=((a+4 * j:Nat):Int):=by rw [G1 (n:=4 * (j:Int)) (by omega) (by omega),G1 (by omega) (by omega)];push_cast;rfl
  have w:∀ d:Nat,d < 4→B1 (((a+4 * j:Nat):Int)+(d:Int))=((a+4 * j+d:Nat):Int):=fun d hd=>by rw [G1 (by omega) (by omega)];push_cast;rfl
  have e0:B1 (((a+4 * j:Nat):Int)+0)=((a+4 * j:Nat):Int):=w 0 (by decide)
  have e1:B1 (((a+4 * j:Nat):Int)+1)=((a+4 * j+1:Nat):Int):=w 1 (by decide)
  have e2:B1 (((a+4 * j:Nat):Int)+2)=((a+4 * j+2:Nat):Int):=w 2 (by decide)
  have e3:B1 (((a+4 * j:Nat):Int)+3)=((a+4 * j+3:Nat):Int):=w 3 (by decide)
  have wj:B1 ((j:Int)+1)=((j+1:Nat):Int):=by rw [G1 (by omega) (by omega)];push_cast;rfl
  rw [show m+1+n=(m+n)+1 by omega,D2]
  show (bif G0 (j:Int) 64 then (bif G0 (j:Int) 16 then _ else _) else _)=_
  rw [show G0 (j:Int) 64=true by simp [G0];omega,show G0 (j:Int) 16=true by simp [G0];omega]
  simp only [cond_true]
  rw [w0,e0,e1,e2,e3,C6O,C6O,List.length_reverse,H2 (by omega) (by omega),H2 (by omega) (by omega),H2 (by omega) (by omega),H2 (by omega) (by omega),A2o (by omega),wj,B6R hb (by omega) g0 g1 g2 g3]
  have hl2:l.reverse.map nv++[V.i ((((b0 * 256+b1) * 256+b2) * 256+b3:Nat):Int)]=((((b0 * 256+b1) * 256+b2) * 256+b3)::l).reverse.map nv:=by simp;rfl
  rw [hl2,ih (j+1) n _ k (by omega) (by simp [hlen]),gd]
  simp only [J3,M5]
  rfl
theorem C4i {z v xs:V} {ws:List V} {at_:Int} {kk:V}:∀ (m n:Nat) (l:List Nat) (k:B6O→Option R),l.length+m=64→16≤l.length→(∀ a∈l,a < N0)→m < n →
  D2 (B0U R) n (.m z v ws kk at_ (l.reverse.map nv) (l.length:Int)) k=k (.o z v ws kk at_ ((A09 m l).reverse.map nv) 64):=by
 intro m
 induction m with
 | zero =>
  intro n l k hj h16 hlt hn
  obtain ⟨n,rfl⟩:∃ n',n=n'+1:=⟨n - 1,by omega⟩
  have:l.length=64:=by omega
  rw [this]
  rfl
 | succ m ih =>
  intro n l k hj h16 hlt hn
  obtain ⟨n,rfl⟩:∃ n',n=n'+1:=⟨n - 1,by omega⟩
  have wi:∀ d:Nat,d≤16→B1 ((l.length:Int) - (d:Int))=((l.length - d:Nat):Int):=fun d hd=>by rw [G1 (by omega) (by omega)];omega
  have wj:B1 ((l.length:Int)+1)=((l.length+1:Nat):Int):=by rw [G1 (by omega) (by omega)];push_cast;rfl
  have e15:B1 ((l.length:Int) - 15)=((l.length - 1 - 14:Nat):Int):=(wi 15 (by omega)).trans (by omega)
  have e2:B1 ((l.length:Int) - 2)=((l.length - 1 - 1:Nat):Int):=(wi 2 (by omega)).trans (by omega)
  have e16:B1 ((l.length:Int) - 16)=((l.length - 1 - 15:Nat):Int):=(wi 16 (by omega)).trans (by omega)
  have e7:B1 ((l.length:Int) - 7)=((l.length - 1 - 6:Nat):Int):=(wi 7 (by omega)).trans (by omega)
  rw [D2]
  show (bif G0 (l.length:Int) 64 then (bif G0 (l.length:Int) 16 then _ else _) else _)=_
  rw [show G0 (l.length:Int) 64=true by simp [G0];omega,show G0 (l.length:Int) 16=false by simp [G0];omega]
  simp only [cond_true,cond_false]
  rw [C6O,List.length_reverse,e15,e2,e16,e7,H2 (by omega) (by omega),H2 (by omega) (by omega),H2 (by omega) (by omega),H2 (by omega) (by omega),H2 (by omega) (by omega),H2 (by omega) (by omega),H2 (by omega) (by omega),H2 (by omega) (by omega),A2o (by omega),wj]
  rw [A4f (by omega),A4f (by omega),A4f (by omega),A4f (by omega),C0F (A0r hlt _),C0G (A0r hlt _)]
  have g1:l.getD 15 0 < 4294967296:=A0r hlt 15
  have g2:l.getD 6 0 < 4294967296:=A0r hlt 6
  have g3:sS0 (l.getD 14 0) < 4294967296:=C3J (A0r hlt 14)
  have g4:sS1 (l.getD 1 0) < 4294967296:=C3K (A0r hlt 1)
  have hval:(WU (WU (WU (((l.getD 15 0:Nat):Int)+((sS0 (l.getD 14 0):Nat):Int))+((l.getD 6 0:Nat):Int))+((sS1 (l.getD 1 0):Nat):Int))).tmod 4294967296=((A2D l:Nat):Int):=by
   rw [← Int.natCast_add,E0 (by omega),← Int.natCast_add,E0 (by omega),← Int.natCast_add,E0 (by omega),B6Q]
   rfl
  rw [hval]
  have hl2:l.reverse.map nv++[V.i ((A2D l:Nat):Int)]=(A2D l::l).reverse.map nv:=by simp;rfl
  rw [hl2]
  have:=ih n (A2D l::l) k (by simp;omega) (by simp;omega) (fun a ha=>by
   rcases List.mem_cons.1 ha with rfl | ha
   ·exact Nat.mod_lt _ (by decide)
   ·exact hlt a ha) (by omega)
  rw [C6S] at this
  rw [this]
  simp only [A09,M5]
theorem C5F {z v:V} {xs:List V} {at_:Int} {K W:List Nat} (hK:K.length=64) (hW:W.length=64) (kK:∀ a∈K,a < N0) (kW:∀ a∈W,a < N0):∀ (m j n:Nat) (x:S8) (k:C0C→Option R),j+m=64→OkS x→m < n →
  D2 (B6P R) n (.m z v xs (.l (K.map nv)) at_ (W.map nv) (stV x) (j:Int)) k=k (.o z v xs (.l (K.map nv)) at_ (W.map nv) (stV (A6g (K.drop j) (W.drop j) x)) 64):=by
 intro m
 induction m with
 | zero =>
  intro j n x k hj hx hn
  obtain ⟨n,rfl⟩:∃ n',n=n'+1:=⟨n - 1,by omega⟩
  have:j=64:=by omega
  subst this
  rw [List.drop_of_length_le (by omega),List.drop_of_length_le (by omega)]
  rfl
 | succ m ih =>
  intro j n x k hj hx hn
  obtain ⟨n,rfl⟩:∃ n',n=n'+1:=⟨n - 1,by omega⟩
  have wj:B1 ((j:Int)+1)=((j+1:Nat):Int):=by rw [G1 (by omega) (by omega)];push_cast;rfl
  rw [D2]
  show (bif G0 (j:Int) 64 then _ else _)=_
  rw [show G0 (j:Int) 64=true by simp [G0];omega,cond_true]
  simp only
  rw [C6O,H2 (by omega) (by omega),H2 (by omega) (by omega),wj,A4R (by omega),A4Y (C6X (show j < W.length by omega)),C0I hx (kK _ (List.getElem_mem ..)) (kW _ (List.getElem_mem ..)),ih (j+1) n _ k (by omega) (A7d hx _ _) (by omega)]
  rw [List.drop_eq_getElem_cons (show j < K.length by omega),List.drop_eq_getElem_cons (show j < W.length by omega)]
  rfl
theorem B6S:∀ (ks ws:List Nat) {s:S8},OkS s→OkS (A6g ks ws s):=by
 intro ks
 induction ks with
 | nil=>intro ws s h;cases ws<;>exact h
 | cons k ks ih =>
  intro ws s h
  cases ws with
  | nil=>exact h
  | cons w ws=>exact ih ws (A7d h k w)
theorem A8W:∀ (m:Nat) (l acc:List Nat),J3 m (l.take (4 * m)) acc=J3 m l acc:=by
 intro m
 induction m with
 | zero=>intro l acc;rfl
 | succ m ih =>
  intro l acc
  match l with
  | b0::b1::b2::b3::r =>
   rw [show 4 * (m+1)=4 * m+1+1+1+1 by omega]
   simp only [List.take_succ_cons,J3,M5]
   exact ih r _
  | []=>rfl
  | [_]=>rw [List.take_of_length_le (by simp;omega)]
  | [_,_]=>rw [List.take_of_length_le (by simp;omega)]
  | [_,_,_]=>rw [List.take_of_length_le (by simp;omega)]
theorem B4G (s:S8) (l:List Nat):A5P s (l.take 64)=A5P s l:=by
 unfold A5P
 rw [A8W 16 l []]
theorem B2C (s:S8) (l:List Nat):OkS (A5P s l):=C0a
theorem C5G {z:V} {bs:List Nat} (hb:∀ b∈bs,b < 256) (hB:bs.length < 4611686018427387000):∀ (m q n:Nat) (s:S8) (k:C4c→Option R),bs.length=64 * (q+m)→OkS s→m < n →
  D2 (C0D R) n (.m z (stV s) (bs.map nv) A1G ((64 * q:Nat):Int)) k=k (.o z (stV (A0f m s (bs.drop (64 * q)))) (bs.map nv) A1G ((64 * (q+m):Nat):Int)):=by
 intro m
 induction m with
 | zero =>
  intro q n s k hl hs hn
  obtain ⟨n,rfl⟩:∃ n',n=n'+1:=⟨n - 1,by omega⟩
  rw [D2]
  show ln (bs.map nv).length (bif G0 ((64 * q:Nat):Int) (bs.map nv).length then _ else _)=_
  rw [C6O,A1s (by omega),show G0 ((64 * q:Nat):Int) (bs.length:Int)=false by simp [G0];omega]
  rfl
 | succ m ih =>
  intro q n s k hl hs hn
  obtain ⟨n,rfl⟩:∃ n',n=n'+1:=⟨n - 1,by omega⟩
  have HID:=HID
  have h16:A3 FU=16+(A3 FU - 16):=by omega
  obtain ⟨w1,w2⟩:=A1F 16 (bs.drop (64 * q)) [] (fun b h=>hb b (List.mem_of_mem_drop h)) (fun a h=>by cases h) (by simp;omega)
  obtain ⟨c1,c2⟩:=A6i 48 (J3 16 (bs.drop (64 * q)) []) w1
  have h1:∀ k':B6O→Option R,D2 (B0U R) (A3 FU) (.m z (stV s) (bs.map nv) A1G ((64 * q:Nat):Int) [] 0) k'=k' (.o z (stV s) (bs.map nv) A1G ((64 * q:Nat):Int) ((A09 48 (J3 16 (bs.drop (64 * q)) [])).reverse.map nv) 64):=fun k'=>by
   have e:=C4h (R:=R) (z:=z) (v:=stV s) (kk:=A1G) hb (a:=64 * q) (by omega) hB 16 0 (A3 FU - 16) [] k' rfl rfl
   rw [← h16] at e
   refine e.trans ?_
   have e2:=C4i (R:=R) (z:=z) (v:=stV s) (xs:=z) (ws:=bs.map nv) (at_:=((64 * q:Nat):Int)) (kk:=A1G) 48 (A3 FU - 16) (J3 16 (bs.drop (64 * q)) []) k' (by rw [w2];rfl) (by rw [w2];simp) w1 (by omega)
   rw [w2] at e2
   exact e2
  have h2:∀ k':C0C→Option R,D2 (B6P R) (A3 FU) (.m z (stV s) (bs.map nv) A1G ((64 * q:Nat):Int) ((A09 48 (J3 16 (bs.drop (64 * q)) [])).reverse.map nv) (stV s) 0) k'=k' (.o z (stV s) (bs.map nv) A1G ((64 * q:Nat):Int) ((A09 48 (J3 16 (bs.drop (64 * q)) [])).reverse.map nv) (stV (A6g A6h (A09 48 (J3 16 (bs.drop (64 * q)) [])).reverse s)) 64):=fun k' =>
   C5F (K:=A6h) (W:=(A09 48 (J3 16 (bs.drop (64 * q)) [])).reverse) rfl (by rw [List.length_reverse,c2,w2];rfl) A8N (fun a h=>c1 a (List.mem_reverse.1 h)) 64 0 (A3 FU) s k' rfl hs (by omega)
  rw [D2]
  show ln (bs.map nv).length (bif G0 ((64 * q:Nat):Int) (bs.map nv).length then _ else _)=_
  rw [C6O,A1s (by omega),show G0 ((64 * q:Nat):Int) (bs.length:Int)=true by simp [G0];omega,cond_true,h1]
  simp only
  rw [h2]
  simp only
  rw [C4g hs (B6S _ _ hs)]
  have wj:B1 (((64 * q:Nat):Int)+64)=((64 * (q+1):Nat):Int):=by rw [G1 (by omega) (by omega)];push_cast;omega
  rw [wj]
  have:=ih (q+1) n (A5P s (bs.drop (64 * q))) k (by omega) (B2C _ _) (by omega)
  unfold A5P at this
  refine this.trans ?_
  rw [show 64 * (q+(m+1))=64 * (q+1+m) by omega]
  have hm:A0f (m+1) s (bs.drop (64 * q))=A0f m (A5P s (bs.drop (64 * q))) (bs.drop (64 * (q+1))):=by
   cases hd:bs.drop (64 * q) with
   | nil=>have:=congrArg List.length hd;simp at this;omega
   | cons b r =>
    simp only [A0f]
    rw [← hd,B4G,List.drop_drop]
    congr 2
  rw [hm]
  rfl
theorem A8X:∀ (m d:Nat) (s:S8) (l:List Nat),l.length≤64 * m→A0f (m+d) s l=A0f m s l:=by
 intro m
 induction m with
 | zero =>
  intro d s l h
  have:l=[]:=List.length_eq_zero_iff.1 (by omega)
  subst this
  cases d<;>rfl
 | succ m ih =>
  intro d s l h
  rw [show m+1+d=(m+d)+1 by omega]
  cases l with
  | nil=>rfl
  | cons b r =>
   simp only [A0f]
   exact ih d _ _ (by simp at h ⊢;omega)
variable {T:TT} {R:Type} {P:Program}
def z32:V:=.l (List.replicate 32 (.i 0))
def A1t (j:Nat):Nat→Int→V→V
 | 0,_,h=>h
 | i+1,n,h=>A1t j i (WU (n.tdiv 256)) (h.put (4 * j+i) (.i (IntKind.wrap .u8 (n.tmod 256))))
def A8Y (v:V):Nat→Nat→V→V
 | 0,_,h=>h
 | m+1,j,h=>A8Y v m (j+1) (A1t j 4 (elV v j) h)
def s0V:V:=stV s0N
def Gsm (h:Nat):FC:=fun R xs k=>match xs with
 | [b]=>bif Nat.ble b.els.length 1000000000 then D2 (C0D R) (A3 FU) (.m z32 s0V (b.els++(A3h b.els.length).map nv) A1G 0) (fun | .o z v xs kk at_=>k [.d h (A8Y v 8 0 z32)]) else none
 | _=>none
def C5H (b:V):V:=.l ((C3F (A4S b)).map nv)
def Fsm (h:Nat):FC:=fun R xs k=>match xs with
 | [b]=>bif Nat.ble b.els.length 1000000000 then k [.d h (C5H b)] else none
 | _=>none
theorem C0J (h:Nat):FC.nat (Fsm h):=by
 intro R xs k
 unfold Fsm
 split
 ·rename_i b;cases Nat.ble b.els.length 1000000000<;>rfl
 ·rfl
theorem A7k {n:Nat} (h:n < 256):IntKind.wrap .u8 (n:Int)=(n:Int):=by
 unfold IntKind.wrap
 simp [IntKind.bits,IntKind.signed]
 omega
theorem C0K {s:S8} (h:OkS s):A8Y (stV s) 8 0 z32=.l ((C5o s).map nv):=by
 have one:∀ (j a:Nat) (h:V),a < N0→A1t j 4 (a:Int) h=(((h.put (4 * j+3) (nv (a % 256))).put (4 * j+2) (nv (a / 256 % 256))).put (4 * j+1) (nv (a / 65536 % 256))).put (4 * j) (nv (a / 16777216 % 256)):=by
  intro j a h ha
  have ha:a < 4294967296:=ha
  have td:∀ n:Nat,(n:Int).tdiv 256=((n / 256:Nat):Int):=fun _=>rfl
  have tm:∀ n:Nat,(n:Int).tmod 256=((n % 256:Nat):Int):=fun _=>rfl
  simp only [A1t,td,tm]
  rw [E0 (n:=a / 256) (by omega),td,tm,E0 (n:=a / 256 / 256) (by omega),td,tm,E0 (n:=a / 256 / 256 / 256) (by omega),tm,A7k (by omega),A7k (by omega),A7k (by omega),A7k (by omega)]
  rw [show a / 256 / 256 / 256 % 256=a / 16777216 % 256 by omega,show a / 256 / 256 % 256=a / 65536 % 256 by omega]
  rfl
 have e:A8Y (stV s) 8 0 z32=A1t 7 4 (s.h:Int) (A1t 6 4 (s.g:Int) (A1t 5 4 (s.f:Int) (A1t 4 4 (s.e:Int) (A1t 3 4 (s.d:Int) (A1t 2 4 (s.c:Int) (A1t 1 4 (s.b:Int) (A1t 0 4 (s.a:Int) z32))))))):=by kernel_rfl
 rw [e,one _ _ _ h.a,one _ _ _ h.b,one _ _ _ h.c,one _ _ _ h.d,one _ _ _ h.e,one _ _ _ h.f,one _ _ _ h.g,one _ _ _ h.h]
 refine (?_:@Eq V _ _)
 kernel_rfl
theorem C2C:OkS s0N:=⟨by decide,by decide,by decide,by decide,by decide,by decide,by decide,by decide⟩
theorem B4H:∀ (n:Nat) (s:S8) (l:List Nat),OkS s→OkS (A0f n s l):=by
 intro n
 induction n with
 | zero=>intro s l h;exact h
 | succ n ih =>
  intro s l h
  cases l with
  | nil=>exact h
  | cons b r=>exact ih _ _ (B2C _ _)
theorem C0L {n:Nat}:∀ a∈A3h n,a < 256:=by
 intro a ha
 simp only [A3h,List.mem_cons,C6V,List.not_mem_nil,or_false] at ha
 rcases ha with rfl | h | h
 ·decide
 ·rw [List.eq_of_mem_replicate h];decide
 ·rcases h with rfl | rfl | rfl | rfl | rfl | rfl | rfl | rfl<;>exact Nat.mod_lt _ (by decide)
theorem B6T (n:Nat):(A3h n).length=9+(119 - n % 64) % 64:=by
 simp only [A3h,C6S,C6M,List.length_replicate,List.length_nil]
 omega
theorem C4j (h:Nat) {b:V} {bs:List Nat} (hx:b.els=bs.map nv) (hb:∀ b∈bs,b < 256) {rs:List Rs} (hF:Fsm h (List Rs) [b] some=some rs):Gsm h (List Rs) [b] some=some rs:=by
 simp only [Fsm] at hF
 cases hl:Nat.ble b.els.length 1000000000 with
 | false=>rw [hl] at hF;cases hF
 | true =>
  rw [hl] at hF
  simp only [Gsm,hl,cond_true]
  have hl:=C6Q hl
  have hlen:b.els.length=bs.length:=by rw [hx,C6O]
  have HID:4611686018427387904=A3 FU:=(A7b _).symm
  have hx2:b.els++(A3h b.els.length).map nv=(bs++A3h bs.length).map nv:=by rw [hlen,hx,List.map_append]
  have hpl:(bs++A3h bs.length).length=64 * (0+(bs.length+9+(119 - bs.length % 64) % 64) / 64):=by
   rw [C6M,B6T];omega
  have law:=C5G (R:=List Rs) (z:=z32) (bs:=bs++A3h bs.length) (fun a ha=>by
   rcases C6V.1 ha with h | h
   ·exact hb a h
   ·exact C0L a h) (by omega) ((bs.length+9+(119 - bs.length % 64) % 64) / 64) 0 (A3 FU) s0N (fun | .o z v xs kk at_=>some [Rs.d h (A8Y v 8 0 z32)]) hpl C2C (by omega)
  rw [hx2]
  refine law.trans ?_
  refine Eq.trans ?_ hF
  simp only [cond_true]
  rw [C0K (B4H _ _ _ C2C)]
  unfold C5H C3F
  rw [A1Y hx,List.drop_zero]
  congr 6
  have:=A8X ((bs.length+9+(119 - bs.length % 64) % 64) / 64) (bs.length / 64+2 - (bs.length+9+(119 - bs.length % 64) % 64) / 64) s0N (bs++A3h bs.length) (by omega)
  rw [← this]
  congr 1
  omega
variable {T:TT} {P:Program} {c:N5} {e eb:B2} {of of':Nat→Option Ob}
def A1f {α:Type}:List V→(List V→α)→α
 | [],k=>k []
 | a::r,k=>match a with
  | .i n=>C1h n fun n=>A1f r fun r=>k (.i n::r)
  | a=>A1f r fun r=>k (a::r)
theorem A4Z {α:Type}:∀ (l:List V) (k:List V→α),A1f l k=k l:=by
 intro l
 induction l with
 | nil=>intro k;rfl
 | cons a r ih =>
  intro k
  cases a with
  | i n=>simp only [A1f,A7r,ih]
  | _=>simp only [A1f,ih]
def C5I {α:Type} (v:V) (k:V→α):α :=
 match v with
 | .l xs=>A1f xs fun xs=>k (.l xs)
 | .i n=>C1h n fun n=>k (.i n)
 | v=>k v
theorem C0M {α:Type} (v:V) (k:V→α):C5I v k=k v:=by
 cases v with
 | l xs=>exact A4Z xs _
 | i n=>exact A7r n fun n=>k (.i n)
 | _=>rfl
def A6j {α:Type}:List Rs→(List Rs→α)→α
 | [],k=>k []
 | r::l,k=>match r with
  | .d t y=>C5I y fun y=>A6j l fun l=>k (.d t y::l)
  | .r el xs nl=>A1f xs fun xs=>A6j l fun l=>k (.r el xs nl::l)
theorem B6U {α:Type}:∀ (l:List Rs) (k:List Rs→α),A6j l k=k l:=by
 intro l
 induction l with
 | nil=>intro k;rfl
 | cons r l ih =>
  intro k
  cases r with
  | d t y=>simp only [A6j,C0M,ih]
  | r el xs nl=>simp only [A6j,A4Z,ih]
def C0N (F:FC):FC:=fun R xs k=>F R xs fun rs=>A6j rs k
theorem C0O (F:FC):C0N F=F:=by
 funext R xs k
 unfold C0N
 congr 1
 funext rs
 exact B6U rs k
theorem J0.see {f:Nat} {sh:Bool} {ts:List Nat} {F:FC} (h:H6 P T f (V2 T sh ts F).dir):H6 P T f (V2 T sh ts (C0N F)).dir:=by
 rw [C0O];exact h
theorem J0.at {tab:List (Nat×G2)} (h:J0 P T tab) {f:Nat} {s:G2} (hs:A2k tab f=some s):H6 P T f s.dir:=(h f s (A0M hs)).2
section
variable {P:Program} {H:Type} {enc:TypeId×Value→H} {w w':World} {b0:Nat} {held:Bool}
theorem A0Q {α β:Type} {g g':α→Option β}:∀ (l:List α) (xs:List β),l.mapM g=some xs→(∀ a∈l,∀ x,g a=some x→g' a=some x)→l.mapM g'=some xs:=by
 intro l
 induction l with
 | nil=>intro xs h _;simpa using h
 | cons a r ih =>
  intro xs h hg
  simp only [List.mapM_cons] at h ⊢
  cases ha:g a with
  | none=>simp [ha] at h
  | some x =>
   cases hr:r.mapM g with
   | none=>simp [ha,hr] at h
   | some ys =>
    simp [ha,hr] at h
    rw [hg a (by simp) x ha,ih ys hr (fun i hi=>hg i (by simp [hi]))]
    simp [h]
theorem A1g (a:Addr) (i:Nat):(a.add i).block=a.block:=by
 unfold Addr.add;split<;>simp_all
theorem A40 {a:Addr} {v:Value} (h:w.cell? a=some v):a.block < w.heap.size:=by
 unfold World.cell? at h
 cases hb:w.heap[a.block]? with
 | none=>simp [hb] at h
 | some o=>exact (Array.getElem?_eq_some_iff.1 hb).1
theorem B4I {a:Addr} (hb:w'.heap[a.block]? = w.heap[a.block]?):w'.cell? a=w.cell? a:=by
 unfold World.cell?;rw [hb]
theorem B4J (hw:∀ i,i < w.heap.size→w'.heap[i]? = w.heap[i]?) {a:Addr} {n:Nat} {l:List Value} (hn:0 < n) (h:w.cells? b0 a n=some l):a.block < w.heap.size∧w'.cells? b0 a n=some l:=by
 unfold World.cells? at h ⊢
 split at h<;>try (cases h;done)
 rename_i hb
 rw [if_pos hb]
 have hblk:a.block < w.heap.size:=by
  obtain ⟨m,rfl⟩:∃ m,n=m+1:=⟨n - 1,by omega⟩
  rw [List.range_succ_eq_map,List.mapM_cons] at h
  cases h0:w.cell? (a.add 0) with
  | none=>simp [h0] at h
  | some v=>have:=A40 h0;rwa [A1g] at this
 refine ⟨hblk,A0Q _ _ h (fun i _ x hx=>?_)⟩
 have e:=B4I (w:=w) (w':=w') (a:=a.add i) (by rw [A1g];exact hw _ hblk)
 rw [e];exact hx
def A4g (P:Program) (R:List TypeId):Bool:=R.all fun t=>match P.underlying t with
 | some (.slice e)=>decide (0 < P.cellsOf e)&&R.contains e
 | some (.pointer e)=>decide (0 < P.cellsOf e)&&R.contains e
 | some (.struct fs)=>fs.toList.all fun f=>R.contains f.type
 | some (.array _ e)=>R.contains e
 | some (.map _ e)=>R.contains e
 | _=>true
theorem B6V {R:List TypeId} (hR:A4g P R=true) (hw:∀ i,i < w.heap.size→w'.heap[i]? = w.heap[i]?) :
  ∀ (fuel:Nat) (t:TypeId) (cs:List Value) (x:DataW H×List MemPlace),t∈R→DataW.trod enc P w b0 (fun _=>true) true fuel t cs=some x→DataW.trod enc P w' b0 (fun b=>decide (b < w.heap.size)) true fuel t cs=some x:=by
 intro fuel
 induction fuel with
 | zero=>intro t cs x _ h;simp [DataW.trod] at h
 | succ fuel ih =>
  intro t cs x ht h
  have hRt:=(List.all_eq_true.1 hR) t ht
  have bindcells:∀ (a:Addr) (n:Nat) (e:TypeId) (y:DataW H×List MemPlace),e∈R→0 < n→(w.cells? b0 a n).bind (DataW.trod enc P w b0 (fun _=>true) true fuel e)=some y →
    a.block < w.heap.size∧(w'.cells? b0 a n).bind (DataW.trod enc P w' b0 (fun b=>decide (b < w.heap.size)) true fuel e)=some y:=fun a n e y he hn h=>by
   cases hc:w.cells? b0 a n with
   | none=>simp [hc] at h
   | some l =>
    rw [hc] at h
    obtain ⟨h1,h2⟩:=B4J hw hn hc
    exact ⟨h1,by rw [h2];exact ih _ _ _ he h⟩
  simp only [DataW.trod] at h ⊢
  split at h
  case h_6 a e hu =>
   rw [hu] at hRt
   simp only [C6L,C6W,List.contains_iff_mem] at hRt
   obtain ⟨y,hy,rfl⟩:=Option.map_eq_some_iff.1 h
   rw [(bindcells _ _ _ _ hRt.2 hRt.1 hy).2];rfl
  case h_8 e a len cap hu =>
   rw [hu] at hRt
   simp only [C6L,C6W,List.contains_iff_mem] at hRt
   split at h<;>try (cases h;done)
   rename_i hc
   rw [if_pos hc]
   cases h1:(List.range len).mapM (fun i=>(w.cells? b0 (a.add (i * P.cellsOf e)) (P.cellsOf e)).bind (DataW.trod enc P w b0 (fun _=>true) true fuel e)) with
   | none=>rw [h1] at h;cases h
   | some elems =>
    rw [h1] at h
    have g1:=A0Q _ _ h1 (fun i _ y hy=>(bindcells _ _ _ _ hRt.2 hRt.1 hy).2)
    rw [g1]
    simp only [Option.bind_some,if_true] at h ⊢
    obtain ⟨rest,hr,rfl⟩:=Option.map_eq_some_iff.1 h
    by_cases hb:a.block < w.heap.size
    ·have g2:=A0Q _ _ hr (fun i _ y hy=>(bindcells _ _ _ _ hRt.2 hRt.1 hy).2)
     rw [if_pos (by simpa using hb),g2];rfl
    ·have hz:cap - len=0:=by
      rcases Nat.eq_zero_or_pos (cap - len) with h0 | h0
      ·exact h0
      ·exfalso
       obtain ⟨m,hm⟩:∃ m,cap - len=m+1:=⟨cap - len - 1,by omega⟩
       rw [hm,List.range_succ_eq_map,List.mapM_cons] at hr
       cases h0:(w.cells? b0 (a.add ((len+0) * P.cellsOf e)) (P.cellsOf e)).bind (DataW.trod enc P w b0 (fun _=>true) true fuel e) with
       | none=>rw [h0] at hr;simp at hr
       | some y =>
        have:=(bindcells _ _ _ _ hRt.2 hRt.1 h0).1
        rw [A1g] at this
        exact hb this
     rw [hz] at hr
     simp at hr;subst hr
     rw [if_neg (by simpa using hb)];rfl
  case h_9 fs cs' hu =>
   rw [hu] at hRt
   simp only [List.all_eq_true,List.contains_iff_mem] at hRt
   split at h<;>try (cases h;done)
   rename_i hc
   rw [if_pos hc]
   obtain ⟨y,hy,rfl⟩:=Option.map_eq_some_iff.1 h
   rw [A0Q _ _ hy (fun f hf z hz=>ih _ _ _ (hRt f hf) hz)];rfl
  case h_10 n e cs' hu =>
   rw [hu] at hRt
   simp only [List.contains_iff_mem] at hRt
   split at h<;>try (cases h;done)
   rename_i hc
   rw [if_pos hc]
   obtain ⟨y,hy,rfl⟩:=Option.map_eq_some_iff.1 h
   rw [A0Q _ _ hy (fun i _ z hz=>ih _ _ _ hRt hz)];rfl
  case h_14 k e b hu =>
   rw [hu] at hRt
   simp only [List.contains_iff_mem] at hRt
   cases ho:w.heap[b]? with
   | none=>rw [ho] at h;cases h
   | some o =>
    have hb:b < w.heap.size:=(Array.getElem?_eq_some_iff.1 ho).1
    rw [ho] at h
    rw [hw b hb,ho]
    cases o with
    | map es clock =>
     simp only at h ⊢
     split at h<;>try (cases h;done)
     rename_i hc
     rw [if_pos hc]
     obtain ⟨xs,h1,h2⟩:=Option.bind_eq_some_iff.1 h
     rw [A0Q _ _ h1 (fun a _ y hy=>by
      obtain ⟨key,k1,k2⟩:=Option.bind_eq_some_iff.1 hy
      rw [k1]
      simp only [Option.bind_some]
      split at k2<;>try (cases k2;done)
      rename_i hf
      rw [if_pos hf]
      obtain ⟨z,hz,rfl⟩:=Option.map_eq_some_iff.1 k2
      rw [ih _ _ _ hRt hz];rfl)]
     exact h2
    | _=>cases h
  all_goals exact h
theorem A8Z {R:List TypeId} (hR:A4g P R=true) (hw:∀ i,i < w.heap.size→w'.heap[i]? = w.heap[i]?) :
  ∀ (ts:List TypeId) (vs:List Value) (ds:List (DataW H)) (ps:List MemPlace),(∀ t∈ts,t∈R)→DataW.TrodAll enc P w b0 (fun _=>true) true ts vs ds ps→DataW.TrodAll enc P w' b0 (fun b=>decide (b < w.heap.size)) true ts vs ds ps:=by
 intro ts
 induction ts with
 | nil =>
  intro vs ds ps _ h
  cases vs<;>cases ds<;>first | exact h | (exact False.elim h)
 | cons t r ih =>
  intro vs ds ps hts h
  cases vs with
  | nil=>exact False.elim h
  | cons v vs =>
   cases ds with
   | nil=>exact False.elim h
   | cons d ds =>
    obtain ⟨p,q,⟨fuel,h1⟩,h2,h3⟩:=h
    exact ⟨p,q,⟨fuel,B6V hR hw _ _ _ _ (hts _ (by simp)) h1⟩,ih _ _ _ (fun t ht=>hts t (by simp [ht])) h2,h3⟩
theorem B4K {f:Func} {s:ChangeSpec} {args:Array Value} {ds gs:List (DataW H)} {before:List MemPlace} {fresh:Bool} {R:List TypeId} (hR:A4g P R=true) (hpR:f.params.toList.all (fun t=>R.contains t)=true)
  (hW:DataW.Whole enc P f.params.toList s.vars false w args.toList ds gs before) (hs:A9d w w') (hv:s.vars=[]) {t:TypeId} (hr:f.resultTypes=#[t]) (ht:P.underlying t=some .bool)
  (hfn:s.fn H (ds++gs)={ results:=[.lit (.bool true)],args:=ds }):s.post enc P f false fresh false false w args (.bool true) w':=by
 have hW':=hW
 obtain ⟨p,q,hA,hV,hb,hz,hn⟩:=hW
 rw [hv] at hV
 have hgq:gs=[]∧q=[]:=by cases gs<;>first | exact ⟨rfl,hV⟩ | exact False.elim hV
 obtain ⟨rfl,rfl⟩:=hgq
 refine ⟨ds,[],before,[],p,[],hW',?_,?_,?_,hs.kept _,fun h=>by cases h⟩
 ·rw [hfn,hr]
  exact ⟨[],[],⟨1,by simp [DataW.trod,ht,Value.cells]⟩,rfl,rfl⟩
 ·rw [hfn];exact A8Z hR hs.2.2.2 _ _ _ _ (fun t ht=>by have:=(List.all_eq_true.1 hpR) t ht;simpa [List.contains_iff_mem] using this) hA
 ·rw [hfn,hv];rfl
end
variable {T:TT} {P:Program}
def B2D:List (Nat×Sym)→Nat→Option Sym
 | [],_=>none
 | (k,s)::r,f=>bif Nat.beq k f then some s else B2D r f
def C0P (P:Program) (T:TT):List (Nat×Sym)→Prop
 | []=>True
 | (k,s)::r=>H6 P T k s∧C0P P T r
theorem B6W:∀ {l:List (Nat×Sym)},C0P P T l→∀ f s,B2D l f=some s→H6 P T f s:=by
 intro l
 induction l with
 | nil=>intro _ f s h;cases h
 | cons p r ih =>
  obtain ⟨k,s0⟩:=p
  intro h f s hs
  simp only [B2D] at hs
  cases hk:Nat.beq k f with
  | true =>
   rw [hk] at hs;simp only [cond_true,C6N] at hs
   have:=C6K hk;subst this;subst hs
   exact h.1
  | false=>rw [hk] at hs;exact ih h.2 f s hs
def C0Q (P:Program) (T:TT) (l:List (Nat×Sym)) (fu d f:Nat):Sym:=B7v P T (B2D l) (fun _ _ _=>none) fu d f
theorem C0R (hm:P.follows .mixedOrders=true) (hT:H7 T P) {l:List (Nat×Sym)} (h:C0P P T l) {fu d f:Nat}:H6 P T f (C0Q P T l fu d f):=by
 rw [C0Q]
 exact B5a hm hT (B6W h) (fun f n0 fn code _ _=>A9 code) d f
variable {R:Type}
variable {P:Program} {T:TT} {R:Type} {e:B2}
variable {P:Program} {T:TT} {R:Type} {c:N5} {e:B2} {of:Nat→Option Ob}
variable {P:Program} {T:TT} {R:Type} {c:N5} {e:B2} {of:Nat→Option Ob}
theorem A3l:∀ (l:List (Nat×Ob)) {f g:Nat→Option Ob} {id:Nat},f id=g id→put f l id=put g l id:=by
 intro l
 induction l with
 | nil=>intro f g id h;exact h
 | cons p r ih =>
  intro f g id h
  refine ih ?_
  simp only [F2]
  split
  ·rfl
  ·exact h
variable {P:Program} {T:TT} {R:Type}
variable {P:Program} {T:TT} {R:Type}
variable {P:Program} {T:TT} {R:Type}
variable {P:Program} {T:TT} {R:Type}
variable {P:Program} {T:TT} {R:Type}
variable {P:Program} {T:TT} {R:Type}
variable {P:Program} {T:TT} {R:Type}
variable {P:Program} {T:TT}
variable {R:Type}
variable {P:Program} {T:TT} {R:Type}
variable {P:Program} {T:TT} {R:Type}
variable {P:Program} {T:TT} {R:Type}
inductive D where
 | int (k:IntKind) | bool | str | slice (d:D) | arr (n:Nat) (d:D) | struct (ds:List D)
mutual
def D.has:D→V→Prop
 | .int k,x=>∃ n,x=.i n∧inR k n
 | .bool,x=>∃ b,x=.b b
 | .str,x=>∃ ns:List Nat,x=.s (ns.map nv)∧∀ a∈ns,a < 256
 | .slice d,x=>x=.n∨∃ ys,x=.l ys∧∀ y∈ys,D.has d y
 | .arr n d,x=>∃ ys,x=.l ys∧ys.length=n∧∀ y∈ys,D.has d y
 | .struct ds,x=>∃ ys,x=.l ys∧D.hasL ds ys
def D.hasL:List D→List V→Prop
 | [],[]=>True
 | d::ds,x::xs=>D.has d x∧D.hasL ds xs
 | _,_=>False
end
mutual
def U4 (T:TT):Nat→Nat→Option D
 | 0,_=>none
 | n+1,t=>match C0 T t with
  | some (.int k)=>some (.int k)
  | some .bool=>some .bool
  | some .str=>some .str
  | some (.slice el)=>match U4 T n el with
   | some d=>some (.slice d)
   | none=>none
  | some (.arr m el)=>match U4 T n el with
   | some d=>some (.arr m d)
   | none=>none
  | some (.struct fs)=>match U5 T n fs with
   | some ds=>some (.struct ds)
   | none=>none
  | _=>none
def U5 (T:TT):Nat→List Nat→Option (List D)
 | _,[]=>some []
 | 0,_::_=>none
 | n+1,t::ts=>match U4 T n t with
  | some d=>match U5 T n ts with
   | some ds=>some (d::ds)
   | none=>none
  | none=>none
end
theorem B2E {e:B2} {t:Nat} {ts:List Nat} {xs:List V} {cs:List Value} (h:RV T e (t::ts) xs cs):∃ x r c1 c2,xs=x::r∧RV T e [t] [x] c1∧RV T e ts r c2:=by
 obtain ⟨as,bs,c1,c2,rfl,rfl,h1,h2⟩:=RV.split [t] (ts':=ts) h
 obtain ⟨a,rfl⟩:=List.length_eq_one_iff.1 h1.length.2
 exact ⟨a,bs,c1,c2,rfl,h1,h2⟩
theorem B6X {e:B2} {el:Nat} {p:V→Prop} (hp:∀ x cs,RV T e [el] [x] cs→p x):∀ {n:Nat} {xs:List V} {cs:List Value},RV T e (List.replicate n el) xs cs→∀ x∈xs,p x:=by
 intro n
 induction n with
 | zero=>intro xs cs h x hx;cases h;cases hx
 | succ n ih =>
  intro xs cs h x hx
  rw [List.replicate_succ] at h
  obtain ⟨y,r,c1,c2,rfl,h1,h2⟩:=B2E h
  rcases List.mem_cons.1 hx with rfl | hx
  ·exact hp _ _ h1
  ·exact ih h2 x hx
theorem B6Y:∀ (n:Nat) {e:B2},(∀ (t:Nat) (d:D),U4 T n t=some d→∀ x cs,RV T e [t] [x] cs→d.has x)∧(∀ (ts:List Nat) (ds:List D),U5 T n ts=some ds→∀ xs cs,RV T e ts xs cs→D.hasL ds xs):=by
 intro n
 induction n with
 | zero =>
  intro e
  refine ⟨fun t d h=>(by rw [U4] at h;cases h),fun ts ds h xs cs hx=>?_⟩
  cases ts with
  | nil=>rw [U5] at h;cases h;cases hx;trivial
  | cons t ts=>rw [U5] at h;cases h
 | succ n ih =>
  intro e
  refine ⟨fun t d h x cs hx=>?_,fun ts ds h xs cs hx=>?_⟩
  ·rw [U4] at h
   split at h
   ·rename_i k hk;cases h;obtain ⟨m,rfl,_,hr⟩:=hx.int_inv hk;exact ⟨m,rfl,hr⟩
   ·rename_i hk;cases h
    cases hx with
    | bool _ _ _=>exact ⟨_,rfl⟩
    | int g1=>rw [hk] at g1;cases g1
    | str g1=>rw [hk] at g1;cases g1
    | ptr g1=>rw [hk] at g1;cases g1
    | nils g1=>rw [hk] at g1;cases g1
    | map g1=>rw [hk] at g1;cases g1
    | func g1=>rw [hk] at g1;cases g1
    | fn g1=>rw [hk] at g1;cases g1
    | slice g1=>rw [hk] at g1;cases g1
    | arr g1=>rw [hk] at g1;cases g1
    | struct g1=>rw [hk] at g1;cases g1
   ·rename_i hk;cases h
    cases hx with
    | @str _ s _ _ _ _ _ _ =>
     refine ⟨s.data.toList.map fun b=>b.toNat,?_,fun a ha=>?_⟩
     ·unfold txt;rw [List.map_map];rfl
     ·obtain ⟨b,_,rfl⟩:=List.mem_map.1 ha;exact b.toNat_lt
    | int g1=>rw [hk] at g1;cases g1
    | bool g1=>rw [hk] at g1;cases g1
    | ptr g1=>rw [hk] at g1;cases g1
    | nils g1=>rw [hk] at g1;cases g1
    | map g1=>rw [hk] at g1;cases g1
    | func g1=>rw [hk] at g1;cases g1
    | fn g1=>rw [hk] at g1;cases g1
    | slice g1=>rw [hk] at g1;cases g1
    | arr g1=>rw [hk] at g1;cases g1
    | struct g1=>rw [hk] at g1;cases g1
   ·rename_i el hk
    split at h<;>cases h
    rename_i d hd
    rcases hx.slice_inv hk with ⟨rfl,_⟩ | ⟨ys,ds,a,cap,rfl,_,_,_,g⟩
    ·exact .inl rfl
    ·exact .inr ⟨ys,rfl,B6X (fun x cs hx=>(ih (e:=e)).1 el d hd x cs hx) g⟩
   ·rename_i m el hk
    split at h<;>cases h
    rename_i d hd
    obtain ⟨ys,rfl,hl,g⟩:=hx.arr_inv hk
    exact ⟨ys,rfl,hl,B6X (fun x cs hx=>(ih (e:=e)).1 el d hd x cs hx) g⟩
   ·rename_i fs hk
    split at h<;>cases h
    rename_i ds hd
    obtain ⟨ys,rfl,g⟩:=hx.struct_inv hk
    exact ⟨ys,rfl,(ih (e:=e)).2 fs ds hd _ _ g⟩
   ·cases h
  ·cases ts with
   | nil=>rw [U5] at h;cases h;cases hx;trivial
   | cons t ts =>
    rw [U5] at h
    split at h<;>try (cases h;done)
    rename_i d hd
    split at h<;>cases h
    rename_i ds hds
    obtain ⟨x,r,c1,c2,rfl,h1,h2⟩:=B2E hx
    exact ⟨(ih (e:=e)).1 t d hd _ _ h1,(ih (e:=e)).2 ts ds hds _ _ h2⟩
theorem TV.has:∀ {ts:List Nat} {xs:List V} (n:Nat) {ds:List D},TV T ts xs→U5 T n ts=some ds→D.hasL ds xs:=by
 intro ts
 induction ts with
 | nil =>
  intro xs n ds h hd
  have:=h.len
  cases xs with
  | nil=>cases n<;>(rw [U5] at hd;cases hd;trivial)
  | cons _ _=>cases this
 | cons t ts ih =>
  intro xs n ds h hd
  cases n with
  | zero=>rw [U5] at hd;cases hd
  | succ n =>
   rw [U5] at hd
   split at hd<;>try (cases hd;done)
   rename_i d hd1
   split at hd<;>cases hd
   rename_i ds hd2
   cases xs with
   | nil=>have:=h.len;cases this
   | cons x xs =>
    obtain ⟨e,cs,hx⟩:=h.head
    exact ⟨(B6Y n).1 t d hd1 x cs hx,ih n h.tail hd2⟩
theorem B2F {d0:D} {xs:List V} (h:D.hasL [d0] xs):∃ a,xs=[a]∧d0.has a:=by
 cases xs with
 | nil=>exact (h).elim
 | cons x0 r0 =>
 cases r0 with
 | cons _ _=>exact (h.2).elim
 | nil=>exact ⟨x0,rfl,h.1⟩
theorem C5J {d0 d1:D} {xs:List V} (h:D.hasL [d0,d1] xs):∃ a b,xs=[a,b]∧d0.has a∧d1.has b:=by
 cases xs with
 | nil=>exact (h).elim
 | cons x0 r0 =>
 cases r0 with
 | nil=>exact (h.2).elim
 | cons x1 r1 =>
 cases r1 with
 | cons _ _=>exact (h.2.2).elim
 | nil=>exact ⟨x0,x1,rfl,h.1,h.2.1⟩
def gF (g:List V→Bool) (r:List V→List Rs):FC:=fun R xs k=>bif g xs then k (r xs) else none
theorem B0V (g:List V→Bool) (r:List V→List Rs):FC.nat (gF g r):=by
 intro R xs k
 unfold gF
 cases g xs<;>rfl
theorem C2D {g:List V→Bool} {r:List V→List Rs} {xs:List V} {rs:List Rs} (h:gF g r (List Rs) xs some=some rs):g xs=true∧rs=r xs:=by
 unfold gF at h
 cases hg:g xs with
 | false=>rw [hg] at h;cases h
 | true=>rw [hg] at h;simp only [cond_true,C6N] at h;exact ⟨rfl,h.symm⟩
theorem A10 (hm:P.follows .mixedOrders=true) (hT:H7 T P) {tab:List (Nat×G2)} (h:J0 P T tab) {f d fu:Nat} {Lo:Nat→LC} {sh:Bool} {ts:List Nat} {rk:List RK} {g:List V→Bool} {r:List V→List Rs} (hts:ts.all (fun t=>(T t).isSome)=true)
  (hL:J9 P T f Lo) (n:Nat) {ds:List D} (hd:U5 T n ts=some ds)
  (hF:∀ xs,D.hasL ds xs→g xs=true→M0 P T (J7 P T tab false fu d) Lo false fu f (List Rs) (A0e T ts xs) (fun _=>none) 0 (fun out=>A1E T sh rk out)=some (r xs)) :
  J0 P T ((f,V2 T sh ts (gF g r))::tab) :=
 A8K hm hT h (B0V g r) hts hL fun xs rs htv hrs=>by
  obtain ⟨h1,rfl⟩:=C2D hrs
  exact hF xs (htv.has n hd) h1
variable {P:Program} {T:TT} {R:Type}
variable {P:Program} {T:TT} {R:Type}
variable {P:Program} {T:TT}
abbrev ML:Nat:=9223372036854775807
mutual
def D.sm:D→V→Prop
 | .str,x=>x.els.length≤ML
 | .slice d,x=>x.els.length≤ML∧∀ y∈x.els,D.sm d y
 | .arr _ d,x=>∀ y∈x.els,D.sm d y
 | .struct ds,x=>D.smL ds x.els
 | _,_=>True
def D.smL:List D→List V→Prop
 | d::ds,x::xs=>D.sm d x∧D.smL ds xs
 | _,_=>True
end
theorem H7.zero (hT:H7 T P) {t:Nat} {k:TK} (hk:C0 T t=some k) (ho:k≠.other):∃ x cs,∀ e,RV T e [t] [x] cs:=by
 obtain ⟨te,h1,rfl⟩:=A8 hk
 obtain ⟨i,d,z,_,_,_,_,_,_,h7,_⟩:=(hT _ _ h1).fits
 rcases h7 with h7 | h7
 ·exact ⟨_,_,h7⟩
 ·exact absurd h7 ho
theorem RV.sz1 {e:B2} {t:Nat} {x:V} {cs:List Value} {k:TK} (hk:C0 T t=some k) (ha:k.agg=false) (h:RV T e [t] [x] cs):B4 T t=1:=by
 cases h with
 | int _ h2=>exact h2
 | bool _ h2=>exact h2
 | str _ h2=>exact h2
 | ptr _ h2=>exact h2
 | nils _ h2=>exact h2
 | map _ h2=>exact h2
 | func _ h2=>exact h2
 | fn _ h2=>exact h2
 | slice _ h2=>exact h2
 | arr h1=>rw [hk] at h1;cases h1;cases ha
 | struct h1=>rw [hk] at h1;cases h1;cases ha
def e0:B2:={ w:=default,ι:=fun _=>none,S:=fun _ _=>False,bn:=fun _=>0,U:=fun _=>False,ty:=fun _=>0,ln:=fun _=>0,G:=fun _ _=>False }
theorem H7.sz1 (hT:H7 T P) {t:Nat} {k:TK} (hk:C0 T t=some k) (ha:k.agg=false) (ho:k≠.other):B4 T t=1:=by
 obtain ⟨x,cs,h⟩:=hT.zero hk ho
 exact (h e0).sz1 hk ha
theorem H7.szS (hT:H7 T P) {t:Nat} {fs:List Nat} (hk:C0 T t=some (.struct fs)):B4 T t=szs T fs:=by
 obtain ⟨x,cs,h⟩:=hT.zero hk (by intro h;cases h)
 obtain ⟨ys,rfl,g⟩:=(h e0).struct_inv hk
 have h1:=(h e0).length.1
 have h2:=g.length.1
 simp only [szs] at h1;omega
theorem H7.szA (hT:H7 T P) {t n el:Nat} (hk:C0 T t=some (.arr n el)):B4 T t=n * B4 T el:=by
 obtain ⟨x,cs,h⟩:=hT.zero hk (by intro h;cases h)
 obtain ⟨ys,rfl,_,g⟩:=(h e0).arr_inv hk
 have h1:=(h e0).length.1
 have h2:=g.length.1
 rw [B9] at h2
 simp only [szs] at h1;omega
theorem H7.cells (hT:H7 T P) {t:Nat} {k:TK} (hk:C0 T t=some k):P.cellsOf t=B4 T t:=by
 obtain ⟨te,h1,rfl⟩:=A8 hk
 obtain ⟨i,d,z,g1,_,g3,_⟩:=(hT _ _ h1).fits
 unfold Program.cellsOf
 rw [g1,H1 h1,← g3];rfl
theorem C4k {k:IntKind} {n:Int} (h:(Lit.int k n).wf=true):inR k n:=by
 have:k.min≤n∧n≤k.max:=by simpa [Lit.wf,C6L,C6W] using h
 cases k<;>simpa [inR,lo,hi,IntKind.min,IntKind.max,IntKind.signed,IntKind.bits] using this
theorem C0S (a:Addr) (p q:Nat):(a.add p).add q=a.add (p+q):=by
 unfold Addr.add
 by_cases h1:p=0
 ·subst h1;simp
 ·by_cases h2:q=0
  ·subst h2;simp [h1]
  ·simp [h1,h2,show p+q≠0 by omega,Nat.add_assoc]
theorem B4L {w:World} {b0:Nat} {a:Addr} {n:Nat} {l:List Value} (h:w.cells? b0 a n=some l):l.length=n∧∀ k,k < n→w.cell? (a.add k)=l[k]? := by
 unfold World.cells? at h
 split at h<;>try (cases h;done)
 have h1:=mapM_some_length h
 refine ⟨by simpa using h1,fun k hk=>?_⟩
 exact mapM_some_get h k k (by simp [hk])
section
variable {w:World} {H:Type} {enc:TypeId×Value→H}
theorem A80 {el:Nat} {e:B2} {q:V→Prop}:∀ (n:Nat) (cs:List Value),cs.length=n * B4 T el→(∀ i,i < n→∃ y,RV T e [el] [y] ((cs.drop (i * B4 T el)).take (B4 T el))∧q y)→∃ ys,ys.length=n∧RV T e (List.replicate n el) ys cs∧∀ y∈ys,q y:=by
 intro n
 induction n with
 | zero =>
  intro cs hl _
  have:cs=[]:=List.eq_nil_of_length_eq_zero (by simpa using hl)
  subst this
  exact ⟨[],rfl,.nil,fun y hy=>by cases hy⟩
 | succ n ih =>
  intro cs hl hp
  rw [Nat.succ_mul] at hl
  obtain ⟨y,hy,hq⟩:=hp 0 (by omega)
  rw [Nat.zero_mul,List.drop_zero] at hy
  obtain ⟨ys,h1,h2,h3⟩:=ih (cs.drop (B4 T el)) (by rw [List.length_drop];omega) (fun i hi=>by
   obtain ⟨z,hz,hqz⟩:=hp (i+1) (by omega)
   refine ⟨z,?_,hqz⟩
   rw [List.drop_drop,show B4 T el+i * B4 T el=(i+1) * B4 T el by rw [Nat.succ_mul];omega]
   exact hz)
  refine ⟨y::ys,by simp [h1],?_,fun z hz=>?_⟩
  ·have:=RV.append hy h2
   rw [List.take_append_drop] at this
   exact this
  ·rcases List.mem_cons.1 hz with rfl | hz
   ·exact hq
   ·exact h3 z hz
theorem B4M {e:B2}:∀ (fs:List Nat) (n:Nat) (ds:List D) (cs:List Value),U5 T n fs=some ds→cs.length=szs T fs→(∀ (j f m:Nat) (d:D),m≤n→fs[j]? = some f→U4 T m f=some d→∃ y,RV T e [f] [y] ((cs.drop (szs T (fs.take j))).take (B4 T f))∧d.sm y)→∃ ys,RV T e fs ys cs∧D.smL ds ys:=by
 intro fs
 induction fs with
 | nil =>
  intro n ds cs hd hl _
  have:cs=[]:=List.eq_nil_of_length_eq_zero hl
  subst this
  rw [U5] at hd;cases hd
  exact ⟨[],.nil,trivial⟩
 | cons f r ih =>
  intro n ds cs hd hl hp
  cases n with
  | zero=>rw [U5] at hd;cases hd
  | succ n =>
  rw [U5] at hd
  split at hd<;>try (cases hd;done)
  rename_i d hd1
  split at hd<;>cases hd
  rename_i ds' hds
  simp only [szs] at hl
  obtain ⟨y,hy,hq⟩:=hp 0 f n d (by omega) rfl hd1
  simp only [List.take_zero,szs,List.drop_zero] at hy
  obtain ⟨ys,h2,h3⟩:=ih n ds' (cs.drop (B4 T f)) hds (by rw [List.length_drop];omega) (fun j g m d' hm hj hd'=>by
   obtain ⟨z,hz,hqz⟩:=hp (j+1) g m d' (by omega) (by simpa using hj) hd'
   refine ⟨z,?_,hqz⟩
   rw [List.drop_drop]
   simpa only [List.take_succ_cons,szs] using hz)
  refine ⟨y::ys,?_,hq,h3⟩
  have:=RV.append hy h2
  rw [List.take_append_drop] at this
  exact this
theorem C0T (hT:H7 T P):∀ (n m:Nat),m≤n→∀ (t:Nat) (d:D),U4 T m t=some d→∀ (fuel:Nat) (cs:List Value) (x:DataW H×List MemPlace),DataW.trod enc P w 0 (fun _=>true) true fuel t cs=some x→∃ y,RV T (P1 w) [t] [y] cs∧d.sm y:=by
 intro n
 induction n with
 | zero=>intro m hm t d h;obtain rfl:m=0:=by omega
         rw [U4] at h;cases h
 | succ n ih =>
  intro m hm t d h fuel cs x hx
  cases m with
  | zero=>rw [U4] at h;cases h
  | succ m =>
  have hm:m≤n:=by omega
  rw [U4] at h
  split at h
  ·rename_i k hk
   obtain ⟨te,h1,h2⟩:=A8 hk
   obtain ⟨v,rfl,_,hw⟩:=DataW.trod_int (Q6 (hT _ _ h1) h2) hx
   cases h;exact ⟨.i v,.int hk (hT.sz1 hk rfl (by intro h;cases h)) (C4k hw) .nil,trivial⟩
  ·rename_i hk
   obtain ⟨te,h1,h2⟩:=A8 hk
   obtain ⟨b,rfl,_⟩:=DataW.trod_bool (A0m (hT _ _ h1) h2) hx
   cases h;exact ⟨.b b,.bool hk (hT.sz1 hk rfl (by intro h;cases h)) .nil,trivial⟩
  ·rename_i hk
   obtain ⟨te,h1,h2⟩:=A8 hk
   obtain ⟨s,rfl,_,hsz⟩:=DataW.trod_string (P5 (hT _ _ h1) h2) hx
   cases h
   refine ⟨.s (txt s),.str hk (hT.sz1 hk rfl (by intro h;cases h)) .nil,?_⟩
   show (txt s).length≤ML
   unfold txt
   rw [C6O,C6R]
   exact Nat.le_trans hsz (by decide)
  ·rename_i el hk
   split at h<;>cases h
   rename_i d hd
   obtain ⟨te,h1,h2⟩:=A8 hk
   have hz1:=hT.sz1 hk rfl (by intro h;cases h)
   rcases DataW.trod_slice (F3 (hT _ _ h1) h2) hx with ⟨rfl,_⟩ | ⟨a,len,cap,elems,rest,k,_,rfl,_,_,hcap,hmx,hel,he,_,_⟩
   ·exact ⟨.n,.nils hk hz1 .nil,Nat.zero_le _,fun y hy=>by cases hy⟩
   ·have hsz:P.cellsOf el=B4 T el:=by
     cases hke:C0 T el with
     | none=>cases m with
      | zero=>rw [U4] at hd;cases hd
      | succ m=>rw [U4,hke] at hd;cases hd
     | some ke=>exact hT.cells hke
    rw [hsz] at he
    have key:∀ i,i < len→∃ l y,l.length=B4 T el∧(∀ k,k < B4 T el→w.cell? (a.add (i * B4 T el+k))=l[k]?)∧RV T (P1 w) [el] [y] l∧d.sm y:=fun i hi=>by
     have h3:=he i hi
     rw [C6X (by omega)] at h3
     obtain ⟨l,g1,g2⟩:=Option.bind_eq_some_iff.1 h3
     obtain ⟨g3,g4⟩:=B4L g1
     obtain ⟨y,hy,hq⟩:=ih m hm el d hd _ _ _ g2
     exact ⟨l,y,g3,fun k hk=>by rw [← g4 k hk,C0S],hy,hq⟩
    have hcell:∀ j,j < len * B4 T el→∃ v,w.cell? (a.add j)=some v:=fun j hj=>by
     have hpos:0 < B4 T el:=by
      rcases Nat.eq_zero_or_pos (B4 T el) with h0 | h0
      ·rw [h0] at hj;omega
      ·exact h0
     have hi:j / B4 T el < len:=Nat.div_lt_of_lt_mul (by rw [Nat.mul_comm];exact hj)
     obtain ⟨l,y,g1,g2,_⟩:=key _ hi
     have hk:=Nat.mod_lt j hpos
     have:=g2 _ hk
     rw [show j / B4 T el * B4 T el+j % B4 T el=j by rw [Nat.mul_comm];exact Nat.div_add_mod j _,C6X (by omega)] at this
     exact ⟨_,this⟩
    let ds:List Value:=(List.range (len * B4 T el)).map fun j=>(w.cell? (a.add j)).getD undef
    have hds:ds.length=len * B4 T el:=by simp [ds]
    have hget:∀ j,j < len * B4 T el→ds[j]? = w.cell? (a.add j):=fun j hj=>by
     obtain ⟨v,hv⟩:=hcell j hj
     simp only [ds,List.getElem?_map,List.getElem?_range hj,Option.map_some,hv,Option.getD_some]
    have hparts:∀ i,i < len→∃ y,RV T (P1 w) [el] [y] ((ds.drop (i * B4 T el)).take (B4 T el))∧d.sm y:=fun i hi=>by
     obtain ⟨l,y,g1,g2,g3,g4⟩:=key i hi
     refine ⟨y,?_,g4⟩
     have:(ds.drop (i * B4 T el)).take (B4 T el)=l:=by
      apply List.ext_getElem?
      intro k
      rcases Nat.lt_or_ge k (B4 T el) with hk | hk
      ·have:(i+1) * B4 T el≤len * B4 T el:=Nat.mul_le_mul_right _ (by omega)
       rw [Nat.succ_mul] at this
       rw [List.getElem?_take_of_lt hk,List.getElem?_drop,hget _ (by omega),g2 k hk]
      ·rw [List.getElem?_eq_none (by simp;omega),List.getElem?_eq_none (by omega)]
     rw [this];exact g3
    obtain ⟨ys,h4,h5,h6⟩:=A80 len ds hds hparts
    refine ⟨.l ys,.slice hk hz1 h4 hcap ⟨fun hne=>?_,fun j y hj=>?_⟩ h5 .nil,?_,h6⟩
    ·have hpos:0 < len * B4 T el:=by
      rcases Nat.eq_zero_or_pos (len * B4 T el) with h0 | h0
      ·exact absurd (List.eq_nil_of_length_eq_zero (hds.trans h0)) hne
      ·exact h0
     obtain ⟨v,hv⟩:=hcell 0 hpos
     simpa [Addr.add] using World.cell?_spot hv
    ·have hjl:j < len * B4 T el:=by rw [← hds];exact (List.getElem?_eq_some_iff.1 hj).1
     rw [hget j hjl] at hj
     refine ⟨hj,?_⟩
     have:=A40 hj
     rw [A1g] at this
     exact this
    ·show ys.length≤ML
     rw [h4];exact Nat.le_trans hcap (Nat.le_trans hmx (by decide))
  ·rename_i k el hk
   split at h<;>cases h
   rename_i d hd
   obtain ⟨te,h1,h2⟩:=A8 hk
   obtain ⟨xs,m',_,_,hl,hn,hi⟩:=DataW.trod_array (Q7 (hT _ _ h1) h2) hx
   have hsz:P.cellsOf el=B4 T el:=by
    cases hke:C0 T el with
    | none=>cases m with
     | zero=>rw [U4] at hd;cases hd
     | succ m=>rw [U4,hke] at hd;cases hd
    | some ke=>exact hT.cells hke
   rw [hT.cells hk,hT.szA hk] at hl
   obtain ⟨ys,h4,h5,h6⟩:=A80 (q:=d.sm) k cs hl (fun i h=>by
    have h3:=hi i h
    rw [hsz,C6X (by omega)] at h3
    exact ih m hm el d hd _ _ _ h3)
   refine ⟨.l ys,?_,h6⟩
   have:=RV.arr hk (by rw [hT.szA hk,hl]) h5 (RV.nil (T:=T) (e:=P1 w))
   rwa [List.append_nil] at this
  ·rename_i fs hk
   split at h<;>cases h
   rename_i ds hd
   obtain ⟨te,h1,h2⟩:=A8 hk
   obtain ⟨gs,g1,g2,g3⟩:=M9 (hT _ _ h1) h2
   obtain ⟨xs,m',_,_,hl,hn,hi⟩:=DataW.trod_struct g1 hx
   rw [hT.cells hk,hT.szS hk] at hl
   obtain ⟨ys,h5,h6⟩:=B4M fs m ds cs hd hl (fun j f m1 d1 hm1 hj hd1=>by
    obtain ⟨g,q1,rfl⟩:=Z5 g2 hj
    have h3:=hi j g q1
    have hlt:j < xs.length:=by rw [hn];exact (Array.getElem?_eq_some_iff.1 q1).1
    have hsz:P.cellsOf g.type=B4 T g.type:=by
     cases hke:C0 T g.type with
     | none=>cases m1 with
      | zero=>rw [U4] at hd1;cases hd1
      | succ m1=>rw [U4,hke] at hd1;cases hd1
     | some ke=>exact hT.cells hke
    rw [hsz,g3 j g q1,C6X hlt] at h3
    exact ih m1 (by omega) _ d1 hd1 _ _ _ h3)
   refine ⟨.l ys,?_,h6⟩
   have:=RV.struct hk (by rw [hT.szS hk,hl]) h5 (RV.nil (T:=T) (e:=P1 w))
   rwa [List.append_nil] at this
  ·cases h
theorem B6Z (hT:H7 T P) {t m b:Nat} {v:Value} {d:D} (hd:U4 T m t=some d) {r:Reach} (h:Value.okWide P w r b t v):X0 T t v:=by
 cases m with
 | zero=>rw [U4] at hd;cases hd
 | succ m =>
 have no:∀ {k:TK} {u:TypeDesc},C0 T t=some k→k.agg=false→P.underlying t=some u→(u=.bool∨u=.string∨(∃ k,u=.int k)∨∃ e,u=.slice e)→X0 T t v:=fun {k u} hk ha hu hc=>by
  refine ⟨fun ⟨k',hk',ha'⟩=>(by rw [hk] at hk';cases hk';rw [ha] at ha';cases ha'),fun ⟨cs,hv⟩=>?_⟩
  subst hv
  rcases hc with rfl | rfl | ⟨k',rfl⟩ | ⟨e',rfl⟩<;>simp [Value.okWide,Cell.okWide,Cell.ok,hu] at h
 rw [U4] at hd
 split at hd
 ·rename_i k hk;obtain ⟨te,h1,h2⟩:=A8 hk
  exact no hk rfl (Q6 (hT _ _ h1) h2) (.inr (.inr (.inl ⟨_,rfl⟩)))
 ·rename_i hk;obtain ⟨te,h1,h2⟩:=A8 hk
  exact no hk rfl (A0m (hT _ _ h1) h2) (.inl rfl)
 ·rename_i hk;obtain ⟨te,h1,h2⟩:=A8 hk
  exact no hk rfl (P5 (hT _ _ h1) h2) (.inr (.inl rfl))
 ·rename_i el hk;obtain ⟨te,h1,h2⟩:=A8 hk
  exact no hk rfl (F3 (hT _ _ h1) h2) (.inr (.inr (.inr ⟨_,rfl⟩)))
 ·rename_i k el hk;obtain ⟨te,h1,h2⟩:=A8 hk
  have hu:=Q7 (hT _ _ h1) h2
  unfold Value.okWide at h
  rw [hu] at h
  obtain ⟨cs,rfl,_⟩:=h
  exact ⟨fun _=>⟨cs,rfl⟩,fun _=>⟨_,hk,rfl⟩⟩
 ·rename_i fs hk;obtain ⟨te,h1,h2⟩:=A8 hk
  obtain ⟨gs,hu,_⟩:=M9 (hT _ _ h1) h2
  unfold Value.okWide at h
  rw [hu] at h
  obtain ⟨cs,rfl,_⟩:=h
  exact ⟨fun _=>⟨cs,rfl⟩,fun _=>⟨_,hk,rfl⟩⟩
 ·cases hd
theorem B4N (hT:H7 T P) {r:Reach} {b:Nat}:∀ (ts:List Nat) {n:Nat} {Ds:List D} (vs:List Value) {ds:List (DataW H)} {ps:List MemPlace},U5 T n ts=some Ds→DataW.TrodAll enc P w 0 (fun _=>true) true ts vs ds ps →
  (∀ (j:Nat) t v,ts[j]? = some t→vs[j]? = some v→Value.okWide P w r b t v)→∃ xs,RP T (P1 w) ts xs vs∧D.smL Ds xs:=by
 intro ts
 induction ts with
 | nil =>
  intro n Ds vs ds ps _ h _
  cases vs with
  | nil=>exact ⟨[],.nil,by cases Ds<;>exact trivial⟩
  | cons v vs=>cases ds<;>exact h.elim
 | cons t ts ih =>
  intro n Ds vs ds ps hd h hv
  cases vs with
  | nil=>cases ds<;>exact h.elim
  | cons v vs =>
   cases ds with
   | nil=>exact h.elim
   | cons d ds =>
    obtain ⟨p,q,⟨fuel,h1⟩,h2,_⟩:=h
    cases n with
    | zero=>rw [U5] at hd;cases hd
    | succ n =>
     rw [U5] at hd
     split at hd<;>try (cases hd;done)
     rename_i D hD
     split at hd<;>cases hd
     rename_i Ds' hDs
     obtain ⟨y,hy,hq⟩:=C0T hT n n (Nat.le_refl _) t D hD fuel _ _ h1
     obtain ⟨xs,hxs,hqs⟩:=ih vs hDs h2 (fun j t v h1 h2=>hv (j+1) t v (by simpa using h1) (by simpa using h2))
     exact ⟨y::xs,.cons hy (B6Z hT hD (hv 0 t v rfl rfl)) hxs,hq,hqs⟩
end
def A6k:G9→Option Unit:=fun out=>bif B7A true (some out) then some () else none
theorem C4l {s:G2} (hn:s.nat) {args:List A} (h:s Unit args (fun _=>none) 0 A6k=some ()):B7A true (s.dir args (fun _=>none) 0)=true:=by
 rw [hn] at h
 obtain ⟨out,h1,h2⟩:=A2C h
 rw [h1]
 unfold A6k at h2
 cases hq:B7A true (some out) with
 | true=>rfl
 | false=>rw [hq] at h2;cases h2
theorem B4O (hT:H7 T P) {f:FuncId} {fn:Func} {code:Code} {s:G2} (hf:P.funcs[f]? = some fn) (hb:fn.body=some code) (hn:(fn.name == "runtime.NumGoroutine")=false) (hs:H6 P T f s.dir) (hnat:s.nat) {ts:List Nat} (hts:ts.all (fun t=>(T t).isSome)=true) (n:Nat) {Ds:List D} (hd:U5 T n ts=some Ds)
  (hrun:∀ xs,D.hasL Ds xs→D.smL Ds xs→s Unit (A0e T ts xs) (fun _=>none) 0 A6k=some ()) {w:World} {vals:Array Value} (ha:∃ xs,RP T (P1 w) ts xs vals.toList∧D.smL Ds xs):Calls P f vals w fun en w'=>en=.returned (.bool true)∧A9d w w':=by
 obtain ⟨xs,hx,hq⟩:=ha
 exact A7z hf hb hn hs (C4l hnat (hrun xs (TV.has n ⟨_,_,hx⟩ hd) hq)) (hx.reps hts)
end Go.Vm
namespace Go.Vm.Wd
open Go.RowKit
theorem C0U {k:IntKind} {t:Int} (h:k.min≤t∧t≤k.max):k.wrap t=t:=by
 obtain ⟨h1,h2⟩:=h
 cases k<;>simp only [IntKind.wrap,IntKind.min,IntKind.max,IntKind.bits,IntKind.signed] at *<;>simp at *<;>omega
def blen (n:Nat):Nat:=if n=0 then 0 else n.log2+1
theorem C0V {n k:Nat} (h1:2 ^ k≤n) (h2:n < 2 ^ (k+1)):blen n=k+1:=by
 have hn:n≠0:=by have:=Nat.two_pow_pos k;omega
 rw [blen,if_neg hn,(Nat.log2_eq_iff hn).2 ⟨h1,h2⟩]
theorem B2G {n:Nat} (h:n≠0):2 ^ (blen n - 1)≤n:=by
 rw [blen,if_neg h];exact Nat.log2_self_le h
theorem C0W (n:Nat):n < 2 ^ blen n:=by
 rw [blen];split
 ·omega
 ·exact Nat.lt_log2_self
theorem B60 {n:Nat} (h:n≠0):0 < blen n:=by rw [blen,if_neg h];omega
theorem B0W {d r k:Nat} (hd:d≠0) (hr:r < 2 ^ k):blen (r+2 ^ k * d)=k+blen d:=by
 have h1:=B2G hd
 have h2:=C0W d
 have h3:=B60 hd
 obtain ⟨b,hb⟩:∃ b,blen d=b+1:=⟨blen d - 1,by omega⟩
 rw [hb] at h1 h2 ⊢
 have h1:2 ^ b≤d:=by simpa using h1
 rw [← Nat.add_assoc]
 refine C0V ?_ ?_
 ·rw [Nat.pow_add]
  have:2 ^ k * 2 ^ b≤2 ^ k * d:=Nat.mul_le_mul_left _ h1
  omega
 ·have:2 ^ k * (d+1)≤2 ^ k * 2 ^ (b+1):=Nat.mul_le_mul_left _ h2
  rw [Nat.add_assoc,Nat.pow_add]
  rw [Nat.mul_add] at this
  omega
theorem B61 {n k:Nat} (h:n / 2 ^ k≠0):blen n=k+blen (n / 2 ^ k):=by
 have:=B0W (d:=n / 2 ^ k) (r:=n % 2 ^ k) (k:=k) h (Nat.mod_lt _ (Nat.two_pow_pos k))
 rwa [Nat.mod_add_div] at this
theorem A41 {x:Int} (k:Nat) (h:((2 ^ k:Nat):Int)≤x):(blen x.toNat:Int)=k+blen (x / ((2 ^ k:Nat):Int)).toNat:=by
 obtain ⟨X,rfl⟩:=Int.eq_ofNat_of_zero_le (a:=x) (by have:=Int.natCast_nonneg (2 ^ k);omega)
 have hX:2 ^ k≤X:=by omega
 have e:((X:Int) / ((2 ^ k:Nat):Int)).toNat=X / 2 ^ k:=by rw [← Int.natCast_ediv];exact Int.toNat_natCast _
 rw [e,Int.toNat_natCast,B61 (k:=k) (by have:=Nat.div_pos hX (Nat.two_pow_pos k);omega)]
 omega
theorem B0X {n k:Nat} (h:n < 2 ^ k):blen n≤k:=by
 by_cases hn:n=0
 ·subst hn;simp [blen]
 ·have h1:=B2G hn
  rcases Nat.lt_or_ge k (blen n) with h2 | h2
  ·exfalso
   have:2 ^ k≤2 ^ (blen n - 1):=Nat.pow_le_pow_right (by decide) (by omega)
   omega
  ·exact h2
theorem B0Y {n:Nat} (h:n < 256):blen n≤8:=B0X h
end Go.Vm.Wd
namespace Go.Vm.Wd
open Go.RowKit
def A0s:ByteArray:=⟨#[0,1,2,2,3,3,3,3,4,4,4,4,4,4,4,4,5,5,5,5,5,5,5,5,5,5,5,5,5,5,5,5,6,6,6,6,6,6,6,6,6,6,6,6,6,6,6,6,6,6,6,6,6,6,6,6,6,6,6,6,6,6,6,6,7,7,7,7,7,7,7,7,7,7,7,7,7,7,7,7,7,7,7,7,7,7,7,7,7,7,7,7,7,7,7,7,7,7,7,7,7,7,7,7,7,7,7,7,7,7,7,7,7,7,7,7,7,7,7,7,7,7,7,7,7,7,7,7,8,8,8,8,8,8,8,8,8,8,8,8,8,8,8,8,8,8,8,8,8,8,8,8,8,8,8,8,8,8,8,8,8,8,8,8,8,8,8,8,8,8,8,8,8,8,8,8,8,8,8,8,8,8,8,8,8,8,8,8,8,8,8,8,8,8,8,8,8,8,8,8,8,8,8,8,8,8,8,8,8,8,8,8,8,8,8,8,8,8,8,8,8,8,8,8,8,8,8,8,8,8,8,8,8,8,8,8,8,8,8,8,8,8,8,8,8,8,8,8,8,8,8,8,8,8,8,8]⟩
theorem B62:∀ k:Fin 256,(A0s.data.getD k.val 0).toNat=blen k.val:=by decide +kernel
theorem A6l:A0s.size=256:=by decide +kernel
theorem C0X {k:Int} (h:0≤k∧k≤255):(((A0s.data.getD k.toNat 0).toNat:Nat):Int)=blen k.toNat:=by
 exact congrArg (fun n:Nat=>(n:Int)) (B62 ⟨k.toNat,by omega⟩)
variable {R:Type}
def l8V:List V:=txt A0s
abbrev W8 (n:Int):Int:=IntKind.wrap .u8 n
def lnE (n w:Int) (k:Int→Option R):Option R:=bif F9 0 (W8 n)&&G0 (W8 n) (l8V.length:Nat) then k (B1 (w+B1 (l8V.getD (W8 n).toNat .n).int)) else none
def ln8 (n w:Int) (k:Int→Option R):Option R:=bif F9 256 n then lnE (n.fdiv (2 ^ 8)) (B1 (w+8)) k else lnE n w k
def C0Y (n w:Int) (k:Int→Option R):Option R:=bif F9 65536 n then ln8 (n.fdiv (2 ^ 16)) (B1 (w+16)) k else ln8 n w k
def ln64 (n:Int) (k:Int→Option R):Option R:=bif F9 4294967296 n then C0Y (n.fdiv (2 ^ 32)) 32 k else C0Y n 0 k
theorem C4m:l8V.length=256:=by
 show (A0s.data.toList.map _).length=256
 rw [C6O,C6R];exact A6l
theorem C5K {i:Int} (h:0≤i∧i≤255):(l8V.getD i.toNat .n).int=(blen i.toNat:Int):=by
 rw [← C0X h]
 have hs:i.toNat < A0s.data.size:=by have:=A6l;show _ < A0s.size;omega
 show ((A0s.data.toList.map fun b=>V.i (b.toNat:Int)).getD i.toNat .n).int=_
 rw [List.getD_eq_getElem?_getD,List.getElem?_map,Array.getElem?_toList,Array.getElem?_eq_getElem hs,Array.getD_eq_getD_getElem?,Array.getElem?_eq_getElem hs]
 rfl
theorem C5L {n:Int} (h:0≤n∧n≤255):W8 n=n:=C0U h
theorem B2H {n w:Int} {k:Int→Option R} (h:0≤n∧n≤255) (hw:0≤w∧w≤60):lnE n w k=k (w+(blen n.toNat:Int)):=by
 unfold lnE
 have hb:=B0Y (n:=n.toNat) (by omega)
 rw [C5L h,E5.2 h.1,C4m,C5K h,G1 (n:=(blen n.toNat:Int)) (by omega) (by omega),G1 (by omega) (by omega),show G0 n (256:Nat)=true by simp [G0];omega]
 simp only [Bool.and_self,cond_true]
theorem fd {n:Int} (k:Nat) (h:0≤n):n.fdiv ((2:Int) ^ k)=n / ((2 ^ k:Nat):Int):=by
 rw [Int.fdiv_eq_ediv_of_nonneg _ (by exact Int.le_of_lt (Int.pow_pos (by decide)))]
 congr 1
theorem B2I {n w:Int} {k:Int→Option R} (h:0≤n∧n≤65535) (hw:0≤w∧w≤48):ln8 n w k=k (w+(blen n.toNat:Int)):=by
 unfold ln8
 cases hc:F9 256 n with
 | false =>
  have hc:n < 256:=by cases hq:decide (n < 256) with | true=>exact of_decide_eq_true hq | false=>have:=of_decide_eq_false hq;rw [E5.2 (by omega)] at hc;cases hc
  exact B2H (by omega) (by omega)
 | true =>
  have hc:=E5.1 hc
  have e:=A41 (x:=n) 8 (by omega)
  rw [fd 8 h.1,G1 (by omega) (by omega),cond_true,B2H (by omega) (by omega),e]
  congr 1;omega
theorem B63 {a b:Int} (h:F9 a b=false):b < a:=by
 by_cases hc:a≤b
 ·rw [E5.2 hc] at h;cases h
 ·omega
theorem A81 {n w:Int} {k:Int→Option R} (h:0≤n∧n≤4294967295) (hw:0≤w∧w≤32):C0Y n w k=k (w+(blen n.toNat:Int)):=by
 unfold C0Y
 cases hc:F9 65536 n with
 | false=>have hc:=B63 hc;exact B2I (by omega) (by omega)
 | true =>
  have hc:=E5.1 hc
  have e:=A41 (x:=n) 16 (by omega)
  rw [fd 16 h.1,G1 (by omega) (by omega),cond_true,B2I (by omega) (by omega),e]
  congr 1;omega
theorem ln64_law {n:Int} {k:Int→Option R} (h:0≤n∧n≤18446744073709551615):ln64 n k=k (blen n.toNat:Int):=by
 unfold ln64
 cases hc:F9 4294967296 n with
 | false=>have hc:=B63 hc;simp only [cond_false];rw [A81 (by omega) (by omega)];congr 1;omega
 | true =>
  have hc:=E5.1 hc
  have e:=A41 (x:=n) 32 (by omega)
  rw [fd 32 h.1,cond_true,A81 (by omega) (by omega),e]
  congr 1
end Go.Vm.Wd
namespace Go.Vm.Wd
open Go.RowKit
variable {R:Type}
end Go.Vm.Wd
namespace Go.Vm.Wd
open Go.RowKit
variable {R:Type}
end Go.Vm.Wd
namespace Go.Vm.Wd
open Go.RowKit
variable {R:Type}
end Go.Vm.Wd
namespace Go.Vm
open Go.RowKit
variable {P:Program} {T:TT} {R:Type} {c:N5} {e e':B2} {of:Nat→Option Ob}
section
variable (ρ:Nat→Nat) (τ:Nat→Nat→Option Nat)
def rnV (id ver:Nat) (k:Nat→A):A :=
 match τ id ver with
 | some v=>k v
 | none=>.x
mutual
def rnA:A→A
 | .p id t path=>.p (ρ id) t path
 | .e id ver i t path=>rnV τ id ver fun v=>.e (ρ id) v i t path
 | .o id ver=>rnV τ id ver fun v=>.o (ρ id) v
 | .w id ver off n=>rnV τ id ver fun v=>.w (ρ id) v off n
 | .a id t path lo m=>.a (ρ id) t path lo m
 | .m id=>.m (ρ id)
 | .y id=>.y (ρ id)
 | .f fn l=>.f fn (rnL l)
 | .g t l=>.g t (rnL l)
 | .t l=>.t (rnL l)
 | a=>a
def rnL:List A→List A
 | []=>[]
 | a::r=>rnA a::rnL r
end
def rnE:List (V×A)→List (V×A)
 | []=>[]
 | p::r=>(p.1,rnA ρ τ p.2)::rnE r
def rnO (id:Nat):Ob→Ob
 | .box t a sh=>.box t (rnA ρ τ a) sh
 | .row el ver xs nl sh=>.row el (match τ id ver with | some v=>v | none=>0) xs nl sh
 | .map kt et es=>.map kt et (rnE ρ τ es)
 | .vm kt et es=>.vm kt et es
 | .sm kt st el es ho=>.sm kt st el es ho
 | .it (some m)=>.it (some (ρ m))
 | .it none=>.it none
 | .lp q=>.lp none
end
def okT:Ob→Bool
 | .lp (some _)=>false
 | _=>true
structure REN (e e':B2) (ρ:Nat→Nat) (τ:Nat→Nat→Option Nat) (D:Nat→Prop):Prop where
 w:e'.w=e.w
 S:∀ b i,e'.S b i↔e.S b i
 use:∀ id,D id→e.U id→e'.U (ρ id)
 ι:∀ id,D id→e.U id→e'.ι (ρ id)=e.ι id
 ty:∀ id,D id→e.U id→e'.ty (ρ id)=e.ty id
 ln:∀ id,D id→e.U id→e'.ln (ρ id)=e.ln id
 bn0:∀ id,D id→e.U id→e.bn id=0→e'.bn (ρ id)=0
 ver:∀ id ver v,D id→e.U id→τ id ver=some v→0 < ver→ver≤e.bn id→0 < v∧v≤e'.bn (ρ id)∧(e'.bn (ρ id)=v→e.bn id=ver)
 G:∀ id a o b,D id→e.U id→e.ι id=some (a,o)→e.G a b→e'.G a b
variable {ρ:Nat→Nat} {τ:Nat→Nat→Option Nat} {D:Nat→Prop}
theorem REN.fz (h:REN e e' ρ τ D) {a:Addr} {ds:List Value} (q:Fz e a ds):Fz e' a ds:=⟨q.1,fun j y hj=>by
 obtain ⟨p1,p2⟩:=q.2 j y hj
 rw [h.w];exact ⟨p1,(h.S _ _).2 p2⟩⟩
theorem REN.rv (h:REN e e' ρ τ D) {ts:List Nat} {xs:List V} {cs:List Value} (q:RV T e ts xs cs):RV T e' ts xs cs:=q.change fun _ _=>h.fz
theorem R1.ren (h:REN e e' ρ τ D) {a:A} {v:Value} (q:R1 T e a v) (ho:one v=true) (hd:∀ id∈C8 a,D id):R1 T e' (rnA ρ τ a) v:=by
 cases a with
 | x=>exact q
 | p id t path =>
  obtain ⟨b,off,h1,h2,h3,h4,h5⟩:=q
  have d:=hd id (by simp [C8])
  exact ⟨b,off,h.use _ d h1,h.bn0 _ d h1 h2,(h.ι _ d h1).trans h3,by rw [h.ty _ d h1];exact h4,h5⟩
 | a id t path lo m =>
  obtain ⟨b,off,n,el,k,cap,h1,h2,h3,h4,h5⟩:=q
  have d:=hd id (by simp [C8])
  exact ⟨b,off,n,el,k,cap,h.use _ d h1,h.bn0 _ d h1 h2,(h.ι _ d h1).trans h3,by rw [h.ty _ d h1];exact h4,h5⟩
 | m id =>
  obtain ⟨b,h1,h2,h3,h4⟩:=q
  have d:=hd id (by simp [C8])
  exact ⟨b,h.use _ d h1,h.bn0 _ d h1 h2,(h.ι _ d h1).trans h3,h4⟩
 | y id =>
  obtain ⟨b,h1,h2,h3,h4⟩:=q
  have d:=hd id (by simp [C8])
  exact ⟨b,h.use _ d h1,h.bn0 _ d h1 h2,(h.ι _ d h1).trans h3,h4⟩
 | e id ver i t path =>
  obtain ⟨h0,h1,h2,h3,h4⟩:=q
  have d:=hd id (by simp [C8])
  simp only [rnA,rnV]
  cases hv:τ id ver with
  | none=>exact ho
  | some v' =>
   obtain ⟨v1,v2,v3⟩:=h.ver _ _ _ d h1 hv h3 h2
   refine ⟨h0,h.use _ d h1,v2,v1,fun hb=>?_⟩
   obtain ⟨b,o,off,g1,g2,g3,g4⟩:=h4 (v3 hb)
   exact ⟨b,o,off,(h.ι _ d h1).trans g1,by rw [h.ty _ d h1];exact g2,by rw [h.ln _ d h1];exact g3,by rw [h.ty _ d h1];exact g4⟩
 | o id ver =>
  obtain ⟨h0,h1,h2,h3,h4⟩:=q
  have d:=hd id (by simp [C8])
  simp only [rnA,rnV]
  cases hv:τ id ver with
  | none=>exact ho
  | some v' =>
   obtain ⟨v1,v2,v3⟩:=h.ver _ _ _ d h1 hv h3 h2
   refine ⟨h0,h.use _ d h1,v2,v1,fun hb=>?_⟩
   rcases h4 (v3 hb) with ⟨g1,g2,g3⟩ | ⟨b,o,cap,k,g1,g2,g3,g5,g4⟩
   ·exact .inl ⟨(h.ι _ d h1).trans g1,by rw [h.ln _ d h1];exact g2,g3⟩
   ·exact .inr ⟨b,o,cap,k,(h.ι _ d h1).trans g1,by rw [h.ln _ d h1];exact g2,by rw [h.ty _ d h1,h.w];exact g3,g5,by rw [h.ln _ d h1];exact g4⟩
 | w id ver off n =>
  obtain ⟨h0,h1,h2,h3,h4⟩:=q
  have d:=hd id (by simp [C8])
  simp only [rnA,rnV]
  cases hv:τ id ver with
  | none=>exact ho
  | some v' =>
   obtain ⟨v1,v2,v3⟩:=h.ver _ _ _ d h1 hv h3 h2
   refine ⟨h0,h.use _ d h1,v2,v1,fun hb=>?_⟩
   obtain ⟨b,o,cap,k,g1,g2,g3,g4,g5,g6⟩:=h4 (v3 hb)
   exact ⟨b,o,cap,k,(h.ι _ d h1).trans g1,g2,by rw [h.ln _ d h1];exact g3,by rw [h.ty _ d h1,h.w];exact g4,by rw [h.ty _ d h1];exact g5,g6⟩
 | _=>exact q.elim
theorem A7l {t:Nat} {a:A}:C1 T t a=true→C1 T t (rnA ρ τ a)=true:=by
 cases a with
 | e id ver i t' path=>intro h;simp only [rnA,rnV];cases τ id ver<;>exact h
 | o id ver=>intro h;simp only [rnA,rnV];cases τ id ver<;>exact h
 | w id ver off n=>intro h;simp only [rnA,rnV];cases τ id ver<;>exact h
 | _=>exact fun h=>h
theorem C0Z:∀ {ts:List Nat} {l:List A},X3 T ts l=true→X3 T ts (rnL ρ τ l)=true:=by
 intro ts
 induction ts with
 | nil=>intro l h;cases l with
  | nil=>rfl
  | cons _ _=>cases h
 | cons t ts ih=>intro l h;cases l with
  | nil=>cases h
  | cons a l =>
   simp only [rnL,X3,C6L] at h ⊢
   exact ⟨A7l h.1,ih h.2⟩
theorem RA.ren (h:REN e e' ρ τ D) {l:List A} {cs:List Value} (q:RA T e l cs):(∀ id∈D4 l,D id)→RA T e' (rnL ρ τ l) cs:=by
 induction q with
 | nil=>intro _;exact .nil
 | i hr _ ih=>intro hd;exact .i hr (ih fun id A3=>hd id (by simpa [D4,C8] using A3))
 | b _ ih=>intro hd;exact .b (ih fun id A3=>hd id (by simpa [D4,C8] using A3))
 | s _ ih=>intro hd;exact .s (ih fun id A3=>hd id (by simpa [D4,C8] using A3))
 | z h1 _ ih=>intro hd;exact .z h1 (ih fun id A3=>hd id (by simpa [D4,C8] using A3))
 | v h1 _ ih=>intro hd;exact .v (h.rv h1) (ih fun id A3=>hd id (by simpa [D4,C8] using A3))
 | c h1 h2 _ ih=>intro hd;exact .c (h.rv h1) (h.fz h2) (ih fun id A3=>hd id (by simpa [D4,C8] using A3))
 | q h1 _ ih=>intro hd;exact .q (h.rv h1) (ih fun id A3=>hd id (by simpa [D4,C8] using A3))
 | f _ _ ih1 ih=>intro hd;exact .f (ih1 fun id A3=>hd id (by simp [D4,C8,A3])) (ih fun id A3=>hd id (by simp [D4,A3]))
 | g h1 h2 h3 _ _ ih1 ih=>intro hd;exact .g h1 (C0Z h2) h3 (ih1 fun id A3=>hd id (by simp [D4,C8,A3])) (ih fun id A3=>hd id (by simp [D4,A3]))
 | r h1 h2 _ ih=>intro hd;exact .r (h1.ren h h2 fun id A3=>hd id (by simp [D4,A3])) h2 (ih fun id A3=>hd id (by simp [D4,A3]))
theorem F8.ren (h:REN e e' ρ τ D) {a:A} {v:Value} (q:F8 T e a v) (hd:∀ id∈C8 a,D id):F8 T e' (rnA ρ τ a) v:=by
 have one:∀ {b:A},RA T e [b] [v]→(∀ id∈C8 b,D id)→RA T e' [rnA ρ τ b] [v]:=fun g hb=>RA.ren h g fun id A3=>hb id (by simpa [D4] using A3)
 cases a with
 | x=>trivial
 | t l=>exact q.elim
 | v t y=>exact ⟨h.rv q.1,q.2⟩
 | g t l=>exact ⟨RA.ren h q.1 fun id A3=>hd id (by simpa [D4] using A3),q.2⟩
 | e id ver i t path =>
  have:=one (b:=.e id ver i t path) q hd
  simp only [rnA,rnV] at this ⊢
  cases hv:τ id ver with
  | none=>trivial
  | some v'=>rw [hv] at this;exact this
 | o id ver =>
  have:=one (b:=.o id ver) q hd
  simp only [rnA,rnV] at this ⊢
  cases hv:τ id ver with
  | none=>trivial
  | some v'=>rw [hv] at this;exact this
 | w id ver off n =>
  have:=one (b:=.w id ver off n) q hd
  simp only [rnA,rnV] at this ⊢
  cases hv:τ id ver with
  | none=>trivial
  | some v'=>rw [hv] at this;exact this
 | i k n=>exact one (b:=.i k n) q hd
 | b y=>exact one (b:=.b y) q hd
 | s l=>exact one (b:=.s l) q hd
 | z y=>exact one (b:=.z y) q hd
 | p id t path=>exact one (b:=.p id t path) q hd
 | c t y=>exact one (b:=.c t y) q hd
 | q t y=>exact one (b:=.q t y) q hd
 | a id t path lo m=>exact one (b:=.a id t path lo m) q hd
 | m id=>exact one (b:=.m id) q hd
 | y id=>exact one (b:=.y id) q hd
 | f fn l=>exact one (b:=.f fn l) q hd
theorem C00:∀ {l:List A} {k:Nat} {v:A},(rnL ρ τ l)[k]? = some v→∃ a,l[k]? = some a∧v=rnA ρ τ a:=by
 intro l
 induction l with
 | nil=>intro k v h;simp [rnL] at h
 | cons a l ih =>
  intro k v h
  cases k with
  | zero=>simp [rnL] at h;exact ⟨a,rfl,h.symm⟩
  | succ k=>exact ih (by simpa [rnL] using h)
theorem C01:∀ {l:List A},(rnL ρ τ l).length=l.length:=by
 intro l
 induction l with
 | nil=>rfl
 | cons a l ih=>simp [rnL,ih]
theorem B64:∀ {l:List A} {k:Nat} {a:A},l[k]? = some a→∀ id∈C8 a,id∈D4 l:=by
 intro l
 induction l with
 | nil=>intro k a h;simp at h
 | cons b l ih =>
  intro k a h id A3
  cases k with
  | zero=>simp at h;subst h;simp [D4,A3]
  | succ k=>simp [D4,ih (by simpa using h) id A3]
theorem B65 {e:B2} {a:A} {v:Value} (h:F8 T e a v):B6 T e a v:=by
 cases a with
 | t l=>exact h.elim
 | _=>exact h
theorem B6.ren (h:REN e e' ρ τ D) {a:A} {v:Value} (q:B6 T e a v) (hd:∀ id∈C8 a,D id):B6 T e' (rnA ρ τ a) v:=by
 by_cases ht:∃ l,a=.t l
 ·obtain ⟨l,rfl⟩:=ht
  obtain ⟨xs,rfl,h2,h3⟩:=q
  refine ⟨xs,rfl,by rw [C01];exact h2,fun k v x hv hx=>?_⟩
  obtain ⟨b,hb,rfl⟩:=C00 hv
  exact (h3 k b x hb hx).ren h fun id A3=>hd id (by simp only [C8];exact B64 hb id A3)
 ·exact B65 ((A4i q fun l hl=>ht ⟨l,hl⟩).ren h hd)
theorem P8.ren (h:REN e e' ρ τ D) {l:List A} {vs:List Value} (q:P8 T e l vs):(∀ id∈D4 l,D id)→P8 T e' (rnL ρ τ l) vs:=by
 induction q with
 | nil=>intro _;exact .nil
 | cons h1 _ ih=>intro hd;exact .cons (h1.ren h fun id A3=>hd id (by simp [D4,A3])) (ih fun id A3=>hd id (by simp [D4,A3]))
theorem MR.ren (h:REN e e' ρ τ D) {kt et:Nat} {es:List (V×A)} {ms:List MapEntry} (q:MR T e kt et es ms):(∀ id∈A1Q es,D id)→MR T e' kt et (rnE ρ τ es) ms:=by
 induction q with
 | nil=>intro _;exact .nil
 | cons h1 h2 h3 _ ih =>
  intro hd
  exact .cons (show F8 T e' (.v _ _) _ from ⟨h.rv h1.1,h1.2⟩) (h2.ren h fun id A3=>hd id (by simp [A1Q,A3])) (A7l h3) (ih fun id A3=>hd id (by simp [A1Q,A3]))
theorem A2J:∀ l:List (V×A),rnE ρ τ l=l.map fun p=>(p.1,rnA ρ τ p.2):=by
 intro l
 induction l with
 | nil=>rfl
 | cons p r ih=>simp [rnE,ih]
theorem B66 {et:Nat}:∀ es:List (V×V),A1Q (vms et es)=[]:=by
 intro es
 induction es with
 | nil=>rfl
 | cons p r ih=>simp only [vms,A1Q,C8,ih,List.nil_append]
theorem C02 {et:Nat}:∀ es:List (V×V),rnE ρ τ (vms et es)=vms et es:=by
 intro es
 induction es with
 | nil=>rfl
 | cons p r ih=>simp only [vms,rnE,ih];rfl
theorem OK.ren (h:REN e e' ρ τ D) {id:Nat} {o:Ob} (q:OK T e id o) (di:D id) (hd:∀ k∈A1o o,D k) (ho:okT o=true)
  (hv:∀ el ver xs nl sh,o=.row el ver xs nl sh→∃ v,τ id ver=some v∧e'.bn (ρ id)=v):OK T e' (ρ id) (rnO ρ τ id o):=by
 cases o with
 | box t a sh =>
  obtain ⟨h1,h2,h2',h2'',b,cs,ty,fz,h3,h4,h5,h5',h6,h7⟩:=q
  refine ⟨h.use _ di h1,h.bn0 _ di h1 h2,(h.ty _ di h1).trans h2',A7l h2'',b,cs,ty,fz,(h.ι _ di h1).trans h3,by rw [h.w];exact h4,?_,h5',RA.ren h h6 (fun k hk=>hd k (by simpa [D4,A1o] using hk)),fun hh i hc=>h7 hh i ((h.S _ _).1 hc)⟩
  unfold A0H at h5 ⊢;rw [h.w];exact h5
 | row el ver xs nl sh =>
  obtain ⟨h1,h2,h3,h4,h4',h5,h6⟩:=q
  obtain ⟨v,hτ,hbv⟩:=hv _ _ _ _ _ rfl
  obtain ⟨v1,v2,v3⟩:=h.ver _ _ _ di h1 hτ h2 (by omega)
  simp only [rnO,hτ]
  refine ⟨h.use _ di h1,v1,hbv,(h.ty _ di h1).trans h4,(h.ln _ di h1).trans h4',h5,?_⟩
  rcases h6 with ⟨g1,g2,g3⟩ | ⟨nn',b,o,cs,t,fz,pre,ys,post,g1,g2,g3,g4,g5,g6,g7,g8⟩
  ·exact .inl ⟨g1,(h.ι _ di h1).trans g2,g3⟩
  ·refine .inr ⟨nn',b,o,cs,t,fz,pre,ys,post,(h.ι _ di h1).trans g1,by rw [h.w];exact g2,?_,g4,g5,h.rv g6,fun i hi hc=>g7 i hi ((h.S _ _).1 hc),fun hh i hi hc=>g8 hh i hi ((h.S _ _).1 hc)⟩
   unfold A0H at g3 ⊢;rw [h.w];exact g3
 | map kt et es =>
  obtain ⟨h1,h2,b,ms,clock,h3,h4,⟨h5,h5'⟩,es',h6,h7⟩:=q
  refine ⟨h.use _ di h1,h.bn0 _ di h1 h2,b,ms,clock,(h.ι _ di h1).trans h3,by rw [h.w];exact h4,⟨by rw [A2J,List.map_map];exact h5,h5'⟩,rnE ρ τ es',by rw [A2J,A2J];exact h6.map _,h7.ren h fun k hk=>hd k (A3B h6.symm k hk)⟩
 | vm kt et es =>
  obtain ⟨h1,h2,b,ms,clock,h3,h4,⟨h5,h5'⟩,es',h6,h7⟩:=q
  refine ⟨h.use _ di h1,h.bn0 _ di h1 h2,b,ms,clock,(h.ι _ di h1).trans h3,by rw [h.w];exact h4,⟨h5,h5'⟩,rnE ρ τ es',by rw [← C02 (ρ:=ρ) (τ:=τ) es,A2J,A2J];exact h6.map _,h7.ren h fun k hk=>by
   have:=A3B h6.symm k hk
   rw [B66] at this;cases this⟩
 | sm kt st el es ho' =>
  obtain ⟨h1,h2,ha,hb',hc,b,ms,clock,h3,h4,h5,es',bs,h6,h7⟩:=q
  refine ⟨h.use _ di h1,h.bn0 _ di h1 h2,ha,hb',hc,b,ms,clock,(h.ι _ di h1).trans h3,by rw [h.w];exact h4,h5,es',bs,h6,SR.move (e:=e) (e':=e') (fun a ds=>h.fz) h.w (fun b i=>(h.S b i).1) (fun b' hG=>h.G id b 0 b' di h1 h3 hG) h7⟩
 | lp q' =>
  cases q' with
  | none =>
   obtain ⟨h1,h2,b,h3,h4⟩:=q
   exact ⟨h.use _ di h1,h.bn0 _ di h1 h2,b,(h.ι _ di h1).trans h3,by rw [h.w];exact h4⟩
  | some r=>cases ho
 | it q' =>
  cases q' with
  | none =>
   obtain ⟨h1,h2,b,x,y,z,h3,h4⟩:=q
   exact ⟨h.use _ di h1,h.bn0 _ di h1 h2,b,x,y,z,(h.ι _ di h1).trans h3,by rw [h.w];exact h4⟩
  | some m =>
   obtain ⟨h1,h2,b,bm,x,z,h3,h4,h5,h6,h7⟩:=q
   have dm:=hd m (by simp [A1o])
   exact ⟨h.use _ di h1,h.bn0 _ di h1 h2,b,bm,x,z,(h.ι _ di h1).trans h3,by rw [h.w];exact h4,h.use _ dm h5,h.bn0 _ dm h5 h6,(h.ι _ dm h5).trans h7⟩
end Go.Vm
end