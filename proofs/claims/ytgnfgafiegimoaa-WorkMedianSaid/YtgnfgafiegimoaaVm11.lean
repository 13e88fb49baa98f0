/- What the operations of a program do, shown once for all programs; and numbers. -/
import Derived.Test.YtgnfgafiegimoaaVm10
import Derived.Test.YtgnfgafiegimoaaVm9
import Derived.Sort.LotD5
set_option linter.constructorNameAsVariable false
set_option linter.unusedVariables false
set_option linter.unusedSimpArgs false
noncomputable section
namespace Go.Vm
open Go.RowKit Go.Sort
variable {R:Type}
inductive B4r where | m (xs:List V) (f h i:Int)
inductive C5w where | o (xs:List V) (f h i:Int)
def B4s (R:Type) (p:B4r) (K:B4r→Option R) (kx:C5w→Option R):Option R:=match p with
 | .m xs f h i=>bif F9 0 i then (bif gSf ⟨xs,i,h,f⟩ then K (.m (A5J ⟨xs,i,h,f⟩) f h (B1 (i - 1))) else none) else kx (.o xs f h i)
inductive B4t where | m (xs:List V) (f h i:Int)
inductive C5x where | o (xs:List V) (f h i:Int)
def B4u (R:Type) (p:B4t) (K:B4t→Option R) (kx:C5x→Option R):Option R:=match p with
 | .m xs f h i=>bif F9 0 i then swC xs f (B1 (f+i)) (fun ys=>bif gSf ⟨ys,0,i,f⟩ then K (.m (A5J ⟨ys,0,i,f⟩) f h (B1 (i - 1))) else none) else kx (.o xs f h i)
def C3X (R:Type) (xs:List V) (a b:Int) (k:List V→Option R):Option R :=
 D2 (B4s R) (A3 FU) (.m xs a (B1 (b - a)) (B1 (Int.tdiv (B1 (B1 (b - a) - 1)) 2))) (fun | .o xs f h _=>D2 (B4u R) (A3 FU) (.m xs f h (B1 (h - 1))) (fun | .o xs _ _ _=>k xs))
def xr1 (r:Int):Int:=F7 .xor .u64 r (WU (r * 8192))
def xr2 (r:Int):Int:=F7 .xor .u64 r (Int.fdiv r 128)
def xr3 (r:Int):Int:=F7 .xor .u64 r (WU (r * 131072))
def xrN (r:Int):Int:=xr3 (xr2 (xr1 r))
def xrO (r m:Int):Int:=B1 (F7 .and .u64 r (WU (m - 1)))
inductive B4v where | m (xs:List V) (a b l m i r:Int)
inductive C5y where | o (xs:List V) (a b l m i r:Int)
def A5Q (R:Type) (p:B4v) (K:B4v→Option R) (kx:C5y→Option R):Option R:=match p with
 | .m xs a b l m i r=>bif F9 i (B1 (B1 (a+B1 (B1 (Int.tdiv l 4) * 2))+1)) then
   (bif F9 l (xrO (xrN r) m) then swC xs i (B1 (a+B1 (xrO (xrN r) m - l))) (fun ys=>K (.m ys a b l m (B1 (i+1)) (xrN r)))
   else swC xs i (B1 (a+xrO (xrN r) m)) (fun ys=>K (.m ys a b l m (B1 (i+1)) (xrN r)))) else kx (.o xs a b l m i r)
theorem A7e {d:Array Int} (h:d.size≤1000000):gLn (E8 d)=true:=by
 simp only [gLn,B5Z,Bool.and_true]
 exact C6U (by rw [R5];exact h)
theorem B2w {d:Array Int} {a b c:Nat} (h:c+b≤d.size) (h2:d.size≤1000000) (h3:a≤1000000):gSf ⟨E8 d,a,b,c⟩=true:=by
 simp only [gSf,A7e h2,Bool.and_true,C6L,E5,R5]
 refine ⟨?_,?_,?_,?_,?_⟩<;>omega
theorem B2x {d:Array Int} {a b c:Nat}:A5J ⟨E8 d,a,b,c⟩=E8 (siftDown ltInt b c a d):=by
 rw [A5J,D9];simp only [Sa.d,J6,Int.toNat_natCast]
theorem T3 (h f:Nat):∀ (m r:Nat) (d:Array Int),h - r≤m→(siftDown ltInt h f r d).size=d.size:=by
 intro m
 induction m with
 | zero=>intro r d hm;rw [siftDown,dif_pos (by omega)]
 | succ m ih =>
  intro r d hm
  rw [siftDown]
  split
  ·rfl
  ·split
   ·split
    ·rfl
    ·split
     ·rw [ih _ _ (by omega),B8]
     ·rfl
   ·split
    ·rfl
    ·rw [ih _ _ (by omega),B8]
theorem C0e (f h:Nat):∀ (k n:Nat) (d:Array Int),k < n→f+h≤d.size→d.size≤1000000→k≤1000000 →
  ∀ kx,D2 (B4s R) n (.m (E8 d) f h ((k:Int) - 1)) kx=kx (.o (E8 (heapBuild ltInt h f k d)) f h (-1)):=by
 intro k
 induction k with
 | zero =>
  intro n d hn hz hs hk kx
  obtain ⟨n,rfl⟩:∃ m,n=m+1:=⟨n - 1,by omega⟩
  rw [D2,B4s,C6,decide_eq_false (by omega)];rfl
 | succ k ih =>
  intro n d hn hz hs hk kx
  obtain ⟨n,rfl⟩:∃ m,n=m+1:=⟨n - 1,by omega⟩
  have e:(((k+1:Nat):Int) - 1)=(k:Int):=by omega
  rw [D2,B4s,e,C6,decide_eq_true (by omega),cond_true,B2w hz hs (by omega),cond_true,B2x,G1 (by omega) (by omega),
   ih n _ (by omega) (by rw [T3 h f h _ _ (by omega)];exact hz) (by rw [T3 h f h _ _ (by omega)];exact hs) (by omega)]
  rfl
theorem A1H (h f:Nat):∀ (k:Nat) (d:Array Int),(heapBuild ltInt h f k d).size=d.size:=by
 intro k
 induction k with
 | zero=>intro d;rfl
 | succ k ih=>intro d;rw [heapBuild,ih,T3 h f h _ _ (by omega)]
theorem C0f (f h:Nat):∀ (k n:Nat) (d:Array Int),k < n→f+k≤d.size→d.size≤1000000 →
  ∀ kx,D2 (B4u R) n (.m (E8 d) f h ((k:Int) - 1)) kx=kx (.o (E8 (heapPop ltInt f k d)) f h (-1)):=by
 intro k
 induction k with
 | zero =>
  intro n d hn hz hs kx
  obtain ⟨n,rfl⟩:∃ m,n=m+1:=⟨n - 1,by omega⟩
  rw [D2,B4u,C6,decide_eq_false (by omega)];rfl
 | succ k ih =>
  intro n d hn hz hs kx
  obtain ⟨n,rfl⟩:∃ m,n=m+1:=⟨n - 1,by omega⟩
  have e:(((k+1:Nat):Int) - 1)=(k:Int):=by omega
  have hsz:=B8 d f (f+k)
  rw [D2,B4u,e,C6,decide_eq_true (by omega),cond_true,D3 (n:=f+k) (by omega) (by omega),N3 rfl rfl (by omega) (by omega)]
  have e0:(⟨E8 (swp d f (f+k)),0,(k:Int),(f:Int)⟩:Sa)=⟨E8 (swp d f (f+k)),((0:Nat):Int),(k:Int),(f:Int)⟩:=rfl
  rw [e0,B2w (by omega) (by omega) (by omega),cond_true,B2x,G1 (by omega) (by omega),
   ih n _ (by omega) (by rw [T3 k f k _ _ (by omega)];omega) (by rw [T3 k f k _ _ (by omega)];omega)]
  rfl
theorem B6z {xs:List V} {a b:Int} (h:gAB ⟨xs,a,b,0⟩=true) (k:List V→Option R):C3X R xs a b k=k (A8e ⟨xs,a,b,0⟩):=by
 obtain ⟨a',b',d,h1,h2,h3,h4,h5,h6,h7⟩:=A3a h
 simp only at h1 h2 h3
 subst h1 h2 h3
 have hw:B1 ((b':Int) - a')=((b' - a':Nat):Int):=D3 (by omega) (by omega)
 have hi:B1 (Int.tdiv (B1 (((b' - a':Nat):Int) - 1)) 2)=((((b' - a' - 1) / 2+1:Nat):Int) - 1):=by
  rw [G1 (n:=((b' - a':Nat):Int) - 1) (by omega) (by omega)]
  have:Int.tdiv (((b' - a':Nat):Int) - 1) 2=(((b' - a' - 1) / 2+1:Nat):Int) - 1:=by
   by_cases h0:b' - a'=0
   ·rw [h0];rfl
   ·rw [Int.tdiv_eq_ediv_of_nonneg (by omega)];omega
  rw [this,G1 (by omega) (by omega)]
 rw [C3X,hw,hi,C0e a' (b' - a') _ (A3 FU) d (L6 (by omega)) (by omega) h7 (by omega)]
 simp only
 rw [G1 (n:=((b' - a':Nat):Int) - 1) (by omega) (by omega),C0f a' (b' - a') (b' - a') (A3 FU) _ (L6 (by omega)) (by rw [A1H];omega) (by rw [A1H];exact h7)]
 simp only
 rw [A8e,D9,h4];rfl
theorem C3Y {r:Nat} (h:r < 18446744073709551616):xrN (r:Int)=((xorNextN r:Nat):Int)∧xorNextN r < 18446744073709551616:=by
 have p:(18446744073709551616:Nat)=2 ^ 64:=by decide
 refine ⟨?_,xorNextN_lt r h⟩
 have h1:xr1 (r:Int)=((r ^^^ (r * 8192 % 18446744073709551616):Nat):Int):=by
  rw [xr1,show ((r:Int) * 8192)=((r * 8192:Nat):Int) by omega,C3G,A1b h (Nat.mod_lt _ (by decide))]
 have l1:r ^^^ (r * 8192 % 18446744073709551616) < 18446744073709551616:=by
  rw [p];exact Nat.xor_lt_two_pow (by omega) (by omega)
 unfold xorNextN
 simp only []
 rw [xrN,h1]
 generalize r ^^^ (r * 8192 % 18446744073709551616)=a at l1
 have h2:xr2 (a:Int)=((a ^^^ (a / 128):Nat):Int):=by
  rw [xr2,show Int.fdiv (a:Int) 128=((a / 128:Nat):Int) from by rw [Int.fdiv_eq_ediv_of_nonneg _ (by omega)];omega,A1b l1 (by omega)]
 have l2:a ^^^ (a / 128) < 18446744073709551616:=by
  rw [p];exact Nat.xor_lt_two_pow (by omega) (by omega)
 rw [h2]
 generalize a ^^^ (a / 128)=b at l2
 rw [xr3,show ((b:Int) * 131072)=((b * 131072:Nat):Int) by omega,C3G,A1b l2 (Nat.mod_lt _ (by decide))]
theorem C0g {r m:Nat} (hr:r < 18446744073709551616) (h1:1≤m) (hm:m < 100000000):xrO (r:Int) (m:Int)=((r &&& (m - 1):Nat):Int)∧r &&& (m - 1)≤m - 1:=by
 refine ⟨?_,Nat.and_le_right⟩
 have:=@Nat.and_le_right r (m - 1)
 rw [xrO,show ((m:Int) - 1)=((m - 1:Nat):Int) by omega,E0 (by omega),A4N hr (by omega)]
 exact D3 rfl (by omega)
theorem C0h (a b l m:Nat) (ha:a+l≤1000000) (h8:8≤l) (hm1:1≤m) (hm:m≤2 * l):∀ (q n:Nat) (r:UInt64) (d:Array Int),q≤3→q < n→a+l≤d.size→d.size≤1000000 →
  ∃ r':Int,∃ i':Int,∀ kx,D2 (A5Q R) n (.m (E8 d) a b l m ((a+l / 4 * 2+2 - q:Nat):Int) (r.toNat:Nat)) kx =
   kx (.o (E8 ((List.range q).foldl (fun st j=>breakStep a l m st (a+l / 4 * 2+2 - q+j)) (r,d)).2) a b l m i' r'):=by
 have hlim:B1 (B1 ((a:Int)+B1 (B1 (Int.tdiv (l:Int) 4) * 2))+1)=((a+l / 4 * 2+1:Nat):Int):=by
  rw [show Int.tdiv (l:Int) 4=((l / 4:Nat):Int) from by rw [Int.tdiv_eq_ediv_of_nonneg (by omega)];omega,
   D3 (x:=((l / 4:Nat):Int)) rfl (by omega),D3 (x:=((l / 4:Nat):Int) * 2) (n:=l / 4 * 2) (by omega) (by omega),
   D3 (x:=(a:Int)+((l / 4 * 2:Nat):Int)) (n:=a+l / 4 * 2) (by omega) (by omega),D3 (x:=((a+l / 4 * 2:Nat):Int)+1) (n:=a+l / 4 * 2+1) (by omega) (by omega)]
 intro q
 induction q with
 | zero =>
  intro n r d hq hn hz hs
  obtain ⟨n,rfl⟩:∃ m,n=m+1:=⟨n - 1,by omega⟩
  refine ⟨r.toNat,(a+l / 4 * 2+2:Nat),fun kx=>?_⟩
  rw [D2,A5Q,hlim,C6,decide_eq_false (by omega)]
  rfl
 | succ q ih =>
  intro n r d hq hn hz hs
  obtain ⟨n,rfl⟩:∃ m,n=m+1:=⟨n - 1,by omega⟩
  obtain ⟨x1,x2⟩:=C3Y r.toNat_lt
  obtain ⟨o1,o2⟩:=C0g (m:=m) x2 hm1 (by omega)
  have hx:xorNextN r.toNat=(xorNext r).toNat:=(xorNext_toNat r).symm
  have hi:a+l / 4 * 2+2 - (q+1)+1=a+l / 4 * 2+2 - q:=by omega
  generalize hidx:a+l / 4 * 2+2 - (q+1)=idx at hi
  have hw:B1 ((idx:Int)+1)=((a+l / 4 * 2+2 - q:Nat):Int):=D3 (by omega) (by omega)
  have step:∀ oth:Nat,oth < l→(if (xorNext r).toNat &&& (m - 1) ≥ l then ((xorNext r).toNat &&& (m - 1)) - l else (xorNext r).toNat &&& (m - 1))=oth →
    ∃ r':Int,∃ i':Int,∀ kx,swC (E8 d) idx (B1 ((a:Int)+(oth:Int))) (fun ys=>D2 (A5Q R) n (.m ys a b l m (B1 ((idx:Int)+1)) (xrN (r.toNat:Nat))) kx) =
     kx (.o (E8 ((List.range (q+1)).foldl (fun st j=>breakStep a l m st (idx+j)) (r,d)).2) a b l m i' r'):=by
   intro oth ho he
   obtain ⟨r',i',h⟩:=ih n (xorNext r) (swp d idx (a+oth)) (by omega) (by omega) (by rw [B8];exact hz) (by rw [B8];exact hs)
   refine ⟨r',i',fun kx=>?_⟩
   have hb:breakStep a l m (r,d) (idx+0)=(xorNext r,swp d idx (a+oth)):=by
    simp only [breakStep,Nat.add_zero]
    rw [he]
   have hf:(List.range (q+1)).foldl (fun st j=>breakStep a l m st (idx+j)) (r,d)=(List.range q).foldl (fun st j=>breakStep a l m st (a+l / 4 * 2+2 - q+j)) (xorNext r,swp d idx (a+oth)):=by
    rw [List.range_succ_eq_map,List.foldl_cons,List.foldl_map,hb]
    congr 1
    funext st j
    rw [show idx+(j+1)=a+l / 4 * 2+2 - q+j by omega]
   rw [D3 (n:=a+oth) (by omega) (by omega),N3 rfl rfl (by omega) (by omega),hw,x1,hx,h,hf]
  have head:∀ kx,D2 (A5Q R) (n+1) (.m (E8 d) a b l m (idx:Nat) (r.toNat:Nat)) kx=bif F9 (l:Int) (xrO (xrN (r.toNat:Nat)) m) then swC (E8 d) idx (B1 ((a:Int)+B1 (xrO (xrN (r.toNat:Nat)) m - l))) (fun ys=>D2 (A5Q R) n (.m ys a b l m (B1 ((idx:Int)+1)) (xrN (r.toNat:Nat))) kx)
   else swC (E8 d) idx (B1 ((a:Int)+xrO (xrN (r.toNat:Nat)) m)) (fun ys=>D2 (A5Q R) n (.m ys a b l m (B1 ((idx:Int)+1)) (xrN (r.toNat:Nat))) kx):=by
   intro kx
   rw [D2,A5Q,hlim,C6,decide_eq_true (by omega),cond_true]
  rw [hx] at x1 x2 o1 o2
  by_cases hc:(xorNext r).toNat &&& (m - 1) ≥ l
  ·obtain ⟨r',i',h⟩:=step (((xorNext r).toNat &&& (m - 1)) - l) (by omega) (by rw [if_pos hc])
   refine ⟨r',i',fun kx=>?_⟩
   rw [head,x1,o1,C6,decide_eq_true (by omega),cond_true,D3 (x:=(((xorNext r).toNat &&& (m - 1):Nat):Int) - (l:Int)) (n:=((xorNext r).toNat &&& (m - 1)) - l) (by omega) (by omega),← x1]
   exact h kx
  ·obtain ⟨r',i',h⟩:=step ((xorNext r).toNat &&& (m - 1)) (by omega) (by rw [if_neg hc])
   refine ⟨r',i',fun kx=>?_⟩
   rw [head,x1,o1,C6,decide_eq_false (by omega),cond_false,← x1]
   exact h kx
open Go.RowKit Go.Sort
variable {R:Type} {P:Program} {T:TT}
structure Sm where
 xs:List V
 a:Int
 b:Int
 c:Int
 n:Int
def meI:Sm→Int:=A1w fun s=>((median ltInt (A3S s.xs) s.a.toNat s.b.toNat s.c.toNat s.n.toNat).1:Nat)
def meN:Sm→Int:=A1w fun s=>((median ltInt (A3S s.xs) s.a.toNat s.b.toNat s.c.toNat s.n.toNat).2:Nat)
def gMe (s:Sm):Bool:=F9 0 s.a&&(F9 0 s.b&&(F9 0 s.c&&(G0 s.a (s.xs.length:Nat)&&(G0 s.b (s.xs.length:Nat)&&(G0 s.c (s.xs.length:Nat)&&(F9 0 s.n&&(F9 s.n 1000&&gLn s.xs)))))))
def bxI (it:Nat):A→Option Int
 | .i .i64 n=>some n
 | .v t (.i n)=>bif Nat.beq t it then some n else none
 | _=>none
def rcM (el it:Nat) (args:List A) (of:Nat→Option Ob) (nx:Nat):Option Sm :=
 match args with
 | [.o id ver,.i .i64 a,.i .i64 b,.i .i64 c,.p q ty []]=>bif Nat.beq id 0&&(Nat.beq ver 1&&(Nat.beq nx 2&&(Nat.beq q 1&&Nat.beq ty it))) then
  (match of 0 with
  | some (.row el' v xs nl sh)=>bif Nat.beq el el'&&(Nat.beq v 1&&(!nl&&!sh)) then
   (match of 1 with
   | some (.box ty x sh)=>bif Nat.beq ty it&&!sh then
    (match bxI it x with
    | some n=>some ⟨xs,a,b,c,n⟩
    | none=>none) else none
   | _=>none) else none
  | _=>none) else none
 | _=>none
def C3Z (el it N:Nat):Sm→G9:=fun s=>⟨.i .i64 (meI s),[(0,.row el 1 s.xs false false),(1,.box it (.i .i64 (meN s)) false)],[0],N⟩
theorem B6A {X:Type} {f:Nat} {rec:List A→(Nat→Option Ob)→Nat→Option X} {g:X→Bool} {F:X→G9} {s:Sym} (hs:H6 P T f s)
  (h:∀ args of nx x,rec args of nx=some x→g x=true→∃ n ro of0 of1,n≤(F x).nx∧s args of0 nx=some ⟨(F x).val,(F x).wo,ro,n⟩∧(∀ id∈ro,of1 id=of0 id)∧(∀ c e,A6 T c e of→A6 T c e of1)∧put of1 (F x).wo=put of (F x).wo):U0 P T f (P7 rec g F).dir:=by
 intro c e of args vals nx out hos hr hu hv
 unfold G2.dir P7 at hr
 cases hx:rec args of nx with
 | none=>rw [hx] at hr;cases hr
 | some x =>
 rw [hx] at hr
 simp only at hr
 cases hg:g x with
 | false=>rw [hg] at hr;cases hr
 | true =>
 rw [hg] at hr
 simp only [cond_true,C6N] at hr
 subst hr
 obtain ⟨n,ro,of0,of1,h1,h2,h3,h4,h5⟩:=h args of nx x hx hg
 have:=hs c e of0 of1 args vals nx _ (h4 c e hos) h2 h3 (fun id h3 h4=>hu id h3 (Nat.lt_of_lt_of_le h4 h1)) hv
 refine D6 this (fun x w hl=>?_)
 obtain ⟨e',g1,g2,g3,g4,g5⟩:=hl
 refine ⟨e',g1,?_,g3,fun id A3=>?_,g5⟩
 ·rw [← h5];exact g2
 ·rcases g4 id A3 with g6 | ⟨g6,g7⟩
  ·exact .inl g6
  ·exact .inr ⟨g6,Nat.lt_of_lt_of_le g7 h1⟩
theorem A6.ibox {c:N5} {e:B2} {of:Nat→Option Ob} (h:A6 T c e of) {id it:Nat} {k:IntKind} {n:Int} {sh:Bool} (ho:of id=some (.box it (.v it (.i n)) sh)) (hk:C0 T it=some (.int k)) (hz:B4 T it=1) :
  A6 T c e (F2 of id (some (.box it (.i k n) sh))):=by
 have hs:∀ j,(F2 of id (some (.box it (.i k n) sh)) j).isSome→(of j).isSome:=fun j hj=>by
  by_cases hji:j=id
  ·subst hji;rw [ho];rfl
  ·rw [A4 _ _ hji] at hj;exact hj
 refine ⟨fun j o hj=>?_,fun j j' b o b' o' h1 h2=>h.sep j j' b o b' o' (hs j h1) (hs j' h2),fun j b o h1=>h.own j b o (hs j h1),h.lt,h.slt,h.s0,h.snew,h.os,h.tape,h.output,h.size,h.block,
  ⟨fun a b hg j b' o hj=>h.g.sep a b hg j b' o (hs j hj),h.g.uniq,h.g.own,h.g.lt⟩⟩
 by_cases hji:j=id
 ·subst hji
  rw [upd_same] at hj;cases hj
  obtain ⟨h1,h2,h3,h4,b,cs,ty,fz,h5,h6,h7,h8,h9,h10⟩:=h.ok _ _ ho
  refine ⟨h1,h2,h3,?_,b,cs,ty,fz,h5,h6,h7,h8,?_,h10⟩
  ·simp only [C1,hk,hz];cases k<;>rfl
  ·generalize cs.toList=l at h9 ⊢
   cases h9 with
   | v hv hr =>
    obtain ⟨m,e1,e2,e3⟩:=hv.int_inv hk
    cases e1;subst e2
    exact .i e3 hr
   | r h1 _ _=>cases h1
 ·rw [A4 _ _ hji] at hj
  exact h.ok j o hj
theorem C30 {el it f N:Nat} {s:Sym} (hk:C0 T it=some (.int .i64)) (hz:B4 T it=1) (hs:H6 P T f s)
  (h:∀ xs a b c n,gMe ⟨xs,a,b,c,n⟩=true→∃ n' ro,n'≤N∧s [.o 0 1,.i .i64 a,.i .i64 b,.i .i64 c,.p 1 it []] (ofL [.row el 1 xs false false,.box it (.i .i64 n) false]) 2=some ⟨.i .i64 (meI ⟨xs,a,b,c,n⟩),[(0,.row el 1 xs false false),(1,.box it (.i .i64 (meN ⟨xs,a,b,c,n⟩)) false)],ro,n'⟩∧∀ id∈ro,id=0∨id=1) :
  U0 P T f (P7 (rcM el it) gMe (C3Z el it N)).dir:=B6A hs (fun args of nx x hx hg=>by
 unfold rcM at hx
 split at hx<;>try (cases hx;done)
 rename_i id ver a b c q ty
 cases h1:(Nat.beq id 0&&(Nat.beq ver 1&&(Nat.beq nx 2&&(Nat.beq q 1&&Nat.beq ty it)))) with
 | false=>rw [h1] at hx;cases hx
 | true =>
 rw [h1] at hx
 simp only [C6L] at h1
 obtain ⟨e1,e2,e3,e4,e5⟩:=h1
 obtain rfl:=C6K e1
 obtain rfl:=C6K e2
 obtain rfl:=C6K e3
 obtain rfl:=C6K e4
 obtain rfl:=C6K e5
 simp only [cond_true] at hx
 split at hx<;>try (cases hx;done)
 rename_i el' v xs nl sh ho
 cases h2:(Nat.beq el el'&&(Nat.beq v 1&&(!nl&&!sh))) with
 | false=>rw [h2] at hx;cases hx
 | true =>
 rw [h2] at hx
 simp only [C6L,Bool.not_eq_true'] at h2
 obtain ⟨e1,e2,rfl,rfl⟩:=h2
 obtain rfl:=C6K e1
 obtain rfl:=C6K e2
 simp only [cond_true] at hx
 split at hx<;>try (cases hx;done)
 rename_i ty' y sh' ho1
 cases h3:(Nat.beq ty' ty&&!sh') with
 | false=>rw [h3] at hx;cases hx
 | true =>
 rw [h3] at hx
 simp only [C6L,Bool.not_eq_true'] at h3
 obtain ⟨e1,rfl⟩:=h3
 obtain rfl:=C6K e1
 simp only [cond_true] at hx
 split at hx<;>try (cases hx;done)
 rename_i n hy
 cases hx
 have hy:y=.i .i64 n∨y=.v ty' (.i n):=by
  unfold bxI at hy
  split at hy<;>try (cases hy;done)
  ·cases hy;exact .inl rfl
  ·rename_i t m
   cases h4:Nat.beq t ty' with
   | false=>rw [h4] at hy;cases hy
   | true =>
    rw [h4] at hy;cases hy
    obtain rfl:=C6K h4
    exact .inr rfl
 obtain ⟨n',ro,h4,h5,h6⟩:=h xs a b c n hg
 refine ⟨n',ro,_,F2 of 1 (some (.box ty' (.i .i64 n) false)),h4,h5,fun id A3=>?_,fun c e hos=>?_,?_⟩
 ·rcases h6 id A3 with rfl | rfl
  ·rw [A4 _ _ (by decide),ho];rfl
  ·rw [upd_same];rfl
 ·rcases hy with rfl | rfl
  ·have:F2 of 1 (some (.box ty' (.i .i64 n) false))=of:=by
    funext j
    by_cases hj:j=1
    ·subst hj;rw [upd_same,ho1]
    ·rw [A4 _ _ hj]
   rw [this];exact hos
  ·exact hos.ibox ho1 hk hz
 ·show put _ [_,_]=put _ [_,_]
  simp only [put]
  funext j
  by_cases hj:j=1
  ·subst hj;simp [F2]
  ·by_cases hj0:j=0
   ·subst hj0;simp [F2]
   ·simp [F2,hj])
def meG (R:Type) (xs:List V) (a b c n:Int) (k:Int→Int→Option R):Option R :=
 o2G R xs a b n (fun a b n=>o2G R xs b c n (fun b c n=>o2G R xs a b n (fun a b n=>k b n)))
theorem A7f {d:Array Int} {a b n:Nat} (ha:a < d.size) (hb:b < d.size) (hn:n≤1000000) (k:Int→Int→Int→Option R) :
  o2G R (E8 d) a b n k=k (order2 ltInt d a b n).1 (order2 ltInt d a b n).2.1 (order2 ltInt d a b n).2.2:=by
 rw [o2G,H9 rfl rfl hb ha,order2,D3 (n:=n+1) (by omega) (by omega)]
 cases ltInt d[b]! d[a]! <;> rfl
theorem A0N {d:Array Int} {a b n m:Nat} (ha:a < m) (hb:b < m):(order2 ltInt d a b n).1 < m∧(order2 ltInt d a b n).2.1 < m∧(order2 ltInt d a b n).2.2≤n+1:=by
 unfold order2
 split<;>refine ⟨?_,?_,?_⟩<;>simp only<;>omega
theorem C0i {xs:List V} {a b c n:Int} (h:gMe ⟨xs,a,b,c,n⟩=true) (k:Int→Int→Option R):meG R xs a b c n k=k (meI ⟨xs,a,b,c,n⟩) (meN ⟨xs,a,b,c,n⟩):=by
 simp only [gMe,C6L,E5,G5] at h
 obtain ⟨h1,h2,h3,h4,h5,h6,h7,h8,h9⟩:=h
 obtain ⟨d,rfl,h10,h11,h12⟩:=B52 h9
 rw [R5] at h4 h5 h6
 obtain ⟨a,rfl⟩:=Int.eq_ofNat_of_zero_le h1
 obtain ⟨b,rfl⟩:=Int.eq_ofNat_of_zero_le h2
 obtain ⟨c,rfl⟩:=Int.eq_ofNat_of_zero_le h3
 obtain ⟨n,rfl⟩:=Int.eq_ofNat_of_zero_le h7
 have hd:∀ {x:Nat},(x:Int) < (d.size:Nat)→x < d.size:=fun h=>by omega
 obtain ⟨p1,p2,p3⟩:=A0N (d:=d) (n:=n) (hd h4) (hd h5)
 rw [meG,A7f (hd h4) (hd h5) (by omega)]
 obtain ⟨q1,q2,q3⟩:=A0N (d:=d) (n:=(order2 ltInt d a b n).2.2) p2 (hd h6)
 rw [A7f p2 (hd h6) (by omega),A7f p1 q1 (by omega)]
 rw [meI,meN,D9,D9]
 simp only [h10,Int.toNat_natCast]
 rfl
def C0j (R:Type) (n p:Int) (k:Int→Int→Option R):Option R:=bif ieq n 0 then k p 1 else bif ieq n 12 then k p 2 else k p 0
def meC (R:Type) (xs:List V) (a b c n:Int) (k:Int→Int→Option R):Option R:=bif gMe ⟨xs,a,b,c,n⟩ then k (meI ⟨xs,a,b,c,n⟩) (meN ⟨xs,a,b,c,n⟩) else none
def maC (R:Type) (xs:List V) (a n:Int) (k:Int→Int→Option R):Option R:=meC R xs (B1 (a - 1)) a (B1 (a+1)) n k
def C5z (R:Type) (xs:List V) (a l:Int) (k:Int→Int→Option R):Option R :=
 bif F9 8 l then (bif F9 50 l then
  maC R xs (B1 (a+B1 (B1 (Int.tdiv l 4) * 1))) 0 (fun i n=>maC R xs (B1 (a+B1 (B1 (Int.tdiv l 4) * 2))) n (fun j n=>maC R xs (B1 (a+B1 (B1 (Int.tdiv l 4) * 3))) n (fun q n=>meC R xs i j q n (fun j n=>C0j R n j k))))
  else meC R xs (B1 (a+B1 (B1 (Int.tdiv l 4) * 1))) (B1 (a+B1 (B1 (Int.tdiv l 4) * 2))) (B1 (a+B1 (B1 (Int.tdiv l 4) * 3))) 0 (fun j n=>C0j R n j k)) else k (B1 (a+B1 (B1 (Int.tdiv l 4) * 2))) 1
def C31 (R:Type) (xs:List V) (a b:Int) (k:Int→Int→Option R):Option R:=C5z R xs a (B1 (b - a)) k
theorem A7g {d:Array Int} {a b c n:Nat} (ha:a < d.size) (hb:b < d.size) (hc:c < d.size) (hn:n≤1000) (hs:d.size≤1000000) (k:Int→Int→Option R) :
  meC R (E8 d) a b c n k=k ((median ltInt d a b c n).1:Nat) ((median ltInt d a b c n).2:Nat):=by
 have hg:gMe ⟨E8 d,a,b,c,n⟩=true:=by
  simp only [gMe,A7e hs,Bool.and_true,C6L,E5,G5,R5]
  refine ⟨?_,?_,?_,?_,?_,?_,?_,?_⟩<;>omega
 rw [meC,hg,cond_true,meI,meN,D9,D9]
 simp only [J6,Int.toNat_natCast]
theorem B4w {d:Array Int} {a b c n m:Nat} (ha:a < m) (hb:b < m) (hc:c < m):(median ltInt d a b c n).1 < m∧(median ltInt d a b c n).2≤n+3:=by
 obtain ⟨p1,p2,p3⟩:=A0N (d:=d) (n:=n) ha hb
 obtain ⟨q1,q2,q3⟩:=A0N (d:=d) (n:=(order2 ltInt d a b n).2.2) p2 hc
 obtain ⟨r1,r2,r3⟩:=A0N (d:=d) (n:=(order2 ltInt d (order2 ltInt d a b n).2.1 c (order2 ltInt d a b n).2.2).2.2) p1 q1
 exact ⟨r2,by show _≤_;unfold median;simp only;omega⟩
theorem A8O {n p:Nat} (k:Int→Int→Option R):C0j R n p k=k (p:Nat) (match (if n=0 then Hint.increasing else if n=12 then .decreasing else .unknown) with | .unknown=>0 | .increasing=>1 | .decreasing=>2):=by
 unfold C0j
 by_cases h0:n=0
 ·rw [V3 (by omega),cond_true,if_pos h0]
 ·rw [A0C (by omega),cond_false,if_neg h0]
  by_cases h1:n=12
  ·rw [V3 (by omega),cond_true,if_pos h1]
  ·rw [A0C (by omega),cond_false,if_neg h1]
theorem B6B {xs:List V} {a b:Int} (h:gAb ⟨xs,a,b,0⟩=true) (k:Int→Int→Option R):C31 R xs a b k=k (A26 ⟨xs,a,b,0⟩) (A8l ⟨xs,a,b,0⟩):=by
 obtain ⟨a',b',d,h1,h2,h3,h4,h5,h6,h7⟩:=B0i h
 simp only at h1 h2 h3
 subst h1 h2 h3
 rw [C31,D3 (n:=b' - a') (by omega) (by omega),C5z,A26,A8l,D9,D9,h4]
 have t4:B1 (Int.tdiv ((b' - a':Nat):Int) 4)=(((b' - a') / 4:Nat):Int):=by
  rw [Int.tdiv_eq_ediv_of_nonneg (by omega)];exact D3 (by omega) (by omega)
 have hj:∀ q:Nat,q≤3→B1 ((a':Int)+B1 ((((b' - a') / 4:Nat):Int) * (q:Int)))=((a'+(b' - a') / 4 * q:Nat):Int):=fun q hq=>by
  have h1:(b' - a') / 4 * q≤3000000:=Nat.le_trans (Nat.mul_le_mul (show (b' - a') / 4≤1000000 by omega) hq) (by decide)
  rw [D3 (x:=(((b' - a') / 4:Nat):Int) * (q:Int)) (n:=(b' - a') / 4 * q) (by simp) (by omega)]
  exact D3 (by simp) (by omega)
 rw [t4,show (1:Int)=((1:Nat):Int) from rfl,show (3:Int)=((3:Nat):Int) from rfl,hj 1 (by omega),hj 3 (by omega)]
 have h2:=hj 2 (by omega)
 rw [show ((2:Nat):Int)=2 from rfl] at h2
 rw [h2]
 simp only [Int.toNat_natCast,choosePivot]
 by_cases h8:b' - a' ≥ 8
 ·rw [C6,decide_eq_true (by omega),cond_true,if_pos h8]
  by_cases h50:b' - a' ≥ 50
  ·rw [C6,decide_eq_true (by omega),cond_true,if_pos h50]
   have ma:∀ (x n:Nat),1≤x→x+1 < d.size→n≤1000→∀ kk:Int→Int→Option R,maC R (E8 d) x n kk=kk ((medianAdjacent ltInt d x n).1:Nat) ((medianAdjacent ltInt d x n).2:Nat):=by
    intro x n hx1 hx2 hn kk
    rw [maC,D3 (n:=x - 1) (by omega) (by omega),D3 (n:=x+1) (by omega) (by omega),A7g (by omega) (by omega) (by omega) hn h7]
    rfl
   have mb:∀ (x n:Nat),1≤x→x+1 < d.size→(medianAdjacent ltInt d x n).1 < d.size∧(medianAdjacent ltInt d x n).2≤n+3:=fun x n hx1 hx2=>B4w (by omega) (by omega) (by omega)
   obtain ⟨u1,u2⟩:=mb (a'+(b' - a') / 4 * 1) 0 (by omega) (by omega)
   rw [show (0:Int)=((0:Nat):Int) from rfl,ma _ _ (by omega) (by omega) (by omega)]
   obtain ⟨v1,v2⟩:=mb (a'+(b' - a') / 4 * 2) (medianAdjacent ltInt d (a'+(b' - a') / 4 * 1) 0).2 (by omega) (by omega)
   rw [ma _ _ (by omega) (by omega) (by omega)]
   obtain ⟨w1,w2⟩:=mb (a'+(b' - a') / 4 * 3) (medianAdjacent ltInt d (a'+(b' - a') / 4 * 2) (medianAdjacent ltInt d (a'+(b' - a') / 4 * 1) 0).2).2 (by omega) (by omega)
   rw [ma _ _ (by omega) (by omega) (by omega),A7g u1 v1 w1 (by omega) h7,A8O]
   rfl
  ·rw [C6,decide_eq_false (by omega),cond_false,if_neg h50,show (0:Int)=((0:Nat):Int) from rfl,A7g (by omega) (by omega) (by omega) (by omega) h7,A8O]
   rfl
 ·rw [C6,decide_eq_false (by omega),cond_false,if_neg h8]
  rfl
open Go.RowKit Go.Sort
variable {R:Type}
def C32 (R:Type) (xs:List V) (a b:Int) (k:Nat→List V→Option R):Option R :=
 bif F9 8 (B1 (b - a)) then D2 (A5Q R) (A3 FU) (.m xs a b (B1 (b - a)) (WU (1 * (((2:Nat) ^ (min (Wd.blen (WU (B1 (b - a))).toNat) 64):Nat):Int)))
  (B1 (B1 (a+B1 (B1 (Int.tdiv (B1 (b - a)) 4) * 2)) - 1)) (WU (B1 (b - a)))) (fun | .o xs _ _ _ _ _ _=>k 64 xs) else k 1 xs
theorem B6C {xs:List V} {a b:Int} (h:gAB ⟨xs,a,b,0⟩=true) (k:Nat→List V→Option R):C32 R xs a b k=k (bif F9 8 (B1 (b - a)) then 64 else 1) (A8f ⟨xs,a,b,0⟩):=by
 obtain ⟨a',b',d,h1,h2,h3,h4,h5,h6,h7⟩:=A3a h
 simp only at h1 h2 h3
 subst h1 h2 h3
 rw [C32,D3 (n:=b' - a') (by omega) (by omega),A8f,D9,h4]
 simp only [Int.toNat_natCast,breakPatterns]
 by_cases h8:b' - a' ≥ 8
 ·rw [C6,decide_eq_true (by omega),cond_true,if_pos h8]
  have hl:=two_pow_bitsLen_le (n:=b' - a') (by omega)
  have hbl:Wd.blen (b' - a')=bitsLen (b' - a'):=rfl
  have h64:bitsLen (b' - a')≤64:=(bitsLen_le_iff _ _).2 (by omega)
  rw [E0 (n:=b' - a') (by omega),Int.toNat_natCast,hbl,Nat.min_eq_left h64,Int.one_mul,E0 (n:=2 ^ bitsLen (b' - a')) (by omega)]
  have hi:B1 (B1 ((a':Int)+B1 (B1 (Int.tdiv ((b' - a':Nat):Int) 4) * 2)) - 1)=((a'+(b' - a') / 4 * 2+2 - 3:Nat):Int):=by
   rw [show Int.tdiv ((b' - a':Nat):Int) 4=(((b' - a') / 4:Nat):Int) from by rw [Int.tdiv_eq_ediv_of_nonneg (by omega)];omega,
    D3 (x:=(((b' - a') / 4:Nat):Int)) rfl (by omega),D3 (x:=(((b' - a') / 4:Nat):Int) * 2) (n:=(b' - a') / 4 * 2) (by omega) (by omega),
    D3 (x:=(a':Int)+(((b' - a') / 4 * 2:Nat):Int)) (n:=a'+(b' - a') / 4 * 2) (by omega) (by omega)]
   exact D3 (by omega) (by omega)
  rw [hi]
  obtain ⟨r',i',h9⟩:=C0h (R:=R) a' b' (b' - a') (2 ^ bitsLen (b' - a')) (by omega) h8 (Nat.one_le_two_pow) hl 3 (A3 FU) (UInt64.ofNat (b' - a')) d (by omega) (L6 (by omega)) (by omega) h7
  have hu:(UInt64.ofNat (b' - a')).toNat=b' - a':=by
   rw [UInt64.toNat_ofNat'];exact Nat.mod_eq_of_lt (by omega)
  rw [hu] at h9
  rw [h9]
  simp only [Nat.shiftLeft_eq,Nat.one_mul]
  rw [show a'+(b' - a') / 4 * 2+2 - 3=a'+(b' - a') / 4 * 2 - 1 by omega]
  rfl
 ·rw [C6,decide_eq_false (by omega),cond_false,if_neg h8];rfl
open Go.RowKit Go.Sort
variable {R:Type} {P:Program} {T:TT}
theorem B4x {X:Type} {f:Nat} {rec:List A→(Nat→Option Ob)→Nat→Option X} {g:X→Bool} {F:X→G9} (h:∀ x,g x=false):U0 P T f (P7 rec g F).dir:=by
 intro c e of args vals nx out hos hr hu hv
 unfold G2.dir P7 at hr
 cases hx:rec args of nx with
 | none=>rw [hx] at hr;cases hr
 | some x=>rw [hx] at hr;simp only [h x] at hr;cases hr
theorem B6D (s:Sa):gPd 0 s=false:=by
 cases h:gPd 0 s with
 | false=>rfl
 | true =>
  simp only [gPd,gAB,C6L,G5,E5] at h
  omega
open Go.RowKit Go.Sort
variable {R:Type}
inductive A1c where | m (xs:List V) (a b l:Int) (wb wp:Bool)
inductive B0L where | r (xs:List V) (a b l:Int) (wb wp:Bool)
def B6E (q:Nat) (R:Type) (K:A1c→Option R) (ys:List V) (n a b l:Int) (wp:Bool):Option R :=
 bif G0 (B1 (n - a)) (B1 (b - n)) then
  (bif F9 (B1 (Int.tdiv (B1 (b - a)) 8)) (B1 (n - a)) then (bif gPd q ⟨ys,a,n,l⟩ then K (.m (A2d ⟨ys,a,n,l⟩) (B1 (n+1)) b l true wp) else none)
  else (bif gPd q ⟨ys,a,n,l⟩ then K (.m (A2d ⟨ys,a,n,l⟩) (B1 (n+1)) b l false wp) else none))
 else (bif F9 (B1 (Int.tdiv (B1 (b - a)) 8)) (B1 (b - n)) then (bif gPd q ⟨ys,B1 (n+1),b,l⟩ then K (.m (A2d ⟨ys,B1 (n+1),b,l⟩) a n l true wp) else none)
  else (bif gPd q ⟨ys,B1 (n+1),b,l⟩ then K (.m (A2d ⟨ys,B1 (n+1),b,l⟩) a n l false wp) else none))
def C0k (q:Nat) (R:Type) (K:A1c→Option R) (xs:List V) (a b l p:Int):Option R :=
 bif gAP ⟨xs,a,b,p⟩ then (bif A2c ⟨xs,a,b,p⟩ then B6E q R K (A8j ⟨xs,a,b,p⟩) (A8k ⟨xs,a,b,p⟩) a b l true else B6E q R K (A8j ⟨xs,a,b,p⟩) (A8k ⟨xs,a,b,p⟩) a b l false) else none
def A5R (q:Nat) (R:Type) (K:A1c→Option R) (xs:List V) (a b l p:Int) (wb wp:Bool):Option R :=
 bif G0 0 a then ltC xs (B1 (a - 1)) p (C0k q R K xs a b l p) (bif gAP ⟨xs,a,b,p⟩ then K (.m (A8h ⟨xs,a,b,p⟩) (A8i ⟨xs,a,b,p⟩) b l wb wp) else none) else C0k q R K xs a b l p
def B6F (q:Nat) (R:Type) (K:A1c→Option R) (kx:B0L→Option R) (xs:List V) (a b l p:Int) (wb wp:Bool):Option R :=
 bif gAb ⟨xs,a,b,0⟩ then (bif A8g ⟨xs,a,b,0⟩ then kx (.r (A65 ⟨xs,a,b,0⟩) a b l wb wp) else A5R q R K (A65 ⟨xs,a,b,0⟩) a b l p wb wp) else none
def A3V (q:Nat) (R:Type) (K:A1c→Option R) (kx:B0L→Option R) (xs:List V) (a b l:Int) (wb wp:Bool):Option R :=
 bif gAb ⟨xs,a,b,0⟩ then (bif ieq (A8l ⟨xs,a,b,0⟩) 2 then
  (bif gAb ⟨xs,a,b,0⟩ then (bif wb then (bif wp then B6F q R K kx (A5K ⟨xs,a,b,0⟩) a b l (B1 (B1 (b - 1) - B1 (A26 ⟨xs,a,b,0⟩ - a))) wb wp
    else A5R q R K (A5K ⟨xs,a,b,0⟩) a b l (B1 (B1 (b - 1) - B1 (A26 ⟨xs,a,b,0⟩ - a))) wb wp)
   else A5R q R K (A5K ⟨xs,a,b,0⟩) a b l (B1 (B1 (b - 1) - B1 (A26 ⟨xs,a,b,0⟩ - a))) wb wp) else none)
  else (bif wb then (bif wp then (bif ieq (A8l ⟨xs,a,b,0⟩) 1 then B6F q R K kx xs a b l (A26 ⟨xs,a,b,0⟩) wb wp else A5R q R K xs a b l (A26 ⟨xs,a,b,0⟩) wb wp)
    else A5R q R K xs a b l (A26 ⟨xs,a,b,0⟩) wb wp)
   else A5R q R K xs a b l (A26 ⟨xs,a,b,0⟩) wb wp)) else none
def A0O (q:Nat) (R:Type) (p:A1c) (K:A1c→Option R) (kx:B0L→Option R):Option R:=match p with
 | .m xs a b l wb wp=>bif F9 (B1 (b - a)) 12 then (bif gAB ⟨xs,a,b,0⟩ then kx (.r (A8d ⟨xs,a,b,0⟩) a b l wb wp) else none) else
  bif ieq l 0 then (bif gAB ⟨xs,a,b,0⟩ then kx (.r (A8e ⟨xs,a,b,0⟩) a b l wb wp) else none) else
  bif wb then A3V q R K kx xs a b l wb wp else (bif gAB ⟨xs,a,b,0⟩ then A3V q R K kx (A8f ⟨xs,a,b,0⟩) a b (B1 (l - 1)) wb wp else none)
theorem A8P {d:Array Int} {a b:Nat} (h1:a≤b) (h2:b≤d.size):(insertionSort ltInt d a b).size=d.size:=(insertionSort_holds swo_ltInt d a b h1 h2).1.1
theorem B6G {d:Array Int} {a b:Nat} (h1:a≤b) (h2:b≤d.size):(heapSort ltInt d a b).size=d.size:=(heapSort_holds swo_ltInt d a b h1 h2).1.1
theorem A4T {d:Array Int} {a b:Nat} (h1:a≤b) (h2:b≤d.size):(reverseRange d a b).size=d.size:=(reverseRange_holds d a b h1 h2).1
theorem A4U {d:Array Int} {a b:Nat} (h1:a≤b) (h2:b≤d.size):(breakPatterns d a b).size=d.size:=(breakPatterns_holds d a b h1 h2).1
theorem A8Q {d:Array Int} {a b c:Nat} (h1:a≤c) (h2:c < b) (h3:b≤d.size):(partition ltInt d a b c).2.2.size=d.size:=(partition_holds ltInt swo_ltInt d a b c h1 h2 h3).2.2.1.1
theorem B0M {d:Array Int} {a b c:Nat} (h1:a≤c) (h2:c < b) (h3:b≤d.size):a≤(partition ltInt d a b c).1∧(partition ltInt d a b c).1 < b:=⟨(partition_holds ltInt swo_ltInt d a b c h1 h2 h3).1,(partition_holds ltInt swo_ltInt d a b c h1 h2 h3).2.1⟩
theorem A3W (a b:Nat):∀ (s i:Nat) (d:Array Int),(partialIns ltInt a b s i d).1.size=d.size:=by
 intro s
 induction s with
 | zero=>intro i d;rfl
 | succ s ih =>
  intro i d
  rw [partialIns]
  simp only
  split
  ·rfl
  ·split
   ·rfl
   ·rw [ih]
    have s1:(if scanSorted ltInt d b i - a ≥ 2 then shiftDown ltInt (scanSorted ltInt d b i - 1) (swp d (scanSorted ltInt d b i) (scanSorted ltInt d b i - 1)) else swp d (scanSorted ltInt d b i) (scanSorted ltInt d b i - 1)).size=d.size:=by
     split
     ·rw [A1B,B8]
     ·rw [B8]
    generalize (if scanSorted ltInt d b i - a ≥ 2 then shiftDown ltInt (scanSorted ltInt d b i - 1) (swp d (scanSorted ltInt d b i) (scanSorted ltInt d b i - 1)) else swp d (scanSorted ltInt d b i) (scanSorted ltInt d b i - 1))=d2 at s1 ⊢
    split
    ·rw [A04 b b _ _ (by omega),s1]
    ·exact s1
theorem A4V {d:Array Int} {a b:Nat}:(partialInsertionSort ltInt d a b).1.size=d.size:=A3W a b 5 (a+1) d
theorem A5S (a b:Nat):∀ (m i j:Nat) (d:Array Int),j+1 - i≤m→j+1≤b→i≤b→i≤(partEqLoop ltInt a i j d).1∧(partEqLoop ltInt a i j d).1≤b∧(partEqLoop ltInt a i j d).2.size=d.size:=by
 intro m
 have hup:∀ (d:Array Int) (j i:Nat),j+1≤b→i≤b→scanUp (fun x=>!ltInt d[a]! x) d j i≤b:=by
  intro d j i hj hi
  have:∀ (m i:Nat),j+1 - i≤m→i≤b→scanUp (fun x=>!ltInt d[a]! x) d j i≤b:=by
   intro m
   induction m with
   | zero=>intro i h1 h2;rw [scanUp,if_neg (by simp;omega)];exact h2
   | succ m ih =>
    intro i h1 h2
    rw [scanUp]
    split
    ·rename_i h;simp at h;exact ih (i+1) (by omega) (by omega)
    ·exact h2
  exact this _ i (Nat.le_refl _) hi
 induction m with
 | zero =>
  intro i j d hm hj hi
  have h1:=scanUp_ge (fun x=>!ltInt d[a]! x) d j i
  have h2:=hup d j i hj hi
  have h3:=scanDown_le (fun x=>ltInt d[a]! x) d (scanUp (fun x=>!ltInt d[a]! x) d j i) j
  rw [partEqLoop]
  split
  ·exact ⟨h1,h2,rfl⟩
  ·rw [dif_neg (by omega)];exact ⟨h1,h2,rfl⟩
 | succ m ih =>
  intro i j d hm hj hi
  have h1:=scanUp_ge (fun x=>!ltInt d[a]! x) d j i
  have h2:=hup d j i hj hi
  have h3:=scanDown_le (fun x=>ltInt d[a]! x) d (scanUp (fun x=>!ltInt d[a]! x) d j i) j
  rw [partEqLoop]
  split
  ·exact ⟨h1,h2,rfl⟩
  ·split
   ·rename_i h4 h5
    obtain ⟨g1,g2,g3⟩:=ih (scanUp (fun x=>!ltInt d[a]! x) d j i+1) (scanDown (fun x=>ltInt d[a]! x) d (scanUp (fun x=>!ltInt d[a]! x) d j i) j - 1) (swp d (scanUp (fun x=>!ltInt d[a]! x) d j i) (scanDown (fun x=>ltInt d[a]! x) d (scanUp (fun x=>!ltInt d[a]! x) d j i) j)) (by omega) (by omega) (by omega)
    exact ⟨by omega,g2,by rw [g3,B8]⟩
   ·exact ⟨h1,h2,rfl⟩
theorem B0N {d:Array Int} {a b c:Nat} (h1:a≤c) (h2:c < b):a < (partitionEqual ltInt d a b c).1∧(partitionEqual ltInt d a b c).1≤b∧(partitionEqual ltInt d a b c).2.size=d.size:=by
 obtain ⟨g1,g2,g3⟩:=A5S a b _ (a+1) (b - 1) (swp d a c) (Nat.le_refl _) (by omega) (by omega)
 exact ⟨by show a < (partEqLoop ltInt a (a+1) (b - 1) (swp d a c)).1;omega,g2,by show (partEqLoop ltInt a (a+1) (b - 1) (swp d a c)).2.size=_;rw [g3,B8]⟩
def tl4 (a b:Nat) (d:Array Int) (p l:Nat) (wb wp:Bool):Array Int :=
 if (decide (a > 0)&&!ltInt d[a - 1]! d[p]!)=true then pdq ltInt (partitionEqual ltInt d a b p).2 (partitionEqual ltInt d a b p).1 b l wb wp
 else if (partition ltInt d a b p).1 - a < b - (partition ltInt d a b p).1 then
  pdq ltInt (pdq ltInt (partition ltInt d a b p).2.2 a (partition ltInt d a b p).1 l true true) ((partition ltInt d a b p).1+1) b l (decide ((partition ltInt d a b p).1 - a ≥ (b - a) / 8)) (partition ltInt d a b p).2.1
 else pdq ltInt (pdq ltInt (partition ltInt d a b p).2.2 ((partition ltInt d a b p).1+1) b l true true) a (partition ltInt d a b p).1 l (decide (b - (partition ltInt d a b p).1 ≥ (b - a) / 8)) (partition ltInt d a b p).2.1
def tl2 (a b:Nat) (d:Array Int) (l:Nat) (wb wp:Bool):Array Int :=
 let c:=choosePivot ltInt d a b
 let d2:=if c.2=.decreasing then reverseRange d a b else d
 let p:=if c.2=.decreasing then (b - 1) - (c.1 - a) else c.1
 let h:=if c.2=.decreasing then Hint.increasing else c.2
 let pi:=if (wb&&wp&&decide (h=.increasing))=true then partialInsertionSort ltInt d2 a b else (d2,false)
 if pi.2=true then pi.1 else tl4 a b pi.1 p l wb wp
theorem B0O {d:Array Int} {a b:Nat} (h:a < b):a≤(choosePivot ltInt d a b).1∧(choosePivot ltInt d a b).1 < b:=choosePivot_holds ltInt d a b h
theorem A8R {d:Array Int} {a b l:Nat} {wb wp:Bool} (h1:a < b) (h2:b≤d.size):pdq ltInt d a b l wb wp =
  if b - a≤12 then insertionSort ltInt d a b else if l=0 then heapSort ltInt d a b else
  tl2 a b (if (!wb)=true then breakPatterns d a b else d) (if (!wb)=true then l - 1 else l) wb wp:=by
 rw [pdq]
 split
 ·rfl
 ·split
  ·rfl
  ·have e1:(if (!wb)=true then breakPatterns d a b else d).size=d.size:=by split;exact A4U (by omega) h2;rfl
   generalize (if (!wb)=true then breakPatterns d a b else d)=d1 at e1 ⊢
   generalize (if (!wb)=true then l - 1 else l)=l1
   have hc:=B0O (d:=d1) h1
   have e2:(if (choosePivot ltInt d1 a b).2=.decreasing then reverseRange d1 a b else d1).size=d.size:=by split;rw [A4T (by omega) (by omega),e1];exact e1
   have hp:a≤(if (choosePivot ltInt d1 a b).2=.decreasing then (b - 1) - ((choosePivot ltInt d1 a b).1 - a) else (choosePivot ltInt d1 a b).1)∧(if (choosePivot ltInt d1 a b).2=.decreasing then (b - 1) - ((choosePivot ltInt d1 a b).1 - a) else (choosePivot ltInt d1 a b).1) < b:=by split<;>omega
   simp only [tl2]
   generalize (if (choosePivot ltInt d1 a b).2=.decreasing then reverseRange d1 a b else d1)=d2 at e2 ⊢
   generalize (if (choosePivot ltInt d1 a b).2=.decreasing then (b - 1) - ((choosePivot ltInt d1 a b).1 - a) else (choosePivot ltInt d1 a b).1)=p at hp ⊢
   generalize (if (choosePivot ltInt d1 a b).2=.decreasing then Hint.increasing else (choosePivot ltInt d1 a b).2)=h
   have e3:(if (wb&&wp&&decide (h=.increasing))=true then partialInsertionSort ltInt d2 a b else (d2,false)).1.size=d.size:=by split;rw [A4V,e2];exact e2
   generalize (if (wb&&wp&&decide (h=.increasing))=true then partialInsertionSort ltInt d2 a b else (d2,false))=pi at e3 ⊢
   split
   ·rfl
   ·simp only [tl4]
    split
    ·obtain ⟨g1,g2,g3⟩:=B0N (d:=pi.1) hp.1 hp.2
     rw [dif_pos ⟨g1,g2⟩]
    ·obtain ⟨g1,g2⟩:=B0M (d:=pi.1) hp.1 hp.2 (by omega)
     rw [dif_pos ⟨g1,g2⟩]
open Go.RowKit Go.Sort
variable {R:Type}
theorem B6H {N:Nat} (ih:∀ (a b l:Nat) (wb wp:Bool) (d:Array Int),b - a≤N→a≤b→b≤d.size→(pdq ltInt d a b l wb wp).size=d.size) {a b p l:Nat} {wb wp:Bool} {d:Array Int} (hm:b - a≤N+1) (h1:a≤p) (h2:p < b) (h3:b≤d.size) :
  (tl4 a b d p l wb wp).size=d.size:=by
 unfold tl4
 split
 ·obtain ⟨g1,g2,g3⟩:=B0N (d:=d) h1 h2
  rw [ih _ _ _ _ _ _ (by omega) g2 (by omega),g3]
 ·obtain ⟨g1,g2⟩:=B0M (d:=d) h1 h2 h3
  have g3:=A8Q (d:=d) h1 h2 h3
  split
  ·have e:=ih a (partition ltInt d a b p).1 l true true (partition ltInt d a b p).2.2 (by omega) g1 (by omega)
   rw [ih _ _ _ _ _ _ (by omega) (by omega) (by omega),e,g3]
  ·have e:=ih ((partition ltInt d a b p).1+1) b l true true (partition ltInt d a b p).2.2 (by omega) (by omega) (by omega)
   rw [ih _ _ _ _ _ _ (by omega) (by omega) (by omega),e,g3]
theorem B6I {N:Nat} (ih:∀ (a b l:Nat) (wb wp:Bool) (d:Array Int),b - a≤N→a≤b→b≤d.size→(pdq ltInt d a b l wb wp).size=d.size) {a b l:Nat} {wb wp:Bool} {d:Array Int} (hm:b - a≤N+1) (h1:a < b) (h3:b≤d.size) :
  (tl2 a b d l wb wp).size=d.size:=by
 unfold tl2
 have hc:=B0O (d:=d) h1
 have e2:(if (choosePivot ltInt d a b).2=.decreasing then reverseRange d a b else d).size=d.size:=by split;rw [A4T (by omega) (by omega)];rfl
 have hp:a≤(if (choosePivot ltInt d a b).2=.decreasing then (b - 1) - ((choosePivot ltInt d a b).1 - a) else (choosePivot ltInt d a b).1)∧(if (choosePivot ltInt d a b).2=.decreasing then (b - 1) - ((choosePivot ltInt d a b).1 - a) else (choosePivot ltInt d a b).1) < b:=by split<;>omega
 simp only
 generalize (if (choosePivot ltInt d a b).2=.decreasing then reverseRange d a b else d)=d2 at e2 ⊢
 generalize (if (choosePivot ltInt d a b).2=.decreasing then (b - 1) - ((choosePivot ltInt d a b).1 - a) else (choosePivot ltInt d a b).1)=p at hp ⊢
 generalize (if (choosePivot ltInt d a b).2=.decreasing then Hint.increasing else (choosePivot ltInt d a b).2)=h
 have e3:(if (wb&&wp&&decide (h=.increasing))=true then partialInsertionSort ltInt d2 a b else (d2,false)).1.size=d.size:=by split;rw [A4V,e2];exact e2
 generalize (if (wb&&wp&&decide (h=.increasing))=true then partialInsertionSort ltInt d2 a b else (d2,false))=pi at e3 ⊢
 split
 ·exact e3
 ·rw [B6H ih hm hp.1 hp.2 (by omega),e3]
theorem A8S:∀ (m a b l:Nat) (wb wp:Bool) (d:Array Int),b - a≤m→a≤b→b≤d.size→(pdq ltInt d a b l wb wp).size=d.size:=by
 intro m
 induction m with
 | zero =>
  intro a b l wb wp d hm hab hb
  rw [pdq,if_pos (by omega),A8P hab hb]
 | succ m ih =>
  intro a b l wb wp d hm hab hb
  by_cases h0:b - a≤12
  ·rw [pdq,if_pos h0,A8P hab hb]
  ·rw [A8R (by omega) hb,if_neg h0]
   split
   ·rw [B6G hab hb]
   ·have e1:(if (!wb)=true then breakPatterns d a b else d).size=d.size:=by split;exact A4U (by omega) hb;rfl
    rw [B6I ih hm (by omega) (by omega),e1]
section
variable {d:Array Int} {a b c:Nat}
theorem A1Z (h1:a≤b) (h2:b≤d.size) (h3:d.size≤1000000) {x:Int}:gAB ⟨E8 d,a,b,x⟩=true:=by
 simp only [gAB,A7e h3,Bool.and_true,C6L,E5,R5]
 refine ⟨?_,?_,?_⟩<;>omega
theorem A7h (h1:a < b) (h2:b≤d.size) (h3:d.size≤1000000) {x:Int}:gAb ⟨E8 d,a,b,x⟩=true:=by
 simp only [gAb,A1Z (Nat.le_of_lt h1) h2 h3,Bool.and_true,G5]
 omega
theorem B2y (h1:a≤c) (h2:c < b) (h3:b≤d.size) (h4:d.size≤1000000):gAP ⟨E8 d,a,b,c⟩=true:=by
 simp only [gAP,A1Z (show a≤b by omega) h3 h4,Bool.and_true,C6L,G5,E5]
 refine ⟨?_,?_⟩<;>omega
theorem B2z {q:Nat} (h0:b - a < q) (h1:a≤b) (h2:b≤d.size) (h3:d.size≤1000000) (h4:c≤1000000):gPd q ⟨E8 d,a,b,c⟩=true:=by
 simp only [gPd,A1Z h1 h2 h3,Bool.and_true,C6L,G5,E5]
 refine ⟨?_,?_,?_⟩<;>omega
theorem C0l {x:Int}:A8d ⟨E8 d,a,b,x⟩=E8 (insertionSort ltInt d a b):=by rw [A8d,D9];simp only [Sa.d,J6,Int.toNat_natCast]
theorem C0m {x:Int}:A8e ⟨E8 d,a,b,x⟩=E8 (heapSort ltInt d a b):=by rw [A8e,D9];simp only [Sa.d,J6,Int.toNat_natCast]
theorem A7i {x:Int}:A5K ⟨E8 d,a,b,x⟩=E8 (reverseRange d a b):=by rw [A5K,D9];simp only [Sa.d,J6,Int.toNat_natCast]
theorem C0n {x:Int}:A8f ⟨E8 d,a,b,x⟩=E8 (breakPatterns d a b):=by rw [A8f,D9];simp only [Sa.d,J6,Int.toNat_natCast]
theorem B2A {x:Int}:A65 ⟨E8 d,a,b,x⟩=E8 (partialInsertionSort ltInt d a b).1:=by rw [A65,D9];simp only [Sa.d,J6,Int.toNat_natCast]
theorem B2B {x:Int}:A8g ⟨E8 d,a,b,x⟩=(partialInsertionSort ltInt d a b).2:=by rw [A8g,D9];simp only [Sa.d,J6,Int.toNat_natCast]
theorem C0o:A8h ⟨E8 d,a,b,c⟩=E8 (partitionEqual ltInt d a b c).2:=by rw [A8h,D9];simp only [Sa.d,J6,Int.toNat_natCast]
theorem C0p:A8i ⟨E8 d,a,b,c⟩=((partitionEqual ltInt d a b c).1:Nat):=by rw [A8i,D9];simp only [Sa.d,J6,Int.toNat_natCast]
theorem C0q:A8j ⟨E8 d,a,b,c⟩=E8 (partition ltInt d a b c).2.2:=by rw [A8j,D9];simp only [Sa.d,J6,Int.toNat_natCast]
theorem C0r:A2c ⟨E8 d,a,b,c⟩=(partition ltInt d a b c).2.1:=by rw [A2c,D9];simp only [Sa.d,J6,Int.toNat_natCast]
theorem C0s:A8k ⟨E8 d,a,b,c⟩=((partition ltInt d a b c).1:Nat):=by rw [A8k,D9];simp only [Sa.d,J6,Int.toNat_natCast]
theorem A1d {x:Int}:A26 ⟨E8 d,a,b,x⟩=((choosePivot ltInt d a b).1:Nat):=by rw [A26,D9];simp only [Sa.d,J6,Int.toNat_natCast]
theorem A1e {x:Int}:A8l ⟨E8 d,a,b,x⟩=match (choosePivot ltInt d a b).2 with | .unknown=>0 | .increasing=>1 | .decreasing=>2:=by rw [A8l,D9];simp only [Sa.d,J6,Int.toNat_natCast];cases (choosePivot ltInt d a b).2<;>rfl
theorem A4e:A2d ⟨E8 d,a,b,c⟩=E8 (pdq ltInt d a b c true true):=by rw [A2d,D9];simp only [Sa.d,J6,Int.toNat_natCast]
end
def A8T (R:Type) (f:(B0L→Option R)→Option R) (d:Array Int):Prop:=∃ (a' b' l':Int) (wb' wp':Bool),∀ kx,f kx=kx (.r (E8 d) a' b' l' wb' wp')
section
variable {q L N n:Nat} (hL:L≤2 * q) (ih:∀ (a b l:Nat) (wb wp:Bool) (d:Array Int),b - a≤N→a≤b→b≤d.size→d.size≤1000000→b - a < L→l≤1000000→A8T R (fun kx=>D2 (A0O q R) n (.m (E8 d) a b l wb wp) kx) (pdq ltInt d a b l wb wp))
include hL ih
theorem B6J {d:Array Int} {a b l mid:Nat} {wp:Bool} (hm:b - a≤N+1) (hl:b - a < L) (h1:a≤mid) (h2:mid < b) (hb:b≤d.size) (hs:d.size≤1000000) (hl2:l≤1000000) :
  A8T R (fun kx=>B6E q R (fun p=>D2 (A0O q R) n p kx) (E8 d) mid a b l wp)
   (if mid - a < b - mid then pdq ltInt (pdq ltInt d a mid l true true) (mid+1) b l (decide (mid - a ≥ (b - a) / 8)) wp
    else pdq ltInt (pdq ltInt d (mid+1) b l true true) a mid l (decide (b - mid ≥ (b - a) / 8)) wp):=by
 have w1:B1 ((mid:Int) - a)=((mid - a:Nat):Int):=D3 (by omega) (by omega)
 have w2:B1 ((b:Int) - mid)=((b - mid:Nat):Int):=D3 (by omega) (by omega)
 have w3:B1 ((mid:Int)+1)=((mid+1:Nat):Int):=D3 (by omega) (by omega)
 have w4:B1 (Int.tdiv (B1 ((b:Int) - a)) 8)=(((b - a) / 8:Nat):Int):=by
  rw [D3 (x:=(b:Int) - a) (n:=b - a) (by omega) (by omega),Int.tdiv_eq_ediv_of_nonneg (by omega)]
  exact D3 (by omega) (by omega)
 by_cases h3:mid - a < b - mid
 ·have es:=A8S _ a mid l true true d (Nat.le_refl _) h1 (by omega)
  have hg:gPd q ⟨E8 d,(a:Int),(mid:Int),(l:Int)⟩=true:=B2z (by omega) h1 (by omega) hs hl2
  obtain ⟨a',b',l',wb',wp',h4⟩:=ih (mid+1) b l (decide (mid - a ≥ (b - a) / 8)) wp (pdq ltInt d a mid l true true) (by omega) (by omega) (by omega) (by omega) (by omega) hl2
  refine ⟨a',b',l',wb',wp',fun kx=>?_⟩
  have h4:=h4 kx
  rw [if_pos h3]
  simp only [B6E,w1,w2,w3,w4,C4,C6,hg,A4e,cond_true]
  rw [decide_eq_true (show ((mid - a:Nat):Int) < ((b - mid:Nat):Int) by omega),cond_true]
  by_cases h5:mid - a ≥ (b - a) / 8
  ·rw [decide_eq_true (show (((b - a) / 8:Nat):Int)≤((mid - a:Nat):Int) by omega),cond_true]
   rw [decide_eq_true h5] at h4 ⊢
   exact h4
  ·rw [decide_eq_false (show ¬ (((b - a) / 8:Nat):Int)≤((mid - a:Nat):Int) by omega),cond_false]
   rw [decide_eq_false h5] at h4 ⊢
   exact h4
 ·have es:=A8S _ (mid+1) b l true true d (Nat.le_refl _) (by omega) (by omega)
  have hg:gPd q ⟨E8 d,((mid+1:Nat):Int),(b:Int),(l:Int)⟩=true:=B2z (by omega) (by omega) (by omega) hs hl2
  obtain ⟨a',b',l',wb',wp',h4⟩:=ih a mid l (decide (b - mid ≥ (b - a) / 8)) wp (pdq ltInt d (mid+1) b l true true) (by omega) (by omega) (by omega) (by omega) (by omega) hl2
  refine ⟨a',b',l',wb',wp',fun kx=>?_⟩
  have h4:=h4 kx
  rw [if_neg h3]
  simp only [B6E,w1,w2,w3,w4,C4,C6,hg,A4e,cond_true]
  rw [decide_eq_false (show ¬ ((mid - a:Nat):Int) < ((b - mid:Nat):Int) by omega),cond_false]
  by_cases h5:b - mid ≥ (b - a) / 8
  ·rw [decide_eq_true (show (((b - a) / 8:Nat):Int)≤((b - mid:Nat):Int) by omega),cond_true]
   rw [decide_eq_true h5] at h4 ⊢
   exact h4
  ·rw [decide_eq_false (show ¬ (((b - a) / 8:Nat):Int)≤((b - mid:Nat):Int) by omega),cond_false]
   rw [decide_eq_false h5] at h4 ⊢
   exact h4
theorem A4W {d:Array Int} {a b l p:Nat} {wb wp:Bool} (hm:b - a≤N+1) (hl:b - a < L) (h1:a≤p) (h2:p < b) (hb:b≤d.size) (hs:d.size≤1000000) (hl2:l≤1000000) :
  A8T R (fun kx=>A5R q R (fun p=>D2 (A0O q R) n p kx) (E8 d) a b l p wb wp) (tl4 a b d p l wb wp):=by
 obtain ⟨g1,g2⟩:=B0M (d:=d) h1 h2 hb
 have g3:=A8Q (d:=d) h1 h2 hb
 have hP:A8T R (fun kx=>C0k q R (fun p=>D2 (A0O q R) n p kx) (E8 d) a b l p)
   (if (partition ltInt d a b p).1 - a < b - (partition ltInt d a b p).1 then
    pdq ltInt (pdq ltInt (partition ltInt d a b p).2.2 a (partition ltInt d a b p).1 l true true) ((partition ltInt d a b p).1+1) b l (decide ((partition ltInt d a b p).1 - a ≥ (b - a) / 8)) (partition ltInt d a b p).2.1
   else pdq ltInt (pdq ltInt (partition ltInt d a b p).2.2 ((partition ltInt d a b p).1+1) b l true true) a (partition ltInt d a b p).1 l (decide (b - (partition ltInt d a b p).1 ≥ (b - a) / 8)) (partition ltInt d a b p).2.1):=by
  obtain ⟨a',b',l',wb',wp',h4⟩:=B6J hL ih (d:=(partition ltInt d a b p).2.2) (wp:=(partition ltInt d a b p).2.1) hm hl g1 g2 (by omega) (by omega) hl2
  refine ⟨a',b',l',wb',wp',fun kx=>?_⟩
  have h4:=h4 kx
  simp only [C0k,B2y h1 h2 hb hs,cond_true,C0r,C0q,C0s]
  cases hpb:(partition ltInt d a b p).2.1 with
  | true=>rw [hpb] at h4;exact h4
  | false=>rw [hpb] at h4;exact h4
 unfold tl4
 by_cases ha:a > 0
 ·have w1:B1 ((a:Int) - 1)=((a - 1:Nat):Int):=D3 (by omega) (by omega)
  cases hlt:ltInt d[a - 1]! d[p]! with
  | true =>
   rw [if_neg (by simp)]
   obtain ⟨a',b',l',wb',wp',h4⟩:=hP
   refine ⟨a',b',l',wb',wp',fun kx=>?_⟩
   simp only [A5R]
   rw [C4,decide_eq_true (by omega),cond_true,w1,H9 rfl rfl (by omega) (by omega),hlt,cond_true]
   exact h4 kx
  | false =>
   rw [if_pos (by simp [ha])]
   obtain ⟨e1,e2,e3⟩:=B0N (d:=d) h1 h2
   obtain ⟨a',b',l',wb',wp',h4⟩:=ih (partitionEqual ltInt d a b p).1 b l wb wp (partitionEqual ltInt d a b p).2 (by omega) e2 (by omega) (by omega) (by omega) hl2
   refine ⟨a',b',l',wb',wp',fun kx=>?_⟩
   simp only [A5R]
   rw [C4,decide_eq_true (by omega),cond_true,w1,H9 rfl rfl (by omega) (by omega),hlt,cond_false,B2y h1 h2 hb hs,cond_true,C0o,C0p]
   exact h4 kx
 ·rw [if_neg (by simp;omega)]
  obtain ⟨a',b',l',wb',wp',h4⟩:=hP
  refine ⟨a',b',l',wb',wp',fun kx=>?_⟩
  simp only [A5R]
  rw [C4,decide_eq_false (by omega),cond_false]
  exact h4 kx
theorem A8U {d:Array Int} {a b l p:Nat} {wb wp:Bool} (hm:b - a≤N+1) (hl:b - a < L) (h1:a≤p) (h2:p < b) (hb:b≤d.size) (hs:d.size≤1000000) (hl2:l≤1000000) :
  A8T R (fun kx=>B6F q R (fun p=>D2 (A0O q R) n p kx) kx (E8 d) a b l p wb wp) (if (partialInsertionSort ltInt d a b).2=true then (partialInsertionSort ltInt d a b).1 else tl4 a b (partialInsertionSort ltInt d a b).1 p l wb wp):=by
 have e:=A4V (d:=d) (a:=a) (b:=b)
 cases hp:(partialInsertionSort ltInt d a b).2 with
 | true =>
  rw [if_pos rfl]
  refine ⟨a,b,l,wb,wp,fun kx=>?_⟩
  simp only [B6F,A7h (show a < b by omega) hb hs,cond_true,B2B,hp,B2A]
 | false =>
  rw [if_neg (by simp)]
  obtain ⟨a',b',l',wb',wp',h4⟩:=A4W hL ih (d:=(partialInsertionSort ltInt d a b).1) (wb:=wb) (wp:=wp) hm hl h1 h2 (by omega) (by omega) hl2
  refine ⟨a',b',l',wb',wp',fun kx=>?_⟩
  simp only [B6F,A7h (show a < b by omega) hb hs,cond_true,B2B,hp,B2A,cond_false]
  exact h4 kx
theorem A8V {d:Array Int} {a b l:Nat} {wb wp:Bool} (hm:b - a≤N+1) (hl:b - a < L) (h1:a < b) (hb:b≤d.size) (hs:d.size≤1000000) (hl2:l≤1000000) :
  A8T R (fun kx=>A3V q R (fun p=>D2 (A0O q R) n p kx) kx (E8 d) a b l wb wp) (tl2 a b d l wb wp):=by
 obtain ⟨c1,c2⟩:=B0O (d:=d) h1
 have hg:gAb ⟨E8 d,(a:Int),(b:Int),0⟩=true:=A7h h1 hb hs
 unfold tl2
 simp only
 by_cases hd:(choosePivot ltInt d a b).2=.decreasing
 ·have hp:B1 (B1 ((b:Int) - 1) - B1 (((choosePivot ltInt d a b).1:Nat) - (a:Int)))=(((b - 1) - ((choosePivot ltInt d a b).1 - a):Nat):Int):=by
   rw [D3 (x:=(b:Int) - 1) (n:=b - 1) (by omega) (by omega),D3 (x:=(((choosePivot ltInt d a b).1:Nat):Int) - a) (n:=(choosePivot ltInt d a b).1 - a) (by omega) (by omega)]
   exact D3 (by omega) (by omega)
  have e:=A4T (d:=d) (a:=a) (b:=b) (by omega) hb
  simp only [hd,if_true]
  have H4:=A4W hL ih (d:=reverseRange d a b) (p:=(b - 1) - ((choosePivot ltInt d a b).1 - a)) (l:=l) (wb:=wb) (wp:=wp) hm hl (by omega) (by omega) (by omega) (by omega) hl2
  have HQ:=A8U hL ih (d:=reverseRange d a b) (p:=(b - 1) - ((choosePivot ltInt d a b).1 - a)) (l:=l) (wb:=wb) (wp:=wp) hm hl (by omega) (by omega) (by omega) (by omega) hl2
  cases wb with
  | false =>
   obtain ⟨a',b',l',wb',wp',h4⟩:=H4
   refine ⟨a',b',l',wb',wp',fun kx=>?_⟩
   simp only [A3V,hg,cond_true,A1e,hd,V3 rfl,A7i,A1d,hp,cond_false]
   exact h4 kx
  | true =>
   cases wp with
   | false =>
    obtain ⟨a',b',l',wb',wp',h4⟩:=H4
    refine ⟨a',b',l',wb',wp',fun kx=>?_⟩
    simp only [A3V,hg,cond_true,A1e,hd,V3 rfl,A7i,A1d,hp,cond_false]
    exact h4 kx
   | true =>
    obtain ⟨a',b',l',wb',wp',h4⟩:=HQ
    refine ⟨a',b',l',wb',wp',fun kx=>?_⟩
    simp only [A3V,hg,cond_true,A1e,hd,V3 rfl,A7i,A1d,hp,cond_false]
    exact h4 kx
 ·simp only [hd,if_false]
  have H4:=A4W hL ih (d:=d) (p:=(choosePivot ltInt d a b).1) (l:=l) (wb:=wb) (wp:=wp) hm hl (by omega) (by omega) (by omega) (by omega) hl2
  have HQ:=A8U hL ih (d:=d) (p:=(choosePivot ltInt d a b).1) (l:=l) (wb:=wb) (wp:=wp) hm hl (by omega) (by omega) (by omega) (by omega) hl2
  have hh:ieq (match (choosePivot ltInt d a b).2 with | .unknown=>0 | .increasing=>1 | .decreasing=>2) 2=false:=by
   cases hc:(choosePivot ltInt d a b).2 with
   | unknown=>rfl
   | increasing=>rfl
   | decreasing=>exact absurd hc hd
  cases wb with
  | false =>
   obtain ⟨a',b',l',wb',wp',h4⟩:=H4
   refine ⟨a',b',l',wb',wp',fun kx=>?_⟩
   simp only [A3V,hg,cond_true,A1e,A1d,cond_false]
   rw [hh,cond_false]
   exact h4 kx
  | true =>
   cases wp with
   | false =>
    obtain ⟨a',b',l',wb',wp',h4⟩:=H4
    refine ⟨a',b',l',wb',wp',fun kx=>?_⟩
    simp only [A3V,hg,cond_true,A1e,A1d,cond_false]
    rw [hh,cond_false]
    exact h4 kx
   | true =>
    by_cases hi:(choosePivot ltInt d a b).2=.increasing
    ·rw [if_pos (show (true&&true&&decide ((choosePivot ltInt d a b).2=.increasing))=true by simp [hi])]
     obtain ⟨a',b',l',wb',wp',h4⟩:=HQ
     refine ⟨a',b',l',wb',wp',fun kx=>?_⟩
     simp only [A3V,hg,cond_true,A1e,A1d,cond_false]
     rw [hh,cond_false]
     simp only [hi]
     exact h4 kx
    ·rw [if_neg (show ¬ (true&&true&&decide ((choosePivot ltInt d a b).2=.increasing))=true by simp [hi])]
     obtain ⟨a',b',l',wb',wp',h4⟩:=H4
     have hu:(choosePivot ltInt d a b).2=.unknown:=by
      cases hc:(choosePivot ltInt d a b).2 with
      | unknown=>rfl
      | increasing=>exact absurd hc hi
      | decreasing=>exact absurd hc hd
     refine ⟨a',b',l',wb',wp',fun kx=>?_⟩
     simp only [A3V,hg,cond_true,A1e,A1d,cond_false]
     rw [hh,cond_false]
     simp only [hu]
     exact h4 kx
end
theorem C0t {q L:Nat} (hL:L≤2 * q∨L≤13):∀ (m n a b l:Nat) (wb wp:Bool) (d:Array Int),b - a≤m→m < n→a≤b→b≤d.size→d.size≤1000000→b - a < L→l≤1000000 →
  A8T R (fun kx=>D2 (A0O q R) n (.m (E8 d) a b l wb wp) kx) (pdq ltInt d a b l wb wp):=by
 intro m
 have small:∀ (n a b l:Nat) (wb wp:Bool) (d:Array Int),0 < n→b - a≤12→a≤b→b≤d.size→d.size≤1000000→A8T R (fun kx=>D2 (A0O q R) n (.m (E8 d) a b l wb wp) kx) (pdq ltInt d a b l wb wp):=by
  intro n a b l wb wp d hn h0 hab hb hs
  obtain ⟨n,rfl⟩:∃ m,n=m+1:=⟨n - 1,by omega⟩
  refine ⟨a,b,l,wb,wp,fun kx=>?_⟩
  simp only
  rw [D2,A0O,D3 (x:=(b:Int) - a) (n:=b - a) (by omega) (by omega),C6,decide_eq_true (by omega),cond_true,A1Z hab hb hs,cond_true,C0l,pdq,if_pos h0]
 induction m with
 | zero =>
  intro n a b l wb wp d hm hn hab hb hs hl hl2
  exact small n a b l wb wp d (by omega) (by omega) hab hb hs
 | succ m ih =>
  intro n a b l wb wp d hm hn hab hb hs hl hl2
  by_cases h0:b - a≤12
  ·exact small n a b l wb wp d (by omega) h0 hab hb hs
  ·have hL:L≤2 * q:=by omega
   obtain ⟨n,rfl⟩:∃ m,n=m+1:=⟨n - 1,by omega⟩
   have head:∀ kx,D2 (A0O q R) (n+1) (.m (E8 d) a b l wb wp) kx=bif ieq (l:Int) 0 then (bif gAB ⟨E8 d,a,b,0⟩ then kx (.r (A8e ⟨E8 d,a,b,0⟩) a b l wb wp) else none) else
     bif wb then A3V q R (fun p=>D2 (A0O q R) n p kx) kx (E8 d) a b l wb wp else (bif gAB ⟨E8 d,a,b,0⟩ then A3V q R (fun p=>D2 (A0O q R) n p kx) kx (A8f ⟨E8 d,a,b,0⟩) a b (B1 ((l:Int) - 1)) wb wp else none):=by
    intro kx
    rw [D2,A0O,D3 (x:=(b:Int) - a) (n:=b - a) (by omega) (by omega),C6,decide_eq_false (by omega),cond_false]
   rw [A8R (by omega) hb,if_neg h0]
   by_cases h00:l=0
   ·rw [if_pos h00]
    refine ⟨a,b,l,wb,wp,fun kx=>?_⟩
    simp only
    rw [head,V3 (by omega),cond_true,A1Z hab hb hs,cond_true,C0m]
   ·rw [if_neg h00]
    have ih':=fun (a b l:Nat) (wb wp:Bool) (d:Array Int) h1 h2 h3 h4 h5 h6=>ih n a b l wb wp d h1 (by omega) h2 h3 h4 h5 h6
    cases wb with
    | true =>
     obtain ⟨a',b',l',wb',wp',h4⟩:=A8V hL ih' (d:=d) (l:=l) (wb:=true) (wp:=wp) hm hl (by omega) hb hs hl2
     refine ⟨a',b',l',wb',wp',fun kx=>?_⟩
     simp only
     rw [head,A0C (by omega),cond_false,cond_true]
     exact h4 kx
    | false =>
     have e:=A4U (d:=d) (a:=a) (b:=b) (by omega) hb
     obtain ⟨a',b',l',wb',wp',h4⟩:=A8V hL ih' (d:=breakPatterns d a b) (l:=l - 1) (wb:=false) (wp:=wp) hm hl (by omega) (by omega) (by omega) (by omega)
     refine ⟨a',b',l',wb',wp',fun kx=>?_⟩
     simp only
     rw [head,A0C (by omega),cond_false,cond_false,A1Z hab hb hs,cond_true,C0n,D3 (x:=(l:Int) - 1) (n:=l - 1) (by omega) (by omega)]
     exact h4 kx
def C0u (q:Nat) (R:Type) (xs:List V) (a b l:Int) (k:List V→Option R):Option R:=D2 (A0O q R) (A3 FU) (.m xs a b l true true) (fun | .r ys _ _ _ _ _=>k ys)
theorem A4X {q L:Nat} (hL:L≤2 * q∨L≤13) {xs:List V} {a b l:Int} (h:gPd L ⟨xs,a,b,l⟩=true) (k:List V→Option R):C0u q R xs a b l k=k (A2d ⟨xs,a,b,l⟩):=by
 simp only [gPd,C6L,G5,E5] at h
 obtain ⟨h1,h2,h3,h4⟩:=h
 obtain ⟨a',b',d,e1,e2,e3,e4,e5,e6,e7⟩:=A3a h4
 simp only at e1 e2 e3
 subst e1 e2 e3
 obtain ⟨l',rfl⟩:=Int.eq_ofNat_of_zero_le h2
 obtain ⟨_,_,_,_,_,h8⟩:=C0t (R:=R) hL b' (A3 FU) a' b' l' true true d (by omega) (L6 (by omega)) e5 e6 e7 (by omega) (by omega)
 rw [A4e]
 exact h8 _
open Go.RowKit Go.Sort
variable {R:Type}
inductive B4y where | m (xs ys zs:List V) (x b s n i q j:Int)
inductive C33 where | o (xs ys zs:List V) (x b s n i q j:Int)
def B0P (R:Type) (p:B4y) (K:B4y→Option R) (kx:C33→Option R):Option R:=match p with
 | .m xs ys zs x b s n i q j=>bif G0 j q then ck j zs.length <|
   (bif G0 (V.nth (.l zs) j.toNat).int x then (bif ieq (V.nth (.l zs) j.toNat).int x then K (.m xs ys zs x (B1 (b+1)) (B1 (s+1)) n i q (B1 (j+1))) else K (.m xs ys zs x (B1 (b+1)) s n i q (B1 (j+1))))
   else (bif ieq (V.nth (.l zs) j.toNat).int x then K (.m xs ys zs x b (B1 (s+1)) n i q (B1 (j+1))) else K (.m xs ys zs x b s n i q (B1 (j+1))))) else kx (.o xs ys zs x b s n i q j)
inductive B4z where | m (xs ys:List V) (n i:Int)
inductive C5A where | o (xs ys:List V) (n i:Int) | r (xs ys:List V) (n i x:Int)
def B0Q (R:Type) (p:B4z) (K:B4z→Option R) (kx:C5A→Option R):Option R:=match p with
 | .m xs ys n i=>bif G0 i n then ck i ys.length <| ln xs.length <| D2 (B0P R) (A3 FU) (.m xs ys xs (V.nth (.l ys) i.toNat).int 0 0 n i (xs.length:Nat) 0) (fun | .o xs ys _ x b s n i _ _=>(ln xs.length <|
   bif F9 b (B1 (Int.tdiv (xs.length:Nat) 2)) then (ln xs.length <| bif G0 (B1 (Int.tdiv (xs.length:Nat) 2)) (B1 (b+s)) then kx (.r xs ys n i x) else K (.m xs ys n (B1 (i+1)))) else K (.m xs ys n (B1 (i+1))))) else kx (.o xs ys n i)
def iv (zs:List Int):List V:=zs.map V.i
theorem R0 (zs:List Int):(iv zs).length=zs.length:=by simp [iv]
theorem B0R {zs:List Int} {j:Nat} (h:j < zs.length):(V.nth (.l (iv zs)) j).int=zs[j]:=by
 simp [V.nth,iv,V.els,List.getD,h,V.int]
def cLt (x:Int) (zs:List Int):Nat:=zs.countP (fun y=>decide (y < x))
def cEq (x:Int) (zs:List Int):Nat:=zs.countP (fun y=>decide (y=x))
theorem C0v (ws us:List V) (zs:List Int) (x n i:Int) (hz:zs.length≤1000000):∀ (m j f b s:Nat),zs.length - j≤m→m < f→j≤zs.length→b≤1000000+j→s≤1000000+j →
  ∀ kx:C33→Option R,D2 (B0P R) f (.m ws us (iv zs) x b s n i (zs.length:Nat) j) kx=kx (.o ws us (iv zs) x (b+cLt x (zs.drop j):Nat) (s+cEq x (zs.drop j):Nat) n i (zs.length:Nat) (zs.length:Nat)):=by
 intro m
 induction m with
 | zero =>
  intro j f b s hm hf hj hb hs kx
  obtain ⟨f,rfl⟩:∃ m,f=m+1:=⟨f - 1,by omega⟩
  have:j=zs.length:=by omega
  subst this
  rw [D2,B0P,C4,decide_eq_false (by omega),cond_false,List.drop_length];rfl
 | succ m ih =>
  intro j f b s hm hf hj hb hs kx
  obtain ⟨f,rfl⟩:∃ m,f=m+1:=⟨f - 1,by omega⟩
  by_cases h:j < zs.length
  ·have hd:zs.drop j=zs[j]::zs.drop (j+1):=(List.drop_eq_getElem_cons h)
   rw [D2,B0P,C4,decide_eq_true (by omega),cond_true,H2 (by omega) (by rw [R0];omega),Int.toNat_natCast,B0R h,
    D3 (x:=(b:Int)+1) (n:=b+1) (by omega) (by omega),D3 (x:=(s:Int)+1) (n:=s+1) (by omega) (by omega),D3 (x:=(j:Int)+1) (n:=j+1) (by omega) (by omega)]
   rw [hd]
   simp only [cLt,cEq,List.countP_cons]
   rw [C4]
   by_cases h1:zs[j] < x
   ·rw [decide_eq_true h1,cond_true,A0C (by omega),cond_false,ih (j+1) f (b+1) s (by omega) (by omega) (by omega) (by omega) (by omega)]
    rw [if_pos rfl,decide_eq_false (show ¬ zs[j]=x by omega),if_neg (by simp)]
    simp only [cLt,cEq]
    congr 2<;>omega
   ·rw [decide_eq_false h1,cond_false]
    by_cases h2:zs[j]=x
    ·rw [V3 h2,cond_true,ih (j+1) f b (s+1) (by omega) (by omega) (by omega) (by omega) (by omega)]
     rw [if_neg (by simp),decide_eq_true h2,if_pos rfl]
     simp only [cLt,cEq]
     congr 2<;>omega
    ·rw [A0C h2,cond_false,ih (j+1) f b s (by omega) (by omega) (by omega) (by omega) (by omega)]
     rw [if_neg (by simp),decide_eq_false h2,if_neg (by simp)]
     simp only [cLt,cEq]
     congr 2<;>omega
  ·have:j=zs.length:=by omega
   subst this
   rw [D2,B0P,C4,decide_eq_false (by omega),cond_false,List.drop_length];rfl
def A3j (zs:List Int) (x:Int):Bool:=decide (cLt x zs≤zs.length / 2)&&decide (zs.length / 2 < cLt x zs+cEq x zs)
def A7j (zs:List Int):Int:=(zs.find? (A3j zs)).getD 0
theorem C34 (x:Int) (zs:List Int):cLt x zs≤zs.length:=List.countP_le_length
theorem C35 (x:Int) (zs:List Int):cEq x zs≤zs.length:=List.countP_le_length
theorem C0w (zs:List Int) (hz:zs.length≤1000000) (k:Int→Option R):∀ (m i f:Nat),zs.length - i≤m→m < f→i≤zs.length →
  D2 (B0Q R) f (.m (iv zs) (iv zs) (zs.length:Nat) i) (fun | .o _ _ _ _=>k 0 | .r _ _ _ _ x=>k x)=k (((zs.drop i).find? (A3j zs)).getD 0):=by
 intro m
 induction m with
 | zero =>
  intro i f hm hf hi
  obtain ⟨f,rfl⟩:∃ m,f=m+1:=⟨f - 1,by omega⟩
  have:i=zs.length:=by omega
  subst this
  rw [D2,B0Q,C4,decide_eq_false (by omega),cond_false,List.drop_length];rfl
 | succ m ih =>
  intro i f hm hf hi
  obtain ⟨f,rfl⟩:∃ m,f=m+1:=⟨f - 1,by omega⟩
  by_cases h:i < zs.length
  ·have hd:zs.drop i=zs[i]::zs.drop (i+1):=(List.drop_eq_getElem_cons h)
   have h2:B1 (Int.tdiv (zs.length:Nat) 2)=((zs.length / 2:Nat):Int):=by
    rw [Int.tdiv_eq_ediv_of_nonneg (by omega)];exact D3 (by omega) (by omega)
   have c1:=C34 zs[i] zs
   have c2:=C35 zs[i] zs
   rw [D2,B0Q,C4,decide_eq_true (by omega),cond_true,H2 (by omega) (by rw [R0];omega),A1s (by rw [R0];omega),Int.toNat_natCast,B0R h,R0,
    show (0:Int)=((0:Nat):Int) from rfl,C0v (iv zs) (iv zs) zs zs[i] _ _ hz zs.length 0 (A3 FU) 0 0 (by omega) (L6 (by omega)) (by omega) (by omega) (by omega)]
   simp only [List.drop_zero,Nat.zero_add]
   rw [A1s (by rw [R0];omega),R0,h2,C6,hd,List.find?_cons,A1s (by omega),
    D3 (x:=((cLt zs[i] zs:Nat):Int)+((cEq zs[i] zs:Nat):Int)) (n:=cLt zs[i] zs+cEq zs[i] zs) (by omega) (by omega),C4,D3 (x:=(i:Int)+1) (n:=i+1) (by omega) (by omega)]
   have hih:=ih (i+1) f (by omega) (by omega) (by omega)
   by_cases p1:cLt zs[i] zs≤zs.length / 2
   ·rw [decide_eq_true (show ((cLt zs[i] zs:Nat):Int)≤((zs.length / 2:Nat):Int) by omega),cond_true]
    by_cases p2:zs.length / 2 < cLt zs[i] zs+cEq zs[i] zs
    ·rw [decide_eq_true (show ((zs.length / 2:Nat):Int) < ((cLt zs[i] zs+cEq zs[i] zs:Nat):Int) by omega),cond_true,show A3j zs zs[i]=true by simp [A3j,p1,p2]]
     rfl
    ·rw [decide_eq_false (show ¬ ((zs.length / 2:Nat):Int) < ((cLt zs[i] zs+cEq zs[i] zs:Nat):Int) by omega),cond_false,show A3j zs zs[i]=false by simp [A3j,p2]]
     exact hih
   ·rw [decide_eq_false (show ¬ ((cLt zs[i] zs:Nat):Int)≤((zs.length / 2:Nat):Int) by omega),cond_false,show A3j zs zs[i]=false by simp [A3j,p1]]
    exact hih
  ·have:i=zs.length:=by omega
   subst this
   rw [D2,B0Q,C4,decide_eq_false (by omega),cond_false,List.drop_length];rfl
def C0x (zs:List Int):Int:=(zs.mergeSort (fun x y=>decide (x≤y))).getD (zs.length / 2) 0
theorem C0y {zs:List Int} (h0:zs≠[]):A7j zs=C0x zs:=by
 have hn:0 < zs.length:=List.length_pos_iff.2 h0
 generalize hs:zs.mergeSort (fun x y=>decide (x≤y))=s
 have hp:s.Perm zs:=hs ▸ List.mergeSort_perm zs _
 have hlen:s.length=zs.length:=hp.length_eq
 have hsort:s.Pairwise (fun x y=>x≤y):=by
  have:=List.pairwise_mergeSort (le:=fun (x y:Int)=>decide (x≤y)) (fun a b c h1 h2=>by simp at *;omega) (fun a b=>by simp;omega) zs
  rw [hs] at this
  exact this.imp (fun h=>by simpa using h)
 have hk:zs.length / 2 < s.length:=by omega
 have hv:C0x zs=s[zs.length / 2]:=by
  rw [C0x,hs,List.getD_eq_getElem?_getD,C6X hk];rfl
 rw [hv]
 generalize hkk:zs.length / 2=k at hk
 have cl:∀ x,cLt x zs=cLt x s:=fun x=>(hp.countP_eq _).symm
 have ce:∀ x,cEq x zs=cEq x s:=fun x=>(hp.countP_eq _).symm
 have cle:∀ x,cLt x s+cEq x s=s.countP (fun y=>decide (y≤x)):=by
  intro x
  unfold cLt cEq
  clear hs hp hlen hsort hk hv cl ce
  induction s with
  | nil=>rfl
  | cons a r ih =>
   simp only [List.countP_cons]
   by_cases h1:a < x
   ·rw [if_pos (by simpa using h1),if_neg (by simp;omega),if_pos (by simp;omega)];omega
   ·by_cases h2:a=x
    ·rw [if_neg (by simpa using h1),if_pos (by simpa using h2),if_pos (by simp;omega)];omega
    ·rw [if_neg (by simpa using h1),if_neg (by simpa using h2),if_neg (by simp;omega)];omega
 have hge:∀ i (hi:i < s.length),k≤i→s[k]≤s[i]:=fun i hi hki=>by
  rcases Nat.lt_or_eq_of_le hki with h | h
  ·exact List.pairwise_iff_getElem.1 hsort k i hk hi h
  ·subst h;exact Int.le_refl _
 have hle:∀ i (hi:i < s.length),i≤k→s[i]≤s[k]:=fun i hi hki=>by
  rcases Nat.lt_or_eq_of_le hki with h | h
  ·exact List.pairwise_iff_getElem.1 hsort i k hi hk h
  ·subst h;exact Int.le_refl _
 have a1:cLt s[k] s≤k:=by
  unfold cLt
  have e0:s.countP (fun y=>decide (y < s[k]))=(s.take k).countP (fun y=>decide (y < s[k]))+(s.drop k).countP (fun y=>decide (y < s[k])):=by
   rw [← List.countP_append,List.take_append_drop]
  have e1:(s.drop k).countP (fun y=>decide (y < s[k]))=0:=by
   rw [List.countP_eq_zero]
   intro y hy
   obtain ⟨i,hi,rfl⟩:=List.mem_iff_getElem.1 hy
   rw [List.getElem_drop]
   have:=hge (k+i) (by simp at hi;omega) (by omega)
   simp;omega
  have:=List.countP_le_length (l:=s.take k) (p:=fun y=>decide (y < s[k]))
  rw [List.length_take] at this
  omega
 have a2:k < s.countP (fun y=>decide (y≤s[k])):=by
  have e0:s.countP (fun y=>decide (y≤s[k]))=(s.take (k+1)).countP (fun y=>decide (y≤s[k]))+(s.drop (k+1)).countP (fun y=>decide (y≤s[k])):=by
   rw [← List.countP_append,List.take_append_drop]
  have e1:(s.take (k+1)).countP (fun y=>decide (y≤s[k]))=(s.take (k+1)).length:=by
   rw [List.countP_eq_length]
   intro y hy
   obtain ⟨i,hi,rfl⟩:=List.mem_iff_getElem.1 hy
   rw [List.getElem_take]
   simp only [List.length_take] at hi
   have:=hle i (by omega) (by omega)
   simpa using this
  rw [e0,e1,List.length_take];omega
 have mono:∀ x y:Int,x < y→s.countP (fun z=>decide (z≤x))≤cLt y s:=fun x y hxy=>List.countP_mono_left (fun z _ hz=>by simp at hz ⊢;omega)
 have uniq:∀ x,A3j zs x=true→x=s[k]:=by
  intro x hx
  simp only [A3j,C6L,C6W,cl,ce,cle,hkk] at hx
  rcases Int.lt_trichotomy x s[k] with h | h | h
  ·have:=mono x _ h;omega
  ·exact h
  ·have:=mono _ x h;omega
 have hv2:A3j zs s[k]=true:=by
  simp only [A3j,C6L,C6W,cl,ce,cle,hkk]
  exact ⟨a1,a2⟩
 unfold A7j
 cases hf:zs.find? (A3j zs) with
 | none =>
  rw [List.find?_eq_none] at hf
  exact absurd hv2 (by simpa using hf s[k] (hp.mem_iff.1 (List.getElem_mem hk)))
 | some x=>exact uniq x (List.find?_some hf)
theorem B4A (zs:List Int):A2d ⟨iv zs,0,(zs.length:Nat),(bitsLen zs.length:Nat)⟩=iv (zs.mergeSort (fun x y=>decide (x≤y))):=by
 have e:iv zs=E8 zs.toArray:=rfl
 rw [e,show (0:Int)=((0:Nat):Int) from rfl,A4e]
 have:=sortInt zs
 rw [← this]
 rfl
open Go.RowKit Go.Sort
variable {R:Type}
def lsI:Nat→(Nat→Int)→List V
 | 0,_=>[]
 | k+1,f=>.i (f 0)::lsI k (fun i=>f (i+1))
theorem C2B:∀ (zs:List Int),iv zs=lsI zs.length (fun i=>zs.getD i 0)
 | []=>rfl
 | z::r=>by
  show V.i z::iv r=V.i ((z::r).getD 0 0)::lsI r.length (fun i=>(z::r).getD (i+1) 0)
  rw [C2B r];rfl
def mdG (u:Nat) (xs:List V):Option (List Rs) :=
 (fun S:List V=>ln S.length <| ck (B1 (Int.tdiv (S.length:Nat) 2)) S.length <| some [.d u (.i (List.getD S (B1 (Int.tdiv (S.length:Nat) 2)).toNat .n).int)]) (A2d ⟨xs,0,(xs.length:Nat),(bitsLen xs.length:Nat)⟩)
theorem C0z (u:Nat) {zs:List Int} (h0:zs≠[]) (hz:zs.length≤50):mdG u (iv zs)=some [.d u (.i (A7j zs))]:=by
 have hn:0 < zs.length:=List.length_pos_iff.2 h0
 unfold mdG
 rw [R0,B4A,C0y h0]
 have hl:(zs.mergeSort (fun x y=>decide (x≤y))).length=zs.length:=List.length_mergeSort zs
 have h2:B1 (Int.tdiv (zs.length:Nat) 2)=((zs.length / 2:Nat):Int):=by
  rw [Int.tdiv_eq_ediv_of_nonneg (by omega)];exact D3 (by omega) (by omega)
 simp only [R0,hl,h2]
 rw [A1s (by omega),H2 (by omega) (by omega),Int.toNat_natCast]
 unfold C0x
 have hk:zs.length / 2 < (zs.mergeSort (fun x y=>decide (x≤y))).length:=by omega
 rw [List.getD_eq_getElem?_getD,List.getD_eq_getElem?_getD,C6X hk,iv,List.getElem?_map,C6X hk]
 rfl
def C36 (u:Nat) (xs:List V):Option (List Rs):=ln xs.length <| D2 (B0Q (List Rs)) (A3 FU) (.m xs xs (xs.length:Nat) 0) (fun | .o _ _ _ _=>some [.d u (.i 0)] | .r _ _ _ _ x=>some [.d u (.i x)])
theorem B6K (u:Nat) {zs:List Int} (hz:zs.length≤50):C36 u (iv zs)=some [.d u (.i (A7j zs))]:=by
 unfold C36
 rw [A1s (by rw [R0];omega),R0,show (0:Int)=((0:Nat):Int) from rfl]
 exact C0w zs (by omega) (fun x=>some [Rs.d u (.i x)]) zs.length 0 (A3 FU) (by omega) (L6 (by omega)) (by omega)
def viL (x:V):List Int:=x.els.map V.int
theorem B6L (zs:List Int):viL (.l (iv zs))=zs:=by simp [viL,V.els,iv,V.int,Function.comp_def]
theorem B0S {x:V} (h:(D.slice (.int .u32)).has x):x=.n∨∃ zs:List Int,x=.l (iv zs):=by
 rcases h with h | ⟨ys,rfl,hy⟩
 ·exact .inl h
 ·refine .inr ⟨ys.map V.int,?_⟩
  congr 1
  induction ys with
  | nil=>rfl
  | cons y r ih =>
   obtain ⟨n,rfl,_⟩:=hy y (List.mem_cons_self ..)
   have:=ih (fun z hz=>hy z (List.mem_cons_of_mem _ hz))
   show _=V.i n::iv (r.map V.int)
   rw [← this]
def mdg:List V→Bool
 | [x]=>Nat.ble x.els.length 50
 | _=>false
def mdr (u:Nat):List V→List Rs
 | [x]=>[.d u (.i (A7j (viL x)))]
 | _=>[]
inductive B4B where | m (xs zs ys:List V) (q:Bool) (n i:Int)
inductive C5B where | o (xs zs ys:List V) (q:Bool) (n i:Int) | r (xs zs ys:List V) (q:Bool) (n i:Int)
def B0T (R:Type) (p:B4B) (K:B4B→Option R) (kx:C5B→Option R):Option R:=match p with
 | .m xs zs ys q n i=>bif G0 i n then ck i zs.length <| ck i xs.length <| (bif !(ieq (List.getD zs i.toNat .n).int (V.nth (.l xs) i.toNat).int) then kx (.r xs zs ys q n i) else K (.m xs zs ys q n (B1 (i+1)))) else kx (.o xs zs ys q n i)
theorem C0A (zs:List Int) (q:Bool) (hz:zs.length≤50):∀ (m i f:Nat),zs.length - i≤m→m < f→i≤zs.length →
  D2 (B0T R) f (.m (iv zs) (iv zs) (iv zs) q (zs.length:Nat) i)=fun kx=>kx (.o (iv zs) (iv zs) (iv zs) q (zs.length:Nat) (zs.length:Nat)):=by
 intro m
 induction m with
 | zero =>
  intro i f hm hf hi
  funext kx
  obtain ⟨f,rfl⟩:∃ m,f=m+1:=⟨f - 1,by omega⟩
  have:i=zs.length:=by omega
  subst this
  rw [D2,B0T,C4,decide_eq_false (by omega),cond_false]
 | succ m ih =>
  intro i f hm hf hi
  funext kx
  obtain ⟨f,rfl⟩:∃ m,f=m+1:=⟨f - 1,by omega⟩
  by_cases h:i < zs.length
  ·have e:(List.getD (iv zs) i .n).int=zs[i]:=by simp [iv,List.getD,h,V.int]
   rw [D2,B0T,C4,decide_eq_true (by omega),cond_true,H2 (by omega) (by rw [R0];omega),H2 (by omega) (by rw [R0];omega),Int.toNat_natCast,B0R h,e,V3 rfl]
   simp only [Bool.not_true,cond_false]
   rw [D3 (x:=(i:Int)+1) (n:=i+1) (by omega) (by omega),ih (i+1) f (by omega) (by omega) (by omega)]
  ·have:i=zs.length:=by omega
   subst this
   rw [D2,B0T,C4,decide_eq_false (by omega),cond_false]
def C37 (u:Nat) (xs:List V):Option Unit :=
 ln xs.length <| bif G0 50 (xs.length:Nat) then some () else lim ((List.replicate 0 (V.i 0)).length+xs.length) <|
  bif mdg [.l (List.replicate 0 (V.i 0)++xs)] then (bif mdg [.l xs] then (bif !(ieq (A7j (viL (.l (List.replicate 0 (V.i 0)++xs)))) (A7j (viL (.l xs)))) then none else
   ln xs.length <| D2 (B0T Unit) (A3 FU) (.m xs (List.replicate 0 (V.i 0)++xs) xs (false&&xs.isEmpty) (xs.length:Nat) 0) (fun | .o _ _ _ _ _ _=>some () | .r _ _ _ _ _ _=>none)) else none) else none
theorem B6M (u:Nat) {zs:List Int} (h:zs.length≤ML):C37 u (iv zs)=some ():=by
 unfold C37
 rw [A1s (by rw [R0];exact h),C4,R0]
 by_cases h50:zs.length≤50
 ·rw [decide_eq_false (by omega),cond_false,List.replicate_zero,List.nil_append,A2o (by rw [List.length_nil];omega)]
  have hg:mdg [.l (iv zs)]=true:=C6U (by show (iv zs).length≤50;rw [R0];exact h50)
  rw [hg,cond_true,cond_true,V3 rfl]
  simp only [Bool.not_true,cond_false]
  rw [A1s (by omega),show (0:Int)=((0:Nat):Int) from rfl,C0A zs _ h50 zs.length 0 (A3 FU) (by omega) (L6 (by omega)) (by omega)]
 ·rw [decide_eq_true (by omega),cond_true]
theorem C38 {zs:List Int} (h:D.smL [.slice (.int .u32)] [.l (iv zs)]):zs.length≤ML:=by
 have:=h.1.1
 rwa [show (V.l (iv zs)).els=iv zs from rfl,R0] at this
end Go.Vm
end