/- What the operations of a program do, shown once for all programs; and numbers. -/
import Derived.Test.YteoeonfajlnggaaGreatVm11
import Derived.Test.YteoeonfajlnggaaGreatVm9
import Derived.Test.YteoeonfajlnggaaGreatVm8
import Derived.Test.YteoeonfajlnggaaGreatVm10
import Derived.Deep.WholeRow
import Derived.Deep.MidRow
import Derived.Deep.RegionHeld
import Derived.Maps.AppendAt
import Derived.Great.Walk
set_option linter.constructorNameAsVariable false
set_option linter.unusedVariables false
set_option linter.unusedSimpArgs false
noncomputable section
namespace Go.Vm
noncomputable section
open Go.RowKit Go.Sort
variable {R:Type} {P:Program} {T:TT}
structure SmK where
 xs:List V
 a:Int
 b:Int
 c:Int
 n:Int
def B8v:SmK→Int:=A1P fun s=>((median A8 (A1s s.xs) s.a.toNat s.b.toNat s.c.toNat s.n.toNat).1:Nat)
def B8w:SmK→Int:=A1P fun s=>((median A8 (A1s s.xs) s.a.toNat s.b.toNat s.c.toNat s.n.toNat).2:Nat)
def B1B (s:SmK):Bool:=F2 0 s.a&&(F2 0 s.b&&(F2 0 s.c&&(D4 s.a (s.xs.length:Nat)&&(D4 s.b (s.xs.length:Nat)&&(D4 s.c (s.xs.length:Nat)&&(F2 0 s.n&&(F2 s.n 1000&&B7X s.xs)))))))
def C7F (el it gn:Nat) (args:List A) (of:Nat→Option Ob) (nx:Nat):Option SmK :=
 match args with
 | [.o id ver,.i .i64 a,.i .i64 b,.i .i64 c,.p q ty [],.f h []]=>bif Nat.beq id 0&&(Nat.beq ver 1&&(Nat.beq nx 2&&(Nat.beq q 1&&(Nat.beq ty it&&Nat.beq h gn)))) then
  (match of 0 with
  | some (.row el' v xs nl sh)=>bif Nat.beq el el'&&(Nat.beq v 1&&(!nl&&!sh)) then
   (match of 1 with
   | some (.box ty x sh)=>bif Nat.beq ty it&&!sh then
    (match bxI it x with
    | some n=>some ⟨xs,a,b,c,n⟩
    | none=>none) else none
   | _=>none) else none
  | _=>none) else none
 | _=>none
def C3a (el it N:Nat):SmK→H9:=fun s=>⟨.i .i64 (B8v s),[(0,.row el 1 s.xs false false),(1,.box it (.i .i64 (B8w s)) false)],[0],N⟩
theorem C7G {el it gn f N:Nat} {s:Sym} (hk:C5 T it=some (.int .i64)) (hz:B8 T it=1) (hs:J2 P T f s)
  (h:∀ xs a b c n,B1B ⟨xs,a,b,c,n⟩=true→∃ n' ro,n'≤N∧s [.o 0 1,.i .i64 a,.i .i64 b,.i .i64 c,.p 1 it [],.f gn []] (ofL [.row el 1 xs false false,.box it (.i .i64 n) false]) 2=some ⟨.i .i64 (B8v ⟨xs,a,b,c,n⟩),[(0,.row el 1 xs false false),(1,.box it (.i .i64 (B8w ⟨xs,a,b,c,n⟩)) false)],ro,n'⟩∧∀ id∈ro,id=0∨id=1) :
  R0 P T f (N3 (C7F el it gn) B1B (C3a el it N)).dir:=B9X hs (fun args of nx x hx hg=>by
 unfold C7F at hx
 split at hx<;>try (cases hx;done)
 rename_i id ver a b c q ty h0
 cases h1:(Nat.beq id 0&&(Nat.beq ver 1&&(Nat.beq nx 2&&(Nat.beq q 1&&(Nat.beq ty it&&Nat.beq h0 gn))))) with
 | false=>rw [h1] at hx;cases hx
 | true =>
 rw [h1] at hx
 simp only [D5V] at h1
 obtain ⟨e1,e2,e3,e4,e5,e6⟩:=h1
 obtain rfl:=D5U e1
 obtain rfl:=D5U e2
 obtain rfl:=D5U e3
 obtain rfl:=D5U e4
 obtain rfl:=D5U e5
 obtain rfl:=D5U e6
 simp only [cond_true] at hx
 split at hx<;>try (cases hx;done)
 rename_i el' v xs nl sh ho
 cases h2:(Nat.beq el el'&&(Nat.beq v 1&&(!nl&&!sh))) with
 | false=>rw [h2] at hx;cases hx
 | true =>
 rw [h2] at hx
 simp only [D5V,Bool.not_eq_true'] at h2
 obtain ⟨e1,e2,rfl,rfl⟩:=h2
 obtain rfl:=D5U e1
 obtain rfl:=D5U e2
 simp only [cond_true] at hx
 split at hx<;>try (cases hx;done)
 rename_i ty' y sh' ho1
 cases h3:(Nat.beq ty' ty&&!sh') with
 | false=>rw [h3] at hx;cases hx
 | true =>
 rw [h3] at hx
 simp only [D5V,Bool.not_eq_true'] at h3
 obtain ⟨e1,rfl⟩:=h3
 obtain rfl:=D5U e1
 simp only [cond_true] at hx
 split at hx<;>try (cases hx;done)
 rename_i n hy
 cases hx
 have hy:y=.i .i64 n∨y=.v ty' (.i n):=by
  unfold bxI at hy
  split at hy<;>try (cases hy;done)
  ·cases hy;exact .inl rfl
  ·rename_i t m
   cases h4:Nat.beq t ty' with
   | false=>rw [h4] at hy;cases hy
   | true =>
    rw [h4] at hy;cases hy
    obtain rfl:=D5U h4
    exact .inr rfl
 obtain ⟨n',ro,h4,h5,h6⟩:=h xs a b c n hg
 refine ⟨n',ro,_,F8 of 1 (some (.box ty' (.i .i64 n) false)),h4,h5,fun id A3=>?_,fun c e hos=>?_,?_⟩
 ·rcases h6 id A3 with rfl | rfl
  ·rw [upd_ne _ _ (by decide),ho];rfl
  ·rw [upd_same];rfl
 ·rcases hy with rfl | rfl
  ·have:F8 of 1 (some (.box ty' (.i .i64 n) false))=of:=by
    funext j
    by_cases hj:j=1
    ·subst hj;rw [upd_same,ho1]
    ·rw [upd_ne _ _ hj]
   rw [this];exact hos
  ·exact hos.ibox ho1 hk hz
 ·show put _ [_,_]=put _ [_,_]
  simp only [put]
  funext j
  by_cases hj:j=1
  ·subst hj;simp [F8]
  ·by_cases hj0:j=0
   ·subst hj0;simp [F8]
   ·simp [F8,hj])
def D2b (R:Type) (xs:List V) (a b c n:Int) (k:Int→Int→Option R):Option R :=
 C0h R xs a b n (fun a b n=>C0h R xs b c n (fun b c n=>C0h R xs a b n (fun a b n=>k b n)))
theorem A7x {d:Array V} {a b n:Nat} (ha:a < d.size) (hb:b < d.size) (hn:n≤1000000) (k:Int→Int→Int→Option R) :
  C0h R (B6 d) a b n k=k (order2 A8 d a b n).1 (order2 A8 d a b n).2.1 (order2 A8 d a b n).2.2:=by
 rw [C0h,J1 rfl rfl hb ha,order2,F6 (n:=n+1) (by omega) (by omega)]
 cases A8 d[b]! d[a]! <;> rfl
theorem A1b {d:Array V} {a b n m:Nat} (ha:a < m) (hb:b < m):(order2 A8 d a b n).1 < m∧(order2 A8 d a b n).2.1 < m∧(order2 A8 d a b n).2.2≤n+1:=by
 unfold order2
 split<;>refine ⟨?_,?_,?_⟩<;>simp only<;>omega
theorem C3b {xs:List V} {a b c n:Int} (h:B1B ⟨xs,a,b,c,n⟩=true) (k:Int→Int→Option R):D2b R xs a b c n k=k (B8v ⟨xs,a,b,c,n⟩) (B8w ⟨xs,a,b,c,n⟩):=by
 simp only [B1B,D5V,D3,H8] at h
 obtain ⟨h1,h2,h3,h4,h5,h6,h7,h8,h9⟩:=h
 obtain ⟨d,rfl,h10,h11,h12⟩:=B6x h9
 rw [Q5] at h4 h5 h6
 obtain ⟨a,rfl⟩:=Int.eq_ofNat_of_zero_le h1
 obtain ⟨b,rfl⟩:=Int.eq_ofNat_of_zero_le h2
 obtain ⟨c,rfl⟩:=Int.eq_ofNat_of_zero_le h3
 obtain ⟨n,rfl⟩:=Int.eq_ofNat_of_zero_le h7
 have hd:∀ {x:Nat},(x:Int) < (d.size:Nat)→x < d.size:=fun h=>by omega
 obtain ⟨p1,p2,p3⟩:=A1b (d:=d) (n:=n) (hd h4) (hd h5)
 rw [D2b,A7x (hd h4) (hd h5) (by omega)]
 obtain ⟨q1,q2,q3⟩:=A1b (d:=d) (n:=(order2 A8 d a b n).2.2) p2 (hd h6)
 rw [A7x p2 (hd h6) (by omega),A7x p1 q1 (by omega)]
 rw [B8v,B8w,E2,E2]
 simp only [h10,Int.toNat_natCast]
 rfl
def B62 (R:Type) (n p:Int) (k:Int→Int→Option R):Option R:=bif Y6 n 0 then k p 1 else bif Y6 n 12 then k p 2 else k p 0
def C3c (R:Type) (xs:List V) (a b c n:Int) (k:Int→Int→Option R):Option R:=bif B1B ⟨xs,a,b,c,n⟩ then k (B8v ⟨xs,a,b,c,n⟩) (B8w ⟨xs,a,b,c,n⟩) else none
def C3d (R:Type) (xs:List V) (a n:Int) (k:Int→Int→Option R):Option R:=C3c R xs (B3 (a - 1)) a (B3 (a+1)) n k
def D0v (R:Type) (xs:List V) (a l:Int) (k:Int→Int→Option R):Option R :=
 bif F2 8 l then (bif F2 50 l then
  C3d R xs (B3 (a+B3 (B3 (Int.tdiv l 4) * 1))) 0 (fun i n=>C3d R xs (B3 (a+B3 (B3 (Int.tdiv l 4) * 2))) n (fun j n=>C3d R xs (B3 (a+B3 (B3 (Int.tdiv l 4) * 3))) n (fun q n=>C3c R xs i j q n (fun j n=>B62 R n j k))))
  else C3c R xs (B3 (a+B3 (B3 (Int.tdiv l 4) * 1))) (B3 (a+B3 (B3 (Int.tdiv l 4) * 2))) (B3 (a+B3 (B3 (Int.tdiv l 4) * 3))) 0 (fun j n=>B62 R n j k)) else k (B3 (a+B3 (B3 (Int.tdiv l 4) * 2))) 1
def C3e (R:Type) (xs:List V) (a b:Int) (k:Int→Int→Option R):Option R:=D0v R xs a (B3 (b - a)) k
theorem A7y {d:Array V} {a b c n:Nat} (ha:a < d.size) (hb:b < d.size) (hc:c < d.size) (hn:n≤1000) (hs:d.size≤1000000) (k:Int→Int→Option R) :
  C3c R (B6 d) a b c n k=k ((median A8 d a b c n).1:Nat) ((median A8 d a b c n).2:Nat):=by
 have hg:B1B ⟨B6 d,a,b,c,n⟩=true:=by
  simp only [B1B,A6S hs,Bool.and_true,D5V,D3,H8,Q5]
  refine ⟨?_,?_,?_,?_,?_,?_,?_,?_⟩<;>omega
 rw [C3c,hg,cond_true,B8v,B8w,E2,E2]
 simp only [L3,Int.toNat_natCast]
theorem B45 {d:Array V} {a b c n m:Nat} (ha:a < m) (hb:b < m) (hc:c < m):(median A8 d a b c n).1 < m∧(median A8 d a b c n).2≤n+3:=by
 obtain ⟨p1,p2,p3⟩:=A1b (d:=d) (n:=n) ha hb
 obtain ⟨q1,q2,q3⟩:=A1b (d:=d) (n:=(order2 A8 d a b n).2.2) p2 hc
 obtain ⟨r1,r2,r3⟩:=A1b (d:=d) (n:=(order2 A8 d (order2 A8 d a b n).2.1 c (order2 A8 d a b n).2.2).2.2) p1 q1
 exact ⟨r2,by show _≤_;unfold median;simp only;omega⟩
theorem A9K {n p:Nat} (k:Int→Int→Option R):B62 R n p k=k (p:Nat) (match (if n=0 then Hint.increasing else if n=12 then .decreasing else .unknown) with | .unknown=>0 | .increasing=>1 | .decreasing=>2):=by
 unfold B62
 by_cases h0:n=0
 ·rw [A0P (by omega),cond_true,if_pos h0]
 ·rw [A2t (by omega),cond_false,if_neg h0]
  by_cases h1:n=12
  ·rw [A0P (by omega),cond_true,if_pos h1]
  ·rw [A2t (by omega),cond_false,if_neg h1]
theorem B8x {xs:List V} {a b:Int} (h:A2l ⟨xs,a,b,0⟩=true) (k:Int→Int→Option R):C3e R xs a b k=k (A1Q ⟨xs,a,b,0⟩) (A5N ⟨xs,a,b,0⟩):=by
 obtain ⟨a',b',d,h1,h2,h3,h4,h5,h6,h7⟩:=B0A h
 simp only at h1 h2 h3
 subst h1 h2 h3
 rw [C3e,F6 (n:=b' - a') (by omega) (by omega),D0v,A1Q,A5N,E2,E2,h4]
 have t4:B3 (Int.tdiv ((b' - a':Nat):Int) 4)=(((b' - a') / 4:Nat):Int):=by
  rw [Int.tdiv_eq_ediv_of_nonneg (by omega)];exact F6 (by omega) (by omega)
 have hj:∀ q:Nat,q≤3→B3 ((a':Int)+B3 ((((b' - a') / 4:Nat):Int) * (q:Int)))=((a'+(b' - a') / 4 * q:Nat):Int):=fun q hq=>by
  have h1:(b' - a') / 4 * q≤3000000:=Nat.le_trans (Nat.mul_le_mul (show (b' - a') / 4≤1000000 by omega) hq) (by decide)
  rw [F6 (x:=(((b' - a') / 4:Nat):Int) * (q:Int)) (n:=(b' - a') / 4 * q) (by simp) (by omega)]
  exact F6 (by simp) (by omega)
 rw [t4,show (1:Int)=((1:Nat):Int) from rfl,show (3:Int)=((3:Nat):Int) from rfl,hj 1 (by omega),hj 3 (by omega)]
 have h2:=hj 2 (by omega)
 rw [show ((2:Nat):Int)=2 from rfl] at h2
 rw [h2]
 simp only [Int.toNat_natCast,choosePivot]
 by_cases h8:b' - a' ≥ 8
 ·rw [E0,decide_eq_true (by omega),cond_true,if_pos h8]
  by_cases h50:b' - a' ≥ 50
  ·rw [E0,decide_eq_true (by omega),cond_true,if_pos h50]
   have ma:∀ (x n:Nat),1≤x→x+1 < d.size→n≤1000→∀ kk:Int→Int→Option R,C3d R (B6 d) x n kk=kk ((medianAdjacent A8 d x n).1:Nat) ((medianAdjacent A8 d x n).2:Nat):=by
    intro x n hx1 hx2 hn kk
    rw [C3d,F6 (n:=x - 1) (by omega) (by omega),F6 (n:=x+1) (by omega) (by omega),A7y (by omega) (by omega) (by omega) hn h7]
    rfl
   have mb:∀ (x n:Nat),1≤x→x+1 < d.size→(medianAdjacent A8 d x n).1 < d.size∧(medianAdjacent A8 d x n).2≤n+3:=fun x n hx1 hx2=>B45 (by omega) (by omega) (by omega)
   obtain ⟨u1,u2⟩:=mb (a'+(b' - a') / 4 * 1) 0 (by omega) (by omega)
   rw [show (0:Int)=((0:Nat):Int) from rfl,ma _ _ (by omega) (by omega) (by omega)]
   obtain ⟨v1,v2⟩:=mb (a'+(b' - a') / 4 * 2) (medianAdjacent A8 d (a'+(b' - a') / 4 * 1) 0).2 (by omega) (by omega)
   rw [ma _ _ (by omega) (by omega) (by omega)]
   obtain ⟨w1,w2⟩:=mb (a'+(b' - a') / 4 * 3) (medianAdjacent A8 d (a'+(b' - a') / 4 * 2) (medianAdjacent A8 d (a'+(b' - a') / 4 * 1) 0).2).2 (by omega) (by omega)
   rw [ma _ _ (by omega) (by omega) (by omega),A7y u1 v1 w1 (by omega) h7,A9K]
   rfl
  ·rw [E0,decide_eq_false (by omega),cond_false,if_neg h50,show (0:Int)=((0:Nat):Int) from rfl,A7y (by omega) (by omega) (by omega) (by omega) h7,A9K]
   rfl
 ·rw [E0,decide_eq_false (by omega),cond_false,if_neg h8]
  rfl
end
noncomputable section
open Go.RowKit Go.Sort
variable {R:Type}
def C3f (R:Type) (xs:List V) (a b:Int) (k:Nat→List V→Option R):Option R :=
 bif F2 8 (B3 (b - a)) then C8 (A3H R) (A3 FU) (.m xs a b (B3 (b - a)) (WU (1 * (((2:Nat) ^ (min (Wd.blen (WU (B3 (b - a))).toNat) 64):Nat):Int)))
  (B3 (B3 (a+B3 (B3 (Int.tdiv (B3 (b - a)) 4) * 2)) - 1)) (WU (B3 (b - a)))) (fun | .o xs _ _ _ _ _ _=>k 64 xs) else k 1 xs
theorem B8y {xs:List V} {a b:Int} (h:A03 ⟨xs,a,b,0⟩=true) (k:Nat→List V→Option R):C3f R xs a b k=k (bif F2 8 (B3 (b - a)) then 64 else 1) (A5H ⟨xs,a,b,0⟩):=by
 obtain ⟨a',b',d,h1,h2,h3,h4,h5,h6,h7⟩:=A3g h
 simp only at h1 h2 h3
 subst h1 h2 h3
 rw [C3f,F6 (n:=b' - a') (by omega) (by omega),A5H,E2,h4]
 simp only [Int.toNat_natCast,breakPatterns]
 by_cases h8:b' - a' ≥ 8
 ·rw [E0,decide_eq_true (by omega),cond_true,if_pos h8]
  have hl:=two_pow_bitsLen_le (n:=b' - a') (by omega)
  have hbl:Wd.blen (b' - a')=bitsLen (b' - a'):=rfl
  have h64:bitsLen (b' - a')≤64:=(bitsLen_le_iff _ _).2 (by omega)
  rw [C4 (n:=b' - a') (by omega),Int.toNat_natCast,hbl,Nat.min_eq_left h64,Int.one_mul,C4 (n:=2 ^ bitsLen (b' - a')) (by omega)]
  have hi:B3 (B3 ((a':Int)+B3 (B3 (Int.tdiv ((b' - a':Nat):Int) 4) * 2)) - 1)=((a'+(b' - a') / 4 * 2+2 - 3:Nat):Int):=by
   rw [show Int.tdiv ((b' - a':Nat):Int) 4=(((b' - a') / 4:Nat):Int) from by rw [Int.tdiv_eq_ediv_of_nonneg (by omega)];omega,
    F6 (x:=(((b' - a') / 4:Nat):Int)) rfl (by omega),F6 (x:=(((b' - a') / 4:Nat):Int) * 2) (n:=(b' - a') / 4 * 2) (by omega) (by omega),
    F6 (x:=(a':Int)+(((b' - a') / 4 * 2:Nat):Int)) (n:=a'+(b' - a') / 4 * 2) (by omega) (by omega)]
   exact F6 (by omega) (by omega)
  rw [hi]
  obtain ⟨r',i',h9⟩:=C0l (R:=R) a' b' (b' - a') (2 ^ bitsLen (b' - a')) (by omega) h8 (Nat.one_le_two_pow) hl 3 (A3 FU) (UInt64.ofNat (b' - a')) d (by omega) (R7 (by omega)) (by omega) h7
  have hu:(UInt64.ofNat (b' - a')).toNat=b' - a':=by
   rw [UInt64.toNat_ofNat'];exact Nat.mod_eq_of_lt (by omega)
  rw [hu] at h9
  rw [h9]
  simp only [Nat.shiftLeft_eq,Nat.one_mul]
  rw [show a'+(b' - a') / 4 * 2+2 - 3=a'+(b' - a') / 4 * 2 - 1 by omega]
  rfl
 ·rw [E0,decide_eq_false (by omega),cond_false,if_neg h8];rfl
end
noncomputable section
open Go.RowKit Go.Sort
variable {R:Type} {P:Program} {T:TT}
theorem B8z (s:Z5):A0b 0 s=false:=by
 cases h:A0b 0 s with
 | false=>rfl
 | true =>
  simp only [A0b,A03,D5V,H8,D3] at h
  omega
end
noncomputable section
open Go.RowKit Go.Sort
variable {R:Type}
inductive S5 where | m (xs:List V) (a b l:Int) (wb wp:Bool)
inductive A4s where | r (xs:List V) (a b l:Int) (wb wp:Bool)
def B2R (q:Nat) (R:Type) (K:S5→Option R) (ys:List V) (n a b l:Int) (wp:Bool):Option R :=
 bif D4 (B3 (n - a)) (B3 (b - n)) then
  (bif F2 (B3 (Int.tdiv (B3 (b - a)) 8)) (B3 (n - a)) then (bif A0b q ⟨ys,a,n,l⟩ then K (.m (T1 ⟨ys,a,n,l⟩) (B3 (n+1)) b l true wp) else none)
  else (bif A0b q ⟨ys,a,n,l⟩ then K (.m (T1 ⟨ys,a,n,l⟩) (B3 (n+1)) b l false wp) else none))
 else (bif F2 (B3 (Int.tdiv (B3 (b - a)) 8)) (B3 (b - n)) then (bif A0b q ⟨ys,B3 (n+1),b,l⟩ then K (.m (T1 ⟨ys,B3 (n+1),b,l⟩) a n l true wp) else none)
  else (bif A0b q ⟨ys,B3 (n+1),b,l⟩ then K (.m (T1 ⟨ys,B3 (n+1),b,l⟩) a n l false wp) else none))
def B63 (q:Nat) (R:Type) (K:S5→Option R) (xs:List V) (a b l p:Int):Option R :=
 bif A4W ⟨xs,a,b,p⟩ then (bif A0G ⟨xs,a,b,p⟩ then B2R q R K (A5L ⟨xs,a,b,p⟩) (A5M ⟨xs,a,b,p⟩) a b l true else B2R q R K (A5L ⟨xs,a,b,p⟩) (A5M ⟨xs,a,b,p⟩) a b l false) else none
def A3J (q:Nat) (R:Type) (K:S5→Option R) (xs:List V) (a b l p:Int) (wb wp:Bool):Option R :=
 bif D4 0 a then A3w xs (B3 (a - 1)) p (B63 q R K xs a b l p) (bif A4W ⟨xs,a,b,p⟩ then K (.m (A5J ⟨xs,a,b,p⟩) (A5K ⟨xs,a,b,p⟩) b l wb wp) else none) else B63 q R K xs a b l p
def B2S (q:Nat) (R:Type) (K:S5→Option R) (kx:A4s→Option R) (xs:List V) (a b l p:Int) (wb wp:Bool):Option R :=
 bif A2l ⟨xs,a,b,0⟩ then (bif A5I ⟨xs,a,b,0⟩ then kx (.r (A36 ⟨xs,a,b,0⟩) a b l wb wp) else A3J q R K (A36 ⟨xs,a,b,0⟩) a b l p wb wp) else none
def A2L (q:Nat) (R:Type) (K:S5→Option R) (kx:A4s→Option R) (xs:List V) (a b l:Int) (wb wp:Bool):Option R :=
 bif A2l ⟨xs,a,b,0⟩ then (bif Y6 (A5N ⟨xs,a,b,0⟩) 2 then
  (bif A2l ⟨xs,a,b,0⟩ then (bif wb then (bif wp then B2S q R K kx (A3G ⟨xs,a,b,0⟩) a b l (B3 (B3 (b - 1) - B3 (A1Q ⟨xs,a,b,0⟩ - a))) wb wp
    else A3J q R K (A3G ⟨xs,a,b,0⟩) a b l (B3 (B3 (b - 1) - B3 (A1Q ⟨xs,a,b,0⟩ - a))) wb wp)
   else A3J q R K (A3G ⟨xs,a,b,0⟩) a b l (B3 (B3 (b - 1) - B3 (A1Q ⟨xs,a,b,0⟩ - a))) wb wp) else none)
  else (bif wb then (bif wp then (bif Y6 (A5N ⟨xs,a,b,0⟩) 1 then B2S q R K kx xs a b l (A1Q ⟨xs,a,b,0⟩) wb wp else A3J q R K xs a b l (A1Q ⟨xs,a,b,0⟩) wb wp)
    else A3J q R K xs a b l (A1Q ⟨xs,a,b,0⟩) wb wp)
   else A3J q R K xs a b l (A1Q ⟨xs,a,b,0⟩) wb wp)) else none
def U6 (q:Nat) (R:Type) (p:S5) (K:S5→Option R) (kx:A4s→Option R):Option R:=match p with
 | .m xs a b l wb wp=>bif F2 (B3 (b - a)) 12 then (bif A03 ⟨xs,a,b,0⟩ then kx (.r (A5F ⟨xs,a,b,0⟩) a b l wb wp) else none) else
  bif Y6 l 0 then (bif A03 ⟨xs,a,b,0⟩ then kx (.r (A5G ⟨xs,a,b,0⟩) a b l wb wp) else none) else
  bif wb then A2L q R K kx xs a b l wb wp else (bif A03 ⟨xs,a,b,0⟩ then A2L q R K kx (A5H ⟨xs,a,b,0⟩) a b (B3 (l - 1)) wb wp else none)
theorem A9L {d:Array V} {a b:Nat} (h1:a≤b) (h2:b≤d.size):(insertionSort A8 d a b).size=d.size:=(insertionSort_holds A0L d a b h1 h2).1.1
theorem B8A {d:Array V} {a b:Nat} (h1:a≤b) (h2:b≤d.size):(heapSort A8 d a b).size=d.size:=(heapSort_holds A0L d a b h1 h2).1.1
theorem A5a {d:Array V} {a b:Nat} (h1:a≤b) (h2:b≤d.size):(reverseRange d a b).size=d.size:=(reverseRange_holds d a b h1 h2).1
theorem A5b {d:Array V} {a b:Nat} (h1:a≤b) (h2:b≤d.size):(breakPatterns d a b).size=d.size:=(breakPatterns_holds d a b h1 h2).1
theorem A9M {d:Array V} {a b c:Nat} (h1:a≤c) (h2:c < b) (h3:b≤d.size):(partition A8 d a b c).2.2.size=d.size:=(partition_holds A8 A0L d a b c h1 h2 h3).2.2.1.1
theorem B1C {d:Array V} {a b c:Nat} (h1:a≤c) (h2:c < b) (h3:b≤d.size):a≤(partition A8 d a b c).1∧(partition A8 d a b c).1 < b:=⟨(partition_holds A8 A0L d a b c h1 h2 h3).1,(partition_holds A8 A0L d a b c h1 h2 h3).2.1⟩
theorem A5c (a b:Nat):∀ (s i:Nat) (d:Array V),(partialIns A8 a b s i d).1.size=d.size:=by
 intro s
 induction s with
 | zero=>intro i d;rfl
 | succ s ih =>
  intro i d
  rw [partialIns]
  simp only
  split
  ·rfl
  ·split
   ·rfl
   ·rw [ih]
    have s1:(if scanSorted A8 d b i - a ≥ 2 then shiftDown A8 (scanSorted A8 d b i - 1) (swp d (scanSorted A8 d b i) (scanSorted A8 d b i - 1)) else swp d (scanSorted A8 d b i) (scanSorted A8 d b i - 1)).size=d.size:=by
     split
     ·rw [A2H,C0]
     ·rw [C0]
    generalize (if scanSorted A8 d b i - a ≥ 2 then shiftDown A8 (scanSorted A8 d b i - 1) (swp d (scanSorted A8 d b i) (scanSorted A8 d b i - 1)) else swp d (scanSorted A8 d b i) (scanSorted A8 d b i - 1))=d2 at s1 ⊢
    split
    ·rw [A1C b b _ _ (by omega),s1]
    ·exact s1
theorem A5d {d:Array V} {a b:Nat}:(partialInsertionSort A8 d a b).1.size=d.size:=A5c a b 5 (a+1) d
theorem A7z (a b:Nat):∀ (m i j:Nat) (d:Array V),j+1 - i≤m→j+1≤b→i≤b→i≤(partEqLoop A8 a i j d).1∧(partEqLoop A8 a i j d).1≤b∧(partEqLoop A8 a i j d).2.size=d.size:=by
 intro m
 have hup:∀ (d:Array V) (j i:Nat),j+1≤b→i≤b→scanUp (fun x=>!A8 d[a]! x) d j i≤b:=by
  intro d j i hj hi
  have:∀ (m i:Nat),j+1 - i≤m→i≤b→scanUp (fun x=>!A8 d[a]! x) d j i≤b:=by
   intro m
   induction m with
   | zero=>intro i h1 h2;rw [scanUp,if_neg (by simp;omega)];exact h2
   | succ m ih =>
    intro i h1 h2
    rw [scanUp]
    split
    ·rename_i h;simp at h;exact ih (i+1) (by omega) (by omega)
    ·exact h2
  exact this _ i (Nat.le_refl _) hi
 induction m with
 | zero =>
  intro i j d hm hj hi
  have h1:=scanUp_ge (fun x=>!A8 d[a]! x) d j i
  have h2:=hup d j i hj hi
  have h3:=scanDown_le (fun x=>A8 d[a]! x) d (scanUp (fun x=>!A8 d[a]! x) d j i) j
  rw [partEqLoop]
  split
  ·exact ⟨h1,h2,rfl⟩
  ·rw [dif_neg (by omega)];exact ⟨h1,h2,rfl⟩
 | succ m ih =>
  intro i j d hm hj hi
  have h1:=scanUp_ge (fun x=>!A8 d[a]! x) d j i
  have h2:=hup d j i hj hi
  have h3:=scanDown_le (fun x=>A8 d[a]! x) d (scanUp (fun x=>!A8 d[a]! x) d j i) j
  rw [partEqLoop]
  split
  ·exact ⟨h1,h2,rfl⟩
  ·split
   ·rename_i h4 h5
    obtain ⟨g1,g2,g3⟩:=ih (scanUp (fun x=>!A8 d[a]! x) d j i+1) (scanDown (fun x=>A8 d[a]! x) d (scanUp (fun x=>!A8 d[a]! x) d j i) j - 1) (swp d (scanUp (fun x=>!A8 d[a]! x) d j i) (scanDown (fun x=>A8 d[a]! x) d (scanUp (fun x=>!A8 d[a]! x) d j i) j)) (by omega) (by omega) (by omega)
    exact ⟨by omega,g2,by rw [g3,C0]⟩
   ·exact ⟨h1,h2,rfl⟩
theorem B1D {d:Array V} {a b c:Nat} (h1:a≤c) (h2:c < b):a < (partitionEqual A8 d a b c).1∧(partitionEqual A8 d a b c).1≤b∧(partitionEqual A8 d a b c).2.size=d.size:=by
 obtain ⟨g1,g2,g3⟩:=A7z a b _ (a+1) (b - 1) (swp d a c) (Nat.le_refl _) (by omega) (by omega)
 exact ⟨by show a < (partEqLoop A8 a (a+1) (b - 1) (swp d a c)).1;omega,g2,by show (partEqLoop A8 a (a+1) (b - 1) (swp d a c)).2.size=_;rw [g3,C0]⟩
def B46 (a b:Nat) (d:Array V) (p l:Nat) (wb wp:Bool):Array V :=
 if (decide (a > 0)&&!A8 d[a - 1]! d[p]!)=true then pdq A8 (partitionEqual A8 d a b p).2 (partitionEqual A8 d a b p).1 b l wb wp
 else if (partition A8 d a b p).1 - a < b - (partition A8 d a b p).1 then
  pdq A8 (pdq A8 (partition A8 d a b p).2.2 a (partition A8 d a b p).1 l true true) ((partition A8 d a b p).1+1) b l (decide ((partition A8 d a b p).1 - a ≥ (b - a) / 8)) (partition A8 d a b p).2.1
 else pdq A8 (pdq A8 (partition A8 d a b p).2.2 ((partition A8 d a b p).1+1) b l true true) a (partition A8 d a b p).1 l (decide (b - (partition A8 d a b p).1 ≥ (b - a) / 8)) (partition A8 d a b p).2.1
def B8B (a b:Nat) (d:Array V) (l:Nat) (wb wp:Bool):Array V :=
 let c:=choosePivot A8 d a b
 let d2:=if c.2=.decreasing then reverseRange d a b else d
 let p:=if c.2=.decreasing then (b - 1) - (c.1 - a) else c.1
 let h:=if c.2=.decreasing then Hint.increasing else c.2
 let pi:=if (wb&&wp&&decide (h=.increasing))=true then partialInsertionSort A8 d2 a b else (d2,false)
 if pi.2=true then pi.1 else B46 a b pi.1 p l wb wp
theorem B1E {d:Array V} {a b:Nat} (h:a < b):a≤(choosePivot A8 d a b).1∧(choosePivot A8 d a b).1 < b:=choosePivot_holds A8 d a b h
theorem A9N {d:Array V} {a b l:Nat} {wb wp:Bool} (h1:a < b) (h2:b≤d.size):pdq A8 d a b l wb wp =
  if b - a≤12 then insertionSort A8 d a b else if l=0 then heapSort A8 d a b else
  B8B a b (if (!wb)=true then breakPatterns d a b else d) (if (!wb)=true then l - 1 else l) wb wp:=by
 rw [pdq]
 split
 ·rfl
 ·split
  ·rfl
  ·have e1:(if (!wb)=true then breakPatterns d a b else d).size=d.size:=by split;exact A5b (by omega) h2;rfl
   generalize (if (!wb)=true then breakPatterns d a b else d)=d1 at e1 ⊢
   generalize (if (!wb)=true then l - 1 else l)=l1
   have hc:=B1E (d:=d1) h1
   have e2:(if (choosePivot A8 d1 a b).2=.decreasing then reverseRange d1 a b else d1).size=d.size:=by split;rw [A5a (by omega) (by omega),e1];exact e1
   have hp:a≤(if (choosePivot A8 d1 a b).2=.decreasing then (b - 1) - ((choosePivot A8 d1 a b).1 - a) else (choosePivot A8 d1 a b).1)∧(if (choosePivot A8 d1 a b).2=.decreasing then (b - 1) - ((choosePivot A8 d1 a b).1 - a) else (choosePivot A8 d1 a b).1) < b:=by split<;>omega
   simp only [B8B]
   generalize (if (choosePivot A8 d1 a b).2=.decreasing then reverseRange d1 a b else d1)=d2 at e2 ⊢
   generalize (if (choosePivot A8 d1 a b).2=.decreasing then (b - 1) - ((choosePivot A8 d1 a b).1 - a) else (choosePivot A8 d1 a b).1)=p at hp ⊢
   generalize (if (choosePivot A8 d1 a b).2=.decreasing then Hint.increasing else (choosePivot A8 d1 a b).2)=h
   have e3:(if (wb&&wp&&decide (h=.increasing))=true then partialInsertionSort A8 d2 a b else (d2,false)).1.size=d.size:=by split;rw [A5d,e2];exact e2
   generalize (if (wb&&wp&&decide (h=.increasing))=true then partialInsertionSort A8 d2 a b else (d2,false))=pi at e3 ⊢
   split
   ·rfl
   ·simp only [B46]
    split
    ·obtain ⟨g1,g2,g3⟩:=B1D (d:=pi.1) hp.1 hp.2
     rw [dif_pos ⟨g1,g2⟩]
    ·obtain ⟨g1,g2⟩:=B1C (d:=pi.1) hp.1 hp.2 (by omega)
     rw [dif_pos ⟨g1,g2⟩]
end
noncomputable section
open Go.RowKit Go.Sort
variable {R:Type}
theorem B8C {N:Nat} (ih:∀ (a b l:Nat) (wb wp:Bool) (d:Array V),b - a≤N→a≤b→b≤d.size→(pdq A8 d a b l wb wp).size=d.size) {a b p l:Nat} {wb wp:Bool} {d:Array V} (hm:b - a≤N+1) (h1:a≤p) (h2:p < b) (h3:b≤d.size) :
  (B46 a b d p l wb wp).size=d.size:=by
 unfold B46
 split
 ·obtain ⟨g1,g2,g3⟩:=B1D (d:=d) h1 h2
  rw [ih _ _ _ _ _ _ (by omega) g2 (by omega),g3]
 ·obtain ⟨g1,g2⟩:=B1C (d:=d) h1 h2 h3
  have g3:=A9M (d:=d) h1 h2 h3
  split
  ·have e:=ih a (partition A8 d a b p).1 l true true (partition A8 d a b p).2.2 (by omega) g1 (by omega)
   rw [ih _ _ _ _ _ _ (by omega) (by omega) (by omega),e,g3]
  ·have e:=ih ((partition A8 d a b p).1+1) b l true true (partition A8 d a b p).2.2 (by omega) (by omega) (by omega)
   rw [ih _ _ _ _ _ _ (by omega) (by omega) (by omega),e,g3]
theorem B8D {N:Nat} (ih:∀ (a b l:Nat) (wb wp:Bool) (d:Array V),b - a≤N→a≤b→b≤d.size→(pdq A8 d a b l wb wp).size=d.size) {a b l:Nat} {wb wp:Bool} {d:Array V} (hm:b - a≤N+1) (h1:a < b) (h3:b≤d.size) :
  (B8B a b d l wb wp).size=d.size:=by
 unfold B8B
 have hc:=B1E (d:=d) h1
 have e2:(if (choosePivot A8 d a b).2=.decreasing then reverseRange d a b else d).size=d.size:=by split;rw [A5a (by omega) (by omega)];rfl
 have hp:a≤(if (choosePivot A8 d a b).2=.decreasing then (b - 1) - ((choosePivot A8 d a b).1 - a) else (choosePivot A8 d a b).1)∧(if (choosePivot A8 d a b).2=.decreasing then (b - 1) - ((choosePivot A8 d a b).1 - a) else (choosePivot A8 d a b).1) < b:=by split<;>omega
 simp only
 generalize (if (choosePivot A8 d a b).2=.decreasing then reverseRange d a b else d)=d2 at e2 ⊢
 generalize (if (choosePivot A8 d a b).2=.decreasing then (b - 1) - ((choosePivot A8 d a b).1 - a) else (choosePivot A8 d a b).1)=p at hp ⊢
 generalize (if (choosePivot A8 d a b).2=.decreasing then Hint.increasing else (choosePivot A8 d a b).2)=h
 have e3:(if (wb&&wp&&decide (h=.increasing))=true then partialInsertionSort A8 d2 a b else (d2,false)).1.size=d.size:=by split;rw [A5d,e2];exact e2
 generalize (if (wb&&wp&&decide (h=.increasing))=true then partialInsertionSort A8 d2 a b else (d2,false))=pi at e3 ⊢
 split
 ·exact e3
 ·rw [B8C ih hm hp.1 hp.2 (by omega),e3]
theorem A9O:∀ (m a b l:Nat) (wb wp:Bool) (d:Array V),b - a≤m→a≤b→b≤d.size→(pdq A8 d a b l wb wp).size=d.size:=by
 intro m
 induction m with
 | zero =>
  intro a b l wb wp d hm hab hb
  rw [pdq,if_pos (by omega),A9L hab hb]
 | succ m ih =>
  intro a b l wb wp d hm hab hb
  by_cases h0:b - a≤12
  ·rw [pdq,if_pos h0,A9L hab hb]
  ·rw [A9N (by omega) hb,if_neg h0]
   split
   ·rw [B8A hab hb]
   ·have e1:(if (!wb)=true then breakPatterns d a b else d).size=d.size:=by split;exact A5b (by omega) hb;rfl
    rw [B8D ih hm (by omega) (by omega),e1]
section
variable {d:Array V} {a b c:Nat}
theorem A11 (h1:a≤b) (h2:b≤d.size) (h3:d.size≤1000000) {x:Int}:A03 ⟨B6 d,a,b,x⟩=true:=by
 simp only [A03,A6S h3,Bool.and_true,D5V,D3,Q5]
 refine ⟨?_,?_,?_⟩<;>omega
theorem A7A (h1:a < b) (h2:b≤d.size) (h3:d.size≤1000000) {x:Int}:A2l ⟨B6 d,a,b,x⟩=true:=by
 simp only [A2l,A11 (Nat.le_of_lt h1) h2 h3,Bool.and_true,H8]
 omega
theorem B2T (h1:a≤c) (h2:c < b) (h3:b≤d.size) (h4:d.size≤1000000):A4W ⟨B6 d,a,b,c⟩=true:=by
 simp only [A4W,A11 (show a≤b by omega) h3 h4,Bool.and_true,D5V,H8,D3]
 refine ⟨?_,?_⟩<;>omega
theorem A7B {q:Nat} (h0:b - a < q) (h1:a≤b) (h2:b≤d.size) (h3:d.size≤1000000) (h4:c≤1000000):A0b q ⟨B6 d,a,b,c⟩=true:=by
 simp only [A0b,A11 h1 h2 h3,Bool.and_true,D5V,H8,D3]
 refine ⟨?_,?_,?_⟩<;>omega
theorem C3g {x:Int}:A5F ⟨B6 d,a,b,x⟩=B6 (insertionSort A8 d a b):=by rw [A5F,E2];simp only [Z5.d,L3,Int.toNat_natCast]
theorem C3h {x:Int}:A5G ⟨B6 d,a,b,x⟩=B6 (heapSort A8 d a b):=by rw [A5G,E2];simp only [Z5.d,L3,Int.toNat_natCast]
theorem A7C {x:Int}:A3G ⟨B6 d,a,b,x⟩=B6 (reverseRange d a b):=by rw [A3G,E2];simp only [Z5.d,L3,Int.toNat_natCast]
theorem C3i {x:Int}:A5H ⟨B6 d,a,b,x⟩=B6 (breakPatterns d a b):=by rw [A5H,E2];simp only [Z5.d,L3,Int.toNat_natCast]
theorem B2U {x:Int}:A36 ⟨B6 d,a,b,x⟩=B6 (partialInsertionSort A8 d a b).1:=by rw [A36,E2];simp only [Z5.d,L3,Int.toNat_natCast]
theorem B2V {x:Int}:A5I ⟨B6 d,a,b,x⟩=(partialInsertionSort A8 d a b).2:=by rw [A5I,E2];simp only [Z5.d,L3,Int.toNat_natCast]
theorem C3j:A5J ⟨B6 d,a,b,c⟩=B6 (partitionEqual A8 d a b c).2:=by rw [A5J,E2];simp only [Z5.d,L3,Int.toNat_natCast]
theorem C3k:A5K ⟨B6 d,a,b,c⟩=((partitionEqual A8 d a b c).1:Nat):=by rw [A5K,E2];simp only [Z5.d,L3,Int.toNat_natCast]
theorem C3l:A5L ⟨B6 d,a,b,c⟩=B6 (partition A8 d a b c).2.2:=by rw [A5L,E2];simp only [Z5.d,L3,Int.toNat_natCast]
theorem C3m:A0G ⟨B6 d,a,b,c⟩=(partition A8 d a b c).2.1:=by rw [A0G,E2];simp only [Z5.d,L3,Int.toNat_natCast]
theorem C3n:A5M ⟨B6 d,a,b,c⟩=((partition A8 d a b c).1:Nat):=by rw [A5M,E2];simp only [Z5.d,L3,Int.toNat_natCast]
theorem A1c {x:Int}:A1Q ⟨B6 d,a,b,x⟩=((choosePivot A8 d a b).1:Nat):=by rw [A1Q,E2];simp only [Z5.d,L3,Int.toNat_natCast]
theorem A1d {x:Int}:A5N ⟨B6 d,a,b,x⟩=match (choosePivot A8 d a b).2 with | .unknown=>0 | .increasing=>1 | .decreasing=>2:=by rw [A5N,E2];simp only [Z5.d,L3,Int.toNat_natCast];cases (choosePivot A8 d a b).2<;>rfl
theorem A4t:T1 ⟨B6 d,a,b,c⟩=B6 (pdq A8 d a b c true true):=by rw [T1,E2];simp only [Z5.d,L3,Int.toNat_natCast]
end
def A5R (R:Type) (f:(A4s→Option R)→Option R) (d:Array V):Prop:=∃ (a' b' l':Int) (wb' wp':Bool),∀ kx,f kx=kx (.r (B6 d) a' b' l' wb' wp')
section
variable {q L N n:Nat} (hL:L≤2 * q) (ih:∀ (a b l:Nat) (wb wp:Bool) (d:Array V),b - a≤N→a≤b→b≤d.size→d.size≤1000000→b - a < L→l≤1000000→A5R R (fun kx=>C8 (U6 q R) n (.m (B6 d) a b l wb wp) kx) (pdq A8 d a b l wb wp))
include hL ih
theorem B8E {d:Array V} {a b l mid:Nat} {wp:Bool} (hm:b - a≤N+1) (hl:b - a < L) (h1:a≤mid) (h2:mid < b) (hb:b≤d.size) (hs:d.size≤1000000) (hl2:l≤1000000) :
  A5R R (fun kx=>B2R q R (fun p=>C8 (U6 q R) n p kx) (B6 d) mid a b l wp)
   (if mid - a < b - mid then pdq A8 (pdq A8 d a mid l true true) (mid+1) b l (decide (mid - a ≥ (b - a) / 8)) wp
    else pdq A8 (pdq A8 d (mid+1) b l true true) a mid l (decide (b - mid ≥ (b - a) / 8)) wp):=by
 have w1:B3 ((mid:Int) - a)=((mid - a:Nat):Int):=F6 (by omega) (by omega)
 have w2:B3 ((b:Int) - mid)=((b - mid:Nat):Int):=F6 (by omega) (by omega)
 have w3:B3 ((mid:Int)+1)=((mid+1:Nat):Int):=F6 (by omega) (by omega)
 have w4:B3 (Int.tdiv (B3 ((b:Int) - a)) 8)=(((b - a) / 8:Nat):Int):=by
  rw [F6 (x:=(b:Int) - a) (n:=b - a) (by omega) (by omega),Int.tdiv_eq_ediv_of_nonneg (by omega)]
  exact F6 (by omega) (by omega)
 by_cases h3:mid - a < b - mid
 ·have es:=A9O _ a mid l true true d (Nat.le_refl _) h1 (by omega)
  have hg:A0b q ⟨B6 d,(a:Int),(mid:Int),(l:Int)⟩=true:=A7B (by omega) h1 (by omega) hs hl2
  obtain ⟨a',b',l',wb',wp',h4⟩:=ih (mid+1) b l (decide (mid - a ≥ (b - a) / 8)) wp (pdq A8 d a mid l true true) (by omega) (by omega) (by omega) (by omega) (by omega) hl2
  refine ⟨a',b',l',wb',wp',fun kx=>?_⟩
  have h4:=h4 kx
  rw [if_pos h3]
  simp only [B2R,w1,w2,w3,w4,F0,E0,hg,A4t,cond_true]
  rw [decide_eq_true (show ((mid - a:Nat):Int) < ((b - mid:Nat):Int) by omega),cond_true]
  by_cases h5:mid - a ≥ (b - a) / 8
  ·rw [decide_eq_true (show (((b - a) / 8:Nat):Int)≤((mid - a:Nat):Int) by omega),cond_true]
   rw [decide_eq_true h5] at h4 ⊢
   exact h4
  ·rw [decide_eq_false (show ¬ (((b - a) / 8:Nat):Int)≤((mid - a:Nat):Int) by omega),cond_false]
   rw [decide_eq_false h5] at h4 ⊢
   exact h4
 ·have es:=A9O _ (mid+1) b l true true d (Nat.le_refl _) (by omega) (by omega)
  have hg:A0b q ⟨B6 d,((mid+1:Nat):Int),(b:Int),(l:Int)⟩=true:=A7B (by omega) (by omega) (by omega) hs hl2
  obtain ⟨a',b',l',wb',wp',h4⟩:=ih a mid l (decide (b - mid ≥ (b - a) / 8)) wp (pdq A8 d (mid+1) b l true true) (by omega) (by omega) (by omega) (by omega) (by omega) hl2
  refine ⟨a',b',l',wb',wp',fun kx=>?_⟩
  have h4:=h4 kx
  rw [if_neg h3]
  simp only [B2R,w1,w2,w3,w4,F0,E0,hg,A4t,cond_true]
  rw [decide_eq_false (show ¬ ((mid - a:Nat):Int) < ((b - mid:Nat):Int) by omega),cond_false]
  by_cases h5:b - mid ≥ (b - a) / 8
  ·rw [decide_eq_true (show (((b - a) / 8:Nat):Int)≤((b - mid:Nat):Int) by omega),cond_true]
   rw [decide_eq_true h5] at h4 ⊢
   exact h4
  ·rw [decide_eq_false (show ¬ (((b - a) / 8:Nat):Int)≤((b - mid:Nat):Int) by omega),cond_false]
   rw [decide_eq_false h5] at h4 ⊢
   exact h4
theorem A5e {d:Array V} {a b l p:Nat} {wb wp:Bool} (hm:b - a≤N+1) (hl:b - a < L) (h1:a≤p) (h2:p < b) (hb:b≤d.size) (hs:d.size≤1000000) (hl2:l≤1000000) :
  A5R R (fun kx=>A3J q R (fun p=>C8 (U6 q R) n p kx) (B6 d) a b l p wb wp) (B46 a b d p l wb wp):=by
 obtain ⟨g1,g2⟩:=B1C (d:=d) h1 h2 hb
 have g3:=A9M (d:=d) h1 h2 hb
 have hP:A5R R (fun kx=>B63 q R (fun p=>C8 (U6 q R) n p kx) (B6 d) a b l p)
   (if (partition A8 d a b p).1 - a < b - (partition A8 d a b p).1 then
    pdq A8 (pdq A8 (partition A8 d a b p).2.2 a (partition A8 d a b p).1 l true true) ((partition A8 d a b p).1+1) b l (decide ((partition A8 d a b p).1 - a ≥ (b - a) / 8)) (partition A8 d a b p).2.1
   else pdq A8 (pdq A8 (partition A8 d a b p).2.2 ((partition A8 d a b p).1+1) b l true true) a (partition A8 d a b p).1 l (decide (b - (partition A8 d a b p).1 ≥ (b - a) / 8)) (partition A8 d a b p).2.1):=by
  obtain ⟨a',b',l',wb',wp',h4⟩:=B8E hL ih (d:=(partition A8 d a b p).2.2) (wp:=(partition A8 d a b p).2.1) hm hl g1 g2 (by omega) (by omega) hl2
  refine ⟨a',b',l',wb',wp',fun kx=>?_⟩
  have h4:=h4 kx
  simp only [B63,B2T h1 h2 hb hs,cond_true,C3m,C3l,C3n]
  cases hpb:(partition A8 d a b p).2.1 with
  | true=>rw [hpb] at h4;exact h4
  | false=>rw [hpb] at h4;exact h4
 unfold B46
 by_cases ha:a > 0
 ·have w1:B3 ((a:Int) - 1)=((a - 1:Nat):Int):=F6 (by omega) (by omega)
  cases hlt:A8 d[a - 1]! d[p]! with
  | true =>
   rw [if_neg (by simp)]
   obtain ⟨a',b',l',wb',wp',h4⟩:=hP
   refine ⟨a',b',l',wb',wp',fun kx=>?_⟩
   simp only [A3J]
   rw [F0,decide_eq_true (by omega),cond_true,w1,J1 rfl rfl (by omega) (by omega),hlt,cond_true]
   exact h4 kx
  | false =>
   rw [if_pos (by simp [ha])]
   obtain ⟨e1,e2,e3⟩:=B1D (d:=d) h1 h2
   obtain ⟨a',b',l',wb',wp',h4⟩:=ih (partitionEqual A8 d a b p).1 b l wb wp (partitionEqual A8 d a b p).2 (by omega) e2 (by omega) (by omega) (by omega) hl2
   refine ⟨a',b',l',wb',wp',fun kx=>?_⟩
   simp only [A3J]
   rw [F0,decide_eq_true (by omega),cond_true,w1,J1 rfl rfl (by omega) (by omega),hlt,cond_false,B2T h1 h2 hb hs,cond_true,C3j,C3k]
   exact h4 kx
 ·rw [if_neg (by simp;omega)]
  obtain ⟨a',b',l',wb',wp',h4⟩:=hP
  refine ⟨a',b',l',wb',wp',fun kx=>?_⟩
  simp only [A3J]
  rw [F0,decide_eq_false (by omega),cond_false]
  exact h4 kx
theorem A9P {d:Array V} {a b l p:Nat} {wb wp:Bool} (hm:b - a≤N+1) (hl:b - a < L) (h1:a≤p) (h2:p < b) (hb:b≤d.size) (hs:d.size≤1000000) (hl2:l≤1000000) :
  A5R R (fun kx=>B2S q R (fun p=>C8 (U6 q R) n p kx) kx (B6 d) a b l p wb wp) (if (partialInsertionSort A8 d a b).2=true then (partialInsertionSort A8 d a b).1 else B46 a b (partialInsertionSort A8 d a b).1 p l wb wp):=by
 have e:=A5d (d:=d) (a:=a) (b:=b)
 cases hp:(partialInsertionSort A8 d a b).2 with
 | true =>
  rw [if_pos rfl]
  refine ⟨a,b,l,wb,wp,fun kx=>?_⟩
  simp only [B2S,A7A (show a < b by omega) hb hs,cond_true,B2V,hp,B2U]
 | false =>
  rw [if_neg (by simp)]
  obtain ⟨a',b',l',wb',wp',h4⟩:=A5e hL ih (d:=(partialInsertionSort A8 d a b).1) (wb:=wb) (wp:=wp) hm hl h1 h2 (by omega) (by omega) hl2
  refine ⟨a',b',l',wb',wp',fun kx=>?_⟩
  simp only [B2S,A7A (show a < b by omega) hb hs,cond_true,B2V,hp,B2U,cond_false]
  exact h4 kx
theorem A9Q {d:Array V} {a b l:Nat} {wb wp:Bool} (hm:b - a≤N+1) (hl:b - a < L) (h1:a < b) (hb:b≤d.size) (hs:d.size≤1000000) (hl2:l≤1000000) :
  A5R R (fun kx=>A2L q R (fun p=>C8 (U6 q R) n p kx) kx (B6 d) a b l wb wp) (B8B a b d l wb wp):=by
 obtain ⟨c1,c2⟩:=B1E (d:=d) h1
 have hg:A2l ⟨B6 d,(a:Int),(b:Int),0⟩=true:=A7A h1 hb hs
 unfold B8B
 simp only
 by_cases hd:(choosePivot A8 d a b).2=.decreasing
 ·have hp:B3 (B3 ((b:Int) - 1) - B3 (((choosePivot A8 d a b).1:Nat) - (a:Int)))=(((b - 1) - ((choosePivot A8 d a b).1 - a):Nat):Int):=by
   rw [F6 (x:=(b:Int) - 1) (n:=b - 1) (by omega) (by omega),F6 (x:=(((choosePivot A8 d a b).1:Nat):Int) - a) (n:=(choosePivot A8 d a b).1 - a) (by omega) (by omega)]
   exact F6 (by omega) (by omega)
  have e:=A5a (d:=d) (a:=a) (b:=b) (by omega) hb
  simp only [hd,if_true]
  have H4:=A5e hL ih (d:=reverseRange d a b) (p:=(b - 1) - ((choosePivot A8 d a b).1 - a)) (l:=l) (wb:=wb) (wp:=wp) hm hl (by omega) (by omega) (by omega) (by omega) hl2
  have HQ:=A9P hL ih (d:=reverseRange d a b) (p:=(b - 1) - ((choosePivot A8 d a b).1 - a)) (l:=l) (wb:=wb) (wp:=wp) hm hl (by omega) (by omega) (by omega) (by omega) hl2
  cases wb with
  | false =>
   obtain ⟨a',b',l',wb',wp',h4⟩:=H4
   refine ⟨a',b',l',wb',wp',fun kx=>?_⟩
   simp only [A2L,hg,cond_true,A1d,hd,A0P rfl,A7C,A1c,hp,cond_false]
   exact h4 kx
  | true =>
   cases wp with
   | false =>
    obtain ⟨a',b',l',wb',wp',h4⟩:=H4
    refine ⟨a',b',l',wb',wp',fun kx=>?_⟩
    simp only [A2L,hg,cond_true,A1d,hd,A0P rfl,A7C,A1c,hp,cond_false]
    exact h4 kx
   | true =>
    obtain ⟨a',b',l',wb',wp',h4⟩:=HQ
    refine ⟨a',b',l',wb',wp',fun kx=>?_⟩
    simp only [A2L,hg,cond_true,A1d,hd,A0P rfl,A7C,A1c,hp,cond_false]
    exact h4 kx
 ·simp only [hd,if_false]
  have H4:=A5e hL ih (d:=d) (p:=(choosePivot A8 d a b).1) (l:=l) (wb:=wb) (wp:=wp) hm hl (by omega) (by omega) (by omega) (by omega) hl2
  have HQ:=A9P hL ih (d:=d) (p:=(choosePivot A8 d a b).1) (l:=l) (wb:=wb) (wp:=wp) hm hl (by omega) (by omega) (by omega) (by omega) hl2
  have hh:Y6 (match (choosePivot A8 d a b).2 with | .unknown=>0 | .increasing=>1 | .decreasing=>2) 2=false:=by
   cases hc:(choosePivot A8 d a b).2 with
   | unknown=>rfl
   | increasing=>rfl
   | decreasing=>exact absurd hc hd
  cases wb with
  | false =>
   obtain ⟨a',b',l',wb',wp',h4⟩:=H4
   refine ⟨a',b',l',wb',wp',fun kx=>?_⟩
   simp only [A2L,hg,cond_true,A1d,A1c,cond_false]
   rw [hh,cond_false]
   exact h4 kx
  | true =>
   cases wp with
   | false =>
    obtain ⟨a',b',l',wb',wp',h4⟩:=H4
    refine ⟨a',b',l',wb',wp',fun kx=>?_⟩
    simp only [A2L,hg,cond_true,A1d,A1c,cond_false]
    rw [hh,cond_false]
    exact h4 kx
   | true =>
    by_cases hi:(choosePivot A8 d a b).2=.increasing
    ·rw [if_pos (show (true&&true&&decide ((choosePivot A8 d a b).2=.increasing))=true by simp [hi])]
     obtain ⟨a',b',l',wb',wp',h4⟩:=HQ
     refine ⟨a',b',l',wb',wp',fun kx=>?_⟩
     simp only [A2L,hg,cond_true,A1d,A1c,cond_false]
     rw [hh,cond_false]
     simp only [hi]
     exact h4 kx
    ·rw [if_neg (show ¬ (true&&true&&decide ((choosePivot A8 d a b).2=.increasing))=true by simp [hi])]
     obtain ⟨a',b',l',wb',wp',h4⟩:=H4
     have hu:(choosePivot A8 d a b).2=.unknown:=by
      cases hc:(choosePivot A8 d a b).2 with
      | unknown=>rfl
      | increasing=>exact absurd hc hi
      | decreasing=>exact absurd hc hd
     refine ⟨a',b',l',wb',wp',fun kx=>?_⟩
     simp only [A2L,hg,cond_true,A1d,A1c,cond_false]
     rw [hh,cond_false]
     simp only [hu]
     exact h4 kx
end
theorem C3o {q L:Nat} (hL:L≤2 * q∨L≤13):∀ (m n a b l:Nat) (wb wp:Bool) (d:Array V),b - a≤m→m < n→a≤b→b≤d.size→d.size≤1000000→b - a < L→l≤1000000 →
  A5R R (fun kx=>C8 (U6 q R) n (.m (B6 d) a b l wb wp) kx) (pdq A8 d a b l wb wp):=by
 intro m
 have small:∀ (n a b l:Nat) (wb wp:Bool) (d:Array V),0 < n→b - a≤12→a≤b→b≤d.size→d.size≤1000000→A5R R (fun kx=>C8 (U6 q R) n (.m (B6 d) a b l wb wp) kx) (pdq A8 d a b l wb wp):=by
  intro n a b l wb wp d hn h0 hab hb hs
  obtain ⟨n,rfl⟩:∃ m,n=m+1:=⟨n - 1,by omega⟩
  refine ⟨a,b,l,wb,wp,fun kx=>?_⟩
  simp only
  rw [C8,U6,F6 (x:=(b:Int) - a) (n:=b - a) (by omega) (by omega),E0,decide_eq_true (by omega),cond_true,A11 hab hb hs,cond_true,C3g,pdq,if_pos h0]
 induction m with
 | zero =>
  intro n a b l wb wp d hm hn hab hb hs hl hl2
  exact small n a b l wb wp d (by omega) (by omega) hab hb hs
 | succ m ih =>
  intro n a b l wb wp d hm hn hab hb hs hl hl2
  by_cases h0:b - a≤12
  ·exact small n a b l wb wp d (by omega) h0 hab hb hs
  ·have hL:L≤2 * q:=by omega
   obtain ⟨n,rfl⟩:∃ m,n=m+1:=⟨n - 1,by omega⟩
   have head:∀ kx,C8 (U6 q R) (n+1) (.m (B6 d) a b l wb wp) kx=bif Y6 (l:Int) 0 then (bif A03 ⟨B6 d,a,b,0⟩ then kx (.r (A5G ⟨B6 d,a,b,0⟩) a b l wb wp) else none) else
     bif wb then A2L q R (fun p=>C8 (U6 q R) n p kx) kx (B6 d) a b l wb wp else (bif A03 ⟨B6 d,a,b,0⟩ then A2L q R (fun p=>C8 (U6 q R) n p kx) kx (A5H ⟨B6 d,a,b,0⟩) a b (B3 ((l:Int) - 1)) wb wp else none):=by
    intro kx
    rw [C8,U6,F6 (x:=(b:Int) - a) (n:=b - a) (by omega) (by omega),E0,decide_eq_false (by omega),cond_false]
   rw [A9N (by omega) hb,if_neg h0]
   by_cases h00:l=0
   ·rw [if_pos h00]
    refine ⟨a,b,l,wb,wp,fun kx=>?_⟩
    simp only
    rw [head,A0P (by omega),cond_true,A11 hab hb hs,cond_true,C3h]
   ·rw [if_neg h00]
    have ih':=fun (a b l:Nat) (wb wp:Bool) (d:Array V) h1 h2 h3 h4 h5 h6=>ih n a b l wb wp d h1 (by omega) h2 h3 h4 h5 h6
    cases wb with
    | true =>
     obtain ⟨a',b',l',wb',wp',h4⟩:=A9Q hL ih' (d:=d) (l:=l) (wb:=true) (wp:=wp) hm hl (by omega) hb hs hl2
     refine ⟨a',b',l',wb',wp',fun kx=>?_⟩
     simp only
     rw [head,A2t (by omega),cond_false,cond_true]
     exact h4 kx
    | false =>
     have e:=A5b (d:=d) (a:=a) (b:=b) (by omega) hb
     obtain ⟨a',b',l',wb',wp',h4⟩:=A9Q hL ih' (d:=breakPatterns d a b) (l:=l - 1) (wb:=false) (wp:=wp) hm hl (by omega) (by omega) (by omega) (by omega)
     refine ⟨a',b',l',wb',wp',fun kx=>?_⟩
     simp only
     rw [head,A2t (by omega),cond_false,cond_false,A11 hab hb hs,cond_true,C3i,F6 (x:=(l:Int) - 1) (n:=l - 1) (by omega) (by omega)]
     exact h4 kx
def A9R (q:Nat) (R:Type) (xs:List V) (a b l:Int) (k:List V→Option R):Option R:=C8 (U6 q R) (A3 FU) (.m xs a b l true true) (fun | .r ys _ _ _ _ _=>k ys)
theorem A12 {q L:Nat} (hL:L≤2 * q∨L≤13) {xs:List V} {a b l:Int} (h:A0b L ⟨xs,a,b,l⟩=true) (k:List V→Option R):A9R q R xs a b l k=k (T1 ⟨xs,a,b,l⟩):=by
 simp only [A0b,D5V,H8,D3] at h
 obtain ⟨h1,h2,h3,h4⟩:=h
 obtain ⟨a',b',d,e1,e2,e3,e4,e5,e6,e7⟩:=A3g h4
 simp only at e1 e2 e3
 subst e1 e2 e3
 obtain ⟨l',rfl⟩:=Int.eq_ofNat_of_zero_le h2
 obtain ⟨_,_,_,_,_,h8⟩:=C3o (R:=R) hL b' (A3 FU) a' b' l' true true d (by omega) (R7 (by omega)) e5 e6 e7 (by omega) (by omega)
 rw [A4t]
 exact h8 _
end
open Go.RowKit Go.Sort
variable {R:Type}
theorem C7H {xs:List V} (h:(Nat.ble xs.length 200)=true) (f:List V→H9) :
  (ln xs.length <| bif A0b 208 ⟨xs,0,(xs.length:Nat),(Wd.blen (WU (xs.length:Nat)).toNat:Nat)⟩ then some (f (T1 ⟨xs,0,(xs.length:Nat),(Wd.blen (WU (xs.length:Nat)).toNat:Nat)⟩)) else none)=some (f (T1 ⟨xs,0,(xs.length:Nat),(bitsLen xs.length:Nat)⟩)):=by
 have hl:=D50 h
 have hb:bitsLen xs.length≤64:=(bitsLen_le_iff _ _).2 (by omega)
 have e:Wd.blen (WU (xs.length:Nat)).toNat=bitsLen xs.length:=by rw [C4 (by omega),Int.toNat_natCast];rfl
 have hs:(A1s xs).size=xs.length:=by simp [A1s]
 have hg:A0b 208 ⟨xs,0,(xs.length:Nat),(bitsLen xs.length:Nat)⟩=true:=by
  have:=A7B (d:=A1s xs) (a:=0) (b:=xs.length) (c:=bitsLen xs.length) (q:=208) (by omega) (by omega) (by omega) (by omega) (by omega)
  exact this
 rw [G3 (by omega),e,hg];rfl
theorem B47 (xs:List V):T1 ⟨xs,0,(xs.length:Nat),(bitsLen xs.length:Nat)⟩=(Go.Sort.sort A8 xs.toArray).toList:=by
 have:=A4t (d:=xs.toArray) (a:=0) (b:=xs.length) (c:=bitsLen xs.length)
 exact this
open Go.RowKit Go.Sort
variable {P:Program} {T:TT} {c:J8} {e eb:B4} {of of':Nat→Option Ob}
theorem B8F (h:A5 T c e of) {el sz:Nat} {w':World} {v:Value} {xs:List V} {ys:List Value} {nx:Nat} (hb:Below e.w.heap.size e.w w') (hu:¬ e.U nx) (hsz:B8 T el=sz) (h0:0 < sz) (hrow:w'.ownsRow e.w.heap.size el sz v xs.length ys) (hv:RV T e (List.replicate xs.length el) xs ys) (hnl:v=.slice none 0 0↔xs=[]) {ro:List Nat} :
  V2 T c e of nx ⟨.o nx 1,[(nx,.row el 1 xs xs.isEmpty false)],ro,nx+1⟩ v w':=by
 obtain ⟨hl,hc⟩:=hrow
 rcases hc with ⟨rfl,hn⟩ | ⟨g,cap,cur,rfl,hg,hgb,h1,h2,h3,h4⟩
 ·have hx:=hnl.1 rfl
  subst hx
  obtain ⟨q1,q2⟩:=h.below hb
  have hu':¬ ({ e with w:=w' }:B4).U nx:=hu
  have q3:=q1.nil (el:=el) hu' (nl:=true) rfl (by omega)
  refine ⟨B4.nil { e with w:=w' } nx el,rfl,q3,q2.trans (q1.le_nil hu'),fun j hj=>hj.elim (fun q=>.inr (by subst q;exact ⟨Nat.le_refl _,Nat.lt_succ_self _⟩)) .inl,?_⟩
  exact A3s (.inl rfl) (upd_same _ _ _) (by decide) (upd_same _ _ _) (upd_same _ _ _)
 ·have hne:xs≠[]:=fun q=>by have:=hnl.2 q;cases this
  have he:xs.isEmpty=false:=by cases xs with | nil=>exact absurd rfl hne | cons a r=>rfl
  rw [he]
  have hglt:g < w'.heap.size:=(Array.getElem?_eq_some_iff.1 hgb).1
  have hspl:cur.toList=[]++ys++cur.toList.drop (xs.length * sz):=by rw [List.nil_append,← h4,List.take_append_drop]
  have hok:OK T (e.got w' nx g el xs.length) nx (.row el 1 xs false false) :=
   ⟨.inl rfl,by decide,upd_same _ _ _,upd_same _ _ _,upd_same _ _ _,by omega,.inr ⟨rfl,g,0,cur,el,(0,0),[],ys,_,upd_same _ _ _,hgb,A10 hgb,hspl,rfl,hv.mono (h.le_got hb hu _ _ _),fun i _ hs=>by have:=h.slt _ _ hs;omega,fun _ i _ hs=>by have:=h.slt _ _ hs;omega⟩⟩
  refine ⟨e.got w' nx g el xs.length,rfl,h.got hb hu hg hglt hok,h.le_got hb hu _ _ _,fun j hj=>hj.elim (fun q=>.inr (by subst q;exact ⟨Nat.le_refl _,Nat.lt_succ_self _⟩)) .inl,?_⟩
  have:=A1o (T:=T) (e:=e.got w' nx g el xs.length) (id:=nx) (ver:=1) (b:=g) (o:=0) (cap:=cap) (k:=0) (.inl rfl) (upd_same _ _ _) (by decide) (upd_same _ _ _) (by show F8 e.ln nx xs.length nx≤cap;rw [upd_same];exact h1)
   (by show 0+cap * B8 T (F8 e.ty nx el nx)=blen w' g;rw [upd_same,hsz];simp [blen,hgb,h3]) (fun _=>rfl)
  have hln:(e.got w' nx g el xs.length).ln nx=xs.length:=upd_same _ _ _
  rw [hln] at this
  exact this
abbrev DRf:D:=.struct [.arr 32 (.int .u8),.int .u32]
theorem A7D:∀ a b:List V,J7 a b=0→a.map V.int=b.map V.int
 | [],[],_=>rfl
 | [],_::_,h=>by simp [J7] at h
 | _::_,[],h=>by simp [J7] at h
 | a::x,b::y,h=>by
  simp only [J7,F0] at h
  by_cases h1:a.int < b.int
  ·simp [h1] at h
  ·by_cases h2:b.int < a.int
   ·simp [h1,h2] at h
   ·simp only [h1,h2,decide_false,cond_false] at h
    rw [List.map_cons,List.map_cons,A7D x y h,show a.int=b.int by omega]
theorem B64:∀ (m:Nat) (a b:Nat),a < 256 ^ m→b < 256 ^ m→leB m a=leB m b→a=b
 | 0,a,b,h1,h2,_=>by simp at h1 h2;omega
 | m+1,a,b,h1,h2,h=>by
  simp only [leB,List.cons.injEq] at h
  have:=B64 m (a / 256) (b / 256) (by rw [Nat.pow_succ] at h1;omega) (by rw [Nat.pow_succ] at h2;omega) h.2
  omega
theorem B65 {x:V} (h:DRf.has x):∃ (hs:List Nat) (n:Nat),x=.l [.l (hs.map nv),.i (n:Int)]∧hs.length=32∧n < 4294967296:=by
 obtain ⟨ys,rfl,hy⟩:=h
 match ys,hy with
 | [a,b],hy =>
  obtain ⟨⟨hs,rfl,hl,hh⟩,⟨n,rfl,hn⟩,_⟩:=hy
  obtain ⟨ns,rfl,_⟩:=u8s hh
  obtain ⟨m,rfl⟩:=Int.eq_ofNat_of_zero_le hn.1
  refine ⟨ns,m,rfl,by rw [← hl];simp,?_⟩
  have:=hn.2;simp only [hi] at this;omega
theorem B2W {x y:V} (hx:DRf.has x) (hy:DRf.has y) (h:cmR x y=0):x=y:=by
 obtain ⟨a,n,rfl,ha,hn⟩:=B65 hx
 obtain ⟨b,m,rfl,hb,hm⟩:=B65 hy
 rw [A0D] at h
 have h:=A7D _ _ h
 have e1:X6 (.l [.l (a.map nv),.i (n:Int)])=(a++leB 4 n).map nv:=by
  show a.map nv++Z1 4 (n:Int)=_
  rw [B7d,List.map_append]
 have e2:X6 (.l [.l (b.map nv),.i (m:Int)])=(b++leB 4 m).map nv:=by
  show b.map nv++Z1 4 (m:Int)=_
  rw [B7d,List.map_append]
 rw [e1,e2,List.map_map,List.map_map] at h
 have hi:Function.Injective (V.int ∘ nv):=fun p q hpq=>by
  have:((p:Nat):Int)=((q:Nat):Int):=hpq
  omega
 have h:=(List.map_inj_right (fun p q hpq=>hi hpq)).1 h
 obtain ⟨h1,h2⟩:=List.append_inj h (by rw [ha,hb])
 subst h1
 rw [B64 4 n m (by omega) (by omega) h2]
def P7:List V→List V:=A1P fun ks=>(Go.Sort.sort A8 ks.toArray).toList
theorem A1e (ks:List V):(P7 ks).Perm ks:=by
 have:=(sort_sorts A8 A0L ks.toArray).1.2.2
 rw [P7,E2]
 have hsz:(Go.Sort.sort A8 ks.toArray).size=ks.length:=by have:=(sort_sorts A8 A0L ks.toArray).1.1;simpa using this
 have e:(Go.Sort.sort A8 ks.toArray).toList.take ks.length=(Go.Sort.sort A8 ks.toArray).toList:=List.take_of_length_le (by rw [D51,hsz];exact Nat.le_refl _)
 have:=this
 simp [Array.toList_extract] at this
 rwa [e] at this
theorem A4u (ks:List V):(P7 ks).Pairwise (fun x y=>cmR x y≤0):=by
 rw [P7,E2,List.pairwise_iff_getElem]
 intro i j hi hj hij
 have h:=(sort_sorts A8 A0L ks.toArray).2 i j (Nat.zero_le _) hij (by
  have hsz:=(sort_sorts A8 A0L ks.toArray).1.1
  rw [D51] at hj;omega)
 rw [D51] at hi hj
 have e1:(Go.Sort.sort A8 ks.toArray)[i]! = (Go.Sort.sort A8 ks.toArray)[i]:=by simp [hi]
 have e2:(Go.Sort.sort A8 ks.toArray)[j]! = (Go.Sort.sort A8 ks.toArray)[j]:=by simp [hj]
 rw [e1,e2] at h
 simp only [A8,decide_eq_false_iff_not,Int.not_lt,A0D] at h
 rw [Array.getElem_toList,Array.getElem_toList,A0D,A2k]
 omega
theorem A7E {ks ls:List V} (hk:∀ x∈ks,DRf.has x) (hp:ls.Perm ks) (hs:ls.Pairwise (fun x y=>cmR x y≤0)):ls=P7 ks:=by
 refine List.Perm.eq_of_pairwise (le:=fun x y=>cmR x y≤0) (fun a b ha hb h1 h2=>?_) hs (A4u ks) (hp.trans (A1e ks).symm)
 have h3:cmR a b=0:=by
  rw [A0D] at h1 h2 ⊢
  rw [A2k] at h2
  omega
 exact B2W (hk a (hp.mem_iff.1 ha)) (hk b ((A1e ks).mem_iff.1 hb)) h3
theorem A8U {ks ls:List V} (hk:∀ x∈ks,DRf.has x) (hp:ls.Perm ks):P7 ls=P7 ks :=
 A7E hk ((A1e ls).trans hp) (A4u ls)
def C7I (el gn:Nat) (args:List A) (of:Nat→Option Ob) (nx:Nat):Option Unit :=
 match args with
 | [.o id ver,.f h []]=>bif Nat.beq id 0&&(Nat.beq ver 1&&(Nat.beq nx 1&&Nat.beq h gn)) then
  (match of 0 with
  | some (.row el' v [] true sh)=>bif Nat.beq el el'&&(Nat.beq v 1&&!sh) then some () else none
  | _=>none) else none
 | _=>none
def sfC (el gn N:Nat):D7:=N3 (B4g el gn) (fun s=>Nat.ble s.xs.length 200) (M1 el N (fun _=>.t []) (fun s=>T1 ⟨s.xs,0,(s.xs.length:Nat),(bitsLen s.xs.length:Nat)⟩))
def sfN (el gn N:Nat):D7:=N3 (C7I el gn) (fun _=>true) (fun _=>⟨.t [],[(0,.row el 1 [] true false)],[0],N⟩)
theorem B48 (xs:List V):T1 ⟨xs,0,(xs.length:Nat),(bitsLen xs.length:Nat)⟩=P7 xs:=by
 rw [B47,P7,E2]
theorem C7J {s:D7} {of:Nat→Option Ob} {nx el gn N:Nat} {xs ys:List V} {nl nl':Bool} (ho:of nx=some (.row el 1 xs nl false))
  (hs:s H9 [.o 0 1,.f gn []] (ofL [.row el 1 xs nl false]) 1 some=some ⟨.t [],[(0,.row el 1 ys nl' false)],[0],N⟩) (hn:s.nat) (hN:1≤N) :
  (trS s).dir [.o nx 1,.f gn []] of (nx+1)=some ⟨.t [],[(nx,.row el 1 xs nl false),(nx,.row el 1 ys nl' false)],[nx],nx+1+(N - 1)⟩:=by
 have hb:Nat.beq nx nx=true:=by simp
 have hr:W9 of 64 (E5 [.o nx 1,.f gn []]) []=[nx]:=by
  show W9 of 64 ([nx]++([]++[])) []=[nx]
  simp [W9,mem,ho,A1E]
 unfold D7.dir trS
 simp only
 rw [hr]
 have h1:(A24 [nx]&&(B3o of [nx] [nx]&&B1T [nx] (E5 [.o nx 1,.f gn []])))=true:=by
  have e:E5 [.o nx 1,.f gn []]=[nx]:=rfl
  rw [e]
  simp [A24,mem,B3o,ho,okT,A1E,B1T]
 rw [h1,cond_true]
 have h2:rnL (P1 [nx]) (A58 of) [.o nx 1,.f gn []]=[.o 0 1,.f gn []]:=by
  simp [rnL,rnA,rnV,P1,A58,S7,ho]
 have h3:X8 of [nx] [nx]=[.row el 1 xs nl false]:=by
  simp [X8,ho,rnO,A58,S7]
 rw [h2,h3,hn H9]
 have h4:s.dir [.o 0 1,.f gn []] (ofL [.row el 1 xs nl false]) [nx].length=some ⟨.t [],[(0,.row el 1 ys nl' false)],[0],N⟩:=hs
 rw [h4]
 have h5:Nat.ble [nx].length N=true:=D54 hN
 have h6:Nat.ble 1 N=true:=h5
 simp [ob,h6,B5t,okT,A0x,A2b,K0,A74,A4H,rnO,S7,ho,rnA,rnL]
theorem B2X {x:Value} (h:one x=true):x.oneCell'=true:=by cases x<;>first | rfl | cases h
def D0w (P:Program) (f f61 g od st:Nat):Prop:=∀ (Bm bm clock:Nat) (ms:Array MapEntry) (w:World) (R2:Value→World→Prop),StB ms clock→(∀ m∈ms.toList,∃ cs,m.key=.agg cs∧cs.size=33∧cs.all (·.oneCell')=true)→ms.size≤1000000 →
 w.cell? ⟨Bm,0,none⟩=some (.map (some bm))→w.heap[bm]? = some (.map ms clock) →
 (∀ v (xs:List MapEntry) w',xs.Perm ms.toList→w'.ownsRow w.heap.size st 33 v xs.length (xs.flatMap fun m=>m.key.cells.toList)→(v=.slice none 0 0↔xs=[])→Below w.heap.size w w'→Calls P f61 #[v,.func (.func od) #[] #[]] w' fun e w''=>(∃ u,e=.returned u)∧R2 v w'') →
 Calls P f #[.func (.func g) #[] #[.pointer (some ⟨Bm,0,none⟩)],.func (.func od) #[] #[]] w fun e w'=>∃ v,e=.returned v∧R2 v w'
def A5f (g od st N:Nat):D7:=fun R args of nx k =>
 match args with
 | [.f g' [.p ib tb []],.f o' []]=>bif Nat.beq g g'&&Nat.beq od o' then (match of ib with
  | some (.box tb' (.m mid) _)=>match of mid with
   | some (.vm kt et es)=>bif Nat.beq kt st&&Nat.ble es.length 200 then k ⟨.o nx 1,[(nx,.row st 1 (P7 (es.map (·.1))) es.isEmpty false)],[ib,mid],nx+1+N⟩ else none
   | _=>none
  | _=>none) else none
 | _=>none
theorem B49 (g od st N:Nat):(A5f g od st N).nat:=by
 intro R args of nx k
 unfold D7.dir A5f
 split
 ·rename_i g' ib tb o'
  cases (Nat.beq g g'&&Nat.beq od o') with
  | false=>rfl
  | true =>
   simp only [cond_true]
   split
   ·rename_i mid _ _
    split
    ·rename_i kt et es _
     cases (Nat.beq kt st&&Nat.ble es.length 200)<;>rfl
    ·rfl
   ·rfl
 ·rfl
theorem B8G {α β:Type} {f:α→β} {xs ys:List β} (h:xs.Perm ys):∀ L:List α,L.map f=ys→∃ L':List α,L'.Perm L∧L'.map f=xs:=by
 induction h with
 | nil=>intro L hL;exact ⟨L,List.Perm.refl _,hL⟩
 | cons x _ ih =>
  intro L hL
  cases L with
  | nil=>cases hL
  | cons a L =>
   simp only [List.map_cons,List.cons.injEq] at hL
   obtain ⟨L',h1,h2⟩:=ih L hL.2
   exact ⟨a::L',h1.cons _,by rw [List.map_cons,h2,hL.1]⟩
 | swap x y l =>
  intro L hL
  match L,hL with
  | a::b::L,hL =>
   simp only [List.map_cons,List.cons.injEq] at hL
   exact ⟨b::a::L,List.Perm.swap _ _ _,by rw [List.map_cons,List.map_cons,hL.1,hL.2.1,hL.2.2]⟩
 | trans _ _ ih1 ih2 =>
  intro L hL
  obtain ⟨L1,h1,h2⟩:=ih2 L hL
  obtain ⟨L2,h3,h4⟩:=ih1 L1 h2
  exact ⟨L2,h3.trans h1,h4⟩
theorem D2c {kt et:Nat} (hk:∃ k,C5 T kt=some k∧k.agg=true):∀ {es:List (V×A)} {ms:List MapEntry},MR T e kt et es ms→∃ L:List (V×MapEntry),L.map (·.1)=es.map (·.1)∧L.map (·.2)=ms∧∀ p∈L,RV T e [kt] [p.1] p.2.key.cells.toList∧∃ cs,p.2.key=.agg cs:=by
 intro es ms h
 induction h with
 | nil=>exact ⟨[],rfl,rfl,fun p hp=>by cases hp⟩
 | @cons k a r m ms h1 h2 h3 h4 ih =>
  obtain ⟨L,i1,i2,i3⟩:=ih
  obtain ⟨h1,hag⟩:=h1
  refine ⟨(k,m)::L,by rw [List.map_cons,List.map_cons,i1],by rw [List.map_cons,i2],fun p hp=>?_⟩
  rcases List.mem_cons.1 hp with rfl | hp
  ·exact ⟨h1,hag.1 hk⟩
  ·exact i3 p hp
theorem C7K {kt:Nat}:∀ (L:List (V×MapEntry)),(∀ p∈L,RV T e [kt] [p.1] p.2.key.cells.toList)→RV T e (List.replicate (L.map (·.1)).length kt) (L.map (·.1)) ((L.map (·.2)).flatMap fun m=>m.key.cells.toList):=by
 intro L
 induction L with
 | nil=>intro _;exact .nil
 | cons p r ih =>
  intro h
  have h1:=h p (List.mem_cons_self ..)
  have h2:=ih (fun q hq=>h q (List.mem_cons_of_mem _ hq))
  exact h1.append h2
theorem A7F {f:Nat} {vals:Array Value} {w:World} {Q:Value→World→Prop} (hen:(callFunc f vals).run P w=.ok (.enter f vals) w) (h:D8 P (callFunc f vals) w Q):Calls P f vals w fun en w'=>∃ x,en=.returned x∧Q x w':=by
 rcases h with ⟨x,w',h1,_⟩ | ⟨w',h1,_⟩ | ⟨f',args,w1,h1,h2⟩ | ⟨_,_,_,_,_,w1,h1,_⟩
 ·rw [hen] at h1;cases h1
 ·rw [hen] at h1;cases h1
 ·rw [hen] at h1;cases h1;exact h2
 ·rw [hen] at h1;cases h1
theorem B8H (hT:L8 T P) {f f61 g od st N N1 N2:Nat} (hW:D0w P f f61 g od st) (hS:R0 P T f61 (sfC st od N1).dir) (hN:R0 P T f61 (sfN st od N2).dir) (h11:1≤N1) (h12:1≤N2) (hl1:N1≤N) (hl2:N2≤N)
  (hd:X5 T 40 st=some DRf) (hz:B8 T st=33) (hk:∃ k,C5 T st=some k∧k.agg=true) (hen:∀ args w,(callFunc f args).run P w=.ok (.enter f args) w) (hen1:∀ args w,(callFunc f61 args).run P w=.ok (.enter f61 args) w):J2 P T f (A5f g od st N).dir:=by
 intro c e of of' as0 vals nx out hos hs hro hu hvals
 unfold D7.dir A5f at hs
 split at hs<;>try (cases hs;done)
 rename_i g' ib tb o'
 cases hg:(Nat.beq g g'&&Nat.beq od o') with
 | false=>rw [hg] at hs;cases hs
 | true =>
 rw [hg] at hs
 simp only [D5V] at hg
 obtain rfl:=D5U hg.1
 obtain rfl:=D5U hg.2
 simp only [cond_true] at hs
 split at hs<;>try (cases hs;done)
 rename_i tb' mid sh hob
 split at hs<;>try (cases hs;done)
 rename_i kt et es hom
 cases hc:(Nat.beq kt st&&Nat.ble es.length 200) with
 | false=>rw [hc] at hs;cases hs
 | true =>
 rw [hc,cond_true] at hs
 simp only [D5V] at hc
 obtain rfl:=D5U hc.1
 have hlen:=D50 hc.2
 injection hs with hs;subst hs
 have hob':of' ib=some (.box tb' (.m mid) sh):=(hro ib (by simp)).trans hob
 have hom':of' mid=some (.vm kt et es):=(hro mid (by simp)).trans hom
 obtain ⟨x1,x2,x3,x4,Bm,cs,ty,fz,x5,x6,x7,x8,x9,x10⟩:=hos.ok _ _ hob'
 obtain ⟨y1,y2,b,ms,clock,y3,y4,⟨y5,y5'⟩,es',y6,y7⟩:=hos.ok _ _ hom'
 obtain ⟨v,u,hvs⟩:∃ v u,vals=#[v,u]:=by
  obtain ⟨vals⟩:=vals
  cases hvals with | cons h1 h2=>cases h2 with | cons h3 h4=>cases h4;exact ⟨_,_,rfl⟩
 subst hvs
 have hv:C2 T e (.f g [.p ib tb []]) v∧C2 T e (.f od []) u:=by cases hvals with | cons h1 h2=>cases h2 with | cons h3 _=>exact ⟨h1,h3⟩
 obtain ⟨vs,rfl,hcap⟩:=A2a hv.1
 obtain ⟨v2,rfl⟩:=hcap.single rfl
 obtain ⟨us,rfl,hcap2⟩:=A2a hv.2
 obtain rfl:us=[]:=by cases us with | nil=>rfl | cons q r=>cases hcap2
 obtain ⟨Bm',off,p1,p2,p3,p4,rfl⟩:=Q2 (T:=T) (e:=e) (id:=ib) (t:=tb) (path:=[]) hcap
 rw [x5] at p3
 cases p3
 cases p4
 obtain ⟨v3,hcs⟩:=x9.single rfl
 have hm3:∃ b',e.U mid∧e.bn mid=0∧e.ι mid=some (b',0)∧v3=.map (some b'):=Q3 (by rw [hcs] at x9;exact x9)
 obtain ⟨b',_,_,z3,rfl⟩:=hm3
 rw [y3] at z3;cases z3
 have hcell:e.w.cell? ⟨Bm,0,none⟩=some (.map (some b)):=by
  have:cs[0]? = some (.map (some b)):=by rw [← Array.getElem?_toList,hcs];rfl
  simp [World.cell?,x6,this]
 obtain ⟨L,l1,l2,l3⟩:=D2c hk y7
 have hkeys:∀ m∈ms.toList,∃ cs,m.key=.agg cs∧cs.size=33∧cs.all (·.oneCell')=true:=by
  intro m hm
  rw [← l2] at hm
  obtain ⟨p,hp,rfl⟩:=List.mem_map.1 hm
  obtain ⟨h1,cs,h2⟩:=l3 p hp
  rw [h2] at h1
  refine ⟨cs,h2,?_,?_⟩
  ·have:=h1.one_len
   rw [hz,D51] at this
   exact this
  ·rw [Array.all_eq_true_iff_forall_mem]
   intro x hx
   exact B2X (h1.one x (Array.mem_toList_iff.2 hx))
 have hlm:ms.size=es.length:=by
  have h1:=y6.length_eq
  rw [B7j] at h1
  have h2:=y7.length
  rw [D51] at h2
  exact h2.symm.trans h1
 have hkp:(L.map (·.1)).Perm (es.map (·.1)):=by
  rw [l1]
  have:=y6.map (·.1)
  have e1:(vms et es).map (·.1)=es.map (·.1):=by
   have:∀ l:List (V×V),(vms et l).map (·.1)=l.map (·.1):=fun l=>by
    induction l with
    | nil=>rfl
    | cons p r ih=>simp [vms,ih]
   exact this es
  rwa [e1] at this
 have hhas:∀ x∈es.map (·.1),DRf.has x:=by
  intro x hx
  obtain ⟨p,hp,rfl⟩:=List.mem_map.1 (hkp.mem_iff.2 hx)
  exact (B24 40).1 _ _ hd _ _ (l3 p hp).1
 refine .inr (.inr (.inl ⟨f,_,e.w,hen _ _,?_⟩))
 refine (hW Bm b clock ms e.w (fun v w'=>V2 T c e of' nx _ v w') y5' hkeys (by omega) hcell y4 (fun v xs w' hp hrow hnl hbl=>?_)).mono fun en w' ⟨v,h1,h2⟩=>⟨v,h1,h2⟩
 obtain ⟨L',q1,q2⟩:=B8G hp L l2
 have hxl:(L'.map (·.1)).length=xs.length:=by rw [D5Y,← q2,D5Y]
 have hrv:=C7K (e:=e) (T:=T) (kt:=kt) L' (fun p hp=>(l3 p (q1.mem_iff.1 hp)).1)
 rw [q2] at hrv
 have hun:¬ e.U nx:=hu nx (Nat.le_refl _) (by show nx < nx+1+N;omega)
 have hkp':(L'.map (·.1)).Perm (es.map (·.1)):=(q1.map _).trans hkp
 have hleft:=B8F (nx:=nx) (ro:=[]) hos hbl hun hz (by omega) (by rw [hxl];exact hrow) hrv (by
  rw [hnl]
  constructor
  ·intro q;rw [q] at hxl;exact List.length_eq_zero_iff.1 hxl
  ·intro q;rw [q] at hxl;exact List.length_eq_zero_iff.1 hxl.symm)
 obtain ⟨e1,w1,os1,le1,u1,r1⟩:=hleft
 have hof1:(put of' [(nx,Ob.row kt 1 (L'.map (·.1)) (L'.map (·.1)).isEmpty false)]) nx=some (.row kt 1 (L'.map (·.1)) (L'.map (·.1)).isEmpty false):=upd_same _ _ _
 have hun1:∀ M,M≤N→∀ id,nx+1≤id→id < nx+1+(M - 1)→¬ e1.U id:=fun M hM id h1 h2 hU=>by
  rcases u1 id hU with h3 | ⟨_,h3⟩
  ·exact hu id (by omega) (by show id < nx+1+N;omega) h3
  ·have h3:id < nx+1:=h3
   omega
 have hf1:C2 T e1 (.f od []) (.func (.func od) #[] #[]):=by
  have:=hv.2.mono le1
  exact this
 have hreps:T2 T e1 [.o nx 1,.f od []] (#[v,.func (.func od) #[] #[]]:Array Value).toList:=.cons r1 (.cons hf1 .nil)
 have hfin:∀ (M:Nat) (s:D7),s.nat→R0 P T f61 s.dir→1≤M→M≤N→s H9 [.o 0 1,.f od []] (ofL [.row kt 1 (L'.map (·.1)) (L'.map (·.1)).isEmpty false]) 1 some=some ⟨.t [],[(0,.row kt 1 (P7 (es.map (·.1))) es.isEmpty false)],[0],M⟩ →
   Calls P f61 #[v,.func (.func od) #[] #[]] w' fun en w''=>(∃ u,en=.returned u)∧V2 T c e of' nx ⟨.o nx 1,[(nx,.row kt 1 (P7 (es.map (·.1))) es.isEmpty false)],[ib,mid],nx+1+N⟩ v w'':=by
  intro M s hn hs h1M hMN hrun
  have htr:=C7J hof1 hrun hn h1M
  have hdo:=P2 hn hs c e1 _ _ _ #[v,.func (.func od) #[] #[]] (nx+1) _ os1 htr (fun _ _=>rfl) (hun1 M hMN) hreps
  rw [w1] at hdo
  refine (A7F (hen1 _ _) hdo).mono ?_
  rintro en w'' ⟨x,rfl,e2,rfl,os2,le2,u2,_⟩
  refine ⟨⟨x,rfl⟩,e2,rfl,?_,le1.trans le2,fun id A3=>?_,r1.mono le2⟩
  ·have:put (put of' [(nx,Ob.row kt 1 (L'.map (·.1)) (L'.map (·.1)).isEmpty false)]) [(nx,.row kt 1 (L'.map (·.1)) (L'.map (·.1)).isEmpty false),(nx,.row kt 1 (P7 (es.map (·.1))) es.isEmpty false)]=put of' [(nx,.row kt 1 (P7 (es.map (·.1))) es.isEmpty false)]:=by
    simp only [put]
    funext j
    by_cases hj:j=nx
    ·subst hj;simp [F8]
    ·simp [F8,hj]
   rw [← this];exact os2
  ·rcases u2 id A3 with h | ⟨h3,h4⟩
   ·rcases u1 id h with h | ⟨h3,h4⟩
    ·exact .inl h
    ·exact .inr ⟨h3,by show id < nx+1+N;have h4:id < nx+1:=h4;omega⟩
   ·exact .inr ⟨by omega,by show id < nx+1+N;have h4:id < nx+1+(M - 1):=h4;omega⟩
 have hsr:P7 (L'.map (·.1))=P7 (es.map (·.1)):=A8U hhas hkp'
 cases hem:L'.map (·.1) with
 | nil =>
  have hes:es=[]:=by
   rw [hem] at hkp'
   have:=hkp'.symm.eq_nil
   exact List.map_eq_nil_iff.1 this
  refine hfin N2 (sfN kt od N2) C9 hN h12 hl2 ?_
  rw [hem,← hsr,hem,hes]
  have hsn:P7 ([]:List V)=[]:=by have:=(A1e ([]:List V)).eq_nil;exact this
  rw [hsn]
  show N3 (C7I kt od) _ _ H9 _ _ 1 some=_
  simp [N3,C7I,ofL]
 | cons k r =>
  have hes:es.isEmpty=false:=by
   cases es with
   | nil=>rw [hem] at hkp';have:=hkp'.eq_nil;cases this
   | cons p q=>rfl
  refine hfin N1 (sfC kt od N1) C9 hS h11 hl1 ?_
  rw [← hsr,hes]
  have hne:(L'.map (·.1)).isEmpty=false:=by rw [hem];rfl
  rw [hne]
  have hbl:Nat.ble (L'.map (·.1)).length 200=true:=D54 (by rw [hkp'.length_eq,D5Y];exact hlen)
  generalize L'.map (·.1)=ks at hbl
  show N3 (B4g kt od) _ _ H9 _ _ 1 some=_
  simp only [N3,B4g,B7Y,ofL,Nat.beq_refl,Bool.and_true,Bool.not_false,cond_true,hbl]
  rw [M1]
  simp only [B48]
variable {P:Program} {T:TT} {c:J8} {e eb:B4} {of of':Nat→Option Ob}
variable {R:Type}
inductive C7L where
 | m (x:V) (y:V) (n:Int) (i:Int)
inductive D2d where
 | o (x:V) (y:V) (n:Int) (i:Int)
 | r (x:V) (y:V) (n:Int) (i:Int)
def C3p (R:Type) (p:C7L) (K:C7L→Option R) (kx:D2d→Option R):Option R :=
 match p with
 | .m x y n i =>
  bif D4 i n then
   ck i ((x.els).length) <|
   ck i ((y.els).length) <|
   bif !(U7 (V.nth (V.nth x i.toNat) 0) (V.nth (V.nth y i.toNat) 0)) then
   kx (.r x y n i)
   else
   ck i ((x.els).length) <|
   ck i ((y.els).length) <|
   bif Y6 (((V.nth (V.nth (V.nth (V.nth x i.toNat) 1) 0) 0)).int) (((V.nth (V.nth (V.nth (V.nth y i.toNat) 1) 0) 0)).int) then
   bif A1J (((V.nth (V.nth (V.nth (V.nth x i.toNat) 1) 0) 1)).els) (((V.nth (V.nth (V.nth (V.nth y i.toNat) 1) 0) 1)).els) then
   bif Y6 (((V.nth (V.nth (V.nth x i.toNat) 1) 1)).int) (((V.nth (V.nth (V.nth y i.toNat) 1) 1)).int) then
   bif ((V.nth (V.nth (V.nth x i.toNat) 1) 2)).bl then
   bif ((V.nth (V.nth (V.nth y i.toNat) 1) 2)).bl then
   K (.m x y n (B3 (i+1)))
   else
   kx (.r x y n i)
   else
   bif ((V.nth (V.nth (V.nth y i.toNat) 1) 2)).bl then
   kx (.r x y n i)
   else
   K (.m x y n (B3 (i+1)))
   else
   kx (.r x y n i)
   else
   kx (.r x y n i)
   else
   kx (.r x y n i)
   else
   kx (.o x y n i)
abbrev C3q:=@C3p.eq_1
def woS (r:V) (l:List V):List V:=l.filter fun x=>!(U7 (x.nth 0) r)
def wiF (s:V):List V→List V
 | []=>[s]
 | x::t=>bif sLt (X6 (s.nth 0)) (X6 (x.nth 0)) then s::x::t else x::wiF s t
def C7M (x y:V):Bool :=
 U7 (x.nth 0) (y.nth 0)&&(Y6 (((x.nth 1).nth 0).nth 0).int (((y.nth 1).nth 0).nth 0).int&&(A1J (((x.nth 1).nth 0).nth 1).els (((y.nth 1).nth 0).nth 1).els &&
  (Y6 ((x.nth 1).nth 1).int ((y.nth 1).nth 1).int&&(((x.nth 1).nth 2).bl == ((y.nth 1).nth 2).bl))))
def B5a:List V→List V→Bool
 | x::s,y::t=>C7M x y&&B5a s t
 | _,_=>true
def C3r (l:List V) (s:V):List V:=wiF s (woS (s.nth 0) l)
theorem B8I (x:V):C7M x x=true:=by
 unfold C7M
 rw [Z3,P0.2 rfl,P0.2 rfl,(A1h _ _).2 rfl]
 cases ((x.nth 1).nth 2).bl<;>rfl
theorem A9S:∀ l:List V,B5a l l=true
 | []=>rfl
 | x::r=>by rw [B5a,B8I,A9S r];rfl
theorem C7N {x y:V} {ko kr:Option R} {kx:D2d→Option R} (h1:∀ n i,kx (.o x y n i)=ko) (h2:∀ n i,kx (.r x y n i)=kr):∀ (r s a b:List V) (fuel:Nat),x.els=a++r→y.els=b++s→a.length=b.length→r.length=s.length→a.length+r.length≤100000→r.length < fuel →
  C8 (C3p R) fuel (.m x y (x.els.length:Nat) (a.length:Nat)) kx=bif B5a r s then ko else kr:=by
 intro r
 induction r with
 | nil =>
  intro s a b fuel he he' hab hrs ha hf
  obtain ⟨g,rfl⟩:∃ g,fuel=g+1:=⟨fuel - 1,by omega⟩
  rw [List.append_nil] at he
  rw [C8,C3q,B7S he,cond_false,h1]
  cases s<;>rfl
 | cons p r ih =>
  intro s a b fuel he he' hab hrs ha hf
  obtain ⟨g,rfl⟩:∃ g,fuel=g+1:=⟨fuel - 1,by simp at hf;omega⟩
  cases s with
  | nil=>simp at hrs
  | cons q s =>
  simp only [D52] at ha hf hrs
  have hle:x.els.length=a.length+(r.length+1):=by rw [he];simp
  have hle':y.els.length=b.length+(s.length+1):=by rw [he'];simp
  have hat:x.nth ((a.length:Nat):Int).toNat=p:=A1g he
  have hat':y.nth ((a.length:Nat):Int).toNat=q:=by rw [hab];exact A1g he'
  have ih:=ih s (a++[p]) (b++[q]) g (by rw [he];simp) (by rw [he'];simp) (by simp [hab]) (by omega)
  simp only [D5W,D53] at ih
  rw [C8,C3q,B7R he,cond_true,H0 (by omega) (by omega),H0 (by omega) (by omega),H0 (by omega) (by omega),H0 (by omega) (by omega),hat,hat',A0h (by omega),ih (by omega) (by omega),h2]
  simp only [B5a,C7M]
  cases U7 (p.nth 0) (q.nth 0) with
  | false=>rfl
  | true =>
  cases Y6 (((p.nth 1).nth 0).nth 0).int (((q.nth 1).nth 0).nth 0).int with
  | false=>rfl
  | true =>
  cases A1J (((p.nth 1).nth 0).nth 1).els (((q.nth 1).nth 0).nth 1).els with
  | false=>rfl
  | true =>
  cases Y6 ((p.nth 1).nth 1).int ((q.nth 1).nth 1).int with
  | false=>rfl
  | true=>cases ((p.nth 1).nth 2).bl<;>cases ((q.nth 1).nth 2).bl<;>rfl
variable {R:Type}
def pqg:List V→Bool
 | [x,y]=>Nat.ble x.els.length 10000&&Nat.ble y.els.length 10000
 | _=>false
def A9T (x y:V):Bool:=Y6 (x.els.length:Nat) (y.els.length:Nat)&&B5a x.els y.els
def pqr (t:Nat):List V→List Rs
 | [x,y]=>[.d t (.b (A9T x y))]
 | _=>[]
def zSp:V:=.l [.l [.l (List.replicate 32 (.i 0)),.i 0],.l [.l [.i 0,.n],.i 0,.b false]]
def pqG (t:Nat) (x y:V):Option (List Rs):=ln x.els.length <| ln y.els.length <| bif !(Y6 (x.els.length:Nat) (y.els.length:Nat)) then some [.d t (.b false)] else
 ln x.els.length <| C8 (C3p (List Rs)) (A3 FU) (.m x y (x.els.length:Nat) 0) fun q=>match q with
 | .o x1 y1 n1 i1=>some [.d t (.b true)]
 | .r x1 y1 n1 i1=>some [.d t (.b false)]
theorem C7O {t:Nat} {x y:V} (h:pqg [x,y]=true):pqG t x y=some (pqr t [x,y]):=by
 have h:(Nat.ble x.els.length 10000&&Nat.ble y.els.length 10000)=true:=h
 simp only [D5V,Nat.ble_eq] at h
 have hq:=A3U
 unfold pqG
 rw [G3 (by omega),G3 (by omega),G3 (by omega)]
 show _=some [Rs.d t (.b (A9T x y))]
 unfold A9T
 cases he:Y6 (x.els.length:Nat) (y.els.length:Nat) with
 | false=>rfl
 | true =>
  have he:=P0.1 he
  simp only [Bool.not_true,cond_false,Bool.true_and]
  refine (C7N (ko:=some [.d t (.b true)]) (kr:=some [.d t (.b false)]) (fun _ _=>rfl) (fun _ _=>rfl) x.els y.els [] [] (A3 FU) rfl rfl rfl (by omega) (by simp only [List.length_nil];omega) (by omega)).trans ?_
  cases B5a x.els y.els<;>rfl
variable {R:Type}
inductive C7P where
 | m (es:List (V×V)) (xs:List V) (nl:Bool) (ks:List V) (kn:Bool) (n:Int) (i:Int)
inductive D2e where
 | o (es:List (V×V)) (xs:List V) (nl:Bool) (ks:List V) (kn:Bool) (n:Int) (i:Int)
def zCn:V:=.l [.l [.i 0,.n],.i 0,.b false]
def B8J (R:Type) (p:C7P) (K:C7P→Option R) (kx:D2e→Option R):Option R :=
 match p with
 | .m es xs nl ks kn n i =>
  bif D4 i n then
   ck i ks.length <| bif A0S (ks.getD i.toNat .n) es then
   (Z9 (M2 (A0E (ks.getD i.toNat .n) es)).els.length <| Z9 (xs.length+1) <|
    K (.m es (xs++[.l [ks.getD i.toNat .n,A0E (ks.getD i.toNat .n) es]]) (nl&&false) ks kn n (B3 (i+1))))
   else (Z9 (xs.length+1) <| K (.m es (xs++[.l [ks.getD i.toNat .n,zCn]]) (nl&&false) ks kn n (B3 (i+1))))
  else kx (.o es xs nl ks kn n i)
def D2f:List V→V→V
 | [],w=>w
 | s::r,w=>D2f r (.l (C3r w.els s))
def C3s (es:List (V×V)) (ks:List V):List V:=ks.map fun k=>.l [k,A0E k es]
variable {R:Type}
variable {R:Type}
abbrev Em:=List (V×V)
variable {R:Type}
theorem B66:∀ a b:List V,sLt a b=decide (J7 a b < 0)
 | [],[]=>rfl
 | [],_::_=>rfl
 | _::_,[]=>rfl
 | a::x,b::y=>by
  simp only [sLt,J7,B66 x y,B6f]
  by_cases h1:a.int < b.int
  ·simp [h1]
  ·by_cases h2:b.int < a.int
   ·have:Y6 a.int b.int=false:=by rw [← Bool.not_eq_true,P0];omega
    simp [h1,h2,this]
   ·have:Y6 a.int b.int=true:=P0.2 (by omega)
    simp [h1,h2,this]
theorem C7Q (a b:V):sLt (X6 a) (X6 b)=decide (cmR a b < 0):=by rw [B66,A0D]
theorem B1F {a b c:V} (h1:cmR a b < 0) (h2:cmR b c < 0):cmR a c < 0:=by
 rw [A0D] at *
 exact (A1r _ _ _).1 h1 (by omega)
theorem C3t (a b:V):cmR a b = - cmR b a:=by rw [A0D,A0D];exact A2k _ _
def pr (x:V):V×V:=(x.nth 0,x.nth 1)
structure Inv (es:Em) (w:List V):Prop where
 kn:kN es
 sp:∀ x∈w,x=.l [x.nth 0,x.nth 1]
 hk:∀ x∈w,A8X.has (x.nth 0)
 so:w.Pairwise fun x y=>cmR (x.nth 0) (y.nth 0) < 0
 pm:(w.map pr).Perm es
theorem C7R {k c:V}:∀ {es:Em},kN es→(k,c)∈es→A0S k es=true∧A0E k es=c:=by
 intro es
 induction es with
 | nil=>intro _ h;cases h
 | cons p r ih =>
  intro hn h
  obtain ⟨h1,h2⟩:=List.nodup_cons.1 hn
  simp only [A0S,A0E]
  rcases List.mem_cons.1 h with rfl | h
  ·rw [Z3];exact ⟨rfl,rfl⟩
  ·have:U7 p.1 k=false:=by
    rw [← Bool.not_eq_true,M9];intro q
    exact h1 (List.mem_map.2 ⟨_,h,q.symm⟩)
   rw [this];exact ih h2 h
theorem Inv.len {es:Em} {w:List V} (h:Inv es w):w.length=es.length:=by have:=h.pm.length_eq;simpa using this
theorem Inv.mem {es:Em} {w:List V} (h:Inv es w) {x:V} (hx:x∈w):A0S (x.nth 0) es=true∧A0E (x.nth 0) es=x.nth 1 :=
 C7R h.kn (h.pm.mem_iff.1 (List.mem_map.2 ⟨x,hx,rfl⟩))
theorem Inv.keys {es:Em} {w:List V} (h:Inv es w):P7 (es.map (·.1))=w.map (·.nth 0):=by
 have hp:(w.map (·.nth 0)).Perm (es.map (·.1)):=by
  have:=h.pm.map (·.1)
  rwa [List.map_map] at this
 refine (A7E (ks:=es.map (·.1)) (fun x hx=>?_) hp ?_).symm
 ·obtain ⟨y,hy,rfl⟩:=List.mem_map.1 (hp.mem_iff.2 hx)
  exact h.hk y hy
 ·rw [List.pairwise_map]
  exact h.so.imp (fun {a b} q=>by omega)
theorem Inv.all {es:Em} {w:List V} (h:Inv es w):C3s es (P7 (es.map (·.1)))=w:=by
 rw [h.keys]
 unfold C3s
 rw [List.map_map]
 have:∀ x∈w,((fun k=>V.l [k,A0E k es]) ∘ fun x:V=>x.nth 0) x=x:=fun x hx=>by
  show V.l [x.nth 0,A0E (x.nth 0) es]=x
  rw [(h.mem hx).2];exact (h.sp x hx).symm
 rw [List.map_congr_left this,List.map_id']
theorem Inv.nil:Inv [] []:=⟨List.nodup_nil,fun x hx=>(by cases hx),fun x hx=>(by cases hx),.nil,.refl _⟩
theorem C7S (k:V):∀ es:Em,A18 k es=es.filter fun p=>!(U7 p.1 k):=by
 intro es
 induction es with
 | nil=>rfl
 | cons p r ih =>
  simp only [A18,List.filter_cons]
  cases U7 p.1 k
  ·simp [ih]
  ·simp [ih]
theorem Inv.del {es:Em} {w:List V} (h:Inv es w) (k:V):Inv (A18 k es) (woS k w):=by
 have hs:(woS k w).Sublist w:=List.filter_sublist
 refine ⟨B9U h.kn,fun x hx=>h.sp x (hs.mem hx),fun x hx=>h.hk x (hs.mem hx),h.so.sublist hs,?_⟩
 rw [C7S]
 have:=h.pm.filter (fun p=>!(U7 p.1 k))
 rw [List.filter_map] at this
 exact this
theorem A7G (s:V):∀ l:List V,(wiF s l).Perm (s::l)
 | []=>.refl _
 | x::t=>by
  simp only [wiF]
  cases sLt (X6 (s.nth 0)) (X6 (x.nth 0))
  ·simp only [cond_false];exact ((A7G s t).cons x).trans (.swap s x t)
  ·exact .refl _
theorem B5b {s:V} (hs:A8X.has (s.nth 0)):∀ l:List V,(∀ x∈l,A8X.has (x.nth 0))→(∀ x∈l,x.nth 0≠s.nth 0)→l.Pairwise (fun x y=>cmR (x.nth 0) (y.nth 0) < 0)→(wiF s l).Pairwise (fun x y=>cmR (x.nth 0) (y.nth 0) < 0):=by
 intro l
 induction l with
 | nil=>intro _ _ _;exact List.pairwise_singleton _ _
 | cons x t ih =>
  intro h1 h2 h3
  obtain ⟨h4,h5⟩:=List.pairwise_cons.1 h3
  simp only [wiF,C7Q]
  by_cases hc:cmR (s.nth 0) (x.nth 0) < 0
  ·rw [decide_eq_true hc,cond_true]
   refine List.pairwise_cons.2 ⟨fun y hy=>?_,h3⟩
   rcases List.mem_cons.1 hy with rfl | hy
   ·exact hc
   ·exact B1F hc (h4 y hy)
  ·rw [decide_eq_false hc,cond_false]
   have hx:cmR (x.nth 0) (s.nth 0) < 0:=by
    have hne:cmR (s.nth 0) (x.nth 0)≠0:=fun q=>h2 x (by simp) (B2W hs (h1 x (by simp)) q).symm
    rw [C3t];omega
   refine List.pairwise_cons.2 ⟨fun y hy=>?_,ih (fun y hy=>h1 y (by simp [hy])) (fun y hy=>h2 y (by simp [hy])) h5⟩
   rcases List.mem_cons.1 ((A7G s t).mem_iff.1 hy) with rfl | hy
   ·exact hx
   ·exact h4 y hy
theorem C7T {k:V} {w:List V}:∀ x∈woS k w,x.nth 0≠k:=by
 intro x hx q
 have:=(List.mem_filter.1 hx).2
 rw [q,Z3] at this
 cases this
theorem Inv.set {es:Em} {w:List V} (h:Inv es w) {s:V} (hs:A8X.has (s.nth 0)) (hsp:s=.l [s.nth 0,s.nth 1]):Inv (A3W (s.nth 0) (s.nth 1) es) (C3r w s):=by
 have hd:=h.del (s.nth 0)
 have hp:=A7G s (woS (s.nth 0) w)
 refine ⟨B9V h.kn,fun x hx=>?_,fun x hx=>?_,B5b hs _ hd.hk C7T hd.so,?_⟩
 ·rcases List.mem_cons.1 (hp.mem_iff.1 hx) with rfl | hx
  ·exact hsp
  ·exact hd.sp x hx
 ·rcases List.mem_cons.1 (hp.mem_iff.1 hx) with rfl | hx
  ·exact hs
  ·exact hd.hk x hx
 ·exact (hp.map pr).trans (hd.pm.cons _)
theorem B8K:∀ (r:List V) {es:Em} {w:V},(∀ s∈r,A8X.has (s.nth 0)∧s=.l [s.nth 0,s.nth 1])→Inv es w.els→Inv (A8M r es) (D2f r w).els:=by
 intro r
 induction r with
 | nil=>intro es w _ h;exact h
 | cons s r ih =>
  intro es w hs h
  exact ih (w:=.l (C3r w.els s)) (fun q hq=>hs q (by simp [hq])) (h.set (hs s (by simp)).1 (hs s (by simp)).2)
variable {R:Type}
theorem C3u {x y:V} (h:x.els=y.els):A9T x y=true:=by
 unfold A9T
 rw [h,P0.2 rfl,A9S];rfl
theorem C7U {t l:V} {h:Int} {b:Bool} {ko:Option R} {kx:QAi→Option R} {es0:Em} {xs0:List V} (h1:∀ n i,kx (.o es0 t l h b xs0 xs0.isEmpty n i)=ko):∀ (r a:List V) (es:Em) (xs:List V) (nl:Bool) (fuel:Nat),B7T b r es xs=(es0,xs0)→nl=xs.isEmpty→okM es→l.els=a++r→xs.length+r.length≤100000→a.length+r.length≤100000→r.length < fuel →
  C8 (BAi R) fuel (.m es t l h b xs nl (l.els.length:Nat) (a.length:Nat)) kx=ko:=by
 intro r
 induction r with
 | nil =>
  intro a es xs nl fuel hs hnl hok he hx ha hf
  obtain ⟨f,rfl⟩:∃ f,fuel=f+1:=⟨fuel - 1,by omega⟩
  rw [List.append_nil] at he
  cases hs
  rw [C8,C9S,B7S he,cond_false,hnl];exact h1 _ _
 | cons x r ih =>
  intro a es xs nl fuel hs hnl hok he hx ha hf
  obtain ⟨f,rfl⟩:∃ f,fuel=f+1:=⟨fuel - 1,by simp at hf;omega⟩
  simp only [D52] at ha hf hx
  have hle:l.els.length=a.length+(r.length+1):=by rw [he];simp
  have hat:l.nth ((a.length:Nat):Int).toNat=x:=A1g he
  have ih:=fun es' xs' nl' q1 q0 q2 q3=>ih (a++[x]) es' xs' nl' f q1 q0 q2 (by rw [he];simp) q3 (by simp;omega) (by omega)
  simp only [D5W,D53] at ih
  simp only [B7T] at hs
  rw [C8,C9S,B7R he,cond_true,H0 (by omega) (by omega),hat,A0h (by omega),D03]
  cases hh:A0S (x.nth 0) es with
  | false =>
   rw [hh] at hs
   exact ih es xs nl hs hnl hok (by omega)
  | true =>
   obtain ⟨b1,b2,b3,b4,b5⟩:=hok _ (A6I hh)
   rw [hh] at hs
   cases b with
   | true=>exact ih es xs nl hs hnl hok (by omega)
   | false =>
    simp only [cond_true,cond_false]
    rw [E3 (by have:(M2 (A0E (x.nth 0) es)).els.length≤300:=b5;omega),E3 (by simp;omega)]
    exact ih _ _ _ hs (by cases xs<;>simp) (C56 hok) (by simp;omega)
variable {R:Type}
theorem C7V {t:V} (h:A3M t=false):((t.nth 1).els.length≤12∧(t.nth 2).els.length≤12)∧(∀ z∈(t.nth 1).els,(z.nth 1).els.length≤300)∧∀ o∈(t.nth 2).els,(o.nth 1).els.length≤300:=by
 unfold A3M at h
 simp only [Bool.or_eq_false_iff,decide_eq_false_iff_not] at h
 obtain ⟨⟨⟨h1,h2⟩,h3⟩,h4⟩:=h
 refine ⟨⟨by omega,by omega⟩,fun z hz=>?_,fun o ho=>?_⟩
 ·have:=List.any_eq_false.1 h3 z hz
  unfold A1q at this
  simp only [D56] at this;omega
 ·have:=List.any_eq_false.1 h4 o ho
  unfold A1q at this
  simp only [D56] at this;omega
theorem D2g {t:V} (h1:(t.nth 1).els.length≤12) (h2:(t.nth 2).els.length≤12) (h3:∀ z∈(t.nth 1).els,(z.nth 1).els.length≤300) (h4:∀ o∈(t.nth 2).els,(o.nth 1).els.length≤300):txg [t]=true:=by
 show ((Nat.ble (t.nth 1).els.length 1000&&(t.nth 1).els.all fun z=>Nat.ble (z.nth 1).els.length 100000)&&(Nat.ble (t.nth 2).els.length 1000&&(t.nth 2).els.all fun z=>Nat.ble (z.nth 1).els.length 100000))=true
 simp only [D5V,Nat.ble_eq,List.all_eq_true]
 exact ⟨⟨by omega,fun z hz=>by have:=h3 z hz;omega⟩,by omega,fun z hz=>by have:=h4 z hz;omega⟩
variable {P:Program} {T:TT} {c:J8} {e:B4} {of:Nat→Option Ob}
structure D0x (T:TT) (c:J8) (e:B4) (of:Nat→Option Ob) (nt:Nat) (σ σ':St) (a':Act) (w':World) (e':B4):Prop where
 w:e'.w=w'
 os:A5 T c e' (C1 σ'.ob of)
 le:e.le e'
 U:∀ id,e'.U id→e.U id∨(σ.nx≤id∧id < σ'.nx)
 sl:∀ t,C2 T e' (F1 σ'.sl t) (a'.tmps.getD t undef)
 nt:a'.tmps.size=nt
 df:a'.defers=[]
 fr:∀ b,b < e.w.heap.size→¬ (J8.here e of none).M b→e'.w.heap[b]? = e.w.heap[b]?
theorem A9U {e':B4} {ds:List Deferred} {rd:Option Nat} (h:A39 e' rd (some []) ds):ds=[]:=by
 obtain ⟨_,hm⟩:=h
 cases hm;rfl
theorem D0y (hm:P.follows .mixedOrders=true) (hT:L8 T P) {K:KS} (hK:X9 P T K) {Lo:A3B} {fu nt:Nat} {code:Code} {σ σ':St} {ex:Exit} (hlo:L7 P T nt σ.nx Lo code) (hx:N4 T K Lo fu nt (fun _=>none) code σ=some (ex,σ'))
  (hos:A5 T c e of) (hob:∀ id o,C1 σ.ob (fun _=>none) id=some o→of id=some o) (hU:∀ id,σ.nx≤id→id < σ'.nx→¬ e.U id) (hrd:σ'.rd=[]) (hmk:σ.mks=some []) (hmk':σ'.mks=some []) {a:Act} (hsl:∀ t,C2 T e (F1 σ.sl t) (a.tmps.getD t undef)) (hnt:a.tmps.size=nt) (hd:a.defers=[]) :
  code.wp P (fun ex' a' w'=>ex'=ex∧∃ e',D0x T c e of nt σ σ' a' w' e') a e.w:=by
 obtain ⟨hle,hT'⟩:=A0T (P:=P) hm hT hK (n0:=σ.nx) _ hlo _ _ _ hx
 have heq:∀ id o,C1 σ.ob of id=some o→of id=some o:=by
  intro id o ho
  unfold C1 at ho
  cases hg:σ.ob.get id with
  | none=>rw [hg] at ho;exact ho
  | some o' =>
   rw [hg] at ho
   refine (hob id o' (by unfold C1;rw [hg])).trans ?_
   exact ho
 have hsim:Sim T (J8.here e of none) e of σ.nx nt σ a e.w :=
  ⟨e,rfl,(hos.here none).sub (fun id o ho=>heq id o ho),B4.le.refl e,fun id A3=>.inl A3,hsl,by rw [hmk,hd];exact ⟨rfl,.nil⟩,hnt⟩
 have hw:=hT' 0 of (J8.here e of none) e a e.w (Nat.le_refl _) ⟨(fun id A3=>by rw [hrd] at A3;cases A3),hU⟩ (fun id o ho=>hos.ok _ _ ho) hsim
 refine (wpIn_wide (n:=0)).1 (wpIn_mono hw ?_)
 rintro ex' a' w' ⟨rfl,e2,rfl,hst⟩
 have hos2:=hst.os
 exact ⟨rfl,e2,rfl,hos.back_here hos2,hst.le,hst.U,hst.sl,hst.nt,A9U (by have:=hst.def_;rw [hmk'] at this;exact this),fun b hb hM=>hos2.block b hb hM⟩
variable {P:Program} {T:TT} {c:J8} {e:B4} {of:Nat→Option Ob}
theorem A6u {ops:Array Oper} {rest:List Oper} {o:Oper} {a:Act} {w w':World} {Q:Exit→Act→World→Prop} (hg:o.guard=none) (v:Value) (hrun:(execOp a.eval o).run P w=.ok (.value v) w') (h:wpList P ops Q rest (a.put o.dst v) w'):wpList P ops Q (o::rest) a w :=
 Great.wpList_runTo hg _ rfl v w' hrun h
theorem A9V {ops:Array Oper} {rest:List Oper} {o:Oper} {a:Act} {w w':World} {Q:Exit→Act→World→Prop} (hg:o.guard=none) (t:TypeId) (x y:Operand) (hop:o.op=Op.store t x y) (hrun:(Instr.storeAt t (a.eval x) (a.eval y)).run P w=.ok () w') (h:wpList P ops Q rest (a.put o.dst undef) w'):wpList P ops Q (o::rest) a w:=by
 refine wpList_plain hg fun K hK=>?_
 unfold Oper.wp execOp
 simp only [hop,Sem.run_bind,hrun,Result.andThen_ok,Sem.run_pure]
 exact hK _ _ h
theorem A9W (hT:L8 T P) {t el:Nat} (hk:C5 T t=some (.slice el)) (hel:(T el).isSome=true) (a:Addr) {n cap i:Nat} (hi:i < n) (w:World):(Instr.indexAt t (.slice (some a) n cap) (.int .i64 (i:Int))).run P w=.ok (.pointer (some (a.add (i * B8 T el)))) w:=by
 obtain ⟨te,h1,h2⟩:=A9 hk
 have hu:=G2 (hT _ _ h1) h2
 obtain ⟨tel,htel⟩:=D5Z.1 hel
 rw [K6 htel]
 simp [Instr.indexAt,asIntOf,A2 hu,F9 (hT _ _ htel),hi]
def B5c (w:World) (L:Value):Prop:=L=.slice none 0 0∨(∃ a c,L=.slice (some a) 0 c)∨∃ b off n c,∃ news:List Value,L=.slice (some ⟨b,off,none⟩) n c∧news.length=n * 1∧n≤1000000∧(∀ j u,news[j]? = some u→w.cell? ⟨b,off+j,none⟩=some u)∧∀ u∈news,∃ x,u=.int .u8 x
theorem C3v {t:Nat} (ht:C5 T t=some (.int .u8)):∀ {n:Nat} {ys:List V} {ds:List Value},RV T e (List.replicate n t) ys ds→ds.length=n∧∀ u∈ds,∃ x,u=.int .u8 x:=by
 intro n
 induction n with
 | zero=>intro ys ds h;cases h;exact ⟨rfl,fun u hu=>by cases hu⟩
 | succ n ih =>
  intro ys ds h
  rw [List.replicate_succ] at h
  cases h with
  | int h1 _ _ h4 =>
   rw [ht] at h1;cases h1
   obtain ⟨g1,g2⟩:=ih h4
   exact ⟨by simp [g1],fun u hu=>by
    rcases List.mem_cons.1 hu with rfl | hu
    ·exact ⟨_,rfl⟩
    ·exact g2 u hu⟩
  | _=>rename_i q _ _;first | (rw [ht] at q;cases q;done) | (simp_all;done)
variable {P:Program} {T:TT} {c:J8} {e:B4} {of:Nat→Option Ob}
theorem C3w (hT:L8 T P) (h:A5 T c e of) {id kt et t:Nat} {es:List (V×V)} (hof:of id=some (.vm kt et es)) (hk:C5 T t=some (.map kt et)) {te:TE} (hte:T et=some te) (hne:TK.notOther te.k=true) (hf:eqT T EQD kt=true) {kv:V} {key:Value} (hy:C2 T e (.v kt kv) key) {b:Nat} (hι:e.ι id=some (b,0)) {z:Value} (hz:∀ w,(zeroValue et).run P w=.ok z w) :
  ∃ v x,(∀ w',w'.heap[b]? = e.w.heap[b]? → (Instr.lookup t (.map (some b)) key false).run P w'=.ok v w')∧RV T e [et] [x] v.cells.toList∧W7 T et v∧((A0S kv es=true∧x=A0E kv es)∨x=te.zero):=by
 obtain ⟨tem,h1,h2⟩:=A9 hk
 have hu:=M7 (hT _ _ h1) h2
 have hck:∀ em w',(Instr.checkKey em 10000 kt key).run P w'=.ok () w':=fun em w'=>M3 hT em w' EQD kt 9992 kv key hf hy
 obtain ⟨v1,v2,b',ms,clock,v3,v4,v5,es',v6,v7⟩:=h.ok _ _ hof
 rw [v3] at hι;cases hι
 have hg:∀ w',w'.heap[b]? = e.w.heap[b]? → (getObj b).run P w'=.ok (.map ms clock) w':=fun w' hw=>MapKept.run_getObj_map (hw.trans v4)
 obtain ⟨rr,g1,g2⟩:=A3V hT hf hy e.w v7
 have g1':∀ w',(Instr.findKey kt key ms.toList).run P w'=.ok rr w':=fun w'=>by
  obtain ⟨r',q1,q2⟩:=A3V hT hf hy w' v7
  rcases g2.fnd v5.1 v6 with ⟨rfl,hfn⟩ | ⟨i,me,a,rfl,hm1,hm2,hfn⟩
  ·rcases q2.fnd v5.1 v6 with ⟨rfl,_⟩ | ⟨_,_,_,_,_,_,hfn'⟩
   ·exact q1
   ·rw [hfn] at hfn';cases hfn'
  ·rcases q2.fnd v5.1 v6 with ⟨_,hfn'⟩ | ⟨i',me',a',rfl,hm1',hm2',hfn'⟩
   ·rw [hfn] at hfn';cases hfn'
   ·have hnd:(es'.map (·.1)).Nodup:=(v6.map _).nodup_iff.2 v5.1
    have hii:i'=i:=by
     have hl:=(List.getElem?_eq_some_iff.1 hm2).1
     have hl':=(List.getElem?_eq_some_iff.1 hm2').1
     have e1:(es'.map (·.1))[i']? = some kv:=by rw [List.getElem?_map,hm2'];rfl
     have e2:(es'.map (·.1))[i]? = some kv:=by rw [List.getElem?_map,hm2];rfl
     exact (List.getElem?_inj (by simpa using hl') hnd).1 (e1.trans e2.symm)
    subst hii
    rw [hm1] at hm1';cases hm1'
    exact q1
 rcases g2.fnd v5.1 v6 with ⟨rfl,hfn⟩ | ⟨i,me,a,rfl,hm1,hm2,hfn⟩
 ·obtain ⟨z',r1,r2,r3⟩:=A4p (hT _ _ hte) e.w
  rw [hz] at r1;cases r1
  refine ⟨z,te.zero,fun w' hw=>?_,r2.elim (fun q=>q e) (fun q=>absurd q (W0 hne)),?_,.inr rfl⟩
  ·simp [Instr.lookup,A2 hu,hg w' hw,hck,g1',hz]
  ·exact ⟨fun ⟨k,hk,ha⟩=>r3.1 (by rw [M0 hte] at hk;injection hk with hk;rw [hk];exact ha),fun hz=>⟨te.k,M0 hte,r3.2 hz⟩⟩
 ·rw [B3h] at hfn
  obtain ⟨q1,q2,q3⟩:=v7.at hm2 hm1
  cases hv:A0S kv es with
  | false=>rw [hv] at hfn;cases hfn
  | true =>
   rw [hv] at hfn
   simp only [cond_true,D5X] at hfn
   subst hfn
   refine ⟨me.val,A0E kv es,fun w' hw=>?_,q2.1,q2.2,.inl ⟨rfl,rfl⟩⟩
   simp [Instr.lookup,A2 hu,hg w' hw,hck,g1']
structure D0z (T:TT) (tc to ti tl tb te:Nat):Prop where
 c:C5 T tc=some (.struct [to,ti,tb])
 o:C5 T to=some (.struct [ti,tl])
 i:C5 T ti=some (.int .i64)
 l:C5 T tl=some (.slice te)
 b:C5 T tb=some .bool
 e:C5 T te=some (.int .u8)
theorem A9X {tc to ti tl tb te:Nat} (hC:D0z T tc to ti tl tb te) {x:V} {v:Value} (h:RV T e [tc] [x] v.cells.toList) (ha:W7 T tc v) (hl:(M2 x).els.length≤1000000):∃ a L b q lk,v=.agg #[.int .i64 a,L,.int .i64 b,.bool q]∧x=.l [.l [.i a,lk],.i b,.b q]∧RV T e [tl] [lk] [L]∧inR .i64 a∧inR .i64 b∧B5c e.w L:=by
 obtain ⟨cs,rfl⟩:=ha.1 ⟨_,hC.c,rfl⟩
 have h:RV T e [tc] [x] cs.toList:=h
 generalize hcs:cs.toList=l at h
 obtain ⟨ys,ds,rfl,rfl,h2⟩:∃ ys ds,x=.l ys∧l=ds∧RV T e [to,ti,tb] ys ds:=by
  cases h with
  | struct h1 _ h2 h3=>rw [hC.c] at h1;cases h1;cases h3;exact ⟨_,_,rfl,List.append_nil _,h2⟩
  | _=>rename_i q _ _;first | (rw [hC.c] at q;cases q;done) | (simp_all [hC.c];done)
 obtain ⟨y1,ys2,d1,ds2,rfl,rfl,k1,k2⟩:=h2.split [to]
 have hlen:=k1.length.2
 match y1,hlen with
 | [y],_ =>
 obtain ⟨zs,es,rfl,rfl,h3⟩:∃ zs es,y=.l zs∧d1=es∧RV T e [ti,tl] zs es:=by
  cases k1 with
  | struct h1 _ q2 q3=>rw [hC.o] at h1;cases h1;cases q3;exact ⟨_,_,rfl,List.append_nil _,q2⟩
  | _=>rename_i q _ _;first | (rw [hC.o] at q;cases q;done) | (simp_all [hC.o];done)
 have hi:∀ {ts zs ds},RV T e (ti::ts) zs ds→∃ n zs' ds',zs=.i n::zs'∧ds=.int .i64 n::ds'∧inR .i64 n∧RV T e ts zs' ds':=by
  intro ts zs ds h
  cases h with
  | int m1 m2 m3 m4=>rw [hC.i] at m1;cases m1;exact ⟨_,_,_,rfl,rfl,m3,m4⟩
  | _=>rename_i q _ _;first | (rw [hC.i] at q;cases q;done) | (simp_all [hC.i];done)
 obtain ⟨a,zs',es',rfl,rfl,ha1,h4⟩:=hi h3
 obtain ⟨b,ys3,ds3,rfl,rfl,hb1,h5⟩:=hi k2
 obtain ⟨q,rfl,rfl⟩:∃ q,ds3=[.bool q]∧ys3=[.b q]:=by
  cases h5 with
  | bool p1 p2 p3=>cases p3;exact ⟨_,rfl,rfl⟩
  | _=>rename_i q _ _;first | (rw [hC.b] at q;cases q;done) | (simp_all [hC.b];done)
 have fin:∀ L lk,es'=[L]→zs'=[lk]→RV T e [tl] [lk] [L]→B5c e.w L→∃ a0 L b0 q0 lk,Value.agg cs=.agg #[.int .i64 a0,L,.int .i64 b0,.bool q0]∧V.l ([V.l (V.i a::zs')]++V.i b::[V.b q])=.l [.l [.i a0,lk],.i b0,.b q0]∧RV T e [tl] [lk] [L]∧inR .i64 a0∧inR .i64 b0∧B5c e.w L:=by
  rintro L lk rfl rfl hr hL
  exact ⟨a,L,b,q,lk,congrArg Value.agg (Array.toList_inj.1 hcs),rfl,hr,ha1,hb1,hL⟩
 have h4':=h4
 cases h4 with
 | nils r1 r2 r3=>cases r3;exact fin _ _ rfl rfl h4' (.inl rfl)
 | @slice _ _ ws ds ad n cap _ _ _ r1 r2 r3 r4 r5 r6 r7 =>
  cases r7
  rw [hC.l] at r1;cases r1
  obtain ⟨u1,u2⟩:=C3v hC.e r6
  have hy:ws.length≤1000000:=hl
  rw [r3] at hy
  refine fin _ _ rfl rfl h4' ?_
  obtain ⟨bk,off,sp⟩:=ad
  cases ds with
  | nil=>simp at u1;subst u1;exact .inr (.inl ⟨_,_,rfl⟩)
  | cons d ds =>
   have hsp:sp=none:=r5.1 (by simp)
   subst hsp
   refine .inr (.inr ⟨bk,off,n,cap,d::ds,rfl,by omega,hy,fun j u hj=>?_,u2⟩)
   have:=(r5.2 j u hj).1
   rwa [B2N rfl] at this
 | _=>rename_i q _ _;first | (rw [hC.l] at q;cases q;done) | (simp_all [hC.l];done)
theorem B8L {t el:Nat} (hk:C5 T t=some (.slice el)) {L:Value} (h:RV T e [t] [.n] [L]):L=.slice none 0 0:=by
 generalize hl:[L]=l at h
 cases h with
 | nils _ _ h3=>cases h3;injection hl
 | _=>rename_i q _ _;first | (rw [hk] at q;cases q;done) | (simp_all;done)
theorem B2Y {t el:Nat} (hk:C5 T t=some (.slice el)) {L:Value} (h:RV T e [t] [.l []] [L]):∃ a c,L=.slice (some a) 0 c:=by
 generalize hl:[L]=l at h
 cases h with
 | slice _ _ h3 _ _ _ h7=>cases h7;simp at h3;subst h3;injection hl with hl;exact ⟨_,_,hl⟩
 | _=>rename_i q _ _;first | (rw [hk] at q;cases q;done) | (simp_all;done)
theorem B2Z {o:Oper} {a:Act} {w w':World} {K:Act→World→Prop} {Q:Exit→Act→World→Prop} {v:Value} (hrun:(execOp a.eval o).run P w=.ok (.value v) w') (h:K (a.put o.dst v) w'):o.wp P a w K Q:=by
 unfold Oper.wp
 rw [hrun];exact h
theorem B8M {o:Oper} {a:Act} {w:World} {K:Act→World→Prop} {Q:Exit→Act→World→Prop} {f:FuncId} {args:Array Value} {R:Value→World→Prop} (hrun:(execOp a.eval o).run P w=.ok (.enter f args) w) (hc:Calls P f args w fun en w'=>∃ v,en=.returned v∧R v w') (hK:∀ v w',R v w'→K (a.put o.dst v) w'):o.wp P a w K Q:=by
 unfold Oper.wp
 rw [hrun]
 exact hc.mono fun en w' ⟨v,h1,h2⟩=>by subst h1;exact hK v w' h2
theorem A0q {s:Sem Value} {w w':World} {v:Value} (h:s.run P w=.ok v w'):(s.run P w).andThen (fun a w'=>Result.ok (Next.value a) w')=.ok (.value v) w':=by rw [h];rfl
variable {P:Program} {T:TT}
def cut:Nat→Code→Code
 | 0,.seq a _=>a
 | k+1,.seq a b=>.seq a (cut k b)
 | _,c=>c
def rst:Nat→Code→Code
 | k+1,.seq _ b=>rst k b
 | _,c=>c
def C3x:Nat→Code→Bool
 | 0,.seq _ _=>true
 | k+1,.seq _ b=>C3x k b
 | _,_=>false
theorem D2h (hm:P.follows .mixedOrders=true) (hT:L8 T P) {K:KS} (hK:X9 P T K) {Lo:A3B} {fu nt n0 m:Nat} {of of':Nat→Option Ob} {c:J8} {eb:B4} {ex:Exit} {σ':St} {Q:Exit→Act→World→Prop} (hfit:A2U of of' eb n0 σ') (hba:A85 T eb of') :
  ∀ (k:Nat) (cd:Code) (σ:St),C3x k cd=true→L7 P T nt n0 Lo (cut k cd)→N4 T K Lo fu nt of (cut k cd) σ=some (ex,σ')→∀ (a:Act) (w:World),n0≤σ.nx→Sim T c eb of' n0 nt σ a w →
   (∀ a' w',Sim T c eb of' n0 nt σ' a' w'→(ex=.normal→(rst (k+1) cd).wpIn (WF c.rd) m P Q a' w')∧(ex≠.normal→Q ex a' w'))→cd.wpIn (WF c.rd) m P Q a w:=by
 intro k
 induction k with
 | zero =>
  intro cd σ hs hl hx a w hn hsim hQ
  cases cd with
  | seq x y =>
   obtain ⟨_,hT'⟩:=A0T (P:=P) hm hT hK (n0:=n0) x hl σ ex σ' hx
   have hw:=hT' m of' c eb a w hn hfit hba hsim
   refine wpIn_seq (wpIn_mono hw ?_)
   rintro e' a' w' ⟨rfl,h⟩
   obtain ⟨q1,q2⟩:=hQ a' w' h
   cases e' with
   | normal=>exact q1 rfl
   | _=>exact q2 (by intro q;cases q)
  | _=>cases hs
 | succ k ih =>
  intro cd σ hs hl hx a w hn hsim hQ
  cases cd with
  | seq x y =>
   obtain ⟨hl1,hl2⟩:=hl
   have hx:(match N4 T K Lo fu nt of x σ with
    | some (.normal,σ1)=>N4 T K Lo fu nt of (cut k y) σ1
    | r=>r)=some (ex,σ'):=hx
   cases h1:N4 T K Lo fu nt of x σ with
   | none=>rw [h1] at hx;cases hx
   | some p =>
    obtain ⟨ex1,σ1⟩:=p
    obtain ⟨hle1,hT1⟩:=A0T (P:=P) hm hT hK (n0:=n0) x hl1 σ ex1 σ1 h1
    rw [h1] at hx
    cases ex1 with
    | normal =>
     have hx:N4 T K Lo fu nt of (cut k y) σ1=some (ex,σ'):=hx
     obtain ⟨hle2,_⟩:=A0T (P:=P) hm hT hK (n0:=n0) _ hl2 σ1 ex σ' hx
     have hw:=hT1 m of' c eb a w hn (hfit.mono hle2) hba hsim
     refine wpIn_seq (wpIn_mono hw ?_)
     rintro e' a' w' ⟨rfl,h⟩
     exact ih y σ1 hs hl2 hx a' w' (Nat.le_trans hn hle1.2) h hQ
    | _ =>
     injection hx with hx
     injection hx with e1 e2
     subst e1;subst e2
     have hw:=hT1 m of' c eb a w hn hfit hba hsim
     refine wpIn_seq (wpIn_mono hw ?_)
     rintro e' a' w' ⟨rfl,h⟩
     exact (hQ a' w' h).2 (by intro q;cases q)
  | _=>cases hs
theorem C3y (hm:P.follows .mixedOrders=true) (hT:L8 T P) {K:KS} (hK:X9 P T K) {Lo:A3B} {fu nt k:Nat} {cd:Code} {σ σ':St} {ex:Exit} {c:J8} {e:B4} {of:Nat→Option Ob} {Q:Exit→Act→World→Prop} (hs:C3x k cd=true) (hlo:L7 P T nt σ.nx Lo (cut k cd)) (hx:N4 T K Lo fu nt (fun _=>none) (cut k cd) σ=some (ex,σ'))
  (hos:A5 T c e of) (hob:∀ id o,C1 σ.ob (fun _=>none) id=some o→of id=some o) (hU:∀ id,σ.nx≤id→id < σ'.nx→¬ e.U id) (hrd:σ'.rd=[]) (hmk:σ.mks=some []) (hmk':σ'.mks=some []) {a:Act} (hsl:∀ t,C2 T e (F1 σ.sl t) (a.tmps.getD t undef)) (hnt:a.tmps.size=nt) (hd:a.defers=[])
  (hQ:∀ a' w' e',D0x T c e of nt σ σ' a' w' e'→(ex=.normal→(rst (k+1) cd).wp P Q a' w')∧(ex≠.normal→Q ex a' w')) :
  cd.wp P Q a e.w:=by
 have heq:∀ id o,C1 σ.ob of id=some o→of id=some o:=by
  intro id o ho
  unfold C1 at ho
  cases hg:σ.ob.get id with
  | none=>rw [hg] at ho;exact ho
  | some o' =>
   rw [hg] at ho
   refine (hob id o' (by unfold C1;rw [hg])).trans ?_
   exact ho
 have hsim:Sim T (J8.here e of none) e of σ.nx nt σ a e.w :=
  ⟨e,rfl,(hos.here none).sub (fun id o ho=>heq id o ho),B4.le.refl e,fun id A3=>.inl A3,hsl,by rw [hmk,hd];exact ⟨rfl,.nil⟩,hnt⟩
 refine (wpIn_wide (n:=0)).1 (D2h (m:=0) (c:=J8.here e of none) (of:=fun _=>none) hm hT hK ⟨(fun id A3=>by rw [hrd] at A3;cases A3),hU⟩ (fun id o ho=>hos.ok _ _ ho) k cd σ hs hlo hx a e.w (Nat.le_refl _) hsim ?_)
 rintro a' w' ⟨e2,rfl,hst⟩
 have hos2:=hst.os
 obtain ⟨q1,q2⟩:=hQ a' e2.w e2 ⟨rfl,hos.back_here hos2,hst.le,hst.U,hst.sl,hst.nt,A9U (by have:=hst.def_;rw [hmk'] at this;exact this),fun b hb hM=>hos2.block b hb hM⟩
 exact ⟨fun h=>(wpIn_wide (n:=0)).2 (q1 h),q2⟩
variable {R:Type}
def C7W (es:Em) (k:Em→List V→Bool→Option R):Option R :=
 bif Nat.ble es.length 200 then (ln (P7 (es.map (·.1))).length <| C8 (B8J R) (A3 FU) (.m es [] true (P7 (es.map (·.1))) es.isEmpty ((P7 (es.map (·.1))).length:Nat) 0) fun q=>match q with
  | .o es1 xs1 nl1 ks1 kn1 n1 i1=>k es1 xs1 nl1) else none
theorem C3z {es:Em} {ks:List V} {kn:Bool} {ko:Option R} {kx:D2e→Option R} {ys:List V} (h1:∀ n i,kx (.o es ys ys.isEmpty ks kn n i)=ko):∀ (r a xs:List V) (nl:Bool) (fuel:Nat),ks=a++r→xs++C3s es r=ys→nl=xs.isEmpty→(∀ k∈r,A0S k es=true∧(M2 (A0E k es)).els.length≤1000000)→a.length+r.length≤100000→xs.length+r.length≤100000→r.length < fuel →
  C8 (B8J R) fuel (.m es xs nl ks kn (ks.length:Nat) (a.length:Nat)) kx=ko:=by
 intro r
 induction r with
 | nil =>
  intro a xs nl fuel he hy hnl hk ha hx hf
  obtain ⟨g,rfl⟩:∃ g,fuel=g+1:=⟨fuel - 1,by omega⟩
  rw [List.append_nil] at he
  subst he
  have hy:xs=ys:=by rw [← hy];simp [C3s]
  subst hy
  subst hnl
  rw [C8,B8J,show D4 (ks.length:Nat) (ks.length:Nat)=false by rw [B6f,decide_eq_false_iff_not];omega,cond_false];exact h1 _ _
 | cons x r ih =>
  intro a xs nl fuel he hy hnl hk ha hx hf
  obtain ⟨g,rfl⟩:∃ g,fuel=g+1:=⟨fuel - 1,by simp at hf;omega⟩
  simp only [D52] at ha hf hx
  have hle:ks.length=a.length+(r.length+1):=by rw [he];simp
  have hat:ks.getD ((a.length:Nat):Int).toNat .n=x:=by rw [he];simp
  obtain ⟨hk1,hk2⟩:=hk x (by simp)
  have ih:=ih (a++[x]) (xs++[.l [x,A0E x es]]) (nl&&false) g (by rw [he];simp) (by rw [← hy];simp [C3s]) (by cases xs<;>simp) (fun y hy=>hk y (by simp [hy]))
  simp only [D5W,D53] at ih
  rw [C8,B8J,show D4 (a.length:Nat) (ks.length:Nat)=true by rw [B6f,D56];omega,cond_true,H0 (by omega) (by omega),hat,A0h (by omega),hk1,cond_true,E3 (by omega),E3 (by omega)]
  exact ih (by omega) (by omega) (by omega)
theorem B20 {es:Em} {w:List V} {k:Em→List V→Bool→Option R} (hI:Inv es w) (hok:okM es) (hl:es.length≤200):C7W es k=k es w w.isEmpty:=by
 have hq:=A3U
 have hw:=hI.len
 have hks:(P7 (es.map (·.1))).length=es.length:=by rw [hI.keys,D5Y,hw]
 unfold C7W
 rw [D54 hl,cond_true,G3 (by omega)]
 refine C3z (ks:=P7 (es.map (·.1))) (ys:=w) (fun n i=>?_) (P7 (es.map (·.1))) [] [] true (A3 FU) rfl (by rw [List.nil_append];exact hI.all) rfl (fun k hk=>?_) (by simp only [List.length_nil];omega) (by simp only [List.length_nil];omega) (by omega)
 ·rfl
 rw [hI.keys] at hk
 obtain ⟨x,hx,rfl⟩:=List.mem_map.1 hk
 have hm:=hI.mem hx
 obtain ⟨_,_,_,_,h5⟩:=hok _ (A6I hm.1)
 have h5:(M2 (A0E (x.nth 0) es)).els.length≤300:=h5
 exact ⟨hm.1,by omega⟩
def apX (t:V) (b:Bool) (es1:Em) (k:Option R):Option R :=
 ln (t.nth 1).els.length <| C8 (BAi R) (A3 FU) (.m es1 t (t.nth 1) 5 b [] true ((t.nth 1).els.length:Nat) 0) fun q=>match q with
 | .o es3 t3 l3 h3 b3 xs3 nl3 n3 i3=>bif txg [t3] then (ln (t3.nth 2).els.length <| C8 (BAo R) (A3 FU) (.m es3 h3 b3 xs3 nl3 (A59 (A3E (V9 (.l (txL t3))))) (t3.nth 2) ((t3.nth 2).els.length:Nat) 0) fun q=>match q with
  | .o es4 h4 b4 xs4 nl4 d4 l4 n4 i4=>k) else none
def C7X (l t:V) (kr:Option R) (k:Em→List V→Bool→Option R):Option R :=
 bif rgg [l] then (bif A2j l.els 0 0 then (bif gtg [t] then (bif A3M t then kr else
  ln l.els.length <| C8 (BNw R) (A3 FU) (.m l [] (l.els.length:Nat) 0) fun q=>match q with
  | .o l2 es n2 i2=>C7W es fun es1 xs1 nl1=>bif Nat.ble (t.nth 1).els.length 1000 then (bif B2j t then apX t true es1 (k es1 xs1 nl1) else apX t false es1 (k es1 xs1 nl1)) else none) else none) else kr) else none
theorem B67 {t:V} {b:Bool} {es:Em} {k:Option R} (hok:okM es) (hkn:kN es) (ht:txg [t]=true) (hins:(t.nth 1).els.length≤12) (houts:(t.nth 2).els.length≤12) (hlk:∀ o∈(t.nth 2).els,(o.nth 1).els.length≤300):apX t b es k=k:=by
 have hq:=A3U
 unfold apX
 rw [G3 (by omega)]
 refine C7U (es0:=(B7T b (t.nth 1).els es []).1) (xs0:=(B7T b (t.nth 1).els es []).2) (fun n' i'=>?_) (t.nth 1).els [] es [] true (A3 FU) rfl rfl hok rfl (by simp;omega) (by simp;omega) (by omega)
 simp only
 rw [ht,cond_true,G3 (by omega)]
 exact (D04 (d:=A59 (A3E (V9 (.l (txL t))))) (l:=t.nth 2) (h:=5) (b:=b) _ (t.nth 2).els [] _ (A3 FU) rfl (fun o ho=>by have:=hlk o ho;omega) (by simp;omega) (by omega)).trans rfl
theorem C3A {l t:V} {kr:Option R} {k:Em→List V→Bool→Option R} (hl:(D.slice A0i).has l) (hm:D.smL [.slice A0i,DTx] [l,t]) (ht:DTx.has t) :
  C7X l t kr k=kr∨∃ es w,Inv es w∧okM es∧es.length≤31∧C7X l t kr k=k es w w.isEmpty:=by
 have hq:=A3U
 obtain ⟨m1,m2,_⟩:=hm
 have hgt:gtg [t]=true:=(D3B (h:=.i 0) hl ht ⟨m1,m2,trivial,trivial⟩).2
 have hrg:rgg [l]=true:=by
  show (Nat.ble l.els.length 9223372036854775807&&l.els.all fun x=>Nat.ble (M2 (x.nth 1)).els.length 9223372036854775807)=true
  simp only [D5V,Nat.ble_eq,List.all_eq_true]
  refine ⟨m1.1,fun x hx=>?_⟩
  have hs:=m1.2 x hx
  obtain ⟨r0,c,rfl,_,hc⟩:=A6x (A0l hl x hx)
  obtain ⟨v,kk,hh,q,rfl,_⟩:=A6d hc
  exact hs.2.1.1.2.1.1
 unfold C7X
 rw [hrg,cond_true]
 cases hr:A2j l.els 0 0 with
 | false=>exact .inl rfl
 | true =>
 rw [cond_true,hgt,cond_true]
 cases hgr:A3M t with
 | true=>exact .inl rfl
 | false =>
 obtain ⟨r1,r2⟩:=B2k _ _ _ hr
 have r2:=r2 (by omega)
 obtain ⟨⟨g1,g2⟩,g3,g4⟩:=C7V hgr
 have htx:=D2g g1 g2 g3 g4
 obtain ⟨f1,f2,f3⟩:=B7U l.els [] List.nodup_nil
 simp only [List.length_nil] at f2
 have hok:okM (A8M l.els []):=fun p hp=>by
  rcases f3 p hp with hp | ⟨z,hz,rfl⟩
  ·cases hp
  ·exact A33 (r1 z hz)
 have hI:Inv (A8M l.els []) (D2f l.els (.l (List.replicate 0 zSp))).els:=B8K l.els (fun s hs=>by
  obtain ⟨r0,c,rfl,hr0,hc⟩:=A6x (A0l hl s hs)
  exact ⟨hr0,rfl⟩) .nil
 refine .inr ⟨A8M l.els [],_,hI,hok,by omega,?_⟩
 rw [cond_false,G3 (by omega)]
 refine (D02 _ l.els [] [] (A3 FU) rfl (fun z hz=>by have:=(A33 (r1 z hz)).2.2.2.2;omega) (by simp only [List.length_nil];omega) (by omega)).trans ?_
 simp only
 rw [B20 hI hok (by omega),D54 (by omega:(t.nth 1).els.length≤1000),cond_true]
 cases B2j t with
 | true=>exact B67 hok f1 htx g1 g2 g4
 | false=>exact B67 hok f1 htx g1 g2 g4
def C7Y (es:Em) (xs:List V) (nl:Bool) (k:Bool→Option R):Option R :=
 C7W es fun es1 xs1 nl1=>bif pqg [bif nl1 then .n else .l xs1,bif nl then .n else .l xs] then (bif A9T (bif nl1 then .n else .l xs1) (bif nl then .n else .l xs) then ln es1.length (ln xs.length (bif Y6 (es1.length:Nat) (xs.length:Nat) then k true else k false)) else k false) else none
theorem C3B {es:Em} {w:List V} {k:Bool→Option R} (hI:Inv es w) (hok:okM es) (hl:es.length≤200):C7Y es w w.isEmpty k=k true:=by
 have hw:=hI.len
 unfold C7Y
 rw [B20 hI hok hl]
 have he:(bif w.isEmpty then V.n else V.l w).els=w:=by cases w<;>rfl
 have hp:pqg [bif w.isEmpty then V.n else V.l w,bif w.isEmpty then V.n else V.l w]=true:=by
  show (Nat.ble (bif w.isEmpty then V.n else V.l w).els.length 10000&&Nat.ble (bif w.isEmpty then V.n else V.l w).els.length 10000)=true
  rw [he,D54 (by omega)];rfl
 rw [hp,cond_true,C3u rfl,cond_true,G3 (by omega),G3 (by omega),hw]
 rw [C3Z,cond_true]
end Go.Vm
end