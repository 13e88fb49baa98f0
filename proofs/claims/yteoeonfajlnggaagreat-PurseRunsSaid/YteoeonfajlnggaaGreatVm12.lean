/- What the operations of a program do, shown once for all programs; and numbers. -/
import Derived.Test.YteoeonfajlnggaaGreatVm11
import Derived.Test.YteoeonfajlnggaaGreatVm9
import Derived.Test.YteoeonfajlnggaaGreatVm8
set_option linter.constructorNameAsVariable false
set_option linter.unusedVariables false
set_option linter.unusedSimpArgs false
noncomputable section
namespace Go.Vm
theorem unrI_rwVK (d:Array V):A1Q (C0 d)=d:=rfl
noncomputable section
open Go.RowKit Go.Sort
variable {R:Type}
theorem B7T {xs:List V} (h:B9w xs=true):∃ d:Array V,xs=C0 d∧A1Q xs=d∧d.size≤1000000∧d.size=xs.length:=by
 have h:Nat.ble xs.length 1000000=true:=h
 have e:C0 (A1Q xs)=xs:=rfl
 have hs:(A1Q xs).size=xs.length:=by rw [← Q8,e]
 have:=E0x h
 exact ⟨A1Q xs,e.symm,rfl,by omega,hs⟩
theorem B1O {s:SaK} (h:A2k s=true):∃ (a b:Nat) (d:Array V),s.a=(a:Int)∧s.b=(b:Int)∧s.xs=C0 d∧s.d=d∧a < b∧b≤d.size∧d.size≤1000000:=by
 simp only [A2k,E0s,J1] at h
 obtain ⟨a,b,d,h1,h2,h3,h4,h5,h6,h7⟩:=A3k h.2
 exact ⟨a,b,d,h1,h2,h3,h4,by omega,h6,h7⟩
theorem B7U {s:SaK} (h:A48 s=true):∃ (a b c:Nat) (d:Array V),s.a=(a:Int)∧s.b=(b:Int)∧s.c=(c:Int)∧s.xs=C0 d∧s.d=d∧a≤c∧c < b∧b≤d.size∧d.size≤1000000:=by
 simp only [A48,E0s,J1,C5] at h
 obtain ⟨a,b,d,h1,h2,h3,h4,h5,h6,h7⟩:=A3k h.2.2
 obtain ⟨c,hc⟩:=Int.eq_ofNat_of_zero_le (show 0≤s.c by omega)
 exact ⟨a,b,c,d,h1,h2,hc,h3,h4,by omega,by omega,h6,h7⟩
theorem C46 {xs:List V} {a b c:Int} (h:B0V ⟨xs,a,b,c⟩=true) (k:List V→Option R) :
  B7 (A2S R) (A2 FU) (.m xs a b c) (fun | .o ys _ _ _=>k ys | .r ys _ _ _=>k ys)=k (A3L ⟨xs,a,b,c⟩):=by
 simp only [B0V,E0s,C5] at h
 obtain ⟨h1,h2,h3,h4,h5,h6⟩:=h
 obtain ⟨d,rfl,h7,h8,h9⟩:=B7T h6
 obtain ⟨a,rfl⟩:=Int.eq_ofNat_of_zero_le h1
 obtain ⟨b,rfl⟩:=Int.eq_ofNat_of_zero_le h2
 obtain ⟨c,rfl⟩:=Int.eq_ofNat_of_zero_le h3
 rw [Q8] at h4
 obtain ⟨r',q,hq,h10⟩:=C1W (R:=R) b c b a (A2 FU) d (by omega) (S3 (by omega)) (by omega) (by omega) (by omega)
 rw [h10]
 have e:A3L ⟨C0 d,a,b,c⟩=C0 (siftDown B3 b c a d):=by rw [A3L,E9];simp only [SaK.d,h7,Int.toNat_natCast]
 rw [e]
 rcases hq with rfl | rfl<;>rfl
theorem C47 {xs:List V} {a b:Int} (h:A2k ⟨xs,a,b,0⟩=true) (k:List V→Option R) :
  B7 (A5P R) (A2 FU) (.m xs a (B2 (b - 1))) (fun | .o ys _ _=>k ys)=k (A3M ⟨xs,a,b,0⟩):=by
 obtain ⟨a',b',d,h1,h2,h3,h4,h5,h6,h7⟩:=B1O h
 simp only at h1 h2 h3
 subst h1 h2 h3
 obtain ⟨i',j',h8⟩:=C1X (R:=R) b' a' (b' - 1) (A2 FU) d (by omega) (S3 (by omega)) (by omega) (by omega) (by omega)
 rw [G1 (n:=b' - 1) (by omega) (by omega),h8]
 simp only
 rw [A3M,E9,h4];rfl
theorem C48 {xs:List V} {a b:Int} (h:A2k ⟨xs,a,b,0⟩=true) (k:Bool→List V→Option R) :
  B7 (A1S R) (A2 FU) (.m xs a b (B2 (a+1)) 0) (fun | .o ys _ _ _ _=>k false ys | .r ys _ _ _ _=>k false ys | .t ys _ _ _ _=>k true ys)=k (A5V ⟨xs,a,b,0⟩) (A4f ⟨xs,a,b,0⟩):=by
 obtain ⟨a',b',d,h1,h2,h3,h4,h5,h6,h7⟩:=B1O h
 simp only at h1 h2 h3
 subst h1 h2 h3
 obtain ⟨i',s',q,h8,h9⟩:=C17 (R:=R) a' b' 5 0 (a'+1) (A2 FU) d (by omega) (S3 (by omega)) (by omega) (by omega) h6 h7
 have e:B7 (A1S R) (A2 FU) (.m (C0 d) a' b' (B2 ((a':Int)+1)) 0)=B7 (A1S R) (A2 FU) (.m (C0 d) a' b' ((a'+1:Nat):Int) ((0:Nat):Int)):=by
  rw [G1 (n:=a'+1) (by omega) (by omega)];rfl
 rw [e,h8]
 rw [A5V,A4f,E9,E9,h4]
 show _=k (partialIns B3 a' b' 5 (a'+1) d).2 (C0 (partialIns B3 a' b' 5 (a'+1) d).1)
 rcases h9 with ⟨rfl,h10⟩ | ⟨rfl,h10⟩ | ⟨rfl,h10⟩<;>rw [h10]
theorem C49 {xs:List V} {a b c:Int} (h:A48 ⟨xs,a,b,c⟩=true) (k:Int→List V→Option R) :
  A02 xs a c (fun ys=>B7 (A52 R) (A2 FU) (.m ys a (B2 (a+1)) (B2 (b - 1))) (fun | .o zs _ i _=>k i zs))=k (A5X ⟨xs,a,b,c⟩) (A5W ⟨xs,a,b,c⟩):=by
 obtain ⟨a',b',c',d,h1,h2,h3,h4,h5,h6,h7,h8,h9⟩:=B7U h
 simp only at h1 h2 h3 h4
 subst h1 h2 h3 h4
 rw [N7 rfl rfl (by omega) (by omega),G1 (n:=a'+1) (by omega) (by omega),G1 (n:=b' - 1) (by omega) (by omega)]
 obtain ⟨j',h10⟩:=C15 (R:=R) a' b' (a'+1) (b' - 1) (A2 FU) (swp d a' c') (by omega) (S3 (by omega)) (by omega) (by omega) (by rw [C2];omega) (by rw [C2];omega) (by rw [C2];omega)
 rw [h10]
 simp only
 rw [A5X,A5W,E9,E9,h5];rfl
theorem B1P (a:Nat):∀ (m i j:Nat) (d:Array V),j+1 - i≤m→(partLoop B3 a i j d).1≤j∧(partLoop B3 a i j d).2.size=d.size:=by
 intro m
 induction m with
 | zero =>
  intro i j d hm
  rw [partLoop]
  have hv:=scanDown_le (fun x=>!B3 x d[a]!) d (scanUp (fun x=>B3 x d[a]!) d j i) j
  split
  ·exact ⟨hv,rfl⟩
  ·rw [dif_neg (by omega)];exact ⟨hv,rfl⟩
 | succ m ih =>
  intro i j d hm
  rw [partLoop]
  have hv:=scanDown_le (fun x=>!B3 x d[a]!) d (scanUp (fun x=>B3 x d[a]!) d j i) j
  split
  ·exact ⟨hv,rfl⟩
  ·split
   ·rename_i h1 h2
    obtain ⟨h3,h4⟩:=ih (scanUp (fun x=>B3 x d[a]!) d j i+1) (scanDown (fun x=>!B3 x d[a]!) d (scanUp (fun x=>B3 x d[a]!) d j i) j - 1) (swp d (scanUp (fun x=>B3 x d[a]!) d j i) (scanDown (fun x=>!B3 x d[a]!) d (scanUp (fun x=>B3 x d[a]!) d j i) j)) (by omega)
    exact ⟨by omega,by rw [h4,C2]⟩
   ·exact ⟨hv,rfl⟩
def D3Z (R:Type) (k:Int→Bool→List V→Option R) (xs:List V) (a i j:Int):Option R :=
 bif C3 j i then A02 xs j a (k j true) else A02 xs i j (fun xs=>B7 (A63 R) (A2 FU) (.m xs a (B2 (i+1)) (B2 (j - 1))) (fun | .o xs a i j=>A02 xs j a (k j false)))
def C5a (R:Type) (xs:List V) (a b c:Int) (k:Int→Bool→List V→Option R):Option R :=
 A02 xs a c (fun xs=>B7 (A9I R) (A2 FU) (.m xs a (B2 (a+1)) (B2 (b - 1))) (fun | .o xs a i j=>B7 (A9K R) (A2 FU) (.m xs a i j) (fun | .o xs a i j=>D3Z R k xs a i j)))
theorem C5b {xs:List V} {a b c:Int} (h:A48 ⟨xs,a,b,c⟩=true) (k:Int→Bool→List V→Option R) :
  C5a R xs a b c k=k (A5Z ⟨xs,a,b,c⟩) (A0F ⟨xs,a,b,c⟩) (A5Y ⟨xs,a,b,c⟩):=by
 obtain ⟨a',b',c',d,h1,h2,h3,h4,h5,h6,h7,h8,h9⟩:=B7U h
 simp only at h1 h2 h3 h4
 subst h1 h2 h3 h4
 have hsz:=C2 d a' c'
 rw [C5a,N7 rfl rfl (by omega) (by omega),G1 (n:=a'+1) (by omega) (by omega),G1 (n:=b' - 1) (by omega) (by omega)]
 rw [C11 a' (b' - 1) b' (a'+1) _ (swp d a' c') (by omega) (S3 (by omega)) (by omega) (by omega) (by omega) (by omega)]
 simp only
 rw [C12 a' _ (Nat.le_trans (by omega) (scanUp_ge _ _ _ _)) (b' - 1) _ (swp d a' c') (S3 (by omega)) (by omega) (by omega) (by omega)]
 simp only
 rw [D3Z]
 have hu:=A3V (fun x=>B3 x (swp d a' c')[a']!) (swp d a' c') (b' - 1) b' (a'+1) (by omega) (by omega)
 have hu2:=scanUp_ge (fun x=>B3 x (swp d a' c')[a']!) (swp d a' c') (b' - 1) (a'+1)
 rw [A5Z,A0F,A5Y,E9,E9,E9,h5]
 simp only [Int.toNat_natCast,partition]
 generalize scanUp (fun x=>B3 x (swp d a' c')[a']!) (swp d a' c') (b' - 1) (a'+1)=i at hu hu2 ⊢
 have hv:=scanDown_le (fun x=>!B3 x (swp d a' c')[a']!) (swp d a' c') i (b' - 1)
 generalize scanDown (fun x=>!B3 x (swp d a' c')[a']!) (swp d a' c') i (b' - 1)=j at hv ⊢
 by_cases hij:i > j
 ·rw [G0,decide_eq_true (by omega),cond_true,N7 rfl rfl (by omega) (by omega),if_pos hij]
 ·rw [G0,decide_eq_false (by omega),cond_false,N7 rfl rfl (by omega) (by omega),G1 (n:=i+1) (by omega) (by omega),G1 (n:=j - 1) (by omega) (by omega),if_neg hij]
  have hs2:=C2 (swp d a' c') i j
  obtain ⟨i',h10⟩:=C16 (R:=R) a' b' (i+1) (j - 1) (A2 FU) (swp (swp d a' c') i j) (by omega) (S3 (by omega)) (by omega) (by omega) (by omega) (by omega) (by omega)
  obtain ⟨h11,h12⟩:=B1P a' b' (i+1) (j - 1) (swp (swp d a' c') i j) (by omega)
  rw [h10]
  simp only
  rw [N7 rfl rfl (by omega) (by omega)]
def D30 (R:Type) (xs:List V) (a b:Int) (k:List V→Option R):Option R:=B7 (A51 R) (A2 FU) (.m xs a b (B2 (a+1))) (fun | .o ys _ _ _=>k ys)
def D31 (R:Type) (xs:List V) (a b c:Int) (k:List V→Option R):Option R:=B7 (A2S R) (A2 FU) (.m xs a b c) (fun | .o ys _ _ _=>k ys | .r ys _ _ _=>k ys)
def D32 (R:Type) (xs:List V) (a b:Int) (k:List V→Option R):Option R:=B7 (A5P R) (A2 FU) (.m xs a (B2 (b - 1))) (fun | .o ys _ _=>k ys)
def D33 (R:Type) (xs:List V) (a b:Int) (k:Bool→List V→Option R):Option R:=B7 (A1S R) (A2 FU) (.m xs a b (B2 (a+1)) 0) (fun | .o ys _ _ _ _=>k false ys | .r ys _ _ _ _=>k false ys | .t ys _ _ _ _=>k true ys)
def D34 (R:Type) (xs:List V) (a b c:Int) (k:Int→List V→Option R):Option R:=A02 xs a c (fun ys=>B7 (A52 R) (A2 FU) (.m ys a (B2 (a+1)) (B2 (b - 1))) (fun | .o zs _ i _=>k i zs))
def C5c (R:Type) (xs:List V) (a b n:Int) (k:Int→Int→Int→Option R):Option R:=A3E xs b a (k b a (B2 (n+1))) (k a b n)
theorem B9X {xs:List V} {a b:Int} (h:A03 ⟨xs,a,b,0⟩=true) (k:List V→Option R):D30 R xs a b k=k (A5S ⟨xs,a,b,0⟩):=C14 h k
theorem B9Y {xs:List V} {a b c:Int} (h:B0V ⟨xs,a,b,c⟩=true) (k:List V→Option R):D31 R xs a b c k=k (A3L ⟨xs,a,b,c⟩):=C46 h k
theorem B9Z {xs:List V} {a b:Int} (h:A2k ⟨xs,a,b,0⟩=true) (k:List V→Option R):D32 R xs a b k=k (A3M ⟨xs,a,b,0⟩):=C47 h k
theorem B90 {xs:List V} {a b:Int} (h:A2k ⟨xs,a,b,0⟩=true) (k:Bool→List V→Option R):D33 R xs a b k=k (A5V ⟨xs,a,b,0⟩) (A4f ⟨xs,a,b,0⟩):=C48 h k
theorem B91 {xs:List V} {a b c:Int} (h:A48 ⟨xs,a,b,c⟩=true) (k:Int→List V→Option R):D34 R xs a b c k=k (A5X ⟨xs,a,b,c⟩) (A5W ⟨xs,a,b,c⟩):=C49 h k
end
noncomputable section
open Go.RowKit Go.Sort
variable {R:Type}
inductive B7V where | m (xs:List V) (f h i:Int)
inductive D35 where | o (xs:List V) (f h i:Int)
def A97 (R:Type) (p:B7V) (K:B7V→Option R) (kx:D35→Option R):Option R:=match p with
 | .m xs f h i=>bif F2 0 i then (bif B0V ⟨xs,i,h,f⟩ then K (.m (A3L ⟨xs,i,h,f⟩) f h (B2 (i - 1))) else none) else kx (.o xs f h i)
inductive B7W where | m (xs:List V) (f h i:Int)
inductive D36 where | o (xs:List V) (f h i:Int)
def A98 (R:Type) (p:B7W) (K:B7W→Option R) (kx:D36→Option R):Option R:=match p with
 | .m xs f h i=>bif F2 0 i then A02 xs f (B2 (f+i)) (fun ys=>bif B0V ⟨ys,0,i,f⟩ then K (.m (A3L ⟨ys,0,i,f⟩) f h (B2 (i - 1))) else none) else kx (.o xs f h i)
def C5d (R:Type) (xs:List V) (a b:Int) (k:List V→Option R):Option R :=
 B7 (A97 R) (A2 FU) (.m xs a (B2 (b - a)) (B2 (Int.tdiv (B2 (B2 (b - a) - 1)) 2))) (fun | .o xs f h _=>B7 (A98 R) (A2 FU) (.m xs f h (B2 (h - 1))) (fun | .o xs _ _ _=>k xs))
inductive B7X where | m (xs:List V) (a b l m i r:Int)
inductive D37 where | o (xs:List V) (a b l m i r:Int)
def A3O (R:Type) (p:B7X) (K:B7X→Option R) (kx:D37→Option R):Option R:=match p with
 | .m xs a b l m i r=>bif F2 i (B2 (B2 (a+B2 (B2 (Int.tdiv l 4) * 2))+1)) then
   (bif F2 l (xrO (xrN r) m) then A02 xs i (B2 (a+B2 (xrO (xrN r) m - l))) (fun ys=>K (.m ys a b l m (B2 (i+1)) (xrN r)))
   else A02 xs i (B2 (a+xrO (xrN r) m)) (fun ys=>K (.m ys a b l m (B2 (i+1)) (xrN r)))) else kx (.o xs a b l m i r)
theorem A7N {d:Array V} (h:d.size≤1000000):B9w (C0 d)=true:=by
 exact E0B (by rw [Q8];exact h)
theorem B3k {d:Array V} {a b c:Nat} (h:c+b≤d.size) (h2:d.size≤1000000) (h3:a≤1000000):B0V ⟨C0 d,a,b,c⟩=true:=by
 simp only [B0V,A7N h2,Bool.and_true,E0s,C5,Q8]
 refine ⟨?_,?_,?_,?_,?_⟩<;>omega
theorem B3l {d:Array V} {a b c:Nat}:A3L ⟨C0 d,a,b,c⟩=C0 (siftDown B3 b c a d):=by
 rw [A3L,E9];simp only [SaK.d,unrI_rwVK,Int.toNat_natCast]
theorem W0 (h f:Nat):∀ (m r:Nat) (d:Array V),h - r≤m→(siftDown B3 h f r d).size=d.size:=by
 intro m
 induction m with
 | zero=>intro r d hm;rw [siftDown,dif_pos (by omega)]
 | succ m ih =>
  intro r d hm
  rw [siftDown]
  split
  ·rfl
  ·split
   ·split
    ·rfl
    ·split
     ·rw [ih _ _ (by omega),C2]
     ·rfl
   ·split
    ·rfl
    ·rw [ih _ _ (by omega),C2]
theorem C5e (f h:Nat):∀ (k n:Nat) (d:Array V),k < n→f+h≤d.size→d.size≤1000000→k≤1000000 →
  ∀ kx,B7 (A97 R) n (.m (C0 d) f h ((k:Int) - 1)) kx=kx (.o (C0 (heapBuild B3 h f k d)) f h (-1)):=by
 intro k
 induction k with
 | zero =>
  intro n d hn hz hs hk kx
  obtain ⟨n,rfl⟩:∃ m,n=m+1:=⟨n - 1,by omega⟩
  rw [B7,A97,E6,decide_eq_false (by omega)];rfl
 | succ k ih =>
  intro n d hn hz hs hk kx
  obtain ⟨n,rfl⟩:∃ m,n=m+1:=⟨n - 1,by omega⟩
  have e:(((k+1:Nat):Int) - 1)=(k:Int):=by omega
  rw [B7,A97,e,E6,decide_eq_true (by omega),cond_true,B3k hz hs (by omega),cond_true,B3l,G4 (by omega) (by omega),
   ih n _ (by omega) (by rw [W0 h f h _ _ (by omega)];exact hz) (by rw [W0 h f h _ _ (by omega)];exact hs) (by omega)]
  rfl
theorem A2J (h f:Nat):∀ (k:Nat) (d:Array V),(heapBuild B3 h f k d).size=d.size:=by
 intro k
 induction k with
 | zero=>intro d;rfl
 | succ k ih=>intro d;rw [heapBuild,ih,W0 h f h _ _ (by omega)]
theorem C5f (f h:Nat):∀ (k n:Nat) (d:Array V),k < n→f+k≤d.size→d.size≤1000000 →
  ∀ kx,B7 (A98 R) n (.m (C0 d) f h ((k:Int) - 1)) kx=kx (.o (C0 (heapPop B3 f k d)) f h (-1)):=by
 intro k
 induction k with
 | zero =>
  intro n d hn hz hs kx
  obtain ⟨n,rfl⟩:∃ m,n=m+1:=⟨n - 1,by omega⟩
  rw [B7,A98,E6,decide_eq_false (by omega)];rfl
 | succ k ih =>
  intro n d hn hz hs kx
  obtain ⟨n,rfl⟩:∃ m,n=m+1:=⟨n - 1,by omega⟩
  have e:(((k+1:Nat):Int) - 1)=(k:Int):=by omega
  have hsz:=C2 d f (f+k)
  rw [B7,A98,e,E6,decide_eq_true (by omega),cond_true,G1 (n:=f+k) (by omega) (by omega),N7 rfl rfl (by omega) (by omega)]
  have e0:(⟨C0 (swp d f (f+k)),0,(k:Int),(f:Int)⟩:SaK)=⟨C0 (swp d f (f+k)),((0:Nat):Int),(k:Int),(f:Int)⟩:=rfl
  rw [e0,B3k (by omega) (by omega) (by omega),cond_true,B3l,G4 (by omega) (by omega),
   ih n _ (by omega) (by rw [W0 k f k _ _ (by omega)];omega) (by rw [W0 k f k _ _ (by omega)];omega)]
  rfl
theorem B92 {xs:List V} {a b:Int} (h:A03 ⟨xs,a,b,0⟩=true) (k:List V→Option R):C5d R xs a b k=k (A5T ⟨xs,a,b,0⟩):=by
 obtain ⟨a',b',d,h1,h2,h3,h4,h5,h6,h7⟩:=A3k h
 simp only at h1 h2 h3
 subst h1 h2 h3
 have hw:B2 ((b':Int) - a')=((b' - a':Nat):Int):=G1 (by omega) (by omega)
 have hi:B2 (Int.tdiv (B2 (((b' - a':Nat):Int) - 1)) 2)=((((b' - a' - 1) / 2+1:Nat):Int) - 1):=by
  rw [G4 (n:=((b' - a':Nat):Int) - 1) (by omega) (by omega)]
  have:Int.tdiv (((b' - a':Nat):Int) - 1) 2=(((b' - a' - 1) / 2+1:Nat):Int) - 1:=by
   by_cases h0:b' - a'=0
   ·rw [h0];rfl
   ·rw [Int.tdiv_eq_ediv_of_nonneg (by omega)];omega
  rw [this,G4 (by omega) (by omega)]
 rw [C5d,hw,hi,C5e a' (b' - a') _ (A2 FU) d (S3 (by omega)) (by omega) h7 (by omega)]
 simp only
 rw [G4 (n:=((b' - a':Nat):Int) - 1) (by omega) (by omega),C5f a' (b' - a') (b' - a') (A2 FU) _ (S3 (by omega)) (by rw [A2J];omega) (by rw [A2J];exact h7)]
 simp only
 rw [A5T,E9,h4];rfl
theorem C5g (a b l m:Nat) (ha:a+l≤1000000) (h8:8≤l) (hm1:1≤m) (hm:m≤2 * l):∀ (q n:Nat) (r:UInt64) (d:Array V),q≤3→q < n→a+l≤d.size→d.size≤1000000 →
  ∃ r':Int,∃ i':Int,∀ kx,B7 (A3O R) n (.m (C0 d) a b l m ((a+l / 4 * 2+2 - q:Nat):Int) (r.toNat:Nat)) kx =
   kx (.o (C0 ((List.range q).foldl (fun st j=>breakStep a l m st (a+l / 4 * 2+2 - q+j)) (r,d)).2) a b l m i' r'):=by
 have hlim:B2 (B2 ((a:Int)+B2 (B2 (Int.tdiv (l:Int) 4) * 2))+1)=((a+l / 4 * 2+1:Nat):Int):=by
  rw [show Int.tdiv (l:Int) 4=((l / 4:Nat):Int) from by rw [Int.tdiv_eq_ediv_of_nonneg (by omega)];omega,
   G1 (x:=((l / 4:Nat):Int)) rfl (by omega),G1 (x:=((l / 4:Nat):Int) * 2) (n:=l / 4 * 2) (by omega) (by omega),
   G1 (x:=(a:Int)+((l / 4 * 2:Nat):Int)) (n:=a+l / 4 * 2) (by omega) (by omega),G1 (x:=((a+l / 4 * 2:Nat):Int)+1) (n:=a+l / 4 * 2+1) (by omega) (by omega)]
 intro q
 induction q with
 | zero =>
  intro n r d hq hn hz hs
  obtain ⟨n,rfl⟩:∃ m,n=m+1:=⟨n - 1,by omega⟩
  refine ⟨r.toNat,(a+l / 4 * 2+2:Nat),fun kx=>?_⟩
  rw [B7,A3O,hlim,E6,decide_eq_false (by omega)]
  rfl
 | succ q ih =>
  intro n r d hq hn hz hs
  obtain ⟨n,rfl⟩:∃ m,n=m+1:=⟨n - 1,by omega⟩
  obtain ⟨x1,x2⟩:=D5j r.toNat_lt
  obtain ⟨o1,o2⟩:=C9e (m:=m) x2 hm1 (by omega)
  have hx:xorNextN r.toNat=(xorNext r).toNat:=(xorNext_toNat r).symm
  have hi:a+l / 4 * 2+2 - (q+1)+1=a+l / 4 * 2+2 - q:=by omega
  generalize hidx:a+l / 4 * 2+2 - (q+1)=idx at hi
  have hw:B2 ((idx:Int)+1)=((a+l / 4 * 2+2 - q:Nat):Int):=G1 (by omega) (by omega)
  have step:∀ oth:Nat,oth < l→(if (xorNext r).toNat &&& (m - 1) ≥ l then ((xorNext r).toNat &&& (m - 1)) - l else (xorNext r).toNat &&& (m - 1))=oth →
    ∃ r':Int,∃ i':Int,∀ kx,A02 (C0 d) idx (B2 ((a:Int)+(oth:Int))) (fun ys=>B7 (A3O R) n (.m ys a b l m (B2 ((idx:Int)+1)) (xrN (r.toNat:Nat))) kx) =
     kx (.o (C0 ((List.range (q+1)).foldl (fun st j=>breakStep a l m st (idx+j)) (r,d)).2) a b l m i' r'):=by
   intro oth ho he
   obtain ⟨r',i',h⟩:=ih n (xorNext r) (swp d idx (a+oth)) (by omega) (by omega) (by rw [C2];exact hz) (by rw [C2];exact hs)
   refine ⟨r',i',fun kx=>?_⟩
   have hb:breakStep a l m (r,d) (idx+0)=(xorNext r,swp d idx (a+oth)):=by
    simp only [breakStep,Nat.add_zero]
    rw [he]
   have hf:(List.range (q+1)).foldl (fun st j=>breakStep a l m st (idx+j)) (r,d)=(List.range q).foldl (fun st j=>breakStep a l m st (a+l / 4 * 2+2 - q+j)) (xorNext r,swp d idx (a+oth)):=by
    rw [List.range_succ_eq_map,List.foldl_cons,List.foldl_map,hb]
    congr 1
    funext st j
    rw [show idx+(j+1)=a+l / 4 * 2+2 - q+j by omega]
   rw [G1 (n:=a+oth) (by omega) (by omega),N7 rfl rfl (by omega) (by omega),hw,x1,hx,h,hf]
  have head:∀ kx,B7 (A3O R) (n+1) (.m (C0 d) a b l m (idx:Nat) (r.toNat:Nat)) kx=bif F2 (l:Int) (xrO (xrN (r.toNat:Nat)) m) then A02 (C0 d) idx (B2 ((a:Int)+B2 (xrO (xrN (r.toNat:Nat)) m - l))) (fun ys=>B7 (A3O R) n (.m ys a b l m (B2 ((idx:Int)+1)) (xrN (r.toNat:Nat))) kx)
   else A02 (C0 d) idx (B2 ((a:Int)+xrO (xrN (r.toNat:Nat)) m)) (fun ys=>B7 (A3O R) n (.m ys a b l m (B2 ((idx:Int)+1)) (xrN (r.toNat:Nat))) kx):=by
   intro kx
   rw [B7,A3O,hlim,E6,decide_eq_true (by omega),cond_true]
  rw [hx] at x1 x2 o1 o2
  by_cases hc:(xorNext r).toNat &&& (m - 1) ≥ l
  ·obtain ⟨r',i',h⟩:=step (((xorNext r).toNat &&& (m - 1)) - l) (by omega) (by rw [if_pos hc])
   refine ⟨r',i',fun kx=>?_⟩
   rw [head,x1,o1,E6,decide_eq_true (by omega),cond_true,G1 (x:=(((xorNext r).toNat &&& (m - 1):Nat):Int) - (l:Int)) (n:=((xorNext r).toNat &&& (m - 1)) - l) (by omega) (by omega),← x1]
   exact h kx
  ·obtain ⟨r',i',h⟩:=step ((xorNext r).toNat &&& (m - 1)) (by omega) (by rw [if_neg hc])
   refine ⟨r',i',fun kx=>?_⟩
   rw [head,x1,o1,E6,decide_eq_false (by omega),cond_false,← x1]
   exact h kx
end
noncomputable section
open Go.RowKit Go.Sort
variable {R:Type} {P:Program} {T:TT}
structure SmK where
 xs:List V
 a:Int
 b:Int
 c:Int
 n:Int
def B93:SmK→Int:=A1P fun s=>((median B3 (A1Q s.xs) s.a.toNat s.b.toNat s.c.toNat s.n.toNat).1:Nat)
def B94:SmK→Int:=A1P fun s=>((median B3 (A1Q s.xs) s.a.toNat s.b.toNat s.c.toNat s.n.toNat).2:Nat)
def B1Q (s:SmK):Bool:=F2 0 s.a&&(F2 0 s.b&&(F2 0 s.c&&(C3 s.a (s.xs.length:Nat)&&(C3 s.b (s.xs.length:Nat)&&(C3 s.c (s.xs.length:Nat)&&(F2 0 s.n&&(F2 s.n 1000&&B9w s.xs)))))))
def D0N (el it gn:Nat) (args:List A) (of:Nat→Option Ob) (nx:Nat):Option SmK :=
 match args with
 | [.o id ver,.i .i64 a,.i .i64 b,.i .i64 c,.p q ty [],.f h []]=>bif Nat.beq id 0&&(Nat.beq ver 1&&(Nat.beq nx 2&&(Nat.beq q 1&&(Nat.beq ty it&&Nat.beq h gn)))) then
  (match of 0 with
  | some (.row el' v xs nl sh)=>bif Nat.beq el el'&&(Nat.beq v 1&&(!nl&&!sh)) then
   (match of 1 with
   | some (.box ty x sh)=>bif Nat.beq ty it&&!sh then
    (match bxI it x with
    | some n=>some ⟨xs,a,b,c,n⟩
    | none=>none) else none
   | _=>none) else none
  | _=>none) else none
 | _=>none
def C5h (el it N:Nat):SmK→J2:=fun s=>⟨.i .i64 (B93 s),[(0,.row el 1 s.xs false false),(1,.box it (.i .i64 (B94 s)) false)],[0],N⟩
theorem D0O {el it gn f N:Nat} {s:Sym} (hk:D2 T it=some (.int .i64)) (hz:C1 T it=1) (hs:J0 P T f s)
  (h:∀ xs a b c n,B1Q ⟨xs,a,b,c,n⟩=true→∃ n' ro,n'≤N∧s [.o 0 1,.i .i64 a,.i .i64 b,.i .i64 c,.p 1 it [],.f gn []] (ofL [.row el 1 xs false false,.box it (.i .i64 n) false]) 2=some ⟨.i .i64 (B93 ⟨xs,a,b,c,n⟩),[(0,.row el 1 xs false false),(1,.box it (.i .i64 (B94 ⟨xs,a,b,c,n⟩)) false)],ro,n'⟩∧∀ id∈ro,id=0∨id=1) :
  R4 P T f (M8 (D0N el it gn) B1Q (C5h el it N)).dir:=C1U hs (fun args of nx x hx hg=>by
 unfold D0N at hx
 split at hx<;>try (cases hx;done)
 rename_i id ver a b c q ty h0
 cases h1:(Nat.beq id 0&&(Nat.beq ver 1&&(Nat.beq nx 2&&(Nat.beq q 1&&(Nat.beq ty it&&Nat.beq h0 gn))))) with
 | false=>rw [h1] at hx;cases hx
 | true =>
 rw [h1] at hx
 simp only [E0s] at h1
 obtain ⟨e1,e2,e3,e4,e5,e6⟩:=h1
 obtain rfl:=E0r e1
 obtain rfl:=E0r e2
 obtain rfl:=E0r e3
 obtain rfl:=E0r e4
 obtain rfl:=E0r e5
 obtain rfl:=E0r e6
 simp only [cond_true] at hx
 split at hx<;>try (cases hx;done)
 rename_i el' v xs nl sh ho
 cases h2:(Nat.beq el el'&&(Nat.beq v 1&&(!nl&&!sh))) with
 | false=>rw [h2] at hx;cases hx
 | true =>
 rw [h2] at hx
 simp only [E0s,Bool.not_eq_true'] at h2
 obtain ⟨e1,e2,rfl,rfl⟩:=h2
 obtain rfl:=E0r e1
 obtain rfl:=E0r e2
 simp only [cond_true] at hx
 split at hx<;>try (cases hx;done)
 rename_i ty' y sh' ho1
 cases h3:(Nat.beq ty' ty&&!sh') with
 | false=>rw [h3] at hx;cases hx
 | true =>
 rw [h3] at hx
 simp only [E0s,Bool.not_eq_true'] at h3
 obtain ⟨e1,rfl⟩:=h3
 obtain rfl:=E0r e1
 simp only [cond_true] at hx
 split at hx<;>try (cases hx;done)
 rename_i n hy
 cases hx
 have hy:y=.i .i64 n∨y=.v ty' (.i n):=by
  unfold bxI at hy
  split at hy<;>try (cases hy;done)
  ·cases hy;exact .inl rfl
  ·rename_i t m
   cases h4:Nat.beq t ty' with
   | false=>rw [h4] at hy;cases hy
   | true =>
    rw [h4] at hy;cases hy
    obtain rfl:=E0r h4
    exact .inr rfl
 obtain ⟨n',ro,h4,h5,h6⟩:=h xs a b c n hg
 refine ⟨n',ro,_,G3 of 1 (some (.box ty' (.i .i64 n) false)),h4,h5,fun id A2=>?_,fun c e hos=>?_,?_⟩
 ·rcases h6 id A2 with rfl | rfl
  ·rw [A4 _ _ (by decide),ho];rfl
  ·rw [upd_same];rfl
 ·rcases hy with rfl | rfl
  ·have:G3 of 1 (some (.box ty' (.i .i64 n) false))=of:=by
    funext j
    by_cases hj:j=1
    ·subst hj;rw [upd_same,ho1]
    ·rw [A4 _ _ hj]
   rw [this];exact hos
  ·exact hos.ibox ho1 hk hz
 ·show put _ [_,_]=put _ [_,_]
  simp only [put]
  funext j
  by_cases hj:j=1
  ·subst hj;simp [G3]
  ·by_cases hj0:j=0
   ·subst hj0;simp [G3]
   ·simp [G3,hj])
def D6C (R:Type) (xs:List V) (a b c n:Int) (k:Int→Int→Option R):Option R :=
 C5c R xs a b n (fun a b n=>C5c R xs b c n (fun b c n=>C5c R xs a b n (fun a b n=>k b n)))
theorem A7O {d:Array V} {a b n:Nat} (ha:a < d.size) (hb:b < d.size) (hn:n≤1000000) (k:Int→Int→Int→Option R) :
  C5c R (C0 d) a b n k=k (order2 B3 d a b n).1 (order2 B3 d a b n).2.1 (order2 B3 d a b n).2.2:=by
 rw [C5c,J3 rfl rfl hb ha,order2,G1 (n:=n+1) (by omega) (by omega)]
 cases B3 d[b]! d[a]! <;> rfl
theorem A1b {d:Array V} {a b n m:Nat} (ha:a < m) (hb:b < m):(order2 B3 d a b n).1 < m∧(order2 B3 d a b n).2.1 < m∧(order2 B3 d a b n).2.2≤n+1:=by
 unfold order2
 split<;>refine ⟨?_,?_,?_⟩<;>simp only<;>omega
theorem C5i {xs:List V} {a b c n:Int} (h:B1Q ⟨xs,a,b,c,n⟩=true) (k:Int→Int→Option R):D6C R xs a b c n k=k (B93 ⟨xs,a,b,c,n⟩) (B94 ⟨xs,a,b,c,n⟩):=by
 simp only [B1Q,E0s,C5,J1] at h
 obtain ⟨h1,h2,h3,h4,h5,h6,h7,h8,h9⟩:=h
 obtain ⟨d,rfl,h10,h11,h12⟩:=B7T h9
 rw [Q8] at h4 h5 h6
 obtain ⟨a,rfl⟩:=Int.eq_ofNat_of_zero_le h1
 obtain ⟨b,rfl⟩:=Int.eq_ofNat_of_zero_le h2
 obtain ⟨c,rfl⟩:=Int.eq_ofNat_of_zero_le h3
 obtain ⟨n,rfl⟩:=Int.eq_ofNat_of_zero_le h7
 have hd:∀ {x:Nat},(x:Int) < (d.size:Nat)→x < d.size:=fun h=>by omega
 obtain ⟨p1,p2,p3⟩:=A1b (d:=d) (n:=n) (hd h4) (hd h5)
 rw [D6C,A7O (hd h4) (hd h5) (by omega)]
 obtain ⟨q1,q2,q3⟩:=A1b (d:=d) (n:=(order2 B3 d a b n).2.2) p2 (hd h6)
 rw [A7O p2 (hd h6) (by omega),A7O p1 q1 (by omega)]
 rw [B93,B94,E9,E9]
 simp only [h10,Int.toNat_natCast]
 rfl
def B7Y (R:Type) (n p:Int) (k:Int→Int→Option R):Option R:=bif Y5 n 0 then k p 1 else bif Y5 n 12 then k p 2 else k p 0
def C5j (R:Type) (xs:List V) (a b c n:Int) (k:Int→Int→Option R):Option R:=bif B1Q ⟨xs,a,b,c,n⟩ then k (B93 ⟨xs,a,b,c,n⟩) (B94 ⟨xs,a,b,c,n⟩) else none
def C5k (R:Type) (xs:List V) (a n:Int) (k:Int→Int→Option R):Option R:=C5j R xs (B2 (a - 1)) a (B2 (a+1)) n k
def D38 (R:Type) (xs:List V) (a l:Int) (k:Int→Int→Option R):Option R :=
 bif F2 8 l then (bif F2 50 l then
  C5k R xs (B2 (a+B2 (B2 (Int.tdiv l 4) * 1))) 0 (fun i n=>C5k R xs (B2 (a+B2 (B2 (Int.tdiv l 4) * 2))) n (fun j n=>C5k R xs (B2 (a+B2 (B2 (Int.tdiv l 4) * 3))) n (fun q n=>C5j R xs i j q n (fun j n=>B7Y R n j k))))
  else C5j R xs (B2 (a+B2 (B2 (Int.tdiv l 4) * 1))) (B2 (a+B2 (B2 (Int.tdiv l 4) * 2))) (B2 (a+B2 (B2 (Int.tdiv l 4) * 3))) 0 (fun j n=>B7Y R n j k)) else k (B2 (a+B2 (B2 (Int.tdiv l 4) * 2))) 1
def C5l (R:Type) (xs:List V) (a b:Int) (k:Int→Int→Option R):Option R:=D38 R xs a (B2 (b - a)) k
theorem A7P {d:Array V} {a b c n:Nat} (ha:a < d.size) (hb:b < d.size) (hc:c < d.size) (hn:n≤1000) (hs:d.size≤1000000) (k:Int→Int→Option R) :
  C5j R (C0 d) a b c n k=k ((median B3 d a b c n).1:Nat) ((median B3 d a b c n).2:Nat):=by
 have hg:B1Q ⟨C0 d,a,b,c,n⟩=true:=by
  simp only [B1Q,A7N hs,Bool.and_true,E0s,C5,J1,Q8]
  refine ⟨?_,?_,?_,?_,?_,?_,?_,?_⟩<;>omega
 rw [C5j,hg,cond_true,B93,B94,E9,E9]
 simp only [unrI_rwVK,Int.toNat_natCast]
theorem B5D {d:Array V} {a b c n m:Nat} (ha:a < m) (hb:b < m) (hc:c < m):(median B3 d a b c n).1 < m∧(median B3 d a b c n).2≤n+3:=by
 obtain ⟨p1,p2,p3⟩:=A1b (d:=d) (n:=n) ha hb
 obtain ⟨q1,q2,q3⟩:=A1b (d:=d) (n:=(order2 B3 d a b n).2.2) p2 hc
 obtain ⟨r1,r2,r3⟩:=A1b (d:=d) (n:=(order2 B3 d (order2 B3 d a b n).2.1 c (order2 B3 d a b n).2.2).2.2) p1 q1
 exact ⟨r2,by show _≤_;unfold median;simp only;omega⟩
theorem A99 {n p:Nat} (k:Int→Int→Option R):B7Y R n p k=k (p:Nat) (match (if n=0 then Hint.increasing else if n=12 then .decreasing else .unknown) with | .unknown=>0 | .increasing=>1 | .decreasing=>2):=by
 unfold B7Y
 by_cases h0:n=0
 ·rw [A0O (by omega),cond_true,if_pos h0]
 ·rw [A2t (by omega),cond_false,if_neg h0]
  by_cases h1:n=12
  ·rw [A0O (by omega),cond_true,if_pos h1]
  ·rw [A2t (by omega),cond_false,if_neg h1]
theorem B95 {xs:List V} {a b:Int} (h:A2k ⟨xs,a,b,0⟩=true) (k:Int→Int→Option R):C5l R xs a b k=k (A1R ⟨xs,a,b,0⟩) (A50 ⟨xs,a,b,0⟩):=by
 obtain ⟨a',b',d,h1,h2,h3,h4,h5,h6,h7⟩:=B1O h
 simp only at h1 h2 h3
 subst h1 h2 h3
 rw [C5l,G1 (n:=b' - a') (by omega) (by omega),D38,A1R,A50,E9,E9,h4]
 have t4:B2 (Int.tdiv ((b' - a':Nat):Int) 4)=(((b' - a') / 4:Nat):Int):=by
  rw [Int.tdiv_eq_ediv_of_nonneg (by omega)];exact G1 (by omega) (by omega)
 have hj:∀ q:Nat,q≤3→B2 ((a':Int)+B2 ((((b' - a') / 4:Nat):Int) * (q:Int)))=((a'+(b' - a') / 4 * q:Nat):Int):=fun q hq=>by
  have h1:(b' - a') / 4 * q≤3000000:=Nat.le_trans (Nat.mul_le_mul (show (b' - a') / 4≤1000000 by omega) hq) (by decide)
  rw [G1 (x:=(((b' - a') / 4:Nat):Int) * (q:Int)) (n:=(b' - a') / 4 * q) (by simp) (by omega)]
  exact G1 (by simp) (by omega)
 rw [t4,show (1:Int)=((1:Nat):Int) from rfl,show (3:Int)=((3:Nat):Int) from rfl,hj 1 (by omega),hj 3 (by omega)]
 have h2:=hj 2 (by omega)
 rw [show ((2:Nat):Int)=2 from rfl] at h2
 rw [h2]
 simp only [Int.toNat_natCast,choosePivot]
 by_cases h8:b' - a' ≥ 8
 ·rw [E6,decide_eq_true (by omega),cond_true,if_pos h8]
  by_cases h50:b' - a' ≥ 50
  ·rw [E6,decide_eq_true (by omega),cond_true,if_pos h50]
   have ma:∀ (x n:Nat),1≤x→x+1 < d.size→n≤1000→∀ kk:Int→Int→Option R,C5k R (C0 d) x n kk=kk ((medianAdjacent B3 d x n).1:Nat) ((medianAdjacent B3 d x n).2:Nat):=by
    intro x n hx1 hx2 hn kk
    rw [C5k,G1 (n:=x - 1) (by omega) (by omega),G1 (n:=x+1) (by omega) (by omega),A7P (by omega) (by omega) (by omega) hn h7]
    rfl
   have mb:∀ (x n:Nat),1≤x→x+1 < d.size→(medianAdjacent B3 d x n).1 < d.size∧(medianAdjacent B3 d x n).2≤n+3:=fun x n hx1 hx2=>B5D (by omega) (by omega) (by omega)
   obtain ⟨u1,u2⟩:=mb (a'+(b' - a') / 4 * 1) 0 (by omega) (by omega)
   rw [show (0:Int)=((0:Nat):Int) from rfl,ma _ _ (by omega) (by omega) (by omega)]
   obtain ⟨v1,v2⟩:=mb (a'+(b' - a') / 4 * 2) (medianAdjacent B3 d (a'+(b' - a') / 4 * 1) 0).2 (by omega) (by omega)
   rw [ma _ _ (by omega) (by omega) (by omega)]
   obtain ⟨w1,w2⟩:=mb (a'+(b' - a') / 4 * 3) (medianAdjacent B3 d (a'+(b' - a') / 4 * 2) (medianAdjacent B3 d (a'+(b' - a') / 4 * 1) 0).2).2 (by omega) (by omega)
   rw [ma _ _ (by omega) (by omega) (by omega),A7P u1 v1 w1 (by omega) h7,A99]
   rfl
  ·rw [E6,decide_eq_false (by omega),cond_false,if_neg h50,show (0:Int)=((0:Nat):Int) from rfl,A7P (by omega) (by omega) (by omega) (by omega) h7,A99]
   rfl
 ·rw [E6,decide_eq_false (by omega),cond_false,if_neg h8]
  rfl
end
noncomputable section
open Go.RowKit Go.Sort
variable {R:Type}
def C5m (R:Type) (xs:List V) (a b:Int) (k:Nat→List V→Option R):Option R :=
 bif F2 8 (B2 (b - a)) then B7 (A3O R) (A2 FU) (.m xs a b (B2 (b - a)) (WU (1 * (((2:Nat) ^ (min (Wd.blen (WU (B2 (b - a))).toNat) 64):Nat):Int)))
  (B2 (B2 (a+B2 (B2 (Int.tdiv (B2 (b - a)) 4) * 2)) - 1)) (WU (B2 (b - a)))) (fun | .o xs _ _ _ _ _ _=>k 64 xs) else k 1 xs
theorem B96 {xs:List V} {a b:Int} (h:A03 ⟨xs,a,b,0⟩=true) (k:Nat→List V→Option R):C5m R xs a b k=k (bif F2 8 (B2 (b - a)) then 64 else 1) (A5U ⟨xs,a,b,0⟩):=by
 obtain ⟨a',b',d,h1,h2,h3,h4,h5,h6,h7⟩:=A3k h
 simp only at h1 h2 h3
 subst h1 h2 h3
 rw [C5m,G1 (n:=b' - a') (by omega) (by omega),A5U,E9,h4]
 simp only [Int.toNat_natCast,breakPatterns]
 by_cases h8:b' - a' ≥ 8
 ·rw [E6,decide_eq_true (by omega),cond_true,if_pos h8]
  have hl:=two_pow_bitsLen_le (n:=b' - a') (by omega)
  have hbl:Wd.blen (b' - a')=bitsLen (b' - a'):=rfl
  have h64:bitsLen (b' - a')≤64:=(bitsLen_le_iff _ _).2 (by omega)
  rw [C9 (n:=b' - a') (by omega),Int.toNat_natCast,hbl,Nat.min_eq_left h64,Int.one_mul,C9 (n:=2 ^ bitsLen (b' - a')) (by omega)]
  have hi:B2 (B2 ((a':Int)+B2 (B2 (Int.tdiv ((b' - a':Nat):Int) 4) * 2)) - 1)=((a'+(b' - a') / 4 * 2+2 - 3:Nat):Int):=by
   rw [show Int.tdiv ((b' - a':Nat):Int) 4=(((b' - a') / 4:Nat):Int) from by rw [Int.tdiv_eq_ediv_of_nonneg (by omega)];omega,
    G1 (x:=(((b' - a') / 4:Nat):Int)) rfl (by omega),G1 (x:=(((b' - a') / 4:Nat):Int) * 2) (n:=(b' - a') / 4 * 2) (by omega) (by omega),
    G1 (x:=(a':Int)+(((b' - a') / 4 * 2:Nat):Int)) (n:=a'+(b' - a') / 4 * 2) (by omega) (by omega)]
   exact G1 (by omega) (by omega)
  rw [hi]
  obtain ⟨r',i',h9⟩:=C5g (R:=R) a' b' (b' - a') (2 ^ bitsLen (b' - a')) (by omega) h8 (Nat.one_le_two_pow) hl 3 (A2 FU) (UInt64.ofNat (b' - a')) d (by omega) (S3 (by omega)) (by omega) h7
  have hu:(UInt64.ofNat (b' - a')).toNat=b' - a':=by
   rw [UInt64.toNat_ofNat'];exact Nat.mod_eq_of_lt (by omega)
  rw [hu] at h9
  rw [h9]
  simp only [Nat.shiftLeft_eq,Nat.one_mul]
  rw [show a'+(b' - a') / 4 * 2+2 - 3=a'+(b' - a') / 4 * 2 - 1 by omega]
  rfl
 ·rw [E6,decide_eq_false (by omega),cond_false,if_neg h8];rfl
end
noncomputable section
open Go.RowKit Go.Sort
variable {R:Type} {P:Program} {T:TT}
theorem B97 (s:SaK):A0g 0 s=false:=by
 cases h:A0g 0 s with
 | false=>rfl
 | true =>
  simp only [A0g,A03,E0s,J1,C5] at h
  omega
end
noncomputable section
open Go.RowKit Go.Sort
variable {R:Type}
inductive T0 where | m (xs:List V) (a b l:Int) (wb wp:Bool)
inductive A4y where | r (xs:List V) (a b l:Int) (wb wp:Bool)
def B3m (q:Nat) (R:Type) (K:T0→Option R) (ys:List V) (n a b l:Int) (wp:Bool):Option R :=
 bif C3 (B2 (n - a)) (B2 (b - n)) then
  (bif F2 (B2 (Int.tdiv (B2 (b - a)) 8)) (B2 (n - a)) then (bif A0g q ⟨ys,a,n,l⟩ then K (.m (T6 ⟨ys,a,n,l⟩) (B2 (n+1)) b l true wp) else none)
  else (bif A0g q ⟨ys,a,n,l⟩ then K (.m (T6 ⟨ys,a,n,l⟩) (B2 (n+1)) b l false wp) else none))
 else (bif F2 (B2 (Int.tdiv (B2 (b - a)) 8)) (B2 (b - n)) then (bif A0g q ⟨ys,B2 (n+1),b,l⟩ then K (.m (T6 ⟨ys,B2 (n+1),b,l⟩) a n l true wp) else none)
  else (bif A0g q ⟨ys,B2 (n+1),b,l⟩ then K (.m (T6 ⟨ys,B2 (n+1),b,l⟩) a n l false wp) else none))
def B7Z (q:Nat) (R:Type) (K:T0→Option R) (xs:List V) (a b l p:Int):Option R :=
 bif A48 ⟨xs,a,b,p⟩ then (bif A0F ⟨xs,a,b,p⟩ then B3m q R K (A5Y ⟨xs,a,b,p⟩) (A5Z ⟨xs,a,b,p⟩) a b l true else B3m q R K (A5Y ⟨xs,a,b,p⟩) (A5Z ⟨xs,a,b,p⟩) a b l false) else none
def A3P (q:Nat) (R:Type) (K:T0→Option R) (xs:List V) (a b l p:Int) (wb wp:Bool):Option R :=
 bif C3 0 a then A3E xs (B2 (a - 1)) p (B7Z q R K xs a b l p) (bif A48 ⟨xs,a,b,p⟩ then K (.m (A5W ⟨xs,a,b,p⟩) (A5X ⟨xs,a,b,p⟩) b l wb wp) else none) else B7Z q R K xs a b l p
def B3n (q:Nat) (R:Type) (K:T0→Option R) (kx:A4y→Option R) (xs:List V) (a b l p:Int) (wb wp:Bool):Option R :=
 bif A2k ⟨xs,a,b,0⟩ then (bif A5V ⟨xs,a,b,0⟩ then kx (.r (A4f ⟨xs,a,b,0⟩) a b l wb wp) else A3P q R K (A4f ⟨xs,a,b,0⟩) a b l p wb wp) else none
def A2K (q:Nat) (R:Type) (K:T0→Option R) (kx:A4y→Option R) (xs:List V) (a b l:Int) (wb wp:Bool):Option R :=
 bif A2k ⟨xs,a,b,0⟩ then (bif Y5 (A50 ⟨xs,a,b,0⟩) 2 then
  (bif A2k ⟨xs,a,b,0⟩ then (bif wb then (bif wp then B3n q R K kx (A3M ⟨xs,a,b,0⟩) a b l (B2 (B2 (b - 1) - B2 (A1R ⟨xs,a,b,0⟩ - a))) wb wp
    else A3P q R K (A3M ⟨xs,a,b,0⟩) a b l (B2 (B2 (b - 1) - B2 (A1R ⟨xs,a,b,0⟩ - a))) wb wp)
   else A3P q R K (A3M ⟨xs,a,b,0⟩) a b l (B2 (B2 (b - 1) - B2 (A1R ⟨xs,a,b,0⟩ - a))) wb wp) else none)
  else (bif wb then (bif wp then (bif Y5 (A50 ⟨xs,a,b,0⟩) 1 then B3n q R K kx xs a b l (A1R ⟨xs,a,b,0⟩) wb wp else A3P q R K xs a b l (A1R ⟨xs,a,b,0⟩) wb wp)
    else A3P q R K xs a b l (A1R ⟨xs,a,b,0⟩) wb wp)
   else A3P q R K xs a b l (A1R ⟨xs,a,b,0⟩) wb wp)) else none
def V4 (q:Nat) (R:Type) (p:T0) (K:T0→Option R) (kx:A4y→Option R):Option R:=match p with
 | .m xs a b l wb wp=>bif F2 (B2 (b - a)) 12 then (bif A03 ⟨xs,a,b,0⟩ then kx (.r (A5S ⟨xs,a,b,0⟩) a b l wb wp) else none) else
  bif Y5 l 0 then (bif A03 ⟨xs,a,b,0⟩ then kx (.r (A5T ⟨xs,a,b,0⟩) a b l wb wp) else none) else
  bif wb then A2K q R K kx xs a b l wb wp else (bif A03 ⟨xs,a,b,0⟩ then A2K q R K kx (A5U ⟨xs,a,b,0⟩) a b (B2 (l - 1)) wb wp else none)
theorem B0a {d:Array V} {a b:Nat} (h1:a≤b) (h2:b≤d.size):(insertionSort B3 d a b).size=d.size:=(insertionSort_holds A0K d a b h1 h2).1.1
theorem B98 {d:Array V} {a b:Nat} (h1:a≤b) (h2:b≤d.size):(heapSort B3 d a b).size=d.size:=(heapSort_holds A0K d a b h1 h2).1.1
theorem A5m {d:Array V} {a b:Nat} (h1:a≤b) (h2:b≤d.size):(reverseRange d a b).size=d.size:=(reverseRange_holds d a b h1 h2).1
theorem A5n {d:Array V} {a b:Nat} (h1:a≤b) (h2:b≤d.size):(breakPatterns d a b).size=d.size:=(breakPatterns_holds d a b h1 h2).1
theorem B0b {d:Array V} {a b c:Nat} (h1:a≤c) (h2:c < b) (h3:b≤d.size):(partition B3 d a b c).2.2.size=d.size:=(partition_holds B3 A0K d a b c h1 h2 h3).2.2.1.1
theorem B1R {d:Array V} {a b c:Nat} (h1:a≤c) (h2:c < b) (h3:b≤d.size):a≤(partition B3 d a b c).1∧(partition B3 d a b c).1 < b:=⟨(partition_holds B3 A0K d a b c h1 h2 h3).1,(partition_holds B3 A0K d a b c h1 h2 h3).2.1⟩
theorem A5o (a b:Nat):∀ (s i:Nat) (d:Array V),(partialIns B3 a b s i d).1.size=d.size:=by
 intro s
 induction s with
 | zero=>intro i d;rfl
 | succ s ih =>
  intro i d
  rw [partialIns]
  simp only
  split
  ·rfl
  ·split
   ·rfl
   ·rw [ih]
    have s1:(if scanSorted B3 d b i - a ≥ 2 then shiftDown B3 (scanSorted B3 d b i - 1) (swp d (scanSorted B3 d b i) (scanSorted B3 d b i - 1)) else swp d (scanSorted B3 d b i) (scanSorted B3 d b i - 1)).size=d.size:=by
     split
     ·rw [A2G,C2]
     ·rw [C2]
    generalize (if scanSorted B3 d b i - a ≥ 2 then shiftDown B3 (scanSorted B3 d b i - 1) (swp d (scanSorted B3 d b i) (scanSorted B3 d b i - 1)) else swp d (scanSorted B3 d b i) (scanSorted B3 d b i - 1))=d2 at s1 ⊢
    split
    ·rw [A1y b b _ _ (by omega),s1]
    ·exact s1
theorem A5p {d:Array V} {a b:Nat}:(partialInsertionSort B3 d a b).1.size=d.size:=A5o a b 5 (a+1) d
theorem A7Q (a b:Nat):∀ (m i j:Nat) (d:Array V),j+1 - i≤m→j+1≤b→i≤b→i≤(partEqLoop B3 a i j d).1∧(partEqLoop B3 a i j d).1≤b∧(partEqLoop B3 a i j d).2.size=d.size:=by
 intro m
 have hup:∀ (d:Array V) (j i:Nat),j+1≤b→i≤b→scanUp (fun x=>!B3 d[a]! x) d j i≤b:=by
  intro d j i hj hi
  have:∀ (m i:Nat),j+1 - i≤m→i≤b→scanUp (fun x=>!B3 d[a]! x) d j i≤b:=by
   intro m
   induction m with
   | zero=>intro i h1 h2;rw [scanUp,if_neg (by simp;omega)];exact h2
   | succ m ih =>
    intro i h1 h2
    rw [scanUp]
    split
    ·rename_i h;simp at h;exact ih (i+1) (by omega) (by omega)
    ·exact h2
  exact this _ i (Nat.le_refl _) hi
 induction m with
 | zero =>
  intro i j d hm hj hi
  have h1:=scanUp_ge (fun x=>!B3 d[a]! x) d j i
  have h2:=hup d j i hj hi
  have h3:=scanDown_le (fun x=>B3 d[a]! x) d (scanUp (fun x=>!B3 d[a]! x) d j i) j
  rw [partEqLoop]
  split
  ·exact ⟨h1,h2,rfl⟩
  ·rw [dif_neg (by omega)];exact ⟨h1,h2,rfl⟩
 | succ m ih =>
  intro i j d hm hj hi
  have h1:=scanUp_ge (fun x=>!B3 d[a]! x) d j i
  have h2:=hup d j i hj hi
  have h3:=scanDown_le (fun x=>B3 d[a]! x) d (scanUp (fun x=>!B3 d[a]! x) d j i) j
  rw [partEqLoop]
  split
  ·exact ⟨h1,h2,rfl⟩
  ·split
   ·rename_i h4 h5
    obtain ⟨g1,g2,g3⟩:=ih (scanUp (fun x=>!B3 d[a]! x) d j i+1) (scanDown (fun x=>B3 d[a]! x) d (scanUp (fun x=>!B3 d[a]! x) d j i) j - 1) (swp d (scanUp (fun x=>!B3 d[a]! x) d j i) (scanDown (fun x=>B3 d[a]! x) d (scanUp (fun x=>!B3 d[a]! x) d j i) j)) (by omega) (by omega) (by omega)
    exact ⟨by omega,g2,by rw [g3,C2]⟩
   ·exact ⟨h1,h2,rfl⟩
theorem B1S {d:Array V} {a b c:Nat} (h1:a≤c) (h2:c < b):a < (partitionEqual B3 d a b c).1∧(partitionEqual B3 d a b c).1≤b∧(partitionEqual B3 d a b c).2.size=d.size:=by
 obtain ⟨g1,g2,g3⟩:=A7Q a b _ (a+1) (b - 1) (swp d a c) (Nat.le_refl _) (by omega) (by omega)
 exact ⟨by show a < (partEqLoop B3 a (a+1) (b - 1) (swp d a c)).1;omega,g2,by show (partEqLoop B3 a (a+1) (b - 1) (swp d a c)).2.size=_;rw [g3,C2]⟩
def B5E (a b:Nat) (d:Array V) (p l:Nat) (wb wp:Bool):Array V :=
 if (decide (a > 0)&&!B3 d[a - 1]! d[p]!)=true then pdq B3 (partitionEqual B3 d a b p).2 (partitionEqual B3 d a b p).1 b l wb wp
 else if (partition B3 d a b p).1 - a < b - (partition B3 d a b p).1 then
  pdq B3 (pdq B3 (partition B3 d a b p).2.2 a (partition B3 d a b p).1 l true true) ((partition B3 d a b p).1+1) b l (decide ((partition B3 d a b p).1 - a ≥ (b - a) / 8)) (partition B3 d a b p).2.1
 else pdq B3 (pdq B3 (partition B3 d a b p).2.2 ((partition B3 d a b p).1+1) b l true true) a (partition B3 d a b p).1 l (decide (b - (partition B3 d a b p).1 ≥ (b - a) / 8)) (partition B3 d a b p).2.1
def B99 (a b:Nat) (d:Array V) (l:Nat) (wb wp:Bool):Array V :=
 let c:=choosePivot B3 d a b
 let d2:=if c.2=.decreasing then reverseRange d a b else d
 let p:=if c.2=.decreasing then (b - 1) - (c.1 - a) else c.1
 let h:=if c.2=.decreasing then Hint.increasing else c.2
 let pi:=if (wb&&wp&&decide (h=.increasing))=true then partialInsertionSort B3 d2 a b else (d2,false)
 if pi.2=true then pi.1 else B5E a b pi.1 p l wb wp
theorem B1T {d:Array V} {a b:Nat} (h:a < b):a≤(choosePivot B3 d a b).1∧(choosePivot B3 d a b).1 < b:=choosePivot_holds B3 d a b h
theorem B0c {d:Array V} {a b l:Nat} {wb wp:Bool} (h1:a < b) (h2:b≤d.size):pdq B3 d a b l wb wp =
  if b - a≤12 then insertionSort B3 d a b else if l=0 then heapSort B3 d a b else
  B99 a b (if (!wb)=true then breakPatterns d a b else d) (if (!wb)=true then l - 1 else l) wb wp:=by
 rw [pdq]
 split
 ·rfl
 ·split
  ·rfl
  ·have e1:(if (!wb)=true then breakPatterns d a b else d).size=d.size:=by split;exact A5n (by omega) h2;rfl
   generalize (if (!wb)=true then breakPatterns d a b else d)=d1 at e1 ⊢
   generalize (if (!wb)=true then l - 1 else l)=l1
   have hc:=B1T (d:=d1) h1
   have e2:(if (choosePivot B3 d1 a b).2=.decreasing then reverseRange d1 a b else d1).size=d.size:=by split;rw [A5m (by omega) (by omega),e1];exact e1
   have hp:a≤(if (choosePivot B3 d1 a b).2=.decreasing then (b - 1) - ((choosePivot B3 d1 a b).1 - a) else (choosePivot B3 d1 a b).1)∧(if (choosePivot B3 d1 a b).2=.decreasing then (b - 1) - ((choosePivot B3 d1 a b).1 - a) else (choosePivot B3 d1 a b).1) < b:=by split<;>omega
   simp only [B99]
   generalize (if (choosePivot B3 d1 a b).2=.decreasing then reverseRange d1 a b else d1)=d2 at e2 ⊢
   generalize (if (choosePivot B3 d1 a b).2=.decreasing then (b - 1) - ((choosePivot B3 d1 a b).1 - a) else (choosePivot B3 d1 a b).1)=p at hp ⊢
   generalize (if (choosePivot B3 d1 a b).2=.decreasing then Hint.increasing else (choosePivot B3 d1 a b).2)=h
   have e3:(if (wb&&wp&&decide (h=.increasing))=true then partialInsertionSort B3 d2 a b else (d2,false)).1.size=d.size:=by split;rw [A5p,e2];exact e2
   generalize (if (wb&&wp&&decide (h=.increasing))=true then partialInsertionSort B3 d2 a b else (d2,false))=pi at e3 ⊢
   split
   ·rfl
   ·simp only [B5E]
    split
    ·obtain ⟨g1,g2,g3⟩:=B1S (d:=pi.1) hp.1 hp.2
     rw [dif_pos ⟨g1,g2⟩]
    ·obtain ⟨g1,g2⟩:=B1R (d:=pi.1) hp.1 hp.2 (by omega)
     rw [dif_pos ⟨g1,g2⟩]
end
noncomputable section
open Go.RowKit Go.Sort
variable {R:Type}
theorem C0a {N:Nat} (ih:∀ (a b l:Nat) (wb wp:Bool) (d:Array V),b - a≤N→a≤b→b≤d.size→(pdq B3 d a b l wb wp).size=d.size) {a b p l:Nat} {wb wp:Bool} {d:Array V} (hm:b - a≤N+1) (h1:a≤p) (h2:p < b) (h3:b≤d.size) :
  (B5E a b d p l wb wp).size=d.size:=by
 unfold B5E
 split
 ·obtain ⟨g1,g2,g3⟩:=B1S (d:=d) h1 h2
  rw [ih _ _ _ _ _ _ (by omega) g2 (by omega),g3]
 ·obtain ⟨g1,g2⟩:=B1R (d:=d) h1 h2 h3
  have g3:=B0b (d:=d) h1 h2 h3
  split
  ·have e:=ih a (partition B3 d a b p).1 l true true (partition B3 d a b p).2.2 (by omega) g1 (by omega)
   rw [ih _ _ _ _ _ _ (by omega) (by omega) (by omega),e,g3]
  ·have e:=ih ((partition B3 d a b p).1+1) b l true true (partition B3 d a b p).2.2 (by omega) (by omega) (by omega)
   rw [ih _ _ _ _ _ _ (by omega) (by omega) (by omega),e,g3]
theorem C0b {N:Nat} (ih:∀ (a b l:Nat) (wb wp:Bool) (d:Array V),b - a≤N→a≤b→b≤d.size→(pdq B3 d a b l wb wp).size=d.size) {a b l:Nat} {wb wp:Bool} {d:Array V} (hm:b - a≤N+1) (h1:a < b) (h3:b≤d.size) :
  (B99 a b d l wb wp).size=d.size:=by
 unfold B99
 have hc:=B1T (d:=d) h1
 have e2:(if (choosePivot B3 d a b).2=.decreasing then reverseRange d a b else d).size=d.size:=by split;rw [A5m (by omega) (by omega)];rfl
 have hp:a≤(if (choosePivot B3 d a b).2=.decreasing then (b - 1) - ((choosePivot B3 d a b).1 - a) else (choosePivot B3 d a b).1)∧(if (choosePivot B3 d a b).2=.decreasing then (b - 1) - ((choosePivot B3 d a b).1 - a) else (choosePivot B3 d a b).1) < b:=by split<;>omega
 simp only
 generalize (if (choosePivot B3 d a b).2=.decreasing then reverseRange d a b else d)=d2 at e2 ⊢
 generalize (if (choosePivot B3 d a b).2=.decreasing then (b - 1) - ((choosePivot B3 d a b).1 - a) else (choosePivot B3 d a b).1)=p at hp ⊢
 generalize (if (choosePivot B3 d a b).2=.decreasing then Hint.increasing else (choosePivot B3 d a b).2)=h
 have e3:(if (wb&&wp&&decide (h=.increasing))=true then partialInsertionSort B3 d2 a b else (d2,false)).1.size=d.size:=by split;rw [A5p,e2];exact e2
 generalize (if (wb&&wp&&decide (h=.increasing))=true then partialInsertionSort B3 d2 a b else (d2,false))=pi at e3 ⊢
 split
 ·exact e3
 ·rw [C0a ih hm hp.1 hp.2 (by omega),e3]
theorem B0d:∀ (m a b l:Nat) (wb wp:Bool) (d:Array V),b - a≤m→a≤b→b≤d.size→(pdq B3 d a b l wb wp).size=d.size:=by
 intro m
 induction m with
 | zero =>
  intro a b l wb wp d hm hab hb
  rw [pdq,if_pos (by omega),B0a hab hb]
 | succ m ih =>
  intro a b l wb wp d hm hab hb
  by_cases h0:b - a≤12
  ·rw [pdq,if_pos h0,B0a hab hb]
  ·rw [B0c (by omega) hb,if_neg h0]
   split
   ·rw [B98 hab hb]
   ·have e1:(if (!wb)=true then breakPatterns d a b else d).size=d.size:=by split;exact A5n (by omega) hb;rfl
    rw [C0b ih hm (by omega) (by omega),e1]
section
variable {d:Array V} {a b c:Nat}
theorem A13 (h1:a≤b) (h2:b≤d.size) (h3:d.size≤1000000) {x:Int}:A03 ⟨C0 d,a,b,x⟩=true:=by
 simp only [A03,A7N h3,Bool.and_true,E0s,C5,Q8]
 refine ⟨?_,?_,?_⟩<;>omega
theorem A7R (h1:a < b) (h2:b≤d.size) (h3:d.size≤1000000) {x:Int}:A2k ⟨C0 d,a,b,x⟩=true:=by
 simp only [A2k,A13 (Nat.le_of_lt h1) h2 h3,Bool.and_true,J1]
 omega
theorem B3o (h1:a≤c) (h2:c < b) (h3:b≤d.size) (h4:d.size≤1000000):A48 ⟨C0 d,a,b,c⟩=true:=by
 simp only [A48,A13 (show a≤b by omega) h3 h4,Bool.and_true,E0s,J1,C5]
 refine ⟨?_,?_⟩<;>omega
theorem A7S {q:Nat} (h0:b - a < q) (h1:a≤b) (h2:b≤d.size) (h3:d.size≤1000000) (h4:c≤1000000):A0g q ⟨C0 d,a,b,c⟩=true:=by
 simp only [A0g,A13 h1 h2 h3,Bool.and_true,E0s,J1,C5]
 refine ⟨?_,?_,?_⟩<;>omega
theorem C5n {x:Int}:A5S ⟨C0 d,a,b,x⟩=C0 (insertionSort B3 d a b):=by rw [A5S,E9];simp only [SaK.d,unrI_rwVK,Int.toNat_natCast]
theorem C5o {x:Int}:A5T ⟨C0 d,a,b,x⟩=C0 (heapSort B3 d a b):=by rw [A5T,E9];simp only [SaK.d,unrI_rwVK,Int.toNat_natCast]
theorem A7T {x:Int}:A3M ⟨C0 d,a,b,x⟩=C0 (reverseRange d a b):=by rw [A3M,E9];simp only [SaK.d,unrI_rwVK,Int.toNat_natCast]
theorem C5p {x:Int}:A5U ⟨C0 d,a,b,x⟩=C0 (breakPatterns d a b):=by rw [A5U,E9];simp only [SaK.d,unrI_rwVK,Int.toNat_natCast]
theorem B3p {x:Int}:A4f ⟨C0 d,a,b,x⟩=C0 (partialInsertionSort B3 d a b).1:=by rw [A4f,E9];simp only [SaK.d,unrI_rwVK,Int.toNat_natCast]
theorem B3q {x:Int}:A5V ⟨C0 d,a,b,x⟩=(partialInsertionSort B3 d a b).2:=by rw [A5V,E9];simp only [SaK.d,unrI_rwVK,Int.toNat_natCast]
theorem C5q:A5W ⟨C0 d,a,b,c⟩=C0 (partitionEqual B3 d a b c).2:=by rw [A5W,E9];simp only [SaK.d,unrI_rwVK,Int.toNat_natCast]
theorem C5r:A5X ⟨C0 d,a,b,c⟩=((partitionEqual B3 d a b c).1:Nat):=by rw [A5X,E9];simp only [SaK.d,unrI_rwVK,Int.toNat_natCast]
theorem C5s:A5Y ⟨C0 d,a,b,c⟩=C0 (partition B3 d a b c).2.2:=by rw [A5Y,E9];simp only [SaK.d,unrI_rwVK,Int.toNat_natCast]
theorem C5t:A0F ⟨C0 d,a,b,c⟩=(partition B3 d a b c).2.1:=by rw [A0F,E9];simp only [SaK.d,unrI_rwVK,Int.toNat_natCast]
theorem C5u:A5Z ⟨C0 d,a,b,c⟩=((partition B3 d a b c).1:Nat):=by rw [A5Z,E9];simp only [SaK.d,unrI_rwVK,Int.toNat_natCast]
theorem A1c {x:Int}:A1R ⟨C0 d,a,b,x⟩=((choosePivot B3 d a b).1:Nat):=by rw [A1R,E9];simp only [SaK.d,unrI_rwVK,Int.toNat_natCast]
theorem A1d {x:Int}:A50 ⟨C0 d,a,b,x⟩=match (choosePivot B3 d a b).2 with | .unknown=>0 | .increasing=>1 | .decreasing=>2:=by rw [A50,E9];simp only [SaK.d,unrI_rwVK,Int.toNat_natCast];cases (choosePivot B3 d a b).2<;>rfl
theorem A4z:T6 ⟨C0 d,a,b,c⟩=C0 (pdq B3 d a b c true true):=by rw [T6,E9];simp only [SaK.d,unrI_rwVK,Int.toNat_natCast]
end
def A56 (R:Type) (f:(A4y→Option R)→Option R) (d:Array V):Prop:=∃ (a' b' l':Int) (wb' wp':Bool),∀ kx,f kx=kx (.r (C0 d) a' b' l' wb' wp')
section
variable {q L N n:Nat} (hL:L≤2 * q) (ih:∀ (a b l:Nat) (wb wp:Bool) (d:Array V),b - a≤N→a≤b→b≤d.size→d.size≤1000000→b - a < L→l≤1000000→A56 R (fun kx=>B7 (V4 q R) n (.m (C0 d) a b l wb wp) kx) (pdq B3 d a b l wb wp))
include hL ih
theorem C0c {d:Array V} {a b l mid:Nat} {wp:Bool} (hm:b - a≤N+1) (hl:b - a < L) (h1:a≤mid) (h2:mid < b) (hb:b≤d.size) (hs:d.size≤1000000) (hl2:l≤1000000) :
  A56 R (fun kx=>B3m q R (fun p=>B7 (V4 q R) n p kx) (C0 d) mid a b l wp)
   (if mid - a < b - mid then pdq B3 (pdq B3 d a mid l true true) (mid+1) b l (decide (mid - a ≥ (b - a) / 8)) wp
    else pdq B3 (pdq B3 d (mid+1) b l true true) a mid l (decide (b - mid ≥ (b - a) / 8)) wp):=by
 have w1:B2 ((mid:Int) - a)=((mid - a:Nat):Int):=G1 (by omega) (by omega)
 have w2:B2 ((b:Int) - mid)=((b - mid:Nat):Int):=G1 (by omega) (by omega)
 have w3:B2 ((mid:Int)+1)=((mid+1:Nat):Int):=G1 (by omega) (by omega)
 have w4:B2 (Int.tdiv (B2 ((b:Int) - a)) 8)=(((b - a) / 8:Nat):Int):=by
  rw [G1 (x:=(b:Int) - a) (n:=b - a) (by omega) (by omega),Int.tdiv_eq_ediv_of_nonneg (by omega)]
  exact G1 (by omega) (by omega)
 by_cases h3:mid - a < b - mid
 ·have es:=B0d _ a mid l true true d (Nat.le_refl _) h1 (by omega)
  have hg:A0g q ⟨C0 d,(a:Int),(mid:Int),(l:Int)⟩=true:=A7S (by omega) h1 (by omega) hs hl2
  obtain ⟨a',b',l',wb',wp',h4⟩:=ih (mid+1) b l (decide (mid - a ≥ (b - a) / 8)) wp (pdq B3 d a mid l true true) (by omega) (by omega) (by omega) (by omega) (by omega) hl2
  refine ⟨a',b',l',wb',wp',fun kx=>?_⟩
  have h4:=h4 kx
  rw [if_pos h3]
  simp only [B3m,w1,w2,w3,w4,G0,E6,hg,A4z,cond_true]
  rw [decide_eq_true (show ((mid - a:Nat):Int) < ((b - mid:Nat):Int) by omega),cond_true]
  by_cases h5:mid - a ≥ (b - a) / 8
  ·rw [decide_eq_true (show (((b - a) / 8:Nat):Int)≤((mid - a:Nat):Int) by omega),cond_true]
   rw [decide_eq_true h5] at h4 ⊢
   exact h4
  ·rw [decide_eq_false (show ¬ (((b - a) / 8:Nat):Int)≤((mid - a:Nat):Int) by omega),cond_false]
   rw [decide_eq_false h5] at h4 ⊢
   exact h4
 ·have es:=B0d _ (mid+1) b l true true d (Nat.le_refl _) (by omega) (by omega)
  have hg:A0g q ⟨C0 d,((mid+1:Nat):Int),(b:Int),(l:Int)⟩=true:=A7S (by omega) (by omega) (by omega) hs hl2
  obtain ⟨a',b',l',wb',wp',h4⟩:=ih a mid l (decide (b - mid ≥ (b - a) / 8)) wp (pdq B3 d (mid+1) b l true true) (by omega) (by omega) (by omega) (by omega) (by omega) hl2
  refine ⟨a',b',l',wb',wp',fun kx=>?_⟩
  have h4:=h4 kx
  rw [if_neg h3]
  simp only [B3m,w1,w2,w3,w4,G0,E6,hg,A4z,cond_true]
  rw [decide_eq_false (show ¬ ((mid - a:Nat):Int) < ((b - mid:Nat):Int) by omega),cond_false]
  by_cases h5:b - mid ≥ (b - a) / 8
  ·rw [decide_eq_true (show (((b - a) / 8:Nat):Int)≤((b - mid:Nat):Int) by omega),cond_true]
   rw [decide_eq_true h5] at h4 ⊢
   exact h4
  ·rw [decide_eq_false (show ¬ (((b - a) / 8:Nat):Int)≤((b - mid:Nat):Int) by omega),cond_false]
   rw [decide_eq_false h5] at h4 ⊢
   exact h4
theorem A5q {d:Array V} {a b l p:Nat} {wb wp:Bool} (hm:b - a≤N+1) (hl:b - a < L) (h1:a≤p) (h2:p < b) (hb:b≤d.size) (hs:d.size≤1000000) (hl2:l≤1000000) :
  A56 R (fun kx=>A3P q R (fun p=>B7 (V4 q R) n p kx) (C0 d) a b l p wb wp) (B5E a b d p l wb wp):=by
 obtain ⟨g1,g2⟩:=B1R (d:=d) h1 h2 hb
 have g3:=B0b (d:=d) h1 h2 hb
 have hP:A56 R (fun kx=>B7Z q R (fun p=>B7 (V4 q R) n p kx) (C0 d) a b l p)
   (if (partition B3 d a b p).1 - a < b - (partition B3 d a b p).1 then
    pdq B3 (pdq B3 (partition B3 d a b p).2.2 a (partition B3 d a b p).1 l true true) ((partition B3 d a b p).1+1) b l (decide ((partition B3 d a b p).1 - a ≥ (b - a) / 8)) (partition B3 d a b p).2.1
   else pdq B3 (pdq B3 (partition B3 d a b p).2.2 ((partition B3 d a b p).1+1) b l true true) a (partition B3 d a b p).1 l (decide (b - (partition B3 d a b p).1 ≥ (b - a) / 8)) (partition B3 d a b p).2.1):=by
  obtain ⟨a',b',l',wb',wp',h4⟩:=C0c hL ih (d:=(partition B3 d a b p).2.2) (wp:=(partition B3 d a b p).2.1) hm hl g1 g2 (by omega) (by omega) hl2
  refine ⟨a',b',l',wb',wp',fun kx=>?_⟩
  have h4:=h4 kx
  simp only [B7Z,B3o h1 h2 hb hs,cond_true,C5t,C5s,C5u]
  cases hpb:(partition B3 d a b p).2.1 with
  | true=>rw [hpb] at h4;exact h4
  | false=>rw [hpb] at h4;exact h4
 unfold B5E
 by_cases ha:a > 0
 ·have w1:B2 ((a:Int) - 1)=((a - 1:Nat):Int):=G1 (by omega) (by omega)
  cases hlt:B3 d[a - 1]! d[p]! with
  | true =>
   rw [if_neg (by simp)]
   obtain ⟨a',b',l',wb',wp',h4⟩:=hP
   refine ⟨a',b',l',wb',wp',fun kx=>?_⟩
   simp only [A3P]
   rw [G0,decide_eq_true (by omega),cond_true,w1,J3 rfl rfl (by omega) (by omega),hlt,cond_true]
   exact h4 kx
  | false =>
   rw [if_pos (by simp [ha])]
   obtain ⟨e1,e2,e3⟩:=B1S (d:=d) h1 h2
   obtain ⟨a',b',l',wb',wp',h4⟩:=ih (partitionEqual B3 d a b p).1 b l wb wp (partitionEqual B3 d a b p).2 (by omega) e2 (by omega) (by omega) (by omega) hl2
   refine ⟨a',b',l',wb',wp',fun kx=>?_⟩
   simp only [A3P]
   rw [G0,decide_eq_true (by omega),cond_true,w1,J3 rfl rfl (by omega) (by omega),hlt,cond_false,B3o h1 h2 hb hs,cond_true,C5q,C5r]
   exact h4 kx
 ·rw [if_neg (by simp;omega)]
  obtain ⟨a',b',l',wb',wp',h4⟩:=hP
  refine ⟨a',b',l',wb',wp',fun kx=>?_⟩
  simp only [A3P]
  rw [G0,decide_eq_false (by omega),cond_false]
  exact h4 kx
theorem B0e {d:Array V} {a b l p:Nat} {wb wp:Bool} (hm:b - a≤N+1) (hl:b - a < L) (h1:a≤p) (h2:p < b) (hb:b≤d.size) (hs:d.size≤1000000) (hl2:l≤1000000) :
  A56 R (fun kx=>B3n q R (fun p=>B7 (V4 q R) n p kx) kx (C0 d) a b l p wb wp) (if (partialInsertionSort B3 d a b).2=true then (partialInsertionSort B3 d a b).1 else B5E a b (partialInsertionSort B3 d a b).1 p l wb wp):=by
 have e:=A5p (d:=d) (a:=a) (b:=b)
 cases hp:(partialInsertionSort B3 d a b).2 with
 | true =>
  rw [if_pos rfl]
  refine ⟨a,b,l,wb,wp,fun kx=>?_⟩
  simp only [B3n,A7R (show a < b by omega) hb hs,cond_true,B3q,hp,B3p]
 | false =>
  rw [if_neg (by simp)]
  obtain ⟨a',b',l',wb',wp',h4⟩:=A5q hL ih (d:=(partialInsertionSort B3 d a b).1) (wb:=wb) (wp:=wp) hm hl h1 h2 (by omega) (by omega) hl2
  refine ⟨a',b',l',wb',wp',fun kx=>?_⟩
  simp only [B3n,A7R (show a < b by omega) hb hs,cond_true,B3q,hp,B3p,cond_false]
  exact h4 kx
theorem B0f {d:Array V} {a b l:Nat} {wb wp:Bool} (hm:b - a≤N+1) (hl:b - a < L) (h1:a < b) (hb:b≤d.size) (hs:d.size≤1000000) (hl2:l≤1000000) :
  A56 R (fun kx=>A2K q R (fun p=>B7 (V4 q R) n p kx) kx (C0 d) a b l wb wp) (B99 a b d l wb wp):=by
 obtain ⟨c1,c2⟩:=B1T (d:=d) h1
 have hg:A2k ⟨C0 d,(a:Int),(b:Int),0⟩=true:=A7R h1 hb hs
 unfold B99
 simp only
 by_cases hd:(choosePivot B3 d a b).2=.decreasing
 ·have hp:B2 (B2 ((b:Int) - 1) - B2 (((choosePivot B3 d a b).1:Nat) - (a:Int)))=(((b - 1) - ((choosePivot B3 d a b).1 - a):Nat):Int):=by
   rw [G1 (x:=(b:Int) - 1) (n:=b - 1) (by omega) (by omega),G1 (x:=(((choosePivot B3 d a b).1:Nat):Int) - a) (n:=(choosePivot B3 d a b).1 - a) (by omega) (by omega)]
   exact G1 (by omega) (by omega)
  have e:=A5m (d:=d) (a:=a) (b:=b) (by omega) hb
  simp only [hd,if_true]
  have H4:=A5q hL ih (d:=reverseRange d a b) (p:=(b - 1) - ((choosePivot B3 d a b).1 - a)) (l:=l) (wb:=wb) (wp:=wp) hm hl (by omega) (by omega) (by omega) (by omega) hl2
  have HQ:=B0e hL ih (d:=reverseRange d a b) (p:=(b - 1) - ((choosePivot B3 d a b).1 - a)) (l:=l) (wb:=wb) (wp:=wp) hm hl (by omega) (by omega) (by omega) (by omega) hl2
  cases wb with
  | false =>
   obtain ⟨a',b',l',wb',wp',h4⟩:=H4
   refine ⟨a',b',l',wb',wp',fun kx=>?_⟩
   simp only [A2K,hg,cond_true,A1d,hd,A0O rfl,A7T,A1c,hp,cond_false]
   exact h4 kx
  | true =>
   cases wp with
   | false =>
    obtain ⟨a',b',l',wb',wp',h4⟩:=H4
    refine ⟨a',b',l',wb',wp',fun kx=>?_⟩
    simp only [A2K,hg,cond_true,A1d,hd,A0O rfl,A7T,A1c,hp,cond_false]
    exact h4 kx
   | true =>
    obtain ⟨a',b',l',wb',wp',h4⟩:=HQ
    refine ⟨a',b',l',wb',wp',fun kx=>?_⟩
    simp only [A2K,hg,cond_true,A1d,hd,A0O rfl,A7T,A1c,hp,cond_false]
    exact h4 kx
 ·simp only [hd,if_false]
  have H4:=A5q hL ih (d:=d) (p:=(choosePivot B3 d a b).1) (l:=l) (wb:=wb) (wp:=wp) hm hl (by omega) (by omega) (by omega) (by omega) hl2
  have HQ:=B0e hL ih (d:=d) (p:=(choosePivot B3 d a b).1) (l:=l) (wb:=wb) (wp:=wp) hm hl (by omega) (by omega) (by omega) (by omega) hl2
  have hh:Y5 (match (choosePivot B3 d a b).2 with | .unknown=>0 | .increasing=>1 | .decreasing=>2) 2=false:=by
   cases hc:(choosePivot B3 d a b).2 with
   | unknown=>rfl
   | increasing=>rfl
   | decreasing=>exact absurd hc hd
  cases wb with
  | false =>
   obtain ⟨a',b',l',wb',wp',h4⟩:=H4
   refine ⟨a',b',l',wb',wp',fun kx=>?_⟩
   simp only [A2K,hg,cond_true,A1d,A1c,cond_false]
   rw [hh,cond_false]
   exact h4 kx
  | true =>
   cases wp with
   | false =>
    obtain ⟨a',b',l',wb',wp',h4⟩:=H4
    refine ⟨a',b',l',wb',wp',fun kx=>?_⟩
    simp only [A2K,hg,cond_true,A1d,A1c,cond_false]
    rw [hh,cond_false]
    exact h4 kx
   | true =>
    by_cases hi:(choosePivot B3 d a b).2=.increasing
    ·rw [if_pos (show (true&&true&&decide ((choosePivot B3 d a b).2=.increasing))=true by simp [hi])]
     obtain ⟨a',b',l',wb',wp',h4⟩:=HQ
     refine ⟨a',b',l',wb',wp',fun kx=>?_⟩
     simp only [A2K,hg,cond_true,A1d,A1c,cond_false]
     rw [hh,cond_false]
     simp only [hi]
     exact h4 kx
    ·rw [if_neg (show ¬ (true&&true&&decide ((choosePivot B3 d a b).2=.increasing))=true by simp [hi])]
     obtain ⟨a',b',l',wb',wp',h4⟩:=H4
     have hu:(choosePivot B3 d a b).2=.unknown:=by
      cases hc:(choosePivot B3 d a b).2 with
      | unknown=>rfl
      | increasing=>exact absurd hc hi
      | decreasing=>exact absurd hc hd
     refine ⟨a',b',l',wb',wp',fun kx=>?_⟩
     simp only [A2K,hg,cond_true,A1d,A1c,cond_false]
     rw [hh,cond_false]
     simp only [hu]
     exact h4 kx
end
theorem C5v {q L:Nat} (hL:L≤2 * q∨L≤13):∀ (m n a b l:Nat) (wb wp:Bool) (d:Array V),b - a≤m→m < n→a≤b→b≤d.size→d.size≤1000000→b - a < L→l≤1000000 →
  A56 R (fun kx=>B7 (V4 q R) n (.m (C0 d) a b l wb wp) kx) (pdq B3 d a b l wb wp):=by
 intro m
 have small:∀ (n a b l:Nat) (wb wp:Bool) (d:Array V),0 < n→b - a≤12→a≤b→b≤d.size→d.size≤1000000→A56 R (fun kx=>B7 (V4 q R) n (.m (C0 d) a b l wb wp) kx) (pdq B3 d a b l wb wp):=by
  intro n a b l wb wp d hn h0 hab hb hs
  obtain ⟨n,rfl⟩:∃ m,n=m+1:=⟨n - 1,by omega⟩
  refine ⟨a,b,l,wb,wp,fun kx=>?_⟩
  simp only
  rw [B7,V4,G1 (x:=(b:Int) - a) (n:=b - a) (by omega) (by omega),E6,decide_eq_true (by omega),cond_true,A13 hab hb hs,cond_true,C5n,pdq,if_pos h0]
 induction m with
 | zero =>
  intro n a b l wb wp d hm hn hab hb hs hl hl2
  exact small n a b l wb wp d (by omega) (by omega) hab hb hs
 | succ m ih =>
  intro n a b l wb wp d hm hn hab hb hs hl hl2
  by_cases h0:b - a≤12
  ·exact small n a b l wb wp d (by omega) h0 hab hb hs
  ·have hL:L≤2 * q:=by omega
   obtain ⟨n,rfl⟩:∃ m,n=m+1:=⟨n - 1,by omega⟩
   have head:∀ kx,B7 (V4 q R) (n+1) (.m (C0 d) a b l wb wp) kx=bif Y5 (l:Int) 0 then (bif A03 ⟨C0 d,a,b,0⟩ then kx (.r (A5T ⟨C0 d,a,b,0⟩) a b l wb wp) else none) else
     bif wb then A2K q R (fun p=>B7 (V4 q R) n p kx) kx (C0 d) a b l wb wp else (bif A03 ⟨C0 d,a,b,0⟩ then A2K q R (fun p=>B7 (V4 q R) n p kx) kx (A5U ⟨C0 d,a,b,0⟩) a b (B2 ((l:Int) - 1)) wb wp else none):=by
    intro kx
    rw [B7,V4,G1 (x:=(b:Int) - a) (n:=b - a) (by omega) (by omega),E6,decide_eq_false (by omega),cond_false]
   rw [B0c (by omega) hb,if_neg h0]
   by_cases h00:l=0
   ·rw [if_pos h00]
    refine ⟨a,b,l,wb,wp,fun kx=>?_⟩
    simp only
    rw [head,A0O (by omega),cond_true,A13 hab hb hs,cond_true,C5o]
   ·rw [if_neg h00]
    have ih':=fun (a b l:Nat) (wb wp:Bool) (d:Array V) h1 h2 h3 h4 h5 h6=>ih n a b l wb wp d h1 (by omega) h2 h3 h4 h5 h6
    cases wb with
    | true =>
     obtain ⟨a',b',l',wb',wp',h4⟩:=B0f hL ih' (d:=d) (l:=l) (wb:=true) (wp:=wp) hm hl (by omega) hb hs hl2
     refine ⟨a',b',l',wb',wp',fun kx=>?_⟩
     simp only
     rw [head,A2t (by omega),cond_false,cond_true]
     exact h4 kx
    | false =>
     have e:=A5n (d:=d) (a:=a) (b:=b) (by omega) hb
     obtain ⟨a',b',l',wb',wp',h4⟩:=B0f hL ih' (d:=breakPatterns d a b) (l:=l - 1) (wb:=false) (wp:=wp) hm hl (by omega) (by omega) (by omega) (by omega)
     refine ⟨a',b',l',wb',wp',fun kx=>?_⟩
     simp only
     rw [head,A2t (by omega),cond_false,cond_false,A13 hab hb hs,cond_true,C5p,G1 (x:=(l:Int) - 1) (n:=l - 1) (by omega) (by omega)]
     exact h4 kx
def B0g (q:Nat) (R:Type) (xs:List V) (a b l:Int) (k:List V→Option R):Option R:=B7 (V4 q R) (A2 FU) (.m xs a b l true true) (fun | .r ys _ _ _ _ _=>k ys)
theorem A14 {q L:Nat} (hL:L≤2 * q∨L≤13) {xs:List V} {a b l:Int} (h:A0g L ⟨xs,a,b,l⟩=true) (k:List V→Option R):B0g q R xs a b l k=k (T6 ⟨xs,a,b,l⟩):=by
 simp only [A0g,E0s,J1,C5] at h
 obtain ⟨h1,h2,h3,h4⟩:=h
 obtain ⟨a',b',d,e1,e2,e3,e4,e5,e6,e7⟩:=A3k h4
 simp only at e1 e2 e3
 subst e1 e2 e3
 obtain ⟨l',rfl⟩:=Int.eq_ofNat_of_zero_le h2
 obtain ⟨_,_,_,_,_,h8⟩:=C5v (R:=R) hL b' (A2 FU) a' b' l' true true d (by omega) (S3 (by omega)) e5 e6 e7 (by omega) (by omega)
 rw [A4z]
 exact h8 _
end
open Go.RowKit Go.Sort
variable {R:Type}
theorem D0P {xs:List V} (h:(Nat.ble xs.length 200)=true) (f:List V→J2) :
  (ln xs.length <| bif A0g 208 ⟨xs,0,(xs.length:Nat),(Wd.blen (WU (xs.length:Nat)).toNat:Nat)⟩ then some (f (T6 ⟨xs,0,(xs.length:Nat),(Wd.blen (WU (xs.length:Nat)).toNat:Nat)⟩)) else none)=some (f (T6 ⟨xs,0,(xs.length:Nat),(bitsLen xs.length:Nat)⟩)):=by
 have hl:=E0x h
 have hb:bitsLen xs.length≤64:=(bitsLen_le_iff _ _).2 (by omega)
 have e:Wd.blen (WU (xs.length:Nat)).toNat=bitsLen xs.length:=by rw [C9 (by omega),Int.toNat_natCast];rfl
 have hs:(A1Q xs).size=xs.length:=by simp [A1Q]
 have hg:A0g 208 ⟨xs,0,(xs.length:Nat),(bitsLen xs.length:Nat)⟩=true:=by
  have:=A7S (d:=A1Q xs) (a:=0) (b:=xs.length) (c:=bitsLen xs.length) (q:=208) (by omega) (by omega) (by omega) (by omega) (by omega)
  exact this
 rw [D8 (by omega),e,hg];rfl
theorem B5F (xs:List V):T6 ⟨xs,0,(xs.length:Nat),(bitsLen xs.length:Nat)⟩=(Go.Sort.sort B3 xs.toArray).toList:=by
 have:=A4z (d:=xs.toArray) (a:=0) (b:=xs.length) (c:=bitsLen xs.length)
 exact this
open Go.RowKit Go.Sort
variable {P:Program} {T:TT} {c:P9} {e eb:B9} {of of':Nat→Option Ob}
theorem C0d (h:A7 T c e of) {el sz:Nat} {w':World} {v:Value} {xs:List V} {ys:List Value} {nx:Nat} (hb:Below e.w.heap.size e.w w') (hu:¬ e.U nx) (hsz:C1 T el=sz) (h0:0 < sz) (hrow:w'.ownsRow e.w.heap.size el sz v xs.length ys) (hv:RV T e (List.replicate xs.length el) xs ys) (hnl:v=.slice none 0 0↔xs=[]) {ro:List Nat} :
  V8 T c e of nx ⟨.o nx 1,[(nx,.row el 1 xs xs.isEmpty false)],ro,nx+1⟩ v w':=by
 obtain ⟨hl,hc⟩:=hrow
 rcases hc with ⟨rfl,hn⟩ | ⟨g,cap,cur,rfl,hg,hgb,h1,h2,h3,h4⟩
 ·have hx:=hnl.1 rfl
  subst hx
  obtain ⟨q1,q2⟩:=h.below hb
  have hu':¬ ({ e with w:=w' }:B9).U nx:=hu
  have q3:=q1.nil (el:=el) hu' (nl:=true) rfl (by omega)
  refine ⟨B9.nil { e with w:=w' } nx el,rfl,q3,q2.trans (q1.le_nil hu'),fun j hj=>hj.elim (fun q=>.inr (by subst q;exact ⟨Nat.le_refl _,Nat.lt_succ_self _⟩)) .inl,?_⟩
  exact A3A (.inl rfl) (upd_same _ _ _) (by decide) (upd_same _ _ _) (upd_same _ _ _)
 ·have hne:xs≠[]:=fun q=>by have:=hnl.2 q;cases this
  have he:xs.isEmpty=false:=by cases xs with | nil=>exact absurd rfl hne | cons a r=>rfl
  rw [he]
  have hglt:g < w'.heap.size:=(Array.getElem?_eq_some_iff.1 hgb).1
  have hspl:cur.toList=[]++ys++cur.toList.drop (xs.length * sz):=by rw [List.nil_append,← h4,List.take_append_drop]
  have hok:OK T (e.got w' nx g el xs.length) nx (.row el 1 xs false false) :=
   ⟨.inl rfl,by decide,upd_same _ _ _,upd_same _ _ _,upd_same _ _ _,by omega,.inr ⟨rfl,g,0,cur,el,(0,0),[],ys,_,upd_same _ _ _,hgb,A12 hgb,hspl,rfl,hv.mono (h.le_got hb hu _ _ _),fun i _ hs=>by have:=h.slt _ _ hs;omega,fun _ i _ hs=>by have:=h.slt _ _ hs;omega⟩⟩
  refine ⟨e.got w' nx g el xs.length,rfl,h.got hb hu hg hglt hok,h.le_got hb hu _ _ _,fun j hj=>hj.elim (fun q=>.inr (by subst q;exact ⟨Nat.le_refl _,Nat.lt_succ_self _⟩)) .inl,?_⟩
  have:=A1l (T:=T) (e:=e.got w' nx g el xs.length) (id:=nx) (ver:=1) (b:=g) (o:=0) (cap:=cap) (k:=0) (.inl rfl) (upd_same _ _ _) (by decide) (upd_same _ _ _) (by show G3 e.ln nx xs.length nx≤cap;rw [upd_same];exact h1)
   (by show 0+cap * C1 T (G3 e.ty nx el nx)=blen w' g;rw [upd_same,hsz];simp [blen,hgb,h3]) (fun _=>rfl)
  have hln:(e.got w' nx g el xs.length).ln nx=xs.length:=upd_same _ _ _
  rw [hln] at this
  exact this
abbrev DRf:D:=.struct [.arr 32 (.int .u8),.int .u32]
theorem A7U:∀ a b:List V,J6 a b=0→a.map V.int=b.map V.int
 | [],[],_=>rfl
 | [],_::_,h=>by simp [J6] at h
 | _::_,[],h=>by simp [J6] at h
 | a::x,b::y,h=>by
  simp only [J6,G0] at h
  by_cases h1:a.int < b.int
  ·simp [h1] at h
  ·by_cases h2:b.int < a.int
   ·simp [h1,h2] at h
   ·simp only [h1,h2,decide_false,cond_false] at h
    rw [List.map_cons,List.map_cons,A7U x y h,show a.int=b.int by omega]
theorem B70:∀ (m:Nat) (a b:Nat),a < 256 ^ m→b < 256 ^ m→leB m a=leB m b→a=b
 | 0,a,b,h1,h2,_=>by simp at h1 h2;omega
 | m+1,a,b,h1,h2,h=>by
  simp only [leB,List.cons.injEq] at h
  have:=B70 m (a / 256) (b / 256) (by rw [Nat.pow_succ] at h1;omega) (by rw [Nat.pow_succ] at h2;omega) h.2
  omega
theorem B71 {x:V} (h:DRf.has x):∃ (hs:List Nat) (n:Nat),x=.l [.l (hs.map nv),.i (n:Int)]∧hs.length=32∧n < 4294967296:=by
 obtain ⟨ys,rfl,hy⟩:=h
 match ys,hy with
 | [a,b],hy =>
  obtain ⟨⟨hs,rfl,hl,hh⟩,⟨n,rfl,hn⟩,_⟩:=hy
  obtain ⟨ns,rfl,_⟩:=u8s hh
  obtain ⟨m,rfl⟩:=Int.eq_ofNat_of_zero_le hn.1
  refine ⟨ns,m,rfl,by rw [← hl];simp,?_⟩
  have:=hn.2;simp only [hi] at this;omega
theorem B3r {x y:V} (hx:DRf.has x) (hy:DRf.has y) (h:cmR x y=0):x=y:=by
 obtain ⟨a,n,rfl,ha,hn⟩:=B71 hx
 obtain ⟨b,m,rfl,hb,hm⟩:=B71 hy
 rw [A0C] at h
 have h:=A7U _ _ h
 have e1:U3 (.l [.l (a.map nv),.i (n:Int)])=(a++leB 4 n).map nv:=by
  show a.map nv++leV 4 (n:Int)=_
  rw [B77,List.map_append]
 have e2:U3 (.l [.l (b.map nv),.i (m:Int)])=(b++leB 4 m).map nv:=by
  show b.map nv++leV 4 (m:Int)=_
  rw [B77,List.map_append]
 rw [e1,e2,List.map_map,List.map_map] at h
 have hi:Function.Injective (V.int ∘ nv):=fun p q hpq=>by
  have:((p:Nat):Int)=((q:Nat):Int):=hpq
  omega
 have h:=(List.map_inj_right (fun p q hpq=>hi hpq)).1 h
 obtain ⟨h1,h2⟩:=List.append_inj h (by rw [ha,hb])
 subst h1
 rw [B70 4 n m (by omega) (by omega) h2]
def U2:List V→List V:=A1P fun ks=>(Go.Sort.sort B3 ks.toArray).toList
theorem A2s (ks:List V):(U2 ks).Perm ks:=by
 have:=(sort_sorts B3 A0K ks.toArray).1.2.2
 rw [U2,E9]
 have hsz:(Go.Sort.sort B3 ks.toArray).size=ks.length:=by have:=(sort_sorts B3 A0K ks.toArray).1.1;simpa using this
 have e:(Go.Sort.sort B3 ks.toArray).toList.take ks.length=(Go.Sort.sort B3 ks.toArray).toList:=List.take_of_length_le (by rw [E0y,hsz];exact Nat.le_refl _)
 have:=this
 simp [Array.toList_extract] at this
 rwa [e] at this
theorem A4A (ks:List V):(U2 ks).Pairwise (fun x y=>cmR x y≤0):=by
 rw [U2,E9,List.pairwise_iff_getElem]
 intro i j hi hj hij
 have h:=(sort_sorts B3 A0K ks.toArray).2 i j (Nat.zero_le _) hij (by
  have hsz:=(sort_sorts B3 A0K ks.toArray).1.1
  rw [E0y] at hj;omega)
 rw [E0y] at hi hj
 have e1:(Go.Sort.sort B3 ks.toArray)[i]! = (Go.Sort.sort B3 ks.toArray)[i]:=by simp [hi]
 have e2:(Go.Sort.sort B3 ks.toArray)[j]! = (Go.Sort.sort B3 ks.toArray)[j]:=by simp [hj]
 rw [e1,e2] at h
 simp only [B3,decide_eq_false_iff_not,Int.not_lt,A0C] at h
 rw [Array.getElem_toList,Array.getElem_toList,A0C,A2j]
 omega
theorem A7V {ks ls:List V} (hk:∀ x∈ks,DRf.has x) (hp:ls.Perm ks) (hs:ls.Pairwise (fun x y=>cmR x y≤0)):ls=U2 ks:=by
 refine List.Perm.eq_of_pairwise (le:=fun x y=>cmR x y≤0) (fun a b ha hb h1 h2=>?_) hs (A4A ks) (hp.trans (A2s ks).symm)
 have h3:cmR a b=0:=by
  rw [A0C] at h1 h2 ⊢
  rw [A2j] at h2
  omega
 exact B3r (hk a (hp.mem_iff.1 ha)) (hk b ((A2s ks).mem_iff.1 hb)) h3
theorem A9k {ks ls:List V} (hk:∀ x∈ks,DRf.has x) (hp:ls.Perm ks):U2 ls=U2 ks :=
 A7V hk ((A2s ls).trans hp) (A4A ls)
def D0Q (el gn:Nat) (args:List A) (of:Nat→Option Ob) (nx:Nat):Option Unit :=
 match args with
 | [.o id ver,.f h []]=>bif Nat.beq id 0&&(Nat.beq ver 1&&(Nat.beq nx 1&&Nat.beq h gn)) then
  (match of 0 with
  | some (.row el' v [] true sh)=>bif Nat.beq el el'&&(Nat.beq v 1&&!sh) then some () else none
  | _=>none) else none
 | _=>none
def sfC (el gn N:Nat):D3:=M8 (B4R el gn) (fun s=>Nat.ble s.xs.length 200) (L7 el N (fun _=>.t []) (fun s=>T6 ⟨s.xs,0,(s.xs.length:Nat),(bitsLen s.xs.length:Nat)⟩))
def sfN (el gn N:Nat):D3:=M8 (D0Q el gn) (fun _=>true) (fun _=>⟨.t [],[(0,.row el 1 [] true false)],[0],N⟩)
theorem B5G (xs:List V):T6 ⟨xs,0,(xs.length:Nat),(bitsLen xs.length:Nat)⟩=U2 xs:=by
 rw [B5F,U2,E9]
theorem D0R {s:D3} {of:Nat→Option Ob} {nx el gn N:Nat} {xs ys:List V} {nl nl':Bool} (ho:of nx=some (.row el 1 xs nl false))
  (hs:s J2 [.o 0 1,.f gn []] (ofL [.row el 1 xs nl false]) 1 some=some ⟨.t [],[(0,.row el 1 ys nl' false)],[0],N⟩) (hn:s.nat) (hN:1≤N) :
  (trS s).dir [.o nx 1,.f gn []] of (nx+1)=some ⟨.t [],[(nx,.row el 1 xs nl false),(nx,.row el 1 ys nl' false)],[nx],nx+1+(N - 1)⟩:=by
 have hb:Nat.beq nx nx=true:=by simp
 have hr:X3 of 64 (F5 [.o nx 1,.f gn []]) []=[nx]:=by
  show X3 of 64 ([nx]++([]++[])) []=[nx]
  simp [X3,mem,ho,A1A]
 unfold D3.dir trS
 simp only
 rw [hr]
 have h1:(A25 [nx]&&(B3Q of [nx] [nx]&&B18 [nx] (F5 [.o nx 1,.f gn []])))=true:=by
  have e:F5 [.o nx 1,.f gn []]=[nx]:=rfl
  rw [e]
  simp [A25,mem,B3Q,ho,okT,A1A,B18]
 rw [h1,cond_true]
 have h2:rnL (P5 [nx]) (A6l of) [.o nx 1,.f gn []]=[.o 0 1,.f gn []]:=by
  simp [rnL,rnA,rnV,P5,A6l,T2,ho]
 have h3:Y3 of [nx] [nx]=[.row el 1 xs nl false]:=by
  simp [Y3,ho,rnO,A6l,T2]
 rw [h2,h3,hn J2]
 have h4:s.dir [.o 0 1,.f gn []] (ofL [.row el 1 xs nl false]) [nx].length=some ⟨.t [],[(0,.row el 1 ys nl' false)],[0],N⟩:=hs
 rw [h4]
 have h5:Nat.ble [nx].length N=true:=E0B hN
 have h6:Nat.ble 1 N=true:=h5
 simp [ob,h6,B50,okT,A0w,A2c,J9,A8l,A4O,rnO,T2,ho,rnA,rnL]
theorem C5w {x:Value} (h:one x=true):x.oneCell'=true:=by cases x<;>first | rfl | cases h
def D39 (P:Program) (f f61 g od st:Nat):Prop:=∀ (Bm bm clock:Nat) (ms:Array MapEntry) (w:World) (R2:Value→World→Prop),StB ms clock→(∀ m∈ms.toList,∃ cs,m.key=.agg cs∧cs.size=33∧cs.all (·.oneCell')=true)→ms.size≤1000000 →
 w.cell? ⟨Bm,0,none⟩=some (.map (some bm))→w.heap[bm]? = some (.map ms clock) →
 (∀ v (xs:List MapEntry) w',xs.Perm ms.toList→w'.ownsRow w.heap.size st 33 v xs.length (xs.flatMap fun m=>m.key.cells.toList)→(v=.slice none 0 0↔xs=[])→Below w.heap.size w w'→Calls P f61 #[v,.func (.func od) #[] #[]] w' fun e w''=>(∃ u,e=.returned u)∧R2 v w'') →
 Calls P f #[.func (.func g) #[] #[.pointer (some ⟨Bm,0,none⟩)],.func (.func od) #[] #[]] w fun e w'=>∃ v,e=.returned v∧R2 v w'
def A5r (g od st N:Nat):D3:=fun R args of nx k =>
 match args with
 | [.f g' [.p ib tb []],.f o' []]=>bif Nat.beq g g'&&Nat.beq od o' then (match of ib with
  | some (.box tb' (.m mid) _)=>match of mid with
   | some (.vm kt et es)=>bif Nat.beq kt st&&Nat.ble es.length 200 then k ⟨.o nx 1,[(nx,.row st 1 (U2 (es.map (·.1))) es.isEmpty false)],[ib,mid],nx+1+N⟩ else none
   | _=>none
  | _=>none) else none
 | _=>none
theorem B5H (g od st N:Nat):(A5r g od st N).nat:=by
 intro R args of nx k
 unfold D3.dir A5r
 split
 ·rename_i g' ib tb o'
  cases (Nat.beq g g'&&Nat.beq od o') with
  | false=>rfl
  | true =>
   simp only [cond_true]
   split
   ·rename_i mid _ _
    split
    ·rename_i kt et es _
     cases (Nat.beq kt st&&Nat.ble es.length 200)<;>rfl
    ·rfl
   ·rfl
 ·rfl
theorem C0e {α β:Type} {f:α→β} {xs ys:List β} (h:xs.Perm ys):∀ L:List α,L.map f=ys→∃ L':List α,L'.Perm L∧L'.map f=xs:=by
 induction h with
 | nil=>intro L hL;exact ⟨L,List.Perm.refl _,hL⟩
 | cons x _ ih =>
  intro L hL
  cases L with
  | nil=>cases hL
  | cons a L =>
   simp only [List.map_cons,List.cons.injEq] at hL
   obtain ⟨L',h1,h2⟩:=ih L hL.2
   exact ⟨a::L',h1.cons _,by rw [List.map_cons,h2,hL.1]⟩
 | swap x y l =>
  intro L hL
  match L,hL with
  | a::b::L,hL =>
   simp only [List.map_cons,List.cons.injEq] at hL
   exact ⟨b::a::L,List.Perm.swap _ _ _,by rw [List.map_cons,List.map_cons,hL.1,hL.2.1,hL.2.2]⟩
 | trans _ _ ih1 ih2 =>
  intro L hL
  obtain ⟨L1,h1,h2⟩:=ih2 L hL
  obtain ⟨L2,h3,h4⟩:=ih1 L1 h2
  exact ⟨L2,h3.trans h1,h4⟩
theorem D6D {kt et:Nat} (hk:∃ k,D2 T kt=some k∧k.agg=true):∀ {es:List (V×A)} {ms:List MapEntry},MR T e kt et es ms→∃ L:List (V×MapEntry),L.map (·.1)=es.map (·.1)∧L.map (·.2)=ms∧∀ p∈L,RV T e [kt] [p.1] p.2.key.cells.toList∧∃ cs,p.2.key=.agg cs:=by
 intro es ms h
 induction h with
 | nil=>exact ⟨[],rfl,rfl,fun p hp=>by cases hp⟩
 | @cons k a r m ms h1 h2 h3 h4 ih =>
  obtain ⟨L,i1,i2,i3⟩:=ih
  obtain ⟨h1,hag⟩:=h1
  refine ⟨(k,m)::L,by rw [List.map_cons,List.map_cons,i1],by rw [List.map_cons,i2],fun p hp=>?_⟩
  rcases List.mem_cons.1 hp with rfl | hp
  ·exact ⟨h1,hag.1 hk⟩
  ·exact i3 p hp
theorem D0S {kt:Nat}:∀ (L:List (V×MapEntry)),(∀ p∈L,RV T e [kt] [p.1] p.2.key.cells.toList)→RV T e (List.replicate (L.map (·.1)).length kt) (L.map (·.1)) ((L.map (·.2)).flatMap fun m=>m.key.cells.toList):=by
 intro L
 induction L with
 | nil=>intro _;exact .nil
 | cons p r ih =>
  intro h
  have h1:=h p (List.mem_cons_self ..)
  have h2:=ih (fun q hq=>h q (List.mem_cons_of_mem _ hq))
  exact h1.append h2
theorem B5I {f:Nat} {vals:Array Value} {w:World} {Q:Value→World→Prop} (hen:(callFunc f vals).run P w=.ok (.enter f vals) w) (h:E3 P (callFunc f vals) w Q):Calls P f vals w fun en w'=>∃ x,en=.returned x∧Q x w':=by
 rcases h with ⟨x,w',h1,_⟩ | ⟨w',h1,_⟩ | ⟨f',args,w1,h1,h2⟩ | ⟨_,_,_,_,_,w1,h1,_⟩
 ·rw [hen] at h1;cases h1
 ·rw [hen] at h1;cases h1
 ·rw [hen] at h1;cases h1;exact h2
 ·rw [hen] at h1;cases h1
theorem C0f (hT:L8 T P) {f f61 g od st N N1 N2:Nat} (hW:D39 P f f61 g od st) (hS:R4 P T f61 (sfC st od N1).dir) (hN:R4 P T f61 (sfN st od N2).dir) (h11:1≤N1) (h12:1≤N2) (hl1:N1≤N) (hl2:N2≤N)
  (hd:Y0 T 40 st=some DRf) (hz:C1 T st=33) (hk:∃ k,D2 T st=some k∧k.agg=true) (hen:∀ args w,(callFunc f args).run P w=.ok (.enter f args) w) (hen1:∀ args w,(callFunc f61 args).run P w=.ok (.enter f61 args) w):J0 P T f (A5r g od st N).dir:=by
 intro c e of of' as vals nx out hos hs hro hu hvals
 unfold D3.dir A5r at hs
 split at hs<;>try (cases hs;done)
 rename_i g' ib tb o'
 cases hg:(Nat.beq g g'&&Nat.beq od o') with
 | false=>rw [hg] at hs;cases hs
 | true =>
 rw [hg] at hs
 simp only [E0s] at hg
 obtain rfl:=E0r hg.1
 obtain rfl:=E0r hg.2
 simp only [cond_true] at hs
 split at hs<;>try (cases hs;done)
 rename_i tb' mid sh hob
 split at hs<;>try (cases hs;done)
 rename_i kt et es hom
 cases hc:(Nat.beq kt st&&Nat.ble es.length 200) with
 | false=>rw [hc] at hs;cases hs
 | true =>
 rw [hc,cond_true] at hs
 simp only [E0s] at hc
 obtain rfl:=E0r hc.1
 have hlen:=E0x hc.2
 injection hs with hs;subst hs
 have hob':of' ib=some (.box tb' (.m mid) sh):=(hro ib (by simp)).trans hob
 have hom':of' mid=some (.vm kt et es):=(hro mid (by simp)).trans hom
 obtain ⟨x1,x2,x3,x4,Bm,cs,ty,fz,x5,x6,x7,x8,x9,x10⟩:=hos.ok _ _ hob'
 obtain ⟨y1,y2,b,ms,clock,y3,y4,⟨y5,y5'⟩,es',y6,y7⟩:=hos.ok _ _ hom'
 obtain ⟨v,u,hvs⟩:∃ v u,vals=#[v,u]:=by
  obtain ⟨vals⟩:=vals
  cases hvals with | cons h1 h2=>cases h2 with | cons h3 h4=>cases h4;exact ⟨_,_,rfl⟩
 subst hvs
 have hv:C6 T e (.f g [.p ib tb []]) v∧C6 T e (.f od []) u:=by cases hvals with | cons h1 h2=>cases h2 with | cons h3 _=>exact ⟨h1,h3⟩
 obtain ⟨vs,rfl,hcap⟩:=A2b hv.1
 obtain ⟨v2,rfl⟩:=hcap.single rfl
 obtain ⟨us,rfl,hcap2⟩:=A2b hv.2
 obtain rfl:us=[]:=by cases us with | nil=>rfl | cons q r=>cases hcap2
 obtain ⟨Bm',off,p1,p2,p3,p4,rfl⟩:=Q6 (T:=T) (e:=e) (id:=ib) (t:=tb) (path:=[]) hcap
 rw [x5] at p3
 cases p3
 cases p4
 obtain ⟨v3,hcs⟩:=x9.single rfl
 have hm3:∃ b',e.U mid∧e.bn mid=0∧e.ι mid=some (b',0)∧v3=.map (some b'):=P8 (by rw [hcs] at x9;exact x9)
 obtain ⟨b',_,_,z3,rfl⟩:=hm3
 rw [y3] at z3;cases z3
 have hcell:e.w.cell? ⟨Bm,0,none⟩=some (.map (some b)):=by
  have:cs[0]? = some (.map (some b)):=by rw [← Array.getElem?_toList,hcs];rfl
  simp [World.cell?,x6,this]
 obtain ⟨L,l1,l2,l3⟩:=D6D hk y7
 have hkeys:∀ m∈ms.toList,∃ cs,m.key=.agg cs∧cs.size=33∧cs.all (·.oneCell')=true:=by
  intro m hm
  rw [← l2] at hm
  obtain ⟨p,hp,rfl⟩:=List.mem_map.1 hm
  obtain ⟨h1,cs,h2⟩:=l3 p hp
  rw [h2] at h1
  refine ⟨cs,h2,?_,?_⟩
  ·have:=h1.one_len
   rw [hz,E0y] at this
   exact this
  ·rw [Array.all_eq_true_iff_forall_mem]
   intro x hx
   exact C5w (h1.one x (Array.mem_toList_iff.2 hx))
 have hlm:ms.size=es.length:=by
  have h1:=y6.length_eq
  rw [B8d] at h1
  have h2:=y7.length
  rw [E0y] at h2
  exact h2.symm.trans h1
 have hkp:(L.map (·.1)).Perm (es.map (·.1)):=by
  rw [l1]
  have:=y6.map (·.1)
  have e1:(vms et es).map (·.1)=es.map (·.1):=by
   have:∀ l:List (V×V),(vms et l).map (·.1)=l.map (·.1):=fun l=>by
    induction l with
    | nil=>rfl
    | cons p r ih=>simp [vms,ih]
   exact this es
  rwa [e1] at this
 have hhas:∀ x∈es.map (·.1),DRf.has x:=by
  intro x hx
  obtain ⟨p,hp,rfl⟩:=List.mem_map.1 (hkp.mem_iff.2 hx)
  exact (B3w 40).1 _ _ hd _ _ (l3 p hp).1
 refine .inr (.inr (.inl ⟨f,_,e.w,hen _ _,?_⟩))
 refine (hW Bm b clock ms e.w (fun v w'=>V8 T c e of' nx _ v w') y5' hkeys (by omega) hcell y4 (fun v xs w' hp hrow hnl hbl=>?_)).mono fun en w' ⟨v,h1,h2⟩=>⟨v,h1,h2⟩
 obtain ⟨L',q1,q2⟩:=C0e hp L l2
 have hxl:(L'.map (·.1)).length=xs.length:=by rw [E0v,← q2,E0v]
 have hrv:=D0S (e:=e) (T:=T) (kt:=kt) L' (fun p hp=>(l3 p (q1.mem_iff.1 hp)).1)
 rw [q2] at hrv
 have hun:¬ e.U nx:=hu nx (Nat.le_refl _) (by show nx < nx+1+N;omega)
 have hkp':(L'.map (·.1)).Perm (es.map (·.1)):=(q1.map _).trans hkp
 have hleft:=C0d (nx:=nx) (ro:=[]) hos hbl hun hz (by omega) (by rw [hxl];exact hrow) hrv (by
  rw [hnl]
  constructor
  ·intro q;rw [q] at hxl;exact List.length_eq_zero_iff.1 hxl
  ·intro q;rw [q] at hxl;exact List.length_eq_zero_iff.1 hxl.symm)
 obtain ⟨e1,w1,os1,le1,u1,r1⟩:=hleft
 have hof1:(put of' [(nx,Ob.row kt 1 (L'.map (·.1)) (L'.map (·.1)).isEmpty false)]) nx=some (.row kt 1 (L'.map (·.1)) (L'.map (·.1)).isEmpty false):=upd_same _ _ _
 have hun1:∀ M,M≤N→∀ id,nx+1≤id→id < nx+1+(M - 1)→¬ e1.U id:=fun M hM id h1 h2 hU=>by
  rcases u1 id hU with h3 | ⟨_,h3⟩
  ·exact hu id (by omega) (by show id < nx+1+N;omega) h3
  ·have h3:id < nx+1:=h3
   omega
 have hf1:C6 T e1 (.f od []) (.func (.func od) #[] #[]):=by
  have:=hv.2.mono le1
  exact this
 have hreps:T7 T e1 [.o nx 1,.f od []] (#[v,.func (.func od) #[] #[]]:Array Value).toList:=.cons r1 (.cons hf1 .nil)
 have hfin:∀ (M:Nat) (s:D3),s.nat→R4 P T f61 s.dir→1≤M→M≤N→s J2 [.o 0 1,.f od []] (ofL [.row kt 1 (L'.map (·.1)) (L'.map (·.1)).isEmpty false]) 1 some=some ⟨.t [],[(0,.row kt 1 (U2 (es.map (·.1))) es.isEmpty false)],[0],M⟩ →
   Calls P f61 #[v,.func (.func od) #[] #[]] w' fun en w''=>(∃ u,en=.returned u)∧V8 T c e of' nx ⟨.o nx 1,[(nx,.row kt 1 (U2 (es.map (·.1))) es.isEmpty false)],[ib,mid],nx+1+N⟩ v w'':=by
  intro M s hn hs h1M hMN hrun
  have htr:=D0R hof1 hrun hn h1M
  have hdo:=N5 hn hs c e1 _ _ _ #[v,.func (.func od) #[] #[]] (nx+1) _ os1 htr (fun _ _=>rfl) (hun1 M hMN) hreps
  rw [w1] at hdo
  refine (B5I (hen1 _ _) hdo).mono ?_
  rintro en w'' ⟨x,rfl,e2,rfl,os2,le2,u2,_⟩
  refine ⟨⟨x,rfl⟩,e2,rfl,?_,le1.trans le2,fun id A2=>?_,r1.mono le2⟩
  ·have:put (put of' [(nx,Ob.row kt 1 (L'.map (·.1)) (L'.map (·.1)).isEmpty false)]) [(nx,.row kt 1 (L'.map (·.1)) (L'.map (·.1)).isEmpty false),(nx,.row kt 1 (U2 (es.map (·.1))) es.isEmpty false)]=put of' [(nx,.row kt 1 (U2 (es.map (·.1))) es.isEmpty false)]:=by
    simp only [put]
    funext j
    by_cases hj:j=nx
    ·subst hj;simp [G3]
    ·simp [G3,hj]
   rw [← this];exact os2
  ·rcases u2 id A2 with h | ⟨h3,h4⟩
   ·rcases u1 id h with h | ⟨h3,h4⟩
    ·exact .inl h
    ·exact .inr ⟨h3,by show id < nx+1+N;have h4:id < nx+1:=h4;omega⟩
   ·exact .inr ⟨by omega,by show id < nx+1+N;have h4:id < nx+1+(M - 1):=h4;omega⟩
 have hsr:U2 (L'.map (·.1))=U2 (es.map (·.1)):=A9k hhas hkp'
 cases hem:L'.map (·.1) with
 | nil =>
  have hes:es=[]:=by
   rw [hem] at hkp'
   have:=hkp'.symm.eq_nil
   exact List.map_eq_nil_iff.1 this
  refine hfin N2 (sfN kt od N2) D6 hN h12 hl2 ?_
  rw [hem,← hsr,hem,hes]
  have hsn:U2 ([]:List V)=[]:=by have:=(A2s ([]:List V)).eq_nil;exact this
  rw [hsn]
  show M8 (D0Q kt od) _ _ J2 _ _ 1 some=_
  simp [M8,D0Q,ofL]
 | cons k r =>
  have hes:es.isEmpty=false:=by
   cases es with
   | nil=>rw [hem] at hkp';have:=hkp'.eq_nil;cases this
   | cons p q=>rfl
  refine hfin N1 (sfC kt od N1) D6 hS h11 hl1 ?_
  rw [← hsr,hes]
  have hne:(L'.map (·.1)).isEmpty=false:=by rw [hem];rfl
  rw [hne]
  have hbl:Nat.ble (L'.map (·.1)).length 200=true:=E0B (by rw [hkp'.length_eq,E0v];exact hlen)
  generalize L'.map (·.1)=ks at hbl
  show M8 (B4R kt od) _ _ J2 _ _ 1 some=_
  simp only [M8,B4R,B9x,ofL,Nat.beq_refl,Bool.and_true,Bool.not_false,cond_true,hbl]
  rw [L7]
  simp only [B5G]
variable {P:Program} {T:TT} {c:P9} {e eb:B9} {of of':Nat→Option Ob}
def St.tellR (T:TT) (k t:Nat) (σ:St):St :=
 match H2 σ.sl k with
 | .o id ver=>match D2 T t with
  | some (.slice el)=>match σ.ob.get id with
   | some (.row el' v xs nl sh)=>bif Nat.beq el el'&&(Nat.beq v ver&&Nat.beq (C1 T t) 1) then { σ with sl:=(k,.v t (bif nl then .n else .l xs))::σ.sl,ob:=σ.ob.set id (.row el' v xs nl true) } else σ
   | _=>σ
  | _=>σ
 | _=>σ
theorem Sim.tellR {n0 nt k t:Nat} {σ:St} {a:Act} {w:World} (h:Sim T c eb of' n0 nt σ a w):Sim T c eb of' n0 nt (σ.tellR T k t) a w:=by
 unfold St.tellR
 split
 ·rename_i id ver hsl
  split
  ·rename_i el hk
   split
   ·rename_i el' v xs nl sh hob
    cases hc:(Nat.beq el el'&&(Nat.beq v ver&&Nat.beq (C1 T t) 1)) with
    | false=>exact h
    | true =>
    rw [cond_true]
    simp only [E0s] at hc
    obtain ⟨c1,c2,c3⟩:=hc
    obtain rfl:=E0r c1
    obtain rfl:=E0r c2
    have c3:=E0r c3
    obtain ⟨e,rfl,hst⟩:=h
    have hof:E0 σ.ob of' id=some (.row el v xs nl sh):=by unfold E0;rw [hob]
    obtain ⟨e',p1,p2,p3,p4,p5,_⟩:=A5l hst.os hof
    have hr:C6 T e (.o id v) (a.tmps.getD k undef):=by rw [← hsl];exact hst.sl k
    have hv:=p5 t _ hk c3 hr
    obtain ⟨v0,v1,v2,v3,v4,v5,h6⟩:=N0 hst.os hof
    have hna:¬ ∃ cs,a.tmps.getD k undef=.agg cs:=by
     rintro ⟨cs,hcs⟩
     rcases M4 hr v2 with ⟨_,_,q⟩ | ⟨_,_,_,_,_,_,_,_,q⟩<;>(rw [hcs] at q;cases q)
    have hcell:(a.tmps.getD k undef).cells.toList=[a.tmps.getD k undef]:=by
     generalize a.tmps.getD k undef=x at hna
     cases x<;>first | rfl | exact absurd ⟨_,rfl⟩ hna
    refine ⟨e',p1,⟨?_,hst.le.trans p3,fun j hj=>hst.U j (p4 j hj),fun j=>?_,?_,hst.nt⟩⟩
    ·rw [A1V];exact p2
    ·show C6 T e' (H2 ((k,.v t (bif nl then .n else .l xs))::σ.sl) j) _
     rw [A9O]
     simp only [B7w]
     cases hj:Nat.beq k j with
     | false=>rw [cond_false];have:=hst.sl j;rw [A9O] at this;exact this.mono p3
     | true =>
      obtain rfl:=E0r hj
      rw [cond_true]
      refine ⟨by rw [hcell];exact hv,⟨fun ⟨q,q1,q2⟩=>?_,fun q=>absurd q hna⟩⟩
      rw [hk] at q1;cases q1;cases q2
    ·exact hst.def_.mono p3
   ·exact h
  ·exact h
 ·exact h
theorem St.tellR_le (k t:Nat) (σ:St):(σ.tellR T k t).rd=σ.rd∧(σ.tellR T k t).nx=σ.nx:=by
 unfold St.tellR
 split
 ·split
  ·split
   ·rename_i el' v xs nl sh hob
    rename_i el _ _
    cases (Nat.beq el el'&&(Nat.beq v _&&Nat.beq (C1 T t) 1))<;>exact ⟨rfl,rfl⟩
   ·exact ⟨rfl,rfl⟩
  ·exact ⟨rfl,rfl⟩
 ·exact ⟨rfl,rfl⟩
def D4a (T:TT) (k t:Nat) (H:LS):LS:=fun R of σ q=>H R of (σ.tellR T k t) q
theorem C5x {nt n0 k t:Nat} {b:Code} {H:LS} (h:B8 P T nt n0 b H):B8 P T nt n0 b (D4a T k t H):=by
 refine ⟨fun R of σ q=>h.1 R of _ q,fun of σ ex σ' hs=>?_⟩
 obtain ⟨h1,h2⟩:=h.2 of (σ.tellR T k t) ex σ' hs
 obtain ⟨e1,e2⟩:=St.tellR_le (T:=T) k t σ
 refine ⟨⟨fun id A2=>h1.1 id (by rw [e1];exact A2),by have:=h1.2;rw [e2] at this;exact this⟩,fun m of' c eb a w hn hf hB hS=>?_⟩
 exact h2 m of' c eb a w (by rw [e2];exact hn) hf hB hS.tellR
variable {R:Type}
inductive D0T where
 | m (r:V) (l:V) (n:Int) (i:Int)
inductive D6E where
 | o (r:V) (l:V) (n:Int) (i:Int)
 | r (r:V) (l:V) (n:Int) (i:Int) (a:Int)
def C5y (R:Type) (p:D0T) (K:D0T→Option R) (kx:D6E→Option R):Option R :=
 match p with
 | .m r l n i =>
  bif C3 i n then
   ck i ((l.els).length) <|
   bif N4 (V.nth (V.nth l i.toNat) 0) r then
   kx (.r r l n i i)
   else
   K (.m r l n (B2 (i+1)))
   else
   kx (.o r l n i)
abbrev C5z:=@C5y.eq_1
inductive D0U where
 | m (r:V) (xs:List V) (l:V) (n:Int) (i:Int)
inductive D6F where
 | o (r:V) (xs:List V) (l:V) (n:Int) (i:Int)
def C5A (R:Type) (p:D0U) (K:D0U→Option R) (kx:D6F→Option R):Option R :=
 match p with
 | .m r xs l n i =>
  bif C3 i n then
   ck i ((l.els).length) <|
   bif !(N4 (V.nth (V.nth l i.toNat) 0) r) then
   X4 (xs.length+([(V.nth l i.toNat)]).length) <|
   K (.m r (xs++[(V.nth l i.toNat)]) l n (B2 (i+1)))
   else
   K (.m r xs l n (B2 (i+1)))
   else
   kx (.o r xs l n i)
abbrev C5B:=@C5A.eq_1
inductive D0V where
 | m (r:V) (xs:List V) (q:Bool) (l:V) (n:Int) (i:Int)
inductive D0W where
 | o (r:V) (xs:List V) (q:Bool) (l:V) (n:Int) (i:Int)
def C0g (R:Type) (p:D0V) (K:D0V→Option R) (kx:D0W→Option R):Option R :=
 match p with
 | .m r xs q l n i =>
  bif C3 i n then
   ck i ((l.els).length) <|
   bif q then
   X4 (xs.length+([(V.nth l i.toNat)]).length) <|
   K (.m r (xs++[(V.nth l i.toNat)]) q l n (B2 (i+1)))
   else
   bif sLt (U3 (V.nth r 0)) (U3 (V.nth (V.nth l i.toNat) 0)) then
   X4 (xs.length+([r]).length) <|
   X4 (((xs++[r])).length+([(V.nth l i.toNat)]).length) <|
   K (.m r ((xs++[r])++[(V.nth l i.toNat)]) true l n (B2 (i+1)))
   else
   X4 (xs.length+([(V.nth l i.toNat)]).length) <|
   K (.m r (xs++[(V.nth l i.toNat)]) q l n (B2 (i+1)))
   else
   kx (.o r xs q l n i)
abbrev B1U:=@C0g.eq_1
inductive D0X where
 | m (x:V) (y:V) (n:Int) (i:Int)
inductive D6G where
 | o (x:V) (y:V) (n:Int) (i:Int)
 | r (x:V) (y:V) (n:Int) (i:Int)
def C5C (R:Type) (p:D0X) (K:D0X→Option R) (kx:D6G→Option R):Option R :=
 match p with
 | .m x y n i =>
  bif C3 i n then
   ck i ((x.els).length) <|
   ck i ((y.els).length) <|
   bif !(N4 (V.nth (V.nth x i.toNat) 0) (V.nth (V.nth y i.toNat) 0)) then
   kx (.r x y n i)
   else
   ck i ((x.els).length) <|
   ck i ((y.els).length) <|
   bif Y5 (((V.nth (V.nth (V.nth (V.nth x i.toNat) 1) 0) 0)).int) (((V.nth (V.nth (V.nth (V.nth y i.toNat) 1) 0) 0)).int) then
   bif A1F (((V.nth (V.nth (V.nth (V.nth x i.toNat) 1) 0) 1)).els) (((V.nth (V.nth (V.nth (V.nth y i.toNat) 1) 0) 1)).els) then
   bif Y5 (((V.nth (V.nth (V.nth x i.toNat) 1) 1)).int) (((V.nth (V.nth (V.nth y i.toNat) 1) 1)).int) then
   bif ((V.nth (V.nth (V.nth x i.toNat) 1) 2)).bl then
   bif ((V.nth (V.nth (V.nth y i.toNat) 1) 2)).bl then
   K (.m x y n (B2 (i+1)))
   else
   kx (.r x y n i)
   else
   bif ((V.nth (V.nth (V.nth y i.toNat) 1) 2)).bl then
   kx (.r x y n i)
   else
   K (.m x y n (B2 (i+1)))
   else
   kx (.r x y n i)
   else
   kx (.r x y n i)
   else
   kx (.r x y n i)
   else
   kx (.o x y n i)
abbrev C5D:=@C5C.eq_1
def fnd (r:V):List V→Nat→Int
 | [],_ => -1
 | x::t,i=>bif N4 (x.nth 0) r then (i:Int) else fnd r t (i+1)
def woS (r:V) (l:List V):List V:=l.filter fun x=>!(N4 (x.nth 0) r)
def wiF (s:V):List V→List V
 | []=>[s]
 | x::t=>bif sLt (U3 (s.nth 0)) (U3 (x.nth 0)) then s::x::t else x::wiF s t
def D0Y (x y:V):Bool :=
 N4 (x.nth 0) (y.nth 0)&&(Y5 (((x.nth 1).nth 0).nth 0).int (((y.nth 1).nth 0).nth 0).int&&(A1F (((x.nth 1).nth 0).nth 1).els (((y.nth 1).nth 0).nth 1).els &&
  (Y5 ((x.nth 1).nth 1).int ((y.nth 1).nth 1).int&&(((x.nth 1).nth 2).bl == ((y.nth 1).nth 2).bl))))
def B5J:List V→List V→Bool
 | x::s,y::t=>D0Y x y&&B5J s t
 | _,_=>true
def A0G (l:List V) (s:V):List V:=wiF s (woS (s.nth 0) l)
theorem C0h (x:V):D0Y x x=true:=by
 unfold D0Y
 rw [U4,P4.2 rfl,P4.2 rfl,(A1f _ _).2 rfl]
 cases ((x.nth 1).nth 2).bl<;>rfl
theorem B0h:∀ l:List V,B5J l l=true
 | []=>rfl
 | x::r=>by rw [B5J,C0h,B0h r];rfl
theorem D0Z {l k:V} {kx:D6E→Option R} {f:Int→Option R} (h1:∀ n i,kx (.o k l n i)=f (-1)) (h2:∀ n i a,kx (.r k l n i a)=f a):∀ (r a:List V) (fuel:Nat),l.els=a++r→a.length+r.length≤100000→r.length < fuel →
  B7 (C5y R) fuel (.m k l (l.els.length:Nat) (a.length:Nat)) kx=f (fnd k r a.length):=by
 intro r
 induction r with
 | nil =>
  intro a fuel he ha hf
  obtain ⟨g,rfl⟩:∃ g,fuel=g+1:=⟨fuel - 1,by omega⟩
  rw [List.append_nil] at he
  rw [B7,C5z,A1N he,cond_false];exact h1 _ _
 | cons x r ih =>
  intro a fuel he ha hf
  obtain ⟨g,rfl⟩:∃ g,fuel=g+1:=⟨fuel - 1,by simp at hf;omega⟩
  simp only [E0z] at ha hf
  have hle:l.els.length=a.length+(r.length+1):=by rw [he];simp
  have hat:l.nth ((a.length:Nat):Int).toNat=x:=L5 he
  have ih:=ih (a++[x]) g (by rw [he];simp)
  simp only [E0t,E0A] at ih
  rw [B7,C5z,A1M he,cond_true,E2 (by omega) (by omega),hat,H7 (by omega),ih (by omega) (by omega)]
  simp only [fnd]
  cases N4 (x.nth 0) k with
  | true=>simp only [cond_true];exact h2 _ _ _
  | false=>rfl
theorem D00 {l k:V} (kx:D6F→Option R):∀ (r a xs:List V) (fuel:Nat),l.els=a++r→a.length+r.length≤100000→xs.length+r.length≤100000→r.length < fuel →
  B7 (C5A R) fuel (.m k xs l (l.els.length:Nat) (a.length:Nat)) kx=kx (.o k (xs++woS k r) l (l.els.length:Nat) (l.els.length:Nat)):=by
 intro r
 induction r with
 | nil =>
  intro a xs fuel he ha hx hf
  obtain ⟨g,rfl⟩:∃ g,fuel=g+1:=⟨fuel - 1,by omega⟩
  rw [List.append_nil] at he
  rw [B7,C5B,A1N he,cond_false,show woS k []=[] from rfl,List.append_nil,he]
 | cons x r ih =>
  intro a xs fuel he ha hx hf
  obtain ⟨g,rfl⟩:∃ g,fuel=g+1:=⟨fuel - 1,by simp at hf;omega⟩
  simp only [E0z] at ha hf hx
  have hle:l.els.length=a.length+(r.length+1):=by rw [he];simp
  have hat:l.nth ((a.length:Nat):Int).toNat=x:=L5 he
  have ih:=fun xs=>ih (a++[x]) xs g (by rw [he];simp)
  simp only [E0t,E0A] at ih
  rw [B7,C5B,A1M he,cond_true,E2 (by omega) (by omega),hat,H7 (by omega),D4 (by simp;omega)]
  unfold woS
  rw [List.filter_cons]
  cases N4 (x.nth 0) k with
  | true =>
   simp only [Bool.not_true,cond_false,Bool.false_eq_true,if_false]
   exact ih xs (by omega) (by omega) (by omega)
  | false =>
   simp only [Bool.not_false,cond_true,if_true]
   rw [ih (xs++[x]) (by omega) (by simp;omega) (by omega),List.append_assoc];rfl
theorem D8C {l s:V} (kx:D0W→Option R):∀ (r a xs:List V) (fuel:Nat),l.els=a++r→a.length+r.length≤100000→xs.length+r.length≤100001→r.length < fuel →
  B7 (C0g R) fuel (.m s xs true l (l.els.length:Nat) (a.length:Nat)) kx=kx (.o s (xs++r) true l (l.els.length:Nat) (l.els.length:Nat)):=by
 intro r
 induction r with
 | nil =>
  intro a xs fuel he ha hx hf
  obtain ⟨g,rfl⟩:∃ g,fuel=g+1:=⟨fuel - 1,by omega⟩
  rw [List.append_nil] at he
  rw [B7,B1U,A1N he,cond_false,List.append_nil,he]
 | cons x r ih =>
  intro a xs fuel he ha hx hf
  obtain ⟨g,rfl⟩:∃ g,fuel=g+1:=⟨fuel - 1,by simp at hf;omega⟩
  simp only [E0z] at ha hf hx
  have hle:l.els.length=a.length+(r.length+1):=by rw [he];simp
  have hat:l.nth ((a.length:Nat):Int).toNat=x:=L5 he
  have ih:=ih (a++[x]) (xs++[x]) g (by rw [he];simp)
  simp only [E0t,E0A] at ih
  rw [B7,B1U,A1M he,cond_true,E2 (by omega) (by omega),hat,cond_true,H7 (by omega),D4 (by simp;omega),ih (by omega) (by omega) (by omega),List.append_assoc];rfl
theorem D01 {l s:V} {kx:D0W→Option R} {f:List V→Option R} (h1:∀ xs n i,kx (.o s xs true l n i)=f xs) (h2:∀ xs n i,xs.length≤100001→kx (.o s xs false l n i)=f (xs++[s])):∀ (r a xs:List V) (fuel:Nat),l.els=a++r→a.length+r.length≤100000→xs.length+r.length≤100000→r.length < fuel →
  B7 (C0g R) fuel (.m s xs false l (l.els.length:Nat) (a.length:Nat)) kx=f (xs++wiF s r):=by
 intro r
 induction r with
 | nil =>
  intro a xs fuel he ha hx hf
  obtain ⟨g,rfl⟩:∃ g,fuel=g+1:=⟨fuel - 1,by omega⟩
  rw [List.append_nil] at he
  rw [B7,B1U,A1N he,cond_false]
  exact h2 _ _ _ (by simp only [List.length_nil] at hx;omega)
 | cons x r ih =>
  intro a xs fuel he ha hx hf
  obtain ⟨g,rfl⟩:∃ g,fuel=g+1:=⟨fuel - 1,by simp at hf;omega⟩
  simp only [E0z] at ha hf hx
  have hle:l.els.length=a.length+(r.length+1):=by rw [he];simp
  have hat:l.nth ((a.length:Nat):Int).toNat=x:=L5 he
  have ih:=ih (a++[x]) (xs++[x]) g (by rw [he];simp)
  have it:=D8C (l:=l) (s:=s) kx r (a++[x]) (xs++[s]++[x]) g (by rw [he];simp)
  simp only [E0t,E0A] at ih it
  rw [B7,B1U,A1M he,cond_true,E2 (by omega) (by omega),hat,cond_false,H7 (by omega),D4 (by simp;omega),D4 (by simp;omega),D4 (by simp;omega),ih (by omega) (by omega) (by omega),it (by omega) (by omega) (by omega),h1]
  simp only [wiF]
  cases sLt (U3 (s.nth 0)) (U3 (x.nth 0)) with
  | true=>simp only [cond_true];congr 1;simp
  | false=>simp only [cond_false];congr 1;simp
theorem D02 {x y:V} {ko kr:Option R} {kx:D6G→Option R} (h1:∀ n i,kx (.o x y n i)=ko) (h2:∀ n i,kx (.r x y n i)=kr):∀ (r s a b:List V) (fuel:Nat),x.els=a++r→y.els=b++s→a.length=b.length→r.length=s.length→a.length+r.length≤100000→r.length < fuel →
  B7 (C5C R) fuel (.m x y (x.els.length:Nat) (a.length:Nat)) kx=bif B5J r s then ko else kr:=by
 intro r
 induction r with
 | nil =>
  intro s a b fuel he he' hab hrs ha hf
  obtain ⟨g,rfl⟩:∃ g,fuel=g+1:=⟨fuel - 1,by omega⟩
  rw [List.append_nil] at he
  rw [B7,C5D,A1N he,cond_false,h1]
  cases s<;>rfl
 | cons p r ih =>
  intro s a b fuel he he' hab hrs ha hf
  obtain ⟨g,rfl⟩:∃ g,fuel=g+1:=⟨fuel - 1,by simp at hf;omega⟩
  cases s with
  | nil=>simp at hrs
  | cons q s =>
  simp only [E0z] at ha hf hrs
  have hle:x.els.length=a.length+(r.length+1):=by rw [he];simp
  have hle':y.els.length=b.length+(s.length+1):=by rw [he'];simp
  have hat:x.nth ((a.length:Nat):Int).toNat=p:=L5 he
  have hat':y.nth ((a.length:Nat):Int).toNat=q:=by rw [hab];exact L5 he'
  have ih:=ih s (a++[p]) (b++[q]) g (by rw [he];simp) (by rw [he'];simp) (by simp [hab]) (by omega)
  simp only [E0t,E0A] at ih
  rw [B7,C5D,A1M he,cond_true,E2 (by omega) (by omega),E2 (by omega) (by omega),E2 (by omega) (by omega),E2 (by omega) (by omega),hat,hat',H7 (by omega),ih (by omega) (by omega),h2]
  simp only [B5J,D0Y]
  cases N4 (p.nth 0) (q.nth 0) with
  | false=>rfl
  | true =>
  cases Y5 (((p.nth 1).nth 0).nth 0).int (((q.nth 1).nth 0).nth 0).int with
  | false=>rfl
  | true =>
  cases A1F (((p.nth 1).nth 0).nth 1).els (((q.nth 1).nth 0).nth 1).els with
  | false=>rfl
  | true =>
  cases Y5 ((p.nth 1).nth 1).int ((q.nth 1).nth 1).int with
  | false=>rfl
  | true=>cases ((p.nth 1).nth 2).bl<;>cases ((q.nth 1).nth 2).bl<;>rfl
variable {R:Type}
def B3s:List V→Bool
 | [l,r]=>Nat.ble l.els.length 10000
 | _=>false
def fdr (t:Nat):List V→List Rs
 | [l,r]=>[.d t (.i (fnd r l.els 0))]
 | _=>[]
def wor (t:Nat):List V→List Rs
 | [l,r]=>[.d t (.l (woS r l.els))]
 | _=>[]
def pqg:List V→Bool
 | [x,y]=>Nat.ble x.els.length 10000&&Nat.ble y.els.length 10000
 | _=>false
def A7W (x y:V):Bool:=Y5 (x.els.length:Nat) (y.els.length:Nat)&&B5J x.els y.els
def pqr (t:Nat):List V→List Rs
 | [x,y]=>[.d t (.b (A7W x y))]
 | _=>[]
def wtr (t:Nat):List V→List Rs
 | [l,s]=>[.d t (.l (A0G l.els s))]
 | _=>[]
def zSp:V:=.l [.l [.l (List.replicate 32 (.i 0)),.i 0],.l [.l [.i 0,.n],.i 0,.b false]]
def fdG (t:Nat) (l r:V):Option (List Rs):=ln l.els.length <| B7 (C5y (List Rs)) (A2 FU) (.m r l (l.els.length:Nat) 0) fun q=>match q with
 | .o r1 l1 n1 i1=>some [.d t (.i (.negSucc 0))]
 | .r r1 l1 n1 i1 a1=>some [.d t (.i a1)]
def woG (t:Nat) (l r:V):Option (List Rs):=ln l.els.length <| B7 (C5A (List Rs)) (A2 FU) (.m r (List.replicate 0 zSp) l (l.els.length:Nat) 0) fun q=>match q with
 | .o r1 xs1 l1 n1 i1=>some [.d t (.l xs1)]
def pqG (t:Nat) (x y:V):Option (List Rs):=ln x.els.length <| ln y.els.length <| bif !(Y5 (x.els.length:Nat) (y.els.length:Nat)) then some [.d t (.b false)] else
 ln x.els.length <| B7 (C5C (List Rs)) (A2 FU) (.m x y (x.els.length:Nat) 0) fun q=>match q with
 | .o x1 y1 n1 i1=>some [.d t (.b true)]
 | .r x1 y1 n1 i1=>some [.d t (.b false)]
def wtG (t:Nat) (l s:V):Option (List Rs):=bif B3s [l,s.nth 0] then ln (woS (s.nth 0) l.els).length <| B7 (C0g (List Rs)) (A2 FU) (.m s (List.replicate 0 zSp) false (.l (woS (s.nth 0) l.els)) ((woS (s.nth 0) l.els).length:Nat) 0) fun q=>match q with
 | .o s1 xs1 q1 l1 n1 i1=>bif q1 then some [.d t (.l xs1)] else X4 (xs1.length+[s1].length) <| some [.d t (.l (xs1++[s1]))] else none
theorem D03 {t:Nat} {l r:V} (h:B3s [l,r]=true):fdG t l r=some (fdr t [l,r]):=by
 have h:=E0x h
 have hq:=V2
 unfold fdG
 rw [D8 (by omega)]
 exact D0Z (f:=fun a=>some [Rs.d t (.i a)]) (fun _ _=>rfl) (fun _ _ _=>rfl) l.els [] (A2 FU) rfl (by simp only [List.length_nil];omega) (by omega)
theorem A3q (r:V) (l:List V):(woS r l).length≤l.length:=List.length_filter_le _ _
theorem D04 {t:Nat} {l r:V} (h:B3s [l,r]=true):woG t l r=some (wor t [l,r]):=by
 have h:=E0x h
 have hq:=V2
 unfold woG
 rw [D8 (by omega)]
 exact D00 _ l.els [] [] (A2 FU) rfl (by simp only [List.length_nil];omega) (by simp only [List.length_nil];omega) (by omega)
theorem D05 {t:Nat} {x y:V} (h:pqg [x,y]=true):pqG t x y=some (pqr t [x,y]):=by
 have h:(Nat.ble x.els.length 10000&&Nat.ble y.els.length 10000)=true:=h
 simp only [E0s,Nat.ble_eq] at h
 have hq:=V2
 unfold pqG
 rw [D8 (by omega),D8 (by omega),D8 (by omega)]
 show _=some [Rs.d t (.b (A7W x y))]
 unfold A7W
 cases he:Y5 (x.els.length:Nat) (y.els.length:Nat) with
 | false=>rfl
 | true =>
  have he:=P4.1 he
  simp only [Bool.not_true,cond_false,Bool.true_and]
  refine (D02 (ko:=some [.d t (.b true)]) (kr:=some [.d t (.b false)]) (fun _ _=>rfl) (fun _ _=>rfl) x.els y.els [] [] (A2 FU) rfl rfl rfl (by omega) (by simp only [List.length_nil];omega) (by omega)).trans ?_
  cases B5J x.els y.els<;>rfl
theorem D06 {t:Nat} {l s:V} (h:B3s [l,s]=true):wtG t l s=some (wtr t [l,s]):=by
 have hl:=E0x h
 have hq:=V2
 unfold wtG
 rw [show B3s [l,s.nth 0]=true from h,cond_true]
 have hw:=A3q (s.nth 0) l.els
 show _=some [Rs.d t (.l (wiF s (woS (s.nth 0) l.els)))]
 generalize woS (s.nth 0) l.els=ws at hw
 rw [D8 (by omega)]
 exact D01 (l:=.l ws) (f:=fun xs=>some [Rs.d t (.l xs)]) (fun _ _ _=>rfl) (fun xs _ _ hx=>by simp only [cond_false];rw [D4 (by simp;omega)]) ws [] [] (A2 FU) rfl (by simp only [List.length_nil];omega) (by simp only [List.length_nil];omega) (by omega)
end Go.Vm
end