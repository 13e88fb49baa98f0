/- What the operations of a program do, shown once for all programs; and numbers. -/
import Derived.Test.YteoeonfajlnggaaGreatVm12
import Derived.Test.YteoeonfajlnggaaGreatVm11
import Derived.Test.YteoeonfajlnggaaGreatVm10
set_option linter.constructorNameAsVariable false
set_option linter.unusedVariables false
set_option linter.unusedSimpArgs false
noncomputable section
namespace Go.Vm
open Go.RowKit
variable {R:Type}
inductive C8x where
 | m (w:V) (h:Int) (t:V) (xs:List V) (b:Bool) (l:V) (n:Int) (i:Int)
inductive D4P where
 | o (w:V) (h:Int) (t:V) (xs:List V) (b:Bool) (l:V) (n:Int) (i:Int)
def B89 (R:Type) (p:C8x) (K:C8x→Option R) (kx:D4P→Option R):Option R :=
 match p with
 | .m w h t xs b l n i =>
  bif C3 i n then
   ck i l.els.length <| bif Nat.ble w.els.length 10000 then
   bif F2 0 (fnd ((l.nth i.toNat).nth 0) w.els 0) then
   bif b then K (.m w h t xs b l n (B2 (i+1))) else
   ck (fnd ((l.nth i.toNat).nth 0) w.els 0) w.els.length <| X4 (xs.length+[w.nth (fnd ((l.nth i.toNat).nth 0) w.els 0).toNat].length) <|
   bif Nat.ble w.els.length 10000 then K (.m (.l (woS ((l.nth i.toNat).nth 0) w.els)) h t (xs++[w.nth (fnd ((l.nth i.toNat).nth 0) w.els 0).toNat]) b l n (B2 (i+1))) else none
   else K (.m w h t xs b l n (B2 (i+1)))
   else none
  else kx (.o w h t xs b l n i)
inductive C8y where
 | m (w:V) (h:Int) (xs:List V) (b:Bool) (d:V) (l:V) (n:Int) (i:Int)
inductive D4Q where
 | o (w:V) (h:Int) (xs:List V) (b:Bool) (d:V) (l:V) (n:Int) (i:Int)
def B9a (R:Type) (p:C8y) (K:C8y→Option R) (kx:D4Q→Option R):Option R :=
 match p with
 | .m w h xs b d l n i =>
  bif C3 i n then
   ck i l.els.length <| bif b then
   (bif Nat.ble w.els.length 10000 then K (.m (.l (A0G w.els (.l [L0 d i,A3U h true (l.nth i.toNat)]))) h xs b d l n (B2 (i+1))) else none)
   else (bif Nat.ble w.els.length 10000 then K (.m (.l (A0G w.els (.l [L0 d i,A3U h false (l.nth i.toNat)]))) h xs b d l n (B2 (i+1))) else none)
  else kx (.o w h xs b d l n i)
inductive C8z where
 | m (w:V) (s:V) (d:V) (n:Int) (i:Int)
inductive D4R where
 | o (w:V) (s:V) (d:V) (n:Int) (i:Int)
def B9b (R:Type) (p:C8z) (K:C8z→Option R) (kx:D4R→Option R):Option R :=
 match p with
 | .m w s d n i =>
  bif C3 i n then (bif Nat.ble w.els.length 10000 then K (.m (.l (woS (L0 d i) w.els)) s d n (B2 (i+1))) else none)
  else kx (.o w s d n i)
inductive C8A where
 | m (w:V) (s:V) (n:Int) (i:Int)
inductive D4S where
 | o (w:V) (s:V) (n:Int) (i:Int)
def B9c (R:Type) (p:C8A) (K:C8A→Option R) (kx:D4S→Option R):Option R :=
 match p with
 | .m w s n i =>
  bif C3 i n then ck i s.els.length <| (bif Nat.ble w.els.length 10000 then K (.m (.l (A0G w.els (s.nth i.toNat))) s n (B2 (i+1))) else none)
  else kx (.o w s n i)
inductive C8B where
 | m (es:List (V×V)) (xs:List V) (nl:Bool) (ks:List V) (kn:Bool) (n:Int) (i:Int)
inductive D4T where
 | o (es:List (V×V)) (xs:List V) (nl:Bool) (ks:List V) (kn:Bool) (n:Int) (i:Int)
def zCn:V:=.l [.l [.i 0,.n],.i 0,.b false]
def B9d (R:Type) (p:C8B) (K:C8B→Option R) (kx:D4T→Option R):Option R :=
 match p with
 | .m es xs nl ks kn n i =>
  bif C3 i n then
   ck i ks.length <| bif P0 (ks.getD i.toNat .n) es then
   (X4 (M7 (L9 (ks.getD i.toNat .n) es)).els.length <| X4 (xs.length+1) <|
    K (.m es (xs++[.l [ks.getD i.toNat .n,L9 (ks.getD i.toNat .n) es]]) (nl&&false) ks kn n (B2 (i+1))))
   else (X4 (xs.length+1) <| K (.m es (xs++[.l [ks.getD i.toNat .n,zCn]]) (nl&&false) ks kn n (B2 (i+1))))
  else kx (.o es xs nl ks kn n i)
inductive C8C where
 | m (es:List (V×V)) (s:V) (d:V) (n:Int) (i:Int)
inductive D4U where
 | o (es:List (V×V)) (s:V) (d:V) (n:Int) (i:Int)
def B9e (R:Type) (p:C8C) (K:C8C→Option R) (kx:D4U→Option R):Option R :=
 match p with
 | .m es s d n i=>bif C3 i n then K (.m (Y1 (L0 d i) es) s d n (B2 (i+1))) else kx (.o es s d n i)
inductive C8D where
 | m (es:List (V×V)) (s:V) (n:Int) (i:Int)
inductive D4V where
 | o (es:List (V×V)) (s:V) (n:Int) (i:Int)
def B9f (R:Type) (p:C8D) (K:C8D→Option R) (kx:D4V→Option R):Option R :=
 match p with
 | .m es s n i =>
  bif C3 i n then ck i s.els.length <| X4 (M7 ((s.nth i.toNat).nth 1)).els.length <| K (.m (A0D ((s.nth i.toNat).nth 0) ((s.nth i.toNat).nth 1) es) s n (B2 (i+1)))
  else kx (.o es s n i)
def A2M (b:Bool):List V→V→List V→V×List V
 | [],w,xs=>(w,xs)
 | x::r,w,xs=>bif F2 0 (fnd (x.nth 0) w.els 0)&&!b then A2M b r (.l (woS (x.nth 0) w.els)) (xs++[w.nth (fnd (x.nth 0) w.els 0).toNat]) else A2M b r w xs
def B0S (d:V) (h:Int) (b:Bool):List V→Nat→V→V
 | [],_,w=>w
 | o::r,i,w=>B0S d h b r (i+1) (.l (A0G w.els (.l [L0 d (i:Nat),A3U h b o])))
def B4H (d:V):Nat→Nat→V→V
 | 0,_,w=>w
 | m+1,i,w=>B4H d m (i+1) (.l (woS (L0 d (i:Nat)) w.els))
def B4I:List V→V→V
 | [],w=>w
 | s::r,w=>B4I r (.l (A0G w.els s))
def A6g (d:V):Nat→Nat→List (V×V)→List (V×V)
 | 0,_,es=>es
 | m+1,i,es=>A6g d m (i+1) (Y1 (L0 d (i:Nat)) es)
theorem D4W (r:V):∀ (l:List V) (i:Nat),0≤fnd r l i→(i:Int)≤fnd r l i∧fnd r l i < i+l.length:=by
 intro l
 induction l with
 | nil=>intro i h;simp only [fnd] at h;omega
 | cons x t ih =>
  intro i h
  simp only [fnd] at h ⊢
  simp only [E0z]
  cases hq:N4 (x.nth 0) r with
  | true=>simp only [cond_true];omega
  | false =>
   rw [hq] at h
   simp only [cond_false] at h ⊢
   have:=ih (i+1) h
   omega
theorem B63 (s:V):∀ l:List V,(wiF s l).length=l.length+1
 | []=>rfl
 | x::t=>by
  simp only [wiF]
  cases sLt (U3 (s.nth 0)) (U3 (x.nth 0))
  ·simp [B63 s t]
  ·simp
theorem A3h (l:List V) (s:V):(A0G l s).length≤l.length+1:=by
 unfold A0G
 rw [B63]
 have:=A3q (s.nth 0) l
 omega
theorem C8E {t l:V} {h:Int} {b:Bool} (kx:D4P→Option R):∀ (r a:List V) (w:V) (xs:List V) (fuel:Nat),l.els=a++r→a.length+r.length≤100000→xs.length+r.length≤100000→w.els.length≤10000→r.length < fuel →
  B7 (B89 R) fuel (.m w h t xs b l (l.els.length:Nat) (a.length:Nat)) kx=kx (.o (A2M b r w xs).1 h t (A2M b r w xs).2 b l (l.els.length:Nat) (l.els.length:Nat)):=by
 intro r
 induction r with
 | nil =>
  intro a w xs fuel he ha hx hw hf
  obtain ⟨g,rfl⟩:∃ g,fuel=g+1:=⟨fuel - 1,by omega⟩
  rw [List.append_nil] at he
  rw [B7,B89,A1N he,cond_false,he];rfl
 | cons x r ih =>
  intro a w xs fuel he ha hx hw hf
  obtain ⟨g,rfl⟩:∃ g,fuel=g+1:=⟨fuel - 1,by simp at hf;omega⟩
  simp only [E0z] at ha hf hx
  have hle:l.els.length=a.length+(r.length+1):=by rw [he];simp
  have hat:l.nth ((a.length:Nat):Int).toNat=x:=L5 he
  have ih:=fun w xs=>ih (a++[x]) w xs g (by rw [he];simp)
  simp only [E0t,E0A] at ih
  rw [B7,B89,A1M he,cond_true,E2 (by omega) (by omega),hat,H7 (by omega),E0B hw,cond_true,cond_true]
  simp only [A2M]
  cases hf':F2 0 (fnd (x.nth 0) w.els 0) with
  | false=>simp only [cond_false,Bool.false_and];exact ih w xs (by omega) (by omega) hw (by omega)
  | true =>
   have h0:=D4W (x.nth 0) w.els 0 (C5.1 hf')
   cases b with
   | true=>simp only [cond_true,Bool.not_true,Bool.and_false,cond_false];exact ih w xs (by omega) (by omega) hw (by omega)
   | false =>
    simp only [cond_true,cond_false,Bool.not_false,Bool.and_true]
    rw [E2 (by omega) (by omega),D4 (by simp;omega)]
    exact ih _ _ (by omega) (by simp;omega) (by have:=A3q (x.nth 0) w.els;show (woS (x.nth 0) w.els).length≤_;omega) (by omega)
theorem C8F {d l:V} {h:Int} {b:Bool} {xs:List V} (kx:D4Q→Option R):∀ (r a:List V) (w:V) (fuel:Nat),l.els=a++r→a.length+r.length≤100000→w.els.length+r.length≤10000→r.length < fuel →
  B7 (B9a R) fuel (.m w h xs b d l (l.els.length:Nat) (a.length:Nat)) kx=kx (.o (B0S d h b r a.length w) h xs b d l (l.els.length:Nat) (l.els.length:Nat)):=by
 intro r
 induction r with
 | nil =>
  intro a w fuel he ha hw hf
  obtain ⟨g,rfl⟩:∃ g,fuel=g+1:=⟨fuel - 1,by omega⟩
  rw [List.append_nil] at he
  rw [B7,B9a,A1N he,cond_false,he];rfl
 | cons x r ih =>
  intro a w fuel he ha hw hf
  obtain ⟨g,rfl⟩:∃ g,fuel=g+1:=⟨fuel - 1,by simp at hf;omega⟩
  simp only [E0z] at ha hf hw
  have hle:l.els.length=a.length+(r.length+1):=by rw [he];simp
  have hat:l.nth ((a.length:Nat):Int).toNat=x:=L5 he
  have ih:=fun w=>ih (a++[x]) w g (by rw [he];simp)
  simp only [E0t,E0A] at ih
  rw [B7,B9a,A1M he,cond_true,E2 (by omega) (by omega),hat,H7 (by omega),E0B (by omega:w.els.length≤10000)]
  simp only [B0S]
  cases b with
  | true=>exact ih _ (by omega) (by have:=A3h w.els (.l [L0 d (a.length:Nat),A3U h true x]);show (A0G w.els _).length+_≤_;omega) (by omega)
  | false=>exact ih _ (by omega) (by have:=A3h w.els (.l [L0 d (a.length:Nat),A3U h false x]);show (A0G w.els _).length+_≤_;omega) (by omega)
theorem C8G {d s:V} {n:Nat} (kx:D4R→Option R):∀ (r i:Nat) (w:V) (fuel:Nat),n=i+r→n≤100000→w.els.length≤10000→r < fuel →
  B7 (B9b R) fuel (.m w s d (n:Nat) (i:Nat)) kx=kx (.o (B4H d r i w) s d (n:Nat) (n:Nat)):=by
 intro r
 induction r with
 | zero =>
  intro i w fuel he hn hw hf
  obtain ⟨g,rfl⟩:∃ g,fuel=g+1:=⟨fuel - 1,by omega⟩
  obtain rfl:n=i:=by omega
  rw [B7,B9b,show C3 (n:Nat) (n:Nat)=false by rw [A1o,decide_eq_false_iff_not];omega,cond_false];rfl
 | succ r ih =>
  intro i w fuel he hn hw hf
  obtain ⟨g,rfl⟩:∃ g,fuel=g+1:=⟨fuel - 1,by omega⟩
  rw [B7,B9b,show C3 (i:Nat) (n:Nat)=true by rw [A1o,E0D];omega,cond_true,H7 (by omega),E0B hw,cond_true]
  exact ih (i+1) _ g (by omega) hn (by have:=A3q (L0 d (i:Nat)) w.els;show (woS _ w.els).length≤_;omega) (by omega)
theorem C8H {s:V} (kx:D4S→Option R):∀ (r a:List V) (w:V) (fuel:Nat),s.els=a++r→a.length+r.length≤100000→w.els.length+r.length≤10000→r.length < fuel →
  B7 (B9c R) fuel (.m w s (s.els.length:Nat) (a.length:Nat)) kx=kx (.o (B4I r w) s (s.els.length:Nat) (s.els.length:Nat)):=by
 intro r
 induction r with
 | nil =>
  intro a w fuel he ha hw hf
  obtain ⟨g,rfl⟩:∃ g,fuel=g+1:=⟨fuel - 1,by omega⟩
  rw [List.append_nil] at he
  rw [B7,B9c,A1N he,cond_false,he];rfl
 | cons x r ih =>
  intro a w fuel he ha hw hf
  obtain ⟨g,rfl⟩:∃ g,fuel=g+1:=⟨fuel - 1,by simp at hf;omega⟩
  simp only [E0z] at ha hf hw
  have hle:s.els.length=a.length+(r.length+1):=by rw [he];simp
  have hat:s.nth ((a.length:Nat):Int).toNat=x:=L5 he
  have ih:=fun w=>ih (a++[x]) w g (by rw [he];simp)
  simp only [E0t,E0A] at ih
  rw [B7,B9c,A1M he,cond_true,E2 (by omega) (by omega),hat,H7 (by omega),E0B (by omega:w.els.length≤10000),cond_true]
  exact ih _ (by omega) (by have:=A3h w.els x;show (A0G w.els _).length+_≤_;omega) (by omega)
theorem C8I {d s:V} {n:Nat} (kx:D4U→Option R):∀ (r i:Nat) (es:List (V×V)) (fuel:Nat),n=i+r→n≤100000→r < fuel →
  B7 (B9e R) fuel (.m es s d (n:Nat) (i:Nat)) kx=kx (.o (A6g d r i es) s d (n:Nat) (n:Nat)):=by
 intro r
 induction r with
 | zero =>
  intro i w fuel he hn hf
  obtain ⟨g,rfl⟩:∃ g,fuel=g+1:=⟨fuel - 1,by omega⟩
  obtain rfl:n=i:=by omega
  rw [B7,B9e,show C3 (n:Nat) (n:Nat)=false by rw [A1o,decide_eq_false_iff_not];omega,cond_false];rfl
 | succ r ih =>
  intro i w fuel he hn hf
  obtain ⟨g,rfl⟩:∃ g,fuel=g+1:=⟨fuel - 1,by omega⟩
  rw [B7,B9e,show C3 (i:Nat) (n:Nat)=true by rw [A1o,E0D];omega,cond_true,H7 (by omega)]
  exact ih (i+1) _ g (by omega) hn (by omega)
theorem C8J {s:V} (kx:D4V→Option R):∀ (r a:List V) (es:List (V×V)) (fuel:Nat),s.els=a++r→(∀ x∈r,(M7 (x.nth 1)).els.length≤1000000)→a.length+r.length≤100000→r.length < fuel →
  B7 (B9f R) fuel (.m es s (s.els.length:Nat) (a.length:Nat)) kx=kx (.o (A2N r es) s (s.els.length:Nat) (s.els.length:Nat)):=by
 intro r
 induction r with
 | nil =>
  intro a w fuel he hk ha hf
  obtain ⟨g,rfl⟩:∃ g,fuel=g+1:=⟨fuel - 1,by omega⟩
  rw [List.append_nil] at he
  rw [B7,B9f,A1N he,cond_false,he];rfl
 | cons x r ih =>
  intro a w fuel he hk ha hf
  obtain ⟨g,rfl⟩:∃ g,fuel=g+1:=⟨fuel - 1,by simp at hf;omega⟩
  simp only [E0z] at ha hf
  have hle:s.els.length=a.length+(r.length+1):=by rw [he];simp
  have hat:s.nth ((a.length:Nat):Int).toNat=x:=L5 he
  have hkx:=hk x (by simp)
  have ih:=fun w=>ih (a++[x]) w g (by rw [he];simp) (fun y hy=>hk y (by simp [hy]))
  simp only [E0t,E0A] at ih
  rw [B7,B9f,A1M he,cond_true,E2 (by omega) (by omega),hat,H7 (by omega),D4 (by omega)]
  exact ih _ (by omega) (by omega)
def C1A (es:List (V×V)) (ks:List V):List V:=ks.map fun k=>.l [k,L9 k es]
variable {R:Type}
def idB (t:V):V:=A1n (A0c (M1 (.l (txL t))))
def A37 (l t:V) (h:Int):V×List V :=
 (B0S (idB t) h (X6 t) (t.nth 2).els 0 (A2M (X6 t) (t.nth 1).els l []).1,(A2M (X6 t) (t.nth 1).els l []).2)
def C1B (l t s:V):V:=B4I s.els (B4H (idB t) (t.nth 2).els.length 0 l)
def dag:List V→Bool
 | [l,t,h]=>bsg [t]&&(txg [t]&&Nat.ble l.els.length 5000)
 | _=>false
def dar (p:Nat):List V→List Rs
 | [l,t,h]=>[.d p (A37 l t h.int).1,.d p (.l (A37 l t h.int).2)]
 | _=>[]
def dug:List V→Bool
 | [l,t,s]=>txg [t]&&(Nat.ble l.els.length 5000&&Nat.ble s.els.length 5000)
 | _=>false
def dur (p:Nat):List V→List Rs
 | [l,t,s]=>[.d p (C1B l t s)]
 | _=>[]
def daX (p:Nat) (l:V) (h:Int) (t x:V) (b:Bool):Option (List Rs) :=
 ln x.els.length <| B7 (B89 (List Rs)) (A2 FU) (.m l h t (List.replicate 0 zSp) b x (x.els.length:Nat) 0) fun q=>match q with
 | .o w1 h1 t1 xs1 b1 l1 n1 i1=>bif txg [t1] then (ln (t1.nth 2).els.length <| B7 (B9a (List Rs)) (A2 FU) (.m w1 h1 xs1 b1 (A1n (A0c (M1 (.l (txL t1))))) (t1.nth 2) ((t1.nth 2).els.length:Nat) 0) fun q=>match q with
  | .o w2 h2 xs2 b2 d2 l2 n2 i2=>some [.d p w2,.d p (.l xs2)]) else none
def daG (p:Nat) (l:V) (v u h:Int) (x y:V):Option (List Rs) :=
 bif Nat.ble x.els.length 1000 then (bif X6 (.l [.i v,x,y,.i u]) then daX p l h (.l [.i v,x,y,.i u]) x true else daX p l h (.l [.i v,x,y,.i u]) x false) else none
def duG (p:Nat) (l:V) (v u:Int) (x y s:V):Option (List Rs) :=
 bif txg [.l [.i v,x,y,.i u]] then (ln y.els.length <| B7 (B9b (List Rs)) (A2 FU) (.m l s (A1n (A0c (M1 (.l (txL (.l [.i v,x,y,.i u])))))) (y.els.length:Nat) 0) fun q=>match q with
 | .o w1 s1 d1 n1 i1=>ln s1.els.length <| B7 (B9c (List Rs)) (A2 FU) (.m w1 s1 (s1.els.length:Nat) 0) fun q=>match q with
  | .o w2 s2 n2 i2=>some [.d p w2]) else none
theorem C1C (b:Bool):∀ (r:List V) (w:V) (xs:List V),(A2M b r w xs).1.els.length≤w.els.length∧(A2M b r w xs).2.length≤xs.length+r.length:=by
 intro r
 induction r with
 | nil=>intro w xs;exact ⟨Nat.le_refl _,Nat.le_refl _⟩
 | cons x r ih =>
  intro w xs
  simp only [A2M]
  cases F2 0 (fnd (x.nth 0) w.els 0)&&!b with
  | false=>have:=ih w xs;simp only [cond_false,E0z];omega
  | true =>
   have:=ih (.l (woS (x.nth 0) w.els)) (xs++[w.nth (fnd (x.nth 0) w.els 0).toNat])
   have h2:=A3q (x.nth 0) w.els
   have e:(V.l (woS (x.nth 0) w.els)).els.length=(woS (x.nth 0) w.els).length:=rfl
   simp only [cond_true,E0z,E0t,List.length_nil] at this ⊢
   omega
theorem C1D (d:V):∀ (m i:Nat) (w:V),(B4H d m i w).els.length≤w.els.length:=by
 intro m
 induction m with
 | zero=>intro i w;exact Nat.le_refl _
 | succ m ih =>
  intro i w
  have:=ih (i+1) (.l (woS (L0 d (i:Nat)) w.els))
  have h2:=A3q (L0 d (i:Nat)) w.els
  have e:(V.l (woS (L0 d (i:Nat)) w.els)).els.length=(woS (L0 d (i:Nat)) w.els).length:=rfl
  simp only [B4H]
  omega
theorem B64 {p:Nat} {l:V} {h:Int} {v u:Int} {x y:V} {b:Bool} (h1:x.els.length≤1000) (h2:y.els.length≤1000) (h3:txg [.l [.i v,x,y,.i u]]=true) (h4:l.els.length≤5000) :
  daX p l h (.l [.i v,x,y,.i u]) x b=some [.d p (B0S (idB (.l [.i v,x,y,.i u])) h b y.els 0 (A2M b x.els l []).1),.d p (.l (A2M b x.els l []).2)]:=by
 have hq:=V2
 unfold daX
 rw [D8 (by omega)]
 refine (C8E _ x.els [] l [] (A2 FU) rfl (by simp only [List.length_nil];omega) (by simp only [List.length_nil];omega) (by omega) (by omega)).trans ?_
 have hd:=C1C b x.els l []
 simp only
 rw [h3,cond_true,show (V.l [V.i v,x,y,V.i u]).nth 2=y from rfl,D8 (by omega)]
 exact C8F _ y.els [] _ (A2 FU) rfl (by simp only [List.length_nil];omega) (by omega) (by omega)
theorem C8K {p:Nat} {l:V} {v u h:Int} {x y:V} (hg:dag [l,.l [.i v,x,y,.i u],.i h]=true):daG p l v u h x y=some (dar p [l,.l [.i v,x,y,.i u],.i h]):=by
 have hg:(bsg [.l [.i v,x,y,.i u]]&&(txg [.l [.i v,x,y,.i u]]&&Nat.ble l.els.length 5000))=true:=hg
 simp only [E0s,Nat.ble_eq] at hg
 obtain ⟨g1,g2,g3⟩:=hg
 have g1:Nat.ble x.els.length 1000=true:=g1
 have g1':=E0x g1
 have g2':((Nat.ble x.els.length 1000&&x.els.all fun z=>Nat.ble (z.nth 1).els.length 100000)&&(Nat.ble y.els.length 1000&&y.els.all fun z=>Nat.ble (z.nth 1).els.length 100000))=true:=g2
 simp only [E0s,Nat.ble_eq] at g2'
 unfold daG
 rw [g1,cond_true,B64 g1' g2'.2.1 g2 g3,B64 g1' g2'.2.1 g2 g3]
 show _=some [Rs.d p (B0S (idB (.l [.i v,x,y,.i u])) h (X6 (.l [.i v,x,y,.i u])) y.els 0 (A2M (X6 (.l [.i v,x,y,.i u])) x.els l []).1),.d p (.l (A2M (X6 (.l [.i v,x,y,.i u])) x.els l []).2)]
 cases X6 (.l [.i v,x,y,.i u])<;>rfl
theorem C8L {p:Nat} {l:V} {v u:Int} {x y s:V} (hg:dug [l,.l [.i v,x,y,.i u],s]=true):duG p l v u x y s=some (dur p [l,.l [.i v,x,y,.i u],s]):=by
 have hg:(txg [.l [.i v,x,y,.i u]]&&(Nat.ble l.els.length 5000&&Nat.ble s.els.length 5000))=true:=hg
 simp only [E0s,Nat.ble_eq] at hg
 obtain ⟨g2,g3,g4⟩:=hg
 have hq:=V2
 have g2':((Nat.ble x.els.length 1000&&x.els.all fun z=>Nat.ble (z.nth 1).els.length 100000)&&(Nat.ble y.els.length 1000&&y.els.all fun z=>Nat.ble (z.nth 1).els.length 100000))=true:=g2
 simp only [E0s,Nat.ble_eq] at g2'
 unfold duG
 rw [g2,cond_true,D8 (by omega)]
 refine (C8G _ y.els.length 0 l (A2 FU) (by omega) (by omega) (by omega) (by omega)).trans ?_
 have hd:=C1D (idB (.l [.i v,x,y,.i u])) y.els.length 0 l
 simp only
 rw [D8 (by omega)]
 exact C8H _ s.els [] _ (A2 FU) rfl (by simp only [List.length_nil];omega) (by have:(B4H (A1n (A0c (M1 (.l (txL (.l [.i v,x,y,.i u])))))) y.els.length 0 l).els.length≤l.els.length:=hd;omega) (by omega)
variable {R:Type}
abbrev Em:=List (V×V)
inductive C8M where
 | m (x:V) (h:Int) (es:Em) (w:V) (l:V) (n:Int) (i:Int)
inductive D4X where
 | o (x:V) (h:Int) (es:Em) (w:V) (l:V) (n:Int) (i:Int)
def B9g (R:Type) (p:C8M) (K:C8M→Option R) (kx:D4X→Option R):Option R :=
 match p with
 | .m x h es w l n i =>
  bif C3 i n then (ck i l.els.length <| bif Nat.ble w.els.length 10000 then K (.m x h es (.l (A0G w.els (l.nth i.toNat))) l n (B2 (i+1))) else none)
  else kx (.o x h es w l n i)
inductive C8N where
 | m (x:V) (h:Int) (es:Em) (w:V) (g:V) (ds:List V) (ek:Em) (a:Int) (t:V) (y:V) (n:Int) (i:Int) (l:V) (m:Int) (j:Int)
inductive D4Y where
 | o (x:V) (h:Int) (es:Em) (w:V) (g:V) (ds:List V) (ek:Em) (a:Int) (t:V) (y:V) (n:Int) (i:Int) (l:V) (m:Int) (j:Int)
 | r (x:V) (h:Int) (es:Em) (w:V) (g:V) (ds:List V) (ek:Em) (a:Int) (t:V) (y:V) (n:Int) (i:Int) (l:V) (m:Int) (j:Int)
def B9h (R:Type) (p:C8N) (K:C8N→Option R) (kx:D4Y→Option R):Option R :=
 match p with
 | .m x h es w g ds ek a t y n i l m j =>
  bif C3 j m then (ck j l.els.length <|
   bif F2 0 ((l.nth j.toNat).nth 0).int then (bif F2 ((l.nth j.toNat).nth 0).int 2000000000000 then K (.m x h es w g ds ek a t y n i l m (B2 (j+1))) else kx (.r x h es w g ds ek a t y n i l m j))
   else kx (.r x h es w g ds ek a t y n i l m j))
  else kx (.o x h es w g ds ek a t y n i l m j)
inductive C8O where
 | m (x:V) (h:Int) (es:Em) (w:V) (g:V) (ds:List V) (ek:Em) (a:Int) (t:V) (d:V) (y:V) (n:Int) (i:Int) (m:Int) (j:Int)
inductive D4Z where
 | o (x:V) (h:Int) (es:Em) (w:V) (g:V) (ds:List V) (ek:Em) (a:Int) (t:V) (d:V) (y:V) (n:Int) (i:Int) (m:Int) (j:Int)
 | r (x:V) (h:Int) (es:Em) (w:V) (g:V) (ds:List V) (ek:Em) (a:Int) (t:V) (d:V) (y:V) (n:Int) (i:Int) (m:Int) (j:Int)
def B2J (R:Type) (p:C8O) (K:C8O→Option R) (kx:D4Z→Option R):Option R :=
 match p with
 | .m x h es w g ds ek a t d y n i m j =>
  bif C3 j m then (bif Nat.ble w.els.length 10000 then
   (bif F2 0 (fnd (L0 d j) w.els 0) then kx (.r x h es w g ds ek a t d y n i m j) else K (.m x h es w g ds ek a t d y n i m (B2 (j+1)))) else none)
  else kx (.o x h es w g ds ek a t d y n i m j)
inductive C8P where
 | m (x:V) (h:Int) (es:Em) (w:V) (g:V) (ds:List V) (ek:Em) (a:Int) (d:V) (y:V) (n:Int) (i:Int) (m:Int) (j:Int)
inductive D40 where
 | o (x:V) (h:Int) (es:Em) (w:V) (g:V) (ds:List V) (ek:Em) (a:Int) (d:V) (y:V) (n:Int) (i:Int) (m:Int) (j:Int)
 | s (x:V) (h:Int) (es:Em) (w:V) (g:V) (ds:List V) (ek:Em) (a:Int) (d:V) (y:V) (n:Int) (i:Int) (m:Int) (j:Int)
def B9i (R:Type) (p:C8P) (K:C8P→Option R) (kx:D40→Option R):Option R :=
 match p with
 | .m x h es w g ds ek a d y n i m j =>
  bif C3 j m then (bif P0 (L0 d j) es then (X4 (M7 (L9 (L0 d j) es)).els.length <|
    bif !(Y5 ((L9 (L0 d j) es).nth 1).int (B2 (h+a))) then kx (.s x h es w g ds ek a d y n i m j) else K (.m x h es w g ds ek a d y n i m (B2 (j+1))))
   else kx (.s x h es w g ds ek a d y n i m j))
  else kx (.o x h es w g ds ek a d y n i m j)
variable {R:Type}
def alX (es:Em) (w:V) (ky kn:Em→Option R):Option R :=
 bif Nat.ble es.length 200 then (ln (U2 (es.map (·.1))).length <| B7 (B9d R) (A2 FU) (.m es [] true (U2 (es.map (·.1))) es.isEmpty ((U2 (es.map (·.1))).length:Nat) 0) fun q=>match q with
  | .o es1 xs1 nl1 ks1 kn1 n1 i1=>bif pqg [bif nl1 then .n else .l xs1,w] then (bif A7W (bif nl1 then .n else .l xs1) w then ky es1 else kn es1) else none) else none
inductive B2K where
 | m (x:V) (h:Int) (es:Em) (w:V) (g:V) (ds:List V) (ek:Em) (y:V) (n:Int) (i:Int)
inductive B4J where
 | o (x:V) (h:Int) (es:Em) (w:V) (g:V) (ds:List V) (ek:Em) (y:V) (n:Int) (i:Int)
 | r (x:V) (h:Int) (es:Em) (w:V) (g:V) (ds:List V) (ek:Em) (y:V) (n:Int) (i:Int)
 | s (x:V) (h:Int) (es:Em) (w:V) (g:V) (ds:List V) (ek:Em) (y:V) (n:Int) (i:Int)
def B4K (b:Bool) (x:V) (h:Int) (es:Em) (w g:V) (ds:List V) (ek:Em) (a:Int) (t d y:V) (n i:Int) (K:B2K→Option R) (kx:B4J→Option R):Option R :=
 ln (t.nth 1).els.length <| B7 (BAi R) (A2 FU) (.m es t (t.nth 1) (B2 (h+a)) b [] true ((t.nth 1).els.length:Nat) 0) fun q=>match q with
 | .o es3 t3 l3 h3 b3 xs3 nl3 n3 i3=>bif txg [t3] then (ln (t3.nth 2).els.length <| B7 (BAo R) (A2 FU) (.m es3 h3 b3 xs3 nl3 (A1n (A0c (M1 (.l (txL t3))))) (t3.nth 2) ((t3.nth 2).els.length:Nat) 0) fun q=>match q with
  | .o es4 h4 b4 xs4 nl4 d4 l4 n4 i4=>bif Nat.ble (t.nth 1).els.length 1000&&(txg [t]&&Nat.ble w.els.length 5000) then (X4 (ds.length+1) <|
    bif pqg [bif nl4 then .n else .l xs4,.l (A37 w t (B2 (h+a))).2] then (bif A7W (bif nl4 then .n else .l xs4) (.l (A37 w t (B2 (h+a))).2) then
     alX es4 (A37 w t (B2 (h+a))).1 (fun es5=>ln (t.nth 2).els.length <| B7 (B9i R) (A2 FU) (.m x h es5 (A37 w t (B2 (h+a))).1 g (ds++[bif nl4 then .n else .l xs4]) ek a d y n i ((t.nth 2).els.length:Nat) 0) fun q=>match q with
       | .o x6 h6 es6 w6 g6 ds6 ek6 a6 d6 y6 n6 i6 m6 j6=>K (.m x6 h6 es6 w6 g6 ds6 ek6 y6 n6 (B2 (i6+1)))
       | .s x6 h6 es6 w6 g6 ds6 ek6 a6 d6 y6 n6 i6 m6 j6=>kx (.s x6 h6 es6 w6 g6 ds6 ek6 y6 n6 i6))
      (fun es5=>kx (.s x h es5 (A37 w t (B2 (h+a))).1 g (ds++[bif nl4 then .n else .l xs4]) ek y n i))
     else kx (.s x h es4 (A37 w t (B2 (h+a))).1 g (ds++[bif nl4 then .n else .l xs4]) ek y n i)) else none) else none) else none
def A9c (R:Type) (p:B2K) (K:B2K→Option R) (kx:B4J→Option R):Option R :=
 match p with
 | .m x h es w g ds ek y n i =>
  bif C3 i n then (ck i y.els.length <| bif gtg [y.nth i.toNat] then (bif A3T (y.nth i.toNat) then kx (.r x h es w g ds ek y n i) else
   ln ((y.nth i.toNat).nth 2).els.length <| B7 (B9h R) (A2 FU) (.m x h es w g ds ek i (y.nth i.toNat) y n i ((y.nth i.toNat).nth 2) (((y.nth i.toNat).nth 2).els.length:Nat) 0) fun q=>match q with
   | .o x1 h1 es1 w1 g1 ds1 ek1 a1 t1 y1 n1 i1 l1 m1 j1=>bif txg [t1] then (ln (t1.nth 2).els.length <|
     B7 (B2J R) (A2 FU) (.m x1 h1 es1 w1 g1 ds1 ek1 a1 t1 (A1n (A0c (M1 (.l (txL t1))))) y1 n1 i1 ((t1.nth 2).els.length:Nat) 0) fun q=>match q with
     | .o x2 h2 es2 w2 g2 ds2 ek2 a2 t2 d2 y2 n2 i2 m2 j2=>bif Nat.ble (t2.nth 1).els.length 1000 then
       (bif X6 t2 then B4K true x2 h2 es2 w2 g2 ds2 ek2 a2 t2 d2 y2 n2 i2 K kx else B4K false x2 h2 es2 w2 g2 ds2 ek2 a2 t2 d2 y2 n2 i2 K kx) else none
     | .r x2 h2 es2 w2 g2 ds2 ek2 a2 t2 d2 y2 n2 i2 m2 j2=>kx (.r x2 h2 es2 w2 g2 ds2 ek2 y2 n2 i2)) else none
   | .r x1 h1 es1 w1 g1 ds1 ek1 a1 t1 y1 n1 i1 l1 m1 j1=>kx (.r x1 h1 es1 w1 g1 ds1 ek1 y1 n1 i1)) else none)
  else kx (.o x h es w g ds ek y n i)
inductive C8Q where
 | m (x:V) (es:Em) (w:V) (g:V) (ds:List V) (ek:Em) (i:Int)
inductive D41 where
 | o (x:V) (es:Em) (w:V) (g:V) (ds:List V) (ek:Em) (i:Int)
 | s (x:V) (es:Em) (w:V) (g:V) (ds:List V) (ek:Em) (i:Int)
def D42 (es:Em) (t s:V) (k:Em→Option R):Option R :=
 bif txg [t] then (ln (t.nth 2).els.length <| B7 (B9e R) (A2 FU) (.m es s (A1n (A0c (M1 (.l (txL t))))) ((t.nth 2).els.length:Nat) 0) fun q=>match q with
  | .o es1 s1 d1 n1 i1=>ln s1.els.length <| B7 (B9f R) (A2 FU) (.m es1 s1 (s1.els.length:Nat) 0) fun q=>match q with
   | .o es2 s2 n2 i2=>k es2) else none
def B9j (R:Type) (p:C8Q) (K:C8Q→Option R) (kx:D41→Option R):Option R :=
 match p with
 | .m x es w g ds ek i =>
  bif F2 0 i then (ck i x.els.length <| ck i ds.length <| bif dug [w,x.nth i.toNat,ds.getD i.toNat .n] then (ck i x.els.length <| ck i ds.length <|
   D42 es (x.nth i.toNat) (ds.getD i.toNat .n) fun es2=>alX es2 (C1B w (x.nth i.toNat) (ds.getD i.toNat .n))
    (fun es3=>K (.m x es3 (C1B w (x.nth i.toNat) (ds.getD i.toNat .n)) g ds ek (B2 (i - 1)))) (fun es3=>kx (.s x es3 (C1B w (x.nth i.toNat) (ds.getD i.toNat .n)) g ds ek i))) else none)
  else kx (.o x es w g ds ek i)
def D43 (l x:V) (h:Int):Option Unit :=
 bif rgg [l] then bif A2i l.els 0 0 then
  ln x.els.length <| bif C3 12 (x.els.length:Nat) then some () else bif C3 h 0 then some () else bif C3 1000 h then some () else
  ln l.els.length <| B7 (BNw Unit) (A2 FU) (.m l [] (l.els.length:Nat) 0) fun q=>match q with
  | .o l2 es n2 i2=>ln l.els.length <| B7 (B9g Unit) (A2 FU) (.m x h es (.l (List.replicate 0 zSp)) l (l.els.length:Nat) 0) fun q=>match q with
   | .o x1 h1 es1 w1 l1 n1 i1=>ln x1.els.length <| B7 (A9c Unit) (A2 FU) (.m x1 h1 es1 w1 w1 (List.replicate 0 .n) es1 x1 (x1.els.length:Nat) 0) fun q=>match q with
    | .o x3 h3 es3 w3 g3 ds3 ek3 y3 n3 i3=>ln x3.els.length <| B7 (B9j Unit) (A2 FU) (.m x3 es3 w3 g3 ds3 ek3 (B2 ((x3.els.length:Nat) - 1))) fun q=>match q with
     | .o x4 es4 w4 g4 ds4 ek4 i4=>alX es4 g4 (fun _=>alX ek4 g4 (fun _=>some ()) (fun _=>none)) (fun _=>none)
     | .s x4 es4 w4 g4 ds4 ek4 i4=>none
    | .r x3 h3 es3 w3 g3 ds3 ek3 y3 n3 i3=>some ()
    | .s x3 h3 es3 w3 g3 ds3 ek3 y3 n3 i3=>none
  else some () else none
theorem B65:∀ a b:List V,sLt a b=decide (J6 a b < 0)
 | [],[]=>rfl
 | [],_::_=>rfl
 | _::_,[]=>rfl
 | a::x,b::y=>by
  simp only [sLt,J6,B65 x y,A1o]
  by_cases h1:a.int < b.int
  ·simp [h1]
  ·by_cases h2:b.int < a.int
   ·have:Y5 a.int b.int=false:=by rw [← Bool.not_eq_true,P4];omega
    simp [h1,h2,this]
   ·have:Y5 a.int b.int=true:=P4.2 (by omega)
    simp [h1,h2,this]
theorem C8R (a b:V):sLt (U3 a) (U3 b)=decide (cmR a b < 0):=by rw [B65,A0C]
theorem B0T {a b c:V} (h1:cmR a b < 0) (h2:cmR b c < 0):cmR a c < 0:=by
 rw [A0C] at *
 exact (A1q _ _ _).1 h1 (by omega)
theorem B2L (a b:V):cmR a b = - cmR b a:=by rw [A0C,A0C];exact A2j _ _
def pr (x:V):V×V:=(x.nth 0,x.nth 1)
structure Inv (es:Em) (w:List V):Prop where
 kn:kN es
 sp:∀ x∈w,x=.l [x.nth 0,x.nth 1]
 hk:∀ x∈w,A4F.has (x.nth 0)
 so:w.Pairwise fun x y=>cmR (x.nth 0) (y.nth 0) < 0
 pm:(w.map pr).Perm es
theorem B66 {k c:V}:∀ {es:Em},kN es→(k,c)∈es→P0 k es=true∧L9 k es=c:=by
 intro es
 induction es with
 | nil=>intro _ h;cases h
 | cons p r ih =>
  intro hn h
  obtain ⟨h1,h2⟩:=List.nodup_cons.1 hn
  simp only [P0,L9]
  rcases List.mem_cons.1 h with rfl | h
  ·rw [U4];exact ⟨rfl,rfl⟩
  ·have:N4 p.1 k=false:=by
    rw [← Bool.not_eq_true,G5];intro q
    exact h1 (List.mem_map.2 ⟨_,h,q.symm⟩)
   rw [this];exact ih h2 h
theorem Inv.len {es:Em} {w:List V} (h:Inv es w):w.length=es.length:=by have:=h.pm.length_eq;simpa using this
theorem Inv.mem {es:Em} {w:List V} (h:Inv es w) {x:V} (hx:x∈w):P0 (x.nth 0) es=true∧L9 (x.nth 0) es=x.nth 1 :=
 B66 h.kn (h.pm.mem_iff.1 (List.mem_map.2 ⟨x,hx,rfl⟩))
theorem Inv.has {es:Em} {w:List V} (h:Inv es w) {k:V}:P0 k es=true↔∃ x∈w,x.nth 0=k:=by
 rw [A4b]
 constructor
 ·intro hk
  obtain ⟨p,hp,rfl⟩:=List.mem_map.1 hk
  obtain ⟨x,hx,rfl⟩:=List.mem_map.1 (h.pm.mem_iff.2 hp)
  exact ⟨x,hx,rfl⟩
 ·rintro ⟨x,hx,rfl⟩
  exact List.mem_map.2 ⟨pr x,h.pm.mem_iff.1 (List.mem_map.2 ⟨x,hx,rfl⟩),rfl⟩
theorem Inv.keys {es:Em} {w:List V} (h:Inv es w):U2 (es.map (·.1))=w.map (·.nth 0):=by
 have hp:(w.map (·.nth 0)).Perm (es.map (·.1)):=by
  have:=h.pm.map (·.1)
  rwa [List.map_map] at this
 refine (A7V (ks:=es.map (·.1)) (fun x hx=>?_) hp ?_).symm
 ·obtain ⟨y,hy,rfl⟩:=List.mem_map.1 (hp.mem_iff.2 hx)
  exact h.hk y hy
 ·rw [List.pairwise_map]
  exact h.so.imp (fun {a b} q=>by omega)
theorem Inv.all {es:Em} {w:List V} (h:Inv es w):C1A es (U2 (es.map (·.1)))=w:=by
 rw [h.keys]
 unfold C1A
 rw [List.map_map]
 have:∀ x∈w,((fun k=>V.l [k,L9 k es]) ∘ fun x:V=>x.nth 0) x=x:=fun x hx=>by
  show V.l [x.nth 0,L9 (x.nth 0) es]=x
  rw [(h.mem hx).2];exact (h.sp x hx).symm
 rw [List.map_congr_left this,List.map_id']
theorem Inv.nil:Inv [] []:=⟨List.nodup_nil,fun x hx=>(by cases hx),fun x hx=>(by cases hx),.nil,.refl _⟩
theorem B67 {es es':Em} (h:es.Perm es') (hn:kN es):kN es':=(h.map _).nodup_iff.1 hn
theorem Inv.uniq {es es':Em} {w w':List V} (h:Inv es w) (h':Inv es' w') (hp:es.Perm es'):w=w':=by
 refine List.Perm.eq_of_pairwise (le:=fun x y=>cmR (x.nth 0) (y.nth 0) < 0) (fun a b _ _ h1 h2=>?_) h.so h'.so ?_
 ·rw [B2L] at h1;omega
 ·have hm:(w.map pr).Perm (w'.map pr):=(h.pm.trans hp).trans h'.pm.symm
  have back:∀ {v:List V},(∀ x∈v,x=.l [x.nth 0,x.nth 1])→(v.map pr).map (fun p:V×V=>V.l [p.1,p.2])=v:=fun {v} hv=>by
   rw [List.map_map]
   have:∀ x∈v,((fun p:V×V=>V.l [p.1,p.2]) ∘ pr) x=x:=fun x hx=>(hv x hx).symm
   rw [List.map_congr_left this,List.map_id']
  have:=hm.map (fun p:V×V=>V.l [p.1,p.2])
  rwa [back h.sp,back h'.sp] at this
theorem A6o (k:V):∀ es:Em,Y1 k es=es.filter fun p=>!(N4 p.1 k):=by
 intro es
 induction es with
 | nil=>rfl
 | cons p r ih =>
  simp only [Y1,List.filter_cons]
  cases N4 p.1 k
  ·simp [ih]
  ·simp [ih]
theorem Inv.del {es:Em} {w:List V} (h:Inv es w) (k:V):Inv (Y1 k es) (woS k w):=by
 have hs:(woS k w).Sublist w:=List.filter_sublist
 refine ⟨B4P h.kn,fun x hx=>h.sp x (hs.mem hx),fun x hx=>h.hk x (hs.mem hx),h.so.sublist hs,?_⟩
 rw [A6o]
 have:=h.pm.filter (fun p=>!(N4 p.1 k))
 rw [List.filter_map] at this
 exact this
theorem A6V (s:V):∀ l:List V,(wiF s l).Perm (s::l)
 | []=>.refl _
 | x::t=>by
  simp only [wiF]
  cases sLt (U3 (s.nth 0)) (U3 (x.nth 0))
  ·simp only [cond_false];exact ((A6V s t).cons x).trans (.swap s x t)
  ·exact .refl _
theorem B4L {s:V} (hs:A4F.has (s.nth 0)):∀ l:List V,(∀ x∈l,A4F.has (x.nth 0))→(∀ x∈l,x.nth 0≠s.nth 0)→l.Pairwise (fun x y=>cmR (x.nth 0) (y.nth 0) < 0)→(wiF s l).Pairwise (fun x y=>cmR (x.nth 0) (y.nth 0) < 0):=by
 intro l
 induction l with
 | nil=>intro _ _ _;exact List.pairwise_singleton _ _
 | cons x t ih =>
  intro h1 h2 h3
  obtain ⟨h4,h5⟩:=List.pairwise_cons.1 h3
  simp only [wiF,C8R]
  by_cases hc:cmR (s.nth 0) (x.nth 0) < 0
  ·rw [decide_eq_true hc,cond_true]
   refine List.pairwise_cons.2 ⟨fun y hy=>?_,h3⟩
   rcases List.mem_cons.1 hy with rfl | hy
   ·exact hc
   ·exact B0T hc (h4 y hy)
  ·rw [decide_eq_false hc,cond_false]
   have hx:cmR (x.nth 0) (s.nth 0) < 0:=by
    have hne:cmR (s.nth 0) (x.nth 0)≠0:=fun q=>h2 x (by simp) (B3r hs (h1 x (by simp)) q).symm
    rw [B2L];omega
   refine List.pairwise_cons.2 ⟨fun y hy=>?_,ih (fun y hy=>h1 y (by simp [hy])) (fun y hy=>h2 y (by simp [hy])) h5⟩
   rcases List.mem_cons.1 ((A6V s t).mem_iff.1 hy) with rfl | hy
   ·exact hx
   ·exact h4 y hy
theorem C8S {k:V} {w:List V}:∀ x∈woS k w,x.nth 0≠k:=by
 intro x hx q
 have:=(List.mem_filter.1 hx).2
 rw [q,U4] at this
 cases this
theorem Inv.set {es:Em} {w:List V} (h:Inv es w) {s:V} (hs:A4F.has (s.nth 0)) (hsp:s=.l [s.nth 0,s.nth 1]):Inv (A0D (s.nth 0) (s.nth 1) es) (A0G w s):=by
 have hd:=h.del (s.nth 0)
 have hp:=A6V s (woS (s.nth 0) w)
 refine ⟨C1S h.kn,fun x hx=>?_,fun x hx=>?_,B4L hs _ hd.hk C8S hd.so,?_⟩
 ·rcases List.mem_cons.1 (hp.mem_iff.1 hx) with rfl | hx
  ·exact hsp
  ·exact hd.sp x hx
 ·rcases List.mem_cons.1 (hp.mem_iff.1 hx) with rfl | hx
  ·exact hs
  ·exact hd.hk x hx
 ·exact (hp.map pr).trans (hd.pm.cons _)
theorem C8T {k:V}:∀ (l:List V) (i:Nat),(∃ x∈l,x.nth 0=k)→∃ (j:Nat) (hj:j < l.length),fnd k l i=((i+j:Nat):Int)∧l[j].nth 0=k:=by
 intro l
 induction l with
 | nil=>rintro i ⟨x,hx,_⟩;cases hx
 | cons x t ih =>
  rintro i ⟨y,hy,rfl⟩
  simp only [fnd]
  cases hq:N4 (x.nth 0) (y.nth 0) with
  | true=>exact ⟨0,by simp,rfl,(G5 _ _).1 hq⟩
  | false =>
   rcases List.mem_cons.1 hy with rfl | hy
   ·rw [U4] at hq;cases hq
   ·obtain ⟨j,hj,h1,h2⟩:=ih (i+1) ⟨y,hy,rfl⟩
    exact ⟨j+1,by simp;omega,by rw [cond_false,h1];congr 1;omega,h2⟩
theorem C1E {k:V}:∀ (l:List V) (i:Nat),(¬ ∃ x∈l,x.nth 0=k)→fnd k l i = -1:=by
 intro l
 induction l with
 | nil=>intro i _;rfl
 | cons x t ih =>
  intro i h
  have:N4 (x.nth 0) k=false:=by rw [← Bool.not_eq_true,G5];exact fun q=>h ⟨x,by simp,q⟩
  simp only [fnd,this,cond_false]
  exact ih _ (fun ⟨y,hy,q⟩=>h ⟨y,by simp [hy],q⟩)
theorem Inv.fnd {es:Em} {w:V} (h:Inv es w.els) (k:V):F2 0 (fnd k w.els 0)=P0 k es∧(P0 k es=true→w.nth (Vm.fnd k w.els 0).toNat=.l [k,L9 k es]):=by
 by_cases hk:∃ x∈w.els,x.nth 0=k
 ·obtain ⟨j,hj,h1,h2⟩:=C8T w.els 0 hk
  have hh:=h.has.2 hk
  rw [hh,h1]
  refine ⟨C5.2 (by omega),fun _=>?_⟩
  have e:w.nth ((0+j:Nat):Int).toNat=w.els[j]:=by
   simp only [Nat.zero_add,Int.toNat_natCast]
   show w.els.getD j .n=_
   simp [hj]
  rw [e]
  have hm:=h.mem (List.getElem_mem hj)
  rw [h2] at hm
  rw [hm.2]
  have:=h.sp _ (List.getElem_mem hj)
  rw [h2] at this
  exact this
 ·have hh:P0 k es=false:=by rw [← Bool.not_eq_true,h.has];exact hk
  rw [C1E w.els 0 hk,hh]
  exact ⟨rfl,fun q=>by cases q⟩
theorem A9C {b:Bool}:∀ (r:List V) {es:Em} {w:V} (xs:List V),Inv es w.els→Inv (Y6 b r es xs).1 (A2M b r w xs).1.els∧(A2M b r w xs).2=(Y6 b r es xs).2:=by
 intro r
 induction r with
 | nil=>intro es w xs h;exact ⟨h,rfl⟩
 | cons x r ih =>
  intro es w xs h
  obtain ⟨f1,f2⟩:=h.fnd (x.nth 0)
  simp only [A2M,Y6,f1]
  cases hh:P0 (x.nth 0) es with
  | false=>simp only [Bool.false_and,cond_false];exact ih xs h
  | true =>
   cases b with
   | true=>simp only [Bool.not_true,Bool.and_false,cond_false];exact ih xs h
   | false =>
    simp only [Bool.not_false,Bool.and_true,cond_true]
    rw [f2 hh]
    exact ih (w:=.l (woS (x.nth 0) w.els)) _ (h.del (x.nth 0))
theorem C1F {d:V} (hd:(D.arr 32 (.int .u8)).has d) (i:Int):A4F.has (L0 d i):=⟨_,rfl,hd,⟨_,rfl,N8 _ _⟩,trivial⟩
theorem A9D {d:V} (hd:(D.arr 32 (.int .u8)).has d) {h:Int} {b:Bool}:∀ (r:List V) (i:Nat) {es:Em} {w:V},Inv es w.els→Inv (A2O d h b r i es) (B0S d h b r i w).els:=by
 intro r
 induction r with
 | nil=>intro i es w hI;exact hI
 | cons o r ih =>
  intro i es w hI
  simp only [B0S,A2O]
  exact ih (i+1) (w:=.l (A0G w.els (.l [L0 d (i:Nat),A3U h b o]))) (hI.set (s:=.l [L0 d (i:Nat),A3U h b o]) (C1F hd _) rfl)
theorem B9k {d:V}:∀ (m i:Nat) {es:Em} {w:V},Inv es w.els→Inv (A6g d m i es) (B4H d m i w).els:=by
 intro m
 induction m with
 | zero=>intro i es w h;exact h
 | succ m ih=>intro i es w h;exact ih (i+1) (w:=.l (woS (L0 d (i:Nat)) w.els)) (h.del _)
theorem A9E:∀ (r:List V) {es:Em} {w:V},(∀ s∈r,A4F.has (s.nth 0)∧s=.l [s.nth 0,s.nth 1])→Inv es w.els→Inv (A2N r es) (B4I r w).els:=by
 intro r
 induction r with
 | nil=>intro es w _ h;exact h
 | cons s r ih =>
  intro es w hs h
  exact ih (w:=.l (A0G w.els s)) (fun q hq=>hs q (by simp [hq])) (h.set (hs s (by simp)).1 (hs s (by simp)).2)
theorem B68 (l:List Nat):(D.arr 32 (.int .u8)).has (A1n l) :=
 ⟨_,rfl,by rw [E0v];exact C6G l,fun y hy=>by
  obtain ⟨n,hn,rfl⟩:=List.mem_map.1 hy
  have:=D1X l n hn
  exact ⟨(n:Int),rfl,by constructor<;>simp only [lo,hi]<;>omega⟩⟩
def isO (d:V) (i n:Nat) (k:V):Bool:=(List.range' i n).any fun j=>N4 k (L0 d (j:Nat))
theorem B2M {d:V} {i n:Nat} {k:V}:isO d i n k=true↔∃ j,i≤j∧j < i+n∧k=L0 d (j:Nat):=by
 unfold isO
 rw [List.any_eq_true]
 constructor
 ·rintro ⟨j,hj,h⟩
  rw [List.mem_range'_1] at hj
  exact ⟨j,hj.1,hj.2,(G5 _ _).1 h⟩
 ·rintro ⟨j,h1,h2,h3⟩
  exact ⟨j,List.mem_range'_1.2 ⟨h1,h2⟩,(G5 _ _).2 h3⟩
theorem C8U (d:V):∀ (m i:Nat) (es:Em),A6g d m i es=es.filter fun p=>!(isO d i m p.1):=by
 intro m
 induction m with
 | zero=>intro i es;simp only [A6g];rw [List.filter_eq_self.2];intro p _;simp [isO]
 | succ m ih =>
  intro i es
  simp only [A6g]
  rw [ih,A6o,List.filter_filter]
  congr 1
  funext p
  have:isO d i (m+1) p.1=(N4 p.1 (L0 d (i:Nat))||isO d (i+1) m p.1):=by
   unfold isO
   rw [List.range'_succ,List.any_cons]
  rw [this]
  cases N4 p.1 (L0 d (i:Nat))<;>cases isO d (i+1) m p.1<;>rfl
theorem B2N {d:V} {h:Int} {b:Bool} {n:Nat}:∀ (r:List V) (i:Nat) (es:Em),i+r.length≤n→((A2O d h b r i es).filter fun p=>!(isO d 0 n p.1))=es.filter fun p=>!(isO d 0 n p.1):=by
 intro r
 induction r with
 | nil=>intro i es _;rfl
 | cons o r ih =>
  intro i es hn
  simp only [E0z] at hn
  simp only [A2O]
  rw [ih (i+1) _ (by omega)]
  show List.filter _ ((L0 d (i:Nat),A3U h b o)::Y1 (L0 d (i:Nat)) es)=_
  have hi:isO d 0 n (L0 d (i:Nat))=true:=B2M.2 ⟨i,by omega,by omega,rfl⟩
  rw [List.filter_cons,hi]
  simp only [Bool.not_true,Bool.false_eq_true,if_false]
  rw [A6o,List.filter_filter]
  apply List.filter_congr
  intro p _
  cases hq:isO d 0 n p.1 with
  | true=>rfl
  | false =>
   have:N4 p.1 (L0 d (i:Nat))=false:=by
    rw [← Bool.not_eq_true,G5];intro q
    rw [q,hi] at hq;cases hq
   rw [this];rfl
theorem C1G {d:V} {h:Int} {b:Bool}:∀ (r:List V) (i:Nat) (es:Em),∀ p∈A2O d h b r i es,p∈es∨∃ o∈r,∃ j:Nat,p=(L0 d (j:Nat),A3U h b o):=by
 intro r
 induction r with
 | nil=>intro i es p hp;exact .inl hp
 | cons o r ih =>
  intro i es p hp
  rcases ih _ _ p hp with hp | ⟨o',ho,j,rfl⟩
  ·rcases List.mem_cons.1 hp with rfl | hp
   ·exact .inr ⟨o,by simp,i,rfl⟩
   ·exact .inl (A1O.mem hp)
  ·exact .inr ⟨o',by simp [ho],j,rfl⟩
theorem A6W {d:V} {h:Int} {b:Bool}:∀ (r:List V) (i:Nat) (es:Em),(A2O d h b r i es).length≤es.length+r.length:=by
 intro r
 induction r with
 | nil=>intro i es;exact Nat.le_refl _
 | cons o r ih =>
  intro i es
  have:=ih (i+1) (A0D (L0 d (i:Nat)) (A3U h b o) es)
  have h2:(A0D (L0 d (i:Nat)) (A3U h b o) es).length=(Y1 (L0 d (i:Nat)) es).length+1:=rfl
  have h3:=(A1O (k:=L0 d (i:Nat)) (es:=es)).length_le
  simp only [A2O,E0z];omega
theorem C1H {d:V} {h:Int} {b:Bool}:∀ (r:List V) (i:Nat) (es:Em) (j:Nat),(i≤j∧j < i+r.length∨(P0 (L0 d (j:Nat)) es=true∧(L9 (L0 d (j:Nat)) es).nth 1=.i h  ))→P0 (L0 d (j:Nat)) (A2O d h b r i es)=true∧((L9 (L0 d (j:Nat)) (A2O d h b r i es)).nth 1).int=h:=by
 intro r
 induction r with
 | nil =>
  intro i es j hj
  rcases hj with ⟨h1,h2⟩ | ⟨h1,h2⟩
  ·simp at h2;omega
  ·exact ⟨h1,by simp only [A2O];rw [h2];rfl⟩
 | cons o r ih =>
  intro i es j hj
  simp only [A2O]
  apply ih
  by_cases hij:L0 d (j:Nat)=L0 d (i:Nat)
  ·refine .inr ⟨?_,?_⟩
   ·simp only [A0D,P0,hij,U4,Bool.true_or]
   ·simp only [A0D,L9,hij,U4,cond_true];rfl
  ·rcases hj with ⟨h1,h2⟩ | ⟨h1,h2⟩
   ·left
    have:j≠i:=fun q=>hij (by rw [q])
    simp only [E0z] at h2
    omega
   ·right
    have hv:N4 (L0 d (i:Nat)) (L0 d (j:Nat))=false:=by rw [← Bool.not_eq_true,G5];exact fun q=>hij q.symm
    obtain ⟨d1,d2⟩:=B9s hij (es:=es)
    have e1:P0 (L0 d (j:Nat)) (A0D (L0 d (i:Nat)) (A3U h b o) es)=true:=by simp only [A0D,P0,hv,Bool.false_or,d1,h1]
    have e2:L9 (L0 d (j:Nat)) (A0D (L0 d (i:Nat)) (A3U h b o) es)=L9 (L0 d (j:Nat)) es:=by simp only [A0D,L9,hv,cond_false,d2]
    exact ⟨e1,by rw [e2];exact h2⟩
theorem A3i {b:Bool}:∀ (r:List V) (es:Em) (xs:List V),kN es→∃ sp:List V,(Y6 b r es xs).2=xs++sp∧es.Perm ((Y6 b r es xs).1++sp.map pr)∧(∀ s∈sp,s=.l [s.nth 0,s.nth 1])∧(Y6 b r es xs).1.Sublist es∧sp.length≤r.length:=by
 intro r
 induction r with
 | nil=>intro es xs _;exact ⟨[],by simp [Y6],by simp [Y6],(fun s hs=>by cases hs),List.Sublist.refl _,Nat.le_refl _⟩
 | cons x r ih =>
  intro es xs hn
  simp only [Y6]
  cases hc:P0 (x.nth 0) es&&!b with
  | false =>
   simp only [cond_false]
   obtain ⟨sp,a1,a2,a3,a4,a5⟩:=ih es xs hn
   exact ⟨sp,a1,a2,a3,a4,by simp only [E0z];omega⟩
  | true =>
   simp only [cond_true]
   simp only [E0s] at hc
   obtain ⟨sp,a1,a2,a3,a4,a5⟩:=ih (Y1 (x.nth 0) es) (xs++[.l [x.nth 0,L9 (x.nth 0) es]]) (B4P hn)
   refine ⟨.l [x.nth 0,L9 (x.nth 0) es]::sp,by rw [a1];simp,?_,fun s hs=>?_,a4.trans A1O,by simp only [E0z];omega⟩
   ·have hp:es.Perm ((x.nth 0,L9 (x.nth 0) es)::Y1 (x.nth 0) es):=by
     rw [A6o]
     have hm:=A4a hc.1
     have h1:es.Perm ((es.filter fun p=>N4 p.1 (x.nth 0))++es.filter fun p=>!(N4 p.1 (x.nth 0))):=(List.filter_append_perm _ _).symm
     have h2:(es.filter fun p=>N4 p.1 (x.nth 0))=[(x.nth 0,L9 (x.nth 0) es)]:=by
      have hl:∀ {l:Em},kN l→P0 (x.nth 0) l=true→(l.filter fun p=>N4 p.1 (x.nth 0))=[(x.nth 0,L9 (x.nth 0) l)]:=by
       intro l
       induction l with
       | nil=>intro _ q;cases q
       | cons p l il =>
        intro hn q
        obtain ⟨n1,n2⟩:=List.nodup_cons.1 hn
        simp only [List.filter_cons,L9]
        cases hv:N4 p.1 (x.nth 0) with
        | true =>
         have:=(G5 _ _).1 hv
         have hno:(l.filter fun p=>N4 p.1 (x.nth 0))=[]:=by
          rw [List.filter_eq_nil_iff]
          intro y hy hq
          exact n1 (List.mem_map.2 ⟨y,hy,by rw [(G5 _ _).1 hq];exact this.symm⟩)
         rw [hno]
         simp only [if_true,cond_true]
         rw [← this]
        | false =>
         simp only [P0,hv,Bool.false_or] at q
         simp only [Bool.false_eq_true,if_false,cond_false]
         exact il n2 q
      exact hl hn hc.1
     rw [h2] at h1
     exact h1
    refine hp.trans ?_
    have:=a2.cons (x.nth 0,L9 (x.nth 0) es)
    refine this.trans ?_
    rw [List.map_cons]
    exact List.perm_middle.symm
   ·rcases List.mem_cons.1 hs with rfl | hs
    ·rfl
    ·exact a3 s hs
theorem B9l:∀ (sp:List V) (X:Em),kN (X++sp.map pr)→(A2N sp X).Perm (X++sp.map pr):=by
 intro sp
 induction sp with
 | nil=>intro X _;simp [A2N]
 | cons s sp ih =>
  intro X hn
  have hp:(X++(s::sp).map pr).Perm (((s.nth 0,s.nth 1)::X)++sp.map pr):=by
   rw [List.map_cons]
   exact List.perm_middle
  have hn':=B67 hp hn
  have hno:P0 (s.nth 0) X=false:=by
   rw [← Bool.not_eq_true,A4b]
   intro q
   have h1:=(List.nodup_cons.1 hn').1
   exact h1 (by
    have:s.nth 0∈(X++sp.map pr).map (·.1):=by rw [List.map_append];exact List.mem_append_left _ q
    exact this)
  simp only [A2N]
  have:A0D (s.nth 0) (s.nth 1) X=(s.nth 0,s.nth 1)::X:=by
   show _::Y1 _ X=_
   rw [C1R hno]
  rw [this]
  exact (ih _ hn').trans hp.symm
theorem B9m {d:V} {h:Int} {b:Bool} {ins outs:List V} {es es':Em} (hn:kN es) (hfree:∀ j:Nat,j < outs.length→P0 (L0 d (j:Nat)) es=false) (hp:es'.Perm (A2O d h b outs 0 (Y6 b ins es []).1)) :
  (A2N (Y6 b ins es []).2 (A6g d outs.length 0 es')).Perm es:=by
 obtain ⟨sp,a1,a2,a3,a4,a5⟩:=A3i (b:=b) ins es [] hn
 rw [a1,List.nil_append]
 have h1:(A6g d outs.length 0 es').Perm (Y6 b ins es []).1:=by
  rw [C8U]
  refine (hp.filter _).trans ?_
  rw [B2N outs 0 _ (by omega),List.filter_eq_self.2]
  intro p hp'
  have hq:isO d 0 outs.length p.1=false:=by
   rw [← Bool.not_eq_true,B2M]
   rintro ⟨j,_,hj,he⟩
   have:=hfree j (by omega)
   rw [← he] at this
   have h2:=A4b.2 (List.mem_map.2 ⟨p,a4.mem hp',rfl⟩)
   have h2:P0 p.1 es=true:=h2
   rw [this] at h2;cases h2
  rw [hq];rfl
 have h2:((A6g d outs.length 0 es')++sp.map pr).Perm es:=(h1.append_right _).trans a2.symm
 exact (B9l sp _ (B67 h2.symm hn)).trans h2
variable {R:Type}
theorem C8V {nl:Bool} {xs:List V} (h:nl=true→xs=[]):(bif nl then V.n else V.l xs).els=xs:=by
 cases nl with
 | false=>rfl
 | true=>rw [h rfl];rfl
theorem B2O {x y:V} (h:x.els=y.els):A7W x y=true:=by
 unfold A7W
 rw [h,P4.2 rfl,B0h];rfl
theorem C1I {es:Em} {ks:List V} {kn:Bool} {ko:Option R} {kx:D4T→Option R} {ys:List V} (h1:∀ nl n i,(nl=true→ys=[])→kx (.o es ys nl ks kn n i)=ko):∀ (r a xs:List V) (nl:Bool) (fuel:Nat),ks=a++r→xs++C1A es r=ys→(nl=true→xs=[])→(∀ k∈r,P0 k es=true∧(M7 (L9 k es)).els.length≤1000000)→a.length+r.length≤100000→xs.length+r.length≤100000→r.length < fuel →
  B7 (B9d R) fuel (.m es xs nl ks kn (ks.length:Nat) (a.length:Nat)) kx=ko:=by
 intro r
 induction r with
 | nil =>
  intro a xs nl fuel he hy hnl hk ha hx hf
  obtain ⟨g,rfl⟩:∃ g,fuel=g+1:=⟨fuel - 1,by omega⟩
  rw [List.append_nil] at he
  subst he
  have hy:xs=ys:=by rw [← hy];simp [C1A]
  subst hy
  rw [B7,B9d,show C3 (ks.length:Nat) (ks.length:Nat)=false by rw [A1o,decide_eq_false_iff_not];omega,cond_false];exact h1 _ _ _ hnl
 | cons x r ih =>
  intro a xs nl fuel he hy hnl hk ha hx hf
  obtain ⟨g,rfl⟩:∃ g,fuel=g+1:=⟨fuel - 1,by simp at hf;omega⟩
  simp only [E0z] at ha hf hx
  have hle:ks.length=a.length+(r.length+1):=by rw [he];simp
  have hat:ks.getD ((a.length:Nat):Int).toNat .n=x:=by rw [he];simp
  obtain ⟨hk1,hk2⟩:=hk x (by simp)
  have ih:=ih (a++[x]) (xs++[.l [x,L9 x es]]) (nl&&false) g (by rw [he];simp) (by rw [← hy];simp [C1A]) (by simp) (fun y hy=>hk y (by simp [hy]))
  simp only [E0t,E0A] at ih
  rw [B7,B9d,show C3 (a.length:Nat) (ks.length:Nat)=true by rw [A1o,E0D];omega,cond_true,E2 (by omega) (by omega),hat,H7 (by omega),hk1,cond_true,D4 (by omega),D4 (by omega)]
  exact ih (by omega) (by omega) (by omega)
theorem A6p {es:Em} {w:V} {ky kn:Em→Option R} (hI:Inv es w.els) (hok:okM es) (hl:es.length≤200):alX es w ky kn=ky es:=by
 have hq:=V2
 have hw:=hI.len
 have hks:(U2 (es.map (·.1))).length=es.length:=by rw [hI.keys,E0v,hw]
 unfold alX
 rw [E0B hl,cond_true,D8 (by omega)]
 refine C1I (ks:=U2 (es.map (·.1))) (ys:=w.els) (fun nl n i hnl=>?_) (U2 (es.map (·.1))) [] [] true (A2 FU) rfl (by rw [List.nil_append];exact hI.all) (fun _=>rfl) (fun k hk=>?_) (by simp only [List.length_nil];omega) (by simp only [List.length_nil];omega) (by omega)
 ·have he:=C8V hnl
  simp only
  have hp:pqg [bif nl then V.n else V.l w.els,w]=true:=by
   show (Nat.ble (bif nl then V.n else V.l w.els).els.length 10000&&Nat.ble w.els.length 10000)=true
   rw [he,E0B (by omega)];rfl
  rw [hp,cond_true,B2O he];rfl
 ·rw [hI.keys] at hk
  obtain ⟨x,hx,rfl⟩:=List.mem_map.1 hk
  have hm:=hI.mem hx
  obtain ⟨_,_,_,_,h5⟩:=hok _ (A4a hm.1)
  have h5:(M7 (L9 (x.nth 0) es)).els.length≤300:=h5
  exact ⟨hm.1,by omega⟩
theorem C8W {x l:V} {h:Int} {es:Em} (kx:D4X→Option R):∀ (r a:List V) (w:V) (fuel:Nat),l.els=a++r→a.length+r.length≤100000→w.els.length+r.length≤10000→r.length < fuel →
  B7 (B9g R) fuel (.m x h es w l (l.els.length:Nat) (a.length:Nat)) kx=kx (.o x h es (B4I r w) l (l.els.length:Nat) (l.els.length:Nat)):=by
 intro r
 induction r with
 | nil =>
  intro a w fuel he ha hw hf
  obtain ⟨g,rfl⟩:∃ g,fuel=g+1:=⟨fuel - 1,by omega⟩
  rw [List.append_nil] at he
  rw [B7,B9g,A1N he,cond_false,he];rfl
 | cons p r ih =>
  intro a w fuel he ha hw hf
  obtain ⟨g,rfl⟩:∃ g,fuel=g+1:=⟨fuel - 1,by simp at hf;omega⟩
  simp only [E0z] at ha hf hw
  have hle:l.els.length=a.length+(r.length+1):=by rw [he];simp
  have hat:l.nth ((a.length:Nat):Int).toNat=p:=L5 he
  have ih:=fun w=>ih (a++[p]) w g (by rw [he];simp)
  simp only [E0t,E0A] at ih
  rw [B7,B9g,A1M he,cond_true,E2 (by omega) (by omega),hat,H7 (by omega),E0B (by omega:w.els.length≤10000),cond_true]
  exact ih _ (by omega) (by have:=A3h w.els p;show (A0G w.els _).length+_≤_;omega) (by omega)
def B9n (o:V):Bool:=decide (0≤(o.nth 0).int∧(o.nth 0).int≤MM)
theorem C8X {x w g t y l:V} {h a n i:Int} {es ek:Em} {ds:List V} {ko kr:Option R} {kx:D4Y→Option R} (h1:∀ m j,kx (.o x h es w g ds ek a t y n i l m j)=ko) (h2:∀ m j,kx (.r x h es w g ds ek a t y n i l m j)=kr):∀ (r b:List V) (fuel:Nat),l.els=b++r→b.length+r.length≤100000→r.length < fuel →
  B7 (B9h R) fuel (.m x h es w g ds ek a t y n i l (l.els.length:Nat) (b.length:Nat)) kx=bif r.all B9n then ko else kr:=by
 intro r
 induction r with
 | nil =>
  intro b fuel he ha hf
  obtain ⟨q,rfl⟩:∃ q,fuel=q+1:=⟨fuel - 1,by omega⟩
  rw [List.append_nil] at he
  rw [B7,B9h,A1N he,cond_false];exact h1 _ _
 | cons p r ih =>
  intro b fuel he ha hf
  obtain ⟨q,rfl⟩:∃ q,fuel=q+1:=⟨fuel - 1,by simp at hf;omega⟩
  simp only [E0z] at ha hf
  have hle:l.els.length=b.length+(r.length+1):=by rw [he];simp
  have hat:l.nth ((b.length:Nat):Int).toNat=p:=L5 he
  have ih:=ih (b++[p]) q (by rw [he];simp)
  simp only [E0t,E0A] at ih
  rw [B7,B9h,A1M he,cond_true,E2 (by omega) (by omega),hat,H7 (by omega),ih (by omega) (by omega),h2]
  simp only [List.all_cons,B9n,MM]
  by_cases c1:0≤(p.nth 0).int
  ·rw [C5.2 c1,cond_true]
   by_cases c2:(p.nth 0).int≤2000000000000
   ·rw [C5.2 c2,cond_true,decide_eq_true ⟨c1,c2⟩,Bool.true_and]
   ·have:F2 (p.nth 0).int 2000000000000=false:=by rw [← Bool.not_eq_true,C5];exact c2
    rw [this,cond_false,decide_eq_false (fun q=>c2 q.2)];rfl
  ·have:F2 0 (p.nth 0).int=false:=by rw [← Bool.not_eq_true,C5];exact c1
   rw [this,cond_false,decide_eq_false (fun q=>c1 q.1)];rfl
theorem C8Y {x w g t y d:V} {h a n i:Int} {es ek:Em} {ds:List V} {ko kr:Option R} {kx:D4Z→Option R} (hI:Inv es w.els) (hw:w.els.length≤10000) (h1:∀ m j,kx (.o x h es w g ds ek a t d y n i m j)=ko) (h2:∀ m j,kx (.r x h es w g ds ek a t d y n i m j)=kr):∀ (r j m:Nat) (fuel:Nat),m=j+r→m≤100000→r < fuel →
  ((∀ k,j≤k→k < m→P0 (L0 d (k:Nat)) es=false)∧B7 (B2J R) fuel (.m x h es w g ds ek a t d y n i (m:Nat) (j:Nat)) kx=ko)∨B7 (B2J R) fuel (.m x h es w g ds ek a t d y n i (m:Nat) (j:Nat)) kx=kr:=by
 intro r
 induction r with
 | zero =>
  intro j m fuel he hm hf
  obtain ⟨q,rfl⟩:∃ q,fuel=q+1:=⟨fuel - 1,by omega⟩
  obtain rfl:m=j:=by omega
  left
  refine ⟨fun k h1 h2=>by omega,?_⟩
  rw [B7,B2J,show C3 (m:Nat) (m:Nat)=false by rw [A1o,decide_eq_false_iff_not];omega,cond_false];exact h1 _ _
 | succ r ih =>
  intro j m fuel he hm hf
  obtain ⟨q,rfl⟩:∃ q,fuel=q+1:=⟨fuel - 1,by omega⟩
  have ih:=ih (j+1) m q (by omega) hm (by omega)
  rw [B7,B2J,show C3 (j:Nat) (m:Nat)=true by rw [A1o,E0D];omega,cond_true,H7 (by omega),E0B hw,cond_true,(hI.fnd (L0 d (j:Nat))).1]
  cases hh:P0 (L0 d (j:Nat)) es with
  | true=>right;rw [cond_true];exact h2 _ _
  | false =>
   rw [cond_false]
   rcases ih with ⟨i1,i2⟩ | i2
   ·left
    refine ⟨fun k k1 k2=>?_,i2⟩
    by_cases hk:k=j
    ·subst hk;exact hh
    ·exact i1 k (by omega) k2
   ·right;exact i2
theorem C8Z {x w g y d:V} {h a n i:Int} {es ek:Em} {ds:List V} {ko:Option R} {kx:D40→Option R} (hok:okM es) (h1:∀ m j,kx (.o x h es w g ds ek a d y n i m j)=ko):∀ (r j m:Nat) (fuel:Nat),m=j+r→m≤100000→(∀ k,j≤k→k < m→P0 (L0 d (k:Nat)) es=true∧((L9 (L0 d (k:Nat)) es).nth 1).int=B2 (h+a))→r < fuel →
  B7 (B9i R) fuel (.m x h es w g ds ek a d y n i (m:Nat) (j:Nat)) kx=ko:=by
 intro r
 induction r with
 | zero =>
  intro j m fuel he hm hh hf
  obtain ⟨q,rfl⟩:∃ q,fuel=q+1:=⟨fuel - 1,by omega⟩
  obtain rfl:m=j:=by omega
  rw [B7,B9i,show C3 (m:Nat) (m:Nat)=false by rw [A1o,decide_eq_false_iff_not];omega,cond_false];exact h1 _ _
 | succ r ih =>
  intro j m fuel he hm hh hf
  obtain ⟨q,rfl⟩:∃ q,fuel=q+1:=⟨fuel - 1,by omega⟩
  have ih:=ih (j+1) m q (by omega) hm (fun k h1 h2=>hh k (by omega) h2) (by omega)
  obtain ⟨g1,g2⟩:=hh j (Nat.le_refl _) (by omega)
  obtain ⟨_,_,_,_,h5⟩:=hok _ (A4a g1)
  have h5:(M7 (L9 (L0 d (j:Nat)) es)).els.length≤300:=h5
  rw [B7,B9i,show C3 (j:Nat) (m:Nat)=true by rw [A1o,E0D];omega,cond_true,H7 (by omega),g1,cond_true,D4 (by omega),P4.2 g2,Bool.not_true,cond_false]
  exact ih
theorem C1J {es:Em} {t s:V} {k:Em→Option R} (ht:txg [t]=true) (ho:(t.nth 2).els.length≤1000) (hs:s.els.length≤1000) (hk:∀ q∈s.els,(M7 (q.nth 1)).els.length≤1000000) :
  D42 es t s k=k (A2N s.els (A6g (idB t) (t.nth 2).els.length 0 es)):=by
 have hq:=V2
 unfold D42
 rw [ht,cond_true,D8 (by omega)]
 refine (C8I _ (t.nth 2).els.length 0 es (A2 FU) (by omega) (by omega) (by omega)).trans ?_
 simp only
 rw [D8 (by omega)]
 exact C8J _ s.els [] _ (A2 FU) rfl hk (by simp only [List.length_nil];omega) (by omega)
theorem C80 {t l:V} {h:Int} {b:Bool} {ko:Option R} {kx:QAi→Option R} {es0:Em} {xs0:List V} (h1:∀ n i,kx (.o es0 t l h b xs0 xs0.isEmpty n i)=ko):∀ (r a:List V) (es:Em) (xs:List V) (nl:Bool) (fuel:Nat),Y6 b r es xs=(es0,xs0)→nl=xs.isEmpty→okM es→l.els=a++r→xs.length+r.length≤100000→a.length+r.length≤100000→r.length < fuel →
  B7 (BAi R) fuel (.m es t l h b xs nl (l.els.length:Nat) (a.length:Nat)) kx=ko:=by
 intro r
 induction r with
 | nil =>
  intro a es xs nl fuel hs hnl hok he hx ha hf
  obtain ⟨f,rfl⟩:∃ f,fuel=f+1:=⟨fuel - 1,by omega⟩
  rw [List.append_nil] at he
  cases hs
  rw [B7,D3s,A1N he,cond_false,hnl];exact h1 _ _
 | cons x r ih =>
  intro a es xs nl fuel hs hnl hok he hx ha hf
  obtain ⟨f,rfl⟩:∃ f,fuel=f+1:=⟨fuel - 1,by simp at hf;omega⟩
  simp only [E0z] at ha hf hx
  have hle:l.els.length=a.length+(r.length+1):=by rw [he];simp
  have hat:l.nth ((a.length:Nat):Int).toNat=x:=L5 he
  have ih:=fun es' xs' nl' q1 q0 q2 q3=>ih (a++[x]) es' xs' nl' f q1 q0 q2 (by rw [he];simp) q3 (by simp;omega) (by omega)
  simp only [E0t,E0A] at ih
  simp only [Y6] at hs
  rw [B7,D3s,A1M he,cond_true,E2 (by omega) (by omega),hat,H7 (by omega),D5e]
  cases hh:P0 (x.nth 0) es with
  | false =>
   rw [hh] at hs
   exact ih es xs nl hs hnl hok (by omega)
  | true =>
   obtain ⟨b1,b2,b3,b4,b5⟩:=hok _ (A4a hh)
   rw [hh] at hs
   cases b with
   | true=>exact ih es xs nl hs hnl hok (by omega)
   | false =>
    simp only [cond_true,cond_false]
    rw [D4 (by have:(M7 (L9 (x.nth 0) es)).els.length≤300:=b5;omega),D4 (by simp;omega)]
    exact ih _ _ _ hs (by cases xs<;>simp) (C89 hok) (by simp;omega)
variable {R:Type}
def spV (xs:List V):V:=bif xs.isEmpty then .n else .l xs
theorem A38 (xs:List V):(spV xs).els=xs:=by cases xs<;>rfl
theorem C81 {t:V} (h:A3T t=false):((t.nth 1).els.length≤12∧(t.nth 2).els.length≤12)∧(∀ z∈(t.nth 1).els,(z.nth 1).els.length≤300)∧∀ o∈(t.nth 2).els,(o.nth 1).els.length≤300:=by
 unfold A3T at h
 simp only [Bool.or_eq_false_iff,decide_eq_false_iff_not] at h
 obtain ⟨⟨⟨h1,h2⟩,h3⟩,h4⟩:=h
 refine ⟨⟨by omega,by omega⟩,fun z hz=>?_,fun o ho=>?_⟩
 ·have:=List.any_eq_false.1 h3 z hz
  unfold A1p at this
  simp only [E0D] at this;omega
 ·have:=List.any_eq_false.1 h4 o ho
  unfold A1p at this
  simp only [E0D] at this;omega
theorem D44 {t:V} (h1:(t.nth 1).els.length≤12) (h2:(t.nth 2).els.length≤12) (h3:∀ z∈(t.nth 1).els,(z.nth 1).els.length≤300) (h4:∀ o∈(t.nth 2).els,(o.nth 1).els.length≤300):txg [t]=true:=by
 show ((Nat.ble (t.nth 1).els.length 1000&&(t.nth 1).els.all fun z=>Nat.ble (z.nth 1).els.length 100000)&&(Nat.ble (t.nth 2).els.length 1000&&(t.nth 2).els.all fun z=>Nat.ble (z.nth 1).els.length 100000))=true
 simp only [E0s,Nat.ble_eq,List.all_eq_true]
 exact ⟨⟨by omega,fun z hz=>by have:=h3 z hz;omega⟩,by omega,fun z hz=>by have:=h4 z hz;omega⟩
structure D3m (t s:V) (es es':Em):Prop where
 tg:txg [t]=true
 ol:(t.nth 2).els.length≤12
 sl:s.els.length≤12
 sk:∀ q∈s.els,(A4F.has (q.nth 0)∧q=.l [q.nth 0,q.nth 1])∧(M7 (q.nth 1)).els.length≤300
 ok:okM es
 ln:es.length≤200
 ln':es'.length≤200
 un:∀ X:Em,X.Perm es'→(A2N s.els (A6g (idB t) (t.nth 2).els.length 0 X)).Perm es
inductive B2P (g0:Em):List V→List V→Em→Prop
 | nil:B2P g0 [] [] g0
 | snoc {ts ds:List V} {es es':Em} {t s:V}:B2P g0 ts ds es→D3m t s es es'→B2P g0 (ts++[t]) (ds++[s]) es'
theorem B2P.len {g0:Em} {ts ds:List V} {es:Em} (h:B2P g0 ts ds es):ds.length=ts.length:=by
 induction h with
 | nil=>rfl
 | snoc _ _ ih=>simp [ih]
theorem B2Q {a b:Em} (h:a.Perm b) (hb:okM b):okM a:=fun p hp=>hb p (h.mem_iff.1 hp)
theorem B69 {es:Em} {d:V} {h:Int} {b:Bool} {ins outs:List V} (hok:okM es) (hs:(Y6 b ins es []).1.Sublist es) (hlk:∀ o∈outs,(o.nth 1).els.length≤300) (hmo:outs.all B9n=true) (hh:0≤h∧h≤1000000000):okM (A2O d h b outs 0 (Y6 b ins es []).1):=by
 intro p hp
 rcases C1G _ _ _ p hp with hp | ⟨o,ho,j,rfl⟩
 ·exact hok p (hs.mem hp)
 ·have h1:=List.all_eq_true.1 hmo o ho
  unfold B9n at h1
  rw [E0D] at h1
  exact ⟨h1.1,h1.2,hh.1,hh.2,hlk o ho⟩
theorem C1K {b:Bool} {x w g t y:V} {h a n i:Int} {es ek:Em} {ds:List V} {K:B2K→Option R} {kx:B4J→Option R} (hI:Inv es w.els) (hok:okM es) (ht:txg [t]=true) (hins:(t.nth 1).els.length≤12) (houts:(t.nth 2).els.length≤12) (hlk:∀ o∈(t.nth 2).els,(o.nth 1).els.length≤300) (hmo:(t.nth 2).els.all B9n=true)
  (hb:X6 t=b) (hl:es.length+12≤200) (hds:ds.length≤1000) (hh:0≤B2 (h+a)∧B2 (h+a)≤1000000000) :
  B4K b x h es w g ds ek a t (idB t) y n i K kx=K (.m x h (A2O (idB t) (B2 (h+a)) b (t.nth 2).els 0 (Y6 b (t.nth 1).els es []).1) (A37 w t (B2 (h+a))).1 g (ds++[spV (Y6 b (t.nth 1).els es []).2]) ek y n (B2 (i+1))):=by
 have hq:=V2
 obtain ⟨sp,a1,a2,a3,a4,a5⟩:=A3i (b:=b) (t.nth 1).els es [] hI.kn
 have hwl:=hI.len
 obtain ⟨s1,s2⟩:=A9C (b:=b) (t.nth 1).els (w:=w) [] hI
 have s3:=A9D (d:=idB t) (B68 _) (h:=B2 (h+a)) (b:=b) (t.nth 2).els 0 s1
 have hA1:(A37 w t (B2 (h+a))).1=B0S (idB t) (B2 (h+a)) b (t.nth 2).els 0 (A2M b (t.nth 1).els w []).1:=by unfold A37;rw [hb]
 have hA2:(A37 w t (B2 (h+a))).2=(Y6 b (t.nth 1).els es []).2:=by unfold A37;rw [hb];exact s2
 rw [← hA1] at s3
 have hokA:=B69 (d:=idB t) hok a4 hlk hmo hh
 have hlenA:=A6W (d:=idB t) (h:=B2 (h+a)) (b:=b) (t.nth 2).els 0 (Y6 b (t.nth 1).els es []).1
 have ha4:=a4.length_le
 have hsl:(Y6 b (t.nth 1).els es []).2.length≤12:=by rw [a1];simp;omega
 unfold B4K
 rw [D8 (by omega)]
 refine C80 (es0:=(Y6 b (t.nth 1).els es []).1) (xs0:=(Y6 b (t.nth 1).els es []).2) (fun n' i'=>?_) (t.nth 1).els [] es [] true (A2 FU) rfl rfl hok rfl (by simp;omega) (by simp;omega) (by omega)
 simp only
 rw [ht,cond_true,D8 (by omega)]
 refine (D5f (d:=idB t) (l:=t.nth 2) (h:=B2 (h+a)) (b:=b) _ (t.nth 2).els [] _ (A2 FU) rfl (fun o ho=>by have:=hlk o ho;omega) (by simp;omega) (by omega)).trans ?_
 simp only [List.length_nil]
 rw [hA2]
 generalize hes4:A2O (idB t) (B2 (h+a)) b (t.nth 2).els 0 (Y6 b (t.nth 1).els es []).1=es4 at s3 hokA hlenA
 generalize hxs:(Y6 b (t.nth 1).els es []).2=xs at hsl
 rw [E0B (by omega:(t.nth 1).els.length≤1000),E0B (by omega:w.els.length≤5000)]
 simp only [Bool.and_self,cond_true]
 rw [D4 (by omega),show (bif xs.isEmpty then V.n else V.l xs)=spV xs from rfl]
 have hp:pqg [spV xs,.l xs]=true:=by
  show (Nat.ble (spV xs).els.length 10000&&Nat.ble xs.length 10000)=true
  rw [A38,E0B (by omega)];rfl
 rw [hp,cond_true,B2O (A38 xs),cond_true,A6p s3 hokA (by omega),D8 (by omega)]
 refine C8Z hokA (fun _ _=>rfl) (t.nth 2).els.length 0 _ (A2 FU) (by omega) (by omega) (fun k _ hk=>?_) (by omega)
 rw [← hes4]
 exact C1H (t.nth 2).els 0 _ k (.inl ⟨Nat.zero_le _,by omega⟩)
theorem C1L {b:Bool} {t w:V} {H:Int} {es:Em} (hI:Inv es w.els) (hok:okM es) (ht:txg [t]=true) (hins:(t.nth 1).els.length≤12) (houts:(t.nth 2).els.length≤12) (hl:es.length+12≤200)
  (hfree:∀ j:Nat,j < (t.nth 2).els.length→P0 (L0 (idB t) (j:Nat)) es=false):D3m t (spV (Y6 b (t.nth 1).els es []).2) es (A2O (idB t) H b (t.nth 2).els 0 (Y6 b (t.nth 1).els es []).1):=by
 obtain ⟨sp,a1,a2,a3,a4,a5⟩:=A3i (b:=b) (t.nth 1).els es [] hI.kn
 have ha4:=a4.length_le
 have hlenA:=A6W (d:=idB t) (h:=H) (b:=b) (t.nth 2).els 0 (Y6 b (t.nth 1).els es []).1
 rw [List.nil_append] at a1
 refine ⟨ht,houts,by rw [A38,a1];omega,fun q hq=>?_,hok,by omega,by omega,fun X hX=>?_⟩
 ·rw [A38,a1] at hq
  have hm:pr q∈es:=a2.mem_iff.2 (List.mem_append_right _ (List.mem_map.2 ⟨q,hq,rfl⟩))
  obtain ⟨g1,g2⟩:=B66 hI.kn hm
  obtain ⟨z,hz,hzq⟩:=hI.has.1 g1
  obtain ⟨_,_,_,_,h5⟩:=hok _ hm
  exact ⟨⟨by have:=hI.hk z hz;rw [hzq] at this;exact this,a3 q hq⟩,h5⟩
 ·rw [A38]
  exact B9m hI.kn hfree hX
def raB (x:V) (h:Int) (es:Em) (w g:V) (ds:List V) (ek:Em) (a:Int) (t d y:V) (n i:Int) (K:B2K→Option R) (kx:B4J→Option R):Option R :=
 bif Nat.ble (t.nth 1).els.length 1000 then (bif X6 t then B4K true x h es w g ds ek a t d y n i K kx else B4K false x h es w g ds ek a t d y n i K kx) else none
def raF (x:V) (h:Int) (es:Em) (w g:V) (ds:List V) (ek:Em) (a:Int) (t y:V) (n i:Int) (K:B2K→Option R) (kx:B4J→Option R):Option R :=
 bif txg [t] then (ln (t.nth 2).els.length <| B7 (B2J R) (A2 FU) (.m x h es w g ds ek a t (A1n (A0c (M1 (.l (txL t))))) y n i ((t.nth 2).els.length:Nat) 0) fun q=>match q with
  | .o x2 h2 es2 w2 g2 ds2 ek2 a2 t2 d2 y2 n2 i2 m2 j2=>raB x2 h2 es2 w2 g2 ds2 ek2 a2 t2 d2 y2 n2 i2 K kx
  | .r x2 h2 es2 w2 g2 ds2 ek2 a2 t2 d2 y2 n2 i2 m2 j2=>kx (.r x2 h2 es2 w2 g2 ds2 ek2 y2 n2 i2)) else none
theorem D45 {x g y:V} {h:Int} {g0 ek:Em} {ko:Option R} {kx:B4J→Option R} (hgt:∀ t∈y.els,gtg [t]=true) (hh:0≤h∧h≤1000)
  (h1:∀ es w ds n i,B2P g0 y.els ds es→Inv es w.els→kx (.o x h es w g ds ek y n i)=ko) (h2:∀ es w ds n i,kx (.r x h es w g ds ek y n i)=ko) :
  ∀ (r a:List V) (es:Em) (w:V) (ds:List V) (fuel:Nat),y.els=a++r→a.length+r.length≤12→B2P g0 a ds es→Inv es w.els→okM es→es.length≤31+12 * a.length→r.length < fuel →
  B7 (A9c R) fuel (.m x h es w g ds ek y (y.els.length:Nat) (a.length:Nat)) kx=ko:=by
 intro r
 induction r with
 | nil =>
  intro a es w ds fuel he ha hH hI hok hl hf
  obtain ⟨q,rfl⟩:∃ q,fuel=q+1:=⟨fuel - 1,by omega⟩
  rw [List.append_nil] at he
  rw [B7,A9c,A1N he,cond_false]
  exact h1 _ _ _ _ _ (by rw [he];exact hH) hI
 | cons t r ih =>
  intro a es w ds fuel he ha hH hI hok hl hf
  obtain ⟨q,rfl⟩:∃ q,fuel=q+1:=⟨fuel - 1,by simp at hf;omega⟩
  simp only [E0z] at ha hf
  have hq:=V2
  have hle:y.els.length=a.length+(r.length+1):=by rw [he];simp
  have hat:y.nth ((a.length:Nat):Int).toNat=t:=L5 he
  have ih:=fun es w ds=>ih (a++[t]) es w ds q (by rw [he];simp)
  simp only [E0t,E0A] at ih
  have htm:t∈y.els:=by rw [he];simp
  rw [B7,A9c,A1M he,cond_true,E2 (by omega) (by omega),hat,hgt t htm,cond_true]
  cases hgr:A3T t with
  | true=>rw [cond_true];exact h2 _ _ _ _ _
  | false =>
  obtain ⟨⟨g1,g2⟩,g3,g4⟩:=C81 hgr
  have htx:=D44 g1 g2 g3 g4
  rw [cond_false,D8 (by omega)]
  refine (C8X (ko:=raF x h es w g ds ek (a.length:Nat) t y (y.els.length:Nat) (a.length:Nat) (fun x'=>B7 (A9c R) q x' kx) kx) (kr:=ko) (fun _ _=>rfl) (fun _ _=>h2 _ _ _ _ _) (t.nth 2).els [] (A2 FU) rfl (by simp;omega) (by omega)).trans ?_
  cases hmo:(t.nth 2).els.all B9n with
  | false=>rfl
  | true =>
  rw [cond_true]
  unfold raF
  rw [htx,cond_true,D8 (by omega)]
  have hwl:=hI.len
  rcases C8Y (x:=x) (g:=g) (y:=y) (t:=t) (h:=h) (a:=(a.length:Nat)) (n:=(y.els.length:Nat)) (i:=(a.length:Nat)) (ek:=ek) (ds:=ds) (d:=A1n (A0c (M1 (.l (txL t)))))
   (ko:=raB x h es w g ds ek (a.length:Nat) t (A1n (A0c (M1 (.l (txL t))))) y (y.els.length:Nat) (a.length:Nat) (fun x'=>B7 (A9c R) q x' kx) kx) (kr:=ko)
   (kx:=fun q'=>match q' with
    | .o x2 h2 es2 w2 g2 ds2 ek2 a2 t2 d2 y2 n2 i2 m2 j2=>raB x2 h2 es2 w2 g2 ds2 ek2 a2 t2 d2 y2 n2 i2 (fun x'=>B7 (A9c R) q x' kx) kx
    | .r x2 h2 es2 w2 g2 ds2 ek2 a2 t2 d2 y2 n2 i2 m2 j2=>kx (.r x2 h2 es2 w2 g2 ds2 ek2 y2 n2 i2)) hI (by omega) (fun _ _=>rfl) (fun _ _=>h2 _ _ _ _ _) (t.nth 2).els.length 0 (t.nth 2).els.length (A2 FU) (by omega) (by omega) (by omega) with ⟨hfree,hrun⟩ | hrun
  ·refine hrun.trans ?_
   have hW:B2 (h+(a.length:Nat))=h+(a.length:Nat):=G4 (by omega) (by omega)
   have hb:∀ b,X6 t=b→B4K b x h es w g ds ek (a.length:Nat) t (A1n (A0c (M1 (.l (txL t))))) y (y.els.length:Nat) (a.length:Nat) (fun x'=>B7 (A9c R) q x' kx) kx=ko:=fun b hb=>by
    refine (C1K hI hok htx g1 g2 g4 hmo hb (by omega) (by have:=hH.len;omega) (by rw [hW];omega)).trans ?_
    have hS:=C1L (b:=b) (H:=B2 (h+(a.length:Nat))) hI hok htx g1 g2 (by omega) (fun j hj=>hfree j (Nat.zero_le _) hj)
    obtain ⟨sp,a1,a2,a3,a4,a5⟩:=A3i (b:=b) (t.nth 1).els es [] hI.kn
    have ha4:=a4.length_le
    have hlenA:=A6W (d:=idB t) (h:=B2 (h+(a.length:Nat))) (b:=b) (t.nth 2).els 0 (Y6 b (t.nth 1).els es []).1
    rw [H7 (by omega)]
    refine ih _ _ _ (by omega) (.snoc hH hS) ?_ (B69 hok a4 g4 hmo (by rw [hW];omega)) (by omega) (by omega)
    unfold A37
    rw [hb]
    exact A9D (B68 _) (t.nth 2).els 0 (A9C (t.nth 1).els [] hI).1
   unfold raB
   rw [E0B (by omega:(t.nth 1).els.length≤1000),cond_true]
   cases hbb:X6 t with
   | true=>exact hb true hbb
   | false=>exact hb false hbb
  ·exact hrun
theorem D46 {x g:V} {ek g0:Em} {dsA:List V} {ko:Option R} {kx:D41→Option R} (h1:∀ es w i,es.Perm g0→Inv es w.els→kx (.o x es w g dsA ek i)=ko):∀ {ts ds:List V} {es:Em},B2P g0 ts ds es→∀ (rest rest':List V) (X:Em) (w:V) (fuel:Nat),x.els=ts++rest→dsA=ds++rest'→X.Perm es→Inv X w.els→ts.length≤100→ts.length < fuel →
  B7 (B9j R) fuel (.m x X w g dsA ek (B2 ((ts.length:Nat) - 1))) kx=ko:=by
 intro ts ds es hH
 induction hH with
 | nil =>
  intro rest rest' X w fuel he hd hp hI ht hf
  obtain ⟨q,rfl⟩:∃ q,fuel=q+1:=⟨fuel - 1,by omega⟩
  have:B2 ((([]:List V).length:Nat) - 1) = -1:=by decide
  rw [this,B7,B9j,show F2 0 (-1)=false from rfl,cond_false]
  exact h1 _ _ _ hp hI
 | @snoc ts ds es es' t s hH hS ih =>
  intro rest rest' X w fuel he hd hp hI ht hf
  obtain ⟨q,rfl⟩:∃ q,fuel=q+1:=⟨fuel - 1,by omega⟩
  have hq:=V2
  have hlen:=hH.len
  simp only [E0t,E0A] at ht hf
  have e1:B2 ((((ts++[t]).length:Nat):Int) - 1)=((ts.length:Nat):Int):=by
   rw [E0t,E0A,G4 (by omega) (by omega)];omega
  have hxl:x.els.length=ts.length+1+rest.length:=by rw [he];simp;omega
  have hdl:dsA.length=ds.length+1+rest'.length:=by rw [hd];simp;omega
  have hat:x.nth ((ts.length:Nat):Int).toNat=t:=L5 (r:=rest) (by rw [he];simp)
  have hdt:dsA.getD ((ts.length:Nat):Int).toNat .n=s:=by rw [hd,Int.toNat_natCast,← hlen];simp
  have hwl:=hI.len
  have hXl:=hp.length_eq
  have hdg:dug [w,t,s]=true:=by
   show (txg [t]&&(Nat.ble w.els.length 5000&&Nat.ble s.els.length 5000))=true
   rw [hS.tg,E0B (by have:=hS.ln';omega),E0B (by have:=hS.sl;omega)];rfl
  have hperm:=hS.un X hp
  have hI':Inv (A2N s.els (A6g (idB t) (t.nth 2).els.length 0 X)) (C1B w t s).els:=A9E s.els (fun y hy=>(hS.sk y hy).1) (B9k (t.nth 2).els.length 0 hI)
  rw [e1,B7,B9j,C5.2 (by omega),cond_true,E2 (by omega) (by omega),E2 (by omega) (by omega),hat,hdt,hdg,cond_true,E2 (by omega) (by omega),E2 (by omega) (by omega)]
  rw [C1J hS.tg (by have:=hS.ol;omega) (by have:=hS.sl;omega) (fun y hy=>by have:=(hS.sk y hy).2;omega),A6p hI' (B2Q hperm hS.ok) (by rw [hperm.length_eq];exact hS.ln)]
  exact ih (t::rest) (s::rest') _ _ q (by rw [he];simp) (by rw [hd];simp) hperm hI' (by omega) (by omega)
theorem C82 {l x:V} {h:Int} (hl:(D.slice R7).has l) (hx:(D.slice DTx).has x) (hm:D.smL [.slice R7,.slice DTx,.int .i64] [l,x,.i h]):D43 l x h=some ():=by
 have hq:=V2
 obtain ⟨m1,m2,_⟩:=hm
 have hgt:∀ t∈x.els,gtg [t]=true:=fun t ht=>(D74 (h:=.i 0) hl (X0 hx t ht) ⟨m1,m2.2 t ht,trivial,trivial⟩).2
 have hrg:rgg [l]=true:=by
  show (Nat.ble l.els.length 9223372036854775807&&l.els.all fun x=>Nat.ble (M7 (x.nth 1)).els.length 9223372036854775807)=true
  simp only [E0s,Nat.ble_eq,List.all_eq_true]
  refine ⟨m1.1,fun x hx=>?_⟩
  have hs:=m1.2 x hx
  obtain ⟨r0,c,rfl,_,hc⟩:=A6L (X0 hl x hx)
  obtain ⟨v,kk,hh,q,rfl,_⟩:=A6q hc
  exact hs.2.1.1.2.1.1
 have hxl:x.els.length≤9223372036854775807:=m2.1
 unfold D43
 rw [hrg,cond_true]
 cases hr:A2i l.els 0 0 with
 | false=>rfl
 | true =>
 rw [cond_true,D8 hxl]
 cases hlt:C3 12 (x.els.length:Nat) with
 | true=>rfl
 | false =>
 cases hh0:C3 h 0 with
 | true=>rfl
 | false =>
 cases hh1:C3 1000 h with
 | true=>rfl
 | false =>
 rw [A1o,decide_eq_false_iff_not] at hlt hh0 hh1
 obtain ⟨r1,r2⟩:=B2R _ _ _ hr
 have r2:=r2 (by omega)
 simp only [cond_false]
 rw [D8 (by omega)]
 refine (D5d _ l.els [] [] (A2 FU) rfl (fun z hz=>by have:=(A4c (r1 z hz)).2.2.2.2;omega) (by simp only [List.length_nil];omega) (by omega)).trans ?_
 obtain ⟨f1,f2,f3⟩:=B9t l.els [] List.nodup_nil
 simp only [List.length_nil] at f2
 have hok:okM (A2N l.els []):=fun p hp=>by
  rcases f3 p hp with hp | ⟨z,hz,rfl⟩
  ·cases hp
  ·exact A4c (r1 z hz)
 have hI:Inv (A2N l.els []) (B4I l.els (.l (List.replicate 0 zSp))).els:=A9E l.els (fun s hs=>by
  obtain ⟨r0,c,rfl,hr0,hc⟩:=A6L (X0 hl s hs)
  exact ⟨hr0,rfl⟩) .nil
 simp only
 rw [D8 (by omega)]
 refine (C8W _ l.els [] _ (A2 FU) rfl (by simp only [List.length_nil];omega) (by show (List.replicate 0 zSp).length+_≤_;simp;omega) (by omega)).trans ?_
 simp only
 rw [D8 (by omega)]
 generalize A2N l.els []=g0 at hI hok f1 f2
 generalize B4I l.els (.l (List.replicate 0 zSp))=w0 at hI
 refine D45 (g0:=g0) hgt ⟨by omega,by omega⟩ (fun es w ds n i hH hI'=>?_) (fun _ _ _ _ _=>rfl) x.els [] g0 w0 _ (A2 FU) rfl (by simp;omega) .nil hI hok (by simp;omega) (by omega)
 simp only
 rw [D8 (by omega)]
 refine D46 (fun es' w' i' hp' hI''=>?_) hH [] [] es w (A2 FU) (by simp) (by simp) (.refl _) hI' (by omega) (by omega)
 simp only
 have hww:w'.els=w0.els:=hI''.uniq hI hp'
 rw [hww] at hI''
 rw [A6p hI'' (B2Q hp' hok) (by rw [hp'.length_eq];omega),A6p hI hok (by omega)]
end Go.Vm
end