/- What the operations of a program do, shown once for all programs; and numbers. -/
import Derived.Test.YtffgbjbmojdeeaaGreatDoorVm1
set_option linter.constructorNameAsVariable false
set_option linter.unusedVariables false
set_option linter.unusedSimpArgs false
set_option linter.unnecessarySimpa false
noncomputable section
namespace Go.Vm
open Go.RowKit
variable {P:Program} {T:TT} {c:F1} {e:A8} {of:Nat→Option Ob}
theorem S3 {id t:Nat} {path:List Nat} {lo m:Nat} {x:Value} (h:B3 T e (.a id t path lo m) x):∃ b off n el k cap,e.U id∧e.bn id=0∧e.ι id=some (b,0)∧Pth T (e.ty id) path t off∧B2 T t=some (.arr n el)∧lo+m≤n∧m≤cap∧(0 < cap→k=off+lo * B1 T el)∧x=.slice (some ⟨b,k,none⟩) m cap:=by
 have h:RA T e [.a id t path lo m] [x]:=h
 cases h with
 | r h1 _ _=>exact h1
theorem A2E {t n el lo m:Nat} {x:V} {d:List Value} (h:RV T e [t] [x] d) (hk:B2 T t=some (.arr n el)) (hm:lo+m≤n) :
  ∃ as0 bs zs,d=as0++(bs++zs)∧as0.length=lo * B1 T el∧bs.length=m * B1 T el∧RV T e (List.replicate m el) ((x.els.drop lo).take m) bs:=by
 obtain ⟨ys,rfl,hl,hy⟩:=h.arr_inv hk
 subst hl
 obtain ⟨as0,bs,zs,h1,h2,h3,h4,_⟩:=G4 hy hm
 exact ⟨as0,bs,zs,h1,h2,h3,h4⟩
theorem B0W (h:A5 T c e of) {id t:Nat} {a:A} {sh:Bool} (ho:of id=some (.box t a sh)) :
  ∃ e':A8,e'.w=e.w∧A5 T c e' (D3 of id (some (.box t a true)))∧e.le e'∧(∀ j,e'.U j→e.U j) ∧
   (∀ t' t1 path n el lo m x y,atA T a path=some (.v t1 y)→B2 T t1=some (.arr n el)→B2 T t'=some (.slice el)→B1 T t'=1→B3 T e (.a id t1 path lo m) x→RV T e' [t'] [.l ((y.els.drop lo).take m)] [x]) ∧
   (∀ t1 path x y,atA T a path=some (.v t1 y)→B3 T e (.p id t1 path) x→B3 T e' (.c t1 y) x):=by
 obtain ⟨u1,u2,u3,u4,b,cs,ty,fz,g1,g2,g3,g4,g5,g6⟩:=Q8 h ho
 have hok:OK T (e.share b 0 cs.size) id (.box t a true):=⟨u1,u2,u3,u4,b,cs,ty,fz,g1,g2,g3,g4,g5.mono (G7 _ _ _ _),(fun hh=>by cases hh),g6.2⟩
 have hlen:cs.toList.length=cs.size:=C3u ..
 refine ⟨e.share b 0 cs.size,rfl,A0V h ho g1 hok,G7 _ _ _ _,fun _ hu=>hu,fun t' t1 path n el lo m x y hat hk hk' hz hx=>?_,fun t1 path x y hat hx=>?_⟩
 ·obtain ⟨b',off,n',el',k,cap,_,_,k1,k2,k3,k4,k5,k6,rfl⟩:=S3 hx
  rw [g1] at k1;cases k1
  rw [hk] at k3;cases k3
  rw [u3] at k2
  obtain ⟨pre,d,post,q1,q2,q3,q4,q5⟩:=R6 path g5 u4 k2 hat
  obtain ⟨as0,bs,zs,rfl,r1,r2,r3⟩:=A2E q4.v_inv hk k4
  have hl:((y.els.drop lo).take m).length=m:=by rw [r3.length.2];simp
  refine .slice hk' hz hl k5 ⟨fun _=>rfl,fun j z hj=>?_⟩ (r3.mono (G7 _ _ _ _)) .nil
  have hjl:=(List.getElem?_eq_some_iff.1 hj).1
  have hn0:0 < m:=by
   rcases Nat.eq_zero_or_pos m with h0 | h0
   ·subst h0;simp at r2;rw [r2] at hjl;simp at hjl
   ·exact h0
  have hkk:=k6 (by omega)
  have hcell:cs.toList[k+j]? = some z:=by
   rw [q1,hkk]
   have e1:pre++((as0++(bs++zs))++post)=(pre++as0)++(bs++(zs++post)):=by simp
   rw [e1,show off+lo * B1 T el+j=(pre++as0).length+j by simp only [C3p];omega]
   exact J7 hj
  refine ⟨?_,.inr ⟨rfl,Nat.zero_le _,?_⟩⟩
  ·show e.w.cell? _=_
   rw [C2,D6 g2,hcell]
  ·have:=(List.getElem?_eq_some_iff.1 hcell).1
   rwa [C3u] at this
 ·obtain ⟨b',off,_,_,k1,k2,rfl⟩:=F6 hx
  rw [g1] at k1;cases k1
  rw [u3] at k2
  obtain ⟨pre,d,post,q1,q2,q3,q4,q5⟩:=R6 path g5 u4 k2 hat
  refine RA.c (q4.v_inv.mono (G7 _ _ _ _)) ⟨fun _=>rfl,fun j z hj=>?_⟩ .nil
  have hcell:cs.toList[off+j]? = some z:=by rw [q1,← q2];exact J7 hj
  refine ⟨?_,.inr ⟨rfl,Nat.zero_le _,?_⟩⟩
  ·show e.w.cell? _=_
   rw [C2,D6 g2,hcell]
  ·have:=(List.getElem?_eq_some_iff.1 hcell).1
   rwa [C3u] at this
theorem F8:∀ (l m:List (Nat×Ob)) (f:Nat→Option Ob),put f (l++m)=put (put f l) m:=by
 intro l
 induction l with
 | nil=>intro m f;rfl
 | cons q r ih=>intro m f;obtain ⟨k,o⟩:=q;exact ih _ _
def X2 (T:TT) (of:Nat→Option Ob) (t:Nat):A→Option (V×Nat×Ob)
 | .o id ver=>match B2 T t,of id with
  | some (.slice el),some (.row el' v xs nl _)=>if Nat.beq el el'&&Nat.beq v ver&&Nat.beq (B1 T t) 1 then some (bif nl then .n else .l xs,id,.row el' v xs nl true) else none
  | _,_=>none
 | .w id ver off n=>match B2 T t,of id with
  | some (.slice el),some (.row el' v xs nl _)=>if Nat.beq el el'&&Nat.beq v ver&&Nat.beq (B1 T t) 1&&Nat.ble (off+n) xs.length then some (.l ((xs.drop off).take n),id,.row el' v xs nl true) else none
  | _,_=>none
 | .a id t1 path lo m=>match B2 T t,B2 T t1,of id with
  | some (.slice el),some (.arr _ el'),some (.box t0 a _)=>match atA T a path with
   | some (.v t2 y)=>if Nat.beq el el'&&Nat.beq t1 t2&&Nat.beq (B1 T t) 1 then some (.l ((y.els.drop lo).take m),id,.box t0 a true) else none
   | _=>none
  | _,_,_=>none
 | _=>none
theorem B0X {t:Nat} {a:A} {x:V} {id:Nat} {o:Ob} {v:Value} (h:A5 T c e of) (hs:X2 T of t a=some (x,id,o)) (hr:B3 T e a v) :
  ∃ e':A8,e'.w=e.w∧A5 T c e' (D3 of id (some o))∧e.le e'∧(∀ j,e'.U j→e.U j)∧RV T e' [t] [x] [v]:=by
 cases a with
 | o id' ver =>
  simp only [X2] at hs
  split at hs<;>try (cases hs;done)
  rename_i el el' v' xs nl sh hk hof
  split at hs<;>try (cases hs;done)
  rename_i hc
  simp only [C3o] at hc
  obtain ⟨⟨c1,c2⟩,c3⟩:=hc
  injection hs with hs;injection hs with hs1 hs2;injection hs2 with hs2 hs3
  subst hs1;subst hs2;subst hs3
  have:=C3n c1;subst this
  have:=C3n c2;subst this
  obtain ⟨e',p1,p2,p3,p4,p5,_⟩:=A5Z h hof
  exact ⟨e',p1,p2,p3,p4,p5 t v hk (C3n c3) hr⟩
 | w id' ver off n =>
  simp only [X2] at hs
  split at hs<;>try (cases hs;done)
  rename_i el el' v' xs nl sh hk hof
  split at hs<;>try (cases hs;done)
  rename_i hc
  simp only [C3o] at hc
  obtain ⟨⟨⟨c1,c2⟩,c3⟩,c4⟩:=hc
  injection hs with hs;injection hs with hs1 hs2;injection hs2 with hs2 hs3
  subst hs1;subst hs2;subst hs3
  have:=C3n c1;subst this
  have:=C3n c2;subst this
  obtain ⟨e',p1,p2,p3,p4,_,p5⟩:=A5Z h hof
  exact ⟨e',p1,p2,p3,p4,p5 t off n v hk (C3n c3) (C3t c4) hr⟩
 | a id' t1 path lo m =>
  simp only [X2] at hs
  split at hs<;>try (cases hs;done)
  rename_i el n el' t0 a sh hk hk1 hof
  split at hs<;>try (cases hs;done)
  rename_i t2 y hat
  split at hs<;>try (cases hs;done)
  rename_i hc
  simp only [C3o] at hc
  obtain ⟨⟨c1,c2⟩,c3⟩:=hc
  injection hs with hs;injection hs with hs1 hs2;injection hs2 with hs2 hs3
  subst hs1;subst hs2;subst hs3
  have:=C3n c1;subst this
  have:=C3n c2;subst this
  obtain ⟨e',p1,p2,p3,p4,p5,_⟩:=B0W h hof
  exact ⟨e',p1,p2,p3,p4,p5 t t1 path n el lo m v y hat hk1 hk (C3n c3) hr⟩
 | _=>simp [X2] at hs
mutual
def J0 (T:TT):Nat→(Nat→Option Ob)→Nat→A→Option (V×List (Nat×Ob))
 | 0,_,_,_=>none
 | d+1,of,t,a=>match a with
  | .o _ _ | .w _ _ _ _ | .a _ _ _ _ _=>match X2 T of t a with
   | some (x,id,o)=>some (x,[(id,o)])
   | none=>none
  | .q t' x=>if same T t t'&&Q7 T t then some (x,[]) else none
  | .f fn []=>match B2 T t with
   | some .func=>if Nat.beq (B1 T t) 1 then some (.f fn,[]) else none
   | _=>none
  | .g t' l=>if same T t t' then match chT T t' with
    | some ts=>match A0m T d of ts l with
     | some (xs,wo)=>some (.l xs,wo)
     | none=>none
    | none=>none
   else none
  | a=>match H7 T t a with
   | some b=>match A2q b with
    | some x=>some (x,[])
    | none=>none
   | none=>none
def A0m (T:TT):Nat→(Nat→Option Ob)→List Nat→List A→Option (List V×List (Nat×Ob))
 | 0,_,_,_=>none
 | d+1,of,ts,as0=>match ts,as0 with
  | [],[]=>some ([],[])
  | t::ts,a::as0=>match J0 T d of t a with
   | some (x,wo)=>match A0m T d (put of wo) ts as0 with
    | some (xs,wo')=>some (x::xs,wo++wo')
    | none=>none
   | none=>none
  | _,_=>none
end
def Shd (T:TT) (c:F1) (e:A8) (of:Nat→Option Ob) (wo:List (Nat×Ob)) (Q:A8→Prop):Prop :=
 ∃ e':A8,e'.w=e.w∧A5 T c e' (put of wo)∧e.le e'∧(∀ j,e'.U j→e.U j)∧Q e'
def B5o:A→Bool
 | .v _ _ | .g _ _ | .t _=>false
 | _=>true
def isC:A→Bool
 | .t _ | .x=>false
 | _=>true
theorem RA.single {a:A} {cs:List Value} (h:RA T e [a] cs) (ha:B5o a=true):∃ v,cs=[v]:=by
 cases h with
 | i _ h=>cases h;exact ⟨_,rfl⟩
 | b h=>cases h;exact ⟨_,rfl⟩
 | s h=>cases h;exact ⟨_,rfl⟩
 | z _ h=>cases h;exact ⟨_,rfl⟩
 | v _ _=>simp [B5o] at ha
 | c _ _ h=>cases h;exact ⟨_,rfl⟩
 | q _ h=>cases h;exact ⟨_,rfl⟩
 | f _ h=>cases h;exact ⟨_,rfl⟩
 | g _ _ _ _ _=>simp [B5o] at ha
 | r _ _ h=>cases h;exact ⟨_,rfl⟩
theorem B2t:∀ (d:Nat),(∀ (e:A8) (of:Nat→Option Ob) (t:Nat) (a:A) (x:V) (wo:List (Nat×Ob)) (cs:List Value),A5 T c e of→J0 T d of t a=some (x,wo)→RA T e [a] cs→Shd T c e of wo fun e'=>RV T e' [t] [x] cs) ∧
  (∀ (e:A8) (of:Nat→Option Ob) (ts:List Nat) (as0:List A) (xs:List V) (wo:List (Nat×Ob)) (cs:List Value),A5 T c e of→A0m T d of ts as0=some (xs,wo)→RA T e as0 cs→Shd T c e of wo fun e'=>RV T e' ts xs cs):=by
 intro d
 induction d with
 | zero=>exact ⟨fun e of t a x wo cs _ h _=>by simp [J0] at h,fun e of ts as0 xs wo cs _ h _=>by simp [A0m] at h⟩
 | succ d ih =>
  obtain ⟨ih1,ih2⟩:=ih
  refine ⟨fun e of t a x wo cs h hv hr=>?_,fun e of ts as0 xs wo cs h hv hr=>?_⟩
  ·have sl:∀ (hrep:∀ v,RA T e [a] [v]→B3 T e a v),B5o a=true→(match X2 T of t a with | some (x,id,o)=>some (x,[(id,o)]) | none=>none)=some (x,wo)→Shd T c e of wo fun e'=>RV T e' [t] [x] cs:=by
    intro hrep ha hv
    obtain ⟨v,rfl⟩:=hr.single ha
    split at hv
    ·rename_i x' id o hs
     injection hv with hv;injection hv with h1 h2
     subst h1;subst h2
     obtain ⟨e',p1,p2,p3,p4,p5⟩:=B0X h hs (hrep v hr)
     exact ⟨e',p1,p2,p3,p4,p5⟩
    ·cases hv
   have pl:(match H7 T t a with | some b=>(match A2q b with | some x=>some (x,([]:List (Nat×Ob))) | none=>none) | none=>none)=some (x,wo)→Shd T c e of wo fun e'=>RV T e' [t] [x] cs:=by
    intro hv
    split at hv
    ·rename_i b hb
     split at hv
     ·rename_i x' hx'
      injection hv with hv;injection hv with h1 h2
      subst h1;subst h2
      obtain ⟨r1,r2⟩:=A2X hr hb
      exact ⟨e,rfl,h,A8.le.refl e,fun _ hu=>hu,A3H r1 r2 hx'⟩
     ·cases hv
    ·cases hv
   cases a with
   | o id ver=>exact sl (fun v h=>h) rfl (by simpa only [J0] using hv)
   | w id ver off n=>exact sl (fun v h=>h) rfl (by simpa only [J0] using hv)
   | a id t1 path lo m=>exact sl (fun v h=>h) rfl (by simpa only [J0] using hv)
   | f fn cap =>
    cases cap with
    | cons _ _=>exact pl (by simpa only [J0] using hv)
    | nil =>
     simp only [J0] at hv
     split at hv<;>try (cases hv;done)
     rename_i hk
     split at hv<;>try (cases hv;done)
     rename_i hz
     injection hv with hv;injection hv with h1 h2
     subst h1;subst h2
     refine ⟨e,rfl,h,A8.le.refl e,fun _ hu=>hu,?_⟩
     cases hr with
     | f g1 g2=>cases g1;cases g2;exact .fn hk (C3n hz) .nil
     | r g1 _ _=>exact g1.elim
   | q t' y =>
    simp only [J0] at hv
    split at hv
    ·rename_i hs
     injection hv with hv;injection hv with h1 h2
     subst h1;subst h2
     simp only [C3o] at hs
     obtain ⟨p,q⟩:=A9 hs.1
     refine ⟨e,rfl,h,A8.le.refl e,fun _ hu=>hu,?_⟩
     cases hr with
     | q g1 g2=>cases g2;exact g1.cast p q
     | r g1 _ _=>exact g1.elim
    ·cases hv
   | g t' l =>
    simp only [J0] at hv
    split at hv
    ·rename_i hs
     obtain ⟨p,q⟩:=A9 hs
     split at hv
     ·rename_i ts hts
      split at hv
      ·rename_i xs wo' hxs
       injection hv with hv;injection hv with h1 h2
       subst h1;subst h2
       cases hr with
       | g g1 g2 g3 g4 g5 =>
        cases g5
        rw [hts] at g1;cases g1
        obtain ⟨e',p1,p2,p3,p4,p5⟩:=ih2 e of _ _ _ _ _ h hxs g4
        rw [List.append_nil]
        exact ⟨e',p1,p2,p3,p4,p5.whole ((Z6 p).trans hts) (q.trans g3)⟩
       | r g1 _ _=>exact g1.elim
      ·cases hv
     ·cases hv
    ·cases hv
   | i k n=>exact pl (by simpa only [J0] using hv)
   | b y=>exact pl (by simpa only [J0] using hv)
   | s y=>exact pl (by simpa only [J0] using hv)
   | z y=>exact pl (by simpa only [J0] using hv)
   | v t' y=>exact pl (by simpa only [J0] using hv)
   | p _ _ _=>exact pl (by simpa only [J0] using hv)
   | e _ _ _ _ _=>exact pl (by simpa only [J0] using hv)
   | c _ _=>exact pl (by simpa only [J0] using hv)
   | m _=>exact pl (by simpa only [J0] using hv)
   | y _=>exact pl (by simpa only [J0] using hv)
   | t _=>exact pl (by simpa only [J0] using hv)
   | x=>exact pl (by simpa only [J0] using hv)
  ·cases ts with
   | nil =>
    cases as0 with
    | nil =>
     simp only [A0m,C3q,Prod.mk.injEq] at hv
     obtain ⟨rfl,rfl⟩:=hv
     cases hr
     exact ⟨e,rfl,h,A8.le.refl e,fun _ hu=>hu,.nil⟩
    | cons a as0=>simp [A0m] at hv
   | cons t ts =>
    cases as0 with
    | nil=>simp [A0m] at hv
    | cons a as0 =>
     simp only [A0m] at hv
     split at hv<;>try (cases hv;done)
     rename_i x1 w1 h1
     split at hv<;>try (cases hv;done)
     rename_i xs2 w2 h2
     injection hv with hv;injection hv with hv1 hv2
     subst hv1;subst hv2
     obtain ⟨d1,r,rfl,k1,k2⟩:=hr.uncons
     obtain ⟨e1,p1,p2,p3,p4,p5⟩:=ih1 e of _ _ _ _ _ h h1 k1
     obtain ⟨e2,q1,q2,q3,q4,q5⟩:=ih2 e1 _ _ _ _ _ _ p2 h2 (k2.mono p3)
     exact ⟨e2,q1.trans p1,by rw [F8];exact q2,p3.trans q3,fun j hj=>p4 j (q4 j hj),(p5.mono q3).append q5⟩
theorem B0Y {a:A} {x:Value} (h:B3 T e a x) (ha:isC a=true):RA T e [a] x.cells.toList:=by
 cases a<;>first | (simp [isC] at ha;done) | exact (RA.v1 h.1) | exact h.1 | (rw [E6 (RA.one_ (T:=T) (e:=e) h x (by simp))];exact h)
theorem Y8 {d:Nat} {t:Nat} {a:A} {x:V} {wo:List (Nat×Ob)} {v:Value} (h:A5 T c e of) (hv:J0 T d of t a=some (x,wo)) (hr:B3 T e a v):Shd T c e of wo fun e'=>RV T e' [t] [x] v.cells.toList:=by
 refine (B2t d).1 e of t a x wo _ h hv (B0Y hr ?_)
 cases a<;>first | rfl | skip
 all_goals (cases d<;>simp [J0,H7] at hv)
variable {P:Program} {T:TT} {c:F1} {e:A8} {of:Nat→Option Ob}
structure Src (P:Program) (w:World) (xt:TypeId) (y:Value) (z m:Nat) (us:List Value):Prop where
 ty:(∃ e,P.underlying xt=some (.slice e))∨P.underlying xt=some .string
 len:∀ w',(Builtin.lenOf y).run P w'=.ok m w'
 first:∀ w':World,w'.heap=w.heap→(Builtin.firstCells z m y).run P w'=.ok us.toArray w'
 size:us.length=m * z
theorem A0n {t xt ty el:TypeId} {te:TE} {w:World} (ht:P.underlying t=some (.slice el)) (hel:A0A P T el te) {A:Option Addr} {n cap m:Nat} {y:Value} {us:List Value} (hs:Src P w xt y te.size m us)
  (hroom:n+m≤cap) {w':World} (hst:∀ a,A=some a→(storeCells (a.add (n * te.size)) us).run P w=.ok () w') (hno:A=none→w'=w) :
  (Builtin.append_ #[t,xt] ty #[.slice A n cap,y]).run P w=.ok (.slice A (n+m) cap) w':=by
 have hf:=hs.first w rfl
 rcases hs.ty with ⟨e,hd⟩ | hd<;>cases A with
 | none =>
  rw [hno rfl]
  simp [Builtin.append_,A2 ht,A2 hd,C7 hel,hs.len,hf,hroom]
 | some a =>
  have:=hst a rfl
  simp [Builtin.append_,A2 ht,A2 hd,C7 hel,hs.len,hf,hroom,this]
theorem A7c {el:Nat} {te:TE} (hel:A0A P T el te) (ht:T el=some te):∃ i z,P.info? el=some i∧i.zero=some z∧i.size=te.size∧i.bytes=te.bytes∧((∀ e,RV T e [el] [te.zero] z.cells.toList)∨te.k=.other)∧((∀ e:A8,RV T e [el] [te.zero] z.cells.toList)→z.cells.size=te.size):=by
 obtain ⟨i,d,z,h1,h2,h3,h4,h5,h6,h7,h8⟩:=hel.fits
 refine ⟨i,z,h1,h6,h3,h4,h7,fun hz=>?_⟩
 have:=(hz ⟨default,fun _=>none,fun _ _=>False,fun _=>0,fun _=>False,fun _=>0,fun _=>0,fun _ _=>False⟩).one_len
 rw [E4 ht,C3u] at this
 exact this
theorem A0o {t xt ty el:TypeId} {te:TE} {w:World} (ht:P.underlying t=some (.slice el)) (hel:A0A P T el te) {A:Option Addr} {n cap m:Nat} {y:Value} {us os:List Value} (hs:Src P w xt y te.size m us)
  (hold:∀ w':World,w'.heap=w.heap→(Builtin.firstCells te.size n (.slice A n cap)).run P w'=.ok os.toArray w')
  (hroom:cap < n+m) (hbytes:(n+m) * te.bytes≤140737488355328) (h63:n+m≤4611686018427387904) :
  ∃ (z:Value) (cap2:Nat),n+m≤cap2∧((∀ e,RV T e [el] [te.zero] z.cells.toList)∨te.k=.other)∧(Builtin.append_ #[t,xt] ty #[.slice A n cap,y]).run P w=.ok (.slice (some ⟨w.heap.size,0,none⟩) (n+m) cap2)
   (w.drew.alloc (.cells ((os++us).toArray++Builtin.zeroCells z.cells (cap2 - (n+m))) el)):=by
 obtain ⟨i,d,z,h1,h2,h3,h4,h5,h6,h7,h8⟩:=hel.fits
 have hf:=hs.first w.drew rfl
 have hfo:=hold w.drew rfl
 have hn:¬ (n+m≤cap):=by omega
 have h63':¬ (9223372036854775807 < ((n:Int)+(m:Int))):=by omega
 have hfit:=growslice_fits (need:=n+m) (old:=cap) (bytes:=te.bytes) (by omega) hbytes
 have h48':¬ (281474976710656 < Builtin.nextslicecap (n+m) cap * te.bytes):=by omega
 refine ⟨z,grownCap w (n+m) cap el,?_,h7,?_⟩
 ·simp only [grownCap,Question.cut];omega
 ·rcases hs.ty with ⟨e,hd⟩ | hd
  ·simp [Builtin.append_,A2 ht,A2 hd,sizeOf,typeInfo,zeroValue,h1,h3,h4,h6,hs.len,hn,h63',h48',Question.forced,hf,hfo,newRow,grownCap]
   congr 2;apply Array.ext';simp
  ·simp [Builtin.append_,A2 ht,A2 hd,sizeOf,typeInfo,zeroValue,h1,h3,h4,h6,hs.len,hn,h63',h48',Question.forced,hf,hfo,newRow,grownCap]
   congr 2;apply Array.ext';simp
theorem A5.same_heap (h:A5 T c e of) {w':World} (hh:w'.heap=e.w.heap) (hos:w'.os=e.w.os) (ht:w'.tape=e.w.tape) (ho:w'.output=e.w.output) :
  A5 T c { e with w:=w' } of∧e.le { e with w:=w' }:=by
 have hle:e.le { e with w:=w' } :=
  ⟨fun b i hs=>⟨hs,fun x hx=>by rw [← hx];exact C9 (by show w'.heap[b]? = _;rw [hh])⟩,fun _ hu=>hu,fun _ _ _=>⟨rfl,rfl,fun b o _=>C3 (by show w'.heap[b]? = _;rw [hh])⟩,fun _ _ h=>h,fun _ _=>Nat.le_refl _,fun _ _=>rfl,by show _≤w'.heap.size;rw [hh];exact Nat.le_refl _,fun b _=>C3 (by show w'.heap[b]? = _;rw [hh])⟩
 refine ⟨⟨fun id o ho=>(h.ok id o ho).keep hle rfl (fun b _ _=>by show w'.heap[b]? = _;rw [hh]) (fun _ _ _ _ hs=>hs) (fun a o' b _ hG=>⟨hG,by show w'.heap[b]? = _;rw [hh],fun i hs=>hs⟩),h.sep,h.own,fun id b o hu hι=>?_,fun b i hs=>?_,h.s0,h.snew,hos.trans h.os,ht.trans h.tape,ho.trans h.output,?_,fun k hk hm=>?_,h.g.mono (fun _ _ q=>q) rfl (fun _ q=>q) (by show _≤w'.heap.size;rw [hh];exact Nat.le_refl _) (fun j b o hj hb=>.inl ⟨j,o,hj,hb⟩)⟩,hle⟩
 ·show b < w'.heap.size;rw [hh];exact h.lt _ _ _ hu hι
 ·show b < w'.heap.size;rw [hh];exact h.slt _ _ hs
 ·show _≤w'.heap.size;rw [hh];exact h.size
 ·show w'.heap[k]? = _;rw [hh];exact h.block k hk hm
theorem A0u {id ver:Nat} {b o cap:Nat} (hu:e.U id) (hv:e.bn id=ver) (h0:0 < ver) (h1:e.ι id=some (b,o)) (h2:e.ln id≤cap) (h3:o+cap * B1 T (e.ty id)=L3 e.w b) {k:Nat} (hk:0 < cap→k=o):B3 T e (.o id ver) (.slice (some ⟨b,k,none⟩) (e.ln id) cap) :=
 RA.r ⟨rfl,hu,by omega,h0,fun _=>.inr ⟨b,o,cap,k,h1,h2,h3,hk,rfl⟩⟩ rfl .nil
theorem A2F {id ver:Nat} (hu:e.U id) (hv:e.bn id=ver) (h0:0 < ver) (h1:e.ι id=none) (h2:e.ln id=0):B3 T e (.o id ver) (.slice none 0 0) :=
 RA.r ⟨rfl,hu,by omega,h0,fun _=>.inl ⟨h1,h2,rfl⟩⟩ rfl .nil
def A8.turned (e:A8) (w:World) (id ver ln:Nat) (p:Option (Nat×Nat)):A8:={ e with w:=w,ι:=D3 e.ι id p,bn:=D3 e.bn id ver,ln:=D3 e.ln id ln }
theorem Y2 {id ver ln:Nat} {p:Option (Nat×Nat)} {w:World} (hv:e.bn id < ver) (h0:0 < e.bn id) (hS:∀ b i,e.S b i→∀ x,e.w.cell? ⟨b,i,none⟩=some x→w.cell? ⟨b,i,none⟩=some x) (hl:∀ b,b < e.w.heap.size→L3 w b=L3 e.w b) (hlt:∀ j b o,e.U j→e.ι j=some (b,o)→b < e.w.heap.size) (hs:e.w.heap.size≤w.heap.size):e.le (e.turned w id ver ln p):=by
 have ne:∀ j,e.U j→D3 e.bn id ver j=e.bn j→j≠id:=fun j _ hb he=>by subst he;rw [upd_same] at hb;omega
 refine ⟨fun b i hs'=>⟨hs',hS b i hs'⟩,fun _ hj=>hj,fun j hj hb=>?_,fun j hj h0'=>?_,fun j hj=>?_,fun _ _=>rfl,hs,hl⟩
 ·have hne:=ne j hj hb
  exact ⟨A3 _ _ hne,A3 _ _ hne,fun b o hb'=>hl b (hlt _ _ _ hj hb')⟩
 ·have hne:j≠id:=fun he=>by subst he;omega
  show D3 e.bn id ver j=0
  rw [A3 _ _ hne];exact h0'
 ·show _≤D3 e.bn id ver j
  by_cases hne:j=id
  ·subst hne;rw [upd_same];omega
  ·rw [A3 _ _ hne];exact Nat.le_refl _
theorem A16 {t xt ty el:TypeId} {te:TE} (h:A5 T c e of) (hT:F4 T P) (ht:P.underlying t=some (.slice el)) (hel:T el=some te) (hno:te.k≠.other) {id ver off n:Nat} {xs ns:List V} {sh:Bool} {x y:Value} {us:List Value}
  (ho:of id=some (.row el ver xs false sh)) (hn:off+n≤xs.length) (hsh:off+n=xs.length∨sh=false) (hx:B3 T e (.w id ver off n) x) (hs:Src P e.w xt y te.size ns.length us) (hus:RV T e (List.replicate ns.length el) ns us)
  (hbytes:(n+ns.length) * te.bytes≤140737488355328) (h63:n+ns.length≤4611686018427387904) {ro:List Nat} :
  B9 P (do pure (.value (← Builtin.append_ #[t,xt] ty #[x,y]))) e.w (C4 T c e of ⟨.o id (ver+1),[(id,.row el (ver+1) ((xs.drop off).take n++ns) false sh)],ro,[]⟩):=by
 obtain ⟨v0,v1,v2,v3,v4,v5,h6⟩:=G3 h ho
 have hz:B1 T el=te.size:=E4 hel
 rcases h6 with ⟨q,_⟩ | ⟨_,b,o,cs,ty',fz,pre,ys,post,h1,h2,h3,h4,h5,h6,h7,h8⟩
 ·cases q
 obtain ⟨b',o',cap,k,k1,k2,k3,k4,k5,rfl⟩:=N8 hx v2
 rw [h1] at k1;cases k1
 rw [v3] at k4 k5
 obtain ⟨as0,bs,zs,rfl,q1,q2,q3,q4⟩:=G4 h6 hn
 have hl:((xs.drop off).take n).length=n:=by rw [q3.length.2];simp
 have hln:((xs.drop off).take n++ns).length=n+ns.length:=by rw [C3p,hl]
 have hcl:cs.size=o+(off * B1 T el+(n * B1 T el+zs.length))+post.length:=by
  have:=congrArg List.length h4
  simp only [C3u,C3p] at this;omega
 rw [N1 h2,Nat.add_mul] at k4
 have hsize:=hs.size
 have hold:e.bn id < ver+1:=by omega
 have rvnew:∀ e':A8,e.le e'→RV T e' (List.replicate ((xs.drop off).take n++ns).length el) ((xs.drop off).take n++ns) (bs++us):=fun e' hle=>by
  rw [hln,← List.replicate_append_replicate];exact (q3.mono hle).append (hus.mono hle)
 by_cases hroom:n+ns.length≤cap
 ·-- in place
  have hmul:(n+ns.length) * B1 T el≤cap * B1 T el:=Nat.mul_le_mul_right _ hroom
  rw [Nat.add_mul] at hmul
  rw [← hz] at hsize
  have hfit:o+off * B1 T el+n * B1 T el+us.length≤cs.size:=by omega
  obtain ⟨cs',f1,f2⟩:=L7 us h2 (i:=o+off * B1 T el+n * B1 T el) hfit
  have hcs':cs'.toList=(pre++as0)++(bs++us)++(zs++post).drop us.length:=by
   rw [f2,h4]
   have e0:pre++(as0++(bs++zs))++post=(pre++(as0++bs))++(zs++post):=by simp
   have hpl:(pre++(as0++bs)).length=o+off * B1 T el+n * B1 T el:=by simp only [C3p];omega
   rw [e0,← hpl,List.take_left,List.drop_append,List.drop_of_length_le (by omega),Nat.add_sub_cancel_left]
   simp
  have hsz:cs'.size=cs.size:=by
   have:=congrArg List.length hcs'
   simp only [C3u,C3p,List.length_drop] at this
   omega
  have hblen:∀ k,L3 (D0 e.w b (o+off * B1 T el+n * B1 T el) us) k=L3 e.w k:=fun k=>by
   by_cases hk:k=b
   ·subst hk;rw [N1 f1,N1 h2,hsz]
   ·exact C3 (F2 _ _ _ _ hk)
  have hSi:∀ i,e.S b i→i < o+off * B1 T el+n * B1 T el:=fun i hi=>by
   rcases hsh with hsh | hsh
   ·have:i < o+(as0++(bs++zs)).length:=Nat.lt_of_not_le (fun hoi=>h7 i hoi hi)
    have h9:=h6.length.1
    rw [B4] at h9
    rw [h9,← hsh,Nat.add_mul] at this
    omega
   ·have:i < o:=Nat.lt_of_not_le (fun hoi=>h8.1 hsh i hoi hi)
    omega
  have hle:e.le (e.turned (D0 e.w b (o+off * B1 T el+n * B1 T el) us) id (ver+1) (n+ns.length) (some (b,o+off * B1 T el))):=by
   refine Y2 hold (by omega) (fun k' i hs' u hxc=>?_) (fun k _=>hblen k) (fun j b o hj hb=>h.lt _ _ _ hj hb) (by rw [N6];exact Nat.le_refl _)
   by_cases hk:k'=b
   ·subst hk
    have hi:=hSi i hs'
    rw [D6 h2] at hxc
    rw [D6 f1,hcs',← hxc,h4]
    have key:∀ X:List Value,((pre++(as0++bs))++X)[i]? = (pre++(as0++bs))[i]? := fun X=>List.getElem?_append_left (by simp only [C3p];omega)
    rw [show (pre++as0)++(bs++us)++(zs++post).drop us.length=(pre++(as0++bs))++(us++(zs++post).drop us.length) by simp,show pre++(as0++(bs++zs))++post=(pre++(as0++bs))++(zs++post) by simp,key,key]
   ·rw [← hxc];exact C9 (F2 _ _ _ _ hk)
  have hok:OK T (e.turned (D0 e.w b (o+off * B1 T el+n * B1 T el) us) id (ver+1) (n+ns.length) (some (b,o+off * B1 T el))) id (.row el (ver+1) ((xs.drop off).take n++ns) false sh):=by
   refine ⟨v0,by omega,upd_same _ _ _,v3,(upd_same _ _ _).trans hln.symm,v5,.inr ⟨rfl,b,o+off * B1 T el,cs',ty',fz,pre++as0,bs++us,(zs++post).drop us.length,upd_same _ _ _,f1,A2s h3 h2 f1 hsz,hcs',by simp only [C3p];omega,rvnew _ hle,fun i hi hs'=>?_,fun hh i hi hs'=>?_,h8.2⟩⟩
   ·have:=hSi i hs';simp only [C3p] at hi;omega
   ·exact h8.1 hh i (by omega) hs'
  have hos:=h.turn ho hle (o':=.row el (ver+1) ((xs.drop off).take n++ns) false sh) (fun j hj=>A3 _ _ hj) (fun j hj=>A3 _ _ hj) (fun _ hu=>hu)
   (fun k' _ hk=>F2 _ _ _ _ (fun hkb=>hk o (by rw [hkb];exact h1))) (by show _≤(D0 _ _ _ _).heap.size;rw [N6];exact Nat.le_refl _) (fun _ _ hs'=>.inl hs')
   (fun b' q hb=>by
    have hb':D3 e.ι id (some (b,o+off * B1 T el)) id=some (b',q):=hb
    rw [upd_same] at hb';cases hb';exact .inl ⟨o,h1⟩) (Q1 _ _ _ _).1 (Q1 _ _ _ _).2.1 (Q1 _ _ _ _).2.2 hok
  have hst:∀ a,some (⟨b,k,none⟩:Addr)=some a→(storeCells (a.add (n * te.size)) us).run P e.w=.ok () (D0 e.w b (o+off * B1 T el+n * B1 T el) us):=by
   intro a ha
   cases ha
   by_cases hc0:cap=0
   ·have:us=[]:=List.eq_nil_of_length_eq_zero (by rw [hsize,show ns.length=0 by omega];simp)
    subst this
    simp [storeCells,D0]
   ·rw [C2,k5 (by omega),← hz]
    exact T7 h2 h3 hus.one hfit
  have hrun:=A0n (P:=P) (ty:=ty) (A:=some ⟨b,k,none⟩) (n:=n) (cap:=cap) ht (hT _ _ hel) hs hroom hst (fun ha=>by cases ha)
  refine A1 hrun ⟨_,rfl,hos,hle,fun _ hu=>.inl hu,?_⟩
  have hlne:(e.turned (D0 e.w b (o+off * B1 T el+n * B1 T el) us) id (ver+1) (n+ns.length) (some (b,o+off * B1 T el))).ln id=n+ns.length:=upd_same _ _ _
  have:=A0u (T:=T) (e:=e.turned (D0 e.w b (o+off * B1 T el+n * B1 T el) us) id (ver+1) (n+ns.length) (some (b,o+off * B1 T el))) (cap:=cap) v0 (upd_same _ _ _) (by omega) (upd_same _ _ _) (by rw [hlne];exact hroom)
   (by show _+_ * B1 T (e.ty id)=L3 (D0 _ _ _ _) b;rw [hblen,N1 h2,v3];omega) k5
  rwa [hlne] at this
 ·-- a new block
  obtain ⟨z,cap2,hc2,hzr,hrun⟩:=A0o (P:=P) (ty:=ty) (os:=bs) ht (hT _ _ hel) hs (A:=some ⟨b,k,none⟩) (n:=n) (cap:=cap) (fun w' hw'=>by
   have hbl':bs.length=n * te.size:=by rw [q2,hz]
   simp only [Builtin.firstCells]
   rw [← hbl']
   refine V6 w' _ bs (fun j y hj=>?_)
   have hjl:=(List.getElem?_eq_some_iff.1 hj).1
   have hn0:0 < n:=by
    rcases Nat.eq_zero_or_pos n with h0 | h0
    ·rw [h0] at hbl';simp at hbl';rw [hbl'] at hjl;simp at hjl
    ·exact h0
   rw [C2,k5 (by omega),C9 (w:=e.w) (by rw [hw']),D6 h2,h4]
   have e1:pre++(as0++(bs++zs))++post=(pre++as0)++(bs++(zs++post)):=by simp
   rw [e1,show o+off * B1 T el+j=(pre++as0).length+j by simp only [C3p];omega]
   exact J7 hj) (by omega) hbytes h63
  have hzz:∀ e,RV T e [el] [te.zero] z.cells.toList:=hzr.elim (fun q=>q) (fun q=>absurd q hno)
  have hzs:z.cells.size=te.size:=by
   have:=(hzz e).one_len
   rw [hz,C3u] at this;exact this
  have hcs:((bs++us).toArray++Builtin.zeroCells z.cells (cap2 - (n+ns.length))).size=cap2 * B1 T el:=by
   rw [hz] at q2 ⊢
   simp only [Array.size_append,List.size_toArray,C3p,q2,hsize,size_zeroCells,hzs,← Nat.add_mul]
   congr 1;omega
  have hheap:(e.w.drew.alloc (.cells ((bs++us).toArray++Builtin.zeroCells z.cells (cap2 - (n+ns.length))) el)).heap[e.w.heap.size]? = some (.cells ((bs++us).toArray++Builtin.zeroCells z.cells (cap2 - (n+ns.length))) el (0,0)):=J2 e.w.drew _
  have hsz:(e.w.drew.alloc (.cells ((bs++us).toArray++Builtin.zeroCells z.cells (cap2 - (n+ns.length))) el)).heap.size=e.w.heap.size+1:=C6 e.w.drew _
  have hle:e.le (e.turned (e.w.drew.alloc (.cells ((bs++us).toArray++Builtin.zeroCells z.cells (cap2 - (n+ns.length))) el)) id (ver+1) (n+ns.length) (some (e.w.heap.size,0))) :=
   Y2 hold (by omega) (fun k' i hs' x hx=>by rw [← hx];exact C9 (B5 e.w.drew _ (h.slt _ _ hs'))) (fun b hb=>C3 (B5 e.w.drew _ hb)) (fun j b o hj hb=>h.lt _ _ _ hj hb) (by omega)
  have hok:OK T (e.turned (e.w.drew.alloc (.cells ((bs++us).toArray++Builtin.zeroCells z.cells (cap2 - (n+ns.length))) el)) id (ver+1) (n+ns.length) (some (e.w.heap.size,0))) id (.row el (ver+1) ((xs.drop off).take n++ns) false sh):=by
   refine ⟨v0,by omega,upd_same _ _ _,v3,(upd_same _ _ _).trans hln.symm,v5,.inr ⟨rfl,e.w.heap.size,0,_,el,(0,0),[],bs++us,(Builtin.zeroCells z.cells (cap2 - (n+ns.length))).toList,upd_same _ _ _,hheap,A1y hheap,by simp,rfl,rvnew _ hle,fun i _ hs'=>?_,fun _ i _ hs'=>?_,rfl⟩⟩
   ·have:=h.slt _ _ hs';omega
   ·have:=h.slt _ _ hs';omega
  have hos:=h.turn ho hle (o':=.row el (ver+1) ((xs.drop off).take n++ns) false sh) (fun j hj=>A3 _ _ hj) (fun j hj=>A3 _ _ hj) (fun _ hu=>hu) (fun k hk _=>B5 e.w.drew _ hk) (by show _≤(e.w.drew.alloc _).heap.size;omega) (fun _ _ hs'=>.inl hs')
   (fun b q hb=>by
    have hb':D3 e.ι id (some (e.w.heap.size,0)) id=some (b,q):=hb
    rw [upd_same] at hb';cases hb';exact .inr ⟨Nat.le_refl _,by show _ < (e.w.drew.alloc _).heap.size;omega⟩) rfl rfl rfl hok
  refine A1 hrun ⟨_,rfl,hos,hle,fun _ hu=>.inl hu,?_⟩
  have hlne:(e.turned (e.w.drew.alloc (.cells ((bs++us).toArray++Builtin.zeroCells z.cells (cap2 - (n+ns.length))) el)) id (ver+1) (n+ns.length) (some (e.w.heap.size,0))).ln id=n+ns.length:=upd_same _ _ _
  have:=A0u (T:=T) (e:=e.turned (e.w.drew.alloc (.cells ((bs++us).toArray++Builtin.zeroCells z.cells (cap2 - (n+ns.length))) el)) id (ver+1) (n+ns.length) (some (e.w.heap.size,0))) (cap:=cap2) v0 (upd_same _ _ _) (by omega) (upd_same _ _ _) (by rw [hlne];exact hc2)
   (by show 0+_ * B1 T (e.ty id)=L3 (e.w.drew.alloc _) _;rw [N1 hheap,hcs,v3];omega) (fun _=>rfl)
  rwa [hlne] at this
variable {P:Program} {T:TT} {c:F1} {e:A8} {of:Nat→Option Ob}
theorem X3 {w:World} {xt:TypeId} {z m cap:Nat} {us:List Value} {a:Addr} (ht:(∃ e,P.underlying xt=some (.slice e))∨P.underlying xt=some .string) (hl:us.length=m * z)
  (hc:∀ (j:Nat) y,us[j]? = some y→w.cell? (a.add j)=some y):Src P w xt (.slice (some a) m cap) z m us:=by
 refine ⟨ht,fun w'=>rfl,fun w' hw=>?_,hl⟩
 simp only [Builtin.firstCells]
 rw [← hl]
 refine V6 w' a us (fun j y hj=>?_)
 rw [← hc j y hj]
 simp only [World.cell?,hw]
theorem A1o {w:World} {xt:TypeId} {z cap:Nat} {A:Option Addr} (ht:(∃ e,P.underlying xt=some (.slice e))∨P.underlying xt=some .string):Src P w xt (.slice A 0 cap) z 0 []:=by
 refine ⟨ht,fun w'=>rfl,fun w' hw=>?_,by simp⟩
 cases A<;>simp [Builtin.firstCells,loadCells,loadCellsFrom]
theorem B5p {w:World} {xt:TypeId} {s:ByteArray} (ht:P.underlying xt=some .string):Src P w xt (.string s) 1 s.data.toList.length (s.data.toList.map fun b=>Value.int .u8 b.toNat):=by
 refine ⟨.inr ht,fun w'=>by show (Pure.pure s.size:Sem Nat).run P w'=_;rw [Sem.run_pure,C3u];rfl,fun w' _=>?_,by simp⟩
 simp only [Builtin.firstCells,Sem.run_pure]
 congr 1
 apply Array.ext'
 simp only [Array.toList_map]
 congr 1
 have:s.extract 0 s.data.toList.length=s:=by
  apply ByteArray.ext
  simp
 rw [this]
theorem A7d {el:Nat} (hk:B2 T el=some (.int .u8)) (hz:B1 T el=1):∀ (l:List UInt8),RV T e (List.replicate l.length el) (l.map fun b=>V.i (b.toNat:Int)) (l.map fun b=>Value.int .u8 b.toNat):=by
 intro l
 induction l with
 | nil=>exact .nil
 | cons b r ih=>exact .int hk hz (by have:=b.toNat_lt;constructor<;>simp only [lo,hi]<;>omega) ih
def A3Q:Value→Bool
 | .slice none 0 0=>true
 | _=>false
theorem A0K {v:Value} (h:A3Q v=true):v=.slice none 0 0:=by
 unfold A3Q at h;split at h
 ·rfl
 ·cases h
def F9 (T:TT) (of:Nat→Option Ob) (el:Nat):A→Option (List V×List Nat)
 | .v t x=>match B2 T t with
  | some (.slice el')=>if Nat.beq el el' then some (x.els,[]) else none
  | _=>none
 | .q t x=>match B2 T t with
  | some (.slice el')=>if Nat.beq el el' then some (x.els,[]) else none
  | _=>none
 | .s l=>match B2 T el with
  | some (.int .u8)=>if Nat.beq (B1 T el) 1 then some (l,[]) else none
  | _=>none
 | .z v=>if A3Q v then some ([],[]) else none
 | .o id ver=>match of id with
  | some (.row el' v xs _ _)=>if Nat.beq el el'&&Nat.beq v ver then some (xs,[id]) else none
  | _=>none
 | .w id ver off n=>match of id with
  | some (.row el' v xs _ _)=>if Nat.beq el el'&&Nat.beq v ver&&Nat.ble (off+n) xs.length then some ((xs.drop off).take n,[id]) else none
  | _=>none
 | .a id t1 path lo m=>match B2 T t1,of id with
  | some (.arr _ el'),some (.box _ a _)=>match atA T a path with
   | some (.v t2 y)=>if Nat.beq el el'&&Nat.beq t1 t2 then some ((y.els.drop lo).take m,[id]) else none
   | _=>none
  | _,_=>none
 | _=>none
theorem B2u {xt el:Nat} {t:Nat} {x:V} {v:Value} (hty:(∃ e,P.underlying xt=some (.slice e))∨P.underlying xt=some .string) (hr:RV T e [t] [x] [v]) (hk:B2 T t=some (.slice el)) :
  ∃ us,Src P e.w xt v (B1 T el) x.els.length us∧RV T e (List.replicate x.els.length el) x.els us:=by
 rcases hr.slice_inv hk with ⟨rfl,hv⟩ | ⟨ys,ds,a,cap,rfl,hv,h1,h2,h3⟩
 ·injection hv with hv;subst hv;exact ⟨[],A1o hty,.nil⟩
 ·injection hv with hv;subst hv
  exact ⟨ds,X3 hty (by rw [h3.length.1,B4]) (fun j y hj=>(h2.2 j y hj).1),h3⟩
theorem A3v {xt el:Nat} {of':Nat→Option Ob} {a:A} {v:Value} {ns:List V} {ro:List Nat} (h:A5 T c e of') (hty:(∃ e,P.underlying xt=some (.slice e))∨P.underlying xt=some .string) (hst:∀ l,a=.s l→P.underlying xt=some .string)
  (hs:F9 T of el a=some (ns,ro)) (ho:∀ id∈ro,of' id=of id) (hr:B3 T e a v):∃ us,Src P e.w xt v (B1 T el) ns.length us∧RV T e (List.replicate ns.length el) ns us:=by
 cases a with
 | v t x =>
  simp only [F9] at hs
  split at hs<;>try (cases hs;done)
  rename_i el' hk
  split at hs<;>try (cases hs;done)
  rename_i hc
  have:=C3n hc;subst this
  injection hs with hs;injection hs with h1 h2;subst h1
  have hv:=hr.1
  have hone:one v=true:=by
   cases v<;>first | rfl | skip
   ·obtain ⟨k,q1,q2⟩:=hr.2.2 ⟨_,rfl⟩;rw [hk] at q1;cases q1;cases q2
   ·rename_i l
    have:=hv.one (.tuple l) (by simp [Value.cells])
    simp [one] at this
  rw [E6 hone] at hv
  exact B2u hty hv hk
 | q t x =>
  simp only [F9] at hs
  split at hs<;>try (cases hs;done)
  rename_i el' hk
  split at hs<;>try (cases hs;done)
  rename_i hc
  have:=C3n hc;subst this
  injection hs with hs;injection hs with h1 h2;subst h1
  have hr:RA T e [.q t x] [v]:=hr
  cases hr with
  | q g1 g2=>exact B2u hty g1 hk
  | r g1 _ _=>exact g1.elim
 | s l =>
  simp only [F9] at hs
  split at hs<;>try (cases hs;done)
  rename_i hk
  split at hs<;>try (cases hs;done)
  rename_i hc
  have hz:=C3n hc
  injection hs with hs;injection hs with h1 h2;subst h1
  have hr:RA T e [.s l] [v]:=hr
  cases hr with
  | s g =>
   rename_i s
   rw [hz]
   have:=B5p (P:=P) (w:=e.w) (s:=s) (hst _ rfl)
   refine ⟨_,by simpa [W9] using this,?_⟩
   have:=A7d (e:=e) hk hz s.data.toList
   simpa [W9] using this
  | r g1 _ _=>exact g1.elim
 | z x =>
  have hr:RA T e [.z x] [v]:=hr
  have hvx:v=x:=by
   cases hr with
   | z _ _=>rfl
   | r g1 _ _=>exact g1.elim
  subst hvx
  simp only [F9] at hs
  split at hs
  ·rename_i hz
   injection hs with hs;injection hs with h1 h2;subst h1
   rw [A0K hz]
   exact ⟨[],A1o hty,.nil⟩
  ·cases hs
 | o id ver =>
  simp only [F9] at hs
  split at hs<;>try (cases hs;done)
  rename_i el' v' xs nl sh hof
  split at hs<;>try (cases hs;done)
  rename_i hc
  simp only [C3o] at hc
  have:=C3n hc.1;subst this
  have:=C3n hc.2;subst this
  injection hs with hs;injection hs with h1 h2;subst h1;subst h2
  obtain ⟨v0,v1,v2,v3,v4,v5,h6⟩:=G3 h ((ho id (by simp)).trans hof)
  rcases h6 with ⟨rfl,g1,rfl⟩ | ⟨rfl,b,o,cs,ty,fz,pre,ys,post,h1,h2,h3,h4,h5,h6,h7,h8⟩
  ·rcases F7 hr v2 with ⟨_,_,rfl⟩ | ⟨b,o,cap,k,k1,_⟩
   ·exact ⟨[],A1o hty,.nil⟩
   ·rw [g1] at k1;cases k1
  ·rcases F7 hr v2 with ⟨k1,_,_⟩ | ⟨b',o',cap,k,k1,k2,k3,k4,rfl⟩
   ·rw [h1] at k1;cases k1
   rw [h1] at k1;cases k1
   rw [v4] at k2 ⊢
   have hl:=h6.length.1
   rw [B4] at hl
   by_cases h0:xs.length=0
   ·have:xs=[]:=List.eq_nil_of_length_eq_zero h0
    subst this
    exact ⟨[],A1o hty,.nil⟩
   ·refine ⟨ys,X3 hty hl (fun j y hj=>?_),h6⟩
    rw [C2,k4 (by omega),D6 h2,h4,List.append_assoc,← h5]
    exact J7 hj
 | w id ver off n =>
  simp only [F9] at hs
  split at hs<;>try (cases hs;done)
  rename_i el' v' xs nl sh hof
  split at hs<;>try (cases hs;done)
  rename_i hc
  simp only [C3o] at hc
  have:=C3n hc.1.1;subst this
  have:=C3n hc.1.2;subst this
  have hn:=C3t hc.2
  injection hs with hs;injection hs with h1 h2;subst h1;subst h2
  obtain ⟨v0,v1,v2,v3,v4,v5,h6⟩:=G3 h ((ho id (by simp)).trans hof)
  obtain ⟨b',o',cap,k,k1,k2,k3,k4,k5,rfl⟩:=N8 hr v2
  rcases h6 with ⟨rfl,g1,rfl⟩ | ⟨rfl,b,o,cs,ty,fz,pre,ys,post,h1,h2,h3,h4,h5,h6,h7,h8⟩
  ·rw [g1] at k1;cases k1
  rw [h1] at k1;cases k1
  rw [v3] at k5
  obtain ⟨as0,bs,zs,rfl,q1,q2,q3,q4⟩:=G4 h6 hn
  have hl:((xs.drop off).take n).length=n:=by rw [q3.length.2];simp
  rw [hl]
  by_cases h0:n=0
  ·subst h0;exact ⟨[],A1o hty,by simpa using RV.nil⟩
  ·refine ⟨bs,X3 hty q2 (fun j y hj=>?_),q3⟩
   rw [C2,k5 (by omega),D6 h2,h4]
   have e1:pre++(as0++(bs++zs))++post=(pre++as0)++(bs++(zs++post)):=by simp
   rw [e1,← h5,show pre.length+off * B1 T el+j=(pre++as0).length+j by simp only [C3p];omega]
   exact J7 hj
 | a id t1 path lo m =>
  simp only [F9] at hs
  split at hs<;>try (cases hs;done)
  rename_i n el' t0 a sh hk1 hof
  split at hs<;>try (cases hs;done)
  rename_i t2 y hat
  split at hs<;>try (cases hs;done)
  rename_i hc
  simp only [C3o] at hc
  have:=C3n hc.1;subst this
  have:=C3n hc.2;subst this
  injection hs with hs;injection hs with h1 h2;subst h1;subst h2
  obtain ⟨u1,u2,u3,u4,b,cs,ty,fz,g1,g2,g3,g4,g5,g6⟩:=Q8 h ((ho id (by simp)).trans hof)
  obtain ⟨b',off,n',el',k,cap,_,_,k1,k2,k3,k4,k5,k6,rfl⟩:=S3 hr
  rw [g1] at k1;cases k1
  rw [hk1] at k3;cases k3
  rw [u3] at k2
  obtain ⟨pre,d,post,q1,q2,q3,q4,q5⟩:=R6 path g5 u4 k2 hat
  obtain ⟨as0,bs,zs,rfl,r1,r2,r3⟩:=A2E q4.v_inv hk1 k4
  have hl:((y.els.drop lo).take m).length=m:=by rw [r3.length.2];simp
  rw [hl]
  by_cases h0:m=0
  ·subst h0;exact ⟨[],A1o hty,by simpa using RV.nil⟩
  ·refine ⟨bs,X3 hty r2 (fun j z hj=>?_),r3⟩
   rw [C2,k6 (by omega),D6 g2,q1]
   have e1:pre++((as0++(bs++zs))++post)=(pre++as0)++(bs++(zs++post)):=by simp
   rw [e1,show off+lo * B1 T el+j=(pre++as0).length+j by simp only [C3p];omega]
   exact J7 hj
 | _=>simp [F9] at hs
theorem A6c {id el:Nat} {xs:List V} {cs:Array Value} {ys post:List Value} (h:A5 T c e of) (hu:¬ e.U id) (hd:0 < B1 T el) (hcs:cs.toList=ys++post) (hr:RV T e (List.replicate xs.length el) xs ys) :
  OK T (e.new id 1 el xs.length cs el (0,0)) id (.row el 1 xs false false) :=
 ⟨.inl rfl,by omega,upd_same _ _ _,upd_same _ _ _,upd_same _ _ _,hd,.inr ⟨rfl,e.w.heap.size,0,cs,el,(0,0),[],ys,post,upd_same _ _ _,W1 _ _ _ _ _ _ _ _,A1y (W1 _ _ _ _ _ _ _ _),by simpa using hcs,rfl,hr.mono (h.le_new hu 1 el xs.length cs el (0,0)),
  fun i _ hs=>absurd (h.slt _ _ hs) (by omega),fun _ i _ hs=>absurd (h.slt _ _ hs) (by omega),rfl⟩⟩
theorem B5q {id el:Nat} {xs:List V} {cs:Array Value} {ys post:List Value} {fz:Nat×Nat} (h:A5 T c e of) (hu:¬ e.U id) (hd:0 < B1 T el) (hcs:cs.toList=ys++post) (hr:RV T e (List.replicate xs.length el) xs ys) (hf:A0y (e.new id 1 el xs.length cs el fz).w e.w.heap.size cs) :
  OK T (e.new id 1 el xs.length cs el fz) id (.row el 1 xs false false) :=
 ⟨.inl rfl,by omega,upd_same _ _ _,upd_same _ _ _,upd_same _ _ _,hd,.inr ⟨rfl,e.w.heap.size,0,cs,el,fz,[],ys,post,upd_same _ _ _,W1 _ _ _ _ _ _ _ _,hf,by simpa using hcs,rfl,hr.mono (h.le_new hu 1 el xs.length cs el fz),
  fun i _ hs=>absurd (h.slt _ _ hs) (by omega),fun _ i _ hs=>absurd (h.slt _ _ hs) (by omega),rfl⟩⟩
theorem A8z {id el n cap:Nat} {cs:Array Value} {fz:Nat×Nat} (hc:cs.size=cap * B1 T el) (hn:n≤cap):B3 T (e.new id 1 el n cs el fz) (.o id 1) (.slice (some ⟨e.w.heap.size,0,none⟩) n cap):=by
 have h:=A0u (T:=T) (e:=e.new id 1 el n cs el fz) (id:=id) (ver:=1) (b:=e.w.heap.size) (o:=0) (cap:=cap) (k:=0) (.inl rfl) (upd_same _ _ _) (by omega) (upd_same _ _ _) (by rw [show (e.new id 1 el n cs el fz).ln id=n from upd_same _ _ _];exact hn)
  (by rw [show (e.new id 1 el n cs el fz).ty id=el from upd_same _ _ _,N1 (W1 _ _ _ _ _ _ _ _),hc];omega) (fun _=>rfl)
 rwa [show (e.new id 1 el n cs el fz).ln id=n from upd_same _ _ _] at h
theorem A1p {id el n cap:Nat} {cs:Array Value} (hc:cs.size=cap * B1 T el) (hn:n≤cap):B3 T (e.new id 1 el n cs el (0,0)) (.o id 1) (.slice (some ⟨e.w.heap.size,0,none⟩) n cap):=by
 have h:=A0u (T:=T) (e:=e.new id 1 el n cs el (0,0)) (id:=id) (ver:=1) (b:=e.w.heap.size) (o:=0) (cap:=cap) (k:=0) (.inl rfl) (upd_same _ _ _) (by omega) (upd_same _ _ _) (by rw [show (e.new id 1 el n cs el (0,0)).ln id=n from upd_same _ _ _];exact hn)
  (by rw [show (e.new id 1 el n cs el (0,0)).ty id=el from upd_same _ _ _,N1 (W1 _ _ _ _ _ _ _ _),hc];omega) (fun _=>rfl)
 rwa [show (e.new id 1 el n cs el (0,0)).ln id=n from upd_same _ _ _] at h
theorem U4 (z:Array Value):∀ n,(madeCells z (n * z.size)).toList=(List.replicate n z.toList).flatten:=by
 intro n
 apply List.ext_getElem?
 intro j
 have hfl:∀ n,(List.replicate n z.toList).flatten.length=n * z.size:=by
  intro n;rw [List.length_flatten,List.map_replicate,List.sum_replicate_nat];simp
 by_cases hj:j < n * z.size
 ·have h1:(madeCells z (n * z.size)).toList[j]? = some z[j % z.size]! := by
   simp [madeCells,hj]
  rw [h1]
  have key:∀ n j,j < n * z.size→(List.replicate n z.toList).flatten[j]? = some z[j % z.size]! := by
   intro n
   induction n with
   | zero=>intro j hj;simp at hj
   | succ n ih =>
    intro j hj
    rw [List.replicate_succ,List.flatten_cons]
    by_cases hjz:j < z.size
    ·rw [List.getElem?_append_left (by simpa using hjz),Nat.mod_eq_of_lt hjz]
     simp [hjz]
    ·rw [List.getElem?_append_right (by simpa using hjz),C3u,ih (j - z.size) (by rw [Nat.add_mul] at hj;omega),← Nat.mod_eq_sub_mod (by omega)]
  exact (key n j hj).symm
 ·rw [List.getElem?_eq_none (by rw [C3u,size_madeCells];omega),List.getElem?_eq_none (by rw [hfl];omega)]
theorem A0L {el:Nat} {z:V} {zs:List Value} (h:RV T e [el] [z] zs):∀ n,RV T e (List.replicate n el) (List.replicate n z) (List.replicate n zs).flatten:=by
 intro n
 induction n with
 | zero=>exact .nil
 | succ n ih=>rw [List.replicate_succ,List.replicate_succ,List.replicate_succ,List.flatten_cons];exact h.append ih
theorem B2v {t el:Nat} {te:TE} (h:A5 T c e of) (hT:F4 T P) (ht:P.underlying t=some (.slice el)) (hel:T el=some te) (hno:te.k≠.other) {id:Nat} (hu:¬ e.U id) (hz:0 < te.size) {kl kc:IntKind} {l cp:Int} (h0:0≤l) (hlc:l≤cp)
  (hb:cp * te.bytes≤140737488355328) (h63:cp≤4611686018427387904) {ro:List Nat} :
  B9 P (do pure (.value (← Instr.makeSlice t (.int kl l) (.int kc cp)))) e.w (C4 T c e of ⟨.o id 1,[(id,.row el 1 (List.replicate l.toNat te.zero) false false)],ro,[id]⟩):=by
 obtain ⟨i,z,h1,h2,h3,h4,h5,h6⟩:=A7c (hT _ _ hel) hel
 have hzz:=h5.elim (fun q=>q) (fun q=>absurd q hno)
 have h6:=h6 hzz
 have hsz:B1 T el=te.size:=E4 hel
 have hcb:cp.toNat * te.bytes≤140737488355328:=by
  obtain ⟨q,rfl⟩:=Int.eq_ofNat_of_zero_le (show 0≤cp by omega)
  rw [Int.toNat_natCast]
  have:((q * te.bytes:Nat):Int)≤140737488355328:=by rw [Int.natCast_mul];exact hb
  omega
 have hrun:=run_make (P:=P) e.w t el i z ht h1 h2 kl kc l cp h0 hlc (by rw [h4,Int.mul_comm];omega) (by omega)
 have hcells:(madeCells z.cells (cp.toNat * i.size)).size=cp.toNat * te.size:=by rw [size_madeCells,h3]
 have hsp:(madeCells z.cells (cp.toNat * i.size)).toList=(List.replicate l.toNat z.cells.toList).flatten++(List.replicate (cp.toNat - l.toNat) z.cells.toList).flatten:=by
  rw [h3,← h6,U4 _,← List.flatten_append,List.replicate_append_replicate]
  congr 2;omega
 have hok:=A6c (id:=id) (el:=el) (xs:=List.replicate l.toNat te.zero) h hu (by rw [hsz];exact hz) hsp (by rw [List.length_replicate];exact A0L (hzz e) _)
 rw [List.length_replicate] at hok
 exact A1 hrun (Z8 h hu hok (A1p (by rw [hcells,hsz]) (by omega)))
variable {P:Program} {T:TT} {c:F1} {e:A8} {of:Nat→Option Ob}
def A8.nil (e:A8) (id el:Nat):A8:={ e with ι:=D3 e.ι id none,bn:=D3 e.bn id 1,U:=fun j=>j=id∨e.U j,ty:=D3 e.ty id el,ln:=D3 e.ln id 0 }
theorem A5.le_nil (_h:A5 T c e of) {id el:Nat} (hu:¬ e.U id):e.le (e.nil id el):=by
 have hne:∀ j,e.U j→j≠id:=fun j hj he=>hu (he ▸ hj)
 refine ⟨fun b i hs=>⟨hs,fun _ hx=>hx⟩,fun _ hj=>.inr hj,fun j hj _=>⟨A3 _ _ (hne j hj),A3 _ _ (hne j hj),fun _ _ _=>rfl⟩,fun j hj h0=>?_,fun j hj=>?_,fun j hj=>A3 _ _ (hne j hj),Nat.le_refl _,fun _ _=>rfl⟩
 ·show D3 e.bn id 1 j=0
  rw [A3 _ _ (hne j hj)];exact h0
 ·show _≤D3 e.bn id 1 j
  rw [A3 _ _ (hne j hj)];exact Nat.le_refl _
theorem A5.nil (h:A5 T c e of) {id el:Nat} (hu:¬ e.U id) {nl:Bool} (hnl:nl=true) (hd:0 < B1 T el):A5 T c (e.nil id el) (D3 of id (some (.row el 1 [] nl false))):=by
 have hle:=h.le_nil (el:=el) hu
 have hιn:(e.nil id el).ι id=none:=upd_same _ _ _
 have hι:∀ j,j≠id→(e.nil id el).ι j=e.ι j:=fun j hj=>A3 _ _ hj
 refine ⟨fun j o hj=>?_,fun j k b q b' q' hj hk hb1 hb2 hne=>?_,fun j b q hj hb=>?_,fun j b q hj hb=>?_,h.slt,h.s0,h.snew,h.os,h.tape,h.output,h.size,h.block,?_⟩
 ·by_cases he:j=id
  ·subst he
   rw [upd_same] at hj;cases hj
   exact ⟨.inl rfl,by omega,upd_same _ _ _,upd_same _ _ _,upd_same _ _ _,hd,.inl ⟨hnl,hιn,rfl⟩⟩
  ·rw [A3 _ _ he] at hj
   exact (h.ok _ _ hj).keep hle (A3 _ _ he) (fun _ _ _=>rfl) (fun _ _ _ _ hs=>hs) (fun a o' b _ hG=>⟨hG,rfl,fun i hs=>hs⟩)
 ·have h1:j≠id:=fun he=>by subst he;rw [hιn] at hb1;cases hb1
  have h2:k≠id:=fun he=>by subst he;rw [hιn] at hb2;cases hb2
  rw [hι _ h1] at hb1
  rw [hι _ h2] at hb2
  rw [A3 _ _ h1] at hj
  rw [A3 _ _ h2] at hk
  exact h.sep _ _ _ _ _ _ hj hk hb1 hb2 hne
 ·have h1:j≠id:=fun he=>by subst he;rw [hιn] at hb;cases hb
  rw [hι _ h1] at hb
  rw [A3 _ _ h1] at hj
  exact h.own _ _ _ hj hb
 ·have h1:j≠id:=fun he=>by subst he;rw [hιn] at hb;cases hb
  rw [hι _ h1] at hb
  exact h.lt _ _ _ (hj.resolve_left h1) hb
 ·refine h.g.mono (fun _ _ q=>q) rfl (fun _ q=>q) (Nat.le_refl _) (fun j b o hj hb=>?_)
  have h1:j≠id:=fun he=>by subst he;rw [hιn] at hb;cases hb
  rw [A3 _ _ h1] at hj
  rw [hι _ h1] at hb
  exact .inl ⟨j,o,hj,hb⟩
theorem A7e {id el:Nat} (h:A5 T c e of) (hu:¬ e.U id) {nl:Bool} (hnl:nl=true) (hd:0 < B1 T el) {ro:List Nat} :
  C4 T c e of ⟨.o id 1,[(id,.row el 1 [] nl false)],ro,[id]⟩ (.slice none 0 0) e.w :=
 ⟨e.nil id el,rfl,h.nil hu hnl hd,h.le_nil hu,fun j hj=>by rcases hj with rfl | hj;exact .inr (by simp);exact .inl hj,A2F (.inl rfl) (upd_same _ _ _) (by omega) (upd_same _ _ _) (upd_same _ _ _)⟩
theorem T1 {t xt ty el:TypeId} {te:TE} (h:A5 T c e of) (hT:F4 T P) (ht:P.underlying t=some (.slice el)) (hel:T el=some te) (hno:te.k≠.other) {id:Nat} (hu:¬ e.U id) (hz0:0 < te.size) {xs ns:List V} {A:Option Addr} {y:Value} {us os:List Value}
  (hs:Src P e.w xt y te.size ns.length us) (hus:RV T e (List.replicate ns.length el) ns us) (hA:A=none∧xs=[]∨ns≠[])
  (hold:∀ w':World,w'.heap=e.w.heap→(Builtin.firstCells te.size xs.length (.slice A xs.length xs.length)).run P w'=.ok os.toArray w') (hos:RV T e (List.replicate xs.length el) xs os)
  (hbytes:(xs.length+ns.length) * te.bytes≤140737488355328) (h63:xs.length+ns.length≤4611686018427387904) {ro:List Nat} :
  B9 P (do pure (.value (← Builtin.append_ #[t,xt] ty #[.slice A xs.length xs.length,y]))) e.w (C4 T c e of ⟨.o id 1,[(id,.row el 1 (xs++ns) ns.isEmpty false)],ro,[id]⟩):=by
 have hz:B1 T el=te.size:=E4 hel
 by_cases hn:ns=[]
 ·subst hn
  rcases hA with ⟨rfl,rfl⟩ | hA
  ·have hrun:=A0n (P:=P) (ty:=ty) (A:=none) (n:=0) (cap:=0) (w':=e.w) ht (hT _ _ hel) hs (by simp) (fun a ha=>by cases ha) (fun _=>rfl)
   exact A1 hrun (A7e h hu rfl (by omega))
  ·exact absurd rfl hA
 ·have hpos:0 < ns.length:=List.length_pos_iff.2 hn
  have he:ns.isEmpty=false:=by cases ns<;>first | rfl | exact absurd rfl hn
  rw [he]
  obtain ⟨z,cap2,hc2,hzr,hrun⟩:=A0o (P:=P) (ty:=ty) (A:=A) (n:=xs.length) (cap:=xs.length) (os:=os) ht (hT _ _ hel) hs hold (by omega) hbytes h63
  have hzz:∀ e,RV T e [el] [te.zero] z.cells.toList:=hzr.elim (fun q=>q) (fun q=>absurd q hno)
  have hzs:z.cells.size=te.size:=by
   have:=(hzz e).one_len
   rw [hz,C3u] at this;exact this
  have hol:=hos.length.1
  rw [B4,hz] at hol
  have hsize:=hs.size
  have hcs:((os++us).toArray++Builtin.zeroCells z.cells (cap2 - (xs.length+ns.length))).size=cap2 * B1 T el:=by
   rw [hz]
   simp only [Array.size_append,List.size_toArray,C3p,hol,hsize,size_zeroCells,hzs,← Nat.add_mul]
   congr 1;omega
  obtain ⟨hd0,hle0⟩:=h.same_heap (w':=e.w.drew) rfl rfl rfl rfl
  have hok:=A6c (id:=id) (el:=el) (xs:=xs++ns) (cs:=(os++us).toArray++Builtin.zeroCells z.cells (cap2 - (xs.length+ns.length))) (ys:=os++us) (post:=(Builtin.zeroCells z.cells (cap2 - (xs.length+ns.length))).toList) hd0 hu (by omega) (by simp)
   (by rw [C3p,← List.replicate_append_replicate];exact (hos.mono hle0).append (hus.mono hle0))
  obtain ⟨e',p1,p2,p3,p4,p5⟩:=Z8 (ro:=ro) hd0 hu hok (A1p (n:=(xs++ns).length) (cap:=cap2) hcs (by rw [C3p];exact hc2))
  rw [C3p] at p5
  exact A1 hrun ⟨e',p1,p2,hle0.trans p3,p4,p5⟩
theorem A6d {t xt ty el:TypeId} {te:TE} (h:A5 T c e of) (hT:F4 T P) (ht:P.underlying t=some (.slice el)) (hel:T el=some te) (hno:te.k≠.other) {id ver:Nat} {xs ns:List V} {nl sh:Bool} {x y:Value} {us:List Value}
  (ho:of id=some (.row el ver xs nl sh)) (hx:B3 T e (.o id ver) x) (hs:Src P e.w xt y te.size ns.length us) (hus:RV T e (List.replicate ns.length el) ns us)
  (hbytes:(xs.length+ns.length) * te.bytes≤140737488355328) (h63:xs.length+ns.length≤4611686018427387904) {ro:List Nat} :
  B9 P (do pure (.value (← Builtin.append_ #[t,xt] ty #[x,y]))) e.w (C4 T c e of ⟨.o id (ver+1),[(id,.row el (ver+1) (xs++ns) (nl&&ns.isEmpty) sh)],ro,[]⟩):=by
 obtain ⟨v0,v1,v2,v3,v4,v5,h6⟩:=G3 h ho
 have hz:B1 T el=te.size:=E4 hel
 cases nl with
 | false =>
  have hι:e.ι id≠none:=by
   rcases h6 with ⟨q,_⟩ | ⟨_,b,o,cs,ty,fz,pre,ys,post,h1,_⟩
   ·cases q
   ·rw [h1];intro q;cases q
  have hw:=A4w hx v2 v1 hι v0
  rw [v4] at hw
  have:=A16 (ro:=ro) (ty:=ty) h hT ht hel hno ho (off:=0) (n:=xs.length) (by omega) (.inl (by omega)) hw hs hus hbytes h63
  simpa using this
 | true =>
  obtain ⟨g1,rfl⟩:e.ι id=none∧xs=[]:=by
   rcases h6 with ⟨_,g1,g2⟩ | ⟨q,_⟩
   ·exact ⟨g1,g2⟩
   ·cases q
  have hxv:x=.slice none 0 0:=by
   rcases F7 hx v2 with ⟨_,_,q⟩ | ⟨b,o,cap,k,k1,_⟩
   ·exact q
   ·rw [g1] at k1;cases k1
  subst hxv
  by_cases hn:ns=[]
  ·subst hn
   have hle:e.le (e.turned e.w id (ver+1) 0 none):=Y2 (by omega) (by omega) (fun _ _ _ _ hx=>hx) (fun _ _=>rfl) (fun j b o hj hb=>h.lt _ _ _ hj hb) (Nat.le_refl _)
   have hok:OK T (e.turned e.w id (ver+1) 0 none) id (.row el (ver+1) [] true sh):=⟨v0,by omega,upd_same _ _ _,v3,upd_same _ _ _,v5,.inl ⟨rfl,upd_same _ _ _,rfl⟩⟩
   have hos:=h.turn ho hle (o':=.row el (ver+1) [] true sh) (fun j hj=>A3 _ _ hj) (fun j hj=>A3 _ _ hj) (fun _ hu=>hu) (fun _ _ _=>rfl) (Nat.le_refl _) (fun _ _ hs'=>.inl hs') (fun b q hb=>by
    have hb':D3 e.ι id none id=some (b,q):=hb
    rw [upd_same] at hb';cases hb') rfl rfl rfl hok
   have hrun:=A0n (P:=P) (ty:=ty) (A:=none) (n:=0) (cap:=0) (w':=e.w) ht (hT _ _ hel) hs (by simp) (fun a ha=>by cases ha) (fun _=>rfl)
   exact A1 hrun ⟨e.turned e.w id (ver+1) 0 none,rfl,hos,hle,fun _ hu=>.inl hu,A2F v0 (upd_same _ _ _) (by omega) (upd_same _ _ _) (upd_same _ _ _)⟩
  ·have hpos:0 < ns.length:=List.length_pos_iff.2 hn
   have he:ns.isEmpty=false:=by cases ns<;>first | rfl | exact absurd rfl hn
   rw [he]
   simp only [List.length_nil,Nat.zero_add] at hbytes h63
   obtain ⟨z,cap2,hc2,hzr,hrun⟩:=A0o (P:=P) (ty:=ty) (A:=none) (n:=0) (cap:=0) (os:=[]) ht (hT _ _ hel) hs (fun w' _=>by simp [Builtin.firstCells]) (by omega) (by rw [Nat.zero_add];exact hbytes) (by omega)
   have hzz:∀ e,RV T e [el] [te.zero] z.cells.toList:=hzr.elim (fun q=>q) (fun q=>absurd q hno)
   have hzs:z.cells.size=te.size:=by
    have:=(hzz e).one_len
    rw [hz,C3u] at this;exact this
   have hsize:=hs.size
   have hcs:((([]:List Value)++us).toArray++Builtin.zeroCells z.cells (cap2 - (0+ns.length))).size=cap2 * B1 T el:=by
    rw [hz]
    simp only [Array.size_append,List.size_toArray,List.nil_append,hsize,size_zeroCells,hzs,← Nat.add_mul]
    congr 1;omega
   have hheap:(e.w.drew.alloc (.cells ((([]:List Value)++us).toArray++Builtin.zeroCells z.cells (cap2 - (0+ns.length))) el)).heap[e.w.heap.size]? = some (.cells ((([]:List Value)++us).toArray++Builtin.zeroCells z.cells (cap2 - (0+ns.length))) el (0,0)):=J2 e.w.drew _
   have hsz:(e.w.drew.alloc (.cells ((([]:List Value)++us).toArray++Builtin.zeroCells z.cells (cap2 - (0+ns.length))) el)).heap.size=e.w.heap.size+1:=C6 e.w.drew _
   have hle:e.le (e.turned (e.w.drew.alloc (.cells ((([]:List Value)++us).toArray++Builtin.zeroCells z.cells (cap2 - (0+ns.length))) el)) id (ver+1) ns.length (some (e.w.heap.size,0))) :=
    Y2 (by omega) (by omega) (fun k' i hs' x hx=>by rw [← hx];exact C9 (B5 e.w.drew _ (h.slt _ _ hs'))) (fun b hb=>C3 (B5 e.w.drew _ hb)) (fun j b o hj hb=>h.lt _ _ _ hj hb) (by omega)
   have hok:OK T (e.turned (e.w.drew.alloc (.cells ((([]:List Value)++us).toArray++Builtin.zeroCells z.cells (cap2 - (0+ns.length))) el)) id (ver+1) ns.length (some (e.w.heap.size,0))) id (.row el (ver+1) ns false sh) :=
    ⟨v0,by omega,upd_same _ _ _,v3,upd_same _ _ _,v5,.inr ⟨rfl,e.w.heap.size,0,_,el,(0,0),[],us,(Builtin.zeroCells z.cells (cap2 - (0+ns.length))).toList,upd_same _ _ _,hheap,A1y hheap,by simp,rfl,hus.mono hle,
     (fun i _ hs'=>by have:=h.slt _ _ hs';omega),(fun _ i _ hs'=>by have:=h.slt _ _ hs';omega),rfl⟩⟩
   have hos:=h.turn ho hle (o':=.row el (ver+1) ns false sh) (fun j hj=>A3 _ _ hj) (fun j hj=>A3 _ _ hj) (fun _ hu=>hu) (fun k hk _=>B5 e.w.drew _ hk) (by show _≤(e.w.drew.alloc _).heap.size;omega) (fun _ _ hs'=>.inl hs')
    (fun b q hb=>by
     have hb':D3 e.ι id (some (e.w.heap.size,0)) id=some (b,q):=hb
     rw [upd_same] at hb';cases hb';exact .inr ⟨Nat.le_refl _,by show _ < (e.w.drew.alloc _).heap.size;omega⟩) rfl rfl rfl hok
   refine A1 hrun ⟨_,rfl,hos,hle,fun _ hu=>.inl hu,?_⟩
   have hlne:(e.turned (e.w.drew.alloc (.cells ((([]:List Value)++us).toArray++Builtin.zeroCells z.cells (cap2 - (0+ns.length))) el)) id (ver+1) ns.length (some (e.w.heap.size,0))).ln id=ns.length:=upd_same _ _ _
   have:=A0u (T:=T) (e:=e.turned (e.w.drew.alloc (.cells ((([]:List Value)++us).toArray++Builtin.zeroCells z.cells (cap2 - (0+ns.length))) el)) id (ver+1) ns.length (some (e.w.heap.size,0))) (cap:=cap2) (k:=0) v0 (upd_same _ _ _) (by omega) (upd_same _ _ _) (by rw [hlne];omega)
    (by show 0+_ * B1 T (e.ty id)=L3 (e.w.drew.alloc _) _;rw [N1 hheap,hcs,v3];omega) (fun _=>rfl)
   rw [hlne] at this
   simpa using this
def LIM:Nat:=1073741824
def A0i (T:TT) (of:Nat→Option Ob) (nx t:Nat) (x y:A):Option Out :=
 match B2 T t with
 | some (.slice el)=>match T el,F9 T of el y with
  | some te,some (ns,ro)=>if Nat.ble te.bytes 131072&&TK.notOther te.k&&Nat.blt 0 te.size then
    match x with
    | .o id ver=>match of id with
     | some (.row el' v xs nl sh)=>if Nat.beq el el'&&Nat.beq v ver&&Nat.ble (xs.length+ns.length) LIM then
       some ⟨.o id (ver+1),[(id,.row el (ver+1) (xs++ns) (nl&&ns.isEmpty) sh)],id::ro,[]⟩ else none
     | _=>none
    | .w id ver off n=>match of id with
     | some (.row el' v xs false sh)=>if Nat.beq el el'&&Nat.beq v ver&&Nat.ble (off+n) xs.length&&(Nat.beq (off+n) xs.length||!sh)&&Nat.ble (n+ns.length) LIM then
       some ⟨.o id (ver+1),[(id,.row el (ver+1) ((xs.drop off).take n++ns) false sh)],id::ro,[]⟩ else none
     | _=>none
    | .v t' .n=>if same T t t'&&Nat.ble ns.length LIM then some ⟨.o nx 1,[(nx,.row el 1 ns ns.isEmpty false)],ro,[nx]⟩ else none
    | .z v=>if A3Q v&&Nat.ble ns.length LIM then some ⟨.o nx 1,[(nx,.row el 1 ns ns.isEmpty false)],ro,[nx]⟩ else none
    | .q t' x=>if same T t t'&&!ns.isEmpty&&Nat.ble (x.els.length+ns.length) LIM then some ⟨.o nx 1,[(nx,.row el 1 (x.els++ns) ns.isEmpty false)],ro,[nx]⟩ else none
    | _=>none
   else none
  | _,_=>none
 | _=>none
variable {P:Program} {T:TT} {c:F1} {e:A8} {of:Nat→Option Ob}
theorem S4 {k:TK} (h:TK.notOther k=true):k≠.other:=by intro q;rw [q] at h;cases h
def A0v (T:TT) (xt:Nat) (y:A):Bool :=
 match B2 T xt with
 | some .str=>true
 | some (.slice _)=>match y with
  | .s _=>false
  | _=>true
 | _=>false
theorem A3R {xt:Nat} {y:A} (hT:F4 T P) (h:A0v T xt y=true):((∃ e,P.underlying xt=some (.slice e))∨P.underlying xt=some .string)∧∀ l,y=.s l→P.underlying xt=some .string:=by
 unfold A0v at h
 split at h
 ·rename_i hk
  obtain ⟨te,h1,h2⟩:=A6 hk
  have:=L8 (hT _ _ h1) h2
  exact ⟨.inr this,fun _ _=>this⟩
 ·rename_i el hk
  obtain ⟨te,h1,h2⟩:=A6 hk
  refine ⟨.inl ⟨el,D4 (hT _ _ h1) h2⟩,fun l hl=>?_⟩
  subst hl;cases h
 ·cases h
theorem Y3 {n b:Nat} (hn:Nat.ble n LIM=true) (hb:Nat.ble b 131072=true):n * b≤140737488355328∧n≤4611686018427387904:=by
 have h1:=C3t hn
 have h2:=C3t hb
 have:n * b≤1073741824 * 131072:=Nat.mul_le_mul h1 h2
 unfold LIM at h1
 omega
theorem C5 {t:Nat} {x:V} {v:Value} (hr:B3 T e (.v t x) v) (hs:∃ k,B2 T t=some k∧k.agg=false):RV T e [t] [x] [v]:=by
 have hone:one v=true:=by
  cases v<;>first | rfl | skip
  ·obtain ⟨k,q1,q2⟩:=hr.2.2 ⟨_,rfl⟩;obtain ⟨k',r1,r2⟩:=hs;rw [q1] at r1;cases r1;rw [q2] at r2;cases r2
  ·rename_i l
   have:=hr.1.one (.tuple l) (by simp [Value.cells])
   simp [one] at this
 have:=hr.1
 rwa [E6 hone] at this
theorem A8A {t xt ty:TypeId} {of':Nat→Option Ob} {nx:Nat} {u v:A} {x y:Value} {out:Out} (h:A5 T c e of') (hT:F4 T P) (hxt:A0v T xt v=true) (hr:A0i T of nx t u v=some out) (ho:∀ id∈out.ro,of' id=of id) (hu:∀ id∈out.nw,¬ e.U id) (hx:B3 T e u x) (hy:B3 T e v y) :
  B9 P (do pure (.value (← Builtin.append_ #[t,xt] ty #[x,y]))) e.w (C4 T c e of' out):=by
 obtain ⟨hty,hst⟩:=A3R hT hxt
 unfold A0i at hr
 split at hr<;>try (cases hr;done)
 rename_i el hk
 obtain ⟨tet,ht1,ht2⟩:=A6 hk
 have ht:=D4 (hT _ _ ht1) ht2
 split at hr<;>try (cases hr;done)
 rename_i te ns ro hel hsrc
 split at hr<;>try (cases hr;done)
 rename_i hc
 simp only [C3o] at hc
 obtain ⟨⟨hby,hno⟩,hz0⟩:=hc
 have hno:=S4 hno
 have hz0:0 < te.size:=by simpa using hz0
 have hz:B1 T el=te.size:=E4 hel
 have src:(∀ id∈ro,of' id=of id)→∃ us,Src P e.w xt y te.size ns.length us∧RV T e (List.replicate ns.length el) ns us:=fun ho=>by
  rw [← hz];exact A3v h hty hst hsrc ho hy
 split at hr
 ·-- a whole slice
  rename_i id ver
  split at hr<;>try (cases hr;done)
  rename_i el' v' xs nl sh hof
  split at hr<;>try (cases hr;done)
  rename_i hc
  simp only [C3o] at hc
  have:=C3n hc.1.1;subst this
  have:=C3n hc.1.2;subst this
  injection hr with hr;subst hr
  obtain ⟨b1,b2⟩:=Y3 hc.2 hby
  obtain ⟨us,s1,s2⟩:=src (fun id A7=>ho id (by simp [A7]))
  exact A6d h hT ht hel hno ((ho _ (by simp)).trans hof) hx s1 s2 b1 b2
 ·rename_i id ver off n
  split at hr<;>try (cases hr;done)
  rename_i el' v' xs sh hof
  split at hr<;>try (cases hr;done)
  rename_i hc
  simp only [C3o,Bool.or_eq_true,Bool.not_eq_true'] at hc
  have:=C3n hc.1.1.1.1;subst this
  have:=C3n hc.1.1.1.2;subst this
  injection hr with hr;subst hr
  obtain ⟨b1,b2⟩:=Y3 hc.2 hby
  obtain ⟨us,s1,s2⟩:=src (fun id A7=>ho id (by simp [A7]))
  exact A16 h hT ht hel hno ((ho _ (by simp)).trans hof) (C3t hc.1.1.2) (hc.1.2.imp C3n (fun q=>q)) hx s1 s2 b1 b2
 ·rename_i t'
  split at hr<;>try (cases hr;done)
  rename_i hc
  simp only [C3o] at hc
  injection hr with hr;subst hr
  obtain ⟨q1,q2⟩:=A9 hc.1
  obtain ⟨b1,b2⟩:=Y3 hc.2 hby
  obtain ⟨us,s1,s2⟩:=src ho
  have hkt:B2 T t'=some (.slice el):=q1.symm.trans hk
  have hv:=C5 hx ⟨_,hkt,rfl⟩
  have hxv:x=.slice none 0 0:=by
   rcases hv.slice_inv hkt with ⟨_,hv⟩ | ⟨ys,ds,a,cap,hv,_⟩
   ·injection hv
   ·cases hv
  subst hxv
  have:=T1 (ty:=ty) (ro:=ro) (xs:=[]) (os:=[]) h hT ht hel hno (hu nx (by simp)) hz0 s1 s2 (.inl ⟨rfl,rfl⟩) (fun w' _=>by simp [Builtin.firstCells]) .nil (by simpa using b1) (by simpa using b2)
  simpa using this
 ·rename_i z
  split at hr<;>try (cases hr;done)
  rename_i hc
  simp only [C3o] at hc
  injection hr with hr;subst hr
  obtain ⟨b1,b2⟩:=Y3 hc.2 hby
  obtain ⟨us,s1,s2⟩:=src ho
  have hxz:x=z:=by
   have hx:RA T e [.z z] [x]:=hx
   cases hx with
   | z _ _=>rfl
   | r g1 _ _=>exact g1.elim
  rw [hxz,A0K hc.1]
  have:=T1 (ty:=ty) (ro:=ro) (xs:=[]) (os:=[]) h hT ht hel hno (hu nx (by simp)) hz0 s1 s2 (.inl ⟨rfl,rfl⟩) (fun w' _=>by simp [Builtin.firstCells]) .nil (by simpa using b1) (by simpa using b2)
  simpa using this
 ·rename_i t' xv
  split at hr<;>try (cases hr;done)
  rename_i hc
  simp only [C3o] at hc
  injection hr with hr;subst hr
  obtain ⟨q1,q2⟩:=A9 hc.1.1
  obtain ⟨b1,b2⟩:=Y3 hc.2 hby
  obtain ⟨us,s1,s2⟩:=src ho
  have hkt:B2 T t'=some (.slice el):=q1.symm.trans hk
  have hne:ns≠[]:=by intro q;subst q;simp at hc
  have hx:RA T e [.q t' xv] [x]:=hx
  cases hx with
  | r g1 _ _=>exact g1.elim
  | q g1 g2 =>
   rcases g1.slice_inv hkt with ⟨rfl,hv⟩ | ⟨ys,ds,a,cap,rfl,hv,r1,r2,r3⟩
   ·injection hv with hv;injection hv with e1 e2 e3
    subst e1;subst e2
    exact T1 (xs:=[]) (os:=[]) h hT ht hel hno (hu nx (by simp)) hz0 s1 s2 (.inr hne) (fun w' _=>by simp [Builtin.firstCells]) .nil b1 b2
   ·injection hv with hv;injection hv with e1 e2 e3
    subst e1;subst e2;subst e3
    have hl:=r3.length.1
    rw [B4,hz] at hl
    refine T1 (xs:=ys) (os:=ds) h hT ht hel hno (hu nx (by simp)) hz0 s1 s2 (.inr hne) (fun w' hw=>?_) r3 b1 b2
    simp only [Builtin.firstCells]
    rw [← hl]
    refine V6 w' a ds (fun j y hj=>?_)
    rw [← (r2.2 j y hj).1]
    simp only [World.cell?,hw]
 ·cases hr
def F3 (d:Int):Option A→Option Int
 | none=>some d
 | some (.i _ k)=>some k
 | _=>none
inductive X4 (T:TT) (e:A8):Option A→Option Value→Prop
 | none:X4 T e none none
 | some {v x}:B3 T e v x→X4 T e (some v) (some x)
theorem X4.mono {e e':A8} (he:e.le e') {v:Option A} {x:Option Value} (h:X4 T e v x):X4 T e' v x:=by
 cases h with
 | none=>exact .none
 | some h=>exact .some (h.mono he)
theorem L1 {k:IntKind} {n:Int} {x:Value} (h:B3 T e (.i k n) x):inR k n:=by
 have h:RA T e [.i k n] [x]:=h
 cases h with
 | i hr _=>exact hr
 | r g1 _ _=>exact g1.elim
theorem B8 {k:IntKind} {n:Int} {x:Value} (h:B3 T e (.i k n) x):x=.int k n:=by
 have h:RA T e [.i k n] [x]:=h
 cases h with
 | i _ _=>rfl
 | r g1 _ _=>exact g1.elim
theorem Y4 {q:Bool} {x:Value} (h:B3 T e (.b q) x):x=.bool q:=by
 have h:RA T e [.b q] [x]:=h
 cases h with
 | b _=>rfl
 | r g1 _ _=>exact g1.elim
theorem N5 {l:List V} {x:Value} (h:B3 T e (.s l) x):∃ s,x=.string s∧l=W9 s:=by
 have h:RA T e [.s l] [x]:=h
 cases h with
 | s _=>exact ⟨_,rfl,rfl⟩
 | r g1 _ _=>exact g1.elim
theorem G6 {k:IntKind} {n:Int} (h:inR k n):B3 T e (.i k n) (.int k n):=RA.i h .nil
theorem A17 (q:Bool):B3 T e (.b q) (.bool q):=RA.b .nil
theorem A3S (s:ByteArray):B3 T e (.s (W9 s)) (.string s):=RA.s .nil
theorem A2G {lo:Option A} {lo':Option Value} {i:Int} {d y:Nat} {code:BoundsCode} {w:World} (h:X4 T e lo lo') (hb:F3 d lo=some i) (h0:0≤i) (h1:i≤y) :
  (match lo' with | some v=>Instr.sliceBound v y code | none=>(Pure.pure d:Sem Nat)).run P w=.ok i.toNat w:=by
 cases h with
 | none=>simp only [F3,C3q] at hb;subst hb;simp
 | some hv =>
  rename_i v x
  cases v<;>simp only [F3,C3q] at hb<;>try (cases hb;done)
  subst hb
  rw [B8 hv]
  simp [Instr.sliceBound,asIntOf,h0,h1]
theorem U5 {lo hi:Option A} {lo' hi':Option Value} {l h:Int} {b:Bool} {n cap:Nat} {w:World} (hlo:X4 T e lo lo') (hhi:X4 T e hi hi') (hl:F3 (0:Nat) lo=some l) (hh:F3 n hi=some h) (h0:0≤l) (h1:l≤h) (h2:h≤n) (h3:n≤cap) :
  (Instr.sliceBounds b n cap lo' hi' none).run P w=.ok (l.toNat,h.toNat,cap) w:=by
 have k1:=A2G (P:=P) (w:=w) (y:=h.toNat) (code:=.sliceB) hlo hl h0 (by omega)
 have k2:=A2G (P:=P) (w:=w) (y:=cap) (code:=if b then .sliceAcap else .sliceAlen) hhi hh (by omega) (by omega)
 cases hlo<;>cases hhi<;>simp only at k1 k2
 ·have e1:l=0:=by simpa [F3] using hl.symm
  have e2:h=n:=by simpa [F3] using hh.symm
  subst e1;subst e2
  simp [Instr.sliceBounds]
 ·have e1:l=0:=by simpa [F3] using hl.symm
  subst e1
  simp [Instr.sliceBounds,k2]
 ·have e2:h=n:=by simpa [F3] using hh.symm
  subst e2
  simp [Instr.sliceBounds] at k1 ⊢
  simp [k1]
 ·simp [Instr.sliceBounds,k2,k1]
variable {P:Program} {T:TT} {c:F1} {e:A8} {of:Nat→Option Ob}
theorem A29 {t el:TypeId} {te:TE} (h:A5 T c e of) (hT:F4 T P) (ht:P.underlying t=some (.slice el)) (hel:T el=some te) {id ver off n:Nat} {x:Value} {lo hi:Option A} {lo' hi':Option Value} {l hh:Int} {xs:List V} {nl sh:Bool} (ho:of id=some (.row el ver xs nl sh))
  (hx:B3 T e (.w id ver off n) x) (hlo:X4 T e lo lo') (hhi:X4 T e hi hi') (hl:F3 (0:Nat) lo=some l) (hh':F3 n hi=some hh) (h0:0≤l) (h1:l≤hh) (h2:hh≤n) {ro:List Nat} :
  B9 P (do pure (.value (← Instr.sliceAt t x lo' hi' none))) e.w (C4 T c e of ⟨.w id ver (off+l.toNat) (hh - l).toNat,[],ro,[]⟩):=by
 obtain ⟨v0,v1,v2,v3,v4,v5,h6⟩:=G3 h ho
 have hz:B1 T el=te.size:=E4 hel
 have hn':hh.toNat - l.toNat=(hh - l).toNat:=by omega
 obtain ⟨b,o,cap,k,k1,k2,k3,k4,k5,rfl⟩:=N8 hx v2
 have hb:=U5 (P:=P) (b:=true) (cap:=cap) (w:=e.w) hlo hhi hl hh' h0 h1 h2 k2
 refine A1 (x:=.slice (some (if cap=l.toNat then ⟨b,k,none⟩ else (⟨b,k,none⟩:Addr).add (l.toNat * te.size))) (hh.toNat - l.toNat) (cap - l.toNat)) ?_ (A4 h (v:=.w id ver (off+l.toNat) (hh - l).toNat) ?_)
 ·simp [Instr.sliceAt,Instr.slice,A2 ht,hb,C7 (hT _ _ hel)]
  split<;>rfl
 ·rw [hn']
  by_cases hc:cap=l.toNat
  ·rw [if_pos hc]
   exact RA.r ⟨rfl,v0,by omega,v1,fun _=>⟨b,o,cap - l.toNat,k,k1,by omega,by omega,by rw [← k4];congr 2;omega,fun hp=>by omega,rfl⟩⟩ rfl .nil
  ·rw [if_neg hc,C2]
   refine RA.r ⟨rfl,v0,by omega,v1,fun _=>⟨b,o,cap - l.toNat,_,k1,by omega,by omega,by rw [← k4];congr 2;omega,fun hp=>?_,rfl⟩⟩ rfl .nil
   rw [k5 (by omega),v3,hz,Nat.add_mul];omega
def A3T (y:V) (lo n:Nat):V :=
 match y with
 | .n=>.n
 | y=>.l ((y.els.drop lo).take n)
theorem A3a {t t' el:TypeId} {te:TE} (h:A5 T c e of) (hT:F4 T P) (ht:P.underlying t=some (.slice el)) (hel:T el=some te) (hk:B2 T t'=some (.slice el)) {y:V} {x:Value} {lo hi:Option A} {lo' hi':Option Value} {l hh:Int}
  (hx:B3 T e (.v t' y) x) (hlo:X4 T e lo lo') (hhi:X4 T e hi hi') (hl:F3 (0:Nat) lo=some l) (hh':F3 y.els.length hi=some hh) (h0:0≤l) (h1:l≤hh) (h2:hh≤y.els.length) {ro:List Nat} :
  B9 P (do pure (.value (← Instr.sliceAt t x lo' hi' none))) e.w (C4 T c e of ⟨.v t' (A3T y l.toNat (hh - l).toNat),[],ro,[]⟩):=by
 have hz:B1 T el=te.size:=E4 hel
 have hn':hh.toNat - l.toNat=(hh - l).toNat:=by omega
 have hv:=C5 hx ⟨_,hk,rfl⟩
 have hz1:B1 T t'=1:=by have:=hv.one_len;simpa using this.symm
 have mk:∀ (z:V) (v:Value),RV T e [t'] [z] [v]→B3 T e (.v t' z) v:=fun z v hr=>by
  have ho:=hr.one v (by simp)
  refine ⟨by rw [E6 ho];exact hr,?_⟩
  constructor
  ·rintro ⟨k,q1,q2⟩;rw [hk] at q1;cases q1;cases q2
  ·rintro ⟨cs,rfl⟩;simp [one] at ho
 rcases hv.slice_inv hk with ⟨rfl,hvv⟩ | ⟨ys,ds,a,cap,rfl,hvv,r1,r2,r3⟩
 ·injection hvv with hvv;subst hvv
  have e1:hh=0:=by simp [V.els] at h2;omega
  have e2:l=0:=by omega
  subst e1;subst e2
  have hb:=U5 (P:=P) (b:=true) (n:=0) (cap:=0) (w:=e.w) hlo hhi hl hh' (by omega) (by omega) (by simp) (by simp)
  refine A1 (x:=.slice none 0 0) ?_ (A4 h (v:=.v t' .n) (mk _ _ (.nils hk hz1 .nil)))
  simp [Instr.sliceAt,Instr.slice,A2 ht,hb,C7 (hT _ _ hel)]
 ·injection hvv with hvv;subst hvv
  simp only [V.els] at hh' h2 ⊢
  have hb:=U5 (P:=P) (b:=true) (cap:=cap) (w:=e.w) hlo hhi hl hh' h0 h1 h2 r1
  refine A1 (x:=.slice (some (if cap=l.toNat then a else a.add (l.toNat * te.size))) (hh.toNat - l.toNat) (cap - l.toNat)) ?_ (A4 h (v:=.v t' (A3T (.l ys) l.toNat (hh - l).toNat)) (mk _ _ ?_))
  ·simp [Instr.sliceAt,Instr.slice,A2 ht,hb,C7 (hT _ _ hel)]
   split<;>rfl
  ·rw [hn']
   obtain ⟨as0,bs,zs,rfl,q1,q2,q3,q4⟩:=G4 r3 (off:=l.toNat) (n:=(hh - l).toNat) (by omega)
   have hlen:((ys.drop l.toNat).take (hh - l).toNat).length=(hh - l).toNat:=by rw [q3.length.2];simp
   refine .slice hk hz1 hlen (by omega) ?_ q3 .nil
   by_cases hc:cap=l.toNat
   ·rw [if_pos hc]
    have:bs=[]:=List.eq_nil_of_length_eq_zero (by rw [q2,show (hh - l).toNat=0 by omega];simp)
    subst this
    exact ⟨fun q=>absurd rfl q,fun j y hj=>by simp at hj⟩
   ·rw [if_neg hc]
    by_cases hbs:bs=[]
    ·subst hbs;exact ⟨fun q=>absurd rfl q,fun j y hj=>by simp at hj⟩
    obtain ⟨b,o,s⟩:=a
    have hs:s=none:=r2.1 (by simp [hbs])
    subst hs
    rw [C2]
    refine ⟨fun _=>rfl,fun j y hj=>?_⟩
    have:=r2.2 (l.toNat * te.size+j) y (by
     have:=J7 (pre:=as0) (post:=zs) hj
     rw [q1,hz] at this;exact this)
    rw [C2] at this ⊢
    rw [show o+l.toNat * te.size+j=o+(l.toNat * te.size+j) by omega]
    exact this
theorem A7f {t t1 el:TypeId} {te:TE} (h:A5 T c e of) (hT:F4 T P) (ht:P.underlying t=some (.slice el)) (hel:T el=some te) {na:Nat} (hk1:B2 T t1=some (.arr na el)) {id:Nat} {path:List Nat} {lo0 m:Nat} {x:Value} {lo hi:Option A} {lo' hi':Option Value} {l hh:Int}
  (hx:B3 T e (.a id t1 path lo0 m) x) (hlo:X4 T e lo lo') (hhi:X4 T e hi hi') (hl:F3 (0:Nat) lo=some l) (hh':F3 m hi=some hh) (h0:0≤l) (h1:l≤hh) (h2:hh≤m) {ro:List Nat} :
  B9 P (do pure (.value (← Instr.sliceAt t x lo' hi' none))) e.w (C4 T c e of ⟨.a id t1 path (lo0+l.toNat) (hh - l).toNat,[],ro,[]⟩):=by
 have hz:B1 T el=te.size:=E4 hel
 have hn':hh.toNat - l.toNat=(hh - l).toNat:=by omega
 obtain ⟨b,off,n,el',k,cap,u0,u1,u2,u3,u4,u5,u6,u7,rfl⟩:=S3 hx
 rw [hk1] at u4;cases u4
 have hb:=U5 (P:=P) (b:=true) (cap:=cap) (w:=e.w) hlo hhi hl hh' h0 h1 h2 u6
 refine A1 (x:=.slice (some (if cap=l.toNat then ⟨b,k,none⟩ else (⟨b,k,none⟩:Addr).add (l.toNat * te.size))) (hh.toNat - l.toNat) (cap - l.toNat)) ?_ (A4 h (v:=.a id t1 path (lo0+l.toNat) (hh - l).toNat) ?_)
 ·simp [Instr.sliceAt,Instr.slice,A2 ht,hb,C7 (hT _ _ hel)]
  split<;>rfl
 ·rw [hn']
  by_cases hc:cap=l.toNat
  ·rw [if_pos hc];exact RA.r ⟨b,off,_,_,k,cap - l.toNat,u0,u1,u2,u3,hk1,by omega,by omega,fun hp=>by omega,rfl⟩ rfl .nil
  ·rw [if_neg hc,C2]
   refine RA.r ⟨b,off,_,_,_,cap - l.toNat,u0,u1,u2,u3,hk1,by omega,by omega,fun _=>?_,rfl⟩ rfl .nil
   rw [u7 (by omega),← hz,Nat.add_mul];omega
theorem A7g {t t1 el:TypeId} {n:Nat} {te:TE} (h:A5 T c e of) (hT:F4 T P) (ht:P.underlying t=some (.array n el)) (hel:T el=some te) (hk1:B2 T t1=some (.arr n el)) {id:Nat} {path:List Nat} {x:Value} {lo hi:Option A} {lo' hi':Option Value} {l hh:Int}
  (hx:B3 T e (.p id t1 path) x) (hlo:X4 T e lo lo') (hhi:X4 T e hi hi') (hl:F3 (0:Nat) lo=some l) (hh':F3 n hi=some hh) (h0:0≤l) (h1:l≤hh) (h2:hh≤n) {ro:List Nat} :
  B9 P (do pure (.value (← Instr.sliceAt t x lo' hi' none))) e.w (C4 T c e of ⟨.a id t1 path l.toNat (hh - l).toNat,[],ro,[]⟩):=by
 have hz:B1 T el=te.size:=E4 hel
 have hn':hh.toNat - l.toNat=(hh - l).toNat:=by omega
 obtain ⟨b,off,u0,u1,u2,u3,rfl⟩:=F6 hx
 have hb:=U5 (P:=P) (b:=false) (cap:=n) (w:=e.w) hlo hhi hl hh' h0 h1 h2 (Nat.le_refl _)
 refine A1 (x:=.slice (some (if n=l.toNat then ⟨b,off,none⟩ else (⟨b,off,none⟩:Addr).add (l.toNat * te.size))) (hh.toNat - l.toNat) (n - l.toNat)) ?_ (A4 h (v:=.a id t1 path l.toNat (hh - l).toNat) ?_)
 ·simp [Instr.sliceAt,Instr.sureAddr,A2 ht,hb,C7 (hT _ _ hel)]
  try (split<;>rfl)
 ·rw [hn']
  by_cases hc:n=l.toNat
  ·rw [if_pos hc];exact RA.r ⟨b,off,n,el,off,n - l.toNat,u0,u1,u2,u3,hk1,by omega,by omega,fun hp=>by omega,rfl⟩ rfl .nil
  ·rw [if_neg hc,C2];exact RA.r ⟨b,off,n,el,_,n - l.toNat,u0,u1,u2,u3,hk1,by omega,by omega,fun _=>by rw [hz],rfl⟩ rfl .nil
theorem A4Y {t:TypeId} {s:List V} {x:Value} {lo hi:Option A} {lo' hi':Option Value} {l hh:Int} (h:A5 T c e of) (ht:P.underlying t=some .string) (hx:B3 T e (.s s) x) (hlo:X4 T e lo lo') (hhi:X4 T e hi hi') (hl:F3 (0:Nat) lo=some l) (hh':F3 s.length hi=some hh)
  (h0:0≤l) (h1:l≤hh) (h2:hh≤s.length) {ro:List Nat}:B9 P (do pure (.value (← Instr.sliceAt t x lo' hi' none))) e.w (C4 T c e of ⟨.s ((s.drop l.toNat).take (hh - l).toNat),[],ro,[]⟩):=by
 obtain ⟨bs,rfl,rfl⟩:=N5 hx
 have hsz:(W9 bs).length=bs.size:=by unfold W9;rw [C3r,C3u];rfl
 rw [hsz] at hh' h2
 have hb:=U5 (P:=P) (b:=false) (n:=bs.size) (cap:=bs.size) (w:=e.w) hlo hhi hl hh' h0 h1 h2 (Nat.le_refl _)
 refine A1 (x:=.string (bs.extract l.toNat hh.toNat)) ?_ (A4 h ?_)
 ·simp [Instr.sliceAt,Instr.slice,A2 ht,hb]
 ·have:((W9 bs).drop l.toNat).take (hh - l).toNat=W9 (bs.extract l.toNat hh.toNat):=by
   unfold W9
   rw [← List.map_drop,← List.map_take]
   congr 1
   rw [ByteArray.data_extract,Array.toList_extract]
   simp only [List.extract_eq_take_drop]
   congr 1
   omega
  rw [this]
  exact A3S _
theorem A3b {lo:Option A} {lo':Option Value} {l hh:Int} {k1 k2:IntKind} {b:Bool} {n cap:Nat} {w:World} (hlo:X4 T e lo lo') (hl:F3 (0:Nat) lo=some l) (h0:0≤l) (h1:l≤hh) (h3:hh≤cap) :
  (Instr.sliceBounds b n cap lo' (some (.int k1 hh)) (some (.int k2 hh))).run P w=.ok (l.toNat,hh.toNat,hh.toNat) w:=by
 have hmax:max hh 0=hh:=by omega
 have hh0:0≤hh:=by omega
 have q1:=A2G (P:=P) (w:=w) (y:=hh.toNat) (code:=.slice3C) hlo hl h0 (by omega)
 cases hlo<;>simp only at q1
 ·have e1:l=0:=by simpa [F3] using hl.symm
  subst e1
  simp [Instr.sliceBounds,Instr.sliceBound,asIntOf,hh0,h3,hmax]
 ·have b1:(Instr.sliceBound (.int k2 hh) cap (if b then .slice3Acap else .slice3Alen)).run P w=.ok hh.toNat w:=by
   simp [Instr.sliceBound,asIntOf,hh0,h3]
  have b2:(Instr.sliceBound (.int k1 hh) hh.toNat .slice3B).run P w=.ok hh.toNat w:=by
   simp [Instr.sliceBound,asIntOf,hh0,hmax]
  simp [Instr.sliceBounds,b1,b2,q1]
theorem A6e {t t' el:TypeId} {te:TE} (h:A5 T c e of) (hT:F4 T P) (ht:P.underlying t=some (.slice el)) (hel:T el=some te) (hk:B2 T t'=some (.slice el)) {y:V} {x:Value} {lo:Option A} {lo':Option Value} {hi mx:A} {hi' mx':Value} {l hh:Int} {k1 k2:IntKind}
  (hx:B3 T e (.v t' y) x) (hlo:X4 T e lo lo') (hl:F3 (0:Nat) lo=some l) (hhi:B3 T e hi hi') (hmx:B3 T e mx mx') (e1:hi=.i k1 hh) (e2:mx=.i k2 hh) (h0:0≤l) (h1:l≤hh) (h2:hh≤y.els.length) {ro:List Nat} :
  B9 P (do pure (.value (← Instr.sliceAt t x lo' (some hi') (some mx')))) e.w (C4 T c e of ⟨.q t' (A3T y l.toNat (hh - l).toNat),[],ro,[]⟩):=by
 subst e1;subst e2
 rw [B8 hhi,B8 hmx]
 have hz:B1 T el=te.size:=E4 hel
 have hn':hh.toNat - l.toNat=(hh - l).toNat:=by omega
 have hv:=C5 hx ⟨_,hk,rfl⟩
 have hz1:B1 T t'=1:=by have:=hv.one_len;simpa using this.symm
 rcases hv.slice_inv hk with ⟨rfl,hvv⟩ | ⟨ys,ds,a,cap,rfl,hvv,r1,r2,r3⟩
 ·injection hvv with hvv;subst hvv
  have e1:hh=0:=by simp [V.els] at h2;omega
  have e2:l=0:=by omega
  subst e1;subst e2
  have hb:=A3b (P:=P) (b:=true) (n:=0) (cap:=0) (k1:=k1) (k2:=k2) (hh:=0) (w:=e.w) hlo hl (by omega) (by omega) (by simp)
  refine A1 (x:=.slice none 0 0) ?_ (A4 h (v:=.q t' .n) (RA.q (.nils hk hz1 .nil) .nil))
  simp [Instr.sliceAt,Instr.slice,A2 ht,C7 (hT _ _ hel),hb]
 ·injection hvv with hvv;subst hvv
  simp only [V.els] at h2 ⊢
  have hb:=A3b (P:=P) (b:=true) (n:=ys.length) (cap:=cap) (k1:=k1) (k2:=k2) (w:=e.w) hlo hl h0 h1 (by omega)
  refine A1 (x:=.slice (some (if hh.toNat=l.toNat then a else a.add (l.toNat * te.size))) (hh.toNat - l.toNat) (hh.toNat - l.toNat)) ?_ (A4 h (v:=.q t' (A3T (.l ys) l.toNat (hh - l).toNat)) (RA.q ?_ .nil))
  ·simp [Instr.sliceAt,Instr.slice,A2 ht,C7 (hT _ _ hel),hb]
   split<;>rfl
  ·rw [hn']
   obtain ⟨as0,bs,zs,rfl,q1,q2,q3,q4⟩:=G4 r3 (off:=l.toNat) (n:=(hh - l).toNat) (by omega)
   have hlen:((ys.drop l.toNat).take (hh - l).toNat).length=(hh - l).toNat:=by rw [q3.length.2];simp
   refine .slice hk hz1 hlen (Nat.le_refl _) ?_ q3 .nil
   by_cases hc:hh.toNat=l.toNat
   ·rw [if_pos hc]
    have:bs=[]:=List.eq_nil_of_length_eq_zero (by rw [q2,show (hh - l).toNat=0 by omega];simp)
    subst this
    exact ⟨fun q=>absurd rfl q,fun j y hj=>by simp at hj⟩
   ·rw [if_neg hc]
    by_cases hbs:bs=[]
    ·subst hbs;exact ⟨fun q=>absurd rfl q,fun j y hj=>by simp at hj⟩
    obtain ⟨b,o,s⟩:=a
    have hs:s=none:=r2.1 (by simp [hbs])
    subst hs
    rw [C2]
    refine ⟨fun _=>rfl,fun j y hj=>?_⟩
    have:=r2.2 (l.toNat * te.size+j) y (by
     have:=J7 (pre:=as0) (post:=zs) hj
     rw [q1,hz] at this;exact this)
    rw [C2] at this ⊢
    rw [show o+l.toNat * te.size+j=o+(l.toNat * te.size+j) by omega]
    exact this
variable {P:Program} {T:TT} {c:F1} {e:A8} {of:Nat→Option Ob}
theorem B0Z (off:Nat):∀ (vs:List Value) (k:Nat) (cs:Array Value),off+k+vs.length≤cs.size →
  ((vs.zipIdx k).foldl (fun (cs:Array Value) (p:Value×Nat)=>cs.setIfInBounds (off+p.2) p.1) cs).toList=cs.toList.take (off+k)++vs++cs.toList.drop (off+k+vs.length):=by
 intro vs
 induction vs with
 | nil=>intro k cs _;simp
 | cons v vs ih =>
  intro k cs h
  simp only [C3v] at h
  rw [List.zipIdx_cons,List.foldl_cons,ih (k+1) _ (by simp;omega)]
  have hlt:off+k < cs.toList.length:=by rw [C3u];omega
  have hti:(cs.toList.take (off+k)).length=off+k:=by rw [List.length_take];omega
  have e1:(cs.toList.take (off+k)++v::cs.toList.drop (off+k+1)).take (off+(k+1))=cs.toList.take (off+k)++[v]:=by
   rw [List.take_append,hti,List.take_of_length_le (by omega),show off+(k+1) - (off+k)=1 from by omega];rfl
  have e2:(cs.toList.take (off+k)++v::cs.toList.drop (off+k+1)).drop (off+(k+1)+vs.length)=cs.toList.drop (off+k+(vs.length+1)):=by
   rw [List.drop_append,hti,List.drop_of_length_le (by omega),show off+(k+1)+vs.length - (off+k)=vs.length+1 from by omega,List.drop_succ_cons,List.drop_drop,List.nil_append]
   congr 1;omega
  rw [Array.toList_setIfInBounds,List.set_eq_take_append_cons_drop,if_pos hlt,e1,e2]
  simp
theorem A7h {place:Nat→Option (Nat×Nat)} {cells:Array Value} {i off size:Nat} {v:Value} {rest:List (Nat×Value)} (hp:place i=some (off,size)) (hv:v.cells.size=size) (hl:off+size≤cells.size) :
  ∃ cells':Array Value,Instr.fill place cells ((i,v)::rest)=Instr.fill place cells' rest∧cells'.toList=cells.toList.take off++v.cells.toList++cells.toList.drop (off+size):=by
 refine ⟨v.cells.zipIdx.foldl (fun cs (p:Value×Nat)=>cs.setIfInBounds (off+p.2) p.1) cells,?_,?_⟩
 ·simp only [Instr.fill,hp]
  rw [if_neg (by simp [hv];omega)]
 ·have:=B0Z off v.cells.toList 0 cells (by rw [C3u];omega)
  rw [Nat.add_zero,C3u,hv] at this
  rw [← this,← Array.foldl_toList,Array.toList_zipIdx]
inductive A3U (T:TT) (e:A8):List (Nat×A)→List (Nat×Value)→Prop
 | nil:A3U T e [] []
 | cons {i v x r s}:B3 T e v x→A3U T e r s→A3U T e ((i,v)::r) ((i,x)::s)
theorem A3U.mono {e e':A8} (he:e.le e') {l:List (Nat×A)} {m:List (Nat×Value)} (h:A3U T e l m):A3U T e' l m:=by
 induction h with
 | nil=>exact .nil
 | cons h1 _ ih=>exact .cons (h1.mono he) ih
def A7i (T:TT) (ts:List Nat):A→List (Nat×A)→Option A
 | cur,[]=>some cur
 | cur,(i,a)::rest=>match ts[i]? with
  | some ct=>match H7 T ct a with
   | some a'=>match A0S T cur [i] a' with
    | some cur'=>A7i T ts cur' rest
    | none=>none
   | none=>none
  | none=>none
theorem B5r {t i ct:Nat} {ts:List Nat} (h:chT T t=some ts) (hi:ts[i]? = some ct):Pth T t [i] ct (szs T (ts.take i)+0):=by
 unfold chT at h
 split at h
 ·rename_i fs hk;injection h with h;subst h;exact .fld hk hi .nil
 ·rename_i n el hk
  injection h with h;subst h
  rw [List.getElem?_replicate] at hi
  split at hi
  ·rename_i hlt
   injection hi with hi;subst hi
   rw [List.take_replicate,B4,Nat.min_eq_left (by omega)]
   exact .idx hk hlt .nil
  ·cases hi
 ·cases h
theorem A3V {t:Nat} {ts:List Nat} {place:Nat→Option (Nat×Nat)} (hc:chT T t=some ts) (hpl:∀ (i ct:Nat),ts[i]? = some ct→place i=some (szs T (ts.take i),B1 T ct)) :
  ∀ {parts:List (Nat×A)} {vals:List (Nat×Value)} {cur r:A} {cells:Array Value},A3U T e parts vals→RA T e [cur] cells.toList→B6 T t cur=true→A7i T ts cur parts=some r →
  ∃ cells':Array Value,Instr.fill place cells vals=some cells'∧RA T e [r] cells'.toList∧B6 T t r=true:=by
 intro parts
 induction parts with
 | nil=>intro vals cur r cells hp hr hf h;cases hp;simp only [A7i,C3q] at h;subst h;exact ⟨cells,rfl,hr,hf⟩
 | cons p rest ih =>
  intro vals cur r cells hp hr hf h
  cases hp with | @cons i v x _ s hv hp =>
  simp only [A7i] at h
  split at h<;>try (cases h;done)
  rename_i ct hct
  split at h<;>try (cases h;done)
  rename_i a' ha'
  split at h<;>try (cases h;done)
  rename_i cur' hcur
  obtain ⟨r1,r2⟩:=A1e hv ha'
  obtain ⟨pre,d,post,q1,q2,q3,q4,q5⟩:=A1x [i] hr hf (B5r hc hct) r1 r2 hcur
  have hw:=r1.width r2
  rw [C3u] at hw
  have hcl:cells.size=pre.length+(d.length+post.length):=by
   have:=congrArg List.length q1;simpa using this
  obtain ⟨cells',f1,f2⟩:=A7h (cells:=cells) (v:=x) (rest:=s) (hpl i ct hct) hw (by omega)
  have hlen:x.cells.toList.length=B1 T ct:=by rw [C3u];exact hw
  rw [← hlen,A1z q1 (by omega) (by omega)] at f2
  rw [← f2] at q4
  obtain ⟨cells2,g1,g2,g3⟩:=ih hp q4 q5 h
  exact ⟨cells2,f1.trans g1,g2,g3⟩
def A95 (T:TT):List Nat→Bool
 | []=>true
 | t::r=>(T t).isSome&&A95 T r
theorem A8B:∀ {l:List Nat},A95 T l=true→∀ t∈l,∃ te,T t=some te:=by
 intro l
 induction l with
 | nil=>intro _ t h;cases h
 | cons a r ih =>
  intro h t ht
  simp only [A95,C3o] at h
  rcases List.mem_cons.1 ht with rfl | ht
  ·exact C3s.1 h.1
  ·exact ih h.2 t ht
theorem A8C (hT:F4 T P) (w:World):∀ (fs:List Field),(∀ f∈fs,∃ te,T f.type=some te) →
  (fs.mapM (m:=Sem) fun f=>Prod.mk f.offset <$> sizeOf f.type).run P w=.ok (fs.map fun f=>(f.offset,B1 T f.type)) w:=by
 intro fs
 induction fs with
 | nil=>intro _;simp
 | cons f r ih =>
  intro h
  obtain ⟨te,hte⟩:=h f (by simp)
  have hr:=C7 (hT _ _ hte) w
  rw [List.mapM_cons]
  simp only [Sem.run_bind,Sem.run_map,hr,Result.andThen_ok,Sem.run_pure]
  rw [ih (fun f hf=>h f (by simp [hf]))]
  simp [E4 hte]
def A7j:List A→Option (List V)
 | []=>some []
 | a::r=>match A2q a,A7j r with
  | some x,some xs=>some (x::xs)
  | _,_=>none
def A7k (t:Nat):A→A
 | .g t' l=>match A7j l with
  | some xs=>.v t' (.l xs)
  | none=>.g t' l
 | a=>a
theorem A8D:∀ {ts:List Nat} {l:List A} {xs:List V} {ds:List Value},RA T e l ds→X6 T ts l=true→A7j l=some xs→RV T e ts xs ds:=by
 intro ts
 induction ts with
 | nil =>
  intro l xs ds h hf hp
  cases l with
  | nil=>simp [A7j] at hp;subst hp;cases h;exact .nil
  | cons a l=>simp [X6] at hf
 | cons t ts ih =>
  intro l xs ds h hf hp
  cases l with
  | nil=>simp [X6] at hf
  | cons a l =>
   simp only [X6,C3o] at hf
   simp only [A7j] at hp
   split at hp<;>try (cases hp;done)
   rename_i x xs' h1 h2
   injection hp with hp;subst hp
   obtain ⟨d,r,rfl,k1,k2⟩:=h.uncons
   exact (A3H k1 hf.1 h1).append (ih k2 hf.2 h2)
theorem A8E {t:Nat} {a:A} {d:List Value} (h:RA T e [a] d) (hf:B6 T t a=true):RA T e [A7k t a] d∧B6 T t (A7k t a)=true:=by
 cases a with
 | g t' l =>
  simp only [A7k]
  split
  ·rename_i xs hp
   simp only [B6] at hf
   have:=C3n hf
   subst this
   cases h with
   | g g1 g2 g3 g4 g5 =>
    cases g5
    rw [List.append_nil]
    exact ⟨.v1 ((A8D g4 g2 hp).whole g1 g3),G9 _ _⟩
   | r g1 _ _=>exact g1.elim
  ·exact ⟨h,hf⟩
 | _=>exact ⟨h,hf⟩
def B8y (T:TT) (t:Nat):List Nat :=
 match B2 T t with
 | some (.struct fs)=>fs
 | some (.arr _ el)=>[el]
 | _=>[]
def A6f (T:TT) (t:Nat) (parts:List (Nat×A)):Option A :=
 match T t with
 | some te=>match chT T t with
  | some ts=>if TK.notOther te.k&&A95 T (B8y T t) then (match A7i T ts (.v t te.zero) parts with
   | some r=>some (A7k t r)
   | none=>none) else none
  | none=>none
 | none=>none
theorem B00 (hT:F4 T P) {t:Nat} {parts:List (Nat×A)} {vals:List (Nat×Value)} {r:A} (h:A5 T c e of) (hp:A3U T e parts vals) (hb:A6f T t parts=some r) {ro:List Nat} :
  B9 P (do pure (.value (← Instr.build t vals.toArray))) e.w (C4 T c e of ⟨r,[],ro,[]⟩):=by
 unfold A6f at hb
 split at hb<;>try (cases hb;done)
 rename_i te hte
 split at hb<;>try (cases hb;done)
 rename_i ts hts
 split at hb<;>try (cases hb;done)
 rename_i hc
 simp only [C3o] at hc
 split at hb<;>try (cases hb;done)
 rename_i r0 hfill
 injection hb with hb;subst hb
 obtain ⟨z,h1,h2,h3⟩:=A4v (hT _ _ hte) e.w
 have hz:RV T e [t] [te.zero] z.cells.toList:=h2.elim (fun q=>q e) (fun q=>absurd q (S4 hc.1))
 have hall:=A8B hc.2
 have fin:∀ cells:Array Value,RA T e [r0] cells.toList→B6 T t r0=true→B3 T e (A7k t r0) (.agg cells):=fun cells hr hf=>by
  obtain ⟨k1,k2⟩:=A8E hr hf
  have hag:te.k.agg=true:=by
   have:=hts
   unfold chT at this
   rw [G2 hte] at this
   cases hk:te.k<;>simp [hk,TK.agg] at this ⊢
  rcases Z7 hte k1 k2 with ⟨_,hx⟩ | ⟨q,_⟩
  ·simpa using hx
  ·rw [hag] at q;cases q
 cases hk:te.k with
 | struct fs =>
  have hct:chT T t=some fs:=by simp [chT,G2 hte,hk]
  rw [hct] at hts;injection hts with hts;subst hts
  obtain ⟨gs,g1,g2,g3⟩:=J6 (hT _ _ hte) hk
  have hpl:(gs.mapM (m:=Sem) fun f=>Prod.mk f.offset <$> sizeOf f.type).run P e.w=.ok (gs.map fun f=>(f.offset,B1 T f.type)) e.w:=by
   have:=A8C hT e.w gs.toList (fun f hf=>hall _ (by simp only [B8y,G2 hte,hk];rw [← g2];exact List.mem_map.2 ⟨f,hf,rfl⟩))
   rw [Array.mapM_eq_mapM_toList,Sem.run_map,this]
   show Result.ok _ e.w=_
   congr 1
   apply Array.ext';simp
  obtain ⟨cells,f1,f2,f3⟩:=A3V (place:=fun i=>(gs.map fun f=>(f.offset,B1 T f.type))[i]?) hct (fun i ct hi=>by
   obtain ⟨g,hg,rfl⟩:=X7 g2 hi
   simp [hg,g3 _ _ hg]) hp (.v1 hz) (G9 _ _) hfill
  refine A1 (x:=.agg cells) (w':=e.w) ?_ (A4 h (fin cells f2 f3))
  simp at f1
  simp [Instr.build,h1,A2 g1,hpl,f1]
 | arr n el =>
  have hct:chT T t=some (List.replicate n el):=by simp [chT,G2 hte,hk]
  rw [hct] at hts;injection hts with hts;subst hts
  have hu:=L9 (hT _ _ hte) hk
  obtain ⟨te',hel⟩:=hall el (by simp [B8y,G2 hte,hk])
  obtain ⟨cells,f1,f2,f3⟩:=A3V (place:=fun i=>some (i * B1 T el,B1 T el)) hct (fun i ct hi=>by
   rw [List.getElem?_replicate] at hi
   split at hi
   ·rename_i hlt
    injection hi with hi;subst hi
    rw [List.take_replicate,B4,Nat.min_eq_left (by omega)]
   ·cases hi) hp (.v1 hz) (G9 _ _) hfill
  refine A1 (x:=.agg cells) (w':=e.w) ?_ (A4 h (fin cells f2 f3))
  rw [E4 hel] at f1
  simp [Instr.build,h1,A2 hu,C7 (hT _ _ hel),f1]
 | _=>simp [chT,G2 hte,hk] at hts
variable {P:Program} {T:TT} {c:F1} {e:A8} {of:Nat→Option Ob}
theorem A6g:∀ (l:List (Nat×Ob)) (f g:Nat→Option Ob) (j:Nat),f j=g j→put f l j=put g l j:=by
 intro l
 induction l with
 | nil=>intro f g j h;exact h
 | cons q r ih =>
  intro f g j h
  obtain ⟨k,o⟩:=q
  refine ih _ _ j ?_
  simp only [D3]
  split
  ·rfl
  ·exact h
def U1 (l:List (Nat×Ob)):List Nat:=l.map (·.1)
theorem A8F {of of':Nat→Option Ob} {t:Nat} {a:A} {x:V} {id:Nat} {o:Ob} (h:X2 T of t a=some (x,id,o)) (ho:of' id=of id):X2 T of' t a=some (x,id,o):=by
 cases a with
 | o id' ver =>
  have A7:id'=id:=by
   simp only [X2] at h
   split at h<;>try (cases h;done)
   split at h<;>try (cases h;done)
   injection h with h;injection h with _ h;injection h
  subst A7
  simp only [X2] at h ⊢
  rw [ho];exact h
 | w id' ver off n =>
  have A7:id'=id:=by
   simp only [X2] at h
   split at h<;>try (cases h;done)
   split at h<;>try (cases h;done)
   injection h with h;injection h with _ h;injection h
  subst A7
  simp only [X2] at h ⊢
  rw [ho];exact h
 | a id' t1 path lo m =>
  have A7:id'=id:=by
   simp only [X2] at h
   split at h<;>try (cases h;done)
   split at h<;>try (cases h;done)
   split at h<;>try (cases h;done)
   injection h with h;injection h with _ h;injection h
  subst A7
  simp only [X2] at h ⊢
  rw [ho];exact h
 | _=>simp [X2] at h
theorem Y5:∀ (d:Nat),(∀ (of of':Nat→Option Ob) (t:Nat) (a:A) (x:V) (wo:List (Nat×Ob)),J0 T d of t a=some (x,wo)→(∀ id∈U1 wo,of' id=of id)→J0 T d of' t a=some (x,wo)) ∧
  (∀ (of of':Nat→Option Ob) (ts:List Nat) (as0:List A) (xs:List V) (wo:List (Nat×Ob)),A0m T d of ts as0=some (xs,wo)→(∀ id∈U1 wo,of' id=of id)→A0m T d of' ts as0=some (xs,wo)):=by
 intro d
 induction d with
 | zero=>exact ⟨fun of of' t a x wo h _=>by simp [J0] at h,fun of of' ts as0 xs wo h _=>by simp [A0m] at h⟩
 | succ d ih =>
  obtain ⟨ih1,ih2⟩:=ih
  refine ⟨fun of of' t a x wo hv ho=>?_,fun of of' ts as0 xs wo hv ho=>?_⟩
  ·have sl:(match X2 T of t a with | some (x,id,o)=>some (x,[(id,o)]) | none=>none)=some (x,wo)→(match X2 T of' t a with | some (x,id,o)=>some (x,[(id,o)]) | none=>none)=some (x,wo):=by
    intro hv
    split at hv
    ·rename_i x' id o hs
     injection hv with hv;injection hv with h1 h2
     subst h1;subst h2
     rw [A8F hs (ho id (by simp [U1]))]
    ·cases hv
   cases a with
   | o id ver=>simp only [J0] at hv ⊢;exact sl hv
   | w id ver off n=>simp only [J0] at hv ⊢;exact sl hv
   | a id t1 path lo m=>simp only [J0] at hv ⊢;exact sl hv
   | g t' l =>
    simp only [J0] at hv ⊢
    split at hv
    ·rename_i hs
     rw [if_pos hs]
     split at hv
     ·rename_i ts hts
      split at hv
      ·rename_i xs wo' hxs
       injection hv with hv;injection hv with h1 h2
       subst h1;subst h2
       rw [ih2 of of' _ _ _ _ hxs ho]
      ·cases hv
     ·cases hv
    ·cases hv
   | q t' y=>simpa only [J0] using hv
   | i k n=>simpa only [J0] using hv
   | b y=>simpa only [J0] using hv
   | s y=>simpa only [J0] using hv
   | z y=>simpa only [J0] using hv
   | v t' y=>simpa only [J0] using hv
   | p _ _ _=>simpa only [J0] using hv
   | e _ _ _ _ _=>simpa only [J0] using hv
   | c _ _=>simpa only [J0] using hv
   | m _=>simpa only [J0] using hv
   | y _=>simpa only [J0] using hv
   | f fn cap=>cases cap<;>simpa only [J0] using hv
   | t _=>simpa only [J0] using hv
   | x=>simpa only [J0] using hv
  ·cases ts with
   | nil =>
    cases as0 with
    | nil=>simpa only [A0m] using hv
    | cons a as0=>simp [A0m] at hv
   | cons t ts =>
    cases as0 with
    | nil=>simp [A0m] at hv
    | cons a as0 =>
     simp only [A0m] at hv ⊢
     split at hv<;>try (cases hv;done)
     rename_i x1 w1 h1
     split at hv<;>try (cases hv;done)
     rename_i xs2 w2 h2
     injection hv with hv;injection hv with hv1 hv2
     subst hv1;subst hv2
     rw [ih1 of of' _ _ _ _ h1 (fun id A7=>ho id (by simp only [U1,List.map_append,C3y];exact .inl A7))]
     simp only
     rw [ih2 (put of w1) (put of' w1) _ _ _ _ h2 (fun id A7=>A6g _ _ _ _ (ho id (by simp only [U1,List.map_append,C3y];exact .inr A7)))]
theorem A1R {wo:List (Nat×Ob)} {Q:A8→Prop} {out:Out} {s:Sem Next} (h:Shd T c e of wo Q) (hd:∀ e1:A8,e1.w=e.w→A5 T c e1 (put of wo)→e.le e1→(∀ j,e1.U j→e.U j)→Q e1→B9 P s e1.w (C4 T c e1 (put of wo) out)) {ro:List Nat} :
  B9 P s e.w (C4 T c e of ⟨out.val,wo++out.wo,ro,out.nw⟩):=by
 obtain ⟨e1,p1,p2,p3,p4,p5⟩:=h
 have key:∀ x w',C4 T c e1 (put of wo) out x w'→C4 T c e of ⟨out.val,wo++out.wo,ro,out.nw⟩ x w':=fun x w' ⟨e2,q1,q2,q3,q4,q5⟩ =>
  ⟨e2,q1,by rw [F8];exact q2,p3.trans q3,fun id A7=>(q4 id A7).imp (p4 id) (fun q=>q),q5⟩
 have:=hd e1 p1 p2 p3 p4 p5
 rw [p1] at this
 rcases this with ⟨x,w',h1,h2⟩ | ⟨w',h1,h2⟩ | ⟨f,args,w1,h1,h2⟩ | ⟨l,f,tmps,asg,body,w1,h1,h2⟩
 ·exact .inl ⟨x,w',h1,key _ _ h2⟩
 ·exact .inr (.inl ⟨w',h1,key _ _ h2⟩)
 ·exact .inr (.inr (.inl ⟨f,args,w1,h1,h2.mono fun en w' ⟨x,hx,hl⟩=>⟨x,hx,key _ _ hl⟩⟩))
 ·exact .inr (.inr (.inr ⟨l,f,tmps,asg,body,w1,h1,h2.mono fun en w' ⟨x,hx,hl⟩=>⟨x,hx,key _ _ hl⟩⟩))
theorem A8G {s:Sem Next} {w:World} {R R':Value→World→Prop} (hr:∀ x w',R x w'→R' x w') (h:B9 P s w R):B9 P s w R':=by
 rcases h with ⟨x,w',h1,h2⟩ | ⟨w',h1,h2⟩ | ⟨f,args,w1,h1,h2⟩ | ⟨l,f,tmps,asg,body,w1,h1,h2⟩
 ·exact .inl ⟨x,w',h1,hr _ _ h2⟩
 ·exact .inr (.inl ⟨w',h1,hr _ _ h2⟩)
 ·exact .inr (.inr (.inl ⟨f,args,w1,h1,h2.mono fun en w' ⟨x,hx,hl⟩=>⟨x,hx,hr _ _ hl⟩⟩))
 ·exact .inr (.inr (.inr ⟨l,f,tmps,asg,body,w1,h1,h2.mono fun en w' ⟨x,hx,hl⟩=>⟨x,hx,hr _ _ hl⟩⟩))
def A3k:Ob→Ob
 | .row el v xs nl _=>.row el v xs nl true
 | .box t a _=>.box t a true
 | o=>o
def A4Z:Ob→Bool
 | .row _ _ _ _ s=>s
 | .box _ _ s=>s
 | _=>false
theorem B5s {o:Ob} (h:A4Z o=true):A3k o=o:=by
 cases o<;>simp only [A4Z] at h<;>first | (subst h;rfl) | cases h
theorem B01 (o:Ob):A3k (A3k o)=A3k o:=by cases o<;>rfl
def A0p (of:Nat→Option Ob):List (Nat×Ob)→List (Nat×Ob)
 | []=>[]
 | (id,o)::r=>match of id with
  | some o0=>bif A4Z o0 then A0p of r else (id,o)::A0p of r
  | none=>(id,o)::A0p of r
def V8 (of:Nat→Option Ob) (wo:List (Nat×Ob)):Prop:=∀ p∈wo,∃ o0,of p.1=some o0∧p.2=A3k o0
theorem A1q:∀ (wo:List (Nat×Ob)) (of f:Nat→Option Ob),V8 of wo→∀ id,(f id=of id∨∃ o0,of id=some o0∧f id=some (A3k o0))→(put f wo id=of id∨∃ o0,of id=some o0∧put f wo id=some (A3k o0))∧(id∈U1 wo→∃ o0,of id=some o0∧put f wo id=some (A3k o0))∧(id ∉ U1 wo→put f wo id=f id):=by
 intro wo
 induction wo with
 | nil=>intro of f _ id h;exact ⟨h,fun h=>(by cases h),fun _=>rfl⟩
 | cons p r ih =>
  intro of f hall id h
  obtain ⟨k,o⟩:=p
  have hr:V8 of r:=fun q hq=>hall q (by simp [hq])
  obtain ⟨o0,h1,h2⟩:=hall (k,o) (by simp)
  simp only at h1 h2
  by_cases hk:id=k
  ·subst hk
   obtain ⟨a1,a2,a3⟩:=ih of (D3 f id (some o)) hr id (.inr ⟨o0,h1,by rw [upd_same,h2]⟩)
   refine ⟨a1,fun _=>?_,fun hn=>absurd (by simp [U1]) hn⟩
   by_cases hm:id∈U1 r
   ·exact a2 hm
   ·exact ⟨o0,h1,by show put (D3 f id (some o)) r id=_;rw [a3 hm,upd_same,h2]⟩
  ·obtain ⟨a1,a2,a3⟩:=ih of (D3 f k (some o)) hr id (by rw [A3 _ _ hk];exact h)
   refine ⟨a1,fun hm=>a2 ?_,fun hn=>?_⟩
   ·simp only [U1,List.map_cons,List.mem_cons] at hm
    exact hm.resolve_left hk
   ·show put (D3 f k (some o)) r id=_
    rw [a3 (fun hm=>hn (by simp only [U1,List.map_cons,List.mem_cons];exact .inr hm)),A3 _ _ hk]
theorem A7l {of:Nat→Option Ob}:∀ {wo:List (Nat×Ob)} {p:Nat×Ob},p∈A0p of wo→p∈wo:=by
 intro wo
 induction wo with
 | nil=>intro p h;cases h
 | cons q r ih =>
  intro p h
  obtain ⟨k,o⟩:=q
  simp only [A0p] at h
  split at h
  ·rename_i o0 _
   cases hs:A4Z o0 with
   | true=>rw [hs] at h;exact List.mem_cons_of_mem _ (ih h)
   | false =>
    rw [hs] at h
    rcases List.mem_cons.1 h with h | h
    ·rw [h];exact List.mem_cons_self ..
    ·exact List.mem_cons_of_mem _ (ih h)
  ·rcases List.mem_cons.1 h with h | h
   ·rw [h];exact List.mem_cons_self ..
   ·exact List.mem_cons_of_mem _ (ih h)
theorem B2w {of:Nat→Option Ob}:∀ {wo:List (Nat×Ob)} {id:Nat},id∈U1 wo→id ∉ U1 (A0p of wo)→∃ o0,of id=some o0∧A4Z o0=true:=by
 intro wo
 induction wo with
 | nil=>intro id h;cases h
 | cons q r ih =>
  intro id h hn
  obtain ⟨k,o⟩:=q
  simp only [U1,List.map_cons,List.mem_cons] at h
  simp only [A0p] at hn
  split at hn
  ·rename_i o0 ho0
   cases hs:A4Z o0 with
   | true =>
    rw [hs] at hn
    rcases h with rfl | h
    ·exact ⟨o0,ho0,hs⟩
    ·exact ih h hn
   | false =>
    rw [hs] at hn
    simp only [cond_false,U1,List.map_cons,List.mem_cons,not_or] at hn
    exact ih (h.resolve_left hn.1) hn.2
  ·simp only [U1,List.map_cons,List.mem_cons,not_or] at hn
   exact ih (h.resolve_left hn.1) hn.2
theorem A7m {of:Nat→Option Ob} {wo:List (Nat×Ob)} (h:V8 of wo):put of (A0p of wo)=put of wo:=by
 funext id
 obtain ⟨_,a2,a3⟩:=A1q wo of of h id (.inl rfl)
 obtain ⟨_,b2,b3⟩:=A1q (A0p of wo) of of (fun p hp=>h p (A7l hp)) id (.inl rfl)
 by_cases h1:id∈U1 wo
 ·obtain ⟨o0,g1,g2⟩:=a2 h1
  by_cases h2:id∈U1 (A0p of wo)
  ·obtain ⟨o1,g3,g4⟩:=b2 h2
   rw [g1] at g3;cases g3
   rw [g2,g4]
  ·obtain ⟨o1,g3,g4⟩:=B2w h1 h2
   rw [g1] at g3;cases g3
   rw [b3 h2,g2,g1,B5s g4]
 ·rw [a3 h1,b3 (fun hm=>h1 (by
   obtain ⟨p,hp,rfl⟩:=List.mem_map.1 hm
   exact List.mem_map.2 ⟨p,A7l hp,rfl⟩))]
theorem A3W {of of':Nat→Option Ob}:∀ {wo:List (Nat×Ob)},(∀ id∈U1 wo,of' id=of id)→A0p of wo=A0p of' wo:=by
 intro wo
 induction wo with
 | nil=>intro _;rfl
 | cons q r ih =>
  intro h
  obtain ⟨k,o⟩:=q
  simp only [A0p]
  rw [h k (by simp [U1]),ih (fun id A7=>h id (by simp only [U1,List.map_cons,List.mem_cons];exact .inr A7))]
theorem B5t {of:Nat→Option Ob} {t:Nat} {a:A} {x:V} {id:Nat} {o:Ob} (h:X2 T of t a=some (x,id,o)):∃ o0,of id=some o0∧o=A3k o0:=by
 unfold X2 at h
 split at h<;>try (cases h;done)
 all_goals (split at h<;>try (cases h;done))
 ·split at h<;>try (cases h;done)
  injection h with h;injection h with h1 h2;injection h2 with h2 h3
  subst h2;subst h3
  exact ⟨_,by assumption,rfl⟩
 ·split at h<;>try (cases h;done)
  injection h with h;injection h with h1 h2;injection h2 with h2 h3
  subst h2;subst h3
  exact ⟨_,by assumption,rfl⟩
 ·split at h<;>try (cases h;done)
  split at h<;>try (cases h;done)
  injection h with h;injection h with h1 h2;injection h2 with h2 h3
  subst h2;subst h3
  exact ⟨_,by assumption,rfl⟩
theorem A0M {of:Nat→Option Ob} {w1 w2:List (Nat×Ob)} (h1:V8 of w1) (h2:V8 (put of w1) w2):V8 of (w1++w2):=by
 intro p hp
 rcases C3y.1 hp with hp | hp
 ·exact h1 p hp
 ·obtain ⟨o0,g1,g2⟩:=h2 p hp
  obtain ⟨a1,_,_⟩:=A1q w1 of of h1 p.1 (.inl rfl)
  rcases a1 with a1 | ⟨o1,a1,a2⟩
  ·exact ⟨o0,by rw [← a1];exact g1,g2⟩
  ·rw [a2] at g1;cases g1
   exact ⟨o1,a1,by rw [g2,B01]⟩
theorem B2x:∀ (d:Nat),(∀ (of:Nat→Option Ob) (t:Nat) (a:A) (x:V) (wo:List (Nat×Ob)),J0 T d of t a=some (x,wo)→V8 of wo)∧(∀ (of:Nat→Option Ob) (ts:List Nat) (as0:List A) (xs:List V) (wo:List (Nat×Ob)),A0m T d of ts as0=some (xs,wo)→V8 of wo):=by
 intro d
 induction d with
 | zero=>exact ⟨fun of t a x wo h=>by simp [J0] at h,fun of ts as0 xs wo h=>by simp [A0m] at h⟩
 | succ d ih =>
  obtain ⟨ih1,ih2⟩:=ih
  have nil:∀ of:Nat→Option Ob,V8 of []:=fun of p hp=>by cases hp
  have sl:∀ {of:Nat→Option Ob} {t:Nat} {a:A} {x:V} {wo:List (Nat×Ob)} {x':V} {id:Nat} {o:Ob},X2 T of t a=some (x',id,o)→some (x',[(id,o)])=some (x,wo)→V8 of wo:=by
   intro of t a x wo x' id o hs h
   injection h with h;injection h with h1 h2
   subst h2
   intro p hp
   simp only [List.mem_singleton] at hp
   subst hp
   exact B5t hs
  refine ⟨fun of t a x wo h=>?_,fun of ts as0 xs wo h=>?_⟩
  ·cases a with
   | o _ _=>simp only [J0] at h;split at h<;>first | (cases h;done) | (rename_i hs;exact sl hs h)
   | w _ _ _ _=>simp only [J0] at h;split at h<;>first | (cases h;done) | (rename_i hs;exact sl hs h)
   | a _ _ _ _ _=>simp only [J0] at h;split at h<;>first | (cases h;done) | (rename_i hs;exact sl hs h)
   | q t' y =>
    simp only [J0] at h
    split at h<;>try (cases h;done)
    injection h with h;injection h with h1 h2
    subst h2;exact nil of
   | g t' l =>
    simp only [J0] at h
    split at h<;>try (cases h;done)
    split at h<;>try (cases h;done)
    split at h<;>try (cases h;done)
    rename_i xs wo' hxs
    injection h with h;injection h with h1 h2
    subst h2
    exact ih2 _ _ _ _ _ hxs
   | f fn cap =>
    cases cap<;>simp only [J0] at h<;>split at h<;>(try (cases h;done))<;>split at h<;>(try (cases h;done))<;>(injection h with h;injection h with h1 h2;subst h2;exact nil of)
   | _ =>
    simp only [J0] at h
    split at h<;>try (cases h;done)
    split at h<;>try (cases h;done)
    injection h with h;injection h with h1 h2
    subst h2;exact nil of
  ·cases ts with
   | nil =>
    cases as0 with
    | nil=>simp only [A0m,C3q,Prod.mk.injEq] at h;rw [← h.2];exact nil of
    | cons a as0=>simp [A0m] at h
   | cons t ts =>
    cases as0 with
    | nil=>simp [A0m] at h
    | cons a as0 =>
     simp only [A0m] at h
     split at h<;>try (cases h;done)
     rename_i x1 w1 h1
     split at h<;>try (cases h;done)
     rename_i xs2 w2 h2
     injection h with h;injection h with _ hv2
     subst hv2
     exact A0M (ih1 _ _ _ _ _ h1) (ih2 _ _ _ _ _ h2)
theorem B02 {of of':Nat→Option Ob} {v:A} {wo w2:List (Nat×Ob)} {ro nw:List Nat} {x:Value} {w':World} (ho:∀ id∈U1 wo,of' id=of id) (h:V8 of wo) (hl:C4 T c e of' ⟨v,wo++w2,ro,nw⟩ x w'):C4 T c e of' ⟨v,A0p of wo++w2,ro,nw⟩ x w':=by
 obtain ⟨e',p1,p2,p3,p4,p5⟩:=hl
 have h':V8 of' wo:=fun p hp=>by
  rw [ho p.1 (List.mem_map.2 ⟨p,hp,rfl⟩)];exact h p hp
 have p2:A5 T c e' (put of' (wo++w2)):=p2
 refine ⟨e',p1,?_,p3,p4,p5⟩
 show A5 T c e' (put of' (A0p of wo++w2))
 rw [F8,A3W ho,A7m h',← F8]
 exact p2
def DEP:Nat:=12
def T2 (T:TT) (el:Nat):(Nat→Option Ob)→List (Nat×A)→Option (List (Nat×V)×List (Nat×Ob))
 | _,[]=>some ([],[])
 | of,(i,a)::r=>match J0 T DEP of el a with
  | some (x,wo)=>match T2 T el (put of wo) r with
   | some (xs,wo')=>some ((i,x)::xs,wo++wo')
   | none=>none
  | none=>none
inductive RPV (T:TT) (e:A8) (el:Nat):List (Nat×V)→List (Nat×Value)→Prop
 | nil:RPV T e el [] []
 | cons {i x v r s}:RV T e [el] [x] v.cells.toList→RPV T e el r s→RPV T e el ((i,x)::r) ((i,v)::s)
theorem RPV.mono {e e':A8} (he:e.le e') {el:Nat} {l:List (Nat×V)} {m:List (Nat×Value)} (h:RPV T e el l m):RPV T e' el l m:=by
 induction h with
 | nil=>exact .nil
 | cons h1 _ ih=>exact .cons (h1.mono he) ih
theorem A40 {el:Nat}:∀ {parts:List (Nat×A)} {vals:List (Nat×Value)} {e:A8} {of of':Nat→Option Ob} {xs:List (Nat×V)} {wo:List (Nat×Ob)},A5 T c e of'→T2 T el of parts=some (xs,wo)→(∀ id∈U1 wo,of' id=of id)→A3U T e parts vals→Shd T c e of' wo fun e'=>RPV T e' el xs vals:=by
 intro parts
 induction parts with
 | nil=>intro vals e of of' xs wo h hp ho hr;cases hr;simp only [T2,C3q,Prod.mk.injEq] at hp;obtain ⟨rfl,rfl⟩:=hp;exact ⟨e,rfl,h,A8.le.refl e,fun _ hu=>hu,.nil⟩
 | cons p r ih =>
  intro vals e of of' xs wo h hp ho hr
  cases hr with | @cons i a v _ s hv hr =>
  simp only [T2] at hp
  split at hp<;>try (cases hp;done)
  rename_i x w1 h1
  split at hp<;>try (cases hp;done)
  rename_i xs2 w2 h2
  injection hp with hp;injection hp with hp1 hp2
  subst hp1;subst hp2
  have h1':=(Y5 (T:=T) DEP).1 of of' _ _ _ _ h1 (fun id A7=>ho id (by simp only [U1,List.map_append,C3y];exact .inl A7))
  obtain ⟨e1,p1,p2,p3,p4,p5⟩:=Y8 h h1' hv
  obtain ⟨e2,q1,q2,q3,q4,q5⟩:=ih p2 h2 (fun id A7=>A6g _ _ _ _ (ho id (by simp only [U1,List.map_append,C3y];exact .inr A7))) (hr.mono p3)
  exact ⟨e2,q1.trans p1,by rw [F8];exact q2,p3.trans q3,fun j hj=>p4 j (q4 j hj),.cons (p5.mono q3) q5⟩
theorem A7n {el:Nat}:∀ {parts:List (Nat×A)} {of:Nat→Option Ob} {xs:List (Nat×V)} {wo:List (Nat×Ob)},T2 T el of parts=some (xs,wo)→V8 of wo:=by
 intro parts
 induction parts with
 | nil=>intro of xs wo h;simp only [T2,C3q,Prod.mk.injEq] at h;rw [← h.2];intro p hp;cases hp
 | cons p r ih =>
  intro of xs wo h
  simp only [T2] at h
  split at h<;>try (cases h;done)
  rename_i x w1 h1
  split at h<;>try (cases h;done)
  rename_i xs2 w2 h2
  injection h with h;injection h with _ hp2
  subst hp2
  exact A0M ((B2x DEP).1 _ _ _ _ _ h1) (ih h2)
def A5g:List V→List (Nat×V)→Option (List V)
 | xs,[]=>some xs
 | xs,(i,x)::r=>if Nat.blt i xs.length then A5g (xs.set i x) r else none
theorem A8H {el n:Nat}:∀ {parts:List (Nat×V)} {vals:List (Nat×Value)} {xs xs':List V} {cells:Array Value},RPV T e el parts vals→xs.length=n→RV T e (List.replicate n el) xs cells.toList→A5g xs parts=some xs' →
  ∃ cells':Array Value,Instr.fill (fun i=>some (i * B1 T el,B1 T el)) cells vals=some cells'∧RV T e (List.replicate n el) xs' cells'.toList∧xs'.length=n:=by
 intro parts
 induction parts with
 | nil=>intro vals xs xs' cells hp hn hr h;cases hp;simp only [A5g,C3q] at h;subst h;exact ⟨cells,rfl,hr,hn⟩
 | cons p r ih =>
  intro vals xs xs' cells hp hn hr h
  cases hp with | @cons i x v _ s hv hp =>
  simp only [A5g] at h
  split at h<;>try (cases h;done)
  rename_i hi
  have hi:i < n:=by rw [← hn];simpa using hi
  have hg:(List.replicate n el)[i]? = some el:=by rw [List.getElem?_replicate,if_pos hi]
  obtain ⟨y,pre,d,post,q1,q2,q3,q4,q5⟩:=hr.at hg
  have hw:=hv.one_len
  rw [C3u] at hw
  have q3':=q3
  rw [List.take_replicate,B4,Nat.min_eq_left (by omega)] at q3
  have hcl:cells.size=pre.length+(d.length+post.length):=by
   have:=congrArg List.length q2;simpa using this
  obtain ⟨cells',f1,f2⟩:=A7h (place:=fun i=>some (i * B1 T el,B1 T el)) (i:=i) (off:=i * B1 T el) (size:=B1 T el) (cells:=cells) (v:=v) (rest:=s) rfl hw (by omega)
  have hlen:v.cells.toList.length=B1 T el:=by rw [C3u];exact hw
  have hsm:=A1z (ns:=v.cells.toList) q2 q3 (by omega)
  rw [hlen] at hsm
  rw [hsm] at f2
  have hnew:=hr.put hg hv q2 q3' q4
  rw [← f2] at hnew
  obtain ⟨cells2,g1,g2,g3⟩:=ih hp (by rw [List.length_set];exact hn) hnew h
  exact ⟨cells2,f1.trans g1,g2,g3⟩
def S5 (T:TT) (of:Nat→Option Ob) (nx t len:Nat) (parts:List (Nat×A)):Option Out :=
 match B2 T t with
 | some (.slice el)=>match T el,T2 T el of parts with
  | some te,some (xs,wo)=>if TK.notOther te.k&&Nat.blt 0 te.size&&Nat.ble (len * te.size) 16777216 then
    match A5g (List.replicate len te.zero) xs with
    | some ys=>some ⟨.o nx 1,A0p of wo++[(nx,.row el 1 ys false false)],U1 wo,[nx]⟩
    | none=>none
   else none
  | _,_=>none
 | _=>none
theorem A3X {t len nx:Nat} {of':Nat→Option Ob} {parts:List (Nat×A)} {vals:List (Nat×Value)} {out:Out} (h:A5 T c e of') (hT:F4 T P) (hb:S5 T of nx t len parts=some out) (ho:∀ id∈out.ro,of' id=of id) (hu:∀ id∈out.nw,¬ e.U id) (hp:A3U T e parts vals) :
  B9 P (do pure (.value (← Instr.buildSlice t len vals.toArray))) e.w (C4 T c e of' out):=by
 unfold S5 at hb
 split at hb<;>try (cases hb;done)
 rename_i el hk
 obtain ⟨tet,ht1,ht2⟩:=A6 hk
 have ht:=D4 (hT _ _ ht1) ht2
 split at hb<;>try (cases hb;done)
 rename_i te xs wo hel hparts
 split at hb<;>try (cases hb;done)
 rename_i hc
 simp only [C3o] at hc
 obtain ⟨⟨hno,hz0⟩,hlen⟩:=hc
 have hz0:0 < te.size:=by simpa using hz0
 have hlen:=C3t hlen
 split at hb<;>try (cases hb;done)
 rename_i ys hys
 injection hb with hb;subst hb
 have hz:B1 T el=te.size:=E4 hel
 refine A8G (fun _ _=>B02 ho (A7n hparts)) ?_
 refine A1R (out:=⟨.o nx 1,[(nx,.row el 1 ys false false)],[],[nx]⟩) (A40 h hparts ho hp) (fun e1 hw h1 hle hU hq=>?_)
 obtain ⟨i,z,z1,z2,z3,z4,z5,z6⟩:=A7c (hT _ _ hel) hel
 have hzz:=z5.elim (fun q=>q) (fun q=>absurd q (S4 hno))
 have z6:=z6 hzz
 have hbase:((Array.range (len * te.size)).map (z.cells[· % z.cells.size]!)).toList=(List.replicate len z.cells.toList).flatten:=by
  rw [← z6];exact U4 _ len
 have hrep:RV T e1 (List.replicate len el) (List.replicate len te.zero) ((Array.range (len * te.size)).map (z.cells[· % z.cells.size]!)).toList:=by
  rw [hbase];exact A0L (hzz e1) len
 obtain ⟨cells,g1,g2,g3⟩:=A8H hq (by simp) hrep hys
 have hcs:cells.size=len * B1 T el:=by
  have:=g2.length.1
  rw [B4,C3u] at this;exact this
 have hrun:(Instr.buildSlice t len vals.toArray).run P e1.w=.ok (.slice (some ⟨e1.w.heap.size,0,none⟩) len len) (e1.w.alloc (.cells cells el)):=by
  have hzv:(zeroValue el).run P e1.w=.ok z e1.w:=by simp [zeroValue,A4u z1,z2]
  have hsz:=C7 (hT _ _ hel) e1.w
  rw [hz] at g1
  by_cases hl0:len=0
  ·subst hl0
   have hem:(Array.map (fun _=>(default:Value)) (Array.range 0))=(Array.map (z.cells[· % z.cells.size]!) (Array.range (0 * te.size))):=by simp
   rw [← hem] at g1
   simp [Instr.buildSlice,A2 ht,hsz,newRow,g1]
  ·have hne:¬ (len * te.size=0):=Nat.mul_ne_zero hl0 (by omega)
   simp [Instr.buildSlice,A2 ht,hsz,newRow,g1,hzv,show ¬ (16777216 < len * te.size) by omega]
   exact fun h0=>absurd h0 hne
 subst g3
 exact A1 hrun (Z8 h1 (fun q=>hu nx (by simp) (hU _ q)) (A6c h1 (fun q=>hu nx (by simp) (hU _ q)) (by omega) (show cells.toList=cells.toList++[] by simp) g2) (A1p hcs (Nat.le_refl _)))
end Go.Vm
end