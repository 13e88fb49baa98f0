/- What the operations of a program do, shown once for all programs; and numbers. -/
import Derived.Test.YtgaghkafmeelhaaGreatVm1
set_option linter.constructorNameAsVariable false
set_option linter.unusedVariables false
set_option linter.unusedSimpArgs false
set_option linter.unnecessarySimpa false
noncomputable section
namespace Go.Vm
open Go.RowKit
variable {P:Program} {T:TT} {c:F6} {e:B6} {of:Nat→Option Ob}
theorem V4 {id t:Nat} {path:List Nat} {lo m:Nat} {x:Value} (h:B9 T e (.a id t path lo m) x):∃ b off n el k cap,e.U id∧e.bn id=0∧e.ι id=some (b,0)∧Pth T (e.ty id) path t off∧C3 T t=some (.arr n el)∧lo+m≤n∧m≤cap∧(0 < cap→k=off+lo * C2 T el)∧x=.slice (some ⟨b,k,none⟩) m cap:=by
 have h:RA T e [.a id t path lo m] [x]:=h
 cases h with
 | r h1 _ _=>exact h1
theorem A37 {t n el lo m:Nat} {x:V} {d:List Value} (h:RV T e [t] [x] d) (hk:C3 T t=some (.arr n el)) (hm:lo+m≤n) :
  ∃ as0 bs zs,d=as0++(bs++zs)∧as0.length=lo * C2 T el∧bs.length=m * C2 T el∧RV T e (List.replicate m el) ((x.els.drop lo).take m) bs:=by
 obtain ⟨ys,rfl,hl,hy⟩:=h.arr_inv hk
 subst hl
 obtain ⟨as0,bs,zs,h1,h2,h3,h4,_⟩:=J4 hy hm
 exact ⟨as0,bs,zs,h1,h2,h3,h4⟩
theorem B4Y (h:A8 T c e of) {id t:Nat} {a:A} {sh:Bool} (ho:of id=some (.box t a sh)) :
  ∃ e':B6,e'.w=e.w∧A8 T c e' (D9 of id (some (.box t a true)))∧e.le e'∧(∀ j,e'.U j→e.U j) ∧
   (∀ t' t1 path n el lo m x y,atA T a path=some (.v t1 y)→C3 T t1=some (.arr n el)→C3 T t'=some (.slice el)→C2 T t'=1→B9 T e (.a id t1 path lo m) x→RV T e' [t'] [.l ((y.els.drop lo).take m)] [x]) ∧
   (∀ t1 path x y,atA T a path=some (.v t1 y)→B9 T e (.p id t1 path) x→B9 T e' (.c t1 y) x):=by
 obtain ⟨u1,u2,u3,u4,b,cs,ty,fz,g1,g2,g3,g4,g5,g6⟩:=X7 h ho
 have hok:OK T (e.share b 0 cs.size) id (.box t a true):=⟨u1,u2,u3,u4,b,cs,ty,fz,g1,g2,g3,g4,g5.mono (J1 _ _ _ _),(fun hh=>by cases hh),g6.2⟩
 have hlen:cs.toList.length=cs.size:=D9F ..
 refine ⟨e.share b 0 cs.size,rfl,A1I h ho g1 hok,J1 _ _ _ _,fun _ hu=>hu,fun t' t1 path n el lo m x y hat hk hk' hz hx=>?_,fun t1 path x y hat hx=>?_⟩
 ·obtain ⟨b',off,n',el',k,cap,_,_,k1,k2,k3,k4,k5,k6,rfl⟩:=V4 hx
  rw [g1] at k1;cases k1
  rw [hk] at k3;cases k3
  rw [u3] at k2
  obtain ⟨pre,d,post,q1,q2,q3,q4,q5⟩:=Z2 path g5 u4 k2 hat
  obtain ⟨as0,bs,zs,rfl,r1,r2,r3⟩:=A37 q4.v_inv hk k4
  have hl:((y.els.drop lo).take m).length=m:=by rw [r3.length.2];simp
  refine .slice hk' hz hl k5 ⟨fun _=>rfl,fun j z hj=>?_⟩ (r3.mono (J1 _ _ _ _)) .nil
  have hjl:=(List.getElem?_eq_some_iff.1 hj).1
  have hn0:0 < m:=by
   rcases Nat.eq_zero_or_pos m with h0 | h0
   ·subst h0;simp at r2;rw [r2] at hjl;simp at hjl
   ·exact h0
  have hkk:=k6 (by omega)
  have hcell:cs.toList[k+j]? = some z:=by
   rw [q1,hkk]
   have e1:pre++((as0++(bs++zs))++post)=(pre++as0)++(bs++(zs++post)):=by simp
   rw [e1,show off+lo * C2 T el+j=(pre++as0).length+j by simp only [D9A];omega]
   exact N0 hj
  refine ⟨?_,.inr ⟨rfl,Nat.zero_le _,?_⟩⟩
  ·show e.w.cell? _=_
   rw [D1,F4 g2,hcell]
  ·have:=(List.getElem?_eq_some_iff.1 hcell).1
   rwa [D9F] at this
 ·obtain ⟨b',off,_,_,k1,k2,rfl⟩:=L5 hx
  rw [g1] at k1;cases k1
  rw [u3] at k2
  obtain ⟨pre,d,post,q1,q2,q3,q4,q5⟩:=Z2 path g5 u4 k2 hat
  refine RA.c (q4.v_inv.mono (J1 _ _ _ _)) ⟨fun _=>rfl,fun j z hj=>?_⟩ .nil
  have hcell:cs.toList[off+j]? = some z:=by rw [q1,← q2];exact N0 hj
  refine ⟨?_,.inr ⟨rfl,Nat.zero_le _,?_⟩⟩
  ·show e.w.cell? _=_
   rw [D1,F4 g2,hcell]
  ·have:=(List.getElem?_eq_some_iff.1 hcell).1
   rwa [D9F] at this
theorem F1:∀ (l m:List (Nat×Ob)) (f:Nat→Option Ob),put f (l++m)=put (put f l) m:=by
 intro l
 induction l with
 | nil=>intro m f;rfl
 | cons q r ih=>intro m f;obtain ⟨k,o⟩:=q;exact ih _ _
def A0l (T:TT) (of:Nat→Option Ob) (t:Nat):A→Option (V×Nat×Ob)
 | .o id ver=>match C3 T t,of id with
  | some (.slice el),some (.row el' v xs nl _)=>if Nat.beq el el'&&Nat.beq v ver&&Nat.beq (C2 T t) 1 then some (bif nl then .n else .l xs,id,.row el' v xs nl true) else none
  | _,_=>none
 | .w id ver off n=>match C3 T t,of id with
  | some (.slice el),some (.row el' v xs nl _)=>if Nat.beq el el'&&Nat.beq v ver&&Nat.beq (C2 T t) 1&&Nat.ble (off+n) xs.length then some (.l ((xs.drop off).take n),id,.row el' v xs nl true) else none
  | _,_=>none
 | .a id t1 path lo m=>match C3 T t,C3 T t1,of id with
  | some (.slice el),some (.arr _ el'),some (.box t0 a _)=>match atA T a path with
   | some (.v t2 y)=>if Nat.beq el el'&&Nat.beq t1 t2&&Nat.beq (C2 T t) 1 then some (.l ((y.els.drop lo).take m),id,.box t0 a true) else none
   | _=>none
  | _,_,_=>none
 | _=>none
theorem B4Z {t:Nat} {a:A} {x:V} {id:Nat} {o:Ob} {v:Value} (h:A8 T c e of) (hs:A0l T of t a=some (x,id,o)) (hr:B9 T e a v) :
  ∃ e':B6,e'.w=e.w∧A8 T c e' (D9 of id (some o))∧e.le e'∧(∀ j,e'.U j→e.U j)∧RV T e' [t] [x] [v]:=by
 cases a with
 | o id' ver =>
  simp only [A0l] at hs
  split at hs<;>try (cases hs;done)
  rename_i el el' v' xs nl sh hk hof
  split at hs<;>try (cases hs;done)
  rename_i hc
  simp only [D9z] at hc
  obtain ⟨⟨c1,c2⟩,c3⟩:=hc
  injection hs with hs;injection hs with hs1 hs2;injection hs2 with hs2 hs3
  subst hs1;subst hs2;subst hs3
  have:=D9y c1;subst this
  have:=D9y c2;subst this
  obtain ⟨e',p1,p2,p3,p4,p5,_⟩:=A7e h hof
  exact ⟨e',p1,p2,p3,p4,p5 t v hk (D9y c3) hr⟩
 | w id' ver off n =>
  simp only [A0l] at hs
  split at hs<;>try (cases hs;done)
  rename_i el el' v' xs nl sh hk hof
  split at hs<;>try (cases hs;done)
  rename_i hc
  simp only [D9z] at hc
  obtain ⟨⟨⟨c1,c2⟩,c3⟩,c4⟩:=hc
  injection hs with hs;injection hs with hs1 hs2;injection hs2 with hs2 hs3
  subst hs1;subst hs2;subst hs3
  have:=D9y c1;subst this
  have:=D9y c2;subst this
  obtain ⟨e',p1,p2,p3,p4,_,p5⟩:=A7e h hof
  exact ⟨e',p1,p2,p3,p4,p5 t off n v hk (D9y c3) (D9E c4) hr⟩
 | a id' t1 path lo m =>
  simp only [A0l] at hs
  split at hs<;>try (cases hs;done)
  rename_i el n el' t0 a sh hk hk1 hof
  split at hs<;>try (cases hs;done)
  rename_i t2 y hat
  split at hs<;>try (cases hs;done)
  rename_i hc
  simp only [D9z] at hc
  obtain ⟨⟨c1,c2⟩,c3⟩:=hc
  injection hs with hs;injection hs with hs1 hs2;injection hs2 with hs2 hs3
  subst hs1;subst hs2;subst hs3
  have:=D9y c1;subst this
  have:=D9y c2;subst this
  obtain ⟨e',p1,p2,p3,p4,p5,_⟩:=B4Y h hof
  exact ⟨e',p1,p2,p3,p4,p5 t t1 path n el lo m v y hat hk1 hk (D9y c3) hr⟩
 | _=>simp [A0l] at hs
mutual
def M3 (T:TT):Nat→(Nat→Option Ob)→Nat→A→Option (V×List (Nat×Ob))
 | 0,_,_,_=>none
 | d+1,of,t,a=>match a with
  | .o _ _ | .w _ _ _ _ | .a _ _ _ _ _=>match A0l T of t a with
   | some (x,id,o)=>some (x,[(id,o)])
   | none=>none
  | .q t' x=>if same T t t'&&S7 T t then some (x,[]) else none
  | .f fn []=>match C3 T t with
   | some .func=>if Nat.beq (C2 T t) 1 then some (.f fn,[]) else none
   | _=>none
  | .g t' l=>if same T t t' then match chT T t' with
    | some ts=>match A07 T d of ts l with
     | some (xs,wo)=>some (.l xs,wo)
     | none=>none
    | none=>none
   else none
  | a=>match M0 T t a with
   | some b=>match A3x b with
    | some x=>some (x,[])
    | none=>none
   | none=>none
def A07 (T:TT):Nat→(Nat→Option Ob)→List Nat→List A→Option (List V×List (Nat×Ob))
 | 0,_,_,_=>none
 | d+1,of,ts,as0=>match ts,as0 with
  | [],[]=>some ([],[])
  | t::ts,a::as0=>match M3 T d of t a with
   | some (x,wo)=>match A07 T d (put of wo) ts as0 with
    | some (xs,wo')=>some (x::xs,wo++wo')
    | none=>none
   | none=>none
  | _,_=>none
end
def Shd (T:TT) (c:F6) (e:B6) (of:Nat→Option Ob) (wo:List (Nat×Ob)) (Q:B6→Prop):Prop :=
 ∃ e':B6,e'.w=e.w∧A8 T c e' (put of wo)∧e.le e'∧(∀ j,e'.U j→e.U j)∧Q e'
def C0u:A→Bool
 | .v _ _ | .g _ _ | .t _=>false
 | _=>true
def isC:A→Bool
 | .t _ | .x=>false
 | _=>true
theorem RA.single {a:A} {cs:List Value} (h:RA T e [a] cs) (ha:C0u a=true):∃ v,cs=[v]:=by
 cases h with
 | i _ h=>cases h;exact ⟨_,rfl⟩
 | b h=>cases h;exact ⟨_,rfl⟩
 | s h=>cases h;exact ⟨_,rfl⟩
 | z _ h=>cases h;exact ⟨_,rfl⟩
 | v _ _=>simp [C0u] at ha
 | c _ _ h=>cases h;exact ⟨_,rfl⟩
 | q _ h=>cases h;exact ⟨_,rfl⟩
 | f _ h=>cases h;exact ⟨_,rfl⟩
 | g _ _ _ _ _=>simp [C0u] at ha
 | r _ _ h=>cases h;exact ⟨_,rfl⟩
theorem B7k:∀ (d:Nat),(∀ (e:B6) (of:Nat→Option Ob) (t:Nat) (a:A) (x:V) (wo:List (Nat×Ob)) (cs:List Value),A8 T c e of→M3 T d of t a=some (x,wo)→RA T e [a] cs→Shd T c e of wo fun e'=>RV T e' [t] [x] cs) ∧
  (∀ (e:B6) (of:Nat→Option Ob) (ts:List Nat) (as0:List A) (xs:List V) (wo:List (Nat×Ob)) (cs:List Value),A8 T c e of→A07 T d of ts as0=some (xs,wo)→RA T e as0 cs→Shd T c e of wo fun e'=>RV T e' ts xs cs):=by
 intro d
 induction d with
 | zero=>exact ⟨fun e of t a x wo cs _ h _=>by simp [M3] at h,fun e of ts as0 xs wo cs _ h _=>by simp [A07] at h⟩
 | succ d ih =>
  obtain ⟨ih1,ih2⟩:=ih
  refine ⟨fun e of t a x wo cs h hv hr=>?_,fun e of ts as0 xs wo cs h hv hr=>?_⟩
  ·have sl:∀ (hrep:∀ v,RA T e [a] [v]→B9 T e a v),C0u a=true→(match A0l T of t a with | some (x,id,o)=>some (x,[(id,o)]) | none=>none)=some (x,wo)→Shd T c e of wo fun e'=>RV T e' [t] [x] cs:=by
    intro hrep ha hv
    obtain ⟨v,rfl⟩:=hr.single ha
    split at hv
    ·rename_i x' id o hs
     injection hv with hv;injection hv with h1 h2
     subst h1;subst h2
     obtain ⟨e',p1,p2,p3,p4,p5⟩:=B4Z h hs (hrep v hr)
     exact ⟨e',p1,p2,p3,p4,p5⟩
    ·cases hv
   have pl:(match M0 T t a with | some b=>(match A3x b with | some x=>some (x,([]:List (Nat×Ob))) | none=>none) | none=>none)=some (x,wo)→Shd T c e of wo fun e'=>RV T e' [t] [x] cs:=by
    intro hv
    split at hv
    ·rename_i b hb
     split at hv
     ·rename_i x' hx'
      injection hv with hv;injection hv with h1 h2
      subst h1;subst h2
      obtain ⟨r1,r2⟩:=A35 hr hb
      exact ⟨e,rfl,h,B6.le.refl e,fun _ hu=>hu,A42 r1 r2 hx'⟩
     ·cases hv
    ·cases hv
   cases a with
   | o id ver=>exact sl (fun v h=>h) rfl (by simpa only [M3] using hv)
   | w id ver off n=>exact sl (fun v h=>h) rfl (by simpa only [M3] using hv)
   | a id t1 path lo m=>exact sl (fun v h=>h) rfl (by simpa only [M3] using hv)
   | f fn cap =>
    cases cap with
    | cons _ _=>exact pl (by simpa only [M3] using hv)
    | nil =>
     simp only [M3] at hv
     split at hv<;>try (cases hv;done)
     rename_i hk
     split at hv<;>try (cases hv;done)
     rename_i hz
     injection hv with hv;injection hv with h1 h2
     subst h1;subst h2
     refine ⟨e,rfl,h,B6.le.refl e,fun _ hu=>hu,?_⟩
     cases hr with
     | f g1 g2=>cases g1;cases g2;exact .fn hk (D9y hz) .nil
     | r g1 _ _=>exact g1.elim
   | q t' y =>
    simp only [M3] at hv
    split at hv
    ·rename_i hs
     injection hv with hv;injection hv with h1 h2
     subst h1;subst h2
     simp only [D9z] at hs
     obtain ⟨p,q⟩:=C0 hs.1
     refine ⟨e,rfl,h,B6.le.refl e,fun _ hu=>hu,?_⟩
     cases hr with
     | q g1 g2=>cases g2;exact g1.cast p q
     | r g1 _ _=>exact g1.elim
    ·cases hv
   | g t' l =>
    simp only [M3] at hv
    split at hv
    ·rename_i hs
     obtain ⟨p,q⟩:=C0 hs
     split at hv
     ·rename_i ts hts
      split at hv
      ·rename_i xs wo' hxs
       injection hv with hv;injection hv with h1 h2
       subst h1;subst h2
       cases hr with
       | g g1 g2 g3 g4 g5 =>
        cases g5
        rw [hts] at g1;cases g1
        obtain ⟨e',p1,p2,p3,p4,p5⟩:=ih2 e of _ _ _ _ _ h hxs g4
        rw [List.append_nil]
        exact ⟨e',p1,p2,p3,p4,p5.whole ((A0G p).trans hts) (q.trans g3)⟩
       | r g1 _ _=>exact g1.elim
      ·cases hv
     ·cases hv
    ·cases hv
   | i k n=>exact pl (by simpa only [M3] using hv)
   | b y=>exact pl (by simpa only [M3] using hv)
   | s y=>exact pl (by simpa only [M3] using hv)
   | z y=>exact pl (by simpa only [M3] using hv)
   | v t' y=>exact pl (by simpa only [M3] using hv)
   | p _ _ _=>exact pl (by simpa only [M3] using hv)
   | e _ _ _ _ _=>exact pl (by simpa only [M3] using hv)
   | c _ _=>exact pl (by simpa only [M3] using hv)
   | m _=>exact pl (by simpa only [M3] using hv)
   | y _=>exact pl (by simpa only [M3] using hv)
   | t _=>exact pl (by simpa only [M3] using hv)
   | x=>exact pl (by simpa only [M3] using hv)
  ·cases ts with
   | nil =>
    cases as0 with
    | nil =>
     simp only [A07,D9B,Prod.mk.injEq] at hv
     obtain ⟨rfl,rfl⟩:=hv
     cases hr
     exact ⟨e,rfl,h,B6.le.refl e,fun _ hu=>hu,.nil⟩
    | cons a as0=>simp [A07] at hv
   | cons t ts =>
    cases as0 with
    | nil=>simp [A07] at hv
    | cons a as0 =>
     simp only [A07] at hv
     split at hv<;>try (cases hv;done)
     rename_i x1 w1 h1
     split at hv<;>try (cases hv;done)
     rename_i xs2 w2 h2
     injection hv with hv;injection hv with hv1 hv2
     subst hv1;subst hv2
     obtain ⟨d1,r,rfl,k1,k2⟩:=hr.uncons
     obtain ⟨e1,p1,p2,p3,p4,p5⟩:=ih1 e of _ _ _ _ _ h h1 k1
     obtain ⟨e2,q1,q2,q3,q4,q5⟩:=ih2 e1 _ _ _ _ _ _ p2 h2 (k2.mono p3)
     exact ⟨e2,q1.trans p1,by rw [F1];exact q2,p3.trans q3,fun j hj=>p4 j (q4 j hj),(p5.mono q3).append q5⟩
theorem B40 {a:A} {x:Value} (h:B9 T e a x) (ha:isC a=true):RA T e [a] x.cells.toList:=by
 cases a<;>first | (simp [isC] at ha;done) | exact (RA.v1 h.1) | exact h.1 | (rw [G0 (RA.one_ (T:=T) (e:=e) h x (by simp))];exact h)
theorem A0K {d:Nat} {t:Nat} {a:A} {x:V} {wo:List (Nat×Ob)} {v:Value} (h:A8 T c e of) (hv:M3 T d of t a=some (x,wo)) (hr:B9 T e a v):Shd T c e of wo fun e'=>RV T e' [t] [x] v.cells.toList:=by
 refine (B7k d).1 e of t a x wo _ h hv (B40 hr ?_)
 cases a<;>first | rfl | skip
 all_goals (cases d<;>simp [M3,M0] at hv)
variable {P:Program} {T:TT} {c:F6} {e:B6} {of:Nat→Option Ob}
structure Src (P:Program) (w:World) (xt:TypeId) (y:Value) (z m:Nat) (us:List Value):Prop where
 ty:(∃ e,P.underlying xt=some (.slice e))∨P.underlying xt=some .string
 len:∀ w',(Builtin.lenOf y).run P w'=.ok m w'
 first:∀ w':World,w'.heap=w.heap→(Builtin.firstCells z m y).run P w'=.ok us.toArray w'
 size:us.length=m * z
theorem A08 {t xt ty el:TypeId} {te:TE} {w:World} (ht:P.underlying t=some (.slice el)) (hel:A1m P T el te) {A:Option Addr} {n cap m:Nat} {y:Value} {us:List Value} (hs:Src P w xt y te.size m us)
  (hroom:n+m≤cap) {w':World} (hst:∀ a,A=some a→(storeCells (a.add (n * te.size)) us).run P w=.ok () w') (hno:A=none→w'=w) :
  (Builtin.append_ #[t,xt] ty #[.slice A n cap,y]).run P w=.ok (.slice A (n+m) cap) w':=by
 have hf:=hs.first w rfl
 rcases hs.ty with ⟨e,hd⟩ | hd<;>cases A with
 | none =>
  rw [hno rfl]
  simp [Builtin.append_,A3 ht,A3 hd,E2 hel,hs.len,hf,hroom]
 | some a =>
  have:=hst a rfl
  simp [Builtin.append_,A3 ht,A3 hd,E2 hel,hs.len,hf,hroom,this]
theorem B0k {el:Nat} {te:TE} (hel:A1m P T el te) (ht:T el=some te):∃ i z,P.info? el=some i∧i.zero=some z∧i.size=te.size∧i.bytes=te.bytes∧((∀ e,RV T e [el] [te.zero] z.cells.toList)∨te.k=.other)∧((∀ e:B6,RV T e [el] [te.zero] z.cells.toList)→z.cells.size=te.size):=by
 obtain ⟨i,d,z,h1,h2,h3,h4,h5,h6,h7,h8⟩:=hel.fits
 refine ⟨i,z,h1,h6,h3,h4,h7,fun hz=>?_⟩
 have:=(hz ⟨default,fun _=>none,fun _ _=>False,fun _=>0,fun _=>False,fun _=>0,fun _=>0,fun _ _=>False⟩).one_len
 rw [G8 ht,D9F] at this
 exact this
theorem A09 {t xt ty el:TypeId} {te:TE} {w:World} (ht:P.underlying t=some (.slice el)) (hel:A1m P T el te) {A:Option Addr} {n cap m:Nat} {y:Value} {us os:List Value} (hs:Src P w xt y te.size m us)
  (B0a:∀ w':World,w'.heap=w.heap→(Builtin.firstCells te.size n (.slice A n cap)).run P w'=.ok os.toArray w')
  (hroom:cap < n+m) (hbytes:(n+m) * te.bytes≤140737488355328) (h63:n+m≤4611686018427387904) :
  ∃ (z:Value) (cap2:Nat),n+m≤cap2∧((∀ e,RV T e [el] [te.zero] z.cells.toList)∨te.k=.other)∧(Builtin.append_ #[t,xt] ty #[.slice A n cap,y]).run P w=.ok (.slice (some ⟨w.heap.size,0,none⟩) (n+m) cap2)
   (w.drew.alloc (.cells ((os++us).toArray++Builtin.zeroCells z.cells (cap2 - (n+m))) el)):=by
 obtain ⟨i,d,z,h1,h2,h3,h4,h5,h6,h7,h8⟩:=hel.fits
 have hf:=hs.first w.drew rfl
 have hfo:=B0a w.drew rfl
 have hn:¬ (n+m≤cap):=by omega
 have h63':¬ (9223372036854775807 < ((n:Int)+(m:Int))):=by omega
 have hfit:=growslice_fits (need:=n+m) (old:=cap) (bytes:=te.bytes) (by omega) hbytes
 have h48':¬ (281474976710656 < Builtin.nextslicecap (n+m) cap * te.bytes):=by omega
 refine ⟨z,grownCap w (n+m) cap el,?_,h7,?_⟩
 ·simp only [grownCap,Question.cut];omega
 ·rcases hs.ty with ⟨e,hd⟩ | hd
  ·simp [Builtin.append_,A3 ht,A3 hd,sizeOf,typeInfo,zeroValue,h1,h3,h4,h6,hs.len,hn,h63',h48',Question.forced,hf,hfo,newRow,grownCap]
   congr 2;apply Array.ext';simp
  ·simp [Builtin.append_,A3 ht,A3 hd,sizeOf,typeInfo,zeroValue,h1,h3,h4,h6,hs.len,hn,h63',h48',Question.forced,hf,hfo,newRow,grownCap]
   congr 2;apply Array.ext';simp
theorem A8.same_heap (h:A8 T c e of) {w':World} (hh:w'.heap=e.w.heap) (hos:w'.os=e.w.os) (ht:w'.tape=e.w.tape) (ho:w'.output=e.w.output) :
  A8 T c { e with w:=w' } of∧e.le { e with w:=w' }:=by
 have hle:e.le { e with w:=w' } :=
  ⟨fun b i hs=>⟨hs,fun x hx=>by rw [← hx];exact E1 (by show w'.heap[b]? = _;rw [hh])⟩,fun _ hu=>hu,fun _ _ _=>⟨rfl,rfl,fun b o _=>D0 (by show w'.heap[b]? = _;rw [hh])⟩,fun _ _ h=>h,fun _ _=>Nat.le_refl _,fun _ _=>rfl,by show _≤w'.heap.size;rw [hh];exact Nat.le_refl _,fun b _=>D0 (by show w'.heap[b]? = _;rw [hh])⟩
 refine ⟨⟨fun id o ho=>(h.ok id o ho).keep hle rfl (fun b _ _=>by show w'.heap[b]? = _;rw [hh]) (fun _ _ _ _ hs=>hs) (fun a o' b _ hG=>⟨hG,by show w'.heap[b]? = _;rw [hh],fun i hs=>hs⟩),h.sep,h.own,fun id b o hu hι=>?_,fun b i hs=>?_,h.s0,h.snew,hos.trans h.os,ht.trans h.tape,ho.trans h.output,?_,fun k hk hm=>?_,h.g.mono (fun _ _ q=>q) rfl (fun _ q=>q) (by show _≤w'.heap.size;rw [hh];exact Nat.le_refl _) (fun j b o hj hb=>.inl ⟨j,o,hj,hb⟩)⟩,hle⟩
 ·show b < w'.heap.size;rw [hh];exact h.lt _ _ _ hu hι
 ·show b < w'.heap.size;rw [hh];exact h.slt _ _ hs
 ·show _≤w'.heap.size;rw [hh];exact h.size
 ·show w'.heap[k]? = _;rw [hh];exact h.block k hk hm
theorem A0L {id ver:Nat} {b o cap:Nat} (hu:e.U id) (hv:e.bn id=ver) (h0:0 < ver) (h1:e.ι id=some (b,o)) (h2:e.ln id≤cap) (h3:o+cap * C2 T (e.ty id)=R0 e.w b) {k:Nat} (hk:0 < cap→k=o):B9 T e (.o id ver) (.slice (some ⟨b,k,none⟩) (e.ln id) cap) :=
 RA.r ⟨rfl,hu,by omega,h0,fun _=>.inr ⟨b,o,cap,k,h1,h2,h3,hk,rfl⟩⟩ rfl .nil
theorem A2v {id ver:Nat} (hu:e.U id) (hv:e.bn id=ver) (h0:0 < ver) (h1:e.ι id=none) (h2:e.ln id=0):B9 T e (.o id ver) (.slice none 0 0) :=
 RA.r ⟨rfl,hu,by omega,h0,fun _=>.inl ⟨h1,h2,rfl⟩⟩ rfl .nil
def B6.turned (e:B6) (w:World) (id ver ln:Nat) (p:Option (Nat×Nat)):B6:={ e with w:=w,ι:=D9 e.ι id p,bn:=D9 e.bn id ver,ln:=D9 e.ln id ln }
theorem A1o {id ver ln:Nat} {p:Option (Nat×Nat)} {w:World} (hv:e.bn id < ver) (h0:0 < e.bn id) (hS:∀ b i,e.S b i→∀ x,e.w.cell? ⟨b,i,none⟩=some x→w.cell? ⟨b,i,none⟩=some x) (hl:∀ b,b < e.w.heap.size→R0 w b=R0 e.w b) (hlt:∀ j b o,e.U j→e.ι j=some (b,o)→b < e.w.heap.size) (hs:e.w.heap.size≤w.heap.size):e.le (e.turned w id ver ln p):=by
 have ne:∀ j,e.U j→D9 e.bn id ver j=e.bn j→j≠id:=fun j _ hb he=>by subst he;rw [upd_same] at hb;omega
 refine ⟨fun b i hs'=>⟨hs',hS b i hs'⟩,fun _ hj=>hj,fun j hj hb=>?_,fun j hj h0'=>?_,fun j hj=>?_,fun _ _=>rfl,hs,hl⟩
 ·have hne:=ne j hj hb
  exact ⟨A2 _ _ hne,A2 _ _ hne,fun b o hb'=>hl b (hlt _ _ _ hj hb')⟩
 ·have hne:j≠id:=fun he=>by subst he;omega
  show D9 e.bn id ver j=0
  rw [A2 _ _ hne];exact h0'
 ·show _≤D9 e.bn id ver j
  by_cases hne:j=id
  ·subst hne;rw [upd_same];omega
  ·rw [A2 _ _ hne];exact Nat.le_refl _
theorem A3A {t xt ty el:TypeId} {te:TE} (h:A8 T c e of) (hT:H2 T P) (ht:P.underlying t=some (.slice el)) (hel:T el=some te) (hno:te.k≠.other) {id ver off n:Nat} {xs ns:List V} {sh:Bool} {x y:Value} {us:List Value}
  (ho:of id=some (.row el ver xs false sh)) (hn:off+n≤xs.length) (hsh:off+n=xs.length∨sh=false) (hx:B9 T e (.w id ver off n) x) (hs:Src P e.w xt y te.size ns.length us) (hus:RV T e (List.replicate ns.length el) ns us)
  (hbytes:(n+ns.length) * te.bytes≤140737488355328) (h63:n+ns.length≤4611686018427387904) {ro:List Nat} :
  C8 P (do pure (.value (← Builtin.append_ #[t,xt] ty #[x,y]))) e.w (D5 T c e of ⟨.o id (ver+1),[(id,.row el (ver+1) ((xs.drop off).take n++ns) false sh)],ro,[]⟩):=by
 obtain ⟨v0,v1,v2,v3,v4,v5,h6⟩:=K9 h ho
 have hz:C2 T el=te.size:=G8 hel
 rcases h6 with ⟨q,_⟩ | ⟨_,b,o,cs,ty',fz,pre,ys,post,h1,h2,h3,h4,h5,h6,h7,h8⟩
 ·cases q
 obtain ⟨b',o',cap,k,k1,k2,k3,k4,k5,rfl⟩:=Q9 hx v2
 rw [h1] at k1;cases k1
 rw [v3] at k4 k5
 obtain ⟨as0,bs,zs,rfl,q1,q2,q3,q4⟩:=J4 h6 hn
 have hl:((xs.drop off).take n).length=n:=by rw [q3.length.2];simp
 have hln:((xs.drop off).take n++ns).length=n+ns.length:=by rw [D9A,hl]
 have hcl:cs.size=o+(off * C2 T el+(n * C2 T el+zs.length))+post.length:=by
  have:=congrArg List.length h4
  simp only [D9F,D9A] at this;omega
 rw [Q5 h2,Nat.add_mul] at k4
 have hsize:=hs.size
 have B0a:e.bn id < ver+1:=by omega
 have rvnew:∀ e':B6,e.le e'→RV T e' (List.replicate ((xs.drop off).take n++ns).length el) ((xs.drop off).take n++ns) (bs++us):=fun e' hle=>by
  rw [hln,← List.replicate_append_replicate];exact (q3.mono hle).append (hus.mono hle)
 by_cases hroom:n+ns.length≤cap
 ·-- in place
  have hmul:(n+ns.length) * C2 T el≤cap * C2 T el:=Nat.mul_le_mul_right _ hroom
  rw [Nat.add_mul] at hmul
  rw [← hz] at hsize
  have hfit:o+off * C2 T el+n * C2 T el+us.length≤cs.size:=by omega
  obtain ⟨cs',f1,f2⟩:=P2 us h2 (i:=o+off * C2 T el+n * C2 T el) hfit
  have hcs':cs'.toList=(pre++as0)++(bs++us)++(zs++post).drop us.length:=by
   rw [f2,h4]
   have e0:pre++(as0++(bs++zs))++post=(pre++(as0++bs))++(zs++post):=by simp
   have hpl:(pre++(as0++bs)).length=o+off * C2 T el+n * C2 T el:=by simp only [D9A];omega
   rw [e0,← hpl,List.take_left,List.drop_append,List.drop_of_length_le (by omega),Nat.add_sub_cancel_left]
   simp
  have hsz:cs'.size=cs.size:=by
   have:=congrArg List.length hcs'
   simp only [D9F,D9A,List.length_drop] at this
   omega
  have hblen:∀ k,R0 (E6 e.w b (o+off * C2 T el+n * C2 T el) us) k=R0 e.w k:=fun k=>by
   by_cases hk:k=b
   ·subst hk;rw [Q5 f1,Q5 h2,hsz]
   ·exact D0 (H1 _ _ _ _ hk)
  have hSi:∀ i,e.S b i→i < o+off * C2 T el+n * C2 T el:=fun i hi=>by
   rcases hsh with hsh | hsh
   ·have:i < o+(as0++(bs++zs)).length:=Nat.lt_of_not_le (fun hoi=>h7 i hoi hi)
    have h9:=h6.length.1
    rw [C6] at h9
    rw [h9,← hsh,Nat.add_mul] at this
    omega
   ·have:i < o:=Nat.lt_of_not_le (fun hoi=>h8 hsh i hoi hi)
    omega
  have hle:e.le (e.turned (E6 e.w b (o+off * C2 T el+n * C2 T el) us) id (ver+1) (n+ns.length) (some (b,o+off * C2 T el))):=by
   refine A1o B0a (by omega) (fun k' i hs' u hxc=>?_) (fun k _=>hblen k) (fun j b o hj hb=>h.lt _ _ _ hj hb) (by rw [Q8];exact Nat.le_refl _)
   by_cases hk:k'=b
   ·subst hk
    have hi:=hSi i hs'
    rw [F4 h2] at hxc
    rw [F4 f1,hcs',← hxc,h4]
    have key:∀ X:List Value,((pre++(as0++bs))++X)[i]? = (pre++(as0++bs))[i]? := fun X=>List.getElem?_append_left (by simp only [D9A];omega)
    rw [show (pre++as0)++(bs++us)++(zs++post).drop us.length=(pre++(as0++bs))++(us++(zs++post).drop us.length) by simp,show pre++(as0++(bs++zs))++post=(pre++(as0++bs))++(zs++post) by simp,key,key]
   ·rw [← hxc];exact E1 (H1 _ _ _ _ hk)
  have hok:OK T (e.turned (E6 e.w b (o+off * C2 T el+n * C2 T el) us) id (ver+1) (n+ns.length) (some (b,o+off * C2 T el))) id (.row el (ver+1) ((xs.drop off).take n++ns) false sh):=by
   refine ⟨v0,by omega,upd_same _ _ _,v3,(upd_same _ _ _).trans hln.symm,v5,.inr ⟨rfl,b,o+off * C2 T el,cs',ty',fz,pre++as0,bs++us,(zs++post).drop us.length,upd_same _ _ _,f1,A3z h3 h2 f1 hsz,hcs',by simp only [D9A];omega,rvnew _ hle,fun i hi hs'=>?_,fun hh i hi hs'=>?_⟩⟩
   ·have:=hSi i hs';simp only [D9A] at hi;omega
   ·exact h8 hh i (by omega) hs'
  have hos:=h.turn ho hle (o':=.row el (ver+1) ((xs.drop off).take n++ns) false sh) (fun j hj=>A2 _ _ hj) (fun j hj=>A2 _ _ hj) (fun _ hu=>hu)
   (fun k' _ hk=>H1 _ _ _ _ (fun hkb=>hk o (by rw [hkb];exact h1))) (by show _≤(E6 _ _ _ _).heap.size;rw [Q8];exact Nat.le_refl _) (fun _ _ hs'=>.inl hs')
   (fun b' q hb=>by
    have hb':D9 e.ι id (some (b,o+off * C2 T el)) id=some (b',q):=hb
    rw [upd_same] at hb';cases hb';exact .inl ⟨o,h1⟩) (S1 _ _ _ _).1 (S1 _ _ _ _).2.1 (S1 _ _ _ _).2.2 hok
  have hst:∀ a,some (⟨b,k,none⟩:Addr)=some a→(storeCells (a.add (n * te.size)) us).run P e.w=.ok () (E6 e.w b (o+off * C2 T el+n * C2 T el) us):=by
   intro a ha
   cases ha
   by_cases hc0:cap=0
   ·have:us=[]:=List.eq_nil_of_length_eq_zero (by rw [hsize,show ns.length=0 by omega];simp)
    subst this
    simp [storeCells,E6]
   ·rw [D1,k5 (by omega),← hz]
    exact W1 h2 h3 hus.one hfit
  have hrun:=A08 (P:=P) (ty:=ty) (A:=some ⟨b,k,none⟩) (n:=n) (cap:=cap) ht (hT _ _ hel) hs hroom hst (fun ha=>by cases ha)
  refine A1 hrun ⟨_,rfl,hos,hle,fun _ hu=>.inl hu,?_⟩
  have hlne:(e.turned (E6 e.w b (o+off * C2 T el+n * C2 T el) us) id (ver+1) (n+ns.length) (some (b,o+off * C2 T el))).ln id=n+ns.length:=upd_same _ _ _
  have:=A0L (T:=T) (e:=e.turned (E6 e.w b (o+off * C2 T el+n * C2 T el) us) id (ver+1) (n+ns.length) (some (b,o+off * C2 T el))) (cap:=cap) v0 (upd_same _ _ _) (by omega) (upd_same _ _ _) (by rw [hlne];exact hroom)
   (by show _+_ * C2 T (e.ty id)=R0 (E6 _ _ _ _) b;rw [hblen,Q5 h2,v3];omega) k5
  rwa [hlne] at this
 ·-- a new block
  obtain ⟨z,cap2,hc2,hzr,hrun⟩:=A09 (P:=P) (ty:=ty) (os:=bs) ht (hT _ _ hel) hs (A:=some ⟨b,k,none⟩) (n:=n) (cap:=cap) (fun w' hw'=>by
   have hbl':bs.length=n * te.size:=by rw [q2,hz]
   simp only [Builtin.firstCells]
   rw [← hbl']
   refine Y6 w' _ bs (fun j y hj=>?_)
   have hjl:=(List.getElem?_eq_some_iff.1 hj).1
   have hn0:0 < n:=by
    rcases Nat.eq_zero_or_pos n with h0 | h0
    ·rw [h0] at hbl';simp at hbl';rw [hbl'] at hjl;simp at hjl
    ·exact h0
   rw [D1,k5 (by omega),E1 (w:=e.w) (by rw [hw']),F4 h2,h4]
   have e1:pre++(as0++(bs++zs))++post=(pre++as0)++(bs++(zs++post)):=by simp
   rw [e1,show o+off * C2 T el+j=(pre++as0).length+j by simp only [D9A];omega]
   exact N0 hj) (by omega) hbytes h63
  have hzz:∀ e,RV T e [el] [te.zero] z.cells.toList:=hzr.elim (fun q=>q) (fun q=>absurd q hno)
  have hzs:z.cells.size=te.size:=by
   have:=(hzz e).one_len
   rw [hz,D9F] at this;exact this
  have hcs:((bs++us).toArray++Builtin.zeroCells z.cells (cap2 - (n+ns.length))).size=cap2 * C2 T el:=by
   rw [hz] at q2 ⊢
   simp only [Array.size_append,List.size_toArray,D9A,q2,hsize,size_zeroCells,hzs,← Nat.add_mul]
   congr 1;omega
  have hheap:(e.w.drew.alloc (.cells ((bs++us).toArray++Builtin.zeroCells z.cells (cap2 - (n+ns.length))) el)).heap[e.w.heap.size]? = some (.cells ((bs++us).toArray++Builtin.zeroCells z.cells (cap2 - (n+ns.length))) el (0,0)):=G7 e.w.drew _
  have hsz:(e.w.drew.alloc (.cells ((bs++us).toArray++Builtin.zeroCells z.cells (cap2 - (n+ns.length))) el)).heap.size=e.w.heap.size+1:=E5 e.w.drew _
  have hle:e.le (e.turned (e.w.drew.alloc (.cells ((bs++us).toArray++Builtin.zeroCells z.cells (cap2 - (n+ns.length))) el)) id (ver+1) (n+ns.length) (some (e.w.heap.size,0))) :=
   A1o B0a (by omega) (fun k' i hs' x hx=>by rw [← hx];exact E1 (D4 e.w.drew _ (h.slt _ _ hs'))) (fun b hb=>D0 (D4 e.w.drew _ hb)) (fun j b o hj hb=>h.lt _ _ _ hj hb) (by omega)
  have hok:OK T (e.turned (e.w.drew.alloc (.cells ((bs++us).toArray++Builtin.zeroCells z.cells (cap2 - (n+ns.length))) el)) id (ver+1) (n+ns.length) (some (e.w.heap.size,0))) id (.row el (ver+1) ((xs.drop off).take n++ns) false sh):=by
   refine ⟨v0,by omega,upd_same _ _ _,v3,(upd_same _ _ _).trans hln.symm,v5,.inr ⟨rfl,e.w.heap.size,0,_,el,(0,0),[],bs++us,(Builtin.zeroCells z.cells (cap2 - (n+ns.length))).toList,upd_same _ _ _,hheap,A1n hheap,by simp,rfl,rvnew _ hle,fun i _ hs'=>?_,fun _ i _ hs'=>?_⟩⟩
   ·have:=h.slt _ _ hs';omega
   ·have:=h.slt _ _ hs';omega
  have hos:=h.turn ho hle (o':=.row el (ver+1) ((xs.drop off).take n++ns) false sh) (fun j hj=>A2 _ _ hj) (fun j hj=>A2 _ _ hj) (fun _ hu=>hu) (fun k hk _=>D4 e.w.drew _ hk) (by show _≤(e.w.drew.alloc _).heap.size;omega) (fun _ _ hs'=>.inl hs')
   (fun b q hb=>by
    have hb':D9 e.ι id (some (e.w.heap.size,0)) id=some (b,q):=hb
    rw [upd_same] at hb';cases hb';exact .inr ⟨Nat.le_refl _,by show _ < (e.w.drew.alloc _).heap.size;omega⟩) rfl rfl rfl hok
  refine A1 hrun ⟨_,rfl,hos,hle,fun _ hu=>.inl hu,?_⟩
  have hlne:(e.turned (e.w.drew.alloc (.cells ((bs++us).toArray++Builtin.zeroCells z.cells (cap2 - (n+ns.length))) el)) id (ver+1) (n+ns.length) (some (e.w.heap.size,0))).ln id=n+ns.length:=upd_same _ _ _
  have:=A0L (T:=T) (e:=e.turned (e.w.drew.alloc (.cells ((bs++us).toArray++Builtin.zeroCells z.cells (cap2 - (n+ns.length))) el)) id (ver+1) (n+ns.length) (some (e.w.heap.size,0))) (cap:=cap2) v0 (upd_same _ _ _) (by omega) (upd_same _ _ _) (by rw [hlne];exact hc2)
   (by show 0+_ * C2 T (e.ty id)=R0 (e.w.drew.alloc _) _;rw [Q5 hheap,hcs,v3];omega) (fun _=>rfl)
  rwa [hlne] at this
variable {P:Program} {T:TT} {c:F6} {e:B6} {of:Nat→Option Ob}
theorem A0m {w:World} {xt:TypeId} {z m cap:Nat} {us:List Value} {a:Addr} (ht:(∃ e,P.underlying xt=some (.slice e))∨P.underlying xt=some .string) (hl:us.length=m * z)
  (hc:∀ (j:Nat) y,us[j]? = some y→w.cell? (a.add j)=some y):Src P w xt (.slice (some a) m cap) z m us:=by
 refine ⟨ht,fun w'=>rfl,fun w' hw=>?_,hl⟩
 simp only [Builtin.firstCells]
 rw [← hl]
 refine Y6 w' a us (fun j y hj=>?_)
 rw [← hc j y hj]
 simp only [World.cell?,hw]
theorem A2w {w:World} {xt:TypeId} {z cap:Nat} {A:Option Addr} (ht:(∃ e,P.underlying xt=some (.slice e))∨P.underlying xt=some .string):Src P w xt (.slice A 0 cap) z 0 []:=by
 refine ⟨ht,fun w'=>rfl,fun w' hw=>?_,by simp⟩
 cases A<;>simp [Builtin.firstCells,loadCells,loadCellsFrom]
theorem C0v {w:World} {xt:TypeId} {s:ByteArray} (ht:P.underlying xt=some .string):Src P w xt (.string s) 1 s.data.toList.length (s.data.toList.map fun b=>Value.int .u8 b.toNat):=by
 refine ⟨.inr ht,fun w'=>by show (Pure.pure s.size:Sem Nat).run P w'=_;rw [Sem.run_pure,D9F];rfl,fun w' _=>?_,by simp⟩
 simp only [Builtin.firstCells,Sem.run_pure]
 congr 1
 apply Array.ext'
 simp only [Array.toList_map]
 congr 1
 have:s.extract 0 s.data.toList.length=s:=by
  apply ByteArray.ext
  simp
 rw [this]
theorem B0l {el:Nat} (hk:C3 T el=some (.int .u8)) (hz:C2 T el=1):∀ (l:List UInt8),RV T e (List.replicate l.length el) (l.map fun b=>V.i (b.toNat:Int)) (l.map fun b=>Value.int .u8 b.toNat):=by
 intro l
 induction l with
 | nil=>exact .nil
 | cons b r ih=>exact .int hk hz (by have:=b.toNat_lt;constructor<;>simp only [lo,hi]<;>omega) ih
def A5G:Value→Bool
 | .slice none 0 0=>true
 | _=>false
theorem A1J {v:Value} (h:A5G v=true):v=.slice none 0 0:=by
 unfold A5G at h;split at h
 ·rfl
 ·cases h
def J5 (T:TT) (of:Nat→Option Ob) (el:Nat):A→Option (List V×List Nat)
 | .v t x=>match C3 T t with
  | some (.slice el')=>if Nat.beq el el' then some (x.els,[]) else none
  | _=>none
 | .q t x=>match C3 T t with
  | some (.slice el')=>if Nat.beq el el' then some (x.els,[]) else none
  | _=>none
 | .s l=>match C3 T el with
  | some (.int .u8)=>if Nat.beq (C2 T el) 1 then some (l,[]) else none
  | _=>none
 | .z v=>if A5G v then some ([],[]) else none
 | .o id ver=>match of id with
  | some (.row el' v xs _ _)=>if Nat.beq el el'&&Nat.beq v ver then some (xs,[id]) else none
  | _=>none
 | .w id ver off n=>match of id with
  | some (.row el' v xs _ _)=>if Nat.beq el el'&&Nat.beq v ver&&Nat.ble (off+n) xs.length then some ((xs.drop off).take n,[id]) else none
  | _=>none
 | .a id t1 path lo m=>match C3 T t1,of id with
  | some (.arr _ el'),some (.box _ a _)=>match atA T a path with
   | some (.v t2 y)=>if Nat.beq el el'&&Nat.beq t1 t2 then some ((y.els.drop lo).take m,[id]) else none
   | _=>none
  | _,_=>none
 | _=>none
theorem B7l {xt el:Nat} {t:Nat} {x:V} {v:Value} (hty:(∃ e,P.underlying xt=some (.slice e))∨P.underlying xt=some .string) (hr:RV T e [t] [x] [v]) (hk:C3 T t=some (.slice el)) :
  ∃ us,Src P e.w xt v (C2 T el) x.els.length us∧RV T e (List.replicate x.els.length el) x.els us:=by
 rcases hr.slice_inv hk with ⟨rfl,hv⟩ | ⟨ys,ds,a,cap,rfl,hv,h1,h2,h3⟩
 ·injection hv with hv;subst hv;exact ⟨[],A2w hty,.nil⟩
 ·injection hv with hv;subst hv
  exact ⟨ds,A0m hty (by rw [h3.length.1,C6]) (fun j y hj=>(h2.2 j y hj).1),h3⟩
theorem A43 {xt el:Nat} {of':Nat→Option Ob} {a:A} {v:Value} {ns:List V} {ro:List Nat} (h:A8 T c e of') (hty:(∃ e,P.underlying xt=some (.slice e))∨P.underlying xt=some .string) (hst:∀ l,a=.s l→P.underlying xt=some .string)
  (hs:J5 T of el a=some (ns,ro)) (ho:∀ id∈ro,of' id=of id) (hr:B9 T e a v):∃ us,Src P e.w xt v (C2 T el) ns.length us∧RV T e (List.replicate ns.length el) ns us:=by
 cases a with
 | v t x =>
  simp only [J5] at hs
  split at hs<;>try (cases hs;done)
  rename_i el' hk
  split at hs<;>try (cases hs;done)
  rename_i hc
  have:=D9y hc;subst this
  injection hs with hs;injection hs with h1 h2;subst h1
  have hv:=hr.1
  have hone:one v=true:=by
   cases v<;>first | rfl | skip
   ·obtain ⟨k,q1,q2⟩:=hr.2.2 ⟨_,rfl⟩;rw [hk] at q1;cases q1;cases q2
   ·rename_i l
    have:=hv.one (.tuple l) (by simp [Value.cells])
    simp [one] at this
  rw [G0 hone] at hv
  exact B7l hty hv hk
 | q t x =>
  simp only [J5] at hs
  split at hs<;>try (cases hs;done)
  rename_i el' hk
  split at hs<;>try (cases hs;done)
  rename_i hc
  have:=D9y hc;subst this
  injection hs with hs;injection hs with h1 h2;subst h1
  have hr:RA T e [.q t x] [v]:=hr
  cases hr with
  | q g1 g2=>exact B7l hty g1 hk
  | r g1 _ _=>exact g1.elim
 | s l =>
  simp only [J5] at hs
  split at hs<;>try (cases hs;done)
  rename_i hk
  split at hs<;>try (cases hs;done)
  rename_i hc
  have hz:=D9y hc
  injection hs with hs;injection hs with h1 h2;subst h1
  have hr:RA T e [.s l] [v]:=hr
  cases hr with
  | s g =>
   rename_i s
   rw [hz]
   have:=C0v (P:=P) (w:=e.w) (s:=s) (hst _ rfl)
   refine ⟨_,by simpa [txt] using this,?_⟩
   have:=B0l (e:=e) hk hz s.data.toList
   simpa [txt] using this
  | r g1 _ _=>exact g1.elim
 | z x =>
  have hr:RA T e [.z x] [v]:=hr
  have hvx:v=x:=by
   cases hr with
   | z _ _=>rfl
   | r g1 _ _=>exact g1.elim
  subst hvx
  simp only [J5] at hs
  split at hs
  ·rename_i hz
   injection hs with hs;injection hs with h1 h2;subst h1
   rw [A1J hz]
   exact ⟨[],A2w hty,.nil⟩
  ·cases hs
 | o id ver =>
  simp only [J5] at hs
  split at hs<;>try (cases hs;done)
  rename_i el' v' xs nl sh hof
  split at hs<;>try (cases hs;done)
  rename_i hc
  simp only [D9z] at hc
  have:=D9y hc.1;subst this
  have:=D9y hc.2;subst this
  injection hs with hs;injection hs with h1 h2;subst h1;subst h2
  obtain ⟨v0,v1,v2,v3,v4,v5,h6⟩:=K9 h ((ho id (by simp)).trans hof)
  rcases h6 with ⟨rfl,g1,rfl⟩ | ⟨rfl,b,o,cs,ty,fz,pre,ys,post,h1,h2,h3,h4,h5,h6,h7,h8⟩
  ·rcases L6 hr v2 with ⟨_,_,rfl⟩ | ⟨b,o,cap,k,k1,_⟩
   ·exact ⟨[],A2w hty,.nil⟩
   ·rw [g1] at k1;cases k1
  ·rcases L6 hr v2 with ⟨k1,_,_⟩ | ⟨b',o',cap,k,k1,k2,k3,k4,rfl⟩
   ·rw [h1] at k1;cases k1
   rw [h1] at k1;cases k1
   rw [v4] at k2 ⊢
   have hl:=h6.length.1
   rw [C6] at hl
   by_cases h0:xs.length=0
   ·have:xs=[]:=List.eq_nil_of_length_eq_zero h0
    subst this
    exact ⟨[],A2w hty,.nil⟩
   ·refine ⟨ys,A0m hty hl (fun j y hj=>?_),h6⟩
    rw [D1,k4 (by omega),F4 h2,h4,List.append_assoc,← h5]
    exact N0 hj
 | w id ver off n =>
  simp only [J5] at hs
  split at hs<;>try (cases hs;done)
  rename_i el' v' xs nl sh hof
  split at hs<;>try (cases hs;done)
  rename_i hc
  simp only [D9z] at hc
  have:=D9y hc.1.1;subst this
  have:=D9y hc.1.2;subst this
  have hn:=D9E hc.2
  injection hs with hs;injection hs with h1 h2;subst h1;subst h2
  obtain ⟨v0,v1,v2,v3,v4,v5,h6⟩:=K9 h ((ho id (by simp)).trans hof)
  obtain ⟨b',o',cap,k,k1,k2,k3,k4,k5,rfl⟩:=Q9 hr v2
  rcases h6 with ⟨rfl,g1,rfl⟩ | ⟨rfl,b,o,cs,ty,fz,pre,ys,post,h1,h2,h3,h4,h5,h6,h7,h8⟩
  ·rw [g1] at k1;cases k1
  rw [h1] at k1;cases k1
  rw [v3] at k5
  obtain ⟨as0,bs,zs,rfl,q1,q2,q3,q4⟩:=J4 h6 hn
  have hl:((xs.drop off).take n).length=n:=by rw [q3.length.2];simp
  rw [hl]
  by_cases h0:n=0
  ·subst h0;exact ⟨[],A2w hty,by simpa using RV.nil⟩
  ·refine ⟨bs,A0m hty q2 (fun j y hj=>?_),q3⟩
   rw [D1,k5 (by omega),F4 h2,h4]
   have e1:pre++(as0++(bs++zs))++post=(pre++as0)++(bs++(zs++post)):=by simp
   rw [e1,← h5,show pre.length+off * C2 T el+j=(pre++as0).length+j by simp only [D9A];omega]
   exact N0 hj
 | a id t1 path lo m =>
  simp only [J5] at hs
  split at hs<;>try (cases hs;done)
  rename_i n el' t0 a sh hk1 hof
  split at hs<;>try (cases hs;done)
  rename_i t2 y hat
  split at hs<;>try (cases hs;done)
  rename_i hc
  simp only [D9z] at hc
  have:=D9y hc.1;subst this
  have:=D9y hc.2;subst this
  injection hs with hs;injection hs with h1 h2;subst h1;subst h2
  obtain ⟨u1,u2,u3,u4,b,cs,ty,fz,g1,g2,g3,g4,g5,g6⟩:=X7 h ((ho id (by simp)).trans hof)
  obtain ⟨b',off,n',el',k,cap,_,_,k1,k2,k3,k4,k5,k6,rfl⟩:=V4 hr
  rw [g1] at k1;cases k1
  rw [hk1] at k3;cases k3
  rw [u3] at k2
  obtain ⟨pre,d,post,q1,q2,q3,q4,q5⟩:=Z2 path g5 u4 k2 hat
  obtain ⟨as0,bs,zs,rfl,r1,r2,r3⟩:=A37 q4.v_inv hk1 k4
  have hl:((y.els.drop lo).take m).length=m:=by rw [r3.length.2];simp
  rw [hl]
  by_cases h0:m=0
  ·subst h0;exact ⟨[],A2w hty,by simpa using RV.nil⟩
  ·refine ⟨bs,A0m hty r2 (fun j z hj=>?_),r3⟩
   rw [D1,k6 (by omega),F4 g2,q1]
   have e1:pre++((as0++(bs++zs))++post)=(pre++as0)++(bs++(zs++post)):=by simp
   rw [e1,show off+lo * C2 T el+j=(pre++as0).length+j by simp only [D9A];omega]
   exact N0 hj
 | _=>simp [J5] at hs
theorem A9c {id el:Nat} {xs:List V} {cs:Array Value} {ys post:List Value} (h:A8 T c e of) (hu:¬ e.U id) (hd:0 < C2 T el) (hcs:cs.toList=ys++post) (hr:RV T e (List.replicate xs.length el) xs ys) :
  OK T (e.new id 1 el xs.length cs el (0,0)) id (.row el 1 xs false false) :=
 ⟨.inl rfl,by omega,upd_same _ _ _,upd_same _ _ _,upd_same _ _ _,hd,.inr ⟨rfl,e.w.heap.size,0,cs,el,(0,0),[],ys,post,upd_same _ _ _,Z3 _ _ _ _ _ _ _ _,A1n (Z3 _ _ _ _ _ _ _ _),by simpa using hcs,rfl,hr.mono (h.le_new hu 1 el xs.length cs el (0,0)),
  fun i _ hs=>absurd (h.slt _ _ hs) (by omega),fun _ i _ hs=>absurd (h.slt _ _ hs) (by omega)⟩⟩
theorem C0w {id el:Nat} {xs:List V} {cs:Array Value} {ys post:List Value} {fz:Nat×Nat} (h:A8 T c e of) (hu:¬ e.U id) (hd:0 < C2 T el) (hcs:cs.toList=ys++post) (hr:RV T e (List.replicate xs.length el) xs ys) (hf:A06 (e.new id 1 el xs.length cs el fz).w e.w.heap.size cs) :
  OK T (e.new id 1 el xs.length cs el fz) id (.row el 1 xs false false) :=
 ⟨.inl rfl,by omega,upd_same _ _ _,upd_same _ _ _,upd_same _ _ _,hd,.inr ⟨rfl,e.w.heap.size,0,cs,el,fz,[],ys,post,upd_same _ _ _,Z3 _ _ _ _ _ _ _ _,hf,by simpa using hcs,rfl,hr.mono (h.le_new hu 1 el xs.length cs el fz),
  fun i _ hs=>absurd (h.slt _ _ hs) (by omega),fun _ i _ hs=>absurd (h.slt _ _ hs) (by omega)⟩⟩
theorem B1V {id el n cap:Nat} {cs:Array Value} {fz:Nat×Nat} (hc:cs.size=cap * C2 T el) (hn:n≤cap):B9 T (e.new id 1 el n cs el fz) (.o id 1) (.slice (some ⟨e.w.heap.size,0,none⟩) n cap):=by
 have h:=A0L (T:=T) (e:=e.new id 1 el n cs el fz) (id:=id) (ver:=1) (b:=e.w.heap.size) (o:=0) (cap:=cap) (k:=0) (.inl rfl) (upd_same _ _ _) (by omega) (upd_same _ _ _) (by rw [show (e.new id 1 el n cs el fz).ln id=n from upd_same _ _ _];exact hn)
  (by rw [show (e.new id 1 el n cs el fz).ty id=el from upd_same _ _ _,Q5 (Z3 _ _ _ _ _ _ _ _),hc];omega) (fun _=>rfl)
 rwa [show (e.new id 1 el n cs el fz).ln id=n from upd_same _ _ _] at h
theorem A2x {id el n cap:Nat} {cs:Array Value} (hc:cs.size=cap * C2 T el) (hn:n≤cap):B9 T (e.new id 1 el n cs el (0,0)) (.o id 1) (.slice (some ⟨e.w.heap.size,0,none⟩) n cap):=by
 have h:=A0L (T:=T) (e:=e.new id 1 el n cs el (0,0)) (id:=id) (ver:=1) (b:=e.w.heap.size) (o:=0) (cap:=cap) (k:=0) (.inl rfl) (upd_same _ _ _) (by omega) (upd_same _ _ _) (by rw [show (e.new id 1 el n cs el (0,0)).ln id=n from upd_same _ _ _];exact hn)
  (by rw [show (e.new id 1 el n cs el (0,0)).ty id=el from upd_same _ _ _,Q5 (Z3 _ _ _ _ _ _ _ _),hc];omega) (fun _=>rfl)
 rwa [show (e.new id 1 el n cs el (0,0)).ln id=n from upd_same _ _ _] at h
theorem X8 (z:Array Value):∀ n,(madeCells z (n * z.size)).toList=(List.replicate n z.toList).flatten:=by
 intro n
 apply List.ext_getElem?
 intro j
 have hfl:∀ n,(List.replicate n z.toList).flatten.length=n * z.size:=by
  intro n;rw [List.length_flatten,List.map_replicate,List.sum_replicate_nat];simp
 by_cases hj:j < n * z.size
 ·have h1:(madeCells z (n * z.size)).toList[j]? = some z[j % z.size]! := by
   simp [madeCells,hj]
  rw [h1]
  have key:∀ n j,j < n * z.size→(List.replicate n z.toList).flatten[j]? = some z[j % z.size]! := by
   intro n
   induction n with
   | zero=>intro j hj;simp at hj
   | succ n ih =>
    intro j hj
    rw [List.replicate_succ,List.flatten_cons]
    by_cases hjz:j < z.size
    ·rw [List.getElem?_append_left (by simpa using hjz),Nat.mod_eq_of_lt hjz]
     simp [hjz]
    ·rw [List.getElem?_append_right (by simpa using hjz),D9F,ih (j - z.size) (by rw [Nat.add_mul] at hj;omega),← Nat.mod_eq_sub_mod (by omega)]
  exact (key n j hj).symm
 ·rw [List.getElem?_eq_none (by rw [D9F,size_madeCells];omega),List.getElem?_eq_none (by rw [hfl];omega)]
theorem A1K {el:Nat} {z:V} {zs:List Value} (h:RV T e [el] [z] zs):∀ n,RV T e (List.replicate n el) (List.replicate n z) (List.replicate n zs).flatten:=by
 intro n
 induction n with
 | zero=>exact .nil
 | succ n ih=>rw [List.replicate_succ,List.replicate_succ,List.replicate_succ,List.flatten_cons];exact h.append ih
theorem B7m {t el:Nat} {te:TE} (h:A8 T c e of) (hT:H2 T P) (ht:P.underlying t=some (.slice el)) (hel:T el=some te) (hno:te.k≠.other) {id:Nat} (hu:¬ e.U id) (hz:0 < te.size) {kl kc:IntKind} {l cp:Int} (h0:0≤l) (hlc:l≤cp)
  (hb:cp * te.bytes≤140737488355328) (h63:cp≤4611686018427387904) {ro:List Nat} :
  C8 P (do pure (.value (← Instr.makeSlice t (.int kl l) (.int kc cp)))) e.w (D5 T c e of ⟨.o id 1,[(id,.row el 1 (List.replicate l.toNat te.zero) false false)],ro,[id]⟩):=by
 obtain ⟨i,z,h1,h2,h3,h4,h5,h6⟩:=B0k (hT _ _ hel) hel
 have hzz:=h5.elim (fun q=>q) (fun q=>absurd q hno)
 have h6:=h6 hzz
 have hsz:C2 T el=te.size:=G8 hel
 have hcb:cp.toNat * te.bytes≤140737488355328:=by
  obtain ⟨q,rfl⟩:=Int.eq_ofNat_of_zero_le (show 0≤cp by omega)
  rw [Int.toNat_natCast]
  have:((q * te.bytes:Nat):Int)≤140737488355328:=by rw [Int.natCast_mul];exact hb
  omega
 have hrun:=run_make (P:=P) e.w t el i z ht h1 h2 kl kc l cp h0 hlc (by rw [h4,Int.mul_comm];omega) (by omega)
 have hcells:(madeCells z.cells (cp.toNat * i.size)).size=cp.toNat * te.size:=by rw [size_madeCells,h3]
 have hsp:(madeCells z.cells (cp.toNat * i.size)).toList=(List.replicate l.toNat z.cells.toList).flatten++(List.replicate (cp.toNat - l.toNat) z.cells.toList).flatten:=by
  rw [h3,← h6,X8 _,← List.flatten_append,List.replicate_append_replicate]
  congr 2;omega
 have hok:=A9c (id:=id) (el:=el) (xs:=List.replicate l.toNat te.zero) h hu (by rw [hsz];exact hz) hsp (by rw [List.length_replicate];exact A1K (hzz e) _)
 rw [List.length_replicate] at hok
 exact A1 hrun (A0I h hu hok (A2x (by rw [hcells,hsz]) (by omega)))
variable {P:Program} {T:TT} {c:F6} {e:B6} {of:Nat→Option Ob}
def B6.nil (e:B6) (id el:Nat):B6:={ e with ι:=D9 e.ι id none,bn:=D9 e.bn id 1,U:=fun j=>j=id∨e.U j,ty:=D9 e.ty id el,ln:=D9 e.ln id 0 }
theorem A8.le_nil (_h:A8 T c e of) {id el:Nat} (hu:¬ e.U id):e.le (e.nil id el):=by
 have hne:∀ j,e.U j→j≠id:=fun j hj he=>hu (he ▸ hj)
 refine ⟨fun b i hs=>⟨hs,fun _ hx=>hx⟩,fun _ hj=>.inr hj,fun j hj _=>⟨A2 _ _ (hne j hj),A2 _ _ (hne j hj),fun _ _ _=>rfl⟩,fun j hj h0=>?_,fun j hj=>?_,fun j hj=>A2 _ _ (hne j hj),Nat.le_refl _,fun _ _=>rfl⟩
 ·show D9 e.bn id 1 j=0
  rw [A2 _ _ (hne j hj)];exact h0
 ·show _≤D9 e.bn id 1 j
  rw [A2 _ _ (hne j hj)];exact Nat.le_refl _
theorem A8.nil (h:A8 T c e of) {id el:Nat} (hu:¬ e.U id) {nl:Bool} (hnl:nl=true) (hd:0 < C2 T el):A8 T c (e.nil id el) (D9 of id (some (.row el 1 [] nl false))):=by
 have hle:=h.le_nil (el:=el) hu
 have hιn:(e.nil id el).ι id=none:=upd_same _ _ _
 have hι:∀ j,j≠id→(e.nil id el).ι j=e.ι j:=fun j hj=>A2 _ _ hj
 refine ⟨fun j o hj=>?_,fun j k b q b' q' hj hk hb1 hb2 hne=>?_,fun j b q hj hb=>?_,fun j b q hj hb=>?_,h.slt,h.s0,h.snew,h.os,h.tape,h.output,h.size,h.block,?_⟩
 ·by_cases he:j=id
  ·subst he
   rw [upd_same] at hj;cases hj
   exact ⟨.inl rfl,by omega,upd_same _ _ _,upd_same _ _ _,upd_same _ _ _,hd,.inl ⟨hnl,hιn,rfl⟩⟩
  ·rw [A2 _ _ he] at hj
   exact (h.ok _ _ hj).keep hle (A2 _ _ he) (fun _ _ _=>rfl) (fun _ _ _ _ hs=>hs) (fun a o' b _ hG=>⟨hG,rfl,fun i hs=>hs⟩)
 ·have h1:j≠id:=fun he=>by subst he;rw [hιn] at hb1;cases hb1
  have h2:k≠id:=fun he=>by subst he;rw [hιn] at hb2;cases hb2
  rw [hι _ h1] at hb1
  rw [hι _ h2] at hb2
  rw [A2 _ _ h1] at hj
  rw [A2 _ _ h2] at hk
  exact h.sep _ _ _ _ _ _ hj hk hb1 hb2 hne
 ·have h1:j≠id:=fun he=>by subst he;rw [hιn] at hb;cases hb
  rw [hι _ h1] at hb
  rw [A2 _ _ h1] at hj
  exact h.own _ _ _ hj hb
 ·have h1:j≠id:=fun he=>by subst he;rw [hιn] at hb;cases hb
  rw [hι _ h1] at hb
  exact h.lt _ _ _ (hj.resolve_left h1) hb
 ·refine h.g.mono (fun _ _ q=>q) rfl (fun _ q=>q) (Nat.le_refl _) (fun j b o hj hb=>?_)
  have h1:j≠id:=fun he=>by subst he;rw [hιn] at hb;cases hb
  rw [A2 _ _ h1] at hj
  rw [hι _ h1] at hb
  exact .inl ⟨j,o,hj,hb⟩
theorem B0m {id el:Nat} (h:A8 T c e of) (hu:¬ e.U id) {nl:Bool} (hnl:nl=true) (hd:0 < C2 T el) {ro:List Nat} :
  D5 T c e of ⟨.o id 1,[(id,.row el 1 [] nl false)],ro,[id]⟩ (.slice none 0 0) e.w :=
 ⟨e.nil id el,rfl,h.nil hu hnl hd,h.le_nil hu,fun j hj=>by rcases hj with rfl | hj;exact .inr (by simp);exact .inl hj,A2v (.inl rfl) (upd_same _ _ _) (by omega) (upd_same _ _ _) (upd_same _ _ _)⟩
theorem W2 {t xt ty el:TypeId} {te:TE} (h:A8 T c e of) (hT:H2 T P) (ht:P.underlying t=some (.slice el)) (hel:T el=some te) (hno:te.k≠.other) {id:Nat} (hu:¬ e.U id) (hz0:0 < te.size) {xs ns:List V} {A:Option Addr} {y:Value} {us os:List Value}
  (hs:Src P e.w xt y te.size ns.length us) (hus:RV T e (List.replicate ns.length el) ns us) (hA:A=none∧xs=[]∨ns≠[])
  (B0a:∀ w':World,w'.heap=e.w.heap→(Builtin.firstCells te.size xs.length (.slice A xs.length xs.length)).run P w'=.ok os.toArray w') (hos:RV T e (List.replicate xs.length el) xs os)
  (hbytes:(xs.length+ns.length) * te.bytes≤140737488355328) (h63:xs.length+ns.length≤4611686018427387904) {ro:List Nat} :
  C8 P (do pure (.value (← Builtin.append_ #[t,xt] ty #[.slice A xs.length xs.length,y]))) e.w (D5 T c e of ⟨.o id 1,[(id,.row el 1 (xs++ns) ns.isEmpty false)],ro,[id]⟩):=by
 have hz:C2 T el=te.size:=G8 hel
 by_cases hn:ns=[]
 ·subst hn
  rcases hA with ⟨rfl,rfl⟩ | hA
  ·have hrun:=A08 (P:=P) (ty:=ty) (A:=none) (n:=0) (cap:=0) (w':=e.w) ht (hT _ _ hel) hs (by simp) (fun a ha=>by cases ha) (fun _=>rfl)
   exact A1 hrun (B0m h hu rfl (by omega))
  ·exact absurd rfl hA
 ·have hpos:0 < ns.length:=List.length_pos_iff.2 hn
  have he:ns.isEmpty=false:=by cases ns<;>first | rfl | exact absurd rfl hn
  rw [he]
  obtain ⟨z,cap2,hc2,hzr,hrun⟩:=A09 (P:=P) (ty:=ty) (A:=A) (n:=xs.length) (cap:=xs.length) (os:=os) ht (hT _ _ hel) hs B0a (by omega) hbytes h63
  have hzz:∀ e,RV T e [el] [te.zero] z.cells.toList:=hzr.elim (fun q=>q) (fun q=>absurd q hno)
  have hzs:z.cells.size=te.size:=by
   have:=(hzz e).one_len
   rw [hz,D9F] at this;exact this
  have hol:=hos.length.1
  rw [C6,hz] at hol
  have hsize:=hs.size
  have hcs:((os++us).toArray++Builtin.zeroCells z.cells (cap2 - (xs.length+ns.length))).size=cap2 * C2 T el:=by
   rw [hz]
   simp only [Array.size_append,List.size_toArray,D9A,hol,hsize,size_zeroCells,hzs,← Nat.add_mul]
   congr 1;omega
  obtain ⟨hd0,hle0⟩:=h.same_heap (w':=e.w.drew) rfl rfl rfl rfl
  have hok:=A9c (id:=id) (el:=el) (xs:=xs++ns) (cs:=(os++us).toArray++Builtin.zeroCells z.cells (cap2 - (xs.length+ns.length))) (ys:=os++us) (post:=(Builtin.zeroCells z.cells (cap2 - (xs.length+ns.length))).toList) hd0 hu (by omega) (by simp)
   (by rw [D9A,← List.replicate_append_replicate];exact (hos.mono hle0).append (hus.mono hle0))
  obtain ⟨e',p1,p2,p3,p4,p5⟩:=A0I (ro:=ro) hd0 hu hok (A2x (n:=(xs++ns).length) (cap:=cap2) hcs (by rw [D9A];exact hc2))
  rw [D9A] at p5
  exact A1 hrun ⟨e',p1,p2,hle0.trans p3,p4,p5⟩
theorem A9d {t xt ty el:TypeId} {te:TE} (h:A8 T c e of) (hT:H2 T P) (ht:P.underlying t=some (.slice el)) (hel:T el=some te) (hno:te.k≠.other) {id ver:Nat} {xs ns:List V} {nl sh:Bool} {x y:Value} {us:List Value}
  (ho:of id=some (.row el ver xs nl sh)) (hx:B9 T e (.o id ver) x) (hs:Src P e.w xt y te.size ns.length us) (hus:RV T e (List.replicate ns.length el) ns us)
  (hbytes:(xs.length+ns.length) * te.bytes≤140737488355328) (h63:xs.length+ns.length≤4611686018427387904) {ro:List Nat} :
  C8 P (do pure (.value (← Builtin.append_ #[t,xt] ty #[x,y]))) e.w (D5 T c e of ⟨.o id (ver+1),[(id,.row el (ver+1) (xs++ns) (nl&&ns.isEmpty) sh)],ro,[]⟩):=by
 obtain ⟨v0,v1,v2,v3,v4,v5,h6⟩:=K9 h ho
 have hz:C2 T el=te.size:=G8 hel
 cases nl with
 | false =>
  have hι:e.ι id≠none:=by
   rcases h6 with ⟨q,_⟩ | ⟨_,b,o,cs,ty,fz,pre,ys,post,h1,_⟩
   ·cases q
   ·rw [h1];intro q;cases q
  have hw:=A5F hx v2 v1 hι v0
  rw [v4] at hw
  have:=A3A (ro:=ro) (ty:=ty) h hT ht hel hno ho (off:=0) (n:=xs.length) (by omega) (.inl (by omega)) hw hs hus hbytes h63
  simpa using this
 | true =>
  obtain ⟨g1,rfl⟩:e.ι id=none∧xs=[]:=by
   rcases h6 with ⟨_,g1,g2⟩ | ⟨q,_⟩
   ·exact ⟨g1,g2⟩
   ·cases q
  have hxv:x=.slice none 0 0:=by
   rcases L6 hx v2 with ⟨_,_,q⟩ | ⟨b,o,cap,k,k1,_⟩
   ·exact q
   ·rw [g1] at k1;cases k1
  subst hxv
  by_cases hn:ns=[]
  ·subst hn
   have hle:e.le (e.turned e.w id (ver+1) 0 none):=A1o (by omega) (by omega) (fun _ _ _ _ hx=>hx) (fun _ _=>rfl) (fun j b o hj hb=>h.lt _ _ _ hj hb) (Nat.le_refl _)
   have hok:OK T (e.turned e.w id (ver+1) 0 none) id (.row el (ver+1) [] true sh):=⟨v0,by omega,upd_same _ _ _,v3,upd_same _ _ _,v5,.inl ⟨rfl,upd_same _ _ _,rfl⟩⟩
   have hos:=h.turn ho hle (o':=.row el (ver+1) [] true sh) (fun j hj=>A2 _ _ hj) (fun j hj=>A2 _ _ hj) (fun _ hu=>hu) (fun _ _ _=>rfl) (Nat.le_refl _) (fun _ _ hs'=>.inl hs') (fun b q hb=>by
    have hb':D9 e.ι id none id=some (b,q):=hb
    rw [upd_same] at hb';cases hb') rfl rfl rfl hok
   have hrun:=A08 (P:=P) (ty:=ty) (A:=none) (n:=0) (cap:=0) (w':=e.w) ht (hT _ _ hel) hs (by simp) (fun a ha=>by cases ha) (fun _=>rfl)
   exact A1 hrun ⟨e.turned e.w id (ver+1) 0 none,rfl,hos,hle,fun _ hu=>.inl hu,A2v v0 (upd_same _ _ _) (by omega) (upd_same _ _ _) (upd_same _ _ _)⟩
  ·have hpos:0 < ns.length:=List.length_pos_iff.2 hn
   have he:ns.isEmpty=false:=by cases ns<;>first | rfl | exact absurd rfl hn
   rw [he]
   simp only [List.length_nil,Nat.zero_add] at hbytes h63
   obtain ⟨z,cap2,hc2,hzr,hrun⟩:=A09 (P:=P) (ty:=ty) (A:=none) (n:=0) (cap:=0) (os:=[]) ht (hT _ _ hel) hs (fun w' _=>by simp [Builtin.firstCells]) (by omega) (by rw [Nat.zero_add];exact hbytes) (by omega)
   have hzz:∀ e,RV T e [el] [te.zero] z.cells.toList:=hzr.elim (fun q=>q) (fun q=>absurd q hno)
   have hzs:z.cells.size=te.size:=by
    have:=(hzz e).one_len
    rw [hz,D9F] at this;exact this
   have hsize:=hs.size
   have hcs:((([]:List Value)++us).toArray++Builtin.zeroCells z.cells (cap2 - (0+ns.length))).size=cap2 * C2 T el:=by
    rw [hz]
    simp only [Array.size_append,List.size_toArray,List.nil_append,hsize,size_zeroCells,hzs,← Nat.add_mul]
    congr 1;omega
   have hheap:(e.w.drew.alloc (.cells ((([]:List Value)++us).toArray++Builtin.zeroCells z.cells (cap2 - (0+ns.length))) el)).heap[e.w.heap.size]? = some (.cells ((([]:List Value)++us).toArray++Builtin.zeroCells z.cells (cap2 - (0+ns.length))) el (0,0)):=G7 e.w.drew _
   have hsz:(e.w.drew.alloc (.cells ((([]:List Value)++us).toArray++Builtin.zeroCells z.cells (cap2 - (0+ns.length))) el)).heap.size=e.w.heap.size+1:=E5 e.w.drew _
   have hle:e.le (e.turned (e.w.drew.alloc (.cells ((([]:List Value)++us).toArray++Builtin.zeroCells z.cells (cap2 - (0+ns.length))) el)) id (ver+1) ns.length (some (e.w.heap.size,0))) :=
    A1o (by omega) (by omega) (fun k' i hs' x hx=>by rw [← hx];exact E1 (D4 e.w.drew _ (h.slt _ _ hs'))) (fun b hb=>D0 (D4 e.w.drew _ hb)) (fun j b o hj hb=>h.lt _ _ _ hj hb) (by omega)
   have hok:OK T (e.turned (e.w.drew.alloc (.cells ((([]:List Value)++us).toArray++Builtin.zeroCells z.cells (cap2 - (0+ns.length))) el)) id (ver+1) ns.length (some (e.w.heap.size,0))) id (.row el (ver+1) ns false sh) :=
    ⟨v0,by omega,upd_same _ _ _,v3,upd_same _ _ _,v5,.inr ⟨rfl,e.w.heap.size,0,_,el,(0,0),[],us,(Builtin.zeroCells z.cells (cap2 - (0+ns.length))).toList,upd_same _ _ _,hheap,A1n hheap,by simp,rfl,hus.mono hle,
     fun i _ hs'=>by have:=h.slt _ _ hs';omega,fun _ i _ hs'=>by have:=h.slt _ _ hs';omega⟩⟩
   have hos:=h.turn ho hle (o':=.row el (ver+1) ns false sh) (fun j hj=>A2 _ _ hj) (fun j hj=>A2 _ _ hj) (fun _ hu=>hu) (fun k hk _=>D4 e.w.drew _ hk) (by show _≤(e.w.drew.alloc _).heap.size;omega) (fun _ _ hs'=>.inl hs')
    (fun b q hb=>by
     have hb':D9 e.ι id (some (e.w.heap.size,0)) id=some (b,q):=hb
     rw [upd_same] at hb';cases hb';exact .inr ⟨Nat.le_refl _,by show _ < (e.w.drew.alloc _).heap.size;omega⟩) rfl rfl rfl hok
   refine A1 hrun ⟨_,rfl,hos,hle,fun _ hu=>.inl hu,?_⟩
   have hlne:(e.turned (e.w.drew.alloc (.cells ((([]:List Value)++us).toArray++Builtin.zeroCells z.cells (cap2 - (0+ns.length))) el)) id (ver+1) ns.length (some (e.w.heap.size,0))).ln id=ns.length:=upd_same _ _ _
   have:=A0L (T:=T) (e:=e.turned (e.w.drew.alloc (.cells ((([]:List Value)++us).toArray++Builtin.zeroCells z.cells (cap2 - (0+ns.length))) el)) id (ver+1) ns.length (some (e.w.heap.size,0))) (cap:=cap2) (k:=0) v0 (upd_same _ _ _) (by omega) (upd_same _ _ _) (by rw [hlne];omega)
    (by show 0+_ * C2 T (e.ty id)=R0 (e.w.drew.alloc _) _;rw [Q5 hheap,hcs,v3];omega) (fun _=>rfl)
   rw [hlne] at this
   simpa using this
def LIM:Nat:=1073741824
def A0V (T:TT) (of:Nat→Option Ob) (nx t:Nat) (x y:A):Option Out :=
 match C3 T t with
 | some (.slice el)=>match T el,J5 T of el y with
  | some te,some (ns,ro)=>if Nat.ble te.bytes 131072&&TK.notOther te.k&&Nat.blt 0 te.size then
    match x with
    | .o id ver=>match of id with
     | some (.row el' v xs nl sh)=>if Nat.beq el el'&&Nat.beq v ver&&Nat.ble (xs.length+ns.length) LIM then
       some ⟨.o id (ver+1),[(id,.row el (ver+1) (xs++ns) (nl&&ns.isEmpty) sh)],id::ro,[]⟩ else none
     | _=>none
    | .w id ver off n=>match of id with
     | some (.row el' v xs false sh)=>if Nat.beq el el'&&Nat.beq v ver&&Nat.ble (off+n) xs.length&&(Nat.beq (off+n) xs.length||!sh)&&Nat.ble (n+ns.length) LIM then
       some ⟨.o id (ver+1),[(id,.row el (ver+1) ((xs.drop off).take n++ns) false sh)],id::ro,[]⟩ else none
     | _=>none
    | .v t' .n=>if same T t t'&&Nat.ble ns.length LIM then some ⟨.o nx 1,[(nx,.row el 1 ns ns.isEmpty false)],ro,[nx]⟩ else none
    | .z v=>if A5G v&&Nat.ble ns.length LIM then some ⟨.o nx 1,[(nx,.row el 1 ns ns.isEmpty false)],ro,[nx]⟩ else none
    | .q t' x=>if same T t t'&&!ns.isEmpty&&Nat.ble (x.els.length+ns.length) LIM then some ⟨.o nx 1,[(nx,.row el 1 (x.els++ns) ns.isEmpty false)],ro,[nx]⟩ else none
    | _=>none
   else none
  | _,_=>none
 | _=>none
variable {P:Program} {T:TT} {c:F6} {e:B6} {of:Nat→Option Ob}
theorem V5 {k:TK} (h:TK.notOther k=true):k≠.other:=by intro q;rw [q] at h;cases h
def A1p (T:TT) (xt:Nat) (y:A):Bool :=
 match C3 T xt with
 | some .str=>true
 | some (.slice _)=>match y with
  | .s _=>false
  | _=>true
 | _=>false
theorem A5H {xt:Nat} {y:A} (hT:H2 T P) (h:A1p T xt y=true):((∃ e,P.underlying xt=some (.slice e))∨P.underlying xt=some .string)∧∀ l,y=.s l→P.underlying xt=some .string:=by
 unfold A1p at h
 split at h
 ·rename_i hk
  obtain ⟨te,h1,h2⟩:=B8 hk
  have:=S9 (hT _ _ h1) h2
  exact ⟨.inr this,fun _ _=>this⟩
 ·rename_i el hk
  obtain ⟨te,h1,h2⟩:=B8 hk
  refine ⟨.inl ⟨el,F9 (hT _ _ h1) h2⟩,fun l hl=>?_⟩
  subst hl;cases h
 ·cases h
theorem A0u {n b:Nat} (hn:Nat.ble n LIM=true) (hb:Nat.ble b 131072=true):n * b≤140737488355328∧n≤4611686018427387904:=by
 have h1:=D9E hn
 have h2:=D9E hb
 have:n * b≤1073741824 * 131072:=Nat.mul_le_mul h1 h2
 unfold LIM at h1
 omega
theorem D7 {t:Nat} {x:V} {v:Value} (hr:B9 T e (.v t x) v) (hs:∃ k,C3 T t=some k∧k.agg=false):RV T e [t] [x] [v]:=by
 have hone:one v=true:=by
  cases v<;>first | rfl | skip
  ·obtain ⟨k,q1,q2⟩:=hr.2.2 ⟨_,rfl⟩;obtain ⟨k',r1,r2⟩:=hs;rw [q1] at r1;cases r1;rw [q2] at r2;cases r2
  ·rename_i l
   have:=hr.1.one (.tuple l) (by simp [Value.cells])
   simp [one] at this
 have:=hr.1
 rwa [G0 hone] at this
theorem B1W {t xt ty:TypeId} {of':Nat→Option Ob} {nx:Nat} {u v:A} {x y:Value} {out:Out} (h:A8 T c e of') (hT:H2 T P) (hxt:A1p T xt v=true) (hr:A0V T of nx t u v=some out) (ho:∀ id∈out.ro,of' id=of id) (hu:∀ id∈out.nw,¬ e.U id) (hx:B9 T e u x) (hy:B9 T e v y) :
  C8 P (do pure (.value (← Builtin.append_ #[t,xt] ty #[x,y]))) e.w (D5 T c e of' out):=by
 obtain ⟨hty,hst⟩:=A5H hT hxt
 unfold A0V at hr
 split at hr<;>try (cases hr;done)
 rename_i el hk
 obtain ⟨tet,ht1,ht2⟩:=B8 hk
 have ht:=F9 (hT _ _ ht1) ht2
 split at hr<;>try (cases hr;done)
 rename_i te ns ro hel hsrc
 split at hr<;>try (cases hr;done)
 rename_i hc
 simp only [D9z] at hc
 obtain ⟨⟨hby,hno⟩,hz0⟩:=hc
 have hno:=V5 hno
 have hz0:0 < te.size:=by simpa using hz0
 have hz:C2 T el=te.size:=G8 hel
 have src:(∀ id∈ro,of' id=of id)→∃ us,Src P e.w xt y te.size ns.length us∧RV T e (List.replicate ns.length el) ns us:=fun ho=>by
  rw [← hz];exact A43 h hty hst hsrc ho hy
 split at hr
 ·-- a whole slice
  rename_i id ver
  split at hr<;>try (cases hr;done)
  rename_i el' v' xs nl sh hof
  split at hr<;>try (cases hr;done)
  rename_i hc
  simp only [D9z] at hc
  have:=D9y hc.1.1;subst this
  have:=D9y hc.1.2;subst this
  injection hr with hr;subst hr
  obtain ⟨b1,b2⟩:=A0u hc.2 hby
  obtain ⟨us,s1,s2⟩:=src (fun id A4=>ho id (by simp [A4]))
  exact A9d h hT ht hel hno ((ho _ (by simp)).trans hof) hx s1 s2 b1 b2
 ·rename_i id ver off n
  split at hr<;>try (cases hr;done)
  rename_i el' v' xs sh hof
  split at hr<;>try (cases hr;done)
  rename_i hc
  simp only [D9z,Bool.or_eq_true,Bool.not_eq_true'] at hc
  have:=D9y hc.1.1.1.1;subst this
  have:=D9y hc.1.1.1.2;subst this
  injection hr with hr;subst hr
  obtain ⟨b1,b2⟩:=A0u hc.2 hby
  obtain ⟨us,s1,s2⟩:=src (fun id A4=>ho id (by simp [A4]))
  exact A3A h hT ht hel hno ((ho _ (by simp)).trans hof) (D9E hc.1.1.2) (hc.1.2.imp D9y (fun q=>q)) hx s1 s2 b1 b2
 ·rename_i t'
  split at hr<;>try (cases hr;done)
  rename_i hc
  simp only [D9z] at hc
  injection hr with hr;subst hr
  obtain ⟨q1,q2⟩:=C0 hc.1
  obtain ⟨b1,b2⟩:=A0u hc.2 hby
  obtain ⟨us,s1,s2⟩:=src ho
  have hkt:C3 T t'=some (.slice el):=q1.symm.trans hk
  have hv:=D7 hx ⟨_,hkt,rfl⟩
  have hxv:x=.slice none 0 0:=by
   rcases hv.slice_inv hkt with ⟨_,hv⟩ | ⟨ys,ds,a,cap,hv,_⟩
   ·injection hv
   ·cases hv
  subst hxv
  have:=W2 (ty:=ty) (ro:=ro) (xs:=[]) (os:=[]) h hT ht hel hno (hu nx (by simp)) hz0 s1 s2 (.inl ⟨rfl,rfl⟩) (fun w' _=>by simp [Builtin.firstCells]) .nil (by simpa using b1) (by simpa using b2)
  simpa using this
 ·rename_i z
  split at hr<;>try (cases hr;done)
  rename_i hc
  simp only [D9z] at hc
  injection hr with hr;subst hr
  obtain ⟨b1,b2⟩:=A0u hc.2 hby
  obtain ⟨us,s1,s2⟩:=src ho
  have hxz:x=z:=by
   have hx:RA T e [.z z] [x]:=hx
   cases hx with
   | z _ _=>rfl
   | r g1 _ _=>exact g1.elim
  rw [hxz,A1J hc.1]
  have:=W2 (ty:=ty) (ro:=ro) (xs:=[]) (os:=[]) h hT ht hel hno (hu nx (by simp)) hz0 s1 s2 (.inl ⟨rfl,rfl⟩) (fun w' _=>by simp [Builtin.firstCells]) .nil (by simpa using b1) (by simpa using b2)
  simpa using this
 ·rename_i t' xv
  split at hr<;>try (cases hr;done)
  rename_i hc
  simp only [D9z] at hc
  injection hr with hr;subst hr
  obtain ⟨q1,q2⟩:=C0 hc.1.1
  obtain ⟨b1,b2⟩:=A0u hc.2 hby
  obtain ⟨us,s1,s2⟩:=src ho
  have hkt:C3 T t'=some (.slice el):=q1.symm.trans hk
  have hne:ns≠[]:=by intro q;subst q;simp at hc
  have hx:RA T e [.q t' xv] [x]:=hx
  cases hx with
  | r g1 _ _=>exact g1.elim
  | q g1 g2 =>
   rcases g1.slice_inv hkt with ⟨rfl,hv⟩ | ⟨ys,ds,a,cap,rfl,hv,r1,r2,r3⟩
   ·injection hv with hv;injection hv with e1 e2 e3
    subst e1;subst e2
    exact W2 (xs:=[]) (os:=[]) h hT ht hel hno (hu nx (by simp)) hz0 s1 s2 (.inr hne) (fun w' _=>by simp [Builtin.firstCells]) .nil b1 b2
   ·injection hv with hv;injection hv with e1 e2 e3
    subst e1;subst e2;subst e3
    have hl:=r3.length.1
    rw [C6,hz] at hl
    refine W2 (xs:=ys) (os:=ds) h hT ht hel hno (hu nx (by simp)) hz0 s1 s2 (.inr hne) (fun w' hw=>?_) r3 b1 b2
    simp only [Builtin.firstCells]
    rw [← hl]
    refine Y6 w' a ds (fun j y hj=>?_)
    rw [← (r2.2 j y hj).1]
    simp only [World.cell?,hw]
 ·cases hr
def H7 (d:Int):Option A→Option Int
 | none=>some d
 | some (.i _ k)=>some k
 | _=>none
inductive A0n (T:TT) (e:B6):Option A→Option Value→Prop
 | none:A0n T e none none
 | some {v x}:B9 T e v x→A0n T e (some v) (some x)
theorem A0n.mono {e e':B6} (he:e.le e') {v:Option A} {x:Option Value} (h:A0n T e v x):A0n T e' v x:=by
 cases h with
 | none=>exact .none
 | some h=>exact .some (h.mono he)
theorem T2 {k:IntKind} {n:Int} {x:Value} (h:B9 T e (.i k n) x):inR k n:=by
 have h:RA T e [.i k n] [x]:=h
 cases h with
 | i hr _=>exact hr
 | r g1 _ _=>exact g1.elim
theorem D3 {k:IntKind} {n:Int} {x:Value} (h:B9 T e (.i k n) x):x=.int k n:=by
 have h:RA T e [.i k n] [x]:=h
 cases h with
 | i _ _=>rfl
 | r g1 _ _=>exact g1.elim
theorem A0v {q:Bool} {x:Value} (h:B9 T e (.b q) x):x=.bool q:=by
 have h:RA T e [.b q] [x]:=h
 cases h with
 | b _=>rfl
 | r g1 _ _=>exact g1.elim
theorem V6 {l:List V} {x:Value} (h:B9 T e (.s l) x):∃ s,x=.string s∧l=txt s:=by
 have h:RA T e [.s l] [x]:=h
 cases h with
 | s _=>exact ⟨_,rfl,rfl⟩
 | r g1 _ _=>exact g1.elim
theorem L8 {k:IntKind} {n:Int} (h:inR k n):B9 T e (.i k n) (.int k n):=RA.i h .nil
theorem A3B (q:Bool):B9 T e (.b q) (.bool q):=RA.b .nil
theorem B0n (s:ByteArray):B9 T e (.s (txt s)) (.string s):=RA.s .nil
theorem A38 {lo:Option A} {lo':Option Value} {i:Int} {d y:Nat} {code:BoundsCode} {w:World} (h:A0n T e lo lo') (hb:H7 d lo=some i) (h0:0≤i) (h1:i≤y) :
  (match lo' with | some v=>Instr.sliceBound v y code | none=>(Pure.pure d:Sem Nat)).run P w=.ok i.toNat w:=by
 cases h with
 | none=>simp only [H7,D9B] at hb;subst hb;simp
 | some hv =>
  rename_i v x
  cases v<;>simp only [H7,D9B] at hb<;>try (cases hb;done)
  subst hb
  rw [D3 hv]
  simp [Instr.sliceBound,asIntOf,h0,h1]
theorem X9 {lo hi:Option A} {lo' hi':Option Value} {l h:Int} {b:Bool} {n cap:Nat} {w:World} (hlo:A0n T e lo lo') (hhi:A0n T e hi hi') (hl:H7 (0:Nat) lo=some l) (hh:H7 n hi=some h) (h0:0≤l) (h1:l≤h) (h2:h≤n) (h3:n≤cap) :
  (Instr.sliceBounds b n cap lo' hi' none).run P w=.ok (l.toNat,h.toNat,cap) w:=by
 have k1:=A38 (P:=P) (w:=w) (y:=h.toNat) (code:=.sliceB) hlo hl h0 (by omega)
 have k2:=A38 (P:=P) (w:=w) (y:=cap) (code:=if b then .sliceAcap else .sliceAlen) hhi hh (by omega) (by omega)
 cases hlo<;>cases hhi<;>simp only at k1 k2
 ·have e1:l=0:=by simpa [H7] using hl.symm
  have e2:h=n:=by simpa [H7] using hh.symm
  subst e1;subst e2
  simp [Instr.sliceBounds]
 ·have e1:l=0:=by simpa [H7] using hl.symm
  subst e1
  simp [Instr.sliceBounds,k2]
 ·have e2:h=n:=by simpa [H7] using hh.symm
  subst e2
  simp [Instr.sliceBounds] at k1 ⊢
  simp [k1]
 ·simp [Instr.sliceBounds,k2,k1]
variable {P:Program} {T:TT} {c:F6} {e:B6} {of:Nat→Option Ob}
theorem A4H {t el:TypeId} {te:TE} (h:A8 T c e of) (hT:H2 T P) (ht:P.underlying t=some (.slice el)) (hel:T el=some te) {id ver off n:Nat} {x:Value} {lo hi:Option A} {lo' hi':Option Value} {l hh:Int} {xs:List V} {nl sh:Bool} (ho:of id=some (.row el ver xs nl sh))
  (hx:B9 T e (.w id ver off n) x) (hlo:A0n T e lo lo') (hhi:A0n T e hi hi') (hl:H7 (0:Nat) lo=some l) (hh':H7 n hi=some hh) (h0:0≤l) (h1:l≤hh) (h2:hh≤n) {ro:List Nat} :
  C8 P (do pure (.value (← Instr.sliceAt t x lo' hi' none))) e.w (D5 T c e of ⟨.w id ver (off+l.toNat) (hh - l).toNat,[],ro,[]⟩):=by
 obtain ⟨v0,v1,v2,v3,v4,v5,h6⟩:=K9 h ho
 have hz:C2 T el=te.size:=G8 hel
 have hn':hh.toNat - l.toNat=(hh - l).toNat:=by omega
 obtain ⟨b,o,cap,k,k1,k2,k3,k4,k5,rfl⟩:=Q9 hx v2
 have hb:=X9 (P:=P) (b:=true) (cap:=cap) (w:=e.w) hlo hhi hl hh' h0 h1 h2 k2
 refine A1 (x:=.slice (some (if cap=l.toNat then ⟨b,k,none⟩ else (⟨b,k,none⟩:Addr).add (l.toNat * te.size))) (hh.toNat - l.toNat) (cap - l.toNat)) ?_ (B1 h (v:=.w id ver (off+l.toNat) (hh - l).toNat) ?_)
 ·simp [Instr.sliceAt,Instr.slice,A3 ht,hb,E2 (hT _ _ hel)]
  split<;>rfl
 ·rw [hn']
  by_cases hc:cap=l.toNat
  ·rw [if_pos hc]
   exact RA.r ⟨rfl,v0,by omega,v1,fun _=>⟨b,o,cap - l.toNat,k,k1,by omega,by omega,by rw [← k4];congr 2;omega,fun hp=>by omega,rfl⟩⟩ rfl .nil
  ·rw [if_neg hc,D1]
   refine RA.r ⟨rfl,v0,by omega,v1,fun _=>⟨b,o,cap - l.toNat,_,k1,by omega,by omega,by rw [← k4];congr 2;omega,fun hp=>?_,rfl⟩⟩ rfl .nil
   rw [k5 (by omega),v3,hz,Nat.add_mul];omega
def A5I (y:V) (lo n:Nat):V :=
 match y with
 | .n=>.n
 | y=>.l ((y.els.drop lo).take n)
theorem A4I {t t' el:TypeId} {te:TE} (h:A8 T c e of) (hT:H2 T P) (ht:P.underlying t=some (.slice el)) (hel:T el=some te) (hk:C3 T t'=some (.slice el)) {y:V} {x:Value} {lo hi:Option A} {lo' hi':Option Value} {l hh:Int}
  (hx:B9 T e (.v t' y) x) (hlo:A0n T e lo lo') (hhi:A0n T e hi hi') (hl:H7 (0:Nat) lo=some l) (hh':H7 y.els.length hi=some hh) (h0:0≤l) (h1:l≤hh) (h2:hh≤y.els.length) {ro:List Nat} :
  C8 P (do pure (.value (← Instr.sliceAt t x lo' hi' none))) e.w (D5 T c e of ⟨.v t' (A5I y l.toNat (hh - l).toNat),[],ro,[]⟩):=by
 have hz:C2 T el=te.size:=G8 hel
 have hn':hh.toNat - l.toNat=(hh - l).toNat:=by omega
 have hv:=D7 hx ⟨_,hk,rfl⟩
 have hz1:C2 T t'=1:=by have:=hv.one_len;simpa using this.symm
 have mk:∀ (z:V) (v:Value),RV T e [t'] [z] [v]→B9 T e (.v t' z) v:=fun z v hr=>by
  have ho:=hr.one v (by simp)
  refine ⟨by rw [G0 ho];exact hr,?_⟩
  constructor
  ·rintro ⟨k,q1,q2⟩;rw [hk] at q1;cases q1;cases q2
  ·rintro ⟨cs,rfl⟩;simp [one] at ho
 rcases hv.slice_inv hk with ⟨rfl,hvv⟩ | ⟨ys,ds,a,cap,rfl,hvv,r1,r2,r3⟩
 ·injection hvv with hvv;subst hvv
  have e1:hh=0:=by simp [V.els] at h2;omega
  have e2:l=0:=by omega
  subst e1;subst e2
  have hb:=X9 (P:=P) (b:=true) (n:=0) (cap:=0) (w:=e.w) hlo hhi hl hh' (by omega) (by omega) (by simp) (by simp)
  refine A1 (x:=.slice none 0 0) ?_ (B1 h (v:=.v t' .n) (mk _ _ (.nils hk hz1 .nil)))
  simp [Instr.sliceAt,Instr.slice,A3 ht,hb,E2 (hT _ _ hel)]
 ·injection hvv with hvv;subst hvv
  simp only [V.els] at hh' h2 ⊢
  have hb:=X9 (P:=P) (b:=true) (cap:=cap) (w:=e.w) hlo hhi hl hh' h0 h1 h2 r1
  refine A1 (x:=.slice (some (if cap=l.toNat then a else a.add (l.toNat * te.size))) (hh.toNat - l.toNat) (cap - l.toNat)) ?_ (B1 h (v:=.v t' (A5I (.l ys) l.toNat (hh - l).toNat)) (mk _ _ ?_))
  ·simp [Instr.sliceAt,Instr.slice,A3 ht,hb,E2 (hT _ _ hel)]
   split<;>rfl
  ·rw [hn']
   obtain ⟨as0,bs,zs,rfl,q1,q2,q3,q4⟩:=J4 r3 (off:=l.toNat) (n:=(hh - l).toNat) (by omega)
   have hlen:((ys.drop l.toNat).take (hh - l).toNat).length=(hh - l).toNat:=by rw [q3.length.2];simp
   refine .slice hk hz1 hlen (by omega) ?_ q3 .nil
   by_cases hc:cap=l.toNat
   ·rw [if_pos hc]
    have:bs=[]:=List.eq_nil_of_length_eq_zero (by rw [q2,show (hh - l).toNat=0 by omega];simp)
    subst this
    exact ⟨fun q=>absurd rfl q,fun j y hj=>by simp at hj⟩
   ·rw [if_neg hc]
    by_cases hbs:bs=[]
    ·subst hbs;exact ⟨fun q=>absurd rfl q,fun j y hj=>by simp at hj⟩
    obtain ⟨b,o,s⟩:=a
    have hs:s=none:=r2.1 (by simp [hbs])
    subst hs
    rw [D1]
    refine ⟨fun _=>rfl,fun j y hj=>?_⟩
    have:=r2.2 (l.toNat * te.size+j) y (by
     have:=N0 (pre:=as0) (post:=zs) hj
     rw [q1,hz] at this;exact this)
    rw [D1] at this ⊢
    rw [show o+l.toNat * te.size+j=o+(l.toNat * te.size+j) by omega]
    exact this
theorem B0o {t t1 el:TypeId} {te:TE} (h:A8 T c e of) (hT:H2 T P) (ht:P.underlying t=some (.slice el)) (hel:T el=some te) {na:Nat} (hk1:C3 T t1=some (.arr na el)) {id:Nat} {path:List Nat} {lo0 m:Nat} {x:Value} {lo hi:Option A} {lo' hi':Option Value} {l hh:Int}
  (hx:B9 T e (.a id t1 path lo0 m) x) (hlo:A0n T e lo lo') (hhi:A0n T e hi hi') (hl:H7 (0:Nat) lo=some l) (hh':H7 m hi=some hh) (h0:0≤l) (h1:l≤hh) (h2:hh≤m) {ro:List Nat} :
  C8 P (do pure (.value (← Instr.sliceAt t x lo' hi' none))) e.w (D5 T c e of ⟨.a id t1 path (lo0+l.toNat) (hh - l).toNat,[],ro,[]⟩):=by
 have hz:C2 T el=te.size:=G8 hel
 have hn':hh.toNat - l.toNat=(hh - l).toNat:=by omega
 obtain ⟨b,off,n,el',k,cap,u0,u1,u2,u3,u4,u5,u6,u7,rfl⟩:=V4 hx
 rw [hk1] at u4;cases u4
 have hb:=X9 (P:=P) (b:=true) (cap:=cap) (w:=e.w) hlo hhi hl hh' h0 h1 h2 u6
 refine A1 (x:=.slice (some (if cap=l.toNat then ⟨b,k,none⟩ else (⟨b,k,none⟩:Addr).add (l.toNat * te.size))) (hh.toNat - l.toNat) (cap - l.toNat)) ?_ (B1 h (v:=.a id t1 path (lo0+l.toNat) (hh - l).toNat) ?_)
 ·simp [Instr.sliceAt,Instr.slice,A3 ht,hb,E2 (hT _ _ hel)]
  split<;>rfl
 ·rw [hn']
  by_cases hc:cap=l.toNat
  ·rw [if_pos hc];exact RA.r ⟨b,off,_,_,k,cap - l.toNat,u0,u1,u2,u3,hk1,by omega,by omega,fun hp=>by omega,rfl⟩ rfl .nil
  ·rw [if_neg hc,D1]
   refine RA.r ⟨b,off,_,_,_,cap - l.toNat,u0,u1,u2,u3,hk1,by omega,by omega,fun _=>?_,rfl⟩ rfl .nil
   rw [u7 (by omega),← hz,Nat.add_mul];omega
theorem B0p {t t1 el:TypeId} {n:Nat} {te:TE} (h:A8 T c e of) (hT:H2 T P) (ht:P.underlying t=some (.array n el)) (hel:T el=some te) (hk1:C3 T t1=some (.arr n el)) {id:Nat} {path:List Nat} {x:Value} {lo hi:Option A} {lo' hi':Option Value} {l hh:Int}
  (hx:B9 T e (.p id t1 path) x) (hlo:A0n T e lo lo') (hhi:A0n T e hi hi') (hl:H7 (0:Nat) lo=some l) (hh':H7 n hi=some hh) (h0:0≤l) (h1:l≤hh) (h2:hh≤n) {ro:List Nat} :
  C8 P (do pure (.value (← Instr.sliceAt t x lo' hi' none))) e.w (D5 T c e of ⟨.a id t1 path l.toNat (hh - l).toNat,[],ro,[]⟩):=by
 have hz:C2 T el=te.size:=G8 hel
 have hn':hh.toNat - l.toNat=(hh - l).toNat:=by omega
 obtain ⟨b,off,u0,u1,u2,u3,rfl⟩:=L5 hx
 have hb:=X9 (P:=P) (b:=false) (cap:=n) (w:=e.w) hlo hhi hl hh' h0 h1 h2 (Nat.le_refl _)
 refine A1 (x:=.slice (some (if n=l.toNat then ⟨b,off,none⟩ else (⟨b,off,none⟩:Addr).add (l.toNat * te.size))) (hh.toNat - l.toNat) (n - l.toNat)) ?_ (B1 h (v:=.a id t1 path l.toNat (hh - l).toNat) ?_)
 ·simp [Instr.sliceAt,Instr.sureAddr,A3 ht,hb,E2 (hT _ _ hel)]
  try (split<;>rfl)
 ·rw [hn']
  by_cases hc:n=l.toNat
  ·rw [if_pos hc];exact RA.r ⟨b,off,n,el,off,n - l.toNat,u0,u1,u2,u3,hk1,by omega,by omega,fun hp=>by omega,rfl⟩ rfl .nil
  ·rw [if_neg hc,D1];exact RA.r ⟨b,off,n,el,_,n - l.toNat,u0,u1,u2,u3,hk1,by omega,by omega,fun _=>by rw [hz],rfl⟩ rfl .nil
theorem A6Q {t:TypeId} {s:List V} {x:Value} {lo hi:Option A} {lo' hi':Option Value} {l hh:Int} (h:A8 T c e of) (ht:P.underlying t=some .string) (hx:B9 T e (.s s) x) (hlo:A0n T e lo lo') (hhi:A0n T e hi hi') (hl:H7 (0:Nat) lo=some l) (hh':H7 s.length hi=some hh)
  (h0:0≤l) (h1:l≤hh) (h2:hh≤s.length) {ro:List Nat}:C8 P (do pure (.value (← Instr.sliceAt t x lo' hi' none))) e.w (D5 T c e of ⟨.s ((s.drop l.toNat).take (hh - l).toNat),[],ro,[]⟩):=by
 obtain ⟨bs,rfl,rfl⟩:=V6 hx
 have hsz:(txt bs).length=bs.size:=by unfold txt;rw [D9C,D9F];rfl
 rw [hsz] at hh' h2
 have hb:=X9 (P:=P) (b:=false) (n:=bs.size) (cap:=bs.size) (w:=e.w) hlo hhi hl hh' h0 h1 h2 (Nat.le_refl _)
 refine A1 (x:=.string (bs.extract l.toNat hh.toNat)) ?_ (B1 h ?_)
 ·simp [Instr.sliceAt,Instr.slice,A3 ht,hb]
 ·have:((txt bs).drop l.toNat).take (hh - l).toNat=txt (bs.extract l.toNat hh.toNat):=by
   unfold txt
   rw [← List.map_drop,← List.map_take]
   congr 1
   rw [ByteArray.data_extract,Array.toList_extract]
   simp only [List.extract_eq_take_drop]
   congr 1
   omega
  rw [this]
  exact B0n _
theorem A4J {lo:Option A} {lo':Option Value} {l hh:Int} {k1 k2:IntKind} {b:Bool} {n cap:Nat} {w:World} (hlo:A0n T e lo lo') (hl:H7 (0:Nat) lo=some l) (h0:0≤l) (h1:l≤hh) (h3:hh≤cap) :
  (Instr.sliceBounds b n cap lo' (some (.int k1 hh)) (some (.int k2 hh))).run P w=.ok (l.toNat,hh.toNat,hh.toNat) w:=by
 have hmax:max hh 0=hh:=by omega
 have hh0:0≤hh:=by omega
 have q1:=A38 (P:=P) (w:=w) (y:=hh.toNat) (code:=.slice3C) hlo hl h0 (by omega)
 cases hlo<;>simp only at q1
 ·have e1:l=0:=by simpa [H7] using hl.symm
  subst e1
  simp [Instr.sliceBounds,Instr.sliceBound,asIntOf,hh0,h3,hmax]
 ·have b1:(Instr.sliceBound (.int k2 hh) cap (if b then .slice3Acap else .slice3Alen)).run P w=.ok hh.toNat w:=by
   simp [Instr.sliceBound,asIntOf,hh0,h3]
  have b2:(Instr.sliceBound (.int k1 hh) hh.toNat .slice3B).run P w=.ok hh.toNat w:=by
   simp [Instr.sliceBound,asIntOf,hh0,hmax]
  simp [Instr.sliceBounds,b1,b2,q1]
theorem A9e {t t' el:TypeId} {te:TE} (h:A8 T c e of) (hT:H2 T P) (ht:P.underlying t=some (.slice el)) (hel:T el=some te) (hk:C3 T t'=some (.slice el)) {y:V} {x:Value} {lo:Option A} {lo':Option Value} {hi mx:A} {hi' mx':Value} {l hh:Int} {k1 k2:IntKind}
  (hx:B9 T e (.v t' y) x) (hlo:A0n T e lo lo') (hl:H7 (0:Nat) lo=some l) (hhi:B9 T e hi hi') (hmx:B9 T e mx mx') (e1:hi=.i k1 hh) (e2:mx=.i k2 hh) (h0:0≤l) (h1:l≤hh) (h2:hh≤y.els.length) {ro:List Nat} :
  C8 P (do pure (.value (← Instr.sliceAt t x lo' (some hi') (some mx')))) e.w (D5 T c e of ⟨.q t' (A5I y l.toNat (hh - l).toNat),[],ro,[]⟩):=by
 subst e1;subst e2
 rw [D3 hhi,D3 hmx]
 have hz:C2 T el=te.size:=G8 hel
 have hn':hh.toNat - l.toNat=(hh - l).toNat:=by omega
 have hv:=D7 hx ⟨_,hk,rfl⟩
 have hz1:C2 T t'=1:=by have:=hv.one_len;simpa using this.symm
 rcases hv.slice_inv hk with ⟨rfl,hvv⟩ | ⟨ys,ds,a,cap,rfl,hvv,r1,r2,r3⟩
 ·injection hvv with hvv;subst hvv
  have e1:hh=0:=by simp [V.els] at h2;omega
  have e2:l=0:=by omega
  subst e1;subst e2
  have hb:=A4J (P:=P) (b:=true) (n:=0) (cap:=0) (k1:=k1) (k2:=k2) (hh:=0) (w:=e.w) hlo hl (by omega) (by omega) (by simp)
  refine A1 (x:=.slice none 0 0) ?_ (B1 h (v:=.q t' .n) (RA.q (.nils hk hz1 .nil) .nil))
  simp [Instr.sliceAt,Instr.slice,A3 ht,E2 (hT _ _ hel),hb]
 ·injection hvv with hvv;subst hvv
  simp only [V.els] at h2 ⊢
  have hb:=A4J (P:=P) (b:=true) (n:=ys.length) (cap:=cap) (k1:=k1) (k2:=k2) (w:=e.w) hlo hl h0 h1 (by omega)
  refine A1 (x:=.slice (some (if hh.toNat=l.toNat then a else a.add (l.toNat * te.size))) (hh.toNat - l.toNat) (hh.toNat - l.toNat)) ?_ (B1 h (v:=.q t' (A5I (.l ys) l.toNat (hh - l).toNat)) (RA.q ?_ .nil))
  ·simp [Instr.sliceAt,Instr.slice,A3 ht,E2 (hT _ _ hel),hb]
   split<;>rfl
  ·rw [hn']
   obtain ⟨as0,bs,zs,rfl,q1,q2,q3,q4⟩:=J4 r3 (off:=l.toNat) (n:=(hh - l).toNat) (by omega)
   have hlen:((ys.drop l.toNat).take (hh - l).toNat).length=(hh - l).toNat:=by rw [q3.length.2];simp
   refine .slice hk hz1 hlen (Nat.le_refl _) ?_ q3 .nil
   by_cases hc:hh.toNat=l.toNat
   ·rw [if_pos hc]
    have:bs=[]:=List.eq_nil_of_length_eq_zero (by rw [q2,show (hh - l).toNat=0 by omega];simp)
    subst this
    exact ⟨fun q=>absurd rfl q,fun j y hj=>by simp at hj⟩
   ·rw [if_neg hc]
    by_cases hbs:bs=[]
    ·subst hbs;exact ⟨fun q=>absurd rfl q,fun j y hj=>by simp at hj⟩
    obtain ⟨b,o,s⟩:=a
    have hs:s=none:=r2.1 (by simp [hbs])
    subst hs
    rw [D1]
    refine ⟨fun _=>rfl,fun j y hj=>?_⟩
    have:=r2.2 (l.toNat * te.size+j) y (by
     have:=N0 (pre:=as0) (post:=zs) hj
     rw [q1,hz] at this;exact this)
    rw [D1] at this ⊢
    rw [show o+l.toNat * te.size+j=o+(l.toNat * te.size+j) by omega]
    exact this
variable {P:Program} {T:TT} {c:F6} {e:B6} {of:Nat→Option Ob}
theorem B41 (off:Nat):∀ (vs:List Value) (k:Nat) (cs:Array Value),off+k+vs.length≤cs.size →
  ((vs.zipIdx k).foldl (fun (cs:Array Value) (p:Value×Nat)=>cs.setIfInBounds (off+p.2) p.1) cs).toList=cs.toList.take (off+k)++vs++cs.toList.drop (off+k+vs.length):=by
 intro vs
 induction vs with
 | nil=>intro k cs _;simp
 | cons v vs ih =>
  intro k cs h
  simp only [D9G] at h
  rw [List.zipIdx_cons,List.foldl_cons,ih (k+1) _ (by simp;omega)]
  have hlt:off+k < cs.toList.length:=by rw [D9F];omega
  have hti:(cs.toList.take (off+k)).length=off+k:=by rw [List.length_take];omega
  have e1:(cs.toList.take (off+k)++v::cs.toList.drop (off+k+1)).take (off+(k+1))=cs.toList.take (off+k)++[v]:=by
   rw [List.take_append,hti,List.take_of_length_le (by omega),show off+(k+1) - (off+k)=1 from by omega];rfl
  have e2:(cs.toList.take (off+k)++v::cs.toList.drop (off+k+1)).drop (off+(k+1)+vs.length)=cs.toList.drop (off+k+(vs.length+1)):=by
   rw [List.drop_append,hti,List.drop_of_length_le (by omega),show off+(k+1)+vs.length - (off+k)=vs.length+1 from by omega,List.drop_succ_cons,List.drop_drop,List.nil_append]
   congr 1;omega
  rw [Array.toList_setIfInBounds,List.set_eq_take_append_cons_drop,if_pos hlt,e1,e2]
  simp
theorem A5J {place:Nat→Option (Nat×Nat)} {cells:Array Value} {i off size:Nat} {v:Value} {rest:List (Nat×Value)} (hp:place i=some (off,size)) (hv:v.cells.size=size) (hl:off+size≤cells.size) :
  ∃ cells':Array Value,Instr.fill place cells ((i,v)::rest)=Instr.fill place cells' rest∧cells'.toList=cells.toList.take off++v.cells.toList++cells.toList.drop (off+size):=by
 refine ⟨v.cells.zipIdx.foldl (fun cs (p:Value×Nat)=>cs.setIfInBounds (off+p.2) p.1) cells,?_,?_⟩
 ·simp only [Instr.fill,hp]
  rw [if_neg (by simp [hv];omega)]
 ·have:=B41 off v.cells.toList 0 cells (by rw [D9F];omega)
  rw [Nat.add_zero,D9F,hv] at this
  rw [← this,← Array.foldl_toList,Array.toList_zipIdx]
inductive A5K (T:TT) (e:B6):List (Nat×A)→List (Nat×Value)→Prop
 | nil:A5K T e [] []
 | cons {i v x r s}:B9 T e v x→A5K T e r s→A5K T e ((i,v)::r) ((i,x)::s)
theorem A5K.mono {e e':B6} (he:e.le e') {l:List (Nat×A)} {m:List (Nat×Value)} (h:A5K T e l m):A5K T e' l m:=by
 induction h with
 | nil=>exact .nil
 | cons h1 _ ih=>exact .cons (h1.mono he) ih
def B0q (T:TT) (ts:List Nat):A→List (Nat×A)→Option A
 | cur,[]=>some cur
 | cur,(i,a)::rest=>match ts[i]? with
  | some ct=>match M0 T ct a with
   | some a'=>match A1G T cur [i] a' with
    | some cur'=>B0q T ts cur' rest
    | none=>none
   | none=>none
  | none=>none
theorem C0x {t i ct:Nat} {ts:List Nat} (h:chT T t=some ts) (hi:ts[i]? = some ct):Pth T t [i] ct (szs T (ts.take i)+0):=by
 unfold chT at h
 split at h
 ·rename_i fs hk;injection h with h;subst h;exact .fld hk hi .nil
 ·rename_i n el hk
  injection h with h;subst h
  rw [List.getElem?_replicate] at hi
  split at hi
  ·rename_i hlt
   injection hi with hi;subst hi
   rw [List.take_replicate,C6,Nat.min_eq_left (by omega)]
   exact .idx hk hlt .nil
  ·cases hi
 ·cases h
theorem A5L {t:Nat} {ts:List Nat} {place:Nat→Option (Nat×Nat)} (hc:chT T t=some ts) (hpl:∀ (i ct:Nat),ts[i]? = some ct→place i=some (szs T (ts.take i),C2 T ct)) :
  ∀ {parts:List (Nat×A)} {vals:List (Nat×Value)} {cur r:A} {cells:Array Value},A5K T e parts vals→RA T e [cur] cells.toList→C7 T t cur=true→B0q T ts cur parts=some r →
  ∃ cells':Array Value,Instr.fill place cells vals=some cells'∧RA T e [r] cells'.toList∧C7 T t r=true:=by
 intro parts
 induction parts with
 | nil=>intro vals cur r cells hp hr hf h;cases hp;simp only [B0q,D9B] at h;subst h;exact ⟨cells,rfl,hr,hf⟩
 | cons p rest ih =>
  intro vals cur r cells hp hr hf h
  cases hp with | @cons i v x _ s hv hp =>
  simp only [B0q] at h
  split at h<;>try (cases h;done)
  rename_i ct hct
  split at h<;>try (cases h;done)
  rename_i a' ha'
  split at h<;>try (cases h;done)
  rename_i cur' hcur
  obtain ⟨r1,r2⟩:=A2e hv ha'
  obtain ⟨pre,d,post,q1,q2,q3,q4,q5⟩:=A2t [i] hr hf (C0x hc hct) r1 r2 hcur
  have hw:=r1.width r2
  rw [D9F] at hw
  have hcl:cells.size=pre.length+(d.length+post.length):=by
   have:=congrArg List.length q1;simpa using this
  obtain ⟨cells',f1,f2⟩:=A5J (cells:=cells) (v:=x) (rest:=s) (hpl i ct hct) hw (by omega)
  have hlen:x.cells.toList.length=C2 T ct:=by rw [D9F];exact hw
  rw [← hlen,A2u q1 (by omega) (by omega)] at f2
  rw [← f2] at q4
  obtain ⟨cells2,g1,g2,g3⟩:=ih hp q4 q5 h
  exact ⟨cells2,f1.trans g1,g2,g3⟩
def B3L (T:TT):List Nat→Bool
 | []=>true
 | t::r=>(T t).isSome&&B3L T r
theorem B1X:∀ {l:List Nat},B3L T l=true→∀ t∈l,∃ te,T t=some te:=by
 intro l
 induction l with
 | nil=>intro _ t h;cases h
 | cons a r ih =>
  intro h t ht
  simp only [B3L,D9z] at h
  rcases List.mem_cons.1 ht with rfl | ht
  ·exact D9D.1 h.1
  ·exact ih h.2 t ht
theorem B1Y (hT:H2 T P) (w:World):∀ (fs:List Field),(∀ f∈fs,∃ te,T f.type=some te) →
  (fs.mapM (m:=Sem) fun f=>Prod.mk f.offset <$> sizeOf f.type).run P w=.ok (fs.map fun f=>(f.offset,C2 T f.type)) w:=by
 intro fs
 induction fs with
 | nil=>intro _;simp
 | cons f r ih =>
  intro h
  obtain ⟨te,hte⟩:=h f (by simp)
  have hr:=E2 (hT _ _ hte) w
  rw [List.mapM_cons]
  simp only [Sem.run_bind,Sem.run_map,hr,Result.andThen_ok,Sem.run_pure]
  rw [ih (fun f hf=>h f (by simp [hf]))]
  simp [G8 hte]
def B0r:List A→Option (List V)
 | []=>some []
 | a::r=>match A3x a,B0r r with
  | some x,some xs=>some (x::xs)
  | _,_=>none
def B0s (t:Nat):A→A
 | .g t' l=>match B0r l with
  | some xs=>.v t' (.l xs)
  | none=>.g t' l
 | a=>a
theorem B1Z:∀ {ts:List Nat} {l:List A} {xs:List V} {ds:List Value},RA T e l ds→X6 T ts l=true→B0r l=some xs→RV T e ts xs ds:=by
 intro ts
 induction ts with
 | nil =>
  intro l xs ds h hf hp
  cases l with
  | nil=>simp [B0r] at hp;subst hp;cases h;exact .nil
  | cons a l=>simp [X6] at hf
 | cons t ts ih =>
  intro l xs ds h hf hp
  cases l with
  | nil=>simp [X6] at hf
  | cons a l =>
   simp only [X6,D9z] at hf
   simp only [B0r] at hp
   split at hp<;>try (cases hp;done)
   rename_i x xs' h1 h2
   injection hp with hp;subst hp
   obtain ⟨d,r,rfl,k1,k2⟩:=h.uncons
   exact (A42 k1 hf.1 h1).append (ih k2 hf.2 h2)
theorem B10 {t:Nat} {a:A} {d:List Value} (h:RA T e [a] d) (hf:C7 T t a=true):RA T e [B0s t a] d∧C7 T t (B0s t a)=true:=by
 cases a with
 | g t' l =>
  simp only [B0s]
  split
  ·rename_i xs hp
   simp only [C7] at hf
   have:=D9y hf
   subst this
   cases h with
   | g g1 g2 g3 g4 g5 =>
    cases g5
    rw [List.append_nil]
    exact ⟨.v1 ((B1Z g4 g2 hp).whole g1 g3),G1 _ _⟩
   | r g1 _ _=>exact g1.elim
  ·exact ⟨h,hf⟩
 | _=>exact ⟨h,hf⟩
def C9u (T:TT) (t:Nat):List Nat :=
 match C3 T t with
 | some (.struct fs)=>fs
 | some (.arr _ el)=>[el]
 | _=>[]
def A9f (T:TT) (t:Nat) (parts:List (Nat×A)):Option A :=
 match T t with
 | some te=>match chT T t with
  | some ts=>if TK.notOther te.k&&B3L T (C9u T t) then (match B0q T ts (.v t te.zero) parts with
   | some r=>some (B0s t r)
   | none=>none) else none
  | none=>none
 | none=>none
theorem B42 (hT:H2 T P) {t:Nat} {parts:List (Nat×A)} {vals:List (Nat×Value)} {r:A} (h:A8 T c e of) (hp:A5K T e parts vals) (hb:A9f T t parts=some r) {ro:List Nat} :
  C8 P (do pure (.value (← Instr.build t vals.toArray))) e.w (D5 T c e of ⟨r,[],ro,[]⟩):=by
 unfold A9f at hb
 split at hb<;>try (cases hb;done)
 rename_i te hte
 split at hb<;>try (cases hb;done)
 rename_i ts hts
 split at hb<;>try (cases hb;done)
 rename_i hc
 simp only [D9z] at hc
 split at hb<;>try (cases hb;done)
 rename_i r0 hfill
 injection hb with hb;subst hb
 obtain ⟨z,h1,h2,h3⟩:=A5D (hT _ _ hte) e.w
 have hz:RV T e [t] [te.zero] z.cells.toList:=h2.elim (fun q=>q e) (fun q=>absurd q (V5 hc.1))
 have hall:=B1X hc.2
 have fin:∀ cells:Array Value,RA T e [r0] cells.toList→C7 T t r0=true→B9 T e (B0s t r0) (.agg cells):=fun cells hr hf=>by
  obtain ⟨k1,k2⟩:=B10 hr hf
  have hag:te.k.agg=true:=by
   have:=hts
   unfold chT at this
   rw [J3 hte] at this
   cases hk:te.k<;>simp [hk,TK.agg] at this ⊢
  rcases A0H hte k1 k2 with ⟨_,hx⟩ | ⟨q,_⟩
  ·simpa using hx
  ·rw [hag] at q;cases q
 cases hk:te.k with
 | struct fs =>
  have hct:chT T t=some fs:=by simp [chT,J3 hte,hk]
  rw [hct] at hts;injection hts with hts;subst hts
  obtain ⟨gs,g1,g2,g3⟩:=T1 (hT _ _ hte) hk
  have hpl:(gs.mapM (m:=Sem) fun f=>Prod.mk f.offset <$> sizeOf f.type).run P e.w=.ok (gs.map fun f=>(f.offset,C2 T f.type)) e.w:=by
   have:=B1Y hT e.w gs.toList (fun f hf=>hall _ (by simp only [C9u,J3 hte,hk];rw [← g2];exact List.mem_map.2 ⟨f,hf,rfl⟩))
   rw [Array.mapM_eq_mapM_toList,Sem.run_map,this]
   show Result.ok _ e.w=_
   congr 1
   apply Array.ext';simp
  obtain ⟨cells,f1,f2,f3⟩:=A5L (place:=fun i=>(gs.map fun f=>(f.offset,C2 T f.type))[i]?) hct (fun i ct hi=>by
   obtain ⟨g,hg,rfl⟩:=A1F g2 hi
   simp [hg,g3 _ _ hg]) hp (.v1 hz) (G1 _ _) hfill
  refine A1 (x:=.agg cells) (w':=e.w) ?_ (B1 h (fin cells f2 f3))
  simp at f1
  simp [Instr.build,h1,A3 g1,hpl,f1]
 | arr n el =>
  have hct:chT T t=some (List.replicate n el):=by simp [chT,J3 hte,hk]
  rw [hct] at hts;injection hts with hts;subst hts
  have hu:=T0 (hT _ _ hte) hk
  obtain ⟨te',hel⟩:=hall el (by simp [C9u,J3 hte,hk])
  obtain ⟨cells,f1,f2,f3⟩:=A5L (place:=fun i=>some (i * C2 T el,C2 T el)) hct (fun i ct hi=>by
   rw [List.getElem?_replicate] at hi
   split at hi
   ·rename_i hlt
    injection hi with hi;subst hi
    rw [List.take_replicate,C6,Nat.min_eq_left (by omega)]
   ·cases hi) hp (.v1 hz) (G1 _ _) hfill
  refine A1 (x:=.agg cells) (w':=e.w) ?_ (B1 h (fin cells f2 f3))
  rw [G8 hel] at f1
  simp [Instr.build,h1,A3 hu,E2 (hT _ _ hel),f1]
 | _=>simp [chT,J3 hte,hk] at hts
variable {P:Program} {T:TT} {c:F6} {e:B6} {of:Nat→Option Ob}
theorem A9g:∀ (l:List (Nat×Ob)) (f g:Nat→Option Ob) (j:Nat),f j=g j→put f l j=put g l j:=by
 intro l
 induction l with
 | nil=>intro f g j h;exact h
 | cons q r ih =>
  intro f g j h
  obtain ⟨k,o⟩:=q
  refine ih _ _ j ?_
  simp only [D9]
  split
  ·rfl
  ·exact h
def T5 (l:List (Nat×Ob)):List Nat:=l.map (·.1)
theorem B11 {of of':Nat→Option Ob} {t:Nat} {a:A} {x:V} {id:Nat} {o:Ob} (h:A0l T of t a=some (x,id,o)) (ho:of' id=of id):A0l T of' t a=some (x,id,o):=by
 cases a with
 | o id' ver =>
  have A4:id'=id:=by
   simp only [A0l] at h
   split at h<;>try (cases h;done)
   split at h<;>try (cases h;done)
   injection h with h;injection h with _ h;injection h
  subst A4
  simp only [A0l] at h ⊢
  rw [ho];exact h
 | w id' ver off n =>
  have A4:id'=id:=by
   simp only [A0l] at h
   split at h<;>try (cases h;done)
   split at h<;>try (cases h;done)
   injection h with h;injection h with _ h;injection h
  subst A4
  simp only [A0l] at h ⊢
  rw [ho];exact h
 | a id' t1 path lo m =>
  have A4:id'=id:=by
   simp only [A0l] at h
   split at h<;>try (cases h;done)
   split at h<;>try (cases h;done)
   split at h<;>try (cases h;done)
   injection h with h;injection h with _ h;injection h
  subst A4
  simp only [A0l] at h ⊢
  rw [ho];exact h
 | _=>simp [A0l] at h
theorem A0w:∀ (d:Nat),(∀ (of of':Nat→Option Ob) (t:Nat) (a:A) (x:V) (wo:List (Nat×Ob)),M3 T d of t a=some (x,wo)→(∀ id∈T5 wo,of' id=of id)→M3 T d of' t a=some (x,wo)) ∧
  (∀ (of of':Nat→Option Ob) (ts:List Nat) (as0:List A) (xs:List V) (wo:List (Nat×Ob)),A07 T d of ts as0=some (xs,wo)→(∀ id∈T5 wo,of' id=of id)→A07 T d of' ts as0=some (xs,wo)):=by
 intro d
 induction d with
 | zero=>exact ⟨fun of of' t a x wo h _=>by simp [M3] at h,fun of of' ts as0 xs wo h _=>by simp [A07] at h⟩
 | succ d ih =>
  obtain ⟨ih1,ih2⟩:=ih
  refine ⟨fun of of' t a x wo hv ho=>?_,fun of of' ts as0 xs wo hv ho=>?_⟩
  ·have sl:(match A0l T of t a with | some (x,id,o)=>some (x,[(id,o)]) | none=>none)=some (x,wo)→(match A0l T of' t a with | some (x,id,o)=>some (x,[(id,o)]) | none=>none)=some (x,wo):=by
    intro hv
    split at hv
    ·rename_i x' id o hs
     injection hv with hv;injection hv with h1 h2
     subst h1;subst h2
     rw [B11 hs (ho id (by simp [T5]))]
    ·cases hv
   cases a with
   | o id ver=>simp only [M3] at hv ⊢;exact sl hv
   | w id ver off n=>simp only [M3] at hv ⊢;exact sl hv
   | a id t1 path lo m=>simp only [M3] at hv ⊢;exact sl hv
   | g t' l =>
    simp only [M3] at hv ⊢
    split at hv
    ·rename_i hs
     rw [if_pos hs]
     split at hv
     ·rename_i ts hts
      split at hv
      ·rename_i xs wo' hxs
       injection hv with hv;injection hv with h1 h2
       subst h1;subst h2
       rw [ih2 of of' _ _ _ _ hxs ho]
      ·cases hv
     ·cases hv
    ·cases hv
   | q t' y=>simpa only [M3] using hv
   | i k n=>simpa only [M3] using hv
   | b y=>simpa only [M3] using hv
   | s y=>simpa only [M3] using hv
   | z y=>simpa only [M3] using hv
   | v t' y=>simpa only [M3] using hv
   | p _ _ _=>simpa only [M3] using hv
   | e _ _ _ _ _=>simpa only [M3] using hv
   | c _ _=>simpa only [M3] using hv
   | m _=>simpa only [M3] using hv
   | y _=>simpa only [M3] using hv
   | f fn cap=>cases cap<;>simpa only [M3] using hv
   | t _=>simpa only [M3] using hv
   | x=>simpa only [M3] using hv
  ·cases ts with
   | nil =>
    cases as0 with
    | nil=>simpa only [A07] using hv
    | cons a as0=>simp [A07] at hv
   | cons t ts =>
    cases as0 with
    | nil=>simp [A07] at hv
    | cons a as0 =>
     simp only [A07] at hv ⊢
     split at hv<;>try (cases hv;done)
     rename_i x1 w1 h1
     split at hv<;>try (cases hv;done)
     rename_i xs2 w2 h2
     injection hv with hv;injection hv with hv1 hv2
     subst hv1;subst hv2
     rw [ih1 of of' _ _ _ _ h1 (fun id A4=>ho id (by simp only [T5,List.map_append,D9J];exact .inl A4))]
     simp only
     rw [ih2 (put of w1) (put of' w1) _ _ _ _ h2 (fun id A4=>A9g _ _ _ _ (ho id (by simp only [T5,List.map_append,D9J];exact .inr A4)))]
theorem A23 {wo:List (Nat×Ob)} {Q:B6→Prop} {out:Out} {s:Sem Next} (h:Shd T c e of wo Q) (hd:∀ e1:B6,e1.w=e.w→A8 T c e1 (put of wo)→e.le e1→(∀ j,e1.U j→e.U j)→Q e1→C8 P s e1.w (D5 T c e1 (put of wo) out)) {ro:List Nat} :
  C8 P s e.w (D5 T c e of ⟨out.val,wo++out.wo,ro,out.nw⟩):=by
 obtain ⟨e1,p1,p2,p3,p4,p5⟩:=h
 have key:∀ x w',D5 T c e1 (put of wo) out x w'→D5 T c e of ⟨out.val,wo++out.wo,ro,out.nw⟩ x w':=fun x w' ⟨e2,q1,q2,q3,q4,q5⟩ =>
  ⟨e2,q1,by rw [F1];exact q2,p3.trans q3,fun id A4=>(q4 id A4).imp (p4 id) (fun q=>q),q5⟩
 have:=hd e1 p1 p2 p3 p4 p5
 rw [p1] at this
 rcases this with ⟨x,w',h1,h2⟩ | ⟨w',h1,h2⟩ | ⟨f,args,w1,h1,h2⟩ | ⟨l,f,tmps,asg,body,w1,h1,h2⟩
 ·exact .inl ⟨x,w',h1,key _ _ h2⟩
 ·exact .inr (.inl ⟨w',h1,key _ _ h2⟩)
 ·exact .inr (.inr (.inl ⟨f,args,w1,h1,h2.mono fun en w' ⟨x,hx,hl⟩=>⟨x,hx,key _ _ hl⟩⟩))
 ·exact .inr (.inr (.inr ⟨l,f,tmps,asg,body,w1,h1,h2.mono fun en w' ⟨x,hx,hl⟩=>⟨x,hx,key _ _ hl⟩⟩))
theorem B12 {s:Sem Next} {w:World} {R R':Value→World→Prop} (hr:∀ x w',R x w'→R' x w') (h:C8 P s w R):C8 P s w R':=by
 rcases h with ⟨x,w',h1,h2⟩ | ⟨w',h1,h2⟩ | ⟨f,args,w1,h1,h2⟩ | ⟨l,f,tmps,asg,body,w1,h1,h2⟩
 ·exact .inl ⟨x,w',h1,hr _ _ h2⟩
 ·exact .inr (.inl ⟨w',h1,hr _ _ h2⟩)
 ·exact .inr (.inr (.inl ⟨f,args,w1,h1,h2.mono fun en w' ⟨x,hx,hl⟩=>⟨x,hx,hr _ _ hl⟩⟩))
 ·exact .inr (.inr (.inr ⟨l,f,tmps,asg,body,w1,h1,h2.mono fun en w' ⟨x,hx,hl⟩=>⟨x,hx,hr _ _ hl⟩⟩))
def A4Q:Ob→Ob
 | .row el v xs nl _=>.row el v xs nl true
 | .box t a _=>.box t a true
 | o=>o
def A6R:Ob→Bool
 | .row _ _ _ _ s=>s
 | .box _ _ s=>s
 | _=>false
theorem C0y {o:Ob} (h:A6R o=true):A4Q o=o:=by
 cases o<;>simp only [A6R] at h<;>first | (subst h;rfl) | cases h
theorem B43 (o:Ob):A4Q (A4Q o)=A4Q o:=by cases o<;>rfl
def A1a (of:Nat→Option Ob):List (Nat×Ob)→List (Nat×Ob)
 | []=>[]
 | (id,o)::r=>match of id with
  | some o0=>bif A6R o0 then A1a of r else (id,o)::A1a of r
  | none=>(id,o)::A1a of r
def Z4 (of:Nat→Option Ob) (wo:List (Nat×Ob)):Prop:=∀ p∈wo,∃ o0,of p.1=some o0∧p.2=A4Q o0
theorem A2y:∀ (wo:List (Nat×Ob)) (of f:Nat→Option Ob),Z4 of wo→∀ id,(f id=of id∨∃ o0,of id=some o0∧f id=some (A4Q o0))→(put f wo id=of id∨∃ o0,of id=some o0∧put f wo id=some (A4Q o0))∧(id∈T5 wo→∃ o0,of id=some o0∧put f wo id=some (A4Q o0))∧(id ∉ T5 wo→put f wo id=f id):=by
 intro wo
 induction wo with
 | nil=>intro of f _ id h;exact ⟨h,fun h=>(by cases h),fun _=>rfl⟩
 | cons p r ih =>
  intro of f hall id h
  obtain ⟨k,o⟩:=p
  have hr:Z4 of r:=fun q hq=>hall q (by simp [hq])
  obtain ⟨o0,h1,h2⟩:=hall (k,o) (by simp)
  simp only at h1 h2
  by_cases hk:id=k
  ·subst hk
   obtain ⟨a1,a2,a3⟩:=ih of (D9 f id (some o)) hr id (.inr ⟨o0,h1,by rw [upd_same,h2]⟩)
   refine ⟨a1,fun _=>?_,fun hn=>absurd (by simp [T5]) hn⟩
   by_cases hm:id∈T5 r
   ·exact a2 hm
   ·exact ⟨o0,h1,by show put (D9 f id (some o)) r id=_;rw [a3 hm,upd_same,h2]⟩
  ·obtain ⟨a1,a2,a3⟩:=ih of (D9 f k (some o)) hr id (by rw [A2 _ _ hk];exact h)
   refine ⟨a1,fun hm=>a2 ?_,fun hn=>?_⟩
   ·simp only [T5,List.map_cons,List.mem_cons] at hm
    exact hm.resolve_left hk
   ·show put (D9 f k (some o)) r id=_
    rw [a3 (fun hm=>hn (by simp only [T5,List.map_cons,List.mem_cons];exact .inr hm)),A2 _ _ hk]
theorem B0t {of:Nat→Option Ob}:∀ {wo:List (Nat×Ob)} {p:Nat×Ob},p∈A1a of wo→p∈wo:=by
 intro wo
 induction wo with
 | nil=>intro p h;cases h
 | cons q r ih =>
  intro p h
  obtain ⟨k,o⟩:=q
  simp only [A1a] at h
  split at h
  ·rename_i o0 _
   cases hs:A6R o0 with
   | true=>rw [hs] at h;exact List.mem_cons_of_mem _ (ih h)
   | false =>
    rw [hs] at h
    rcases List.mem_cons.1 h with h | h
    ·rw [h];exact List.mem_cons_self ..
    ·exact List.mem_cons_of_mem _ (ih h)
  ·rcases List.mem_cons.1 h with h | h
   ·rw [h];exact List.mem_cons_self ..
   ·exact List.mem_cons_of_mem _ (ih h)
theorem B7n {of:Nat→Option Ob}:∀ {wo:List (Nat×Ob)} {id:Nat},id∈T5 wo→id ∉ T5 (A1a of wo)→∃ o0,of id=some o0∧A6R o0=true:=by
 intro wo
 induction wo with
 | nil=>intro id h;cases h
 | cons q r ih =>
  intro id h hn
  obtain ⟨k,o⟩:=q
  simp only [T5,List.map_cons,List.mem_cons] at h
  simp only [A1a] at hn
  split at hn
  ·rename_i o0 ho0
   cases hs:A6R o0 with
   | true =>
    rw [hs] at hn
    rcases h with rfl | h
    ·exact ⟨o0,ho0,hs⟩
    ·exact ih h hn
   | false =>
    rw [hs] at hn
    simp only [cond_false,T5,List.map_cons,List.mem_cons,not_or] at hn
    exact ih (h.resolve_left hn.1) hn.2
  ·simp only [T5,List.map_cons,List.mem_cons,not_or] at hn
   exact ih (h.resolve_left hn.1) hn.2
theorem B0u {of:Nat→Option Ob} {wo:List (Nat×Ob)} (h:Z4 of wo):put of (A1a of wo)=put of wo:=by
 funext id
 obtain ⟨_,a2,a3⟩:=A2y wo of of h id (.inl rfl)
 obtain ⟨_,b2,b3⟩:=A2y (A1a of wo) of of (fun p hp=>h p (B0t hp)) id (.inl rfl)
 by_cases h1:id∈T5 wo
 ·obtain ⟨o0,g1,g2⟩:=a2 h1
  by_cases h2:id∈T5 (A1a of wo)
  ·obtain ⟨o1,g3,g4⟩:=b2 h2
   rw [g1] at g3;cases g3
   rw [g2,g4]
  ·obtain ⟨o1,g3,g4⟩:=B7n h1 h2
   rw [g1] at g3;cases g3
   rw [b3 h2,g2,g1,C0y g4]
 ·rw [a3 h1,b3 (fun hm=>h1 (by
   obtain ⟨p,hp,rfl⟩:=List.mem_map.1 hm
   exact List.mem_map.2 ⟨p,B0t hp,rfl⟩))]
theorem A5M {of of':Nat→Option Ob}:∀ {wo:List (Nat×Ob)},(∀ id∈T5 wo,of' id=of id)→A1a of wo=A1a of' wo:=by
 intro wo
 induction wo with
 | nil=>intro _;rfl
 | cons q r ih =>
  intro h
  obtain ⟨k,o⟩:=q
  simp only [A1a]
  rw [h k (by simp [T5]),ih (fun id A4=>h id (by simp only [T5,List.map_cons,List.mem_cons];exact .inr A4))]
theorem C0z {of:Nat→Option Ob} {t:Nat} {a:A} {x:V} {id:Nat} {o:Ob} (h:A0l T of t a=some (x,id,o)):∃ o0,of id=some o0∧o=A4Q o0:=by
 unfold A0l at h
 split at h<;>try (cases h;done)
 all_goals (split at h<;>try (cases h;done))
 ·split at h<;>try (cases h;done)
  injection h with h;injection h with h1 h2;injection h2 with h2 h3
  subst h2;subst h3
  exact ⟨_,by assumption,rfl⟩
 ·split at h<;>try (cases h;done)
  injection h with h;injection h with h1 h2;injection h2 with h2 h3
  subst h2;subst h3
  exact ⟨_,by assumption,rfl⟩
 ·split at h<;>try (cases h;done)
  split at h<;>try (cases h;done)
  injection h with h;injection h with h1 h2;injection h2 with h2 h3
  subst h2;subst h3
  exact ⟨_,by assumption,rfl⟩
theorem A1L {of:Nat→Option Ob} {w1 w2:List (Nat×Ob)} (h1:Z4 of w1) (h2:Z4 (put of w1) w2):Z4 of (w1++w2):=by
 intro p hp
 rcases D9J.1 hp with hp | hp
 ·exact h1 p hp
 ·obtain ⟨o0,g1,g2⟩:=h2 p hp
  obtain ⟨a1,_,_⟩:=A2y w1 of of h1 p.1 (.inl rfl)
  rcases a1 with a1 | ⟨o1,a1,a2⟩
  ·exact ⟨o0,by rw [← a1];exact g1,g2⟩
  ·rw [a2] at g1;cases g1
   exact ⟨o1,a1,by rw [g2,B43]⟩
theorem B7o:∀ (d:Nat),(∀ (of:Nat→Option Ob) (t:Nat) (a:A) (x:V) (wo:List (Nat×Ob)),M3 T d of t a=some (x,wo)→Z4 of wo)∧(∀ (of:Nat→Option Ob) (ts:List Nat) (as0:List A) (xs:List V) (wo:List (Nat×Ob)),A07 T d of ts as0=some (xs,wo)→Z4 of wo):=by
 intro d
 induction d with
 | zero=>exact ⟨fun of t a x wo h=>by simp [M3] at h,fun of ts as0 xs wo h=>by simp [A07] at h⟩
 | succ d ih =>
  obtain ⟨ih1,ih2⟩:=ih
  have nil:∀ of:Nat→Option Ob,Z4 of []:=fun of p hp=>by cases hp
  have sl:∀ {of:Nat→Option Ob} {t:Nat} {a:A} {x:V} {wo:List (Nat×Ob)} {x':V} {id:Nat} {o:Ob},A0l T of t a=some (x',id,o)→some (x',[(id,o)])=some (x,wo)→Z4 of wo:=by
   intro of t a x wo x' id o hs h
   injection h with h;injection h with h1 h2
   subst h2
   intro p hp
   simp only [List.mem_singleton] at hp
   subst hp
   exact C0z hs
  refine ⟨fun of t a x wo h=>?_,fun of ts as0 xs wo h=>?_⟩
  ·cases a with
   | o _ _=>simp only [M3] at h;split at h<;>first | (cases h;done) | (rename_i hs;exact sl hs h)
   | w _ _ _ _=>simp only [M3] at h;split at h<;>first | (cases h;done) | (rename_i hs;exact sl hs h)
   | a _ _ _ _ _=>simp only [M3] at h;split at h<;>first | (cases h;done) | (rename_i hs;exact sl hs h)
   | q t' y =>
    simp only [M3] at h
    split at h<;>try (cases h;done)
    injection h with h;injection h with h1 h2
    subst h2;exact nil of
   | g t' l =>
    simp only [M3] at h
    split at h<;>try (cases h;done)
    split at h<;>try (cases h;done)
    split at h<;>try (cases h;done)
    rename_i xs wo' hxs
    injection h with h;injection h with h1 h2
    subst h2
    exact ih2 _ _ _ _ _ hxs
   | f fn cap =>
    cases cap<;>simp only [M3] at h<;>split at h<;>(try (cases h;done))<;>split at h<;>(try (cases h;done))<;>(injection h with h;injection h with h1 h2;subst h2;exact nil of)
   | _ =>
    simp only [M3] at h
    split at h<;>try (cases h;done)
    split at h<;>try (cases h;done)
    injection h with h;injection h with h1 h2
    subst h2;exact nil of
  ·cases ts with
   | nil =>
    cases as0 with
    | nil=>simp only [A07,D9B,Prod.mk.injEq] at h;rw [← h.2];exact nil of
    | cons a as0=>simp [A07] at h
   | cons t ts =>
    cases as0 with
    | nil=>simp [A07] at h
    | cons a as0 =>
     simp only [A07] at h
     split at h<;>try (cases h;done)
     rename_i x1 w1 h1
     split at h<;>try (cases h;done)
     rename_i xs2 w2 h2
     injection h with h;injection h with _ hv2
     subst hv2
     exact A1L (ih1 _ _ _ _ _ h1) (ih2 _ _ _ _ _ h2)
theorem B44 {of of':Nat→Option Ob} {v:A} {wo w2:List (Nat×Ob)} {ro nw:List Nat} {x:Value} {w':World} (ho:∀ id∈T5 wo,of' id=of id) (h:Z4 of wo) (hl:D5 T c e of' ⟨v,wo++w2,ro,nw⟩ x w'):D5 T c e of' ⟨v,A1a of wo++w2,ro,nw⟩ x w':=by
 obtain ⟨e',p1,p2,p3,p4,p5⟩:=hl
 have h':Z4 of' wo:=fun p hp=>by
  rw [ho p.1 (List.mem_map.2 ⟨p,hp,rfl⟩)];exact h p hp
 have p2:A8 T c e' (put of' (wo++w2)):=p2
 refine ⟨e',p1,?_,p3,p4,p5⟩
 show A8 T c e' (put of' (A1a of wo++w2))
 rw [F1,A5M ho,B0u h',← F1]
 exact p2
def DEP:Nat:=12
def W4 (T:TT) (el:Nat):(Nat→Option Ob)→List (Nat×A)→Option (List (Nat×V)×List (Nat×Ob))
 | _,[]=>some ([],[])
 | of,(i,a)::r=>match M3 T DEP of el a with
  | some (x,wo)=>match W4 T el (put of wo) r with
   | some (xs,wo')=>some ((i,x)::xs,wo++wo')
   | none=>none
  | none=>none
inductive RPV (T:TT) (e:B6) (el:Nat):List (Nat×V)→List (Nat×Value)→Prop
 | nil:RPV T e el [] []
 | cons {i x v r s}:RV T e [el] [x] v.cells.toList→RPV T e el r s→RPV T e el ((i,x)::r) ((i,v)::s)
theorem A6S {el:Nat}:∀ {parts:List (Nat×A)} {vals:List (Nat×Value)} {e:B6} {of of':Nat→Option Ob} {xs:List (Nat×V)} {wo:List (Nat×Ob)},A8 T c e of'→W4 T el of parts=some (xs,wo)→(∀ id∈T5 wo,of' id=of id)→A5K T e parts vals→Shd T c e of' wo fun e'=>RPV T e' el xs vals:=by
 intro parts
 induction parts with
 | nil=>intro vals e of of' xs wo h hp ho hr;cases hr;simp only [W4,D9B,Prod.mk.injEq] at hp;obtain ⟨rfl,rfl⟩:=hp;exact ⟨e,rfl,h,B6.le.refl e,fun _ hu=>hu,.nil⟩
 | cons p r ih =>
  intro vals e of of' xs wo h hp ho hr
  cases hr with | @cons i a v _ s hv hr =>
  simp only [W4] at hp
  split at hp<;>try (cases hp;done)
  rename_i x w1 h1
  split at hp<;>try (cases hp;done)
  rename_i xs2 w2 h2
  injection hp with hp;injection hp with hp1 hp2
  subst hp1;subst hp2
  have h1':=(A0w (T:=T) DEP).1 of of' _ _ _ _ h1 (fun id A4=>ho id (by simp only [T5,List.map_append,D9J];exact .inl A4))
  obtain ⟨e1,p1,p2,p3,p4,p5⟩:=A0K h h1' hv
  obtain ⟨e2,q1,q2,q3,q4,q5⟩:=ih p2 h2 (fun id A4=>A9g _ _ _ _ (ho id (by simp only [T5,List.map_append,D9J];exact .inr A4))) (hr.mono p3)
  exact ⟨e2,q1.trans p1,by rw [F1];exact q2,p3.trans q3,fun j hj=>p4 j (q4 j hj),.cons (p5.mono q3) q5⟩
theorem B0v {el:Nat}:∀ {parts:List (Nat×A)} {of:Nat→Option Ob} {xs:List (Nat×V)} {wo:List (Nat×Ob)},W4 T el of parts=some (xs,wo)→Z4 of wo:=by
 intro parts
 induction parts with
 | nil=>intro of xs wo h;simp only [W4,D9B,Prod.mk.injEq] at h;rw [← h.2];intro p hp;cases hp
 | cons p r ih =>
  intro of xs wo h
  simp only [W4] at h
  split at h<;>try (cases h;done)
  rename_i x w1 h1
  split at h<;>try (cases h;done)
  rename_i xs2 w2 h2
  injection h with h;injection h with _ hp2
  subst hp2
  exact A1L ((B7o DEP).1 _ _ _ _ _ h1) (ih h2)
def A7f:List V→List (Nat×V)→Option (List V)
 | xs,[]=>some xs
 | xs,(i,x)::r=>if Nat.blt i xs.length then A7f (xs.set i x) r else none
theorem B13 {el n:Nat}:∀ {parts:List (Nat×V)} {vals:List (Nat×Value)} {xs xs':List V} {cells:Array Value},RPV T e el parts vals→xs.length=n→RV T e (List.replicate n el) xs cells.toList→A7f xs parts=some xs' →
  ∃ cells':Array Value,Instr.fill (fun i=>some (i * C2 T el,C2 T el)) cells vals=some cells'∧RV T e (List.replicate n el) xs' cells'.toList∧xs'.length=n:=by
 intro parts
 induction parts with
 | nil=>intro vals xs xs' cells hp hn hr h;cases hp;simp only [A7f,D9B] at h;subst h;exact ⟨cells,rfl,hr,hn⟩
 | cons p r ih =>
  intro vals xs xs' cells hp hn hr h
  cases hp with | @cons i x v _ s hv hp =>
  simp only [A7f] at h
  split at h<;>try (cases h;done)
  rename_i hi
  have hi:i < n:=by rw [← hn];simpa using hi
  have hg:(List.replicate n el)[i]? = some el:=by rw [List.getElem?_replicate,if_pos hi]
  obtain ⟨y,pre,d,post,q1,q2,q3,q4,q5⟩:=hr.at hg
  have hw:=hv.one_len
  rw [D9F] at hw
  have q3':=q3
  rw [List.take_replicate,C6,Nat.min_eq_left (by omega)] at q3
  have hcl:cells.size=pre.length+(d.length+post.length):=by
   have:=congrArg List.length q2;simpa using this
  obtain ⟨cells',f1,f2⟩:=A5J (place:=fun i=>some (i * C2 T el,C2 T el)) (i:=i) (off:=i * C2 T el) (size:=C2 T el) (cells:=cells) (v:=v) (rest:=s) rfl hw (by omega)
  have hlen:v.cells.toList.length=C2 T el:=by rw [D9F];exact hw
  have hsm:=A2u (ns:=v.cells.toList) q2 q3 (by omega)
  rw [hlen] at hsm
  rw [hsm] at f2
  have hnew:=hr.put hg hv q2 q3' q4
  rw [← f2] at hnew
  obtain ⟨cells2,g1,g2,g3⟩:=ih hp (by rw [List.length_set];exact hn) hnew h
  exact ⟨cells2,f1.trans g1,g2,g3⟩
def V7 (T:TT) (of:Nat→Option Ob) (nx t len:Nat) (parts:List (Nat×A)):Option Out :=
 match C3 T t with
 | some (.slice el)=>match T el,W4 T el of parts with
  | some te,some (xs,wo)=>if TK.notOther te.k&&Nat.blt 0 te.size&&Nat.ble (len * te.size) 16777216 then
    match A7f (List.replicate len te.zero) xs with
    | some ys=>some ⟨.o nx 1,A1a of wo++[(nx,.row el 1 ys false false)],T5 wo,[nx]⟩
    | none=>none
   else none
  | _,_=>none
 | _=>none
theorem A5N {t len nx:Nat} {of':Nat→Option Ob} {parts:List (Nat×A)} {vals:List (Nat×Value)} {out:Out} (h:A8 T c e of') (hT:H2 T P) (hb:V7 T of nx t len parts=some out) (ho:∀ id∈out.ro,of' id=of id) (hu:∀ id∈out.nw,¬ e.U id) (hp:A5K T e parts vals) :
  C8 P (do pure (.value (← Instr.buildSlice t len vals.toArray))) e.w (D5 T c e of' out):=by
 unfold V7 at hb
 split at hb<;>try (cases hb;done)
 rename_i el hk
 obtain ⟨tet,ht1,ht2⟩:=B8 hk
 have ht:=F9 (hT _ _ ht1) ht2
 split at hb<;>try (cases hb;done)
 rename_i te xs wo hel hparts
 split at hb<;>try (cases hb;done)
 rename_i hc
 simp only [D9z] at hc
 obtain ⟨⟨hno,hz0⟩,hlen⟩:=hc
 have hz0:0 < te.size:=by simpa using hz0
 have hlen:=D9E hlen
 split at hb<;>try (cases hb;done)
 rename_i ys hys
 injection hb with hb;subst hb
 have hz:C2 T el=te.size:=G8 hel
 refine B12 (fun _ _=>B44 ho (B0v hparts)) ?_
 refine A23 (out:=⟨.o nx 1,[(nx,.row el 1 ys false false)],[],[nx]⟩) (A6S h hparts ho hp) (fun e1 hw h1 hle hU hq=>?_)
 obtain ⟨i,z,z1,z2,z3,z4,z5,z6⟩:=B0k (hT _ _ hel) hel
 have hzz:=z5.elim (fun q=>q) (fun q=>absurd q (V5 hno))
 have z6:=z6 hzz
 have hbase:((Array.range (len * te.size)).map (z.cells[· % z.cells.size]!)).toList=(List.replicate len z.cells.toList).flatten:=by
  rw [← z6];exact X8 _ len
 have hrep:RV T e1 (List.replicate len el) (List.replicate len te.zero) ((Array.range (len * te.size)).map (z.cells[· % z.cells.size]!)).toList:=by
  rw [hbase];exact A1K (hzz e1) len
 obtain ⟨cells,g1,g2,g3⟩:=B13 hq (by simp) hrep hys
 have hcs:cells.size=len * C2 T el:=by
  have:=g2.length.1
  rw [C6,D9F] at this;exact this
 have hrun:(Instr.buildSlice t len vals.toArray).run P e1.w=.ok (.slice (some ⟨e1.w.heap.size,0,none⟩) len len) (e1.w.alloc (.cells cells el)):=by
  have hzv:(zeroValue el).run P e1.w=.ok z e1.w:=by simp [zeroValue,A5C z1,z2]
  have hsz:=E2 (hT _ _ hel) e1.w
  rw [hz] at g1
  by_cases hl0:len=0
  ·subst hl0
   have hem:(Array.map (fun _=>(default:Value)) (Array.range 0))=(Array.map (z.cells[· % z.cells.size]!) (Array.range (0 * te.size))):=by simp
   rw [← hem] at g1
   simp [Instr.buildSlice,A3 ht,hsz,newRow,g1]
  ·have hne:¬ (len * te.size=0):=Nat.mul_ne_zero hl0 (by omega)
   simp [Instr.buildSlice,A3 ht,hsz,newRow,g1,hzv,show ¬ (16777216 < len * te.size) by omega]
   exact fun h0=>absurd h0 hne
 subst g3
 exact A1 hrun (A0I h1 (fun q=>hu nx (by simp) (hU _ q)) (A9c h1 (fun q=>hu nx (by simp) (hU _ q)) (by omega) (show cells.toList=cells.toList++[] by simp) g2) (A2x hcs (Nat.le_refl _)))
end Go.Vm
end