/- What functions compute, and the law run. -/
import Derived.Test.YteoeonfajlnggaaGreatWalk2
import Derived.Test.YteoeonfajlnggaaGreatVm12
set_option linter.constructorNameAsVariable false
set_option linter.unusedVariables false
set_option linter.unusedSimpArgs false
noncomputable section
namespace Go.Proofs.YteoeonfajlnggaaGreat
open Go.RowKit Go.Shelf Go.Vm Go.Lib
set_option linter.unusedVariables false
set_option maxRecDepth 100000
theorem C4M:∀ (xs:List El) (i:Nat) (hi:i < xs.length),(∀ x∈xs,x.cells.length=37)→∀ j,j < 37→(xs.flatMap El.cells)[i * 37+j]? = (xs[i]).cells[j]? := by
 intro xs
 induction xs with
 | nil=>intro i hi;simp at hi
 | cons x r ih =>
  intro i hi h j hj
  have hx:=h x (List.mem_cons_self ..)
  rw [List.flatMap_cons]
  cases i with
  | zero=>rw [Nat.zero_mul,Nat.zero_add,List.getElem?_append_left (by omega)];rfl
  | succ i =>
   rw [List.getElem?_append_right (by omega),show (i+1) * 37+j - x.cells.length=i * 37+j by omega]
   exact ih i (by simpa using hi) (fun y hy=>h y (List.mem_cons_of_mem _ hy)) j hj
theorem B9i {k:Nat} {w:World} {L:Value} (h:A2P k w L):∃ p m c,L=.slice p m c:=by
 rcases h with rfl | ⟨a,c,rfl⟩ | ⟨n,ds,_,_,_,g,cap,rfl,_⟩
 ·exact ⟨_,_,_,rfl⟩
 ·exact ⟨_,_,_,rfl⟩
 ·exact ⟨_,_,_,rfl⟩
theorem D4p:in5=.seq (cA in5) (cB in5):=by kernel_rfl
theorem C8R:cA A2i=.seq (cA (cA A2i)) (.block 0 (.loop A52)):=by kernel_rfl
theorem D4q {s1:Nat} {w1 wr:World} {vr v4 v5 v6:Value} {xs:List El} (hn:xs.length≤1000) (hG:G5 s1 w1 vr xs wr) {a:Act} (hF:F5 v4 v5 v6 vr xs.length a) (h32:a.tmps.getD 32 undef=.int .i64 0) :
  (Code.block 0 (.loop A52)).wp Tryz.prog (fun ex a' w'=>ex=.normal∧F5 v4 v5 v6 vr xs.length a'∧G5 s1 w1 vr xs w') a wr:=by
 refine wp_block ?_
 refine wp_loop (fun a' w'=>∃ i,F5 v4 v5 v6 vr xs.length a'∧a'.tmps.getD 32 undef=.int .i64 (i:Nat)∧i≤xs.length∧G5 s1 w1 vr xs w') (fun a' _=>match a'.tmps.getD 32 undef with | .int _ j=>xs.length - j.toNat | _=>0) ⟨0,hF,h32,Nat.zero_le _,hG⟩ ?_
 rintro ⟨tmps,df⟩ w ⟨i,hF,h32,hi,hG⟩
 obtain ⟨y0,y1,y2,y3,y4,y5,y6,y7,y8,y9,y10,y11,y12,y13,y14,y15,y16,y17,y18,y19,y20,y21,y22,y23,y24,y25,y26,y27,y28,y29,y30,y31,y32,y33,y34,y35,y36,y37,y38,y39,y40,y41,y42,y43,y44,y45,y46,y47,y48,y49,y50,y51,y52,y53,y54,y55,y56,y57,y58,y59,y60,y61,y62,y63,y64,y65,rfl⟩:=B7Q hF.nt
 obtain rfl:df=[]:=hF.df
 obtain rfl:y4=v4:=hF.t4
 obtain rfl:y5=v5:=hF.t5
 obtain rfl:y6=v6:=hF.t6
 obtain rfl:y30=vr:=hF.t30
 obtain rfl:y31=_:=hF.t31
 obtain rfl:y32=_:=h32
 by_cases hin:i < xs.length
 ·refine D5g hin (by omega) (K:=fun w'=>G5 s1 w1 y30 xs w') ?_ ?_
  ·obtain ⟨p,m,c,hL⟩:=B9i (hG.out.2 _ (List.getElem_mem hin)).2.2
   have hcl:∀ x∈xs,x.cells.length=37:=fun x hx=>by
    have:=(hG.out.2 x hx).1
    simp [El.cells,this]
   have hx:=hG.out.2 _ (List.getElem_mem hin)
   rcases hG.out.1.2 with ⟨q,q2⟩ | ⟨g,cap,cur,rfl,q1,q2,q3,q4,q5,q6⟩
   ·omega
   ·refine A0r D4p (wp_seq ?_)
    refine r11 (g:=g) (off:=0) (cap:=cap) hin (bs:=(xs[i]).cells) (hcl _ (List.getElem_mem hin)) ?_ ?_ ?_
    ·intro u hu
     unfold El.cells at hu
     rcases D55.1 hu with hu | hu
     ·exact hx.2.1 u hu
     ·simp only [List.mem_cons,List.not_mem_nil,or_false] at hu
      rcases hu with rfl | rfl | rfl | rfl
      ·rfl
      ·exact hx.2.2.one
      ·rfl
      ·rfl
    ·intro j v hj
     have hjl:j < 37:=by have:=(List.getElem?_eq_some_iff.1 hj).1;rw [hcl _ (List.getElem_mem hin)] at this;exact this
     rw [cell_of_row _ _ _ _ 45 (0,0) q2,Nat.zero_add,← Array.getElem?_toList]
     have:=C4M xs i hin hcl j hjl
     rw [← q6,List.getElem?_take,if_pos (by omega)] at this
     rw [this];exact hj
    ·have hbl0:Below w.heap.size w (w.alloc (.cells (xs[i]).cells.toArray 45)):=(Below.refl _ _).alloc (Nat.le_refl _) _
     have hs:s1≤w.heap.size:=Nat.le_trans q1 (Nat.le_of_lt (Array.getElem?_eq_some_iff.1 q2).1)
     refine A0r D4V (wp_seq ?_)
     refine Code.wp_mono ?_ (r12 (n:=xs.length) (i:=i) (b9:=w.heap.size) (m:=m) (p:=p) (c:=c) ?_)
     ·rintro ex a' w' ⟨rfl,hJ,rfl⟩
      refine Code.wp_mono ?_ (D0Y (s1:=s1) (w1:=w1) (List.getElem_mem hin) ⟨hG.bl.alloc hs _,hG.out.below hbl0⟩ (World.alloc_heap_new w _) hL hJ)
      rintro ex a'' w'' ⟨rfl,h1,h2,h3⟩
      exact ⟨rfl,h1,h2,h3⟩
     ·rw [cell_of_row _ _ _ _ 45 (0,0) (World.alloc_heap_new w _)]
      have:(xs[i]).cells[34]? = some (.slice p m c):=by
       unfold El.cells
       rw [List.getElem?_append_right (by rw [hx.1];omega),hx.1,hL];rfl
      simpa using this
  ·intro a' w' h1 h2 h3
   refine ⟨⟨i+1,h1,h2,hin,h3⟩,?_⟩
   show (match a'.tmps.getD 32 undef with | .int _ j=>xs.length - j.toNat | _=>0) < xs.length - ((i:Int)).toNat
   rw [h2]
   simp only [Int.toNat_natCast]
   omega
 ·refine D5f hin ?_
  exact ⟨rfl,⟨rfl,rfl,rfl,rfl,rfl,rfl,rfl⟩,hG⟩
theorem D44 {c:J8} {e:B4} {of:Nat→Option Ob} {es:List (V×V)} (hos:A5 T c e of) (h1:of 1=some (.box 81 (.g 81 [.m 2]) false)) (h2:of 2=some (.vm 38 43 es)) (hU:∀ id,NX≤id→¬ e.U id) (hof:∀ id,id≠1→id≠2→id≠65→of id=none) (hl:es.length≤200) (hlk:∀ p∈es,(M2 p.2).els.length≤1000000)
  {a:Act} (hn:a.tmps.size=66) (hd:a.defers=[]) (hp:C2 T e (.p 1 81 []) (a.tmps.getD 5 undef)) :
  (cA A2i).wp Tryz.prog (fun ex a' w'=>ex=.normal∧a'.tmps.size=66∧a'.defers=[]∧a'.tmps.getD 4 undef=a.tmps.getD 4 undef∧a'.tmps.getD 5 undef=a.tmps.getD 5 undef∧a'.tmps.getD 6 undef=a.tmps.getD 6 undef ∧
   ∃ e',e'.w=w'∧A5 T c e' of∧e.le e'∧∀ id,e'.U id→e.U id∨NX≤id∧id < 1140850881) a e.w:=by
 obtain ⟨tmps,df⟩:=a
 obtain ⟨y0,y1,y2,y3,y4,y5,y6,y7,y8,y9,y10,y11,y12,y13,y14,y15,y16,y17,y18,y19,y20,y21,y22,y23,y24,y25,y26,y27,y28,y29,y30,y31,y32,y33,y34,y35,y36,y37,y38,y39,y40,y41,y42,y43,y44,y45,y46,y47,y48,y49,y50,y51,y52,y53,y54,y55,y56,y57,y58,y59,y60,y61,y62,y63,y64,y65,rfl⟩:=B7Q hn
 obtain rfl:df=[]:=hd
 have hp:C2 T e (.p 1 81 []) y5:=hp
 refine A0r C8R (wp_seq ?_)
 refine r9 (K:=fun vr n w'=>∃ (e2:B4) (xs:List El),n=xs.length∧A5 T c e2 of∧e.le e2∧(∀ id,e2.U id→e.U id∨NX≤id∧id < 1140850881)∧Below e2.w.heap.size e2.w w'∧A5A e2.w.heap.size w' vr xs∧xs.length≤1000) ?_ ?_
 ·refine (D5e hos h1 h2 hU hof hl hlk hp).mono ?_
  rintro en w' ⟨vr,rfl,e2,xs,p1,p2,p3,p4,p5,p6⟩
  rcases p5.1.2 with ⟨rfl,q⟩ | ⟨g,cap,cur,rfl,_⟩
  ·exact ⟨_,_,_,rfl,e2,xs,q.symm,p1,p2,p3,p4,p5,p6⟩
  ·exact ⟨_,_,_,rfl,e2,xs,rfl,p1,p2,p3,p4,p5,p6⟩
 ·rintro vr n w' ⟨e2,xs,rfl,p1,p2,p3,p4,p5,p6⟩
  refine Code.wp_mono ?_ (D4q (s1:=e2.w.heap.size) (w1:=e2.w) (v4:=y4) (v5:=y5) (v6:=y6) p6 ⟨p4,p5⟩ ⟨rfl,rfl,rfl,rfl,rfl,rfl,rfl⟩ rfl)
  rintro ex a' w'' ⟨rfl,hF,hG⟩
  obtain ⟨q1,q2⟩:=p1.below hG.bl
  exact ⟨rfl,hF.nt,hF.df,hF.t4,hF.t5,hF.t6,_,rfl,q1,p2.trans q2,p3⟩
end Go.Proofs.YteoeonfajlnggaaGreat
namespace Go.Proofs.YteoeonfajlnggaaGreat
open Go.RowKit Go.Shelf Go.Vm Go.Lib
set_option linter.unusedVariables false
set_option maxRecDepth 100000
abbrev cd5:Code:=H2 Tryz.prog 5
def D2V (ex:Go.Exit) (σ:Vm.St):Option (Go.Exit×A×A×A×Option Ob×Option Ob×Option Ob×Nat×Option (List Nat)×List Nat):=some (ex,F1 σ.sl 4,F1 σ.sl 5,F1 σ.sl 6,σ.ob.get 1,σ.ob.get 2,σ.ob.get 65,σ.nx,σ.mks,σ.rd)
theorem runP (l t:V):P4 T K46 (fun _=>none) false FU (nT 5) (fun _=>none) _ (Go.Vm.cut 6 cd5) ⟨A3C 0 (P9 T [22,27] [l,t]),.e,[],0,some []⟩ D2V =
  C7X l t (some (.ret,.b true,.x,.x,none,none,none,1,some [],[])) (fun es xs nl=>some (.normal,.b false,.p 1 81 [],.o 65 1,some (.box 81 (.g 81 [.m 2]) false),some (.vm 38 43 es),some (.row 45 1 xs nl false),NX,some [],[])):=by kernel_rfl
def D4r (ex:Go.Exit) (σ:Vm.St):Option (Go.Exit×A×Nat×Option (List Nat)×List Nat):=some (ex,F1 σ.sl 4,σ.nx,σ.mks,σ.rd)
def sS (es:List (V×V)) (xs:List V) (nl:Bool):Vm.St:=⟨[(4,.b false),(5,.p 1 81 []),(6,.o 65 1)],((Tr.e.set 1 (.box 81 (.g 81 [.m 2]) false)).set 2 (.vm 38 43 es)).set 65 (.row 45 1 xs nl false),[],1140850881,some []⟩
theorem D45 (es:List (V×V)) (xs:List V) (nl:Bool):P4 T K46 (fun _=>none) false FU (nT 5) (fun _=>none) _ (cB A2i) (sS es xs nl) D4r =
  C7Y es xs nl (fun b=>some (.ret,.b b,2214592703,some [],[])):=by kernel_rfl
end Go.Proofs.YteoeonfajlnggaaGreat
namespace Go.Proofs.YteoeonfajlnggaaGreat
open Go.RowKit Go.Shelf Go.Vm Go.Lib
set_option linter.unusedVariables false
set_option maxRecDepth 100000
attribute [local go_sem] Oper.semAt_some
abbrev D4s (v0 v1:Value):Act:=⟨(v0::v1::undef::undef::undef::undef::undef::undef::undef::undef::undef::undef::undef::undef::undef::undef::undef::undef::undef::undef::undef::undef::undef::undef::undef::undef::undef::undef::undef::undef::undef::undef::undef::undef::undef::undef::undef::undef::undef::undef::undef::undef::undef::undef::undef::undef::undef::undef::undef::undef::undef::undef::undef::undef::undef::undef::undef::undef::undef::undef::undef::undef::undef::undef::undef::undef::[]).toArray,[]⟩
theorem D2W {v0 v1:Value} {w:World} {R:Ending→World→Prop} (h:cd5.wp Tryz.prog (bodyPost Tryz.prog Tryz.f5 R) (D4s v0 v1) w):Calls Tryz.prog 5 #[v0,v1] w R:=by
 go_enter Tryz.func5,Tryz.ntmps5
 exact A0r (by kernel_rfl) h
def ofX (es:List (V×V)) (xs:List V) (nl:Bool) (id:Nat):Option Ob :=
 if id=1 then some (.box 81 (.g 81 [.m 2]) false) else if id=2 then some (.vm 38 43 es) else if id=65 then some (.row 45 1 xs nl false) else none
theorem B5y {f:Nat} {cd:Code} {σ:Vm.St} {X:Type} {see:Go.Exit→Vm.St→Option X} {r:X} (h:P4 T K46 (fun _=>none) false FU (A6b Tryz.prog f) (fun _=>none) _ cd σ see=some r):∃ ex σ',N4 T K46.dir (U5 (fun _=>none)) FU (A6b Tryz.prog f) (fun _=>none) cd σ=some (ex,σ')∧see ex σ'=some r:=by
 rw [A1l D4Q A7] at h
 cases hx:N4 T K46.dir (U5 (fun _=>none)) FU (A6b Tryz.prog f) (fun _=>none) cd σ with
 | none=>rw [hx] at h;cases h
 | some p=>obtain ⟨ex,σ'⟩:=p;rw [hx] at h;exact ⟨ex,σ',rfl,h⟩
theorem B5z {nt n0:Nat} (cd:Code):L7 Tryz.prog T nt n0 (U5 (fun _=>none)) cd:=by rw [show U5 (fun _=>none)=fun _=>none from by funext b;rfl];exact A4 _
theorem D2X {c:J8} {e:B4} {es:List (V×V)} {xs:List V} {nl:Bool} (hos:A5 T c e (ofX es xs nl)) (hU:∀ id,1140850881≤id→¬ e.U id) (hrun:∀ {R:Type} (k:Bool→Option R),C7Y es xs nl k=k true) {a:Act} (hn:a.tmps.size=66) (hd:a.defers=[]) (h4:C2 T e (.b false) (a.tmps.getD 4 undef)) (h5:C2 T e (.p 1 81 []) (a.tmps.getD 5 undef)) (h6:C2 T e (.o 65 1) (a.tmps.getD 6 undef)) :
  (cB A2i).wp Tryz.prog (fun ex a' w'=>ex=.ret∧a'.tmps.getD 4 undef=.bool true∧a'.defers=[]∧w'.os=c.w0.os∧w'.output=c.w0.output∧c.w0.heap.size≤w'.heap.size∧∀ k,k < c.w0.heap.size→¬ c.M k→w'.heap[k]? = c.w0.heap[k]?) a e.w:=by
 obtain ⟨ex,σ',hx,hs⟩:=B5y ((D45 es xs nl).trans (hrun _))
 unfold D4r at hs
 simp only [D5X,Prod.mk.injEq] at hs
 obtain ⟨rfl,s4,nx,mk,rd⟩:=hs
 refine Code.wp_mono ?_ (D0y (P:=Tryz.prog) (c:=c) (e:=e) (of:=ofX es xs nl) follows B5 C9K (nt:=A6b Tryz.prog 5) (σ:=sS es xs nl) (σ':=σ') (B5z _) hx hos (fun id o ho=>?_) (fun id h _=>hU id h) rd rfl mk (fun t=>?_) hn hd)
 ·rintro ex a' w' ⟨rfl,e2,hL⟩
  have hw:=hL.w
  subst hw
  have q4:=hL.sl 4
  rw [s4] at q4
  exact ⟨rfl,A0n q4,hL.df,hL.os.os,hL.os.output,hL.os.size,hL.os.block⟩
 ·have ho:C1 (((Tr.e.set 1 (.box 81 (.g 81 [.m 2]) false)).set 2 (.vm 38 43 es)).set 65 (.row 45 1 xs nl false)) (fun _=>none) id=some o:=ho
  rw [X1,X1,X1] at ho
  have he:C1 Tr.e (fun _=>none) id=none:=by unfold C1;rw [Tr.get_e]
  unfold ofX
  by_cases q65:id=65
  ·subst q65;rw [upd_same] at ho;rw [if_neg (by decide),if_neg (by decide),if_pos rfl];exact ho
  ·rw [Go.Vm.upd_ne _ _ q65] at ho
   by_cases q2:id=2
   ·subst q2;rw [upd_same] at ho;rw [if_neg (by decide),if_pos rfl];exact ho
   ·rw [Go.Vm.upd_ne _ _ q2] at ho
    by_cases q1:id=1
    ·subst q1;rw [upd_same] at ho;rw [if_pos rfl];exact ho
    ·rw [Go.Vm.upd_ne _ _ q1,he] at ho;cases ho
 ·show C2 T e (F1 [(4,.b false),(5,.p 1 81 []),(6,.o 65 1)] t) _
  rw [J3,J3,J3]
  by_cases t4:t=4
  ·subst t4;rw [upd_same];exact h4
  ·rw [Go.Vm.upd_ne _ _ t4]
   by_cases t5:t=5
   ·subst t5;rw [upd_same];exact h5
   ·rw [Go.Vm.upd_ne _ _ t5]
    by_cases t6:t=6
    ·subst t6;rw [upd_same];exact h6
    ·rw [Go.Vm.upd_ne _ _ t6];trivial
theorem B9j {w:World} {vals:Array Value} (ha:∃ xs,RP T (base w) [22,27] xs vals.toList∧D.smL [.slice A0i,DTx] xs):Calls Tryz.prog 5 vals w fun en w'=>en=.returned (.bool true)∧B0n w w':=by
 obtain ⟨xs,hxr,hm⟩:=ha
 have hhas:D.hasL [.slice A0i,DTx] xs:=TV.has 40 ⟨_,_,hxr⟩ (by kernel_rfl)
 obtain ⟨l,t,rfl,hl,ht⟩:=A5T hhas
 have hreps:=hxr.reps (ts:=[22,27]) (by kernel_rfl)
 obtain ⟨v0,v1,hv,r0,r1⟩:∃ v0 v1,vals=#[v0,v1]∧C2 T (base w) (mkA T 22 l) v0∧C2 T (base w) (mkA T 27 t) v1:=by
  obtain ⟨vals⟩:=vals
  cases hreps with | cons a1 a2=>cases a2 with | cons a3 a4=>cases a4;exact ⟨_,_,rfl,a1,a3⟩
 subst hv
 refine D2W ?_
 have hsl0:∀ i,C2 T (base w) (F1 (A3C 0 (P9 T [22,27] [l,t])) i) ((D4s v0 v1).tmps.getD i undef):=fun i=>by
  show C2 T (base w) (F1 [(0,mkA T 22 l),(1,mkA T 27 t)] i) _
  rw [J3,J3]
  by_cases t0:i=0
  ·subst t0;rw [upd_same];exact r0
  ·rw [Go.Vm.upd_ne _ _ t0]
   by_cases t1:i=1
   ·subst t1;rw [upd_same];exact r1
   ·rw [Go.Vm.upd_ne _ _ t1];trivial
 have fin:∀ {a':Act} {w':World},a'.tmps.getD 4 undef=.bool true→a'.defers=[]→B0n w w'→bodyPost Tryz.prog Tryz.f5 (fun en w'=>en=.returned (.bool true)∧B0n w w') .ret a' w':=fun h1 h2 h3 =>
  bodyPost_ret (results_tmp rfl _ _ _) h2 ⟨by rw [h1],h3⟩
 rcases C3A (R:=Go.Exit×A×A×A×Option Ob×Option Ob×Option Ob×Nat×Option (List Nat)×List Nat) (kr:=some (.ret,.b true,.x,.x,none,none,none,1,some [],[])) (k:=fun es xs nl=>some (.normal,.b false,.p 1 81 [],.o 65 1,some (.box 81 (.g 81 [.m 2]) false),some (.vm 38 43 es),some (.row 45 1 xs nl false),NX,some [],[])) hl hm ht with hG | ⟨es,wl,hI,hok,hln,hG⟩
 ·obtain ⟨ex,σ',hx,hs⟩:=B5y ((runP l t).trans hG)
  unfold D2V at hs
  simp only [D5X,Prod.mk.injEq] at hs
  obtain ⟨rfl,s4,_,_,_,_,_,nx,mk,rd⟩:=hs
  refine C3y (P:=Tryz.prog) (c:=B7C w) (e:=base w) (of:=fun _=>none) follows B5 C9K (nt:=A6b Tryz.prog 5) (k:=6) (cd:=cd5) (by kernel_rfl) (B5z _) hx (B3x w) (fun id o ho=>by
   have ho:C1 Tr.e (fun _=>none) id=some o:=ho
   unfold C1 at ho;rw [Tr.get_e] at ho;cases ho) (fun id _ _ h=>h) rd rfl mk hsl0 rfl rfl ?_
  intro a' w' e' hL
  refine ⟨fun q=>(by cases q),fun _=>?_⟩
  have hw:=hL.w
  subst hw
  have q4:=hL.sl 4
  rw [s4] at q4
  exact fin (A0n q4) hL.df ⟨hL.os.os,hL.os.output,hL.os.size,fun i hi=>hL.os.block i hi (fun h=>h)⟩
 ·obtain ⟨ex,σ',hx,hs⟩:=B5y ((runP l t).trans hG)
  unfold D2V at hs
  simp only [D5X,Prod.mk.injEq] at hs
  obtain ⟨rfl,s4,s5,s6,o1,o2,o65,nx,mk,rd⟩:=hs
  refine C3y (P:=Tryz.prog) (c:=B7C w) (e:=base w) (of:=fun _=>none) follows B5 C9K (nt:=A6b Tryz.prog 5) (k:=6) (cd:=cd5) (by kernel_rfl) (B5z _) hx (B3x w) (fun id o ho=>by
   have ho:C1 Tr.e (fun _=>none) id=some o:=ho
   unfold C1 at ho;rw [Tr.get_e] at ho;cases ho) (fun id _ _ h=>h) rd rfl mk hsl0 rfl rfl ?_
  intro a' w' e' hL
  refine ⟨fun _=>?_,fun q=>absurd rfl q⟩
  have hw:=hL.w
  subst hw
  have q4:=hL.sl 4
  have q5:=hL.sl 5
  have q6:=hL.sl 6
  rw [s4] at q4
  rw [s5] at q5
  rw [s6] at q6
  have hosX:A5 T (B7C w) e' (ofX es wl wl.isEmpty):=hL.os.sub (fun id o ho=>by
   unfold ofX at ho
   split at ho
   ·rename_i q;subst q;unfold C1;rw [o1];exact ho
   ·split at ho
    ·rename_i q;subst q;unfold C1;rw [o2];exact ho
    ·split at ho
     ·rename_i q;subst q;unfold C1;rw [o65];exact ho
     ·cases ho)
  have hU:∀ id,NX≤id→¬ e'.U id:=fun id h hu=>by
   rcases hL.U id hu with q | ⟨_,q⟩
   ·exact q
   ·rw [nx] at q;omega
  have hlk:∀ p∈es,(M2 p.2).els.length≤1000000:=fun p hp=>by
   obtain ⟨_,_,_,_,h5⟩:=hok p hp
   omega
  refine A0r (cd':=.seq (cA A2i) (cB A2i)) (by kernel_rfl) (wp_seq ?_)
  refine Code.wp_mono ?_ (D44 hosX (by unfold ofX;rw [if_pos rfl]) (by unfold ofX;rw [if_neg (by decide),if_pos rfl]) hU (fun id p1 p2 p3=>by unfold ofX;rw [if_neg p1,if_neg p2,if_neg p3]) (by omega) hlk hL.nt hL.df q5)
  rintro ex a2 w2 ⟨rfl,n2,d2,t4,t5,t6,e9,rfl,os9,le9,U9⟩
  refine Code.wp_mono ?_ (D2X os9 (fun id h hu=>?_) (fun k=>C3B hI hok (by omega)) n2 d2 (by rw [t4];exact q4.mono le9) (by rw [t5];exact q5.mono le9) (by rw [t6];exact q6.mono le9))
  ·rintro ex a3 w3 ⟨rfl,p1,p2,p3,p4,p5,p6⟩
   exact fin p1 p2 ⟨p3,p4,p5,fun i hi=>p6 i hi (fun h=>h)⟩
  ·rcases U9 id hu with q | ⟨_,q⟩
   ·exact hU id (by show 1073742015≤id;omega) q
   ·omega
end Go.Proofs.YteoeonfajlnggaaGreat
end