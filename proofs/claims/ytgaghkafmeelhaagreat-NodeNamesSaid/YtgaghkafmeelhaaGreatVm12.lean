/- What the operations of a program do, shown once for all programs; and numbers. -/
import Derived.Test.YtgaghkafmeelhaaGreatVm11
set_option linter.constructorNameAsVariable false
set_option linter.unusedVariables false
set_option linter.unusedSimpArgs false
set_option linter.unnecessarySimpa false
noncomputable section
namespace Go.Vm
open Go.RowKit
variable {P:Program} {T:TT} {c:F6} {e eb:B6} {of of':Nat→Option Ob}
variable {kt st el:Nat} {es:List (V×V×Bool)}
theorem B9D (hT:H2 T P) {k k':V} {y:Value} (hf:eqT T EQD kt=true) (h1:B9 T e (.v kt k) y) (h2:B9 T e (.v kt k') y):k=k':=by
 have e1:=A0T (P:=P) hT e.w EQD kt 0 k k' y y hf h1 h2
 have e2:=A0T (P:=P) hT e.w EQD kt 0 k k y y hf h1 h1
 rw [e1] at e2
 rw [Y8] at e2
 injection e2 with e2 _
 exact (F3 _ _).1 e2
theorem B6k (hT:H2 T P) {te:TE} (hte:T st=some te) (hne:TK.notOther te.k=true) (hk:C3 T st=some (.slice el)) (hz:T7 te.zero .n=true) (w:World):(zeroValue st).run P w=.ok (.slice none 0 0) w:=by
 obtain ⟨z,h1,h2⟩:=A3O hT hte hne w
 have hz:=(F3 _ _).1 hz
 rw [hz] at h2
 have h3:=h2 (B6.bare w (fun _ _=>False))
 have hm:mkA T st .n=.v st .n:=by unfold mkA;rw [hk]
 rw [hm] at h3
 have h4:RV T _ [st] [.n] z.cells.toList:=h3.1
 rcases h4.slice_inv hk with ⟨_,hq⟩ | ⟨ys,ds,ad,cap,hq,_⟩
 ·have:z=.slice none 0 0:=by
   have hag:=h3.2
   cases z with
   | agg cs=>obtain ⟨k',h5,h6⟩:=hag.2 ⟨cs,rfl⟩;rw [hk] at h5;cases h5;cases h6
   | _=>simpa [Value.cells] using hq
  rw [← this];exact h1
 ·cases hq
theorem B1v (hT:H2 T P) (h:A8 T c e of) {id t:Nat} {x y:Value} {kv:V} (hof:of id=some (.sm kt st el es none)) (hu:P.underlying t=some (.map kt st)) (hf:eqT T EQD kt=true) (hx:B9 T e (.m id) x) (hy:B9 T e (.v kt kv) y) (hno:A02 kv es=false) {te:TE} (hte:T st=some te) (hne:TK.notOther te.k=true) (hz0:T7 te.zero .n=true) :
  ∃ (stp:Value) (w1:World),(Instr.mapEntry t x y).run P e.w=.ok (.tuple #[.slice none 0 0,stp]) w1∧(∀ w2,(Instr.mapUpdate t x y (.slice none 0 0)).run P e.w=.ok () w2→w2=w1) ∧
   ∀ (e1:B6) (of1:Nat→Option Ob) (es1:List (V×V×Bool)),e1.w=w1→A8 T c e1 of1→e.le e1→of1 id=some (.sm kt st el es1 none)→A02 kv es1=true→∀ v w2,(Instr.mapUpdate t x y v).run P w1=.ok () w2→(Instr.entryStore t x stp v).run P w1=.ok () w2:=by
 obtain ⟨b,ms,clock,es',bs,v3,v4,vb,v6,v5,v8,v7,g⟩:=A1A hT h hof hf hy
 obtain ⟨b',_,_,u3,rfl⟩:=G9 hx
 rw [v3] at u3;cases u3
 have hks:C3 T st=some (.slice el):=(h.ok _ _ hof).2.2.1
 have hg:(getObj b).run P e.w=.ok (.map ms clock) e.w:=MapKept.run_getObj_map v4
 have hck:∀ em,(Instr.checkKey em 10000 kt y).run P e.w=.ok () e.w:=fun em=>G6 hT em e.w EQD kt 9992 kv y hf hy
 have hset:∀ o,(setObj b o).run P e.w=.ok () { e.w with heap:=e.w.heap.setIfInBounds b o }:=fun o=>MapKept.run_setObj_map o v4
 have hz:=B6k hT hte hne hks hz0 e.w
 obtain ⟨g1,g3⟩:(Instr.findKey kt y ms.toList).run P e.w=.ok none e.w∧∀ p∈es',p.1≠kv:=by
  rcases g with ⟨g1,_,g3⟩ | ⟨i,m,xv,q,_,_,_,g2,_⟩
  ·exact ⟨g1,g3⟩
  ·rw [hno] at g2;cases g2
 have hlt:b < e.w.heap.size:=(Array.getElem?_eq_some_iff.1 v4).1
 refine ⟨goInt clock,{ e.w with heap:=e.w.heap.setIfInBounds b (.map (ms.push { key:=y,val:=.slice none 0 0,born:=clock }) (clock+1)) },?_,fun w2 h2=>?_,fun e1 of1 es1 hw1 os1 hle hof1 hhas v w2 h2=>?_⟩
 ·simp [Instr.mapEntry,A3 hu,hg,hck,g1,hz,hset]
 ·have e2:(Instr.mapUpdate t (.map (some b)) y (.slice none 0 0)).run P e.w=.ok () { e.w with heap:=e.w.heap.setIfInBounds b (.map (ms.push { key:=y,val:=.slice none 0 0,born:=clock }) (clock+1)) }:=by
   simp [Instr.mapUpdate,A3 hu,hg,hck,g1,hset]
  rw [e2] at h2
  injection h2 with _ h2
  exact h2.symm
 ·generalize hww:({ e.w with heap:=e.w.heap.setIfInBounds b (.map (ms.push { key:=y,val:=.slice none 0 0,born:=clock }) (clock+1)) }:World)=w1 at hw1 h2
  have hb1:w1.heap[b]? = some (.map (ms.push { key:=y,val:=.slice none 0 0,born:=clock }) (clock+1)):=by rw [← hww];simp [hlt]
  have hy1:B9 T e1 (.v kt kv) y:=hy.mono hle
  obtain ⟨b1,ms1,clock1,es1',bs1,q3,q4,qb,q6,q5,q8,q7,qg⟩:=A1A hT os1 hof1 hf hy1
  have hib:e1.ι id=some (b,0):=by
   obtain ⟨u1,u2,_⟩:=h.ok _ _ hof
   have:=hle.box _ u1 u2
   rw [(hle.obj _ u1 (by omega)).1];exact v3
  rw [hib] at q3;cases q3
  rw [hw1,hb1] at q4
  cases q4
  rcases qg with ⟨_,q,_⟩ | ⟨i,me,xv,qq,f1,f2,f3,_⟩
  ·rw [hhas] at q;cases q
  have hkey1:B9 T e1 (.v kt kv) me.key:=by
   obtain ⟨bs0,cs,k1,_⟩:=q7.pull f3 f2
   exact A3N k1.key (G1 _ _)
  have hme:me.key=y:=(A2B hf hy1).2 _ hkey1
  have hi:i=ms.size:=by
   rcases Nat.lt_trichotomy i ms.size with hlt' | he | hgt
   ·exfalso
    have f2':ms.toList[i]? = some me:=by
     have:(ms.push { key:=y,val:=.slice none 0 0,born:=clock })[i]? = some me:=by rw [← Array.getElem?_toList];exact f2
     rw [Array.getElem?_push,if_neg (by omega)] at this
     simpa using this
    have hlen:=v7.length
    obtain ⟨p,hp⟩:∃ p,es'[i]? = some p:=⟨_,D9L (by rw [hlen,D9F];exact hlt')⟩
    obtain ⟨bs0,cs,k1,_⟩:=v7.pull hp f2'
    have hkp:B9 T e (.v kt p.1) me.key:=A3N k1.key (G1 _ _)
    rw [hme] at hkp
    exact g3 p (List.mem_of_getElem? hp) (B9D hT hf hkp hy)
   ·exact he
   ·exfalso
    have:=(List.getElem?_eq_some_iff.1 f2).1
    simp at this;omega
  subst hi
  have hmv:me={ key:=y,val:=.slice none 0 0,born:=clock }:=by
   have:(ms.push { key:=y,val:=.slice none 0 0,born:=clock })[ms.size]? = some me:=by rw [← Array.getElem?_toList];exact f2
   rw [Array.getElem?_push,if_pos rfl] at this
   injection this with this;exact this.symm
  subst hmv
  have hg1:(getObj b).run P w1=.ok (.map (ms.push { key:=y,val:=.slice none 0 0,born:=clock }) (clock+1)) w1:=MapKept.run_getObj_map hb1
  have hck1:∀ em,(Instr.checkKey em 10000 kt y).run P w1=.ok () w1:=fun em=>by rw [← hw1];exact G6 hT em e1.w EQD kt 9992 kv y hf hy1
  have hs1:∀ o,(setObj b o).run P w1=.ok () { w1 with heap:=w1.heap.setIfInBounds b o }:=fun o=>MapKept.run_setObj_map o hb1
  have hst:(Instr.keyThatStays y y).run P w1=.ok y w1:=A4g (A2B hf hy1).1 w1
  rw [hw1] at f1
  have f1':=f1
  rw [Array.toList_push] at f1'
  have e2:(Instr.mapUpdate t (.map (some b)) y v).run P w1=.ok () { w1 with heap:=w1.heap.setIfInBounds b (.map ((ms.push { key:=y,val:=.slice none 0 0,born:=clock }).modify ms.size fun e=>{ e with key:=y,val:=v }) (clock+1)) }:=by
   simp [Instr.mapUpdate,A3 hu,hg1,hck1,f1',hst,hs1]
  rw [e2] at h2
  injection h2 with _ h2
  have hmod:∀ f:MapEntry→MapEntry,(ms.push { key:=y,val:=.slice none 0 0,born:=clock }).modify ms.size f=ms.push (f { key:=y,val:=.slice none 0 0,born:=clock }):=fun f=>by
   apply Array.ext_getElem?
   intro j
   rw [Array.getElem?_modify]
   by_cases hj:ms.size=j
   ·subst hj;simp
   ·rw [if_neg hj,Array.getElem?_push,Array.getElem?_push,if_neg (Ne.symm hj),if_neg (Ne.symm hj)]
  rw [← h2]
  simp [Instr.entryStore,hg1,asInt,asIntOf,goInt,A82 vb,hmod,hs1]
variable {P:Program} {T:TT} {c:F6} {e eb:B6} {of of':Nat→Option Ob}
variable {kt st el:Nat} {es:List (V×V×Bool)}
theorem C8Q {K:KS} {nt:Nat} {ops:Array Oper} {σ σ':St} {Es:List J9} (hs1:A2T nt ops=true) (hr:F2 T K ops of ops.toList σ=some (Es,σ')) (hs2:A1T (Q6 ops.toList []) Es 0 Es=true) :
  (∀ o∈ops.toList,V8 nt o=true)∧A0Q 0 ops.toList=true∧∀ (p q:Nat) (A B:J9),q < p→Es[p]? = some B→Es[q]? = some A→W9 A B=true→((Q6 ops.toList []).getD p 0).testBit q=true:=by
 simp only [A2T,D9z] at hs1
 obtain ⟨⟨hd,hb⟩,hsl⟩:=hs1
 obtain ⟨hσ,hlen0,hent⟩:=Z8 _ _ _ _ hr
 have hord:∀ (p q:Nat) (A B:J9),q < p→Es[p]? = some B→Es[q]? = some A→W9 A B=true→((Q6 ops.toList []).getD p 0).testBit q=true:=by
  intro p q A B hqp hB hA hc
  have hp':p < ops.toList.length:=by rw [← hlen0];exact (List.getElem?_eq_some_iff.1 hB).1
  have hq':q < ops.toList.length:=by omega
  obtain ⟨A',gA,kA,_⟩:=hent q ops.toList[q] (D9L hq')
  obtain ⟨B',gB,kB,_⟩:=hent p ops.toList[p] (D9L hp')
  rw [hA] at gA;cases gA
  rw [hB] at gB;cases gB
  obtain ⟨_,_,a3,a4⟩:=U2 kA
  obtain ⟨_,_,b3,b4⟩:=U2 kB
  unfold W9 at hc
  rw [Bool.or_eq_true,Bool.or_eq_true] at hc
  rcases hc with (hc | hc) | hc
  ·refine A8D ops.toList 0 (fun q=>by rw [Nat.zero_add]) hsl p q _ _ (Nat.zero_le _) hqp (D9L hp') (D9L hq') ?_
   unfold B86
   rw [← a3,← b3,← a4,← b4];exact hc
  ·have:=A2H Es 0 (fun q=>by rw [Nat.zero_add]) hs2 q p A B (Nat.zero_le _) (by omega) hA hB hc
   unfold B27 at this
   rw [show Nat.blt q p=true from by simpa [Nat.blt_eq] using hqp] at this
   exact this
  ·have:=A2H Es 0 (fun q=>by rw [Nat.zero_add]) hs2 p q B A (Nat.zero_le _) (by omega) hB hA hc
   unfold B27 at this
   rw [show Nat.blt p q=false from by rw [← Bool.not_eq_true,Nat.blt_eq];omega] at this
   exact this
 exact ⟨List.all_eq_true.1 hd,hb,hord⟩
def N4 (ops:Array Oper) (k t da m key v:Nat):Array Oper :=
 ((ops.modify k fun o=>{ o with op:=.mapUpdate t (.tmp m) (.tmp key) (.const (.slice none 0 0)) }).modify (k+1) fun o=>{ o with op:=.move (.tmp da) }).modify (k+2) fun o=>{ o with op:=.mapUpdate t (.tmp m) (.tmp key) (.tmp v) }
section
variable {ops:Array Oper} {k t da m key v:Nat}
theorem A0s:(N4 ops k t da m key v).size=ops.size:=by simp [N4]
theorem A3n (i:Nat):(N4 ops k t da m key v)[i]? = (ops[i]?).map fun o=>if i=k then { o with op:=.mapUpdate t (.tmp m) (.tmp key) (.const (.slice none 0 0)) } else if i=k+1 then { o with op:=.move (.tmp da) } else if i=k+2 then { o with op:=.mapUpdate t (.tmp m) (.tmp key) (.tmp v) } else o:=by
 unfold N4
 rw [Array.getElem?_modify,Array.getElem?_modify,Array.getElem?_modify]
 cases ops[i]? with
 | none=>simp
 | some o =>
  by_cases h1:i=k
  ·subst h1;simp
  ·by_cases h2:i=k+1
   ·subst h2;simp
   ·by_cases h3:i=k+2
    ·subst h3;simp
    ·simp [h1,h2,h3,Ne.symm h1,Ne.symm h2,Ne.symm h3]
theorem A91 {α:Type} (f:Oper→α) (hf:∀ (o:Oper) (p:Op),f { o with op:=p }=f o) (i:Nat):((N4 ops k t da m key v)[i]?).map f=(ops[i]?).map f:=by
 rw [A3n]
 cases ops[i]? with
 | none=>rfl
 | some o =>
  simp only [Option.map_some,D9B]
  split
  ·exact hf o _
  ·split
   ·exact hf o _
   ·split
    ·exact hf o _
    ·rfl
theorem B1w (listed:Array Bool):Region.ready .any ops listed=Region.ready .any (N4 ops k t da m key v) listed:=by
 unfold Region.ready
 rw [A0s]
 refine List.filter_congr (fun i _=>?_)
 have:=A91 (ops:=ops) (k:=k) (t:=t) (da:=da) (m:=m) (key:=key) (v:=v) (fun o:Oper=>o.after.all fun e=>!Region.binds .any e||listed.getD e.on false) (fun _ _=>rfl) i
 rw [this]
end
def D9c (ops:Array Oper) (k da db m key:Nat):Bool :=
 (List.range ops.size).all fun i=>match ops[i]? with
  | some o=>Nat.beq i k||Nat.beq i (k+1)||Nat.beq i (k+2)||Nat.testBit ((Q6 ops.toList []).getD k 0) i||(o.after.toList.any fun e=>Region.binds .any e&&Nat.beq e.on (k+2))||(B4T o.op&&(match o.dst with
   | some d=>!(Nat.beq d da)&&!(Nat.beq d db)&&!(Nat.beq d m)&&!(Nat.beq d key)
   | none=>true))
  | none=>true
def B6l (ops:Array Oper) (j i:Nat):Bool:=match ops[j]? with
 | some o=>o.after.toList.any fun e=>Region.binds .any e&&Nat.beq e.on i
 | none=>false
def D3N (T:TT) (of:Nat→Option Ob) (t m key:Nat) (σ:St):Bool :=
 match C3 T t,A2J (B5 σ.ob of) (C4 σ.sl m) with
 | some (.map kt et),some (_,kt',st,_,es,none)=>(match T st,A0O T kt (C4 σ.sl key) with
  | some te,some kv=>Nat.beq kt kt'&&Nat.beq et st&&TK.notOther te.k&&T7 te.zero .n&&!(A02 kv es)
  | _,_=>false)
 | _,_=>false
def isX:A→Bool
 | .x=>true
 | _=>false
theorem C8R {a:A} (h:isX a=true):a=.x:=by cases a<;>first | rfl | cases h
variable {P:Program} {T:TT} {c:F6} {e eb:B6} {of of':Nat→Option Ob}
theorem A1D {K:KS} {ops:Array Oper} {sl:Nat→A} {nx:Nat} {o:Oper} {E:J9} (hg:o.guard=none) (hr:V2 T K ops sl of nx o=some E):∃ out,K8 T K (M4 sl) of nx o=some out∧E=J9.mk1 o (o.looksAt ops) nx out:=by
 unfold V2 at hr
 rw [hg] at hr
 simp only at hr
 split at hr<;>try (cases hr;done)
 rename_i out hst
 split at hr<;>try (cases hr;done)
 injection hr with hr
 exact ⟨out,hst,hr.symm⟩
theorem B1x (hT:H2 T P) {K:KS} (hK:KOK P T K) {ops:Array Oper} {o:Oper} {sl:Nat→A} {nx:Nat} {E:J9} {a:Act} (hg:o.guard=none) (h:A8 T c e of') (hr:V2 T K ops sl of nx o=some E)
  (ho:∀ id∈E.ro,of' id=of id) (hu:∀ id,E.lo≤id→id < E.hi→¬ e.U id) (hs:∀ t∈E.rs,B9 T e (sl t) (a.tmps.getD t undef)) :
  C8 P (execOp a.eval o) e.w (P7 T c e of' E.lo ⟨E.val,E.wo,E.ro,E.hi⟩)∧E.dst=o.dst∧∀ cc,o.op≠.defer cc:=by
 obtain ⟨out,hst,rfl⟩:=A1D hg hr
 have hmem:∀ t,.tmp t∈o.op.operands→t∈o.looksAt ops:=fun t ht=>by
  unfold Oper.looksAt
  refine List.mem_append_left _ (List.mem_filterMap.2 ⟨.tmp t,by simpa using ht,rfl⟩)
 have hdf:=A3m hst
 rw [A3k (ev':=M4 fun t=>if t∈o.looksAt ops then sl t else .x) (fun x hx=>by
  cases x with
  | tmp t=>simp only [M4];rw [if_pos (hmem t hx)]
  | _=>rfl)] at hst
 refine ⟨A69 hT hK h hst ho hu (fun _=>rfl) (fun x=>A5o (fun t ht=>?_)),rfl,hdf⟩
 subst ht
 split
 ·rename_i hin;exact hs t hin
 ·trivial
theorem B6m {o:Oper} (h:B4T o.op=true) {w:World} {ρ:Operand→Value}:o.about P w ρ=none:=by
 obtain ⟨dst,op,ty,pos,after,guard⟩:=o
 cases op<;>simp only [B4T,Bool.false_eq_true] at h<;>rfl
theorem B9E {F:Fence} {m:Nat} {ops:Array Oper} {Q:Exit→Act→World→Prop} {i:Nat} {o:Oper} {K:Act→World→Prop} {a:Act} {w w':World} (ho:ops[i]? = some o) (hg:o.guard=none) (hab:∀ f,o.about P w a.eval≠some f) (hdf:∀ c,o.op≠.defer c) (hrun:(execOp a.eval o).run P w=.ok .skip w') (hK:K (a.put o.dst undef) w'):wpOpIn F m P ops Q i K a w:=by
 unfold wpOpIn
 rw [ho]
 simp only [Region.wanted,hg,if_true]
 unfold Oper.wpIn
 refine ⟨fun f hf=>absurd hf (hab f),?_⟩
 rw [Oper.semAt_plain _ _ _ hdf,hrun]
 exact hK
theorem B6n:∀ (l:List (Nat×Ob)) (of:Nat→Option Ob) (id:Nat) (o:Ob),put of (l++[(id,o)]) id=some o:=by
 intro l
 induction l with
 | nil=>intro of id o;exact upd_same _ _ _
 | cons p l ih=>intro of id o;exact ih _ id o
theorem B6o (kv x:V) (q:Bool) (es:List (V×V×Bool)):A02 kv (A2X kv x q es)=true:=by
 simp [A2X,A02,Y8]
def xAt (Es:List J9) (j:Nat):Bool:=match Es[j]? with
 | some E=>isX E.val
 | none=>false
def D3O (T:TT) (ops:Array Oper) (nt k:Nat) (of:Nat→Option Ob) (σ:St) (t da db m key v:Nat) (Es:List J9):Bool :=
 A2T nt (N4 ops k t da m key v)&&A1T (Q6 (N4 ops k t da m key v).toList []) Es 0 Es&&D9c (N4 ops k t da m key v) k da db m key&&B6l ops (k+1) k&&B6l ops (k+2) (k+1)&&D3N T of t m key ((Es.take k).foldl St.app σ)&&xAt Es (k+1)&&ops.toList.all (fun o=>o.guard.isNone)&&!(Nat.beq key da)&&!(Nat.beq key db)&&!(Nat.beq da db)
def B6p (T:TT) (K:KS) (ops:Array Oper) (nt k:Nat) (of:Nat→Option Ob) (σ:St):Option (Exit×St) :=
 match B69 ops nt k with
 | some (t,da,db,m,key,v) =>
  match F2 T K (N4 ops k t da m key v) of (N4 ops k t da m key v).toList σ with
  | some (Es,σ')=>if D3O T ops nt k of σ t da db m key v Es then some (.normal,σ') else none
  | none=>none
 | none=>none
theorem B6q (hm:P.follows .mixedOrders=true) (hT:H2 T P) {K:KS} (hK:KOK P T K) {ops:Array Oper} {n0 nt k rid:Nat} {σ σ':St} {ex:Exit} (hr:B6p T K ops nt k of σ=some (ex,σ')):A1Z P T nt n0 of (.region rid ops true) σ ex σ':=by
 unfold B6p at hr
 split at hr<;>try (cases hr;done)
 rename_i t da db m key v hent
 split at hr<;>try (cases hr;done)
 rename_i Es σ1 hrun
 split at hr<;>try (cases hr;done)
 rename_i hc
 simp only [D3O,D9z,Bool.not_eq_true'] at hc
 obtain ⟨⟨⟨⟨⟨⟨⟨⟨⟨⟨c1,c2⟩,c3⟩,c4⟩,c5⟩,c6⟩,c7⟩,c8⟩,c9⟩,c10⟩,c11⟩:=hc
 injection hr with hr
 injection hr with e1 e2
 subst e1;subst e2
 have hE:=B7a (T:=T) hent
 obtain ⟨ty1,pos1,af1,o1⟩:=hE.o1
 obtain ⟨ty2,pos2,af2,o2⟩:=hE.o2
 obtain ⟨ty3,pos3,af3,o3⟩:=hE.o3
 have neq:∀ {a b:Nat},Nat.beq a b=false→a≠b:=fun h e=>by subst e;simp at h
 have ne1:=neq c9
 have ne2:=neq c10
 have ne3:=neq c11
 have nm1:m≠da:=fun q=>hE.m1 (by rw [q])
 have nm2:m≠db:=fun q=>hE.m2 (by rw [q])
 obtain ⟨hd,hcb,hord⟩:=C8Q c1 hrun c2
 have l1:=T3 _ _ _ _ hrun
 have p1:(N4 ops k t da m key v)[k]? = some ⟨some da,.mapUpdate t (.tmp m) (.tmp key) (.const (.slice none 0 0)),ty1,pos1,af1,none⟩:=by rw [A3n,o1];simp
 have p2:(N4 ops k t da m key v)[k+1]? = some ⟨some db,.move (.tmp da),ty2,pos2,af2,none⟩:=by rw [A3n,o2];simp
 have p3:(N4 ops k t da m key v)[k+2]? = some ⟨none,.mapUpdate t (.tmp m) (.tmp key) (.tmp v),ty3,pos3,af3,none⟩:=by rw [A3n,o3];simp
 have edge:∀ {j i:Nat} {o:Oper},B6l ops j i=true→ops[j]? = some o→∃ e∈o.after,Region.binds .any e=true∧e.on=i:=fun h ho=>by
  unfold B6l at h
  rw [ho] at h
  obtain ⟨e,he,hc⟩:=List.any_eq_true.1 h
  simp only [D9z] at hc
  exact ⟨e,by simpa using he,hc.1,D9y hc.2⟩
 have guards:∀ {i:Nat} {o:Oper},ops[i]? = some o→o.guard=none:=fun {i o} ho=>by
  have:=List.all_eq_true.1 c8 o (List.mem_of_getElem? (i:=i) (by rw [Array.getElem?_toList];exact ho))
  cases hg:o.guard with
  | none=>rfl
  | some g=>rw [hg] at this;cases this
 refine ⟨l1,fun mm of' c eb a w hn hfit hba hs=>?_⟩
 refine wpIn_region_any hm ?_
 obtain ⟨e,rfl,hst⟩:=hs
 obtain ⟨h1,h2⟩:=hst.os.same_heap (w':={ e.w with drawn:=e.w.drawn+1 }) rfl rfl rfl rfl
 have J0:(Nat→Bool)→Act→World→Prop:=fun _ _ _=>True
 let J:(Nat→Bool)→Act→World→Prop:=fun D a w=>D k=true→D (k+2)=false→∃ z stp,a.tmps.getD da undef=.tuple #[z,stp]∧(D (k+1)=true→a.tmps.getD db undef=stp)∧∀ u w2,(Instr.mapUpdate t (a.eval (.tmp m)) (a.eval (.tmp key)) u).run P w=.ok () w2→(Instr.entryStore t (a.eval (.tmp m)) stp u).run P w=.ok () w2
 refine C9t (ops:=ops) (ops2:=N4 ops k t da m key v) hT hK B1w A0s.symm hd hrun hn hfit hcb hord J ?step (fun a' w' h=>⟨rfl,h⟩) ops.size (Array.replicate ops.size false) (fun _=>false) a { e with w:={ e.w with drawn:=e.w.drawn+1 } } (by simp [A0s]) (fun j hj=>?_) (fun _ _=>rfl) ?_ (fun j o hj=>by cases hj) ?_ (fun hk=>by cases hk)
 case step =>
  intro D a e i o E hDi ho hEs hent' hedges hdown hos hsz hro hu hsl hJ K' hK'
  have edge2:∀ {j i':Nat} {o':Oper},B6l ops j i'=true→ops[j]? = some o'→D j=true→D i'=true:=fun {j i' o'} h ho' hDj=>by
   obtain ⟨ed,he,hb,hon⟩:=edge h ho'
   have hma:=A91 (ops:=ops) (k:=k) (t:=t) (da:=da) (m:=m) (key:=key) (v:=v) (fun o:Oper=>o.after) (fun _ _=>rfl) j
   rw [ho'] at hma
   cases ho2:(N4 ops k t da m key v)[j]? with
   | none=>rw [ho2] at hma;cases hma
   | some o2' =>
    rw [ho2] at hma
    simp only [Option.map_some,D9B] at hma
    rw [← hon]
    exact hdown j o2' hDj ho2 ed (by rw [hma];exact he) hb
  by_cases hik:i=k
  ·-- the entry is laid
   subst hik
   rw [p1] at ho;cases ho
   obtain ⟨out,hst',rfl⟩:=A1D rfl hent'
   simp only [K8] at hst'
   unfold A6I at hst'
   split at hst'<;>try (cases hst';done)
   rename_i wo ro hupd
   injection hst' with hst';subst hst'
   unfold D3N at c6
   split at c6<;>try (cases c6;done)
   rename_i ktm etm id kt' st el es hk hsm
   split at c6<;>try (cases c6;done)
   rename_i te kv hte hkv
   simp only [D9z,Bool.not_eq_true'] at c6
   obtain ⟨⟨⟨⟨a1,a2⟩,a3⟩,a4⟩,a5⟩:=c6
   obtain rfl:=D9y a1
   obtain rfl:=D9y a2
   obtain ⟨hmv,hof⟩:=A0q hsm
   have hrs:∀ x:Nat,(x=m∨x=key)→x∈(⟨some da,.mapUpdate t (.tmp m) (.tmp key) (.const (.slice none 0 0)),ty1,pos1,af1,none⟩:Oper).looksAt (N4 ops i t da m key v):=fun x hx=>by
    rcases hx with rfl | rfl<;>simp [Oper.looksAt,Op.operands]
   have hxm:B9 T e (C4 ((Es.take i).foldl St.app σ).sl m) (a.eval (.tmp m)):=hsl m (hrs m (.inl rfl))
   have hxk:B9 T e (C4 ((Es.take i).foldl St.app σ).sl key) (a.eval (.tmp key)):=hsl key (hrs key (.inr rfl))
   have hxz:B9 T e (M4 (C4 ((Es.take i).foldl St.app σ).sl) (.const (.slice none 0 0))) (.slice none 0 0):=by
    show B9 T e (A2Z (.slice none 0 0)) _
    exact A67 _
   have hd:=A4Y hT hos hupd hro hxm hxk hxz
   obtain ⟨w',hrun',hl⟩:=A7b hd
   have hput:∃ w1 xv,ro=id::T5 w1∧wo=w1++[(id,.sm ktm etm el (A2X kv xv false es) none)]:=by
    unfold B6c at hupd
    have hsm':A2J (B5 ((Es.take i).foldl St.app σ).ob of) (M4 (C4 ((Es.take i).foldl St.app σ).sl) (.tmp m))=some (id,ktm,etm,el,es,none):=hsm
    rw [hsm'] at hupd
    simp only at hupd
    unfold B1t at hupd
    have hkv':A0O T ktm (M4 (C4 ((Es.take i).foldl St.app σ).sl) (.tmp key))=some kv:=hkv
    rw [hk] at hupd
    simp only [hkv'] at hupd
    split at hupd<;>try (cases hupd;done)
    split at hupd<;>try (cases hupd;done)
    split at hupd
    ·rename_i rid ver hv
     exfalso
     have hv:A2Z (.slice none 0 0)=A.o rid ver:=hv
     simp [A2Z,A2L] at hv
    ·split at hupd<;>try (cases hupd;done)
     rename_i xv w1 hxv
     split at hupd<;>try (cases hupd;done)
     injection hupd with hupd
     injection hupd with e1 e2
     exact ⟨w1,xv,e2.symm,e1.symm⟩
   obtain ⟨w1l,xv,hro1,hwo1⟩:=hput
   have hof':G5 D 0 (Es.map wO) (B5 σ.ob of') id=some (.sm ktm etm el es none):=(hro id (by show id∈ro;rw [hro1];simp)).trans hof
   obtain ⟨tem,q1,q2⟩:=B8 hk
   have hund:=H3 (hT _ _ q1) q2
   rw [hmv] at hxm
   obtain ⟨hf,hkey⟩:=A0X hkv hxk
   obtain ⟨stp,w1,r1,r2,r3⟩:=B1v hT hos hof' hund hf hxm hkey a5 hte a3 a4
   have hw:=r2 _ hrun'
   subst hw
   obtain ⟨e',s1,s2,s3,s4,_⟩:=hl
   refine A0E o1 rfl (fun f=>by simp [Oper.about]) (fun c h=>by cases h) (u:=.tuple #[.slice none 0 0,stp]) (w':=w') (by simp [execOp,r1]) (hK' (.tuple #[.slice none 0 0,stp]) w' ⟨e',s1,s2,s3,fun j hj=>(s4 j hj).imp (fun q=>q) (fun q=>by cases q),trivial⟩ (fun _ hk2=>?_))
   refine ⟨.slice none 0 0,stp,?_,fun hk1=>?_,fun u w2 h2=>?_⟩
   ·exact Z1 (by rw [hsz];exact hE.da_lt)
   ·exfalso
    have hk1:D (i+1)=true:=by simpa using hk1
    have:=edge2 c4 o2 hk1
    rw [hDi] at this;cases this
   ·have ev:∀ x,x≠da→(a.put (some da) (.tuple #[.slice none 0 0,stp])).eval (.tmp x)=a.eval (.tmp x):=fun x hx=>A0t hx
    have h2':(Instr.mapUpdate t (a.eval (.tmp m)) (a.eval (.tmp key)) u).run P w'=.ok () w2:=by
     have:=h2
     rw [show ((a.put (J9.mk1 (⟨some da,.mapUpdate t (.tmp m) (.tmp key) (.const (.slice none 0 0)),ty1,pos1,af1,none⟩:Oper) _ _ _).dst (.tuple #[.slice none 0 0,stp])).eval (.tmp m))=a.eval (.tmp m) from ev m nm1,show ((a.put (J9.mk1 (⟨some da,.mapUpdate t (.tmp m) (.tmp key) (.const (.slice none 0 0)),ty1,pos1,af1,none⟩:Oper) _ _ _).dst (.tuple #[.slice none 0 0,stp])).eval (.tmp key))=a.eval (.tmp key) from ev key ne1] at this
     exact this
    have g:=r3 e' _ _ s1 s2 s3 (by show put _ wo id=_;rw [hwo1];exact B6n _ _ _ _) (B6o _ _ _ _) u w2 h2'
    rw [show ((a.put (J9.mk1 (⟨some da,.mapUpdate t (.tmp m) (.tmp key) (.const (.slice none 0 0)),ty1,pos1,af1,none⟩:Oper) _ _ _).dst (.tuple #[.slice none 0 0,stp])).eval (.tmp m))=a.eval (.tmp m) from ev m nm1]
    exact g
  by_cases hik1:i=k+1
  ·-- its number
   subst hik1
   rw [p2] at ho;cases ho
   obtain ⟨out,hst',rfl⟩:=A1D rfl hent'
   simp only [K8] at hst'
   injection hst' with hst';subst hst'
   unfold xAt at c7
   rw [hEs] at c7
   have hx:=C8R c7
   have hDk:D k=true:=by
    obtain ⟨ed,he,hb,hon⟩:=edge c4 o2
    rw [← hon];exact hedges ed he hb
   have hD2:D (k+2)=false:=by
    cases hq:D (k+2) with
    | false=>rfl
    | true=>have:=edge2 c5 o3 hq;rw [hDi] at this;cases this
   obtain ⟨z,stp,j1,_,j3⟩:=hJ hDk hD2
   have hda:a.eval (.tmp da)=.tuple #[z,stp]:=j1
   refine A0E o2 rfl (fun f=>by simp [Oper.about]) (fun c h=>by cases h) (u:=stp) (w':=e.w) (by simp [execOp,hda,Instr.extract]) (hK' stp e.w ⟨e,rfl,hos,B6.le.refl _,fun _ q=>.inl q,?_⟩ (fun _ _=>?_))
   ·rw [hx];trivial
   ·refine ⟨z,stp,?_,fun _=>Z1 (by rw [hsz];exact hE.db_lt),fun u w2 h2=>?_⟩
    ·exact (A0t (a:=a) (v:=stp) ne3).trans j1
    ·have ev:∀ x,x≠db→(a.put (some db) stp).eval (.tmp x)=a.eval (.tmp x):=fun x hx=>A0t hx
     have e1:(a.put (some db) stp).eval (.tmp m)=a.eval (.tmp m):=ev m nm2
     have e2:(a.put (some db) stp).eval (.tmp key)=a.eval (.tmp key):=ev key ne2
     have h2:(Instr.mapUpdate t ((a.put (some db) stp).eval (.tmp m)) ((a.put (some db) stp).eval (.tmp key)) u).run P e.w=.ok () w2:=h2
     show (Instr.entryStore t ((a.put (some db) stp).eval (.tmp m)) stp u).run P e.w=.ok () w2
     rw [e1,e2] at h2
     rw [e1]
     exact j3 u w2 h2
  by_cases hik2:i=k+2
  ·-- it is stored
   subst hik2
   rw [p3] at ho;cases ho
   obtain ⟨out,hst',rfl⟩:=A1D rfl hent'
   have hD1:D (k+1)=true:=by
    obtain ⟨ed,he,hb,hon⟩:=edge c5 o3
    rw [← hon];exact hedges ed he hb
   have hDk:D k=true:=edge2 c4 o2 hD1
   obtain ⟨z,stp,_,j2,j3⟩:=hJ hDk hDi
   simp only [K8] at hst'
   unfold A6I at hst'
   split at hst'<;>try (cases hst';done)
   rename_i wo ro hupd
   injection hst' with hst';subst hst'
   have hrs:∀ x:Nat,(x=m∨x=key∨x=v)→x∈(⟨none,.mapUpdate t (.tmp m) (.tmp key) (.tmp v),ty3,pos3,af3,none⟩:Oper).looksAt (N4 ops k t da m key v):=fun x hx=>by
    rcases hx with rfl | rfl | rfl<;>simp [Oper.looksAt,Op.operands]
   have hd:=A4Y (x:=a.eval (.tmp m)) (y:=a.eval (.tmp key)) (z:=a.eval (.tmp v)) hT hos hupd hro (hsl m (hrs m (.inl rfl))) (hsl key (hrs key (.inr (.inl rfl)))) (hsl v (hrs v (.inr (.inr rfl))))
   obtain ⟨w2,hrun',hl⟩:=A7b hd
   have hstore:=j3 _ _ hrun'
   have hdb:a.eval (.tmp db)=stp:=j2 hD1
   obtain ⟨e',s1,s2,s3,s4,_⟩:=hl
   refine B9E o3 rfl (fun f=>by simp [Oper.about]) (fun c h=>by cases h) (w':=w2) (by simp [execOp,hdb,hstore]) (hK' undef w2 ⟨e',s1,s2,s3,fun j hj=>(s4 j hj).imp (fun q=>q) (fun q=>by cases q),trivial⟩ (fun _ hk2=>?_))
   simp at hk2
  have hoo:ops[i]? = some o:=by
   rw [A3n] at ho
   cases hq:ops[i]? with
   | none=>rw [hq] at ho;cases ho
   | some o' =>
    rw [hq] at ho
    simp only [Option.map_some,if_neg hik,if_neg hik1,if_neg hik2,D9B] at ho
    rw [ho]
  have hg:=guards hoo
  obtain ⟨hdo,hdst,hdf⟩:=B1x hT hK hg hos hent' hro hu hsl
  by_cases hmid:D k=true∧D (k+2)=false
  ·have hil:=(Array.getElem?_eq_some_iff.1 ho).1
   have hmd:=List.all_eq_true.1 c3 i (List.mem_range.2 hil)
   rw [ho] at hmd
   simp only [Bool.or_eq_true] at hmd
   have nb:∀ {a b:Nat},a≠b→¬ (Nat.beq a b=true):=fun h q=>h (D9y q)
   have hmd2:B4T o.op=true∧(match o.dst with
    | some d=>!(Nat.beq d da)&&!(Nat.beq d db)&&!(Nat.beq d m)&&!(Nat.beq d key)
    | none=>true)=true:=by
    rcases hmd with ((((q | q) | q) | q) | q) | q
    ·exact absurd q (nb hik)
    ·exact absurd q (nb hik1)
    ·exact absurd q (nb hik2)
    ·exfalso
     have hG:=A3e (D:=D) (G:=fun j=>∀ o,(N4 ops k t da m key v)[j]? = some o→∀ e∈o.after,Region.binds .any e=true→D e.on=true) (fun j hj o ho=>hdown j o hj ho) (N4 ops k t da m key v).toList []
      (fun j _ p hp=>by simp at hp) (fun q o' hq hGq=>hGq o' (by simpa using hq))
     have:=hG k (fun o' ho'=>hdown k o' hmid.1 ho') i q
     rw [hDi] at this;cases this
    ·exfalso
     obtain ⟨ed,he,hc⟩:=List.any_eq_true.1 q
     simp only [D9z] at hc
     have:=hedges ed (by simpa using he) hc.1
     rw [D9y hc.2,hmid.2] at this;cases this
    ·simp only [D9z] at q;exact q
   obtain ⟨hRO,hdd⟩:=hmd2
   rcases hdo with ⟨x,w',hrn,hl⟩ | ⟨w',hrn,_⟩ | ⟨f',args,w1,hrn,_⟩ | ⟨_,_,_,_,_,w1,hrn,_⟩
   ·obtain ⟨x',hx',hw'⟩:=A89 hRO hrn
    subst hw'
    cases hx'
    refine A0E hoo hg (fun f hf=>by rw [B6m hRO] at hf;cases hf) hdf hrn ?_
    ·rw [← hdst]
     refine hK' x e.w hl (fun h1 h2=>?_)
     obtain ⟨z,stp,j1,j2,j3⟩:=hJ hmid.1 hmid.2
     rw [hdst]
     have ev:∀ y:Nat,(∀ d,o.dst=some d→y≠d)→(a.put o.dst x).eval (.tmp y)=a.eval (.tmp y):=fun y hy=>Act.eval_put (fun d hd' hq=>by cases hq;exact hy _ hd' rfl)
     have hds:∀ d,o.dst=some d→da≠d∧db≠d∧m≠d∧key≠d:=fun d hd'=>by
      rw [hd'] at hdd
      simp only [D9z,Bool.not_eq_true'] at hdd
      obtain ⟨⟨⟨d1,d2⟩,d3⟩,d4⟩:=hdd
      exact ⟨(neq d1).symm,(neq d2).symm,(neq d3).symm,(neq d4).symm⟩
     have e1:=ev da (fun d hd'=>(hds d hd').1)
     have e2:=ev db (fun d hd'=>(hds d hd').2.1)
     have e3:=ev m (fun d hd'=>(hds d hd').2.2.1)
     have e4:=ev key (fun d hd'=>(hds d hd').2.2.2)
     refine ⟨z,stp,e1.trans j1,fun hk1=>e2.trans (j2 ?_),fun u w2 hh=>?_⟩
     ·have hk1:((k+1 == i)||D (k+1))=true:=hk1
      have hne:((k+1 == i):Bool)=false:=by simpa using Ne.symm hik1
      rw [hne,Bool.false_or] at hk1
      exact hk1
     ·rw [e3,e4] at hh
      rw [e3]
      exact j3 u w2 hh
   ·obtain ⟨x',hx',_⟩:=A89 hRO hrn;cases hx'
   ·obtain ⟨x',hx',_⟩:=A89 hRO hrn;cases hx'
   ·obtain ⟨x',hx',_⟩:=A89 hRO hrn;cases hx'
  ·unfold wpOpIn
   rw [hoo]
   simp only [Region.wanted,hg,if_true]
   refine A3l hdf hdo (fun x w' hl=>?_)
   rw [← hdst]
   refine hK' x w' hl (fun h1 h2=>?_)
   exfalso
   have hn1:((k == i):Bool)=false:=by simpa using Ne.symm hik
   have hn2:((k+2 == i):Bool)=false:=by simpa using Ne.symm hik2
   simp only [hn1,hn2,Bool.false_or] at h1 h2
   exact hmid ⟨h1,h2⟩
 ·simp only [A0s] at hj
  simp [Array.getD,hj]
 ·unfold left
  have:=List.length_filter_le (fun j=>!(fun _=>false:Nat→Bool) j) (List.range (N4 ops k t da m key v).size)
  rw [List.length_range,A0s] at this
  rw [A0s]
  exact this
 ·rw [A0D _ 0 _ (fun _ _=>rfl),A0D _ 0 _ (fun _ _=>rfl)]
  exact ⟨h1,hst.le.trans h2,fun id A4=>(hst.U id A4).imp (fun q=>q) .inl,fun t=>(hst.sl t).mono h2,hst.def_.mono h2,hst.nt⟩
variable {P:Program} {T:TT}
def B6r (T:TT) (K:KS) (nt k:Nat) (ops:Array Oper):A2b:=fun of σ=>match B6p T K ops nt k of σ with
 | some p=>some [p]
 | none=>none
theorem B6s (hm:P.follows .mixedOrders=true) (hT:H2 T P) {K:KS} (hK:KOK P T K) {ops:Array Oper} {n0 nt k id:Nat}:A2c P T nt n0 (.region id ops true) (B6r T K nt k ops):=by
 intro of σ l h
 unfold B6r at h
 split at h<;>try (cases h;done)
 rename_i p hp
 injection h with h;subst h
 obtain ⟨ex,σ'⟩:=p
 exact (B6q hm hT hK hp).toN
def B6t (T:TT) (K:KS) (fu nt k:Nat) (code:Code):A2b :=
 match code with
 | .seq (.region _ ops true) y=>B62 (B6r T K nt k ops) (B61 T K fu nt y)
 | _=>fun _ _=>none
theorem B6u (hm:P.follows .mixedOrders=true) (hT:H2 T P) {K:KS} (hK:KOK P T K) {fu nt n0 k:Nat} {code:Code}:A2c P T nt n0 code (B6t T K fu nt k code):=by
 unfold B6t
 split
 ·exact A86 (B6s hm hT hK) (A85 hm hT hK)
 ·intro of σ l h;cases h
def B3h (T:TT) (K:KS) (fu k k2:Nat) (fn:Func) (code:Code):E7:=C0l T fn (C0q T K fu fn.ntmps (B6t T K fu fn.ntmps k2 (C0p k code)) k code)
theorem B1y (hm:P.follows .mixedOrders=true) (hT:H2 T P) {K:KS} (hK:KOK P T K) {fu k k2 f:Nat} {fn:Func} {code:Code} (hf:P.funcs[f]? = some fn) (hb:fn.body=some code):B2 P T f (B3h T K fu k k2 fn code) :=
 B3F hm hT hf hb (fun n0=>B3H hm hT hK k code (B6u hm hT hK))
variable {P:Program} {T:TT} {c:F6} {e eb:B6} {of of':Nat→Option Ob}
def A92:List Ob→List Ob→Bool
 | [],[]=>true
 | a::r,b::s=>C0j a b&&A92 r s
 | _,_=>false
theorem A3o:∀ {a b:List Ob},A92 a b=true→a=b
 | [],[],_=>rfl
 | [],_::_,h=>by cases h
 | _::_,[],h=>by cases h
 | a::r,b::s,h=>by
  simp only [A92,D9z] at h
  rw [B3E h.1,A3o h.2]
theorem A93 {L:List Nat}:∀ l:List Nat,(S3 of L l).length=l.length
 | []=>rfl
 | _::r=>congrArg (·+1) (A93 r)
def A94 (L0:List Ob) (args0:List A) (val:A) (wo:List (Nat×Ob)) (n0:Nat):E7:=fun args of nx =>
 (fun L:List Nat=>bif (A1O L&&(A9k of L L&&A6U L (D6 args)))&&(A6M (rnL (J8 L) (A4a of) args) args0&&(A92 (S3 of L L) L0&&(Nat.ble L.length n0&&B0C wo))) then
  some ⟨rnA (G2 L nx) (A4R of L) val,X2 of L nx (A1b 0 (S3 of L L)++wo),L,nx+(n0 - L.length)⟩ else none) (A1N of 64 (D6 args) [])
def B6v (o:Option J7):Option (A×List (Nat×Ob)×Nat) :=
 match o with
 | some o=>some (o.val,o.wo,o.nx)
 | none=>none
theorem B2.of_sub {f:FuncId} {s t:E7} (ht:B2 P T f t) (h:∀ args of nx out,s args of nx=some out→t args of nx=some out):B2 P T f s :=
 fun c e of of' args vals nx out hos hr=>ht c e of of' args vals nx out hos (h _ _ _ _ hr)
theorem A5s {f:FuncId} {s:E7} {L0:List Ob} {args0:List A} {val:A} {wo:List (Nat×Ob)} {n0:Nat} (hs:B2 P T f s)
  (h:B6v (s args0 (ofL L0) L0.length)=some (val,wo,n0)):B2 P T f (A94 L0 args0 val wo n0):=by
 have ht:B2 P T f (trS (A4M s)).dir:=B7G (A4u _) (by rw [A4v];exact hs.at_)
 refine ht.of_sub fun args of nx out hr=>?_
 unfold A94 at hr
 simp only at hr
 unfold H4.dir trS
 simp only
 generalize A1N of 64 (D6 args) []=L at hr ⊢
 cases hc:(A1O L&&(A9k of L L&&A6U L (D6 args))) with
 | false=>rw [hc] at hr;cases hr
 | true =>
 rw [hc] at hr
 cases ha:A6M (rnL (J8 L) (A4a of) args) args0 with
 | false=>rw [ha] at hr;cases hr
 | true =>
 cases hl:A92 (S3 of L L) L0 with
 | false=>rw [ha,hl] at hr;cases hr
 | true =>
 cases hb:(Nat.ble L.length n0&&B0C wo) with
 | false=>rw [ha,hl,hb] at hr;cases hr
 | true =>
 rw [ha,hl,hb] at hr
 have hlen:L.length=L0.length:=by rw [← A3o hl,A93]
 have h':∃ ro,s args0 (ofL L0) L0.length=some ⟨val,wo,ro,n0⟩:=by
  unfold B6v at h
  split at h
  ·rename_i o ho
   injection h with h
   injection h with h1 h2
   injection h2 with h2 h3
   exact ⟨o.ro,by rw [ho,← h1,← h2,← h3]⟩
  ·cases h
 obtain ⟨ro,h'⟩:=h'
 rw [A3u _ _ ha,A3o hl,hlen]
 simp only [cond_true,A4M,h',ob]
 rw [A3o hl,hlen] at hr
 rw [hlen] at hb
 rw [hb]
 simpa using hr
def orS (s t:E7):E7:=fun args of nx =>
 match s args of nx with
 | some o=>some o
 | none=>t args of nx
theorem B6w {f:FuncId} {s t:E7} (hs:B2 P T f s) (ht:B2 P T f t):B2 P T f (orS s t):=by
 intro c e of of' args vals nx out hos hr
 unfold orS at hr
 split at hr
 ·rename_i o ho
  injection hr with hr
  subst hr
  exact hs c e of of' args vals nx _ hos ho
 ·exact ht c e of of' args vals nx out hos hr
end Go.Vm
end