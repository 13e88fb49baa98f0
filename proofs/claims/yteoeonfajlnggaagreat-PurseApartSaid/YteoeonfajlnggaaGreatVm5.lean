/- What the operations of a program do, shown once for all programs; and numbers. -/
import Derived.Test.YteoeonfajlnggaaGreatVm4
import Derived.Orders
import Derived.OrdersIn
import Derived.LoopNIn
import Derived.RangeFuncIn
set_option linter.constructorNameAsVariable false
set_option linter.unusedVariables false
set_option linter.unusedSimpArgs false
noncomputable section
namespace Go.Vm
open Go.RowKit
variable {P:Program} {T:TT} {c:J8} {e:B4} {of:Nat→Option Ob}
variable {a kt st el:Nat} {ho:Option V} {es:List (V×V×Bool)} {ms:List MapEntry} {bs:List Nat}
theorem SR.inG (h:SR T e a kt st el ho es ms bs):∀ b∈bs,e.G a b:=by
 induction h with
 | nil=>intro b hb;cases hb
 | cons h1 _ _ ih =>
  intro b hb
  rcases D55.1 hb with hb | hb
  ·cases h1 with
   | lent=>cases hb
   | data=>cases hb
   | own _ _ _ h3=>simp only [List.mem_singleton] at hb;subst hb;exact h3
  ·exact ih b hb
def B4.give (e:B4) (id b o el ln:Nat):B4 :=
 {w:=e.w,ι:=F8 e.ι id (some (b,o)),S:=e.S,bn:=F8 e.bn id 1,U:=fun j=>j=id∨e.U j,ty:=F8 e.ty id el,ln:=F8 e.ln id ln,G:=fun a b'=>e.G a b'∧b'≠b }
theorem B6C {id:Nat} (hu:¬ e.U id) (b o el ln:Nat):e.le (e.give id b o el ln):=by
 have ne:∀ j,e.U j→j≠id:=fun j hj q=>hu (q ▸ hj)
 refine ⟨fun b i hs=>⟨hs,fun x hx=>hx⟩,fun _ hj=>.inr hj,fun j hj _=>⟨upd_ne _ _ (ne j hj),upd_ne _ _ (ne j hj),fun _ _ _=>rfl⟩,fun j hj h0=>?_,fun j hj=>?_,fun j hj=>upd_ne _ _ (ne j hj),Nat.le_refl _,fun _ _=>rfl⟩
 ·show F8 e.bn id 1 j=0
  rw [upd_ne _ _ (ne j hj)];exact h0
 ·show _≤F8 e.bn id 1 j
  rw [upd_ne _ _ (ne j hj)];exact Nat.le_refl _
theorem A5.give (h:A5 T c e of) {id id0:Nat} (hu:¬ e.U id) {o0 o1 o2:Ob} (hof:of id0=some o0) {a b q el ln:Nat} (hι:e.ι id0=some (a,0)) (hG:e.G a b) (h1:OK T (e.give id b q el ln) id0 o1) (h2:OK T (e.give id b q el ln) id o2) :
  A5 T c (e.give id b q el ln) (F8 (F8 of id0 (some o1)) id (some o2)):=by
 have hle:=B6C hu b q el ln
 have hs0:(of id0).isSome:=by rw [hof];rfl
 have hne:id0≠id:=fun e=>hu (e ▸ (h.ok _ _ hof).use)
 have ιne:∀ j,j≠id→(e.give id b q el ln).ι j=e.ι j:=fun j hj=>upd_ne _ _ hj
 have some':∀ j,j≠id→(F8 (F8 of id0 (some o1)) id (some o2) j).isSome→(of j).isSome:=fun j hj hh=>by
  rw [upd_ne _ _ hj] at hh
  by_cases h0:j=id0
  ·subst h0;exact hs0
  ·rw [upd_ne _ _ h0] at hh;exact hh
 refine ⟨fun j x hj=>?_,fun j k b1 q1 b2 q2 hj hk hb1 hb2 hjk=>?_,fun j b1 q1 hj hb1=>?_,fun j b1 q1 hj hb1=>?_,h.slt,h.s0,h.snew,h.os,h.tape,h.output,h.size,h.block,⟨fun a1 b1 hg j b2 q2 hj hb2=>?_,fun a1 a2 b1 g1 g2=>h.g.uniq a1 a2 b1 g1.1 g2.1,fun a1 b1 g1=>h.g.own a1 b1 g1.1,fun a1 b1 g1=>h.g.lt a1 b1 g1.1⟩⟩
 ·by_cases hj1:j=id
  ·subst hj1;rw [upd_same] at hj;cases hj;exact h2
  ·rw [upd_ne _ _ hj1] at hj
   by_cases hj2:j=id0
   ·subst hj2;rw [upd_same] at hj;cases hj;exact h1
   ·rw [upd_ne _ _ hj2] at hj
    have hjs:(of j).isSome:=by rw [hj];rfl
    refine (h.ok j x hj).keep hle (upd_ne _ _ hj1) (fun _ _ _=>rfl) (fun _ _ _ _ hs=>hs) (fun a' q' k hk hG'=>⟨⟨hG',fun q=>?_⟩,rfl,fun _ hs=>hs⟩)
    subst q
    have:=h.g.uniq _ _ _ hG hG'
    subst this
    exact h.sep _ _ _ _ _ _ hjs hs0 hk hι hj2 rfl
 ·by_cases e1:j=id
  ·subst e1
   have e2:k≠j:=Ne.symm hjk
   rw [ιne k e2] at hb2
   have hb1:(b,q)=(b1,q1):=by simpa [B4.give] using hb1
   cases hb1
   exact Ne.symm (h.g.sep _ _ hG _ _ _ (some' k e2 hk) hb2)
  ·by_cases e2:k=id
   ·subst e2
    rw [ιne j e1] at hb1
    have hb2:(b,q)=(b2,q2):=by simpa [B4.give] using hb2
    cases hb2
    exact h.g.sep _ _ hG _ _ _ (some' j e1 hj) hb1
   ·rw [ιne _ e1] at hb1;rw [ιne _ e2] at hb2
    exact h.sep _ _ _ _ _ _ (some' j e1 hj) (some' k e2 hk) hb1 hb2 hjk
 ·by_cases e1:j=id
  ·subst e1
   have hb1:(b,q)=(b1,q1):=by simpa [B4.give] using hb1
   cases hb1
   exact h.g.own _ _ hG
  ·rw [ιne _ e1] at hb1
   exact h.own _ _ _ (some' j e1 hj) hb1
 ·by_cases e1:j=id
  ·subst e1
   have hb1:(b,q)=(b1,q1):=by simpa [B4.give] using hb1
   cases hb1
   exact h.g.lt _ _ hG
  ·rw [ιne _ e1] at hb1
   rcases hj with hj | hj
   ·exact absurd hj e1
   ·exact h.lt _ _ _ hj hb1
 ·by_cases e1:j=id
  ·subst e1
   have hb2:(b,q)=(b2,q2):=by simpa [B4.give] using hb2
   cases hb2
   exact Ne.symm hg.2
  ·rw [ιne _ e1] at hb2
   exact h.g.sep _ _ hg.1 _ _ _ (some' j e1 hj) hb2
def A9n (T:TT) (nx t:Nat) (k:A) (q:Nat×Nat×Nat×Nat×List (V×V×Bool)×Option V):Option Out :=
 match q.2.2.2.2.2 with
 | none=>match C5 T t with
  | some (.map kt et)=>match T et,A1H T kt k with
   | some te,some kv=>if TK.notOther te.k then (if Nat.beq kt q.2.1&&Nat.beq et q.2.2.1 then
     (match A3z kv q.2.2.2.2.1 with
     | true=>if B1O kv q.2.2.2.2.1 then some ⟨.o nx 1,[(q.1,.sm q.2.1 q.2.2.1 q.2.2.2.1 q.2.2.2.2.1 (some kv)),(nx,.row q.2.2.2.1 1 (A7W kv q.2.2.2.2.1).els false true)],[q.1],[nx]⟩ else none
     | false=>some ⟨mkA T et te.zero,[],[q.1],[]⟩) else none) else none
   | _,_=>none
  | _=>none
 | some _=>none
theorem C0m (hT:L8 T P) {id t nx:Nat} {k:A} {x y:Value} {out:Out} (h:A5 T c e of) (hr:A9n T nx t k (id,kt,st,el,es,ho)=some out) (hof:of id=some (.sm kt st el es ho)) (hu0:∀ j∈out.nw,¬ e.U j) (hx:C2 T e (.m id) x) (hy:C2 T e k y) :
  D8 P (do pure (.value (← Instr.lookup t x y false))) e.w (E6 T c e of out):=by
 unfold A9n at hr
 split at hr<;>try (cases hr;done)
 rename_i hho
 simp only at hho
 subst hho
 split at hr<;>try (cases hr;done)
 rename_i kt' et hk
 obtain ⟨tem,h1,h2⟩:=A9 hk
 have hu:=M7 (hT _ _ h1) h2
 split at hr<;>try (cases hr;done)
 rename_i te kv hte hkv
 obtain ⟨hf,hkey⟩:=A2x hkv hy
 split at hr<;>try (cases hr;done)
 rename_i hne
 split at hr<;>try (cases hr;done)
 rename_i hc
 simp only [D5V] at hc
 have:=D5U hc.1;subst this
 have:=D5U hc.2;subst this
 obtain ⟨z,hz1,hz2⟩:=A7P hT hte hne e.w
 have hck:∀ em,(Instr.checkKey em 10000 kt' y).run P e.w=.ok () e.w:=fun em=>M3 hT em e.w EQD kt' 9992 kv y hf hkey
 obtain ⟨u1,u2,hks,hz,hz3,_⟩:=A7X h hof
 obtain ⟨b,ms,clock,es',bs,v3,v4,vb,v6,v5,v8,v7,g⟩:=A4F hT h hof hf hkey
 obtain ⟨b',_,_,u3,rfl⟩:=Q3 hx
 rw [v3] at u3;cases u3
 have hg:(getObj b).run P e.w=.ok (.map ms clock) e.w:=MapKept.run_getObj_map v4
 rcases g with ⟨g1,g2,_⟩ | ⟨i,me,xv,q,g1,hm1,hm2,g2,g3,g4⟩
 ·simp only [g2] at hr
  injection hr with hr;subst hr
  refine A1 (x:=z) (w':=e.w) ?_ (A6 h (hz2 e))
  simp [Instr.lookup,A2 hu,hg,hck,g1,hz1]
 ·simp only [g2] at hr
  split at hr<;>try (cases hr;done)
  rename_i hown
  injection hr with hr;subst hr
  rw [g4] at hown
  subst hown
  have hun:¬ e.U nx:=hu0 nx (by simp)
  obtain ⟨bs0,cs,k1,k2,k3,k4⟩:=v7.pull hm2 hm1
  cases k1 with
  | lent _ _ h3=>cases h3
  | @own _ xs _ bb o j cap cells t' fz pre ys post j1 j2 j0 j3 j5 j6 j7 j8 j9 j10 j11 j12 =>
   have hle:=B6C hun bb o el xs.length
   have hent:A1X T (e.give nx bb o el xs.length) b kt' et el (some kv) (kv,.l xs,true) me []:=.lent (j1.mono hle) (by rw [j2];rfl) rfl
   have k2':SR T e b kt' et el (some kv) (es'.eraseIdx i) (ms.toList.eraseIdx i) cs:=k2.rho (fun p _ q=>by cases q)
   obtain ⟨bs',q1,_⟩:=SR.putAt hm2 hm1 (k2'.keep' hle (fun b' hb' hG'=>⟨⟨hG',fun q=>k3 bb (by simp) (q ▸ hb')⟩,rfl,fun _ hs=>hs⟩)) hent (fun b hb=>by cases hb)
   rw [show es'.set i (kv,.l xs,true)=es' from A4E hm2,show ms.toList.set i me=ms.toList from A4E hm1] at q1
   have hne:id≠nx:=fun q=>hun (q ▸ u1)
   have hok1:OK T (e.give nx bb o el xs.length) id (.sm kt' et el es (some kv)):=⟨.inr u1,(upd_ne _ _ hne).trans u2,hks,hz,hz3,b,ms,clock,(upd_ne _ _ hne).trans v3,v4,⟨v5,vb⟩,es',bs',v6,q1⟩
   have hok2:OK T (e.give nx bb o el xs.length) nx (.row el 1 xs false true):=⟨.inl rfl,Nat.one_pos,upd_same _ _ _,upd_same _ _ _,upd_same _ _ _,hz3,.inr ⟨rfl,bb,o,cells,t',fz,pre,ys,post,upd_same _ _ _,j5,j6,j7,j8,j9.mono hle,j12,fun q=>by cases q⟩⟩
   refine A1 (x:=me.val) (w':=e.w) (by simp [Instr.lookup,A2 hu,hg,hck,g1]) ⟨e.give nx bb o el xs.length,rfl,?_,hle,fun jj hj=>hj.elim (fun q=>.inr (by simp [q])) .inl,?_⟩
   ·have:=h.give hun hof v3 j3 hok1 hok2
    rw [g3]
    exact this
   ·rw [j2]
    refine RA.r ⟨rfl,.inl rfl,Nat.le_of_eq (upd_same _ _ _).symm,Nat.one_pos,fun _=>.inr ⟨bb,o,cap,j,upd_same _ _ _,?_,?_,j0,?_⟩⟩ rfl .nil
    ·show F8 e.ln nx xs.length nx≤cap
     rw [upd_same];exact j10
    ·show o+cap * B8 T (F8 e.ty nx el nx)=blen e.w bb
     rw [upd_same,j11];simp [blen,j5]
    ·show _=Value.slice _ (F8 e.ln nx xs.length nx) cap
     rw [upd_same]
variable {P:Program} {T:TT} {c:J8} {e:B4} {of:Nat→Option Ob}
variable {a kt st el:Nat} {ho:Option V} {es:List (V×V×Bool)}
theorem A8N {ms:Array MapEntry} {i:Nat} {me:MapEntry} {f:MapEntry→MapEntry} (hm1:ms.toList[i]? = some me):(ms.modify i f).toList=ms.toList.set i (f me):=by
 have hj:ms[i]? = some me:=by simpa using hm1
 apply List.ext_getElem?
 intro j
 rw [Array.getElem?_toList,Array.getElem?_modify,List.getElem?_set]
 by_cases hij:i=j
 ·subst hij
  rw [if_pos rfl,if_pos rfl,hj]
  have:i < ms.toList.length:=(List.getElem?_eq_some_iff.1 hm1).1
  rw [if_pos this];rfl
 ·rw [if_neg hij,if_neg hij,Array.getElem?_toList]
theorem B0C {ms:Array MapEntry} {i:Nat} {me:MapEntry} (hm1:ms.toList[i]? = some me):(ms.eraseIdxIfInBounds i).toList=ms.toList.eraseIdx i:=by
 have:i < ms.size:=by have:=(List.getElem?_eq_some_iff.1 hm1).1;simpa using this
 simp [Array.eraseIdxIfInBounds,this]
theorem A3O {kv:V} (h:(es.map (·.1)).Nodup):((A8Z kv es).map (·.1)).Nodup:=by rw [Y2];exact h.sublist (List.filter_sublist.map _)
theorem A6T {kv x:V} {q:Bool} (h:(es.map (·.1)).Nodup):((A55 kv x q es).map (·.1)).Nodup:=by
 rw [A55,List.map_cons,List.nodup_cons]
 refine ⟨?_,A3O h⟩
 rw [Y2]
 intro hm
 obtain ⟨p,hp,hpk⟩:=List.mem_map.1 hm
 have:=(List.mem_filter.1 hp).2
 simp only at hpk
 rw [hpk,Z3] at this
 simp at this
theorem B2q {kv:V} {x0:V×Bool}:∀ {es:List (V×V×Bool)} {i:Nat},(es.map (·.1)).Nodup→es[i]? = some (kv,x0)→∀ p∈es.eraseIdx i,p.1≠kv:=by
 intro es i hn hi p hp
 rw [← A1I hn hi] at hp
 have:=(List.mem_filter.1 hp).2
 intro q
 rw [q,Z3] at this
 simp at this
theorem C0n (hT:L8 T P) {id t:Nat} {kv x:V} {q:Bool} {bs0 bs:List Nat} {y z:Value} {es':List (V×V×Bool)} {ms:Array MapEntry} {clock b:Nat} (hu:P.underlying t=some (.map kt st)) (h:A5 T c e of) (hof:of id=some (.sm kt st el es ho)) (hf:eqT T EQD kt=true) (hkey:C2 T e (.v kt kv) y) (hho:ho=none∨ho=some kv)
  (v3:e.ι id=some (b,0)) (v4:e.w.heap[b]? = some (.map ms clock)) (vb:StB ms clock) (v6:es'.Perm es) (v5:(es.map (·.1)).Nodup) (v8:(es'.map (·.1)).Nodup) (v7:SR T e b kt st el ho es' ms.toList bs)
  (g:((Instr.findKey kt y ms.toList).run P e.w=.ok none e.w∧A3z kv es=false∧∀ p∈es',p.1≠kv) ∨
    ∃ i m x q,(Instr.findKey kt y ms.toList).run P e.w=.ok (some (i,m.val)) e.w∧ms.toList[i]? = some m∧es'[i]? = some (kv,x,q)∧A3z kv es=true∧A7W kv es=x∧B1O kv es=q)
  (hd:∀ b'∈bs0,b' ∉ bs)
  (hent:∀ w':World,e.le { e with w:=w' }→(∀ k,k≠b→w'.heap[k]? = e.w.heap[k]?)→∀ n,A1X T { e with w:=w' } b kt st el none (kv,x,q) { key:=y,val:=z,born:=n } bs0) :
  D8 P (do Instr.mapUpdate t (.map (some b)) y z;pure .skip) e.w (fun _ w'=>∃ e':B4,e'.w=w'∧A5 T c e' (F8 of id (some (.sm kt st el (A55 kv x q es) none)))∧e.le e'∧∀ j,e'.U j→e.U j):=by
 obtain ⟨u1,u2,hks,hz,hz3,_⟩:=A7X h hof
 have hg:(getObj b).run P e.w=.ok (.map ms clock) e.w:=MapKept.run_getObj_map v4
 have hck:∀ em,(Instr.checkKey em 10000 kt y).run P e.w=.ok () e.w:=fun em=>M3 hT em e.w EQD kt 9992 kv y hf hkey
 have hset:∀ o,(setObj b o).run P e.w=.ok () { e.w with heap:=e.w.heap.setIfInBounds b o }:=fun o=>MapKept.run_setObj_map o v4
 have hids:(of id).isSome:=by rw [hof];rfl
 have hnb:∀ b',e.G b b'→b'≠b:=fun b' hG q=>h.g.sep _ _ hG _ _ _ hids v3 q.symm
 have oth:∀ (o:Go.Obj) (k:Nat),k≠b→({ e.w with heap:=e.w.heap.setIfInBounds b o }:World).heap[k]? = e.w.heap[k]? := fun o k hk=>by simp [Ne.symm hk]
 have hkp:∀ {cs:List Nat} (o:Go.Obj),∀ b'∈cs,e.G b b'→({ e with w:={ e.w with heap:=e.w.heap.setIfInBounds b o } }:B4).G b b'∧({ e.w with heap:=e.w.heap.setIfInBounds b o }:World).heap[b']? = e.w.heap[b']? ∧ ∀ i,({ e with w:={ e.w with heap:=e.w.heap.setIfInBounds b o } }:B4).S b' i→e.S b' i:=fun o b' _ hG=>⟨hG,oth o b' (hnb b' hG),fun _ hs=>hs⟩
 rcases g with ⟨g1,g2,g3⟩ | ⟨i,me,xv,q0,g1,hm1,hm2,g2,g3,g4⟩
 ·obtain ⟨q1,q2⟩:=h.writeM hof v3 v4 (ms':=ms.push { key:=y,val:=z,born:=clock }) (cl':=clock+1) rfl (o':=.sm kt st el (A55 kv x q es) none) (fun hle hh=>by
   have hr:SR T e b kt st el none es' ms.toList bs:=v7.rho (fun p hp hq=>by
    rcases hho with rfl | rfl
    ·cases hq
    ·injection hq with hq;exact g3 p hp hq.symm)
   obtain ⟨bs',r1,_⟩:=(hr.keep' hle (hkp _)).snoc (hent _ hle (oth _) clock) hd
   refine ⟨u1,u2,hks,hz,hz3,b,_,_,v3,hh,⟨A6T v5,vb.push⟩,es'++[(kv,x,q)],bs',?_,?_⟩
   ·have:A8Z kv es=es:=by rw [Y2];exact A2z (fun p hp=>g3 p (v6.mem_iff.2 hp))
    rw [A55,this]
    exact (List.perm_append_singleton _ _).trans (v6.cons _)
   ·rw [Array.toList_push];exact r1)
  refine .inr (.inl ⟨_,?_,⟨_,rfl,q1,q2,fun j hj=>hj⟩⟩)
  simp [Instr.mapUpdate,A2 hu,hg,hck,g1,hset]
 ·obtain ⟨b1,cs,k1,k2,k3,k4⟩:=v7.pull hm2 hm1
  have hkeq:me.key=y:=(A6y hf hkey).2 _ k1.key
  have hj:ms[i]? = some me:=by simpa using hm1
  obtain ⟨q1,q2⟩:=h.writeM hof v3 v4 (ms':=ms.modify i fun e=>{ e with key:=y,val:=z }) (cl':=clock) rfl (o':=.sm kt st el (A55 kv x q es) none) (fun hle hh=>by
   have hr:SR T e b kt st el none (es'.eraseIdx i) (ms.toList.eraseIdx i) cs:=k2.rho (fun p hp hq=>by
    rcases hho with rfl | rfl
    ·cases hq
    ·injection hq with hq;exact B2q v8 hm2 p hp hq.symm)
   obtain ⟨bs',r1,_⟩:=SR.putAt hm2 hm1 (hr.keep' hle (hkp _)) (hent _ hle (oth _) me.born) (fun b' hb hc=>hd b' hb (k4 b' (.inr hc)))
   refine ⟨u1,u2,hks,hz,hz3,b,_,_,v3,hh,⟨A6T v5,vb.mod (fun _=>rfl)⟩,es'.set i (kv,x,q),bs',?_,?_⟩
   ·refine (B82 hm2).trans (List.Perm.cons _ ?_)
    rw [Y2,← A1I v8 hm2]
    exact v6.filter _
   ·rw [A8N hm1];exact r1)
  have hst:(Instr.keyThatStays y y).run P e.w=.ok y e.w:=A92 (A6y hf hkey).1 e.w
  refine .inr (.inl ⟨_,?_,⟨_,rfl,q1,q2,fun j hj=>hj⟩⟩)
  simp [Instr.mapUpdate,A2 hu,hg,hck,g1,hj,hkeq,hst,hset]
def C6c:Option V→V→Bool
 | none,_=>true
 | some k,kv=>U7 k kv
theorem B75 {kv:V} (h:C6c ho kv=true):ho=none∨ho=some kv:=by
 cases ho with
 | none=>exact .inl rfl
 | some k=>exact .inr (by rw [(M9 _ _).1 h])
def B76 (T:TT) (of:Nat→Option Ob) (t:Nat) (k v:A) (q:Nat×Nat×Nat×Nat×List (V×V×Bool)×Option V):Option (List (Nat×Ob)×List Nat) :=
 match C5 T t with
 | some (.map kt et)=>match A1H T kt k with
  | some kv=>if Nat.beq kt q.2.1&&Nat.beq et q.2.2.1 then (if C6c q.2.2.2.2.2 kv then (match v with
    | .o rid ver=>match of rid with
     | some (.row el v' xs false sh)=>if Nat.beq el q.2.2.2.1&&Nat.beq v' ver then some ([(rid,.row el (ver+1) [] true false),(q.1,.sm q.2.1 q.2.2.1 q.2.2.2.1 (A55 kv (.l xs) true q.2.2.2.2.1) none)],[q.1,rid]) else none
     | _=>none
    | v=>match Q0 T DEP of et v with
     | some (x,wo)=>if !(X0 wo).contains q.1 then some (wo++[(q.1,.sm q.2.1 q.2.2.1 q.2.2.2.1 (A55 kv x false q.2.2.2.2.1) none)],q.1::X0 wo) else none
     | none=>none) else none) else none
  | none=>none
 | _=>none
def B4.lose (e:B4) (id ver:Nat):B4:={ e with ι:=F8 e.ι id none,bn:=F8 e.bn id ver,ln:=F8 e.ln id 0 }
theorem A5.lose (h:A5 T c e of) {id el ver:Nat} {xs:List V} {nl sh:Bool} (hof:of id=some (.row el ver xs nl sh)):e.le (e.lose id (ver+1))∧A5 T c (e.lose id (ver+1)) (F8 of id (some (.row el (ver+1) [] true false))):=by
 obtain ⟨r1,r2,r3,r4,r5,r6,_⟩:=N9 h hof
 have hle:e.le (e.lose id (ver+1)):=A2f (w:=e.w) (p:=none) (ln:=0) (by omega) (by omega) (fun _ _ _ _ hx=>hx) (fun _ _=>rfl) (fun j b o hj hb=>h.lt _ _ _ hj hb) (Nat.le_refl _)
 refine ⟨hle,h.turn hof hle (fun _ hj=>upd_ne _ _ hj) (fun _ hj=>upd_ne _ _ hj) (fun _ hj=>hj) (fun _ _ _=>rfl) (Nat.le_refl _) (fun _ _ hs=>.inl hs) (fun b q hb=>?_) rfl rfl rfl ?_⟩
 ·have:(none:Option (Nat×Nat))=some (b,q):=by rw [← hb];exact (upd_same _ _ _).symm
  cases this
 ·exact ⟨r1,Nat.succ_pos _,upd_same _ _ _,r4,upd_same _ _ _,r6,.inl ⟨rfl,upd_same _ _ _,rfl⟩⟩
def B4.keepG (e:B4) (a b:Nat):B4:={ e with G:=fun a' b'=>e.G a' b'∨(a'=a∧b'=b) }
theorem A6U (e:B4) (a b:Nat):e.le (e.keepG a b):=⟨fun _ _ h=>⟨h,fun _ hx=>hx⟩,fun _ h=>h,fun _ _ _=>⟨rfl,rfl,fun _ _ _=>rfl⟩,fun _ _ h=>h,fun _ _=>Nat.le_refl _,fun _ _=>rfl,Nat.le_refl _,fun _ _=>rfl⟩
theorem A5.keepG (h:A5 T c e of) {a b:Nat} (h1:∀ j b' o,(of j).isSome→e.ι j=some (b',o)→b'≠b) (h2:∀ a',¬ e.G a' b) (h3:c.w0.heap.size≤b∨c.M b) (h4:b < e.w.heap.size):A5 T c (e.keepG a b) of:=by
 refine ⟨fun j o hj=>(h.ok j o hj).keep (A6U e a b) rfl (fun _ _ _=>rfl) (fun _ _ _ _ hs=>hs) (fun _ _ _ _ hG=>⟨.inl hG,rfl,fun _ hs=>hs⟩),h.sep,h.own,h.lt,h.slt,h.s0,h.snew,h.os,h.tape,h.output,h.size,h.block,⟨fun a' b' hg j b1 o hj hb=>?_,fun a1 a2 b' g1 g2=>?_,fun a' b' hg=>?_,fun a' b' hg=>?_⟩⟩
 ·rcases hg with hg | ⟨_,rfl⟩
  ·exact h.g.sep _ _ hg _ _ _ hj hb
  ·exact h1 _ _ _ hj hb
 ·rcases g1 with g1 | ⟨rfl,rfl⟩
  ·rcases g2 with g2 | ⟨rfl,rfl⟩
   ·exact h.g.uniq _ _ _ g1 g2
   ·exact absurd g1 (h2 _)
  ·rcases g2 with g2 | ⟨rfl,_⟩
   ·exact absurd g2 (h2 _)
   ·rfl
 ·rcases hg with hg | ⟨_,rfl⟩
  ·exact h.g.own _ _ hg
  ·exact h3
 ·rcases hg with hg | ⟨_,rfl⟩
  ·exact h.g.lt _ _ hg
  ·exact h4
theorem C6d (hT:L8 T P) {of':Nat→Option Ob} {id t:Nat} {k v:A} {x y z:Value} {wo:List (Nat×Ob)} {ro:List Nat} (h:A5 T c e of') (hr:B76 T of t k v (id,kt,st,el,es,ho)=some (wo,ro)) (hof:of id=some (.sm kt st el es ho)) (hoo:∀ id∈ro,of' id=of id) (hx:C2 T e (.m id) x) (hy:C2 T e k y) (hz:C2 T e v z) :
  D8 P (do Instr.mapUpdate t x y z;pure .skip) e.w (E6 T c e of' ⟨.x,wo,ro,[]⟩):=by
 unfold B76 at hr
 split at hr<;>try (cases hr;done)
 rename_i kt' et hk
 obtain ⟨tem,h1,h2⟩:=A9 hk
 have hu:=M7 (hT _ _ h1) h2
 split at hr<;>try (cases hr;done)
 rename_i kv hkv
 obtain ⟨hf,hkey⟩:=A2x hkv hy
 split at hr<;>try (cases hr;done)
 rename_i hc
 simp only [D5V] at hc
 have:=D5U hc.1;subst this
 have:=D5U hc.2;subst this
 split at hr<;>try (cases hr;done)
 rename_i hho
 have hho:=B75 hho
 split at hr
 ·rename_i rid ver
  split at hr<;>try (cases hr;done)
  rename_i el' v' xs sh hrow
  split at hr<;>try (cases hr;done)
  rename_i hc2
  simp only [D5V] at hc2
  have:=D5U hc2.1;subst this
  have:=D5U hc2.2;subst this
  injection hr with hr;injection hr with e1 e2;subst e1;subst e2
  have hrow':=(hoo rid (by simp)).trans hrow
  have hof':=(hoo id (by simp)).trans hof
  obtain ⟨r1,r2,r3,r4,r5,r6,r7⟩:=N9 h hrow'
  rcases r7 with ⟨q,_⟩ | ⟨_,bb,o,cells,t',fz,pre,ys,post,j1,j2,j3,j4,j5,j6,j7,j8⟩
  ·cases q
  ·have hne:id≠rid:=fun q=>by subst q;rw [hof'] at hrow';cases hrow'
   obtain ⟨hle1,s1⟩:=h.lose hrow'
   have hof1:F8 of' rid (some (.row el' (v'+1) [] true false)) id=some (.sm kt' et el' es ho):=by rw [upd_ne _ _ hne];exact hof'
   obtain ⟨b,ms,clock,es',bs,v3,v4,vb,v6,v5,v8,v7,g⟩:=A4F hT s1 hof1 hf (hkey.mono hle1)
   have hrs:(of' rid).isSome:=by rw [hrow'];rfl
   have hnoG:∀ a',¬ (e.lose rid (v'+1)).G a' bb:=fun a' hG=>h.g.sep _ _ hG _ _ _ hrs j1 rfl
   have s2:=s1.keepG (a:=b) (b:=bb) (fun j b' o' hj hb=>by
     have hjr:j≠rid:=fun q=>by
      subst q
      have:(none:Option (Nat×Nat))=some (b',o'):=by rw [← hb];exact (upd_same _ _ _).symm
      cases this
     have hb':e.ι j=some (b',o'):=by rw [← hb];exact (upd_ne _ _ hjr).symm
     have hj':(of' j).isSome:=by rw [upd_ne _ _ hjr] at hj;exact hj
     exact h.sep _ _ _ _ _ _ hj' hrs hb' j1 hjr) hnoG (h.own _ _ _ hrs j1) (h.lt _ _ _ r1 j1)
   have hle2:=hle1.trans (A6U (e.lose rid (v'+1)) b bb)
   have v3':e.ι id=some (b,0):=by rw [← v3];exact (upd_ne _ _ hne).symm
   have hbb:bb≠b:=fun q=>h.sep _ _ _ _ _ _ (by rw [hof'];rfl) hrs v3' j1 hne q.symm
   obtain ⟨b',_,_,u3,rfl⟩:=Q3 hx
   rw [v3'] at u3;cases u3
   have v7':=v7.keep' (A6U (e.lose rid (v'+1)) b bb) (fun b' _ hG=>⟨.inl hG,rfl,fun _ hs=>hs⟩)
   have main:=C0n (x:=.l xs) (q:=true) (bs0:=[bb]) (y:=y) (z:=z) hT hu s2 hof1 hf (hkey.mono hle2) hho v3 v4 vb v6 v5 v8 v7' g (fun b' hb' hc=>by
     simp only [List.mem_singleton] at hb';subst hb'
     exact hnoG b (v7.inG _ hc)) (fun w' hle hw n=>by
     rcases M8 hz r3 with ⟨q,_⟩ | ⟨b2,o2,cap,kk,k1,k2,k3,k4,k5⟩
     ·rw [j1] at q;cases q
     ·rw [j1] at k1;cases k1
      rw [r5] at k2 k5;rw [r4] at k3
      have hh:w'.heap[bb]? = some (.cells cells t' fz):=(hw bb hbb).trans j2
      refine .own ((hkey.mono hle2).mono hle) k5 k4 (.inr ⟨rfl,rfl⟩) hh (A9I j3 (hw bb hbb)) j4 j5 ((j6.mono hle2).mono hle) k2 ?_ j7
      rw [k3];simp [blen,j2])
   refine E8 main ?_
   rintro u w' ⟨e',p1,p2,p3,p4⟩
   exact ⟨e',p1,p2,hle2.trans p3,fun j hj=>.inl (p4 j hj),trivial⟩
 ·split at hr<;>try (cases hr;done)
  rename_i xv w1 hxv
  split at hr<;>try (cases hr;done)
  rename_i hc4
  simp only [Bool.not_eq_true'] at hc4
  injection hr with hr;injection hr with hr1 hr2;subst hr1;subst hr2
  have hnin:id ∉ X0 w1:=fun hin=>by
   have:(X0 w1).contains id=true:=List.contains_iff_mem.2 hin
   rw [this] at hc4;cases hc4
  have hof':=(hoo id (by simp)).trans hof
  have hxv':=(A01 (T:=T) DEP).1 of of' _ _ _ _ hxv (fun j hj=>hoo j (by simp [hj]))
  obtain ⟨e1,a1,a2,a3,a4,a5⟩:=A1n h hxv' hz
  have hp1:put of' w1 id=some (.sm kt' et el es ho):=by rw [A99 hnin];exact hof'
  obtain ⟨b,ms,clock,es',bs,v3,v4,vb,v6,v5,v8,v7,g⟩:=A4F hT a2 hp1 hf (hkey.mono a3)
  obtain ⟨_,_,hks,hz1,_,_⟩:=A7X a2 hp1
  obtain ⟨b',_,_,u3,rfl⟩:=Q3 (hx.mono a3)
  rw [v3] at u3;cases u3
  have hone:z.cells.toList=[z]:=by
   have:RV T e1 [et] [xv] z.cells.toList:=a5
   cases hzz:z with
   | agg cs =>
    exfalso
    have hag:=(A6z hxv' hz).2 ⟨cs,hzz⟩
    obtain ⟨k',hk',ha'⟩:=hag
    rw [hks] at hk';cases hk';cases ha'
   | tuple cs =>
    have:=a5.one (.tuple cs) (by rw [hzz];exact List.mem_singleton_self _)
    cases this
   | _=>rfl
  have main:=C0n (x:=xv) (q:=false) (bs0:=[]) (y:=y) (z:=z) hT hu a2 hp1 hf (hkey.mono a3) hho v3 v4 vb v6 v5 v8 v7 g (fun b' hb'=>by cases hb') (fun w' hle hw n=>.data ((hkey.mono a3).mono hle) (by
    have:=a5.mono hle
    rw [hone] at this;exact this))
  rw [a1] at main
  refine E8 main ?_
  rintro u w' ⟨e',p1,p2,p3,p4⟩
  refine ⟨e',p1,?_,a3.trans p3,fun j hj=>.inl (a4 j (p4 j hj)),trivial⟩
  show A5 T c e' (put of' (w1++[(id,_)]))
  rw [H7]
  exact p2
variable {P:Program} {T:TT} {c:J8} {e:B4} {of:Nat→Option Ob}
variable {a kt st el:Nat} {ho:Option V} {es:List (V×V×Bool)}
def C0o (T:TT) (t:Nat) (k:A) (q:Nat×Nat×Nat×Nat×List (V×V×Bool)×Option V):Option (List (Nat×Ob)×List Nat) :=
 match C5 T t with
 | some (.map kt et)=>match A1H T kt k with
  | some kv=>if Nat.beq kt q.2.1&&Nat.beq et q.2.2.1 then some ([(q.1,.sm q.2.1 q.2.2.1 q.2.2.2.1 (A8Z kv q.2.2.2.2.1) q.2.2.2.2.2)],[q.1]) else none
  | none=>none
 | _=>none
theorem C0p (hT:L8 T P) {of':Nat→Option Ob} {id t kt0 ty:TypeId} {k:A} {x y:Value} {wo:List (Nat×Ob)} {ro:List Nat} (h:A5 T c e of') (hr:C0o T t k (id,kt,st,el,es,ho)=some (wo,ro)) (hof:of id=some (.sm kt st el es ho)) (hoo:∀ id∈ro,of' id=of id) (hx:C2 T e (.m id) x) (hy:C2 T e k y) :
  D8 P (do pure (.value (← Builtin.delete_ #[t,kt0] ty #[x,y]))) e.w (E6 T c e of' ⟨.x,wo,ro,[]⟩):=by
 unfold C0o at hr
 split at hr<;>try (cases hr;done)
 rename_i kt' et hk
 obtain ⟨tem,h1,h2⟩:=A9 hk
 have hu:=M7 (hT _ _ h1) h2
 split at hr<;>try (cases hr;done)
 rename_i kv hkv
 obtain ⟨hf,hkey⟩:=A2x hkv hy
 split at hr<;>try (cases hr;done)
 rename_i hc
 simp only [D5V] at hc
 have:=D5U hc.1;subst this
 have:=D5U hc.2;subst this
 injection hr with hr;injection hr with e1 e2;subst e1;subst e2
 have hof':=(hoo id (by simp)).trans hof
 obtain ⟨u1,u2,hks,hz,hz3,_⟩:=A7X h hof'
 obtain ⟨b,ms,clock,es',bs,v3,v4,vb,v6,v5,v8,v7,g⟩:=A4F hT h hof' hf hkey
 obtain ⟨b',_,_,u3,rfl⟩:=Q3 hx
 rw [v3] at u3;cases u3
 have hg:(getObj b).run P e.w=.ok (.map ms clock) e.w:=MapKept.run_getObj_map v4
 have hck:∀ em,(Instr.checkKey em 10000 kt' y).run P e.w=.ok () e.w:=fun em=>M3 hT em e.w EQD kt' 9992 kv y hf hkey
 have hset:∀ o,(setObj b o).run P e.w=.ok () { e.w with heap:=e.w.heap.setIfInBounds b o }:=fun o=>MapKept.run_setObj_map o v4
 have hids:(of' id).isSome:=by rw [hof'];rfl
 have hnb:∀ b',e.G b b'→b'≠b:=fun b' hG q=>h.g.sep _ _ hG _ _ _ hids v3 q.symm
 have oth:∀ (o:Go.Obj) (k:Nat),k≠b→({ e.w with heap:=e.w.heap.setIfInBounds b o }:World).heap[k]? = e.w.heap[k]? := fun o k hk=>by simp [Ne.symm hk]
 have hkp:∀ {cs:List Nat} (o:Go.Obj),∀ b'∈cs,e.G b b'→({ e with w:={ e.w with heap:=e.w.heap.setIfInBounds b o } }:B4).G b b'∧({ e.w with heap:=e.w.heap.setIfInBounds b o }:World).heap[b']? = e.w.heap[b']? ∧ ∀ i,({ e with w:={ e.w with heap:=e.w.heap.setIfInBounds b o } }:B4).S b' i→e.S b' i:=fun o b' _ hG=>⟨hG,oth o b' (hnb b' hG),fun _ hs=>hs⟩
 rcases g with ⟨g1,g2,g3⟩ | ⟨i,me,xv,q0,g1,hm1,hm2,g2,g3,g4⟩
 ·obtain ⟨q1,q2⟩:=h.writeM hof' v3 v4 (ms':=ms) (cl':=clock) rfl (o':=.sm kt' et el (A8Z kv es) ho) (fun hle hh =>
   ⟨u1,u2,hks,hz,hz3,b,_,_,v3,hh,⟨A3O v5,vb⟩,es',bs,by rw [Y2,A2z (fun p hp=>g3 p (v6.mem_iff.2 hp))];exact v6,v7.keep' hle (hkp _)⟩)
  refine A1 (x:=.tuple #[]) ?_ ⟨_,rfl,q1,q2,fun j hj=>.inl hj,trivial⟩
  simp [Builtin.delete_,A2 hu,hg,hck,g1,hset]
 ·obtain ⟨b1,cs,k1,k2,k3,k4⟩:=v7.pull hm2 hm1
  obtain ⟨q1,q2⟩:=h.writeM hof' v3 v4 (ms':=ms.eraseIdxIfInBounds i) (cl':=clock) rfl (o':=.sm kt' et el (A8Z kv es) ho) (fun hle hh =>
   ⟨u1,u2,hks,hz,hz3,b,_,_,v3,hh,⟨A3O v5,vb.erase i⟩,es'.eraseIdx i,cs,by rw [Y2,← A1I v8 hm2];exact v6.filter _,by
    rw [B0C hm1]
    exact k2.keep' hle (hkp _)⟩)
  refine A1 (x:=.tuple #[]) ?_ ⟨_,rfl,q1,q2,fun j hj=>.inl hj,trivial⟩
  simp [Builtin.delete_,A2 hu,hg,hck,g1,hset]
theorem SR.length {bs:List Nat} {ms:List MapEntry} (h:SR T e a kt st el ho es ms bs):es.length=ms.length:=by
 induction h with
 | nil=>rfl
 | cons _ _ _ ih=>simp [ih]
def C6e (T:TT) (t:Nat) (q:Nat×Nat×Nat×Nat×List (V×V×Bool)×Option V):Option (A×List Nat) :=
 match C5 T t with
 | some (.map _ _)=>if Nat.ble q.2.2.2.2.1.length 9223372036854775807 then some (.i .i64 (q.2.2.2.2.1.length:Nat),[q.1]) else none
 | _=>none
theorem C6f (hT:L8 T P) {of':Nat→Option Ob} {id t ty:TypeId} {r:A} {x:Value} {ro:List Nat} (h:A5 T c e of') (hr:C6e T t (id,kt,st,el,es,ho)=some (r,ro)) (hof:of id=some (.sm kt st el es ho)) (hoo:∀ id∈ro,of' id=of id) (hx:C2 T e (.m id) x) :
  D8 P (do pure (.value (← Builtin.len_ #[t] ty #[x]))) e.w (E6 T c e of' ⟨r,[],ro,[]⟩):=by
 unfold C6e at hr
 split at hr<;>try (cases hr;done)
 rename_i kt' et hk
 obtain ⟨tem,h1,h2⟩:=A9 hk
 have hu:=M7 (hT _ _ h1) h2
 split at hr<;>try (cases hr;done)
 rename_i hl
 injection hr with hr;injection hr with e1 e2;subst e1;subst e2
 have hof':=(hoo id (by simp)).trans hof
 obtain ⟨u1,u2,hks,hz,hz3,b,ms,clock,v3,v4,v5,es',bs,v6,v7⟩:=A7X h hof'
 obtain ⟨b',_,_,u3,rfl⟩:=Q3 hx
 rw [v3] at u3;cases u3
 have hlen:ms.size=es.length:=by rw [← v6.length_eq,v7.length,D51]
 have hg:(getObj b).run P e.w=.ok (.map ms clock) e.w:=MapKept.run_getObj_map v4
 refine A1 (x:=.int .i64 ms.size) (w':=e.w) (by simp [Builtin.len_,A2 hu,goInt,hg]) ?_
 rw [hlen]
 exact A6 h (P5 (A4G hl))
def D0h (pos:String):Bool:=pos == "naming.go:22"||pos == "naming.go:190"
def B2r (T:TT) (lend:Bool) (nx:Nat) (of:Nat→Option Ob) (t:Nat) (m k:A) (ok:Bool):Option Out :=
 match A56 of m with
 | some q=>bif lend&&!ok then A9n T nx t k q else (match A7Y T t k ok q with
  | some (v,ro)=>some ⟨v,[],ro,[]⟩
  | none=>none)
 | none=>match A98 T of t m k ok with
  | some (v,ro)=>some ⟨v,[],ro,[]⟩
  | none=>none
theorem C0q (hT:L8 T P) {of':Nat→Option Ob} {nx t:Nat} {m k:A} {x y:Value} {lend ok:Bool} {out:Out} (h:A5 T c e of') (hr:B2r T lend nx of t m k ok=some out) (ho:∀ id∈out.ro,of' id=of id) (hu:∀ id∈out.nw,¬ e.U id) (hx:C2 T e m x) (hy:C2 T e k y) :
  D8 P (do pure (.value (← Instr.lookup t x y ok))) e.w (E6 T c e of' out):=by
 unfold B2r at hr
 split at hr
 ·rename_i q hq
  obtain ⟨id,kt,st,el,es,ho'⟩:=q
  obtain ⟨rfl,hof⟩:=A3l hq
  cases hl:lend&&!ok with
  | true =>
   rw [hl] at hr
   simp only [cond_true] at hr
   simp only [D5V,Bool.not_eq_true'] at hl
   obtain ⟨_,rfl⟩:=hl
   have A3:id∈out.ro:=by
    unfold A9n at hr
    (repeat' split at hr)<;>first | (cases hr;done) | (injection hr with hr;subst hr;simp)
   exact C0m hT h hr ((ho id A3).trans hof) hu hx hy
  | false =>
   rw [hl] at hr
   simp only [cond_false] at hr
   split at hr<;>try (cases hr;done)
   rename_i v ro hv
   injection hr with hr;subst hr
   have A3:id∈ro:=by
    unfold A7Y at hv
    (repeat' split at hv)<;>first | (cases hv;done) | (injection hv with hv;injection hv with _ hv;subst hv;simp)
   exact C4k hT h hv ((ho id A3).trans hof) hx hy
 ·split at hr<;>try (cases hr;done)
  rename_i v ro hv
  injection hr with hr;subst hr
  exact C4c hT h hv ho hx hy
def C6g (T:TT) (of:Nat→Option Ob) (t:Nat) (m k v:A):Option (List (Nat×Ob)×List Nat) :=
 match A56 of m with
 | some q=>B76 T of t k v q
 | none=>C4d T of t m k v
theorem B6D (hT:L8 T P) {of':Nat→Option Ob} {t:Nat} {m k v:A} {x y z:Value} {wo:List (Nat×Ob)} {ro:List Nat} (h:A5 T c e of') (hr:C6g T of t m k v=some (wo,ro)) (ho:∀ id∈ro,of' id=of id) (hx:C2 T e m x) (hy:C2 T e k y) (hz:C2 T e v z) :
  D8 P (do Instr.mapUpdate t x y z;pure .skip) e.w (E6 T c e of' ⟨.x,wo,ro,[]⟩):=by
 unfold C6g at hr
 split at hr
 ·rename_i q hq
  obtain ⟨id,kt,st,el,es,ho'⟩:=q
  obtain ⟨rfl,hof⟩:=A3l hq
  exact C6d hT h hr hof ho hx hy hz
 ·exact C8C hT h hr ho hx hy hz
def C0r (T:TT) (of:Nat→Option Ob) (t:Nat) (m k:A):Option (List (Nat×Ob)×List Nat) :=
 match A56 of m with
 | some q=>C0o T t k q
 | none=>C4e T of t m k
theorem C0s (hT:L8 T P) {of':Nat→Option Ob} {t kt0 ty:TypeId} {m k:A} {x y:Value} {wo:List (Nat×Ob)} {ro:List Nat} (h:A5 T c e of') (hr:C0r T of t m k=some (wo,ro)) (ho:∀ id∈ro,of' id=of id) (hx:C2 T e m x) (hy:C2 T e k y) :
  D8 P (do pure (.value (← Builtin.delete_ #[t,kt0] ty #[x,y]))) e.w (E6 T c e of' ⟨.x,wo,ro,[]⟩):=by
 unfold C0r at hr
 split at hr
 ·rename_i q hq
  obtain ⟨id,kt,st,el,es,ho'⟩:=q
  obtain ⟨rfl,hof⟩:=A3l hq
  exact C0p hT h hr hof ho hx hy
 ·exact C4f hT h hr ho hx hy
def B77 (T:TT) (of:Nat→Option Ob) (t:Nat) (u:A):Option (A×List Nat) :=
 match A56 of u with
 | some q=>C6e T t q
 | none=>C4g T of t u
theorem C6h (hT:L8 T P) {of':Nat→Option Ob} {t ty:TypeId} {u r:A} {x:Value} {ro:List Nat} (h:A5 T c e of') (hr:B77 T of t u=some (r,ro)) (ho:∀ id∈ro,of' id=of id) (hx:C2 T e u x) :
  D8 P (do pure (.value (← Builtin.len_ #[t] ty #[x]))) e.w (E6 T c e of' ⟨r,[],ro,[]⟩):=by
 unfold B77 at hr
 split at hr
 ·rename_i q hq
  obtain ⟨id,kt,st,el,es,ho'⟩:=q
  obtain ⟨rfl,hof⟩:=A3l hq
  exact C6f hT h hr hof ho hx
 ·exact C8D hT h hr ho hx
def A6f (T:TT) (kt et:Nat):Ob :=
 match C5 T et with
 | some (.slice el)=>bif A97 T 8 el&&Nat.beq (B8 T et) 1&&Nat.blt 0 (B8 T el) then .sm kt et el [] none else A5l T kt et
 | _=>A5l T kt et
theorem A5Q {t kt et id:Nat} (h:A5 T c e of) (ht:P.underlying t=some (.map kt et)) (hu:¬ e.U id) {r:Option Value} (hr:r=none∨∃ k n,r=some (.int k n)) {ro:List Nat} :
  D8 P (do pure (.value (← Instr.makeMap t r))) e.w (E6 T c e of ⟨.m id,[(id,A6f T kt et)],ro,[id]⟩):=by
 unfold A6f
 split
 ·rename_i el hk
  cases hc:A97 T 8 el&&Nat.beq (B8 T et) 1&&Nat.blt 0 (B8 T el) with
  | false=>exact A7V h ht hu hr
  | true =>
   simp only [D5V] at hc
   have hrun:(Instr.makeMap t r).run P e.w=.ok (.map (some e.w.heap.size)) (e.w.alloc (.map #[] 0)):=by
    rcases hr with rfl | ⟨k,n,rfl⟩
    ·simp [Instr.makeMap]
    ·simp [Instr.makeMap,A2 ht,asInt,asIntOf]
   have hok:OK T (e.newM id (.map #[] 0)) id (.sm kt et el [] none) :=
    ⟨.inl rfl,upd_same _ _ _,hk,D5U hc.1.2,by simpa [Nat.blt_eq] using hc.2,e.w.heap.size,#[],0,upd_same _ _ _,Q1 _ _,⟨List.nodup_nil,B60⟩,[],[],List.Perm.refl _,.nil⟩
   refine A1 hrun ⟨e.newM id (.map #[] 0),rfl,h.newM hu hok,h.le_newM hu _,fun j hj=>hj.elim (fun q=>.inr (by simp [q])) .inl,?_⟩
   exact RA.r ⟨e.w.heap.size,.inl rfl,upd_same _ _ _,upd_same _ _ _,rfl⟩ rfl .nil
 ·exact A7V h ht hu hr
variable {P:Program} {T:TT} {c:J8} {e:B4} {of:Nat→Option Ob}
structure H9 where
 val:A
 wo:List (Nat×Ob)
 ro:List Nat
 nx:Nat
def V2 (T:TT) (c:J8) (e:B4) (of:Nat→Option Ob) (nx:Nat) (f:H9) (x:Value) (w':World):Prop :=
 ∃ e':B4,e'.w=w'∧A5 T c e' (put of f.wo)∧e.le e'∧(∀ id,e'.U id→e.U id∨(nx≤id∧id < f.nx))∧C2 T e' f.val x
inductive T2 (T:TT) (e:B4):List A→List Value→Prop
 | nil:T2 T e [] []
 | cons {v x r s}:C2 T e v x→T2 T e r s→T2 T e (v::r) (x::s)
abbrev Sym:=List A→(Nat→Option Ob)→Nat→Option H9
def J2 (P:Program) (T:TT) (f:FuncId) (s:Sym):Prop :=
 ∀ (c:J8) (e:B4) (of of':Nat→Option Ob) (args:List A) (vals:Array Value) (nx:Nat) (out:H9),A5 T c e of'→s args of nx=some out→(∀ id∈out.ro,of' id=of id)→(∀ id,nx≤id→id < out.nx→¬ e.U id)→T2 T e args vals.toList →
  D8 P (callFunc f vals) e.w (V2 T c e of' nx out)
def H9.pv (nx:Nat) (v:A) (ro:List Nat):H9:=⟨v,[],ro,nx⟩
def A4Y (nx:Nat) (o:Option Out):Option H9 :=
 match o with
 | some ⟨v,wo,ro,nw⟩=>match nw with
  | []=>some ⟨v,wo,ro,nx⟩
  | [k]=>if Nat.beq k nx then some ⟨v,wo,ro,nx+1⟩ else none
  | _=>none
 | none=>none
theorem A0X {nx:Nat} {o:Option Out} {f:H9} (h:A4Y nx o=some f):∃ out,o=some out∧f.ro=out.ro∧(∀ id∈out.nw,nx≤id∧id < f.nx)∧(∀ {c:J8} {e:B4} {of:Nat→Option Ob} {x w'},E6 T c e of out x w'→V2 T c e of nx f x w'):=by
 unfold A4Y at h
 split at h<;>try (cases h;done)
 rename_i v wo ro nw
 split at h
 ·injection h with h;subst h
  refine ⟨_,rfl,rfl,?_,?_⟩
  ·intro id A3;cases A3
  ·rintro c e of x w' ⟨e',p1,p2,p3,p4,p5⟩
   exact ⟨e',p1,p2,p3,fun id A3=>(p4 id A3).elim .inl (fun q=>by cases q),p5⟩
 ·rename_i k
  split at h<;>try (cases h;done)
  rename_i hk
  have:=D5U hk;subst this
  injection h with h;subst h
  refine ⟨_,rfl,rfl,?_,?_⟩
  ·intro id A3
   simp only [List.mem_singleton] at A3;subst A3;exact ⟨Nat.le_refl _,Nat.lt_succ_self _⟩
  ·rintro c e of x w' ⟨e',p1,p2,p3,p4,p5⟩
   refine ⟨e',p1,p2,p3,fun id A3=>(p4 id A3).imp (fun q=>q) (fun q=>?_),p5⟩
   simp only [List.mem_singleton] at q;subst q;exact ⟨Nat.le_refl _,Nat.lt_succ_self _⟩
 ·cases h
theorem C6i {nx:Nat} {v:A} {ro:List Nat} {x:Value} {w':World} (h:E6 T c e of ⟨v,[],ro,[]⟩ x w'):V2 T c e of nx (.pv nx v ro) x w':=by
 obtain ⟨e',p1,p2,p3,p4,p5⟩:=h
 exact ⟨e',p1,p2,p3,fun id A3=>(p4 id A3).elim .inl (fun q=>by cases q),p5⟩
theorem C6j {nx:Nat} {v:A} {wo:List (Nat×Ob)} {ro:List Nat} {x:Value} {w':World} (h:E6 T c e of ⟨v,wo,ro,[]⟩ x w'):V2 T c e of nx ⟨v,wo,ro,nx⟩ x w':=by
 obtain ⟨e',p1,p2,p3,p4,p5⟩:=h
 exact ⟨e',p1,p2,p3,fun id A3=>(p4 id A3).elim .inl (fun q=>by cases q),p5⟩
theorem M6 {s:Sem Next} {w:World} {nx:Nat} {v:A} {ro:List Nat} (h:D8 P s w (E6 T c e of ⟨v,[],ro,[]⟩)):D8 P s w (V2 T c e of nx (.pv nx v ro)):=E8 h (fun _ _=>C6i)
theorem A2n {s:Sem Next} {w:World} {nx:Nat} {v:A} {wo:List (Nat×Ob)} {ro:List Nat} (h:D8 P s w (E6 T c e of ⟨v,wo,ro,[]⟩)):D8 P s w (V2 T c e of nx ⟨v,wo,ro,nx⟩):=E8 h (fun _ _=>C6j)
theorem OK.sh {id:Nat} {o:Ob} (h:OK T e id o):OK T e id (A6c o):=by
 cases o with
 | box t a sh =>
  obtain ⟨h1,h2,h2',h2'',b,cs,ty,fz,h3,h4,h5,h5',h6,h7⟩:=h
  exact ⟨h1,h2,h2',h2'',b,cs,ty,fz,h3,h4,h5,h5',h6,fun hh=>by cases hh⟩
 | row el ver xs nl sh =>
  obtain ⟨h1,h2,h3,h4,h4',h5,h6⟩:=h
  refine ⟨h1,h2,h3,h4,h4',h5,?_⟩
  rcases h6 with h6 | ⟨nn,b,o,cs,t,fz,pre,ys,post,g1,g2,g3,g4,g5,g6,g7,g8⟩
  ·exact .inl h6
  ·exact .inr ⟨nn,b,o,cs,t,fz,pre,ys,post,g1,g2,g3,g4,g5,g6,g7,fun hh=>by cases hh⟩
 | map kt et es=>exact h
 | vm kt et es=>exact h
 | sm _ _ _ _ _=>exact h
 | lp q=>exact h
 | it q=>exact h
theorem A5.weak {wo:List (Nat×Ob)} (h:A5 T c e of) (hw:A0B of wo):A5 T c e (put of wo):=by
 have key:∀ id,put of wo id=of id∨∃ o0,of id=some o0∧put of wo id=some (A6c o0):=fun id=>(A3v wo of of hw id (.inl rfl)).1
 have some':∀ id,(put of wo id).isSome→(of id).isSome:=fun id hs=>by
  rcases key id with k | ⟨o0,k1,k2⟩
  ·rw [← k];exact hs
  ·rw [k1];rfl
 refine ⟨fun id o ho=>?_,fun i j b o b' o' hi hj=>h.sep i j b o b' o' (some' _ hi) (some' _ hj),fun i b o hi=>h.own i b o (some' _ hi),h.lt,h.slt,h.s0,h.snew,h.os,h.tape,h.output,h.size,h.block,h.g.mono (fun _ _ q=>q) rfl (fun _ q=>q) (Nat.le_refl _) (fun j b o hj hb=>.inl ⟨j,o,some' j hj,hb⟩)⟩
 rcases key id with k | ⟨o0,k1,k2⟩
 ·rw [k] at ho;exact h.ok _ _ ho
 ·rw [k2] at ho;cases ho;exact (h.ok _ _ k1).sh
def shW (of:Nat→Option Ob):List Nat→List (Nat×Ob)
 | []=>[]
 | id::r=>match of id with
  | some o0=>bif A89 o0 then shW of r else (id,A6c o0)::shW of r
  | none=>shW of r
theorem C6k {of:Nat→Option Ob}:∀ l:List Nat,A0B of (shW of l)∧∀ id∈X0 (shW of l),id∈l:=by
 intro l
 induction l with
 | nil=>exact ⟨fun p hp=>(by cases hp),fun id h=>(by cases h)⟩
 | cons k r ih =>
  simp only [shW]
  split
  ·rename_i o0 ho0
   cases A89 o0 with
   | true=>exact ⟨ih.1,fun id h=>List.mem_cons_of_mem _ (ih.2 id h)⟩
   | false =>
    refine ⟨fun p hp=>?_,fun id h=>?_⟩
    ·rcases List.mem_cons.1 hp with rfl | hp
     ·exact ⟨o0,ho0,rfl⟩
     ·exact ih.1 p hp
    ·simp only [cond_false,X0,List.map_cons,List.mem_cons] at h
     rcases h with rfl | h
     ·exact List.mem_cons_self ..
     ·exact List.mem_cons_of_mem _ (ih.2 id h)
  ·exact ⟨ih.1,fun id h=>List.mem_cons_of_mem _ (ih.2 id h)⟩
def A0s (T:TT):A→Bool
 | .v t _=>X2 T t
 | .g _ _ | .t _ | .x=>false
 | _=>true
theorem C6l {a:A} {x:Value} (h:C2 T e a x) (hc:A0s T a=true):RA T e [a] [x]∧one x=true:=by
 cases a with
 | v t y =>
  simp only [A0s,X2,D5V] at hc
  have hk:∃ k,C5 T t=some k∧k.agg=false:=by
   cases hk:C5 T t with
   | none=>rw [hk] at hc;simp at hc
   | some k=>rw [hk] at hc;exact ⟨k,rfl,by simpa using hc.1⟩
  have:=E9 h hk
  exact ⟨RA.v1 this,this.one x (by simp)⟩
 | g _ _=>cases hc
 | t _=>cases hc
 | x=>cases hc
 | _=>exact ⟨h,RA.one_ h x (by simp)⟩
theorem C6m {a:A} {x:Value} (h:RA T e [a] [x]) (hc:A0s T a=true):C2 T e a x:=by
 have ho:=RA.one_ h x (by simp)
 cases a with
 | v t y =>
  simp only [A0s,X2,D5V] at hc
  refine ⟨by rw [L4 ho];exact h.v_inv,⟨fun ⟨k,h1,h2⟩=>?_,fun ⟨cs,hx⟩=>by subst hx;cases ho⟩⟩
  rw [h1] at hc;simp [h2] at hc
 | g _ _=>cases hc
 | t _=>cases hc
 | x=>cases hc
 | _=>exact h
theorem C0t {a:A} {d:List Value} (h:RA T e [a] d) (hc:A0s T a=true):∃ x,d=[x]:=by
 cases a with
 | v t y =>
  simp only [A0s] at hc
  have:=h.v_inv.one_len
  rw [J4 hc] at this
  exact List.length_eq_one_iff.1 this
 | g _ _=>cases hc
 | t _=>cases hc
 | x=>cases hc
 | _=>exact h.single rfl
theorem C6n:∀ {l:List A} {vs:List Value},T2 T e l vs→l.all (A0s T)=true→RA T e l vs:=by
 intro l vs h
 induction h with
 | nil=>intro _;exact .nil
 | @cons v x r s h1 _ ih =>
  intro hc
  simp only [List.all_cons,D5V] at hc
  exact RA.append (l:=[v]) (xs:=[x]) (C6l h1 hc.1).1 (ih hc.2)
theorem B6E:∀ {l:List A} {vs:List Value},RA T e l vs→l.all (A0s T)=true→T2 T e l vs:=by
 intro l
 induction l with
 | nil=>intro vs h _;cases h;exact .nil
 | cons a l ih =>
  intro vs h hc
  simp only [List.all_cons,D5V] at hc
  obtain ⟨d,r,rfl,h1,h2⟩:=h.uncons
  obtain ⟨x,rfl⟩:=C0t h1 hc.1
  exact .cons (C6m h1 hc.1) (ih h2 hc.2)
theorem T2.append {a b:List A} {x y:List Value} (h:T2 T e a x) (k:T2 T e b y):T2 T e (a++b) (x++y):=by
 induction h with
 | nil=>exact k
 | cons h1 _ ih=>exact .cons h1 ih
theorem T2.get {l:List A} {xs:List Value} (h:T2 T e l xs):xs.length=l.length∧∀ (i:Nat) v x,l[i]? = some v→xs[i]? = some x→C2 T e v x:=by
 induction h with
 | nil=>exact ⟨rfl,fun i v x h=>by simp at h⟩
 | cons h1 _ ih =>
  refine ⟨by simp [ih.1],fun i v x hv hx=>?_⟩
  cases i with
  | zero=>simp at hv hx;subst hv;subst hx;exact h1
  | succ i=>exact ih.2 i v x (by simpa using hv) (by simpa using hx)
theorem T2.mono {e e':B4} (he:e.le e') {l:List A} {xs:List Value} (h:T2 T e l xs):T2 T e' l xs:=by
 induction h with
 | nil=>exact .nil
 | cons h1 _ ih=>exact .cons (h1.mono he) ih
def B4h:Value→A
 | .int k n=>if B5r k n then .i k n else .x
 | .bool b=>.b b
 | .string s=>.s (txt s)
 | v=>if A3S v then .z v else .x
theorem B78 (v:Value):C2 T e (B4h v) v:=by
 unfold B4h
 split
 ·split
  ·rename_i h;exact P5 (A73 h)
  ·trivial
 ·exact A4S _
 ·exact B3M _
 ·split
  ·rename_i h;exact RA.z h .nil
  ·trivial
def evO (sl:Nat→A):Operand→A
 | .tmp t=>sl t
 | .const v=>B4h v
 | .func f=>.f f []
 | .global _=>.x
theorem B4i {sl:Nat→A} {a:Act} {x:Operand} (h:∀ t,x=.tmp t→C2 T e (sl t) (a.tmps.getD t undef)):C2 T e (evO sl x) (a.eval x):=by
 cases x with
 | tmp t=>exact h t rfl
 | const v=>exact B78 v
 | global g=>trivial
 | func f=>exact RA.f .nil .nil
variable {P:Program} {T:TT} {c:J8} {e:B4} {of:Nat→Option Ob}
structure KS where
 f:Nat→Sym
 y:Nat→Sym
 ord:Nat→Bool
instance:CoeFun KS (fun _=>Nat→Sym):=⟨KS.f⟩
def YOK (P:Program) (T:TT) (id:Nat) (s:Sym):Prop :=
 ∀ (c:J8) (e:B4) (of of':Nat→Option Ob) (args:List A) (vals:Array Value) (nx:Nat) (out:H9) (b:Nat),A5 T c e of'→s args of nx=some out→(∀ id∈out.ro,of' id=of id)→(∀ id,nx≤id→id < out.nx→¬ e.U id)→T2 T e args vals.toList →
  e.U id→e.bn id=0→e.ι id=some (b,0)→D8 P (Instr.yield b vals) e.w (V2 T c e of' nx out)
structure X9 (P:Program) (T:TT) (K:KS):Prop where
 f:∀ f,J2 P T f (K.f f)
 y:∀ id,YOK P T id (K.y id)
 ord:∀ f,K.ord f=true→∀ (vals:Array Value) (w:World),(callFunc f vals).run P w=.ok (.enter f vals) w
def KS.no (f:Nat→Sym):KS:=⟨f,fun _ _ _ _=>none,fun _=>false⟩
theorem B79 {id:Nat} {v:Value} (h:C2 T e (.y id) v):∃ b,e.U id∧e.bn id=0∧e.ι id=some (b,0)∧v=.func (.yield b) #[] #[]:=by
 have h:RA T e [.y id] [v]:=h
 cases h with
 | r h1 _ _=>exact h1
def A1S (T:TT) (K:KS) (ev:Operand→A) (of:Nat→Option Ob) (nx:Nat) (k:Call):Option H9 :=
 match k.callee with
 | .value f=>match ev f with
  | .f fn cap=>if cap.all (A0s T) then K fn (k.args.toList.map ev++cap) of nx else none
  | .y id=>K.y id (k.args.toList.map ev) of nx
  | _=>none
 | .builtin .len=>match k.argTypes.toList,k.args.toList with
  | [t],[x]=>match B77 T of t (ev x) with
   | some (v,ro)=>some (.pv nx v ro)
   | none=>none
  | _,_=>none
 | .builtin .cap=>match k.argTypes.toList,k.args.toList with
  | [t],[x]=>match D2G T t (ev x) with
   | some v=>some (.pv nx v [])
   | none=>none
  | _,_=>none
 | .builtin .append=>match k.argTypes.toList,k.args.toList with
  | [t,xt],[x,y]=>if A4R T xt (ev y) then A4Y nx (A4Q T of nx t (ev x) (ev y)) else if isQ T (ev x) then A4Y nx (B1N T nx t xt (ev x) (ev y)) else none
  | _,_=>none
 | .builtin .min=>match k.args.toList with
  | [x,y]=>match B9b false (ev x) (ev y) with
   | some v=>some (.pv nx v [])
   | none=>none
  | _=>none
 | .builtin .max=>match k.args.toList with
  | [x,y]=>match B9b true (ev x) (ev y) with
   | some v=>some (.pv nx v [])
   | none=>none
  | _=>none
 | .builtin .delete=>match k.argTypes.toList,k.args.toList with
  | [t,_],[x,y]=>match C0r T of t (ev x) (ev y) with
   | some (wo,ro)=>some ⟨.x,wo,ro,nx⟩
   | none=>none
  | _,_=>none
 | .builtin .copy=>match k.argTypes.toList,k.args.toList with
  | [t,xt],[x,y]=>match A0I T of t xt (ev x) (ev y) with
   | some (v,wo,ro)=>some ⟨v,wo,ro,nx⟩
   | none=>none
  | _,_=>none
 | _=>none
theorem R4 {s s':Sem Next} {w:World} {R:Value→World→Prop} (h:∀ w,s.run P w=s'.run P w) (hd:D8 P s' w R):D8 P s w R:=by
 unfold D8 at hd ⊢
 rw [h];exact hd
theorem B4j {α:Type} {a:Array α} {x:α} (h:a.toList=[x]):a=#[x]:=by
 have:=congrArg List.toArray h;simpa using this
theorem A2N {α:Type} {a:Array α} {x y:α} (h:a.toList=[x,y]):a=#[x,y]:=by
 have:=congrArg List.toArray h;simpa using this
theorem A6V {ev:Operand→A} {ρ:Operand→Value} (hx:∀ x,C2 T e (ev x) (ρ x)):∀ l:List Operand,T2 T e (l.map ev) (l.map ρ):=by
 intro l
 induction l with
 | nil=>exact .nil
 | cons x r ih=>exact .cons (hx x) ih
theorem C0u (hT:L8 T P) {K:KS} (hK:X9 P T K) {of':Nat→Option Ob} {nx:Nat} {k:Call} {ev:Operand→A} {ρ:Operand→Value} {out:H9} (h:A5 T c e of') (hr:A1S T K ev of nx k=some out) (ho:∀ id∈out.ro,of' id=of id)
  (hu:∀ id,nx≤id→id < out.nx→¬ e.U id) (hx:∀ x,C2 T e (ev x) (ρ x)) (ty:TypeId) :
  D8 P (do let d ← resolve ρ k ty;invoke d.target d.args) e.w (V2 T c e of' nx out):=by
 unfold A1S at hr
 split at hr
 ·rename_i f hk
  split at hr<;>try (cases hr;done)
  case h_2 id hf =>
   have hf':=hx f
   rw [hf] at hf'
   obtain ⟨b,y1,y2,y3,hv⟩:=B79 hf'
   have q1:=hK.y id c e of of' _ (k.args.map ρ) nx out b h hr ho hu (by rw [Array.toList_map];exact A6V hx _) y1 y2 y3
   refine R4 (s':=Instr.yield b (k.args.map ρ)) (fun w=>?_) q1
   simp [resolve,hk,hv,Deferred.ofValue,invoke]
  rename_i fn cap hf
  split at hr<;>try (cases hr;done)
  rename_i hcap
  have hf':=hx f
  rw [hf] at hf'
  obtain ⟨vs,hv,hvs⟩:=A2a hf'
  have hcaps:=B6E hvs hcap
  have q1:=hK.f fn c e of of' _ (k.args.map ρ++vs.toArray) nx out h hr ho hu (by rw [Array.toList_append,Array.toList_map];exact (A6V hx _).append hcaps)
  refine R4 (s':=callFunc fn (k.args.map ρ++vs.toArray)) (fun w=>?_) q1
  simp [resolve,hk,hv,Deferred.ofValue,invoke]
 ·rename_i hk
  split at hr<;>try (cases hr;done)
  rename_i t x hty har
  split at hr<;>try (cases hr;done)
  rename_i v ro hl
  injection hr with hr;subst hr
  have hrun:∀ w,(do let d ← resolve ρ k ty;invoke d.target d.args:Sem Next).run P w=(do pure (.value (← Builtin.len_ #[t] ty #[ρ x])):Sem Next).run P w:=fun w=>by
   simp [resolve,hk,invoke,builtin,B4j hty,B4j har]
  exact R4 hrun (M6 (C6h hT h hl ho (hx x)))
 ·rename_i hk
  split at hr<;>try (cases hr;done)
  rename_i t x hty har
  split at hr<;>try (cases hr;done)
  rename_i v hl
  injection hr with hr;subst hr
  have hrun:∀ w,(do let d ← resolve ρ k ty;invoke d.target d.args:Sem Next).run P w=(do pure (.value (← Builtin.cap_ #[t] ty #[ρ x])):Sem Next).run P w:=fun w=>by
   simp [resolve,hk,invoke,builtin,B4j hty,B4j har]
  exact R4 hrun (M6 (C8G hT h hl (hx x)))
 ·rename_i hk
  split at hr<;>try (cases hr;done)
  rename_i t xt x y hty har
  have hrun:∀ w,(do let d ← resolve ρ k ty;invoke d.target d.args:Sem Next).run P w=(do pure (.value (← Builtin.append_ #[t,xt] ty #[ρ x,ρ y])):Sem Next).run P w:=fun w=>by
   simp [resolve,hk,invoke,builtin,A2N hty,A2N har]
  split at hr
  ·rename_i hap
   obtain ⟨o2,h2,h3,h4,h5⟩:=A0X hr
   exact R4 hrun (E8 (B5X h hT hap h2 (by rw [← h3];exact ho) (fun id A3=>hu id (h4 id A3).1 (h4 id A3).2) (hx x) (hx y)) (fun _ _=>h5))
  ·split at hr<;>try (cases hr;done)
   rename_i hq
   obtain ⟨o2,h2,h3,h4,h5⟩:=A0X hr
   exact R4 hrun (E8 (B80 hT h h2 hq (fun id A3=>hu id (h4 id A3).1 (h4 id A3).2) (hx x) (hx y)) (fun _ _=>h5))
 ·rename_i hk
  split at hr<;>try (cases hr;done)
  rename_i x y har
  split at hr<;>try (cases hr;done)
  rename_i v hl
  injection hr with hr;subst hr
  have hrun:∀ w,(do let d ← resolve ρ k ty;invoke d.target d.args:Sem Next).run P w=(do pure (.value (← Builtin.min_ k.argTypes ty #[ρ x,ρ y])):Sem Next).run P w:=fun w=>by
   simp [resolve,hk,invoke,builtin,A2N har]
  exact R4 hrun (M6 (D2H h hl (hx x) (hx y)))
 ·rename_i hk
  split at hr<;>try (cases hr;done)
  rename_i x y har
  split at hr<;>try (cases hr;done)
  rename_i v hl
  injection hr with hr;subst hr
  have hrun:∀ w,(do let d ← resolve ρ k ty;invoke d.target d.args:Sem Next).run P w=(do pure (.value (← Builtin.max_ k.argTypes ty #[ρ x,ρ y])):Sem Next).run P w:=fun w=>by
   simp [resolve,hk,invoke,builtin,A2N har]
  exact R4 hrun (M6 (D2I h hl (hx x) (hx y)))
 ·rename_i hk
  split at hr<;>try (cases hr;done)
  rename_i t t2 x y hty har
  split at hr<;>try (cases hr;done)
  rename_i wo ro hl
  injection hr with hr;subst hr
  have hrun:∀ w,(do let d ← resolve ρ k ty;invoke d.target d.args:Sem Next).run P w=(do pure (.value (← Builtin.delete_ #[t,t2] ty #[ρ x,ρ y])):Sem Next).run P w:=fun w=>by
   simp [resolve,hk,invoke,builtin,A2N hty,A2N har]
  exact R4 hrun (A2n (C0s hT h hl ho (hx x) (hx y)))
 ·rename_i hk
  split at hr<;>try (cases hr;done)
  rename_i t xt x y hty har
  split at hr<;>try (cases hr;done)
  rename_i v wo ro hl
  injection hr with hr;subst hr
  have hrun:∀ w,(do let d ← resolve ρ k ty;invoke d.target d.args:Sem Next).run P w=(do pure (.value (← Builtin.copy_ #[t,xt] ty #[ρ x,ρ y])):Sem Next).run P w:=fun w=>by
   simp [resolve,hk,invoke,builtin,A2N hty,A2N har]
  exact R4 hrun (A2n (C39 hT h hl ho (hx x) (hx y)))
 ·cases hr
def A4Z (ev:Operand→A) (parts:List (Nat×Operand)):List (Nat×A):=parts.map fun p=>(p.1,ev p.2)
theorem A9o {ev:Operand→A} {ρ:Operand→Value} (hx:∀ x,C2 T e (ev x) (ρ x)):∀ (l:List (Nat×Operand)),A8w T e (A4Z ev l) (l.map fun p=>(p.1,ρ p.2)):=by
 intro l
 induction l with
 | nil=>exact .nil
 | cons p r ih=>exact .cons (hx _) ih
theorem B0D {ev:Operand→A} {ρ:Operand→Value} (hx:∀ x,C2 T e (ev x) (ρ x)) (o:Option Operand):A0W T e (o.map ev) (o.map ρ):=by
 cases o with
 | none=>exact .none
 | some x=>exact .some (hx x)
def B6F (T:TT) (ty nx:Nat) (u:A):H9 :=
 match u with
 | .z v=>match C5 T ty with
  | some (.slice el)=>if A8u v&&Nat.blt 0 (B8 T el) then ⟨.o nx 1,[(nx,.row el 1 [] true false)],[],nx+1⟩ else .pv nx u []
  | _=>.pv nx u []
 | _=>.pv nx u []
def A2o (T:TT) (nx t:Nat) (u v:A):Option H9 :=
 match C5 T t,u,v with
 | some (.slice el),.i _ a,.i _ b=>match T el with
  | some te=>if Nat.blt 0 te.size&&TK.notOther te.k&&Nat.ble te.bytes 131072&&F2 0 a&&F2 a b&&F2 b LIM then some ⟨.o nx 1,[(nx,.row el 1 (List.replicate a.toNat te.zero) false false)],[],nx+1⟩ else none
  | none=>none
 | _,_,_=>none
def B2s (T:TT) (nx t:Nat) (r:Option A):Option H9 :=
 match C5 T t with
 | some (.map kt et)=>match r with
  | none=>some ⟨.m nx,[(nx,A6f T kt et)],[],nx+1⟩
  | some (.i _ _)=>some ⟨.m nx,[(nx,A6f T kt et)],[],nx+1⟩
  | _=>none
 | _=>none
def B8a (T:TT) (of:Nat→Option Ob) (nx t:Nat) (m k v:A):Option H9 :=
 match C6g T of t m k v with
 | some (wo,ro)=>some ⟨.x,wo,ro,nx⟩
 | none=>none
def pvO (nx:Nat) (o:Option A):Option H9 :=
 match o with
 | some v=>some (.pv nx v [])
 | none=>none
def pvR (nx:Nat) (o:Option (A×List Nat)):Option H9 :=
 match o with
 | some (v,ro)=>some (.pv nx v ro)
 | none=>none
def pvW (nx:Nat) (o:Option (A×List (Nat×Ob)×List Nat)):Option H9 :=
 match o with
 | some (v,wo,ro)=>some ⟨v,wo,ro,nx⟩
 | none=>none
def W6 (T:TT) (K:KS) (ev:Operand→A) (of:Nat→Option Ob) (nx:Nat) (o:Oper):Option H9 :=
 match o.op with
 | .move x=>some (.pv nx (ev x) [])
 | .assign x=>some (B6F T o.type nx (ev x))
 | .pick q a b=>match ev q with
  | .b t=>some (.pv nx (bif t then ev a else ev b) [])
  | _=>none
 | .alloc el=>match T el with
  | some te=>if TK.notOther te.k then some ⟨.p nx el [],[(nx,.box el (.v el te.zero) false)],[],nx+1⟩ else none
  | none=>none
 | .box el x=>match V0 T el (ev x) with
  | some a=>some ⟨.p nx el [],[(nx,.box el a false)],[],nx+1⟩
  | none=>none
 | .build t parts=>match B52 T t (A4Z ev parts.toList) with
  | some v=>some (.pv nx v [])
  | none=>none
 | .buildSlice t len parts=>A4Y nx (A3c T of nx t len (A4Z ev parts.toList))
 | .load t a=>pvR nx (C4n T of t (ev a))
 | .store t a x=>match B5o T of t (ev a) (ev x) with
  | some (wo,ro)=>some ⟨.x,wo,ro,nx⟩
  | none=>none
 | .sliceToArrayPointer t x=>pvW nx (B5s T of t (ev x))
 | .nilCheck x=>match D2L of (ev x) with
  | some ro=>some (.pv nx (ev x) ro)
  | none=>none
 | .binOp op t x y _=>pvR nx (B5m T of op t (ev x) (ev y))
 | .unOp op _ x=>pvO nx (unA op (ev x))
 | .convert s t x=>A4Y nx (A72 T of nx s t (ev x))
 | .makeFunc fn first captured=>match fn with
  | .func f=>if Nat.beq first.toList.length 0&&(captured.toList.map ev).all (A0s T) then some (.pv nx (.f f (captured.toList.map ev)) []) else none
  | _=>none
 | .makeSlice t l k=>A2o T nx t (ev l) (ev k)
 | .makeMap t r=>B2s T nx t (r.map ev)
 | .lookup t m k ok=>A4Y nx (B2r T (D0h o.pos) nx of t (ev m) (ev k) ok)
 | .mapUpdate t m k v=>B8a T of nx t (ev m) (ev k) (ev v)
 | .insert t m k v=>B8a T of nx t (ev m) (ev k) (ev v)
 | .slice t x lo hi mx=>pvW nx (A5o T of t (ev x) (lo.map ev) (hi.map ev) (mx.map ev))
 | .fieldAddr s x f=>pvR nx (A3X T of s f (ev x))
 | .field s x f=>pvO nx (B5p T s f (ev x))
 | .indexAddr t x ix=>match ev ix with
  | .i _ i=>pvR nx (A1j T of t i (ev x))
  | _=>none
 | .index t x ix=>match ev ix with
  | .i _ i=>pvO nx (A71 T t i (ev x))
  | _=>none
 | .extract x i=>pvO nx (D2K i (ev x))
 | .call k=>A1S T K ev of nx k
 | .range t x=>A4Y nx (B5j T of nx t (ev x))
 | .next x str=>if str then none else pvR nx (C4h of (ev x))
 | _=>none
theorem A38 {nx:Nat} {o:Option A} {f:H9} (h:pvO nx o=some f):∃ v,o=some v∧f=.pv nx v []:=by
 unfold pvO at h
 split at h
 ·injection h with h;exact ⟨_,rfl,h.symm⟩
 ·cases h
theorem A2S {nx:Nat} {o:Option (A×List Nat)} {f:H9} (h:pvR nx o=some f):∃ v ro,o=some (v,ro)∧f=.pv nx v ro:=by
 unfold pvR at h
 split at h
 ·injection h with h;exact ⟨_,_,rfl,h.symm⟩
 ·cases h
theorem B2t {nx:Nat} {o:Option (A×List (Nat×Ob)×List Nat)} {f:H9} (h:pvW nx o=some f):∃ v wo ro,o=some (v,wo,ro)∧f=⟨v,wo,ro,nx⟩:=by
 unfold pvW at h
 split at h
 ·injection h with h;exact ⟨_,_,_,rfl,h.symm⟩
 ·cases h
theorem A1T {s:Sem Next} {w:World} {nx id:Nat} {v:A} {wo:List (Nat×Ob)} {ro:List Nat} (hd:D8 P s w (E6 T c e of ⟨v,wo,ro,[nx]⟩)):D8 P s w (V2 T c e of nx ⟨v,wo,ro,nx+1⟩) :=
 E8 hd (fun _ _ ⟨e',p1,p2,p3,p4,p5⟩=>⟨e',p1,p2,p3,fun id A3=>(p4 id A3).imp (fun q=>q) (fun q=>by simp only [List.mem_singleton] at q;subst q;exact ⟨Nat.le_refl _,Nat.lt_succ_self _⟩),p5⟩)
theorem B8b (hT:L8 T P) {K:KS} (hK:X9 P T K) {of':Nat→Option Ob} {nx:Nat} {o:Oper} {ev:Operand→A} {ρ:Operand→Value} {out:H9} (h:A5 T c e of') (hr:W6 T K ev of nx o=some out) (ho:∀ id∈out.ro,of' id=of id) (hu:∀ id,nx≤id→id < out.nx→¬ e.U id)
  (hc:∀ v,ρ (.const v)=v) (hx:∀ x,C2 T e (ev x) (ρ x)):D8 P (execOp ρ o) e.w (V2 T c e of' nx out):=by
 have pure':∀ {v:A} {x:Value} {s:Sem Next},s=pure (.value x)→C2 T e v x→D8 P s e.w (V2 T c e of' nx (.pv nx v [])):=fun {v x s} hs hv=>by
  subst hs
  exact M6 (.inl ⟨x,e.w,by simp,A6 h hv⟩)
 obtain ⟨dst,op,ty,pos,after,guard⟩:=o
 cases op<;>simp only [W6] at hr<;>try (cases hr;done)
 case move x =>
  injection hr with hr;subst hr
  exact pure' rfl (hx x)
 case assign x =>
  injection hr with hr
  unfold B6F at hr
  split at hr
  ·rename_i v hv
   split at hr
   ·rename_i el hk
    split at hr
    ·rename_i hcc
     simp only [D5V] at hcc
     subst hr
     have hxx:=hx x
     rw [hv] at hxx
     have hxv:ρ x=.slice none 0 0:=by
      have hxx:RA T e [.z v] [ρ x]:=hxx
      generalize ρ x=r at hxx
      cases hxx with
      | z _ _=>exact A2E hcc.1
      | r g1 _ _=>exact g1.elim
     refine A1T (id:=nx) (.inl ⟨.slice none 0 0,e.w,by simp [execOp,hxv],B3L (nl:=true) h (hu nx (Nat.le_refl _) (Nat.lt_succ_self _)) rfl (by simpa [Nat.blt_eq] using hcc.2)⟩)
    ·subst hr;exact pure' rfl (hv ▸ hx x)
   ·subst hr;exact pure' rfl (hv ▸ hx x)
  ·subst hr;exact pure' rfl (hx x)
 case pick q a b =>
  split at hr<;>try (cases hr;done)
  rename_i t hq
  injection hr with hr;subst hr
  have hq':=hx q
  rw [hq] at hq'
  have e1:=A0n hq'
  refine M6 (.inl ⟨if t then ρ a else ρ b,e.w,by simp [execOp,e1,asBool],A6 h ?_⟩)
  cases t
  ·exact hx b
  ·exact hx a
 case alloc el =>
  split at hr<;>try (cases hr;done)
  rename_i te hte
  split at hr<;>try (cases hr;done)
  rename_i hne
  injection hr with hr;subst hr
  exact A1T (id:=nx) (B8u h hT hte hne (hu nx (Nat.le_refl _) (Nat.lt_succ_self _)))
 case box el x =>
  split at hr<;>try (cases hr;done)
  rename_i a ha
  injection hr with hr;subst hr
  exact A1T (id:=nx) (C7E h (hu nx (Nat.le_refl _) (Nat.lt_succ_self _)) (hx x) ha)
 case build t parts =>
  split at hr<;>try (cases hr;done)
  rename_i v h2
  injection hr with hr;subst hr
  have:=B9L (ro:=[]) hT h (A9o hx parts.toList) h2
  rw [← Array.toList_map,Array.toArray_toList] at this
  exact M6 this
 case buildSlice t len parts =>
  obtain ⟨o2,h2,h3,h4,h5⟩:=A0X hr
  have:=A8z h hT h2 (by rw [← h3];exact ho) (fun id A3=>hu id (h4 id A3).1 (h4 id A3).2) (A9o hx parts.toList)
  rw [← Array.toList_map,Array.toArray_toList] at this
  exact E8 this (fun _ _=>h5)
 case load t a =>
  obtain ⟨v,ro,h2,rfl⟩:=A2S hr
  exact M6 (C4o hT h h2 ho (hx a))
 case store t a x =>
  split at hr<;>try (cases hr;done)
  rename_i wo ro h2
  injection hr with hr;subst hr
  exact A2n (B85 hT h h2 ho (hx a) (hx x))
 case sliceToArrayPointer t x =>
  obtain ⟨v,wo,ro,h2,rfl⟩:=B2t hr
  exact A2n (C8J hT h h2 ho (hx x))
 case nilCheck x =>
  split at hr<;>try (cases hr;done)
  rename_i ro h2
  injection hr with hr;subst hr
  exact M6 (C8I rfl h h2 ho (hx x))
 case binOp op t x y t2 =>
  obtain ⟨v,ro,h2,rfl⟩:=A2S hr
  exact M6 (B84 hT h (hx x) (hx y) h2 ho)
 case unOp op t x =>
  obtain ⟨v,h2,rfl⟩:=A38 hr
  exact M6 (D2J h h2 (hx x))
 case convert s t x =>
  obtain ⟨o2,h2,h3,h4,h5⟩:=A0X hr
  exact E8 (C4r hT h h2 (by rw [← h3];exact ho) (fun id A3=>hu id (h4 id A3).1 (h4 id A3).2) (hx x)) (fun _ _=>h5)
 case makeFunc fn first captured =>
  split at hr<;>try (cases hr;done)
  rename_i f
  split at hr<;>try (cases hr;done)
  rename_i hcc
  simp only [D5V] at hcc
  injection hr with hr;subst hr
  have h0:first=#[]:=by
   have:=D5U hcc.1
   rw [D51] at this
   exact Array.eq_empty_of_size_eq_zero this
  refine M6 (.inl ⟨.func (.func f) #[] (captured.map ρ),e.w,by simp [execOp,Instr.makeFunc,h0],A6 h ?_⟩)
  have:=RA.f (fn:=f) (C6n (A6V hx captured.toList) hcc.2) .nil
  have e1:captured.map ρ=(captured.toList.map ρ).toArray:=Array.ext' (by rw [Array.toList_map])
  rw [e1]
  exact this
 case makeSlice t l k =>
  unfold A2o at hr
  split at hr<;>try (cases hr;done)
  rename_i el k1 a k2 b hk hl hkk
  split at hr<;>try (cases hr;done)
  rename_i te hte
  split at hr<;>try (cases hr;done)
  rename_i hcc
  simp only [D5V,D3] at hcc
  obtain ⟨⟨⟨⟨⟨c1,c2⟩,c3⟩,c4⟩,c5⟩,c6⟩:=hcc
  injection hr with hr;subst hr
  obtain ⟨te',h1,h2⟩:=A9 hk
  have hl':=hx l
  have hk':=hx k
  rw [hl] at hl'
  rw [hkk] at hk'
  have e1:=D6 hl'
  have e2:=D6 hk'
  refine ?_
  show D8 P (do pure (.value (← Instr.makeSlice t (ρ l) (ρ k)))) _ _
  rw [e1,e2]
  have hb:=D50 c3
  have hbb:b * te.bytes≤140737488355328:=by
   have h1:(b:Int)≤1073741824:=c6
   have h2:(te.bytes:Int)≤131072:=by omega
   calc b * te.bytes≤1073741824 * te.bytes:=Int.mul_le_mul_of_nonneg_right h1 (by omega)
    _≤1073741824 * 131072:=Int.mul_le_mul_of_nonneg_left h2 (by omega)
    _≤140737488355328:=by omega
  have h63:b≤4611686018427387904:=by have h1:(b:Int)≤1073741824:=c6;omega
  exact A1T (id:=nx) (C5m (ro:=[]) h hT (G2 (hT _ _ h1) h2) hte (W0 c2) (hu nx (Nat.le_refl _) (Nat.lt_succ_self _)) (by simpa [Nat.blt_eq] using c1) c4 c5 hbb h63)
 case makeMap t r =>
  unfold B2s at hr
  split at hr<;>try (cases hr;done)
  rename_i kt et hk
  obtain ⟨te',h1,h2⟩:=A9 hk
  split at hr<;>try (cases hr;done)
  ·rename_i hrn
   have hr0:r=none:=by cases r<;>first | rfl | (simp at hrn;done)
   subst hr0
   injection hr with hr;subst hr
   exact A1T (id:=nx) (A5Q h (M7 (hT _ _ h1) h2) (hu nx (Nat.le_refl _) (Nat.lt_succ_self _)) (.inl rfl))
  ·rename_i k n hrn
   obtain ⟨x,rfl,hxn⟩:∃ x,r=some x∧ev x=.i k n:=by cases r<;>simp at hrn;exact ⟨_,rfl,hrn⟩
   injection hr with hr;subst hr
   have hx':=hx x
   rw [hxn] at hx'
   exact A1T (id:=nx) (A5Q h (M7 (hT _ _ h1) h2) (hu nx (Nat.le_refl _) (Nat.lt_succ_self _)) (.inr ⟨k,n,by rw [← D6 hx'];rfl⟩))
 case lookup t m k ok =>
  obtain ⟨o2,h2,h3,h4,h5⟩:=A0X hr
  exact E8 (C0q hT h h2 (by rw [← h3];exact ho) (fun id A3=>hu id (h4 id A3).1 (h4 id A3).2) (hx m) (hx k)) (fun _ _=>h5)
 case mapUpdate t m k v =>
  unfold B8a at hr
  split at hr<;>try (cases hr;done)
  rename_i wo ro h2
  injection hr with hr;subst hr
  exact A2n (B6D hT h h2 ho (hx m) (hx k) (hx v))
 case insert t m k v =>
  unfold B8a at hr
  split at hr<;>try (cases hr;done)
  rename_i wo ro h2
  injection hr with hr;subst hr
  exact A2n (B6D hT h h2 ho (hx m) (hx k) (hx v))
 case slice t x lo hi mx =>
  obtain ⟨v,wo,ro,h2,rfl⟩:=B2t hr
  exact A2n (B9c hT h h2 ho (hx x) (B0D hx lo) (B0D hx hi) (B0D hx mx))
 case fieldAddr s x f =>
  obtain ⟨v,ro,h2,rfl⟩:=A2S hr
  exact M6 (A82 hT h h2 ho (hx x))
 case field s x f =>
  obtain ⟨v,h2,rfl⟩:=A38 hr
  exact M6 (B86 hT h h2 (hx x))
 case indexAddr t x ix =>
  split at hr<;>try (cases hr;done)
  rename_i kk i hi
  obtain ⟨v,ro,h2,rfl⟩:=A2S hr
  have hi':=hx ix
  rw [hi] at hi'
  have e1:=D6 hi'
  refine ?_
  show D8 P (do pure (.value (← Instr.indexAt t (ρ x) (ρ ix)))) _ _
  rw [e1]
  exact M6 (A83 hT h h2 ho (hx x))
 case index t x ix =>
  split at hr<;>try (cases hr;done)
  rename_i kk i hi
  obtain ⟨v,h2,rfl⟩:=A38 hr
  have hi':=hx ix
  rw [hi] at hi'
  have e1:=D6 hi'
  refine ?_
  show D8 P (do pure (.value (← Instr.index t (ρ x) (ρ ix)))) _ _
  rw [e1]
  exact M6 (B87 hT h h2 (hx x))
 case extract x i =>
  obtain ⟨v,h2,rfl⟩:=A38 hr
  exact M6 (C8H h h2 (hx x))
 case call k=>exact C0u hT hK h hr ho hu hx ty
 case range t x =>
  obtain ⟨o2,h2,h3,h4,h5⟩:=A0X hr
  exact E8 (B81 hT h h2 (by rw [← h3];exact ho) (fun id A3=>hu id (h4 id A3).1 (h4 id A3).2) (hx x)) (fun _ _=>h5)
 case next x str =>
  split at hr<;>try (cases hr;done)
  rename_i hstr
  have hs:str=false:=by simpa using hstr
  subst hs
  obtain ⟨v,ro,h2,rfl⟩:=A2S hr
  exact M6 (C4i h h2 ho (hx x))
variable {P:Program} {T:TT} {c:J8} {e eb:B4} {of:Nat→Option Ob}
inductive Tr where
 | e
 | n (v:Option Ob) (l r:Tr)
def Tr.get:Tr→Nat→Option Ob
 | .e,_=>none
 | .n v l r,k=>match k with
  | 0=>v
  | k+1=>match Nat.mod k 2 with
   | 0=>l.get (Nat.div k 2)
   | _=>r.get (Nat.div k 2)
def Tr.setF:Nat→Tr→Nat→Ob→Tr
 | 0,t,_,_=>t
 | f+1,.e,k,o=>match k with
  | 0=>.n (some o) .e .e
  | k+1=>match Nat.mod k 2 with
   | 0=>.n none (setF f .e (Nat.div k 2) o) .e
   | _=>.n none .e (setF f .e (Nat.div k 2) o)
 | f+1,.n v l r,k,o=>match k with
  | 0=>.n (some o) l r
  | k+1=>match Nat.mod k 2 with
   | 0=>.n v (setF f l (Nat.div k 2) o) r
   | _=>.n v l (setF f r (Nat.div k 2) o)
def Tr.set (t:Tr) (k:Nat) (o:Ob):Tr:=setF (k+1) t k o
theorem Tr.get_e (k:Nat):Tr.get .e k=none:=by cases k<;>rfl
theorem Tr.get_s (v:Option Ob) (l r:Tr) (k:Nat):Tr.get (.n v l r) (k+1)=if k % 2=0 then l.get (k / 2) else r.get (k / 2):=by
 show (match Nat.mod k 2 with | 0=>l.get (Nat.div k 2) | _=>r.get (Nat.div k 2))=_
 have e1:Nat.mod k 2=k % 2:=rfl
 have e2:Nat.div k 2=k / 2:=rfl
 rw [e1,e2]
 rcases Nat.mod_two_eq_zero_or_one k with h | h<;>rw [h]<;>rfl
theorem Tr.get_setF:∀ (f:Nat) (t:Tr) (k:Nat) (o:Ob) (j:Nat),k < f→(setF f t k o).get j=if j=k then some o else t.get j:=by
 intro f
 induction f with
 | zero=>intro t k o j h;omega
 | succ f ih =>
  intro t k o j h
  have hdiv:∀ m:Nat,m+1 < f+1→m / 2 < f:=fun m hm=>by omega
  have key:∀ (m:Nat) (hm:k=m+1) (v:Option Ob) (l r:Tr),(match Nat.mod m 2 with | 0=>Tr.n v (setF f l (Nat.div m 2) o) r | _=>Tr.n v l (setF f r (Nat.div m 2) o)).get j=if j=k then some o else (Tr.n v l r).get j:=by
   intro m hm v l r
   subst hm
   have e1:Nat.mod m 2=m % 2:=rfl
   have e2:Nat.div m 2=m / 2:=rfl
   rw [e1,e2]
   cases j with
   | zero =>
    rw [if_neg (by omega)]
    rcases Nat.mod_two_eq_zero_or_one m with h' | h'<;>rw [h']<;>rfl
   | succ j =>
    rcases Nat.mod_two_eq_zero_or_one m with h' | h'<;>rw [h']
    ·show Tr.get (.n v (setF f l (m / 2) o) r) (j+1)=_
     rw [get_s,get_s,ih l (m / 2) o (j / 2) (hdiv m h)]
     by_cases hj:j % 2=0
     ·rw [if_pos hj,if_pos hj]
      by_cases hjm:j=m
      ·subst hjm;simp
      ·rw [if_neg (by omega),if_neg (by omega)]
     ·rw [if_neg hj,if_neg hj,if_neg (by omega)]
    ·show Tr.get (.n v l (setF f r (m / 2) o)) (j+1)=_
     rw [get_s,get_s,ih r (m / 2) o (j / 2) (hdiv m h)]
     by_cases hj:j % 2=0
     ·rw [if_pos hj,if_pos hj,if_neg (by omega)]
     ·rw [if_neg hj,if_neg hj]
      by_cases hjm:j=m
      ·subst hjm;simp
      ·rw [if_neg (by omega),if_neg (by omega)]
  cases t with
  | e =>
   cases k with
   | zero =>
    cases j with
    | zero=>rfl
    | succ j=>rw [if_neg (by omega)];show Tr.get (.n (some o) .e .e) (j+1)=_;rw [get_s];simp [get_e]
   | succ m =>
    have:=key m rfl none .e .e
    have e0:(Tr.n none .e .e).get j=Tr.get .e j:=by
     cases j with
     | zero=>rfl
     | succ j=>rw [get_s];simp [get_e]
    rw [e0] at this
    exact this
  | n v l r =>
   cases k with
   | zero =>
    cases j with
    | zero=>rfl
    | succ j=>rw [if_neg (by omega)];show Tr.get (.n (some o) l r) (j+1)=_;rw [get_s,get_s]
   | succ m=>exact key m rfl v l r
theorem Tr.get_set (t:Tr) (k:Nat) (o:Ob) (j:Nat):(t.set k o).get j=if j=k then some o else t.get j:=get_setF _ _ _ _ _ (Nat.lt_succ_self _)
def Tr.toL:Tr→(Nat→Nat)→List (Nat×Ob)
 | .e,_=>[]
 | .n v l r,f=>match v with
  | some o=>(f 0,o)::(l.toL (fun j=>f (2 * j+1))++r.toL (fun j=>f (2 * j+2)))
  | none=>l.toL (fun j=>f (2 * j+1))++r.toL (fun j=>f (2 * j+2))
def C1 (t:Tr) (base:Nat→Option Ob) (id:Nat):Option Ob :=
 match t.get id with
 | some o=>some o
 | none=>base id
theorem C6o:∀ (t:Tr) (f:Nat→Nat) (base:Nat→Option Ob),(∀ i j,f i=f j→i=j) →
  (∀ j,put base (t.toL f) (f j)=match t.get j with | some o=>some o | none=>base (f j))∧∀ id,(∀ j,f j≠id)→put base (t.toL f) id=base id:=by
 intro t
 induction t with
 | e=>intro f base _;exact ⟨fun j=>by rw [Tr.get_e];rfl,fun id _=>rfl⟩
 | n v l r ihl ihr =>
  intro f base hf
  have i1:∀ i j,f (2 * i+1)=f (2 * j+1)→i=j:=fun i j h=>by have:=hf _ _ h;omega
  have i2:∀ i j,f (2 * i+2)=f (2 * j+2)→i=j:=fun i j h=>by have:=hf _ _ h;omega
  have rest:∀ b:Nat→Option Ob,put b (l.toL (fun j=>f (2 * j+1))++r.toL (fun j=>f (2 * j+2))) (f 0)=b (f 0) ∧
    (∀ j,put b (l.toL (fun j=>f (2 * j+1))++r.toL (fun j=>f (2 * j+2))) (f (j+1))=match (if j % 2=0 then l.get (j / 2) else r.get (j / 2)) with | some o=>some o | none=>b (f (j+1))) ∧
    ∀ id,(∀ j,f j≠id)→put b (l.toL (fun j=>f (2 * j+1))++r.toL (fun j=>f (2 * j+2))) id=b id:=by
   intro b
   rw [H7]
   obtain ⟨l1,l2⟩:=ihl (fun j=>f (2 * j+1)) b i1
   obtain ⟨r1,r2⟩:=ihr (fun j=>f (2 * j+2)) (put b (l.toL (fun j=>f (2 * j+1)))) i2
   refine ⟨?_,fun j=>?_,fun id A3=>?_⟩
   ·rw [r2 (f 0) (fun j h=>by have:=hf _ _ h;omega),l2 (f 0) (fun j h=>by have:=hf _ _ h;omega)]
   ·by_cases hj:j % 2=0
    ·have e1:j+1=2 * (j / 2)+1:=by omega
     rw [r2 (f (j+1)) (fun k h=>by have:=hf _ _ h;omega),if_pos hj]
     have:=l1 (j / 2)
     simp only [← e1] at this
     exact this
    ·have e1:j+1=2 * (j / 2)+2:=by omega
     rw [if_neg hj]
     have:=r1 (j / 2)
     simp only [← e1] at this
     rw [this,l2 (f (j+1)) (fun k h=>by have:=hf _ _ h;omega)]
   ·rw [r2 id (fun j=>A3 _),l2 id (fun j=>A3 _)]
  cases v with
  | none =>
   obtain ⟨a1,a2,a3⟩:=rest base
   refine ⟨fun j=>?_,a3⟩
   cases j with
   | zero=>exact a1
   | succ j=>rw [Tr.get_s];exact a2 j
  | some o =>
   obtain ⟨a1,a2,a3⟩:=rest (F8 base (f 0) (some o))
   refine ⟨fun j=>?_,fun id A3=>?_⟩
   ·cases j with
    | zero=>exact a1.trans (upd_same _ _ _)
    | succ j =>
     rw [Tr.get_s]
     refine (a2 j).trans ?_
     rw [upd_ne _ _ (fun h=>by have:=hf _ _ h;omega)]
   ·exact (a3 id A3).trans (upd_ne _ _ (fun h=>A3 0 h.symm))
theorem A2p (t:Tr) (base:Nat→Option Ob):put base (t.toL fun j=>j)=C1 t base:=by
 funext id
 exact (C6o t (fun j=>j) base (fun _ _ h=>h)).1 id
def A1p (t:Tr):List (Nat×Ob)→Tr
 | []=>t
 | (id,o)::r=>A1p (t.set id o) r
theorem X1 (t:Tr) (base:Nat→Option Ob) (k:Nat) (o:Ob):C1 (t.set k o) base=F8 (C1 t base) k (some o):=by
 funext id
 simp only [C1,F8,Tr.get_set]
 by_cases h:id=k
 ·rw [if_pos h,if_pos h]
 ·rw [if_neg h,if_neg h]
theorem A0Y:∀ (l:List (Nat×Ob)) (t:Tr) (base:Nat→Option Ob),C1 (A1p t l) base=put (C1 t base) l:=by
 intro l
 induction l with
 | nil=>intro t base;rfl
 | cons p r ih=>intro t base;obtain ⟨k,o⟩:=p;simp only [A1p,put];rw [ih,X1]
variable {P:Program} {T:TT} {c:J8} {e eb:B4} {of of':Nat→Option Ob}
structure St where
 sl:List (Nat×A)
 ob:Tr
 rd:List Nat
 nx:Nat
 mks:Option (List Nat)
def C0v:List (Nat×A)→Nat→A
 | [],_=>.x
 | (k,v)::r,t=>bif Nat.beq k t then v else C0v r t
def F1 (l:List (Nat×A)) (t:Nat):A:=List.rec (motive:=fun _=>A) A.x (fun p _ ih=>Bool.rec (motive:=fun _=>A) ih p.2 (Nat.beq p.1 t)) l
theorem D3w:@F1=@C0v:=by
 funext l t
 induction l with
 | nil=>rfl
 | cons p r ih =>
  obtain ⟨k,v⟩:=p
  show Bool.rec (motive:=fun _=>A) (F1 r t) v (Nat.beq k t)=bif Nat.beq k t then v else C0v r t
  rw [ih]
  cases Nat.beq k t<;>rfl
theorem J3 (k:Nat) (v:A) (r:List (Nat×A)):F1 ((k,v)::r)=F8 (F1 r) k v:=by
 funext t
 show Bool.rec (motive:=fun _=>A) (F1 r t) v (Nat.beq k t)=F8 (F1 r) k v t
 simp only [F8]
 by_cases h:t=k
 ·subst h;rw [if_pos rfl,show Nat.beq t t=true from Nat.beq_refl t]
 ·rw [if_neg h]
  have:Nat.beq k t=false:=by
   rw [← Bool.not_eq_true];intro q;exact h (D5U q).symm
  rw [this]
def mem (t:Nat):List Nat→Bool
 | []=>false
 | k::r=>Nat.beq k t||mem t r
theorem mem_iff {t:Nat} {l:List Nat}:mem t l=true↔t∈l:=by
 induction l with
 | nil=>simp [mem]
 | cons k r ih =>
  simp only [mem,Bool.or_eq_true,ih,List.mem_cons]
  constructor
  ·rintro (h | h)
   ·exact .inl (D5U h).symm
   ·exact .inr h
  ·rintro (h | h)
   ·subst h;exact .inl (Nat.beq_refl t)
   ·exact .inr h
def A1D (ob:Tr):List Nat→List Nat→List Nat
 | [],rd=>rd
 | id::r,rd=>match ob.get id with
  | some _=>A1D ob r rd
  | none=>bif mem id rd then A1D ob r rd else A1D ob r (id::rd)
theorem T8 (ob:Tr):∀ (l rd:List Nat),∀ id∈rd,id∈A1D ob l rd:=by
 intro l
 induction l with
 | nil=>intro rd id h;exact h
 | cons k r ih =>
  intro rd id h
  simp only [A1D]
  cases ob.get k with
  | some o=>exact ih _ _ h
  | none =>
   cases mem k rd with
   | true=>exact ih _ _ h
   | false=>exact ih _ _ (List.mem_cons_of_mem _ h)
theorem C0w (ob:Tr):∀ (l rd:List Nat),∀ id∈l,(∃ o,ob.get id=some o)∨id∈A1D ob l rd:=by
 intro l
 induction l with
 | nil=>intro rd id h;cases h
 | cons k r ih =>
  intro rd id h
  rcases List.mem_cons.1 h with rfl | h
  ·cases hk:ob.get id with
   | some o=>exact .inl ⟨o,rfl⟩
   | none =>
    right
    simp only [A1D,hk]
    cases hm:mem id rd with
    | true=>exact T8 _ _ _ _ (mem_iff.1 hm)
    | false=>exact T8 _ _ _ _ (List.mem_cons_self ..)
  ·simp only [A1D]
   cases hk:ob.get k with
   | some o=>exact ih _ _ h
   | none =>
    cases mem k rd with
    | true=>exact ih _ _ h
    | false=>exact ih _ _ h
inductive A0c (e:B4):List Nat→List Deferred→Prop
 | nil:A0c e [] []
 | cons {id b l ds}:e.U id→e.bn id=0→e.ι id=some (b,0)→A0c e l ds→A0c e (id::l) ({ target:=.collected b,args:=#[] }::ds)
def A39 (e:B4) (rd:Option Nat):Option (List Nat)→List Deferred→Prop
 | none,ds=>ds=[]
 | some l,ds=>rd=none∧A0c e l ds
theorem A0c.mono {e e':B4} (he:e.le e') {l:List Nat} {ds:List Deferred} (h:A0c e l ds):A0c e' l ds:=by
 induction h with
 | nil=>exact .nil
 | cons h1 h2 h3 _ ih =>
  have h0:=he.box _ h1 h2
  exact .cons (he.use _ h1) h0 (by rw [(he.obj _ h1 (by omega)).1];exact h3) ih
theorem A39.mono {e e':B4} (he:e.le e') {rd:Option Nat} {l:Option (List Nat)} {ds:List Deferred} (h:A39 e rd l ds):A39 e' rd l ds:=by
 cases l with
 | none=>exact h
 | some l=>exact ⟨h.1,h.2.mono he⟩
structure Y8 (T:TT) (c:J8) (eb:B4) (sl:Nat→A) (of:Nat→Option Ob) (U:Nat→Prop) (nt:Nat) (mk:Option (List Nat)) (a:Act) (e:B4):Prop where
 os:A5 T c e of
 le:eb.le e
 U:∀ id,e.U id→U id
 sl:∀ t,C2 T e (sl t) (a.tmps.getD t undef)
 def_:A39 e c.rd mk a.defers
 nt:a.tmps.size=nt
def Sim (T:TT) (c:J8) (eb:B4) (of:Nat→Option Ob) (n0 nt:Nat) (σ:St) (a:Act) (w:World):Prop :=
 ∃ e,e.w=w∧Y8 T c eb (F1 σ.sl) (C1 σ.ob of) (fun id=>eb.U id∨(n0≤id∧id < σ.nx)) nt σ.mks a e
structure Z6 where
 dst:Option Nat
 val:A
 wo:List (Nat×Ob)
 rs:List Nat
 ro:List Nat
 lo:Nat
 hi:Nat
def Z6.mk1 (o:Oper) (rs:List Nat) (nx:Nat) (out:H9):Z6:=⟨o.dst,out.val,out.wo,rs,out.ro,nx,out.nx⟩
def Z6.skip (o:Oper) (rs:List Nat) (nx:Nat):Z6:=⟨o.dst,.t [],[],rs,[],nx,nx⟩
def A2J (T:TT) (K:KS) (ops:Array Oper) (sl:Nat→A) (of:Nat→Option Ob) (nx:Nat) (o:Oper):Option Z6 :=
 match o.guard with
 | none=>match W6 T K (evO sl) of nx o with
  | some out=>if Nat.ble nx out.nx then some (.mk1 o (o.looksAt ops) nx out) else none
  | none=>none
 | some (g,want)=>match (ops[g]?).bind (·.dst) with
  | some d=>match sl d with
   | .t _=>some (.skip o (o.looksAt ops) nx)
   | .b q=>if q=want then (match W6 T K (evO sl) of nx o with
     | some out=>if Nat.ble nx out.nx then some (.mk1 o (o.looksAt ops) nx out) else none
     | none=>none) else some (.skip o (o.looksAt ops) nx)
   | _=>none
  | none=>none
theorem B0E {K:KS} {of:Nat→Option Ob} {nx:Nat} {o:Oper} {ev ev':Operand→A} (h:∀ x∈o.op.operands,ev x=ev' x):W6 T K ev of nx o=W6 T K ev' of nx o:=by
 obtain ⟨dst,op,ty,pos,after,guard⟩:=o
 have hp:∀ (ps:Array (Nat×Operand)),(∀ x∈(ps.toList.map (·.2)).toArray,ev x=ev' x)→A4Z ev ps.toList=A4Z ev' ps.toList:=fun ps hps=>by
  unfold A4Z
  apply List.map_congr_left
  intro p hpm
  rw [hps p.2 (by simpa using ⟨p.1,by simpa using hpm⟩)]
 cases op<;>simp only [W6]<;>simp only [Op.operands] at h
 case move x=>rw [h x (by simp)]
 case assign x=>rw [h x (by simp)]
 case pick q a b=>rw [h q (by simp),h a (by simp),h b (by simp)]
 case box el x=>rw [h x (by simp)]
 case build t parts=>rw [hp parts h]
 case buildSlice t len parts=>rw [hp parts h]
 case load t a=>rw [h a (by simp)]
 case store t a x=>rw [h a (by simp),h x (by simp)]
 case sliceToArrayPointer t x=>rw [h x (by simp)]
 case nilCheck x=>rw [h x (by simp)]
 case binOp op t x y t2=>rw [h x (by simp),h y (by simp)]
 case unOp op t x=>rw [h x (by simp)]
 case convert s t x=>rw [h x (by simp)]
 case makeFunc fn first captured =>
  have:captured.toList.map ev=captured.toList.map ev':=List.map_congr_left (fun x hx=>h x (by simp;exact .inr (by simpa using hx)))
  rw [this]
 case makeSlice t l k=>rw [h l (by simp),h k (by simp)]
 case makeMap t r =>
  have e1:r.map ev=r.map ev':=by cases r with | none=>rfl | some y=>simp only [Option.map_some];rw [h y (by simp)]
  rw [e1]
 case lookup t m k ok=>rw [h m (by simp),h k (by simp)]
 case mapUpdate t m k v=>rw [h m (by simp),h k (by simp),h v (by simp)]
 case insert t m k v=>rw [h m (by simp),h k (by simp),h v (by simp)]
 case slice t x lo hi mx =>
  have e1:lo.map ev=lo.map ev':=by cases lo with | none=>rfl | some y=>simp only [Option.map_some];rw [h y (by simp)]
  have e2:hi.map ev=hi.map ev':=by cases hi with | none=>rfl | some y=>simp only [Option.map_some];rw [h y (by simp)]
  have e3:mx.map ev=mx.map ev':=by cases mx with | none=>rfl | some y=>simp only [Option.map_some];rw [h y (by simp)]
  rw [h x (by simp),e1,e2,e3]
 case fieldAddr s x f=>rw [h x (by simp)]
 case field s x f=>rw [h x (by simp)]
 case indexAddr t x ix=>rw [h x (by simp),h ix (by simp)]
 case index t x ix=>rw [h x (by simp),h ix (by simp)]
 case extract x i=>rw [h x (by simp)]
 case range t x=>rw [h x (by simp)]
 case next x str=>rw [h x (by simp)]
 case call k =>
  have e1:∀ x∈k.args,ev x=ev' x:=fun x hx=>h x (by unfold Call.operands;simp [hx])
  have e2:k.args.toList.map ev=k.args.toList.map ev':=List.map_congr_left (fun x hx=>e1 x (by simpa using hx))
  unfold A1S
  split
  ·rename_i f hk
   rw [h f (by unfold Call.operands;simp [hk]),e2]
  ·split
   ·rename_i hx;rw [e1 _ (by have:=B4j hx;rw [this];simp)]
   ·rfl
  ·split
   ·rename_i hx;rw [e1 _ (by have:=B4j hx;rw [this];simp)]
   ·rfl
  ·split
   ·rename_i hx;rw [e1 _ (by have:=A2N hx;rw [this];simp),e1 _ (by have:=A2N hx;rw [this];simp)]
   ·rfl
  ·split
   ·rename_i hx;rw [e1 _ (by have:=A2N hx;rw [this];simp),e1 _ (by have:=A2N hx;rw [this];simp)]
   ·rfl
  ·split
   ·rename_i hx;rw [e1 _ (by have:=A2N hx;rw [this];simp),e1 _ (by have:=A2N hx;rw [this];simp)]
   ·rfl
  ·split
   ·rename_i hx;rw [e1 _ (by have:=A2N hx;rw [this];simp),e1 _ (by have:=A2N hx;rw [this];simp)]
   ·rfl
  ·split
   ·rename_i hx;rw [e1 _ (by have:=A2N hx;rw [this];simp),e1 _ (by have:=A2N hx;rw [this];simp)]
   ·rfl
  ·rfl
abbrev WF (rd:Option Nat):Fence:={ Fence.wide with round:=rd }
theorem T4 {rd:Option Nat} {m:Nat} {cd:Code} {Q Q':Exit→Act→World→Prop} {a:Act} {w:World} (hq:∀ e a w,Q e a w→Q' e a w) (h:cd.wpIn (WF rd) m P Q a w):cd.wpIn (WF rd) m P Q' a w:=wpIn_mono h hq
theorem A6W {rd:Option Nat} {m:Nat} {f:FuncId} {args:Array Value} {w:World} {R:Ending→World→Prop} (h:Calls P f args w R):CallsIn (WF rd) m P f args w R:=(callsIn_wide (n:=m)).2 h
theorem B4k {rd:Option Nat} {m l:Nat} {f:FuncId} {tmps:Array Value} {asg body:Code} {w:World} {R:Ending→World→Prop} (h:RoundIn Fence.wide 0 P l f tmps asg body w R):RoundIn (WF rd) m P l f tmps asg body w R:=by
 refine ⟨trivial,fun c cs hr=>?_⟩
 exact h.2 c cs (by intro d hd;cases hd)
theorem B0F {rd:Option Nat} {m:Nat} {o:Oper} {a:Act} {w:World} {next:Act→World→Prop} {Q:Exit→Act→World→Prop} {R:Value→World→Prop} (hd:∀ c,o.op≠.defer c)
  (h:D8 P (execOp a.eval o) w R) (hn:∀ x w',R x w'→next (a.put o.dst x) w'):o.wpIn (WF rd) m P a w next Q:=by
 refine ⟨fun _ _=>trivial,?_⟩
 rw [Oper.semAt_eq _ _ _ hd]
 rcases h with ⟨x,w',h,hr⟩ | ⟨w',h,hr⟩ | ⟨f,args,w1,h,hc⟩ | ⟨l,f,tmps,asg,body,w1,h,hc⟩
 ·rw [h];exact hn _ _ hr
 ·rw [h];exact hn _ _ hr
 ·rw [h]
  refine ⟨fun q=>(by cases q),CallsIn.mono (A6W hc) fun en w' he=>?_⟩
  obtain ⟨x,rfl,hr⟩:=he
  exact hn _ _ hr
 ·rw [h]
  refine ⟨fun q=>(by cases q),(B4k hc).mono fun en w' he=>?_⟩
  obtain ⟨x,rfl,hr⟩:=he
  exact hn _ _ hr
theorem B0G {K:KS} {ev:Operand→A} {nx:Nat} {o:Oper} {E:H9} (h:W6 T K ev of nx o=some E):∀ c,o.op≠.defer c:=by
 intro c hc
 unfold W6 at h
 rw [hc] at h
 cases h
theorem B2u {rd:Option Nat} {m:Nat} (hT:L8 T P) {K:KS} (hK:X9 P T K) {ops:Array Oper} {Q:Exit→Act→World→Prop} {i:Nat} {o:Oper} (hi:ops[i]? = some o) {sl:Nat→A} {nx:Nat} {E:Z6} {a:Act} (h:A5 T c e of') (hr:A2J T K ops sl of nx o=some E)
  (ho:∀ id∈E.ro,of' id=of id) (hu:∀ id,E.lo≤id→id < E.hi→¬ e.U id) (hs:∀ t∈E.rs,C2 T e (sl t) (a.tmps.getD t undef)) {K':Act→World→Prop}
  (hK':∀ x w',V2 T c e of' E.lo ⟨E.val,E.wo,E.ro,E.hi⟩ x w'→K' (a.put E.dst x) w'):wpOpIn (WF rd) m P ops Q i K' a e.w:=by
 have go:(match W6 T K (evO sl) of nx o with
   | some out=>if Nat.ble nx out.nx then some (Z6.mk1 o (o.looksAt ops) nx out) else none
   | none=>none)=some E→Region.wanted o (yielded ops a.tmps)=true→wpOpIn (WF rd) m P ops Q i K' a e.w:=by
  intro hg hw
  split at hg<;>try (cases hg;done)
  rename_i out hst
  split at hg<;>try (cases hg;done)
  injection hg with hg;subst hg
  unfold wpOpIn
  simp only [hi,hw,if_true]
  have hmem:∀ t,.tmp t∈o.op.operands→t∈o.looksAt ops:=fun t ht=>by
   unfold Oper.looksAt
   refine List.mem_append_left _ (List.mem_filterMap.2 ⟨.tmp t,by simpa using ht,rfl⟩)
  rw [B0E (ev':=evO fun t=>if t∈o.looksAt ops then sl t else .x) (fun x hx=>by
   cases x with
   | tmp t=>simp only [evO];rw [if_pos (hmem t hx)]
   | _=>rfl)] at hst
  refine (B0F (B0G hst) (B8b hT hK h hst ho hu (fun _=>rfl) (fun x=>B4i (fun t ht=>?_))) (fun x w' hl=>hK' x w' hl))
  subst ht
  split
  ·rename_i hin;exact hs t hin
  ·trivial
 have skip:E=Z6.skip o (o.looksAt ops) nx→Region.wanted o (yielded ops a.tmps)=false→wpOpIn (WF rd) m P ops Q i K' a e.w:=by
  intro hE hw
  subst hE
  unfold wpOpIn
  simp only [hi,hw,Bool.false_eq_true,if_false]
  refine ⟨fun _ _=>trivial,?_⟩
  exact hK' undef e.w ⟨e,rfl,h,B4.le.refl e,fun _ hu=>.inl hu,⟨#[],rfl,rfl,fun i v x hv=>by simp at hv⟩⟩
 have hrs:E.rs=o.looksAt ops:=by
  unfold A2J at hr
  repeat' split at hr
  all_goals first | (cases hr;done) | (injection hr with hr;subst hr;rfl)
 rw [hrs] at hs
 unfold A2J at hr
 split at hr
 ·rename_i hg
  exact go hr (by simp [Region.wanted,hg])
 ·rename_i g want hg
  split at hr<;>try (cases hr;done)
  rename_i d hd
  have hdm:d∈o.looksAt ops:=by simp [Oper.looksAt,hg,hd]
  have hsd:=hs d hdm
  split at hr<;>try (cases hr;done)
  ·rename_i l hl
   injection hr with hr
   refine skip hr.symm ?_
   rw [hl] at hsd
   obtain ⟨xs,hxs,_⟩:=hsd
   have:yielded ops a.tmps g=none:=by
    unfold yielded
    rw [hd]
    simp only [Option.bind_some]
    cases hx:a.tmps[d]? with
    | none=>rfl
    | some v =>
     have:a.tmps.getD d undef=v:=by simp [hx]
     rw [this] at hxs;subst hxs;rfl
   simp [Region.wanted,hg,this]
  ·rename_i q hq
   rw [hq] at hsd
   have hv:=A0n hsd
   have hy:yielded ops a.tmps g=some q:=by
    unfold yielded
    rw [hd]
    simp only [Option.bind_some]
    cases hx:a.tmps[d]? with
    | none=>simp [hx,undef] at hv
    | some v =>
     have:a.tmps.getD d undef=v:=by simp [hx]
     rw [this] at hv;subst hv;rfl
   split at hr
   ·rename_i hqw
    exact go hr (by simp [Region.wanted,hg,hy,hqw])
   ·rename_i hqw
    injection hr with hr
    exact skip hr.symm (by simp [Region.wanted,hg,hy,hqw])
theorem A1U {K:KS} {ops:Array Oper} {sl:Nat→A} {nx:Nat} {o:Oper} {E:Z6} (hr:A2J T K ops sl of nx o=some E):E.lo=nx∧nx≤E.hi∧E.dst=o.dst∧E.rs=o.looksAt ops:=by
 unfold A2J at hr
 repeat' split at hr
 all_goals first | (cases hr;done) | (injection hr with hr;subst hr;exact ⟨rfl,Nat.le_refl _,rfl,rfl⟩) | (rename_i hb;injection hr with hr;subst hr;exact ⟨rfl,D50 hb,rfl,rfl⟩)
variable {P:Program} {T:TT} {c:J8} {e eb:B4} {of of':Nat→Option Ob}
section
variable {β:Type}
def wr (f:Nat→β):List (Nat×β)→Nat→β
 | []=>f
 | (k,v)::r=>wr (F8 f k v) r
def keys (l:List (Nat×β)):List Nat:=l.map (·.1)
theorem A2T:∀ (l:List (Nat×β)) (f:Nat→β) (t:Nat),t ∉ keys l→wr f l t=f t:=by
 intro l
 induction l with
 | nil=>intro f t _;rfl
 | cons p r ih =>
  intro f t h
  obtain ⟨k,v⟩:=p
  simp only [keys,List.map_cons,List.mem_cons,not_or] at h
  simp only [wr]
  rw [ih _ _ h.2,upd_ne _ _ h.1]
theorem A6X:∀ (l:List (Nat×β)) (f g:Nat→β) (t:Nat),(t ∉ keys l→f t=g t)→wr f l t=wr g l t:=by
 intro l
 induction l with
 | nil=>intro f g t h;exact h (by simp [keys])
 | cons p r ih =>
  intro f g t h
  obtain ⟨k,v⟩:=p
  simp only [wr]
  refine ih _ _ t (fun ht=>?_)
  by_cases hk:t=k
  ·subst hk;simp
  ·rw [upd_ne _ _ hk,upd_ne _ _ hk]
   exact h (by simp only [keys,List.map_cons,List.mem_cons,not_or];exact ⟨hk,ht⟩)
theorem C6p (f:Nat→β) (l m:List (Nat×β)) (h:∀ t,t∈keys l→t ∉ keys m):wr (wr f l) m=wr (wr f m) l:=by
 funext t
 by_cases ht:t∈keys l
 ·rw [A2T m _ _ (h t ht)]
  exact A6X l _ _ t (fun h'=>absurd ht h')
 ·rw [A2T l _ _ ht]
  exact A6X m _ _ t (fun _=>A2T l _ _ ht)
def S1 (D:Nat→Bool):Nat→List (List (Nat×β))→(Nat→β)→Nat→β
 | _,[],f=>f
 | k,l::r,f=>S1 D (k+1) r (if D k then wr f l else f)
theorem C0x (D:Nat→Bool) (m:List (Nat×β)):∀ (Ls:List (List (Nat×β))) (k:Nat) (f:Nat→β),(∀ q l,Ls[q]? = some l→D (k+q)=true→∀ t,t∈keys m→t ∉ keys l) →
  S1 D k Ls (wr f m)=wr (S1 D k Ls f) m:=by
 intro Ls
 induction Ls with
 | nil=>intro k f _;rfl
 | cons l r ih =>
  intro k f h
  simp only [S1]
  have hr:=fun f=>ih (k+1) f (fun q l' hq hD=>h (q+1) l' (by simpa using hq) (by rw [← hD];congr 1;omega))
  by_cases hD:D k=true
  ·rw [if_pos hD,if_pos hD,← hr,C6p _ _ _ (h 0 l rfl hD)]
  ·rw [if_neg hD,if_neg hD,hr]
theorem A0t {D D':Nat→Bool}:∀ (Ls:List (List (Nat×β))) (k:Nat) (f:Nat→β),(∀ q,q < Ls.length→D (k+q)=D' (k+q))→S1 D k Ls f=S1 D' k Ls f:=by
 intro Ls
 induction Ls with
 | nil=>intro k f _;rfl
 | cons l r ih =>
  intro k f h
  simp only [S1]
  rw [show D k=D' k from h 0 (by simp),ih (k+1) _ (fun q hq=>by have:=h (q+1) (by simpa using hq);rwa [show k+(q+1)=k+1+q by omega] at this)]
theorem A4a {D:Nat→Bool}:∀ (Ls:List (List (Nat×β))) (k p:Nat) (f:Nat→β) (l:List (Nat×β)),Ls[p]? = some l→D (k+p)=false→(∀ q l',p < q→Ls[q]? = some l'→D (k+q)=true→∀ t,t∈keys l→t ∉ keys l') →
  S1 (fun j=>j == k+p||D j) k Ls f=wr (S1 D k Ls f) l:=by
 intro Ls
 induction Ls with
 | nil=>intro k p f l h;simp at h
 | cons l0 r ih =>
  intro k p f l h hD hd
  cases p with
  | zero =>
   simp only [List.getElem?_cons_zero,D5X] at h
   subst h
   simp only [Nat.add_zero] at hD
   simp only [S1,Nat.add_zero,beq_self_eq_true,Bool.true_or,if_true,hD,Bool.false_eq_true,if_false]
   rw [A0t (D':=D) r (k+1) _ (fun q _=>by
    have:(k+1+q == k)=false:=by simp;omega
    simp [this])]
   exact C0x D l0 r (k+1) f (fun q l' hq hD'=>hd (q+1) l' (by omega) (by simpa using hq) (by rw [← hD'];congr 1;omega))
  | succ p =>
   have hk:(k == k+(p+1))=false:=by simp
   simp only [S1,hk,Bool.false_or]
   have:=ih (k+1) p (if D k then wr f l0 else f) l (by simpa using h) (by rw [← hD];congr 1;omega) (fun q l' hpq hq hD'=>hd (q+1) l' (by omega) (by simpa using hq) (by rw [← hD'];congr 1;omega))
   rw [← this]
   refine A0t r (k+1) _ (fun q _=>?_)
   rw [show k+1+p=k+(p+1) by omega]
theorem A6Y {D D':Nat→Bool} {t:Nat}:∀ (Ls:List (List (Nat×β))) (k:Nat) (f g:Nat→β),f t=g t→(∀ q l,Ls[q]? = some l→t∈keys l→D (k+q)=D' (k+q))→S1 D k Ls f t=S1 D' k Ls g t:=by
 intro Ls
 induction Ls with
 | nil=>intro k f g h _;exact h
 | cons l r ih =>
  intro k f g h hd
  simp only [S1]
  refine ih (k+1) _ _ ?_ (fun q l' hq ht=>by have:=hd (q+1) l' (by simpa using hq) ht;rwa [show k+(q+1)=k+1+q by omega] at this)
  by_cases ht:t∈keys l
  ·have:=hd 0 l rfl ht
   rw [Nat.add_zero] at this
   rw [this]
   by_cases hD:D' k=true
   ·rw [if_pos hD,if_pos hD];exact A6X l _ _ t (fun h'=>absurd ht h')
   ·rw [if_neg hD,if_neg hD];exact h
  ·have h1:(if D k=true then wr f l else f) t=f t:=by split;exact A2T l _ _ ht;rfl
   have h2:(if D' k=true then wr g l else g) t=g t:=by split;exact A2T l _ _ ht;rfl
   rw [h1,h2,h]
theorem A3P {D:Nat→Bool}:∀ (Ls:List (List (Nat×β))) (k:Nat) (f:Nat→β),(∀ j,k≤j→D j=false)→S1 D k Ls f=f:=by
 intro Ls
 induction Ls with
 | nil=>intro k f _;rfl
 | cons l r ih=>intro k f h;simp only [S1];rw [h k (Nat.le_refl _)];exact ih (k+1) f (fun j hj=>h j (by omega))
theorem A0M:∀ (Ls:List (List (Nat×β))) (k p:Nat) (f:Nat→β),S1 (fun j=>decide (j < k+p)) k Ls f=(Ls.take p).foldl wr f:=by
 intro Ls
 induction Ls with
 | nil=>intro k p f;simp [S1]
 | cons l r ih =>
  intro k p f
  cases p with
  | zero=>simp only [List.take_zero,List.foldl_nil,Nat.add_zero];exact A3P _ _ _ (fun j hj=>by simp;omega)
  | succ p =>
   simp only [S1,List.take_succ_cons,List.foldl_cons]
   rw [if_pos (by simp),← ih (k+1) p]
   refine A0t r (k+1) _ (fun q _=>?_)
   rw [show k+(p+1)=k+1+p by omega]
end
variable {P:Program} {T:TT} {c:J8} {e eb:B4} {of of':Nat→Option Ob}
def wS (E:Z6):List (Nat×A) :=
 match E.dst with
 | some d=>[(d,E.val)]
 | none=>[]
def wO (E:Z6):List (Nat×Option Ob):=E.wo.map fun p=>(p.1,some p.2)
def A2O {α:Type} (n:Nat) (k:Nat→α):α:=Nat.rec (k 0) (fun m _=>k (Nat.succ m)) n
theorem Q6 {α:Type} (n:Nat) (k:Nat→α):A2O n k=k n:=by cases n<;>rfl
def C6q {α:Type} (i:Int) (k:Int→α):α :=
 match i with
 | .ofNat n=>A2O n fun n=>k (.ofNat n)
 | .negSucc n=>A2O n fun n=>k (.negSucc n)
theorem B0H {α:Type} (i:Int) (k:Int→α):C6q i k=k i:=by
 cases i with
 | ofNat n=>exact Q6 n fun n=>k (.ofNat n)
 | negSucc n=>exact Q6 n fun n=>k (.negSucc n)
def B4l {α:Type} (a:A) (k:A→α):α :=
 match a with
 | .i kd n=>C6q n fun n=>k (.i kd n)
 | .b q=>match q with
  | true=>k (.b true)
  | false=>k (.b false)
 | a=>k a
theorem B6G {α:Type} (a:A) (k:A→α):B4l a k=k a:=by
 cases a with
 | i kd n=>exact B0H n fun n=>k (.i kd n)
 | b q=>cases q<;>rfl
 | _=>rfl
def D07 {α β:Type} (l:List β) (k:List β→α):α :=
 match l with
 | []=>k []
 | a::r=>k (a::r)
theorem B6H {α β:Type} (l:List β) (k:List β→α):D07 l k=k l:=by cases l<;>rfl
def St.app (σ:St) (E:Z6):St :=
 {sl:=match E.dst with | some d=>(d,E.val)::σ.sl | none=>σ.sl,ob:=A1p σ.ob E.wo,rd:=A1D σ.ob E.ro σ.rd,nx:=E.hi,mks:=σ.mks }
theorem C0y:∀ (l:List (Nat×Ob)) (f:Nat→Option Ob),put f l=wr f (l.map fun p=>(p.1,some p.2)):=by
 intro l
 induction l with
 | nil=>intro f;rfl
 | cons p r ih=>intro f;exact ih _
theorem B2v (σ:St) (E:Z6):F1 (σ.app E).sl=wr (F1 σ.sl) (wS E):=by
 unfold St.app wS
 cases E.dst with
 | none=>rfl
 | some d=>exact J3 _ _ _
theorem B2w (σ:St) (E:Z6) (of:Nat→Option Ob):C1 (σ.app E).ob of=wr (C1 σ.ob of) (wO E):=by
 show C1 (A1p σ.ob E.wo) of=_
 rw [A0Y,C0y];rfl
theorem Y8.step {sl:Nat→A} {U:Nat→Prop} {nt:Nat} {mk:Option (List Nat)} {a:Act} (h:Y8 T c eb sl of U nt mk a e) {E:Z6} {x:Value} {w':World} (hl:V2 T c e of E.lo ⟨E.val,E.wo,E.ro,E.hi⟩ x w') (hd:∀ d,E.dst=some d→d < nt) :
  ∃ e',e'.w=w'∧Y8 T c eb (wr sl (wS E)) (wr of (wO E)) (fun id=>U id∨(E.lo≤id∧id < E.hi)) nt mk (a.put E.dst x) e':=by
 obtain ⟨e',q1,q2,q3,q4,q5⟩:=hl
 refine ⟨e',q1,?_⟩
 have q2':A5 T c e' (wr of (wO E)):=by
  have q2:A5 T c e' (put of E.wo):=q2
  rw [C0y] at q2;exact q2
 refine ⟨q2',h.le.trans q3,fun id A3=>(q4 id A3).imp (h.U id) (fun q=>q),fun t=>?_,?_,?_⟩
 ·unfold wS
  cases hdst:E.dst with
  | none=>exact (h.sl t).mono q3
  | some d =>
   have hdl:d < a.tmps.size:=by rw [h.nt];exact hd d hdst
   show C2 T e' (F8 sl d E.val t) ((a.tmps.setIfInBounds d x).getD t undef)
   by_cases ht:t=d
   ·subst ht
    rw [upd_same]
    have:(a.tmps.setIfInBounds t x).getD t undef=x:=by simp [hdl]
    rw [this];exact q5
   ·rw [upd_ne _ _ ht]
    have:(a.tmps.setIfInBounds d x).getD t undef=a.tmps.getD t undef:=by simp [Array.getElem?_setIfInBounds_ne (Ne.symm ht)]
    rw [this];exact (h.sl t).mono q3
 ·cases E.dst<;>exact h.def_.mono q3
 ·cases E.dst with
  | none=>exact h.nt
  | some d=>show (a.tmps.setIfInBounds d x).size=nt;rw [Array.size_setIfInBounds];exact h.nt
def A4b (nt:Nat) (o:Oper):Bool :=
 match o.dst with
 | some d=>Nat.blt d nt
 | none=>true
def P8 (T:TT) (K:KS) (ops:Array Oper) (of:Nat→Option Ob):List Oper→St→Option (List Z6×St)
 | [],σ=>some ([],σ)
 | o::r,σ =>
  match A2J T K ops (F1 σ.sl) (C1 σ.ob of) σ.nx o with
  | some E=>B4l E.val fun v=>A2O E.hi fun h=>D07 (A1D σ.ob E.ro σ.rd) fun rd =>
   match P8 T K ops of r { sl:=match E.dst with | some d=>(d,v)::σ.sl | none=>σ.sl,ob:=A1p σ.ob E.wo,rd:=rd,nx:=h,mks:=σ.mks } with
   | some (Es,σ')=>some ({ E with val:=v,hi:=h }::Es,σ')
   | none=>none
  | none=>none
theorem A1u {K:KS} {ops:Array Oper} {of:Nat→Option Ob} {o:Oper} {r:List Oper} {σ:St}:P8 T K ops of (o::r) σ =
  match A2J T K ops (F1 σ.sl) (C1 σ.ob of) σ.nx o with
  | some E=>(match P8 T K ops of r (σ.app E) with
   | some (Es,σ')=>some (E::Es,σ')
   | none=>none)
  | none=>none:=by
 simp only [P8,B6G,Q6,B6H]
 rfl
structure A2U (of of':Nat→Option Ob) (eb:B4) (n0:Nat) (σ:St):Prop where
 rd:∀ id∈σ.rd,of' id=of id
 fr:∀ id,n0≤id→id < σ.nx→¬ eb.U id
def St.le (σ σ':St):Prop:=(∀ id∈σ.rd,id∈σ'.rd)∧σ.nx≤σ'.nx
theorem St.le.refl (σ:St):σ.le σ:=⟨fun _ h=>h,Nat.le_refl _⟩
theorem St.le.trans {a b c:St} (h:a.le b) (k:b.le c):a.le c:=⟨fun id A3=>k.1 id (h.1 id A3),Nat.le_trans h.2 k.2⟩
theorem A2U.mono {eb:B4} {n0:Nat} {σ σ':St} (h:A2U of of' eb n0 σ') (hle:σ.le σ'):A2U of of' eb n0 σ:=⟨fun id A3=>h.rd id (hle.1 id A3),fun id h1 h2=>h.fr id h1 (Nat.lt_of_lt_of_le h2 hle.2)⟩
theorem D08 {K:KS} {ops:Array Oper} {sl:Nat→A} {o:Oper} {E:Z6} {σ:St} (hr:A2J T K ops sl of σ.nx o=some E):σ.le (σ.app E):=⟨T8 _ _ _,(A1U hr).2.1⟩
theorem A1V {K:KS} {ops:Array Oper}:∀ (l:List Oper) (σ σ':St) (Es:List Z6),P8 T K ops of l σ=some (Es,σ')→σ.le σ':=by
 intro l
 induction l with
 | nil=>intro σ σ' Es h;simp only [P8,D5X,Prod.mk.injEq] at h;rw [h.2];exact St.le.refl _
 | cons o r ih =>
  intro σ σ' Es h
  rw [A1u] at h
  split at h<;>try (cases h;done)
  rename_i E hE
  split at h<;>try (cases h;done)
  rename_i Es' σ2 hrec
  simp only [D5X,Prod.mk.injEq] at h
  obtain ⟨-,rfl⟩:=h
  exact (D08 hE).trans (ih _ _ _ hrec)
theorem A0d {ob:Tr} {rd ro:List Nat} {l:List Nat} (h:∀ id∈rd,of' id=of id) (hm:∀ id∈A1D ob ro l,id∈rd):∀ id∈ro,C1 ob of' id=C1 ob of id:=by
 intro id A3
 unfold C1
 rcases C0w ob ro l id A3 with ⟨o,ho⟩ | h'
 ·rw [ho]
 ·cases ob.get id with
  | some o=>rfl
  | none=>exact h id (hm id h')
theorem C0z {rd:Option Nat} {m:Nat} (hT:L8 T P) {K:KS} (hK:X9 P T K) {ops:Array Oper} {Q:Exit→Act→World→Prop} {n0 nt:Nat}:∀ (l:List Oper) (k:Nat) (σ σ':St) (Es:List Z6) (a:Act) (w:World),(∀ j,l[j]? = ops[k+j]? ∨ l.length≤j)→(∀ o∈l,A4b nt o=true) →
  P8 T K ops of l σ=some (Es,σ')→n0≤σ.nx→A2U of of' eb n0 σ'→Sim T c eb of' n0 nt σ a w→(∀ a' w',Sim T c eb of' n0 nt σ' a' w'→Q .normal a' w')→wpOpsIn (WF rd) m P ops Q (List.range' k l.length) a w:=by
 intro l
 induction l with
 | nil =>
  intro k σ σ' Es a w _ _ hr _ _ hs hQ
  simp only [P8,D5X,Prod.mk.injEq] at hr
  obtain ⟨-,rfl⟩:=hr
  exact hQ a w hs
 | cons o r ih =>
  intro k σ σ' Es a w hl hd hr hn hfit hs hQ
  have h0:ops[k]? = some o:=by
   rcases hl 0 with h | h
   ·simpa using h.symm
   ·simp at h
  rw [A1u] at hr
  split at hr<;>try (cases hr;done)
  rename_i E hE
  split at hr<;>try (cases hr;done)
  rename_i Es' σ2 hrec
  simp only [D5X,Prod.mk.injEq] at hr
  obtain ⟨rfl,rfl⟩:=hr
  have hle:=A1V _ _ _ _ hrec
  obtain ⟨k1,k2,k3,k4⟩:=A1U hE
  obtain ⟨e,rfl,hst⟩:=hs
  rw [D52,List.range'_succ,wpOpsIn_cons]
  refine B2u hT hK h0 hst.os hE (A0d hfit.rd hle.1) (fun id h1 h2 hu=>?_) (fun t _=>hst.sl t) (fun x w' hl'=>?_)
  ·rcases hst.U id hu with h3 | h3
   ·exact hfit.fr id (by omega) (Nat.lt_of_lt_of_le h2 hle.2) h3
   ·omega
  ·obtain ⟨e',rfl,hst'⟩:=hst.step hl' (fun d hd'=>by
    have:=hd o (by simp)
    unfold A4b at this
    rw [← k3,hd'] at this
    simpa [Nat.blt_eq] using this)
   refine ih (k+1) (σ.app E) _ _ _ _ (fun j=>?_) (fun o' ho'=>hd o' (by simp [ho'])) hrec (Nat.le_trans hn k2) hfit ⟨e',rfl,?_⟩ hQ
   ·rcases hl (j+1) with h | h
    ·left;simpa [Nat.add_assoc,Nat.add_comm 1 j] using h
    ·right;simp at h;omega
   ·rw [B2v,B2w]
    refine ⟨hst'.os,hst'.le,fun id A3=>?_,hst'.sl,hst'.def_,hst'.nt⟩
    rcases hst'.U id A3 with (h1 | h1) | h1
    ·exact .inl h1
    ·exact .inr ⟨h1.1,Nat.lt_of_lt_of_le h1.2 k2⟩
    ·exact .inr ⟨by omega,h1.2⟩
theorem C0A {rd:Option Nat} {m:Nat} (hT:L8 T P) {K:KS} (hK:X9 P T K) {id:Nat} {ops:Array Oper} {Q:Exit→Act→World→Prop} {n0 nt:Nat} {σ σ':St} {Es:List Z6} {a:Act} {w:World} (hd:ops.toList.all (A4b nt)=true) (hr:P8 T K ops of ops.toList σ=some (Es,σ')) (hn:n0≤σ.nx) (hfit:A2U of of' eb n0 σ')
  (hs:Sim T c eb of' n0 nt σ a w) (hQ:∀ a' w',Sim T c eb of' n0 nt σ' a' w'→Q .normal a' w'):(Code.region id ops false).wpIn (WF rd) m P Q a w:=by
 refine wpIn_region ?_
 have:=C0z (rd:=rd) (m:=m) hT hK (Q:=Q) ops.toList 0 σ σ' Es a w (fun j=>.inl (by simp)) (List.all_eq_true.1 hd) hr hn hfit hs hQ
 rwa [D51,← List.range_eq_range'] at this
variable {P:Program} {T:TT} {c:J8} {e eb:B4} {of of':Nat→Option Ob}
def C6r (o:Oper) (acc:List Nat):Nat:=o.after.toList.foldl (fun s e=>if Region.binds .any e then s ||| 2 ^ e.on ||| acc.getD e.on 0 else s) 0
def A2K:List Oper→List Nat→List Nat
 | [],acc=>acc
 | o::r,acc=>A2K r (acc++[C6r o acc])
def B8c (t:Option Nat) (l:List Nat):Bool :=
 match t with
 | some d=>mem d l
 | none=>false
def B0I (l:List (Nat×Ob)) (E:Z6):Bool:=l.any fun p=>mem p.1 E.ro||mem p.1 (E.wo.map (·.1))
def A9p (a b:Option Nat):Bool :=
 match a,b with
 | some x,some y=>Nat.beq x y
 | _,_=>false
def A2q (A B:Z6):Bool:=B8c A.dst B.rs||B8c B.dst A.rs||A9p A.dst B.dst||B0I A.wo B||B0I B.wo A
def A2V:Nat→List Oper→Bool
 | _,[]=>true
 | i,o::r=>o.after.toList.all (fun e=>!(Region.binds .any e)||Nat.blt e.on i)&&A2V (i+1) r
theorem A8O:∀ (l:List Oper) (i:Nat),A2V i l=true→∀ q o,l[q]? = some o→∀ e∈o.after,Region.binds .any e=true→e.on < i+q:=by
 intro l
 induction l with
 | nil=>intro i _ q o h;simp at h
 | cons o0 r ih =>
  intro i h q o hq e he hb
  simp only [A2V,D5V,List.all_eq_true,Bool.or_eq_true,Bool.not_eq_true'] at h
  cases q with
  | zero =>
   simp only [List.getElem?_cons_zero,D5X] at hq
   subst hq
   rcases h.1 e (Array.mem_toList_iff.2 he) with h1 | h1
   ·rw [hb] at h1;cases h1
   ·simpa [Nat.blt_eq] using h1
  | succ q=>rw [show i+(q+1)=i+1+q by omega];exact ih (i+1) h.2 q o (by simpa using hq) e he hb
theorem B8d {D:Nat→Bool} {G:Nat→Prop} (hDG:∀ j,D j=true→G j) {acc:List Nat} (hacc:∀ j,G j→∀ p,(acc.getD j 0).testBit p=true→D p=true) {o:Oper} (ho:∀ e∈o.after,Region.binds .any e=true→D e.on=true) :
  ∀ p,(C6r o acc).testBit p=true→D p=true:=by
 unfold C6r
 have key:∀ (l:List Edge) (s:Nat),(∀ e∈l,Region.binds .any e=true→D e.on=true)→(∀ p,s.testBit p=true→D p=true) →
   ∀ p,(l.foldl (fun s e=>if Region.binds .any e then s ||| 2 ^ e.on ||| acc.getD e.on 0 else s) s).testBit p=true→D p=true:=by
  intro l
  induction l with
  | nil=>intro s _ hs p h;exact hs p h
  | cons e r ih =>
   intro s hl hs p h
   simp only [List.foldl_cons] at h
   refine ih _ (fun e' he'=>hl e' (by simp [he'])) ?_ p h
   intro p hp
   split at hp
   ·rename_i hb
    have hD:=hl e (by simp) hb
    rw [Nat.testBit_or,Nat.testBit_or,Bool.or_eq_true,Bool.or_eq_true,Nat.testBit_two_pow] at hp
    rcases hp with (hp | hp) | hp
    ·exact hs p hp
    ·have:e.on=p:=by simpa using hp
     rw [← this];exact hD
    ·exact hacc _ (hDG _ hD) p hp
   ·exact hs p hp
 exact key o.after.toList 0 (fun e he=>ho e (Array.mem_toList_iff.1 he)) (fun p hp=>by simp at hp)
theorem B4m {D:Nat→Bool} {G:Nat→Prop} (hDG:∀ j,D j=true→G j):∀ (l:List Oper) (acc:List Nat),(∀ j,G j→∀ p,(acc.getD j 0).testBit p=true→D p=true) →
  (∀ q o,l[q]? = some o→G (acc.length+q)→∀ e∈o.after,Region.binds .any e=true→D e.on=true) →
  ∀ j,G j→∀ p,((A2K l acc).getD j 0).testBit p=true→D p=true:=by
 intro l
 induction l with
 | nil=>intro acc hacc _;exact hacc
 | cons o r ih =>
  intro acc hacc h
  refine ih (acc++[C6r o acc]) (fun j hj p hp=>?_) (fun q o' hq=>by have:=h (q+1) o' (by simpa using hq);rwa [D5W,D53,show acc.length+1+q=acc.length+(q+1) by omega])
  rcases Nat.lt_trichotomy j acc.length with hlt | heq | hgt
  ·exact hacc j hj p (by rw [List.getD_eq_getElem?_getD,List.getElem?_append_left hlt,← List.getD_eq_getElem?_getD] at hp;exact hp)
  ·subst heq
   rw [List.getD_eq_getElem?_getD,List.getElem?_append_right (Nat.le_refl _),Nat.sub_self] at hp
   exact B8d hDG hacc (h 0 o rfl (by simpa using hj)) p (by simpa using hp)
  ·rw [List.getD_eq_getElem?_getD,List.getElem?_eq_none (by simp;omega)] at hp
   simp at hp
theorem A2W {K:KS} {ops:Array Oper}:∀ (l:List Oper) (σ σ':St) (Es:List Z6),P8 T K ops of l σ=some (Es,σ') →
  σ'=Es.foldl St.app σ∧Es.length=l.length∧∀ (p:Nat) o,l[p]? = some o→∃ E,Es[p]? = some E∧A2J T K ops (F1 ((Es.take p).foldl St.app σ).sl) (C1 ((Es.take p).foldl St.app σ).ob of) ((Es.take p).foldl St.app σ).nx o=some E∧(((Es.take p).foldl St.app σ).app E).le σ':=by
 intro l
 induction l with
 | nil =>
  intro σ σ' Es h
  simp only [P8,D5X,Prod.mk.injEq] at h
  obtain ⟨rfl,rfl⟩:=h
  exact ⟨rfl,rfl,fun p o h=>by simp at h⟩
 | cons o r ih =>
  intro σ σ' Es h
  rw [A1u] at h
  split at h<;>try (cases h;done)
  rename_i E hE
  split at h<;>try (cases h;done)
  rename_i Es' σ2 hrec
  simp only [D5X,Prod.mk.injEq] at h
  obtain ⟨rfl,rfl⟩:=h
  obtain ⟨h1,h2,h3⟩:=ih _ _ _ hrec
  refine ⟨h1,by simp [h2],fun p o' hp=>?_⟩
  cases p with
  | zero =>
   simp only [List.getElem?_cons_zero,D5X] at hp
   subst hp
   exact ⟨E,rfl,hE,A1V _ _ _ _ hrec⟩
  | succ p=>simpa using h3 p o' (by simpa using hp)
theorem A9q:∀ (Es:List Z6) (σ:St),F1 (Es.foldl St.app σ).sl=(Es.map wS).foldl wr (F1 σ.sl):=by
 intro Es
 induction Es with
 | nil=>intro σ;rfl
 | cons E r ih=>intro σ;simp only [List.foldl_cons,List.map_cons];rw [ih,B2v]
theorem A9r (of:Nat→Option Ob):∀ (Es:List Z6) (σ:St),C1 (Es.foldl St.app σ).ob of=(Es.map wO).foldl wr (C1 σ.ob of):=by
 intro Es
 induction Es with
 | nil=>intro σ;rfl
 | cons E r ih=>intro σ;simp only [List.foldl_cons,List.map_cons];rw [ih,B2w]
theorem C0B {K:KS} {ops:Array Oper} {l:List Oper} {σ σ':St} {Es:List Z6} (h:P8 T K ops of l σ=some (Es,σ')):∀ (p:Nat),σ.nx≤((Es.take p).foldl St.app σ).nx∧∀ q E,Es[q]? = some E→((Es.take q).foldl St.app σ).nx=E.lo∧E.lo≤E.hi∧(q < p→E.hi≤((Es.take p).foldl St.app σ).nx):=by
 obtain ⟨h1,h2,h3⟩:=A2W _ _ _ _ h
 have one:∀ q E,Es[q]? = some E→((Es.take q).foldl St.app σ).nx=E.lo∧E.lo≤E.hi∧((Es.take (q+1)).foldl St.app σ).nx=E.hi:=by
  intro q E hE
  have hq:q < l.length:=by rw [← h2];exact (List.getElem?_eq_some_iff.1 hE).1
  obtain ⟨E',g1,g2,g3⟩:=h3 q l[q] (D57 hq)
  rw [hE] at g1;cases g1
  obtain ⟨k1,k2,_⟩:=A1U g2
  refine ⟨k1.symm,by omega,?_⟩
  obtain ⟨hlt,hEq⟩:=List.getElem?_eq_some_iff.1 hE
  rw [List.take_succ_eq_append_getElem hlt,List.foldl_append,hEq]
  rfl
 have mono:∀ p,((Es.take p).foldl St.app σ).nx≤((Es.take (p+1)).foldl St.app σ).nx:=by
  intro p
  cases hp:Es[p]? with
  | none =>
   have:=List.getElem?_eq_none_iff.1 hp
   rw [List.take_of_length_le this,List.take_of_length_le (by omega)]
   exact Nat.le_refl _
  | some E=>obtain ⟨a,b,d⟩:=one p E hp;omega
 have monos:∀ d p,((Es.take p).foldl St.app σ).nx≤((Es.take (p+d)).foldl St.app σ).nx:=by
  intro d
  induction d with
  | zero=>intro p;exact Nat.le_refl _
  | succ d ih=>intro p;exact Nat.le_trans (ih p) (mono (p+d))
 intro p
 refine ⟨?_,fun q E hE=>?_⟩
 ·have:=monos p 0
  rw [Nat.zero_add] at this
  exact this
 ·obtain ⟨a,b,d⟩:=one q E hE
  refine ⟨a,b,fun hqp=>?_⟩
  have:=monos (p - (q+1)) (q+1)
  rw [show q+1+(p - (q+1))=p by omega] at this
  omega
end Go.Vm
end