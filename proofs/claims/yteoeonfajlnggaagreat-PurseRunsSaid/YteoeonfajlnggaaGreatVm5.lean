/- What the operations of a program do, shown once for all programs; and numbers. -/
import Derived.Test.YteoeonfajlnggaaGreatVm4
import Derived.Orders
import Derived.OrdersIn
import Derived.LoopNIn
import Derived.RangeFuncIn
set_option linter.constructorNameAsVariable false
set_option linter.unusedVariables false
set_option linter.unusedSimpArgs false
noncomputable section
namespace Go.Vm
open Go.RowKit
variable {P:Program} {T:TT} {c:P9} {e:B9} {of:Nat→Option Ob}
variable {a kt st el:Nat} {ho:Option V} {es:List (V×V×Bool)} {ms:List MapEntry} {bs:List Nat}
theorem SR.inG (h:SR T e a kt st el ho es ms bs):∀ b∈bs,e.G a b:=by
 induction h with
 | nil=>intro b hb;cases hb
 | cons h1 _ _ ih =>
  intro b hb
  rcases E0C.1 hb with hb | hb
  ·cases h1 with
   | lent=>cases hb
   | data=>cases hb
   | own _ _ _ h3=>simp only [List.mem_singleton] at hb;subst hb;exact h3
  ·exact ih b hb
def B9.give (e:B9) (id b o el ln:Nat):B9 :=
 {w:=e.w,ι:=G3 e.ι id (some (b,o)),S:=e.S,bn:=G3 e.bn id 1,U:=fun j=>j=id∨e.U j,ty:=G3 e.ty id el,ln:=G3 e.ln id ln,G:=fun a b'=>e.G a b'∧b'≠b }
theorem B7s {id:Nat} (hu:¬ e.U id) (b o el ln:Nat):e.le (e.give id b o el ln):=by
 have ne:∀ j,e.U j→j≠id:=fun j hj q=>hu (q ▸ hj)
 refine ⟨fun b i hs=>⟨hs,fun x hx=>hx⟩,fun _ hj=>.inr hj,fun j hj _=>⟨A4 _ _ (ne j hj),A4 _ _ (ne j hj),fun _ _ _=>rfl⟩,fun j hj h0=>?_,fun j hj=>?_,fun j hj=>A4 _ _ (ne j hj),Nat.le_refl _,fun _ _=>rfl⟩
 ·show G3 e.bn id 1 j=0
  rw [A4 _ _ (ne j hj)];exact h0
 ·show _≤G3 e.bn id 1 j
  rw [A4 _ _ (ne j hj)];exact Nat.le_refl _
theorem A7.give (h:A7 T c e of) {id id0:Nat} (hu:¬ e.U id) {o0 o1 o2:Ob} (hof:of id0=some o0) {a b q el ln:Nat} (hι:e.ι id0=some (a,0)) (hG:e.G a b) (h1:OK T (e.give id b q el ln) id0 o1) (h2:OK T (e.give id b q el ln) id o2) :
  A7 T c (e.give id b q el ln) (G3 (G3 of id0 (some o1)) id (some o2)):=by
 have hle:=B7s hu b q el ln
 have hs0:(of id0).isSome:=by rw [hof];rfl
 have hne:id0≠id:=fun e=>hu (e ▸ (h.ok _ _ hof).use)
 have ιne:∀ j,j≠id→(e.give id b q el ln).ι j=e.ι j:=fun j hj=>A4 _ _ hj
 have some':∀ j,j≠id→(G3 (G3 of id0 (some o1)) id (some o2) j).isSome→(of j).isSome:=fun j hj hh=>by
  rw [A4 _ _ hj] at hh
  by_cases h0:j=id0
  ·subst h0;exact hs0
  ·rw [A4 _ _ h0] at hh;exact hh
 refine ⟨fun j x hj=>?_,fun j k b1 q1 b2 q2 hj hk hb1 hb2 hjk=>?_,fun j b1 q1 hj hb1=>?_,fun j b1 q1 hj hb1=>?_,h.slt,h.s0,h.snew,h.os,h.tape,h.output,h.size,h.block,⟨fun a1 b1 hg j b2 q2 hj hb2=>?_,fun a1 a2 b1 g1 g2=>h.g.uniq a1 a2 b1 g1.1 g2.1,fun a1 b1 g1=>h.g.own a1 b1 g1.1,fun a1 b1 g1=>h.g.lt a1 b1 g1.1⟩⟩
 ·by_cases hj1:j=id
  ·subst hj1;rw [upd_same] at hj;cases hj;exact h2
  ·rw [A4 _ _ hj1] at hj
   by_cases hj2:j=id0
   ·subst hj2;rw [upd_same] at hj;cases hj;exact h1
   ·rw [A4 _ _ hj2] at hj
    have hjs:(of j).isSome:=by rw [hj];rfl
    refine (h.ok j x hj).keep hle (A4 _ _ hj1) (fun _ _ _=>rfl) (fun _ _ _ _ hs=>hs) (fun a' q' k hk hG'=>⟨⟨hG',fun q=>?_⟩,rfl,fun _ hs=>hs⟩)
    subst q
    have:=h.g.uniq _ _ _ hG hG'
    subst this
    exact h.sep _ _ _ _ _ _ hjs hs0 hk hι hj2 rfl
 ·by_cases e1:j=id
  ·subst e1
   have e2:k≠j:=Ne.symm hjk
   rw [ιne k e2] at hb2
   have hb1:(b,q)=(b1,q1):=by simpa [B9.give] using hb1
   cases hb1
   exact Ne.symm (h.g.sep _ _ hG _ _ _ (some' k e2 hk) hb2)
  ·by_cases e2:k=id
   ·subst e2
    rw [ιne j e1] at hb1
    have hb2:(b,q)=(b2,q2):=by simpa [B9.give] using hb2
    cases hb2
    exact h.g.sep _ _ hG _ _ _ (some' j e1 hj) hb1
   ·rw [ιne _ e1] at hb1;rw [ιne _ e2] at hb2
    exact h.sep _ _ _ _ _ _ (some' j e1 hj) (some' k e2 hk) hb1 hb2 hjk
 ·by_cases e1:j=id
  ·subst e1
   have hb1:(b,q)=(b1,q1):=by simpa [B9.give] using hb1
   cases hb1
   exact h.g.own _ _ hG
  ·rw [ιne _ e1] at hb1
   exact h.own _ _ _ (some' j e1 hj) hb1
 ·by_cases e1:j=id
  ·subst e1
   have hb1:(b,q)=(b1,q1):=by simpa [B9.give] using hb1
   cases hb1
   exact h.g.lt _ _ hG
  ·rw [ιne _ e1] at hb1
   rcases hj with hj | hj
   ·exact absurd hj e1
   ·exact h.lt _ _ _ hj hb1
 ·by_cases e1:j=id
  ·subst e1
   have hb2:(b,q)=(b2,q2):=by simpa [B9.give] using hb2
   cases hb2
   exact Ne.symm hg.2
  ·rw [ιne _ e1] at hb2
   exact h.g.sep _ _ hg.1 _ _ _ (some' j e1 hj) hb2
def A9M (T:TT) (nx t:Nat) (k:A) (q:Nat×Nat×Nat×Nat×List (V×V×Bool)×Option V):Option Out :=
 match q.2.2.2.2.2 with
 | none=>match D2 T t with
  | some (.map kt et)=>match T et,A1D T kt k with
   | some te,some kv=>if TK.notOther te.k then (if Nat.beq kt q.2.1&&Nat.beq et q.2.2.1 then
     (match A3I kv q.2.2.2.2.1 with
     | true=>if B13 kv q.2.2.2.2.1 then some ⟨.o nx 1,[(q.1,.sm q.2.1 q.2.2.1 q.2.2.2.1 q.2.2.2.2.1 (some kv)),(nx,.row q.2.2.2.1 1 (A8d kv q.2.2.2.2.1).els false true)],[q.1],[nx]⟩ else none
     | false=>some ⟨mkA T et te.zero,[],[q.1],[]⟩) else none) else none
   | _,_=>none
  | _=>none
 | some _=>none
theorem C18 (hT:L8 T P) {id t nx:Nat} {k:A} {x y:Value} {out:Out} (h:A7 T c e of) (hr:A9M T nx t k (id,kt,st,el,es,ho)=some out) (hof:of id=some (.sm kt st el es ho)) (hu0:∀ j∈out.nw,¬ e.U j) (hx:C6 T e (.m id) x) (hy:C6 T e k y) :
  E3 P (do pure (.value (← Instr.lookup t x y false))) e.w (F6 T c e of out):=by
 unfold A9M at hr
 split at hr<;>try (cases hr;done)
 rename_i hho
 simp only at hho
 subst hho
 split at hr<;>try (cases hr;done)
 rename_i kt' et hk
 obtain ⟨tem,h1,h2⟩:=B5 hk
 have hu:=P7 (hT _ _ h1) h2
 split at hr<;>try (cases hr;done)
 rename_i te kv hte hkv
 obtain ⟨hf,hkey⟩:=A2x hkv hy
 split at hr<;>try (cases hr;done)
 rename_i hne
 split at hr<;>try (cases hr;done)
 rename_i hc
 simp only [E0s] at hc
 have:=E0r hc.1;subst this
 have:=E0r hc.2;subst this
 obtain ⟨z,hz1,hz2⟩:=A76 hT hte hne e.w
 have hck:∀ em,(Instr.checkKey em 10000 kt' y).run P e.w=.ok () e.w:=fun em=>Q0 hT em e.w EQD kt' 9992 kv y hf hkey
 obtain ⟨u1,u2,hks,hz,hz3,_⟩:=A8e h hof
 obtain ⟨b,ms,clock,es',bs,v3,v4,vb,v6,v5,v8,v7,g⟩:=A4M hT h hof hf hkey
 obtain ⟨b',_,_,u3,rfl⟩:=P8 hx
 rw [v3] at u3;cases u3
 have hg:(getObj b).run P e.w=.ok (.map ms clock) e.w:=MapKept.run_getObj_map v4
 rcases g with ⟨g1,g2,_⟩ | ⟨i,me,xv,q,g1,hm1,hm2,g2,g3,g4⟩
 ·simp only [g2] at hr
  injection hr with hr;subst hr
  refine A3 (x:=z) (w':=e.w) ?_ (A9 h (hz2 e))
  simp [Instr.lookup,A5 hu,hg,hck,g1,hz1]
 ·simp only [g2] at hr
  split at hr<;>try (cases hr;done)
  rename_i hown
  injection hr with hr;subst hr
  rw [g4] at hown
  subst hown
  have hun:¬ e.U nx:=hu0 nx (by simp)
  obtain ⟨bs0,cs,k1,k2,k3,k4⟩:=v7.pull hm2 hm1
  cases k1 with
  | lent _ _ h3=>cases h3
  | @own _ xs _ bb o j cap cells t' fz pre ys post j1 j2 j0 j3 j5 j6 j7 j8 j9 j10 j11 j12 =>
   have hle:=B7s hun bb o el xs.length
   have hent:A1Z T (e.give nx bb o el xs.length) b kt' et el (some kv) (kv,.l xs,true) me []:=.lent (j1.mono hle) (by rw [j2];rfl) rfl
   have k2':SR T e b kt' et el (some kv) (es'.eraseIdx i) (ms.toList.eraseIdx i) cs:=k2.rho (fun p _ q=>by cases q)
   obtain ⟨bs',q1,_⟩:=SR.putAt hm2 hm1 (k2'.keep' hle (fun b' hb' hG'=>⟨⟨hG',fun q=>k3 bb (by simp) (q ▸ hb')⟩,rfl,fun _ hs=>hs⟩)) hent (fun b hb=>by cases hb)
   rw [show es'.set i (kv,.l xs,true)=es' from A4L hm2,show ms.toList.set i me=ms.toList from A4L hm1] at q1
   have hne:id≠nx:=fun q=>hun (q ▸ u1)
   have hok1:OK T (e.give nx bb o el xs.length) id (.sm kt' et el es (some kv)):=⟨.inr u1,(A4 _ _ hne).trans u2,hks,hz,hz3,b,ms,clock,(A4 _ _ hne).trans v3,v4,⟨v5,vb⟩,es',bs',v6,q1⟩
   have hok2:OK T (e.give nx bb o el xs.length) nx (.row el 1 xs false true):=⟨.inl rfl,Nat.one_pos,upd_same _ _ _,upd_same _ _ _,upd_same _ _ _,hz3,.inr ⟨rfl,bb,o,cells,t',fz,pre,ys,post,upd_same _ _ _,j5,j6,j7,j8,j9.mono hle,j12,fun q=>by cases q⟩⟩
   refine A3 (x:=me.val) (w':=e.w) (by simp [Instr.lookup,A5 hu,hg,hck,g1]) ⟨e.give nx bb o el xs.length,rfl,?_,hle,fun jj hj=>hj.elim (fun q=>.inr (by simp [q])) .inl,?_⟩
   ·have:=h.give hun hof v3 j3 hok1 hok2
    rw [g3]
    exact this
   ·rw [j2]
    refine RA.r ⟨rfl,.inl rfl,Nat.le_of_eq (upd_same _ _ _).symm,Nat.one_pos,fun _=>.inr ⟨bb,o,cap,j,upd_same _ _ _,?_,?_,j0,?_⟩⟩ rfl .nil
    ·show G3 e.ln nx xs.length nx≤cap
     rw [upd_same];exact j10
    ·show o+cap * C1 T (G3 e.ty nx el nx)=blen e.w bb
     rw [upd_same,j11];simp [blen,j5]
    ·show _=Value.slice _ (G3 e.ln nx xs.length nx) cap
     rw [upd_same]
variable {P:Program} {T:TT} {c:P9} {e:B9} {of:Nat→Option Ob}
variable {a kt st el:Nat} {ho:Option V} {es:List (V×V×Bool)}
theorem A9d {ms:Array MapEntry} {i:Nat} {me:MapEntry} {f:MapEntry→MapEntry} (hm1:ms.toList[i]? = some me):(ms.modify i f).toList=ms.toList.set i (f me):=by
 have hj:ms[i]? = some me:=by simpa using hm1
 apply List.ext_getElem?
 intro j
 rw [Array.getElem?_toList,Array.getElem?_modify,List.getElem?_set]
 by_cases hij:i=j
 ·subst hij
  rw [if_pos rfl,if_pos rfl,hj]
  have:i < ms.toList.length:=(List.getElem?_eq_some_iff.1 hm1).1
  rw [if_pos this];rfl
 ·rw [if_neg hij,if_neg hij,Array.getElem?_toList]
theorem B0W {ms:Array MapEntry} {i:Nat} {me:MapEntry} (hm1:ms.toList[i]? = some me):(ms.eraseIdxIfInBounds i).toList=ms.toList.eraseIdx i:=by
 have:i < ms.size:=by have:=(List.getElem?_eq_some_iff.1 hm1).1;simpa using this
 simp [Array.eraseIdxIfInBounds,this]
theorem A3W {kv:V} (h:(es.map (·.1)).Nodup):((A9o kv es).map (·.1)).Nodup:=by rw [Z1];exact h.sublist (List.filter_sublist.map _)
theorem A66 {kv x:V} {q:Bool} (h:(es.map (·.1)).Nodup):((A6j kv x q es).map (·.1)).Nodup:=by
 rw [A6j,List.map_cons,List.nodup_cons]
 refine ⟨?_,A3W h⟩
 rw [Z1]
 intro hm
 obtain ⟨p,hp,hpk⟩:=List.mem_map.1 hm
 have:=(List.mem_filter.1 hp).2
 simp only at hpk
 rw [hpk,U4] at this
 simp at this
theorem B2V {kv:V} {x0:V×Bool}:∀ {es:List (V×V×Bool)} {i:Nat},(es.map (·.1)).Nodup→es[i]? = some (kv,x0)→∀ p∈es.eraseIdx i,p.1≠kv:=by
 intro es i hn hi p hp
 rw [← A1E hn hi] at hp
 have:=(List.mem_filter.1 hp).2
 intro q
 rw [q,U4] at this
 simp at this
theorem C19 (hT:L8 T P) {id t:Nat} {kv x:V} {q:Bool} {bs0 bs:List Nat} {y z:Value} {es':List (V×V×Bool)} {ms:Array MapEntry} {clock b:Nat} (hu:P.underlying t=some (.map kt st)) (h:A7 T c e of) (hof:of id=some (.sm kt st el es ho)) (hf:eqT T EQD kt=true) (hkey:C6 T e (.v kt kv) y) (hho:ho=none∨ho=some kv)
  (v3:e.ι id=some (b,0)) (v4:e.w.heap[b]? = some (.map ms clock)) (vb:StB ms clock) (v6:es'.Perm es) (v5:(es.map (·.1)).Nodup) (v8:(es'.map (·.1)).Nodup) (v7:SR T e b kt st el ho es' ms.toList bs)
  (g:((Instr.findKey kt y ms.toList).run P e.w=.ok none e.w∧A3I kv es=false∧∀ p∈es',p.1≠kv) ∨
    ∃ i m x q,(Instr.findKey kt y ms.toList).run P e.w=.ok (some (i,m.val)) e.w∧ms.toList[i]? = some m∧es'[i]? = some (kv,x,q)∧A3I kv es=true∧A8d kv es=x∧B13 kv es=q)
  (hd:∀ b'∈bs0,b' ∉ bs)
  (hent:∀ w':World,e.le { e with w:=w' }→(∀ k,k≠b→w'.heap[k]? = e.w.heap[k]?)→∀ n,A1Z T { e with w:=w' } b kt st el none (kv,x,q) { key:=y,val:=z,born:=n } bs0) :
  E3 P (do Instr.mapUpdate t (.map (some b)) y z;pure .skip) e.w (fun _ w'=>∃ e':B9,e'.w=w'∧A7 T c e' (G3 of id (some (.sm kt st el (A6j kv x q es) none)))∧e.le e'∧∀ j,e'.U j→e.U j):=by
 obtain ⟨u1,u2,hks,hz,hz3,_⟩:=A8e h hof
 have hg:(getObj b).run P e.w=.ok (.map ms clock) e.w:=MapKept.run_getObj_map v4
 have hck:∀ em,(Instr.checkKey em 10000 kt y).run P e.w=.ok () e.w:=fun em=>Q0 hT em e.w EQD kt 9992 kv y hf hkey
 have hset:∀ o,(setObj b o).run P e.w=.ok () { e.w with heap:=e.w.heap.setIfInBounds b o }:=fun o=>MapKept.run_setObj_map o v4
 have hids:(of id).isSome:=by rw [hof];rfl
 have hnb:∀ b',e.G b b'→b'≠b:=fun b' hG q=>h.g.sep _ _ hG _ _ _ hids v3 q.symm
 have oth:∀ (o:Go.Obj) (k:Nat),k≠b→({ e.w with heap:=e.w.heap.setIfInBounds b o }:World).heap[k]? = e.w.heap[k]? := fun o k hk=>by simp [Ne.symm hk]
 have hkp:∀ {cs:List Nat} (o:Go.Obj),∀ b'∈cs,e.G b b'→({ e with w:={ e.w with heap:=e.w.heap.setIfInBounds b o } }:B9).G b b'∧({ e.w with heap:=e.w.heap.setIfInBounds b o }:World).heap[b']? = e.w.heap[b']? ∧ ∀ i,({ e with w:={ e.w with heap:=e.w.heap.setIfInBounds b o } }:B9).S b' i→e.S b' i:=fun o b' _ hG=>⟨hG,oth o b' (hnb b' hG),fun _ hs=>hs⟩
 rcases g with ⟨g1,g2,g3⟩ | ⟨i,me,xv,q0,g1,hm1,hm2,g2,g3,g4⟩
 ·obtain ⟨q1,q2⟩:=h.writeM hof v3 v4 (ms':=ms.push { key:=y,val:=z,born:=clock }) (cl':=clock+1) rfl (o':=.sm kt st el (A6j kv x q es) none) (fun hle hh=>by
   have hr:SR T e b kt st el none es' ms.toList bs:=v7.rho (fun p hp hq=>by
    rcases hho with rfl | rfl
    ·cases hq
    ·injection hq with hq;exact g3 p hp hq.symm)
   obtain ⟨bs',r1,_⟩:=(hr.keep' hle (hkp _)).snoc (hent _ hle (oth _) clock) hd
   refine ⟨u1,u2,hks,hz,hz3,b,_,_,v3,hh,⟨A66 v5,vb.push⟩,es'++[(kv,x,q)],bs',?_,?_⟩
   ·have:A9o kv es=es:=by rw [Z1];exact A2z (fun p hp=>g3 p (v6.mem_iff.2 hp))
    rw [A6j,this]
    exact (List.perm_append_singleton _ _).trans (v6.cons _)
   ·rw [Array.toList_push];exact r1)
  refine .inr (.inl ⟨_,?_,⟨_,rfl,q1,q2,fun j hj=>hj⟩⟩)
  simp [Instr.mapUpdate,A5 hu,hg,hck,g1,hset]
 ·obtain ⟨b1,cs,k1,k2,k3,k4⟩:=v7.pull hm2 hm1
  have hkeq:me.key=y:=(A6M hf hkey).2 _ k1.key
  have hj:ms[i]? = some me:=by simpa using hm1
  obtain ⟨q1,q2⟩:=h.writeM hof v3 v4 (ms':=ms.modify i fun e=>{ e with key:=y,val:=z }) (cl':=clock) rfl (o':=.sm kt st el (A6j kv x q es) none) (fun hle hh=>by
   have hr:SR T e b kt st el none (es'.eraseIdx i) (ms.toList.eraseIdx i) cs:=k2.rho (fun p hp hq=>by
    rcases hho with rfl | rfl
    ·cases hq
    ·injection hq with hq;exact B2V v8 hm2 p hp hq.symm)
   obtain ⟨bs',r1,_⟩:=SR.putAt hm2 hm1 (hr.keep' hle (hkp _)) (hent _ hle (oth _) me.born) (fun b' hb hc=>hd b' hb (k4 b' (.inr hc)))
   refine ⟨u1,u2,hks,hz,hz3,b,_,_,v3,hh,⟨A66 v5,vb.mod (fun _=>rfl)⟩,es'.set i (kv,x,q),bs',?_,?_⟩
   ·refine (C0y hm2).trans (List.Perm.cons _ ?_)
    rw [Z1,← A1E v8 hm2]
    exact v6.filter _
   ·rw [A9d hm1];exact r1)
  have hst:(Instr.keyThatStays y y).run P e.w=.ok y e.w:=B0n (A6M hf hkey).1 e.w
  refine .inr (.inl ⟨_,?_,⟨_,rfl,q1,q2,fun j hj=>hj⟩⟩)
  simp [Instr.mapUpdate,A5 hu,hg,hck,g1,hj,hkeq,hst,hset]
def C9g:Option V→V→Bool
 | none,_=>true
 | some k,kv=>N4 k kv
theorem B9y {kv:V} (h:C9g ho kv=true):ho=none∨ho=some kv:=by
 cases ho with
 | none=>exact .inl rfl
 | some k=>exact .inr (by rw [(G5 _ _).1 h])
def B9z (T:TT) (of:Nat→Option Ob) (t:Nat) (k v:A) (q:Nat×Nat×Nat×Nat×List (V×V×Bool)×Option V):Option (List (Nat×Ob)×List Nat) :=
 match D2 T t with
 | some (.map kt et)=>match A1D T kt k with
  | some kv=>if Nat.beq kt q.2.1&&Nat.beq et q.2.2.1 then (if C9g q.2.2.2.2.2 kv then (match v with
    | .o rid ver=>match of rid with
     | some (.row el v' xs false sh)=>if Nat.beq el q.2.2.2.1&&Nat.beq v' ver then some ([(rid,.row el (ver+1) [] true false),(q.1,.sm q.2.1 q.2.2.1 q.2.2.2.1 (A6j kv (.l xs) true q.2.2.2.2.1) none)],[q.1,rid]) else none
     | _=>none
    | v=>match Q4 T DEP of et v with
     | some (x,wo)=>if !(X5 wo).contains q.1 then some (wo++[(q.1,.sm q.2.1 q.2.2.1 q.2.2.2.1 (A6j kv x false q.2.2.2.2.1) none)],q.1::X5 wo) else none
     | none=>none) else none) else none
  | none=>none
 | _=>none
def B9.lose (e:B9) (id ver:Nat):B9:={ e with ι:=G3 e.ι id none,bn:=G3 e.bn id ver,ln:=G3 e.ln id 0 }
theorem A7.lose (h:A7 T c e of) {id el ver:Nat} {xs:List V} {nl sh:Bool} (hof:of id=some (.row el ver xs nl sh)):e.le (e.lose id (ver+1))∧A7 T c (e.lose id (ver+1)) (G3 of id (some (.row el (ver+1) [] true false))):=by
 obtain ⟨r1,r2,r3,r4,r5,r6,_⟩:=N0 h hof
 have hle:e.le (e.lose id (ver+1)):=A2g (w:=e.w) (p:=none) (ln:=0) (by omega) (by omega) (fun _ _ _ _ hx=>hx) (fun _ _=>rfl) (fun j b o hj hb=>h.lt _ _ _ hj hb) (Nat.le_refl _)
 refine ⟨hle,h.turn hof hle (fun _ hj=>A4 _ _ hj) (fun _ hj=>A4 _ _ hj) (fun _ hj=>hj) (fun _ _ _=>rfl) (Nat.le_refl _) (fun _ _ hs=>.inl hs) (fun b q hb=>?_) rfl rfl rfl ?_⟩
 ·have:(none:Option (Nat×Nat))=some (b,q):=by rw [← hb];exact (upd_same _ _ _).symm
  cases this
 ·exact ⟨r1,Nat.succ_pos _,upd_same _ _ _,r4,upd_same _ _ _,r6,.inl ⟨rfl,upd_same _ _ _,rfl⟩⟩
def B9.keepG (e:B9) (a b:Nat):B9:={ e with G:=fun a' b'=>e.G a' b'∨(a'=a∧b'=b) }
theorem A67 (e:B9) (a b:Nat):e.le (e.keepG a b):=⟨fun _ _ h=>⟨h,fun _ hx=>hx⟩,fun _ h=>h,fun _ _ _=>⟨rfl,rfl,fun _ _ _=>rfl⟩,fun _ _ h=>h,fun _ _=>Nat.le_refl _,fun _ _=>rfl,Nat.le_refl _,fun _ _=>rfl⟩
theorem A7.keepG (h:A7 T c e of) {a b:Nat} (h1:∀ j b' o,(of j).isSome→e.ι j=some (b',o)→b'≠b) (h2:∀ a',¬ e.G a' b) (h3:c.w0.heap.size≤b∨c.M b) (h4:b < e.w.heap.size):A7 T c (e.keepG a b) of:=by
 refine ⟨fun j o hj=>(h.ok j o hj).keep (A67 e a b) rfl (fun _ _ _=>rfl) (fun _ _ _ _ hs=>hs) (fun _ _ _ _ hG=>⟨.inl hG,rfl,fun _ hs=>hs⟩),h.sep,h.own,h.lt,h.slt,h.s0,h.snew,h.os,h.tape,h.output,h.size,h.block,⟨fun a' b' hg j b1 o hj hb=>?_,fun a1 a2 b' g1 g2=>?_,fun a' b' hg=>?_,fun a' b' hg=>?_⟩⟩
 ·rcases hg with hg | ⟨_,rfl⟩
  ·exact h.g.sep _ _ hg _ _ _ hj hb
  ·exact h1 _ _ _ hj hb
 ·rcases g1 with g1 | ⟨rfl,rfl⟩
  ·rcases g2 with g2 | ⟨rfl,rfl⟩
   ·exact h.g.uniq _ _ _ g1 g2
   ·exact absurd g1 (h2 _)
  ·rcases g2 with g2 | ⟨rfl,_⟩
   ·exact absurd g2 (h2 _)
   ·rfl
 ·rcases hg with hg | ⟨_,rfl⟩
  ·exact h.g.own _ _ hg
  ·exact h3
 ·rcases hg with hg | ⟨_,rfl⟩
  ·exact h.g.lt _ _ hg
  ·exact h4
theorem C9h (hT:L8 T P) {of':Nat→Option Ob} {id t:Nat} {k v:A} {x y z:Value} {wo:List (Nat×Ob)} {ro:List Nat} (h:A7 T c e of') (hr:B9z T of t k v (id,kt,st,el,es,ho)=some (wo,ro)) (hof:of id=some (.sm kt st el es ho)) (hoo:∀ id∈ro,of' id=of id) (hx:C6 T e (.m id) x) (hy:C6 T e k y) (hz:C6 T e v z) :
  E3 P (do Instr.mapUpdate t x y z;pure .skip) e.w (F6 T c e of' ⟨.x,wo,ro,[]⟩):=by
 unfold B9z at hr
 split at hr<;>try (cases hr;done)
 rename_i kt' et hk
 obtain ⟨tem,h1,h2⟩:=B5 hk
 have hu:=P7 (hT _ _ h1) h2
 split at hr<;>try (cases hr;done)
 rename_i kv hkv
 obtain ⟨hf,hkey⟩:=A2x hkv hy
 split at hr<;>try (cases hr;done)
 rename_i hc
 simp only [E0s] at hc
 have:=E0r hc.1;subst this
 have:=E0r hc.2;subst this
 split at hr<;>try (cases hr;done)
 rename_i hho
 have hho:=B9y hho
 split at hr
 ·rename_i rid ver
  split at hr<;>try (cases hr;done)
  rename_i el' v' xs sh hrow
  split at hr<;>try (cases hr;done)
  rename_i hc2
  simp only [E0s] at hc2
  have:=E0r hc2.1;subst this
  have:=E0r hc2.2;subst this
  injection hr with hr;injection hr with e1 e2;subst e1;subst e2
  have hrow':=(hoo rid (by simp)).trans hrow
  have hof':=(hoo id (by simp)).trans hof
  obtain ⟨r1,r2,r3,r4,r5,r6,r7⟩:=N0 h hrow'
  rcases r7 with ⟨q,_⟩ | ⟨_,bb,o,cells,t',fz,pre,ys,post,j1,j2,j3,j4,j5,j6,j7,j8⟩
  ·cases q
  ·have hne:id≠rid:=fun q=>by subst q;rw [hof'] at hrow';cases hrow'
   obtain ⟨hle1,s1⟩:=h.lose hrow'
   have hof1:G3 of' rid (some (.row el' (v'+1) [] true false)) id=some (.sm kt' et el' es ho):=by rw [A4 _ _ hne];exact hof'
   obtain ⟨b,ms,clock,es',bs,v3,v4,vb,v6,v5,v8,v7,g⟩:=A4M hT s1 hof1 hf (hkey.mono hle1)
   have hrs:(of' rid).isSome:=by rw [hrow'];rfl
   have hnoG:∀ a',¬ (e.lose rid (v'+1)).G a' bb:=fun a' hG=>h.g.sep _ _ hG _ _ _ hrs j1 rfl
   have s2:=s1.keepG (a:=b) (b:=bb) (fun j b' o' hj hb=>by
     have hjr:j≠rid:=fun q=>by
      subst q
      have:(none:Option (Nat×Nat))=some (b',o'):=by rw [← hb];exact (upd_same _ _ _).symm
      cases this
     have hb':e.ι j=some (b',o'):=by rw [← hb];exact (A4 _ _ hjr).symm
     have hj':(of' j).isSome:=by rw [A4 _ _ hjr] at hj;exact hj
     exact h.sep _ _ _ _ _ _ hj' hrs hb' j1 hjr) hnoG (h.own _ _ _ hrs j1) (h.lt _ _ _ r1 j1)
   have hle2:=hle1.trans (A67 (e.lose rid (v'+1)) b bb)
   have v3':e.ι id=some (b,0):=by rw [← v3];exact (A4 _ _ hne).symm
   have hbb:bb≠b:=fun q=>h.sep _ _ _ _ _ _ (by rw [hof'];rfl) hrs v3' j1 hne q.symm
   obtain ⟨b',_,_,u3,rfl⟩:=P8 hx
   rw [v3'] at u3;cases u3
   have v7':=v7.keep' (A67 (e.lose rid (v'+1)) b bb) (fun b' _ hG=>⟨.inl hG,rfl,fun _ hs=>hs⟩)
   have main:=C19 (x:=.l xs) (q:=true) (bs0:=[bb]) (y:=y) (z:=z) hT hu s2 hof1 hf (hkey.mono hle2) hho v3 v4 vb v6 v5 v8 v7' g (fun b' hb' hc=>by
     simp only [List.mem_singleton] at hb';subst hb'
     exact hnoG b (v7.inG _ hc)) (fun w' hle hw n=>by
     rcases M4 hz r3 with ⟨q,_⟩ | ⟨b2,o2,cap,kk,k1,k2,k3,k4,k5⟩
     ·rw [j1] at q;cases q
     ·rw [j1] at k1;cases k1
      rw [r5] at k2 k5;rw [r4] at k3
      have hh:w'.heap[bb]? = some (.cells cells t' fz):=(hw bb hbb).trans j2
      refine .own ((hkey.mono hle2).mono hle) k5 k4 (.inr ⟨rfl,rfl⟩) hh (A96 j3 (hw bb hbb)) j4 j5 ((j6.mono hle2).mono hle) k2 ?_ j7
      rw [k3];simp [blen,j2])
   refine F8 main ?_
   rintro u w' ⟨e',p1,p2,p3,p4⟩
   exact ⟨e',p1,p2,hle2.trans p3,fun j hj=>.inl (p4 j hj),trivial⟩
 ·split at hr<;>try (cases hr;done)
  rename_i xv w1 hxv
  split at hr<;>try (cases hr;done)
  rename_i hc4
  simp only [Bool.not_eq_true'] at hc4
  injection hr with hr;injection hr with hr1 hr2;subst hr1;subst hr2
  have hnin:id ∉ X5 w1:=fun hin=>by
   have:(X5 w1).contains id=true:=List.contains_iff_mem.2 hin
   rw [this] at hc4;cases hc4
  have hof':=(hoo id (by simp)).trans hof
  have hxv':=(A01 (T:=T) DEP).1 of of' _ _ _ _ hxv (fun j hj=>hoo j (by simp [hj]))
  obtain ⟨e1,a1,a2,a3,a4,a5⟩:=A1k h hxv' hz
  have hp1:put of' w1 id=some (.sm kt' et el es ho):=by rw [B0u hnin];exact hof'
  obtain ⟨b,ms,clock,es',bs,v3,v4,vb,v6,v5,v8,v7,g⟩:=A4M hT a2 hp1 hf (hkey.mono a3)
  obtain ⟨_,_,hks,hz1,_,_⟩:=A8e a2 hp1
  obtain ⟨b',_,_,u3,rfl⟩:=P8 (hx.mono a3)
  rw [v3] at u3;cases u3
  have hone:z.cells.toList=[z]:=by
   have:RV T e1 [et] [xv] z.cells.toList:=a5
   cases hzz:z with
   | agg cs =>
    exfalso
    have hag:=(A6N hxv' hz).2 ⟨cs,hzz⟩
    obtain ⟨k',hk',ha'⟩:=hag
    rw [hks] at hk';cases hk';cases ha'
   | tuple cs =>
    have:=a5.one (.tuple cs) (by rw [hzz];exact List.mem_singleton_self _)
    cases this
   | _=>rfl
  have main:=C19 (x:=xv) (q:=false) (bs0:=[]) (y:=y) (z:=z) hT hu a2 hp1 hf (hkey.mono a3) hho v3 v4 vb v6 v5 v8 v7 g (fun b' hb'=>by cases hb') (fun w' hle hw n=>.data ((hkey.mono a3).mono hle) (by
    have:=a5.mono hle
    rw [hone] at this;exact this))
  rw [a1] at main
  refine F8 main ?_
  rintro u w' ⟨e',p1,p2,p3,p4⟩
  refine ⟨e',p1,?_,a3.trans p3,fun j hj=>.inl (a4 j (p4 j hj)),trivial⟩
  show A7 T c e' (put of' (w1++[(id,_)]))
  rw [H9]
  exact p2
variable {P:Program} {T:TT} {c:P9} {e:B9} {of:Nat→Option Ob}
variable {a kt st el:Nat} {ho:Option V} {es:List (V×V×Bool)}
def C2a (T:TT) (t:Nat) (k:A) (q:Nat×Nat×Nat×Nat×List (V×V×Bool)×Option V):Option (List (Nat×Ob)×List Nat) :=
 match D2 T t with
 | some (.map kt et)=>match A1D T kt k with
  | some kv=>if Nat.beq kt q.2.1&&Nat.beq et q.2.2.1 then some ([(q.1,.sm q.2.1 q.2.2.1 q.2.2.2.1 (A9o kv q.2.2.2.2.1) q.2.2.2.2.2)],[q.1]) else none
  | none=>none
 | _=>none
theorem C2b (hT:L8 T P) {of':Nat→Option Ob} {id t kt0 ty:TypeId} {k:A} {x y:Value} {wo:List (Nat×Ob)} {ro:List Nat} (h:A7 T c e of') (hr:C2a T t k (id,kt,st,el,es,ho)=some (wo,ro)) (hof:of id=some (.sm kt st el es ho)) (hoo:∀ id∈ro,of' id=of id) (hx:C6 T e (.m id) x) (hy:C6 T e k y) :
  E3 P (do pure (.value (← Builtin.delete_ #[t,kt0] ty #[x,y]))) e.w (F6 T c e of' ⟨.x,wo,ro,[]⟩):=by
 unfold C2a at hr
 split at hr<;>try (cases hr;done)
 rename_i kt' et hk
 obtain ⟨tem,h1,h2⟩:=B5 hk
 have hu:=P7 (hT _ _ h1) h2
 split at hr<;>try (cases hr;done)
 rename_i kv hkv
 obtain ⟨hf,hkey⟩:=A2x hkv hy
 split at hr<;>try (cases hr;done)
 rename_i hc
 simp only [E0s] at hc
 have:=E0r hc.1;subst this
 have:=E0r hc.2;subst this
 injection hr with hr;injection hr with e1 e2;subst e1;subst e2
 have hof':=(hoo id (by simp)).trans hof
 obtain ⟨u1,u2,hks,hz,hz3,_⟩:=A8e h hof'
 obtain ⟨b,ms,clock,es',bs,v3,v4,vb,v6,v5,v8,v7,g⟩:=A4M hT h hof' hf hkey
 obtain ⟨b',_,_,u3,rfl⟩:=P8 hx
 rw [v3] at u3;cases u3
 have hg:(getObj b).run P e.w=.ok (.map ms clock) e.w:=MapKept.run_getObj_map v4
 have hck:∀ em,(Instr.checkKey em 10000 kt' y).run P e.w=.ok () e.w:=fun em=>Q0 hT em e.w EQD kt' 9992 kv y hf hkey
 have hset:∀ o,(setObj b o).run P e.w=.ok () { e.w with heap:=e.w.heap.setIfInBounds b o }:=fun o=>MapKept.run_setObj_map o v4
 have hids:(of' id).isSome:=by rw [hof'];rfl
 have hnb:∀ b',e.G b b'→b'≠b:=fun b' hG q=>h.g.sep _ _ hG _ _ _ hids v3 q.symm
 have oth:∀ (o:Go.Obj) (k:Nat),k≠b→({ e.w with heap:=e.w.heap.setIfInBounds b o }:World).heap[k]? = e.w.heap[k]? := fun o k hk=>by simp [Ne.symm hk]
 have hkp:∀ {cs:List Nat} (o:Go.Obj),∀ b'∈cs,e.G b b'→({ e with w:={ e.w with heap:=e.w.heap.setIfInBounds b o } }:B9).G b b'∧({ e.w with heap:=e.w.heap.setIfInBounds b o }:World).heap[b']? = e.w.heap[b']? ∧ ∀ i,({ e with w:={ e.w with heap:=e.w.heap.setIfInBounds b o } }:B9).S b' i→e.S b' i:=fun o b' _ hG=>⟨hG,oth o b' (hnb b' hG),fun _ hs=>hs⟩
 rcases g with ⟨g1,g2,g3⟩ | ⟨i,me,xv,q0,g1,hm1,hm2,g2,g3,g4⟩
 ·obtain ⟨q1,q2⟩:=h.writeM hof' v3 v4 (ms':=ms) (cl':=clock) rfl (o':=.sm kt' et el (A9o kv es) ho) (fun hle hh =>
   ⟨u1,u2,hks,hz,hz3,b,_,_,v3,hh,⟨A3W v5,vb⟩,es',bs,by rw [Z1,A2z (fun p hp=>g3 p (v6.mem_iff.2 hp))];exact v6,v7.keep' hle (hkp _)⟩)
  refine A3 (x:=.tuple #[]) ?_ ⟨_,rfl,q1,q2,fun j hj=>.inl hj,trivial⟩
  simp [Builtin.delete_,A5 hu,hg,hck,g1,hset]
 ·obtain ⟨b1,cs,k1,k2,k3,k4⟩:=v7.pull hm2 hm1
  obtain ⟨q1,q2⟩:=h.writeM hof' v3 v4 (ms':=ms.eraseIdxIfInBounds i) (cl':=clock) rfl (o':=.sm kt' et el (A9o kv es) ho) (fun hle hh =>
   ⟨u1,u2,hks,hz,hz3,b,_,_,v3,hh,⟨A3W v5,vb.erase i⟩,es'.eraseIdx i,cs,by rw [Z1,← A1E v8 hm2];exact v6.filter _,by
    rw [B0W hm1]
    exact k2.keep' hle (hkp _)⟩)
  refine A3 (x:=.tuple #[]) ?_ ⟨_,rfl,q1,q2,fun j hj=>.inl hj,trivial⟩
  simp [Builtin.delete_,A5 hu,hg,hck,g1,hset]
theorem SR.length {bs:List Nat} {ms:List MapEntry} (h:SR T e a kt st el ho es ms bs):es.length=ms.length:=by
 induction h with
 | nil=>rfl
 | cons _ _ _ ih=>simp [ih]
def C9i (T:TT) (t:Nat) (q:Nat×Nat×Nat×Nat×List (V×V×Bool)×Option V):Option (A×List Nat) :=
 match D2 T t with
 | some (.map _ _)=>if Nat.ble q.2.2.2.2.1.length 9223372036854775807 then some (.i .i64 (q.2.2.2.2.1.length:Nat),[q.1]) else none
 | _=>none
theorem C9j (hT:L8 T P) {of':Nat→Option Ob} {id t ty:TypeId} {r:A} {x:Value} {ro:List Nat} (h:A7 T c e of') (hr:C9i T t (id,kt,st,el,es,ho)=some (r,ro)) (hof:of id=some (.sm kt st el es ho)) (hoo:∀ id∈ro,of' id=of id) (hx:C6 T e (.m id) x) :
  E3 P (do pure (.value (← Builtin.len_ #[t] ty #[x]))) e.w (F6 T c e of' ⟨r,[],ro,[]⟩):=by
 unfold C9i at hr
 split at hr<;>try (cases hr;done)
 rename_i kt' et hk
 obtain ⟨tem,h1,h2⟩:=B5 hk
 have hu:=P7 (hT _ _ h1) h2
 split at hr<;>try (cases hr;done)
 rename_i hl
 injection hr with hr;injection hr with e1 e2;subst e1;subst e2
 have hof':=(hoo id (by simp)).trans hof
 obtain ⟨u1,u2,hks,hz,hz3,b,ms,clock,v3,v4,v5,es',bs,v6,v7⟩:=A8e h hof'
 obtain ⟨b',_,_,u3,rfl⟩:=P8 hx
 rw [v3] at u3;cases u3
 have hlen:ms.size=es.length:=by rw [← v6.length_eq,v7.length,E0y]
 have hg:(getObj b).run P e.w=.ok (.map ms clock) e.w:=MapKept.run_getObj_map v4
 refine A3 (x:=.int .i64 ms.size) (w':=e.w) (by simp [Builtin.len_,A5 hu,goInt,hg]) ?_
 rw [hlen]
 exact A9 h (P6 (A4N hl))
def D3J (pos:String):Bool:=pos == "naming.go:22"||pos == "naming.go:190"
def B2W (T:TT) (lend:Bool) (nx:Nat) (of:Nat→Option Ob) (t:Nat) (m k:A) (ok:Bool):Option Out :=
 match A6k of m with
 | some q=>bif lend&&!ok then A9M T nx t k q else (match A8f T t k ok q with
  | some (v,ro)=>some ⟨v,[],ro,[]⟩
  | none=>none)
 | none=>match B0t T of t m k ok with
  | some (v,ro)=>some ⟨v,[],ro,[]⟩
  | none=>none
theorem C2c (hT:L8 T P) {of':Nat→Option Ob} {nx t:Nat} {m k:A} {x y:Value} {lend ok:Bool} {out:Out} (h:A7 T c e of') (hr:B2W T lend nx of t m k ok=some out) (ho:∀ id∈out.ro,of' id=of id) (hu:∀ id∈out.nw,¬ e.U id) (hx:C6 T e m x) (hy:C6 T e k y) :
  E3 P (do pure (.value (← Instr.lookup t x y ok))) e.w (F6 T c e of' out):=by
 unfold B2W at hr
 split at hr
 ·rename_i q hq
  obtain ⟨id,kt,st,el,es,ho'⟩:=q
  obtain ⟨rfl,hof⟩:=A3s hq
  cases hl:lend&&!ok with
  | true =>
   rw [hl] at hr
   simp only [cond_true] at hr
   simp only [E0s,Bool.not_eq_true'] at hl
   obtain ⟨_,rfl⟩:=hl
   have A2:id∈out.ro:=by
    unfold A9M at hr
    (repeat' split at hr)<;>first | (cases hr;done) | (injection hr with hr;subst hr;simp)
   exact C18 hT h hr ((ho id A2).trans hof) hu hx hy
  | false =>
   rw [hl] at hr
   simp only [cond_false] at hr
   split at hr<;>try (cases hr;done)
   rename_i v ro hv
   injection hr with hr;subst hr
   have A2:id∈ro:=by
    unfold A8f at hv
    (repeat' split at hv)<;>first | (cases hv;done) | (injection hv with hv;injection hv with _ hv;subst hv;simp)
   exact C6l hT h hv ((ho id A2).trans hof) hx hy
 ·split at hr<;>try (cases hr;done)
  rename_i v ro hv
  injection hr with hr;subst hr
  exact C6d hT h hv ho hx hy
def C9k (T:TT) (of:Nat→Option Ob) (t:Nat) (m k v:A):Option (List (Nat×Ob)×List Nat) :=
 match A6k of m with
 | some q=>B9z T of t k v q
 | none=>C6e T of t m k v
theorem B7t (hT:L8 T P) {of':Nat→Option Ob} {t:Nat} {m k v:A} {x y z:Value} {wo:List (Nat×Ob)} {ro:List Nat} (h:A7 T c e of') (hr:C9k T of t m k v=some (wo,ro)) (ho:∀ id∈ro,of' id=of id) (hx:C6 T e m x) (hy:C6 T e k y) (hz:C6 T e v z) :
  E3 P (do Instr.mapUpdate t x y z;pure .skip) e.w (F6 T c e of' ⟨.x,wo,ro,[]⟩):=by
 unfold C9k at hr
 split at hr
 ·rename_i q hq
  obtain ⟨id,kt,st,el,es,ho'⟩:=q
  obtain ⟨rfl,hof⟩:=A3s hq
  exact C9h hT h hr hof ho hx hy hz
 ·exact D1K hT h hr ho hx hy hz
def C2d (T:TT) (of:Nat→Option Ob) (t:Nat) (m k:A):Option (List (Nat×Ob)×List Nat) :=
 match A6k of m with
 | some q=>C2a T t k q
 | none=>C6f T of t m k
theorem C2e (hT:L8 T P) {of':Nat→Option Ob} {t kt0 ty:TypeId} {m k:A} {x y:Value} {wo:List (Nat×Ob)} {ro:List Nat} (h:A7 T c e of') (hr:C2d T of t m k=some (wo,ro)) (ho:∀ id∈ro,of' id=of id) (hx:C6 T e m x) (hy:C6 T e k y) :
  E3 P (do pure (.value (← Builtin.delete_ #[t,kt0] ty #[x,y]))) e.w (F6 T c e of' ⟨.x,wo,ro,[]⟩):=by
 unfold C2d at hr
 split at hr
 ·rename_i q hq
  obtain ⟨id,kt,st,el,es,ho'⟩:=q
  obtain ⟨rfl,hof⟩:=A3s hq
  exact C2b hT h hr hof ho hx hy
 ·exact C6g hT h hr ho hx hy
def B9A (T:TT) (of:Nat→Option Ob) (t:Nat) (u:A):Option (A×List Nat) :=
 match A6k of u with
 | some q=>C9i T t q
 | none=>C6h T of t u
theorem C9l (hT:L8 T P) {of':Nat→Option Ob} {t ty:TypeId} {u r:A} {x:Value} {ro:List Nat} (h:A7 T c e of') (hr:B9A T of t u=some (r,ro)) (ho:∀ id∈ro,of' id=of id) (hx:C6 T e u x) :
  E3 P (do pure (.value (← Builtin.len_ #[t] ty #[x]))) e.w (F6 T c e of' ⟨r,[],ro,[]⟩):=by
 unfold B9A at hr
 split at hr
 ·rename_i q hq
  obtain ⟨id,kt,st,el,es,ho'⟩:=q
  obtain ⟨rfl,hof⟩:=A3s hq
  exact C9j hT h hr hof ho hx
 ·exact D1L hT h hr ho hx
def A6t (T:TT) (kt et:Nat):Ob :=
 match D2 T et with
 | some (.slice el)=>bif B0s T 8 el&&Nat.beq (C1 T et) 1&&Nat.blt 0 (C1 T el) then .sm kt et el [] none else A5x T kt et
 | _=>A5x T kt et
theorem A53 {t kt et id:Nat} (h:A7 T c e of) (ht:P.underlying t=some (.map kt et)) (hu:¬ e.U id) {r:Option Value} (hr:r=none∨∃ k n,r=some (.int k n)) {ro:List Nat} :
  E3 P (do pure (.value (← Instr.makeMap t r))) e.w (F6 T c e of ⟨.m id,[(id,A6t T kt et)],ro,[id]⟩):=by
 unfold A6t
 split
 ·rename_i el hk
  cases hc:B0s T 8 el&&Nat.beq (C1 T et) 1&&Nat.blt 0 (C1 T el) with
  | false=>exact A8c h ht hu hr
  | true =>
   simp only [E0s] at hc
   have hrun:(Instr.makeMap t r).run P e.w=.ok (.map (some e.w.heap.size)) (e.w.alloc (.map #[] 0)):=by
    rcases hr with rfl | ⟨k,n,rfl⟩
    ·simp [Instr.makeMap]
    ·simp [Instr.makeMap,A5 ht,asInt,asIntOf]
   have hok:OK T (e.newM id (.map #[] 0)) id (.sm kt et el [] none) :=
    ⟨.inl rfl,upd_same _ _ _,hk,E0r hc.1.2,by simpa [Nat.blt_eq] using hc.2,e.w.heap.size,#[],0,upd_same _ _ _,Q5 _ _,⟨List.nodup_nil,B7R⟩,[],[],List.Perm.refl _,.nil⟩
   refine A3 hrun ⟨e.newM id (.map #[] 0),rfl,h.newM hu hok,h.le_newM hu _,fun j hj=>hj.elim (fun q=>.inr (by simp [q])) .inl,?_⟩
   exact RA.r ⟨e.w.heap.size,.inl rfl,upd_same _ _ _,upd_same _ _ _,rfl⟩ rfl .nil
 ·exact A8c h ht hu hr
variable {P:Program} {T:TT} {c:P9} {e:B9} {of:Nat→Option Ob}
structure J2 where
 val:A
 wo:List (Nat×Ob)
 ro:List Nat
 nx:Nat
def V8 (T:TT) (c:P9) (e:B9) (of:Nat→Option Ob) (nx:Nat) (f:J2) (x:Value) (w':World):Prop :=
 ∃ e':B9,e'.w=w'∧A7 T c e' (put of f.wo)∧e.le e'∧(∀ id,e'.U id→e.U id∨(nx≤id∧id < f.nx))∧C6 T e' f.val x
inductive T7 (T:TT) (e:B9):List A→List Value→Prop
 | nil:T7 T e [] []
 | cons {v x r s}:C6 T e v x→T7 T e r s→T7 T e (v::r) (x::s)
abbrev Sym:=List A→(Nat→Option Ob)→Nat→Option J2
def J0 (P:Program) (T:TT) (f:FuncId) (s:Sym):Prop :=
 ∀ (c:P9) (e:B9) (of of':Nat→Option Ob) (args:List A) (vals:Array Value) (nx:Nat) (out:J2),A7 T c e of'→s args of nx=some out→(∀ id∈out.ro,of' id=of id)→(∀ id,nx≤id→id < out.nx→¬ e.U id)→T7 T e args vals.toList →
  E3 P (callFunc f vals) e.w (V8 T c e of' nx out)
def J2.pv (nx:Nat) (v:A) (ro:List Nat):J2:=⟨v,[],ro,nx⟩
def A5a (nx:Nat) (o:Option Out):Option J2 :=
 match o with
 | some ⟨v,wo,ro,nw⟩=>match nw with
  | []=>some ⟨v,wo,ro,nx⟩
  | [k]=>if Nat.beq k nx then some ⟨v,wo,ro,nx+1⟩ else none
  | _=>none
 | none=>none
theorem A0W {nx:Nat} {o:Option Out} {f:J2} (h:A5a nx o=some f):∃ out,o=some out∧f.ro=out.ro∧(∀ id∈out.nw,nx≤id∧id < f.nx)∧(∀ {c:P9} {e:B9} {of:Nat→Option Ob} {x w'},F6 T c e of out x w'→V8 T c e of nx f x w'):=by
 unfold A5a at h
 split at h<;>try (cases h;done)
 rename_i v wo ro nw
 split at h
 ·injection h with h;subst h
  refine ⟨_,rfl,rfl,?_,?_⟩
  ·intro id A2;cases A2
  ·rintro c e of x w' ⟨e',p1,p2,p3,p4,p5⟩
   exact ⟨e',p1,p2,p3,fun id A2=>(p4 id A2).elim .inl (fun q=>by cases q),p5⟩
 ·rename_i k
  split at h<;>try (cases h;done)
  rename_i hk
  have:=E0r hk;subst this
  injection h with h;subst h
  refine ⟨_,rfl,rfl,?_,?_⟩
  ·intro id A2
   simp only [List.mem_singleton] at A2;subst A2;exact ⟨Nat.le_refl _,Nat.lt_succ_self _⟩
  ·rintro c e of x w' ⟨e',p1,p2,p3,p4,p5⟩
   refine ⟨e',p1,p2,p3,fun id A2=>(p4 id A2).imp (fun q=>q) (fun q=>?_),p5⟩
   simp only [List.mem_singleton] at q;subst q;exact ⟨Nat.le_refl _,Nat.lt_succ_self _⟩
 ·cases h
theorem C9m {nx:Nat} {v:A} {ro:List Nat} {x:Value} {w':World} (h:F6 T c e of ⟨v,[],ro,[]⟩ x w'):V8 T c e of nx (.pv nx v ro) x w':=by
 obtain ⟨e',p1,p2,p3,p4,p5⟩:=h
 exact ⟨e',p1,p2,p3,fun id A2=>(p4 id A2).elim .inl (fun q=>by cases q),p5⟩
theorem C9n {nx:Nat} {v:A} {wo:List (Nat×Ob)} {ro:List Nat} {x:Value} {w':World} (h:F6 T c e of ⟨v,wo,ro,[]⟩ x w'):V8 T c e of nx ⟨v,wo,ro,nx⟩ x w':=by
 obtain ⟨e',p1,p2,p3,p4,p5⟩:=h
 exact ⟨e',p1,p2,p3,fun id A2=>(p4 id A2).elim .inl (fun q=>by cases q),p5⟩
theorem M3 {s:Sem Next} {w:World} {nx:Nat} {v:A} {ro:List Nat} (h:E3 P s w (F6 T c e of ⟨v,[],ro,[]⟩)):E3 P s w (V8 T c e of nx (.pv nx v ro)):=F8 h (fun _ _=>C9m)
theorem A2m {s:Sem Next} {w:World} {nx:Nat} {v:A} {wo:List (Nat×Ob)} {ro:List Nat} (h:E3 P s w (F6 T c e of ⟨v,wo,ro,[]⟩)):E3 P s w (V8 T c e of nx ⟨v,wo,ro,nx⟩):=F8 h (fun _ _=>C9n)
theorem OK.sh {id:Nat} {o:Ob} (h:OK T e id o):OK T e id (A6n o):=by
 cases o with
 | box t a sh =>
  obtain ⟨h1,h2,h2',h2'',b,cs,ty,fz,h3,h4,h5,h5',h6,h7⟩:=h
  exact ⟨h1,h2,h2',h2'',b,cs,ty,fz,h3,h4,h5,h5',h6,fun hh=>by cases hh⟩
 | row el ver xs nl sh =>
  obtain ⟨h1,h2,h3,h4,h4',h5,h6⟩:=h
  refine ⟨h1,h2,h3,h4,h4',h5,?_⟩
  rcases h6 with h6 | ⟨nn,b,o,cs,t,fz,pre,ys,post,g1,g2,g3,g4,g5,g6,g7,g8⟩
  ·exact .inl h6
  ·exact .inr ⟨nn,b,o,cs,t,fz,pre,ys,post,g1,g2,g3,g4,g5,g6,g7,fun hh=>by cases hh⟩
 | map kt et es=>exact h
 | vm kt et es=>exact h
 | sm _ _ _ _ _=>exact h
 | lp q=>exact h
 | it q=>exact h
theorem A7.weak {wo:List (Nat×Ob)} (h:A7 T c e of) (hw:A0A of wo):A7 T c e (put of wo):=by
 have key:∀ id,put of wo id=of id∨∃ o0,of id=some o0∧put of wo id=some (A6n o0):=fun id=>(A3D wo of of hw id (.inl rfl)).1
 have some':∀ id,(put of wo id).isSome→(of id).isSome:=fun id hs=>by
  rcases key id with k | ⟨o0,k1,k2⟩
  ·rw [← k];exact hs
  ·rw [k1];rfl
 refine ⟨fun id o ho=>?_,fun i j b o b' o' hi hj=>h.sep i j b o b' o' (some' _ hi) (some' _ hj),fun i b o hi=>h.own i b o (some' _ hi),h.lt,h.slt,h.s0,h.snew,h.os,h.tape,h.output,h.size,h.block,h.g.mono (fun _ _ q=>q) rfl (fun _ q=>q) (Nat.le_refl _) (fun j b o hj hb=>.inl ⟨j,o,some' j hj,hb⟩)⟩
 rcases key id with k | ⟨o0,k1,k2⟩
 ·rw [k] at ho;exact h.ok _ _ ho
 ·rw [k2] at ho;cases ho;exact (h.ok _ _ k1).sh
def shW (of:Nat→Option Ob):List Nat→List (Nat×Ob)
 | []=>[]
 | id::r=>match of id with
  | some o0=>bif A9y o0 then shW of r else (id,A6n o0)::shW of r
  | none=>shW of r
theorem C9o {of:Nat→Option Ob}:∀ l:List Nat,A0A of (shW of l)∧∀ id∈X5 (shW of l),id∈l:=by
 intro l
 induction l with
 | nil=>exact ⟨fun p hp=>(by cases hp),fun id h=>(by cases h)⟩
 | cons k r ih =>
  simp only [shW]
  split
  ·rename_i o0 ho0
   cases A9y o0 with
   | true=>exact ⟨ih.1,fun id h=>List.mem_cons_of_mem _ (ih.2 id h)⟩
   | false =>
    refine ⟨fun p hp=>?_,fun id h=>?_⟩
    ·rcases List.mem_cons.1 hp with rfl | hp
     ·exact ⟨o0,ho0,rfl⟩
     ·exact ih.1 p hp
    ·simp only [cond_false,X5,List.map_cons,List.mem_cons] at h
     rcases h with rfl | h
     ·exact List.mem_cons_self ..
     ·exact List.mem_cons_of_mem _ (ih.2 id h)
  ·exact ⟨ih.1,fun id h=>List.mem_cons_of_mem _ (ih.2 id h)⟩
def A0r (T:TT):A→Bool
 | .v t _=>X7 T t
 | .g _ _ | .t _ | .x=>false
 | _=>true
theorem C9p {a:A} {x:Value} (h:C6 T e a x) (hc:A0r T a=true):RA T e [a] [x]∧one x=true:=by
 cases a with
 | v t y =>
  simp only [A0r,X7,E0s] at hc
  have hk:∃ k,D2 T t=some k∧k.agg=false:=by
   cases hk:D2 T t with
   | none=>rw [hk] at hc;simp at hc
   | some k=>rw [hk] at hc;exact ⟨k,rfl,by simpa using hc.1⟩
  have:=F9 h hk
  exact ⟨RA.v1 this,this.one x (by simp)⟩
 | g _ _=>cases hc
 | t _=>cases hc
 | x=>cases hc
 | _=>exact ⟨h,RA.one_ h x (by simp)⟩
theorem C9q {a:A} {x:Value} (h:RA T e [a] [x]) (hc:A0r T a=true):C6 T e a x:=by
 have ho:=RA.one_ h x (by simp)
 cases a with
 | v t y =>
  simp only [A0r,X7,E0s] at hc
  refine ⟨by rw [K6 ho];exact h.v_inv,⟨fun ⟨k,h1,h2⟩=>?_,fun ⟨cs,hx⟩=>by subst hx;cases ho⟩⟩
  rw [h1] at hc;simp [h2] at hc
 | g _ _=>cases hc
 | t _=>cases hc
 | x=>cases hc
 | _=>exact h
theorem C2f {a:A} {d:List Value} (h:RA T e [a] d) (hc:A0r T a=true):∃ x,d=[x]:=by
 cases a with
 | v t y =>
  simp only [A0r] at hc
  have:=h.v_inv.one_len
  rw [J4 hc] at this
  exact List.length_eq_one_iff.1 this
 | g _ _=>cases hc
 | t _=>cases hc
 | x=>cases hc
 | _=>exact h.single rfl
theorem C9r:∀ {l:List A} {vs:List Value},T7 T e l vs→l.all (A0r T)=true→RA T e l vs:=by
 intro l vs h
 induction h with
 | nil=>intro _;exact .nil
 | @cons v x r s h1 _ ih =>
  intro hc
  simp only [List.all_cons,E0s] at hc
  exact RA.append (l:=[v]) (xs:=[x]) (C9p h1 hc.1).1 (ih hc.2)
theorem B7u:∀ {l:List A} {vs:List Value},RA T e l vs→l.all (A0r T)=true→T7 T e l vs:=by
 intro l
 induction l with
 | nil=>intro vs h _;cases h;exact .nil
 | cons a l ih =>
  intro vs h hc
  simp only [List.all_cons,E0s] at hc
  obtain ⟨d,r,rfl,h1,h2⟩:=h.uncons
  obtain ⟨x,rfl⟩:=C2f h1 hc.1
  exact .cons (C9q h1 hc.1) (ih h2 hc.2)
theorem T7.append {a b:List A} {x y:List Value} (h:T7 T e a x) (k:T7 T e b y):T7 T e (a++b) (x++y):=by
 induction h with
 | nil=>exact k
 | cons h1 _ ih=>exact .cons h1 ih
theorem T7.get {l:List A} {xs:List Value} (h:T7 T e l xs):xs.length=l.length∧∀ (i:Nat) v x,l[i]? = some v→xs[i]? = some x→C6 T e v x:=by
 induction h with
 | nil=>exact ⟨rfl,fun i v x h=>by simp at h⟩
 | cons h1 _ ih =>
  refine ⟨by simp [ih.1],fun i v x hv hx=>?_⟩
  cases i with
  | zero=>simp at hv hx;subst hv;subst hx;exact h1
  | succ i=>exact ih.2 i v x (by simpa using hv) (by simpa using hx)
theorem T7.mono {e e':B9} (he:e.le e') {l:List A} {xs:List Value} (h:T7 T e l xs):T7 T e' l xs:=by
 induction h with
 | nil=>exact .nil
 | cons h1 _ ih=>exact .cons (h1.mono he) ih
def B4S:Value→A
 | .int k n=>if B5Y k n then .i k n else .x
 | .bool b=>.b b
 | .string s=>.s (txt s)
 | v=>if A30 v then .z v else .x
theorem B9B (v:Value):C6 T e (B4S v) v:=by
 unfold B4S
 split
 ·split
  ·rename_i h;exact P6 (A8k h)
  ·trivial
 ·exact A45 _
 ·exact B4c _
 ·split
  ·rename_i h;exact RA.z h .nil
  ·trivial
def evO (sl:Nat→A):Operand→A
 | .tmp t=>sl t
 | .const v=>B4S v
 | .func f=>.f f []
 | .global _=>.x
theorem B4T {sl:Nat→A} {a:Act} {x:Operand} (h:∀ t,x=.tmp t→C6 T e (sl t) (a.tmps.getD t undef)):C6 T e (evO sl x) (a.eval x):=by
 cases x with
 | tmp t=>exact h t rfl
 | const v=>exact B9B v
 | global g=>trivial
 | func f=>exact RA.f .nil .nil
variable {P:Program} {T:TT} {c:P9} {e:B9} {of:Nat→Option Ob}
structure KS where
 f:Nat→Sym
 y:Nat→Sym
 ord:Nat→Bool
instance:CoeFun KS (fun _=>Nat→Sym):=⟨KS.f⟩
def YOK (P:Program) (T:TT) (id:Nat) (s:Sym):Prop :=
 ∀ (c:P9) (e:B9) (of of':Nat→Option Ob) (args:List A) (vals:Array Value) (nx:Nat) (out:J2) (b:Nat),A7 T c e of'→s args of nx=some out→(∀ id∈out.ro,of' id=of id)→(∀ id,nx≤id→id < out.nx→¬ e.U id)→T7 T e args vals.toList →
  e.U id→e.bn id=0→e.ι id=some (b,0)→E3 P (Instr.yield b vals) e.w (V8 T c e of' nx out)
structure W6 (P:Program) (T:TT) (K:KS):Prop where
 f:∀ f,J0 P T f (K.f f)
 y:∀ id,YOK P T id (K.y id)
 ord:∀ f,K.ord f=true→∀ (vals:Array Value) (w:World),(callFunc f vals).run P w=.ok (.enter f vals) w
def KS.no (f:Nat→Sym):KS:=⟨f,fun _ _ _ _=>none,fun _=>false⟩
theorem B9C {id:Nat} {v:Value} (h:C6 T e (.y id) v):∃ b,e.U id∧e.bn id=0∧e.ι id=some (b,0)∧v=.func (.yield b) #[] #[]:=by
 have h:RA T e [.y id] [v]:=h
 cases h with
 | r h1 _ _=>exact h1
def A1T (T:TT) (K:KS) (ev:Operand→A) (of:Nat→Option Ob) (nx:Nat) (k:Call):Option J2 :=
 match k.callee with
 | .value f=>match ev f with
  | .f fn cap=>if cap.all (A0r T) then K fn (k.args.toList.map ev++cap) of nx else none
  | .y id=>K.y id (k.args.toList.map ev) of nx
  | _=>none
 | .builtin .len=>match k.argTypes.toList,k.args.toList with
  | [t],[x]=>match B9A T of t (ev x) with
   | some (v,ro)=>some (.pv nx v ro)
   | none=>none
  | _,_=>none
 | .builtin .cap=>match k.argTypes.toList,k.args.toList with
  | [t],[x]=>match D66 T t (ev x) with
   | some v=>some (.pv nx v [])
   | none=>none
  | _,_=>none
 | .builtin .append=>match k.argTypes.toList,k.args.toList with
  | [t,xt],[x,y]=>if A44 T xt (ev y) then A5a nx (A43 T of nx t (ev x) (ev y)) else if isQ T (ev x) then A5a nx (B12 T nx t xt (ev x) (ev y)) else none
  | _,_=>none
 | .builtin .min=>match k.args.toList with
  | [x,y]=>match C0H false (ev x) (ev y) with
   | some v=>some (.pv nx v [])
   | none=>none
  | _=>none
 | .builtin .max=>match k.args.toList with
  | [x,y]=>match C0H true (ev x) (ev y) with
   | some v=>some (.pv nx v [])
   | none=>none
  | _=>none
 | .builtin .delete=>match k.argTypes.toList,k.args.toList with
  | [t,_],[x,y]=>match C2d T of t (ev x) (ev y) with
   | some (wo,ro)=>some ⟨.x,wo,ro,nx⟩
   | none=>none
  | _,_=>none
 | .builtin .copy=>match k.argTypes.toList,k.args.toList with
  | [t,xt],[x,y]=>match A0H T of t xt (ev x) (ev y) with
   | some (v,wo,ro)=>some ⟨v,wo,ro,nx⟩
   | none=>none
  | _,_=>none
 | _=>none
theorem R6 {s s':Sem Next} {w:World} {R:Value→World→Prop} (h:∀ w,s.run P w=s'.run P w) (hd:E3 P s' w R):E3 P s w R:=by
 unfold E3 at hd ⊢
 rw [h];exact hd
theorem B4U {α:Type} {a:Array α} {x:α} (h:a.toList=[x]):a=#[x]:=by
 have:=congrArg List.toArray h;simpa using this
theorem A2P {α:Type} {a:Array α} {x y:α} (h:a.toList=[x,y]):a=#[x,y]:=by
 have:=congrArg List.toArray h;simpa using this
theorem A68 {ev:Operand→A} {ρ:Operand→Value} (hx:∀ x,C6 T e (ev x) (ρ x)):∀ l:List Operand,T7 T e (l.map ev) (l.map ρ):=by
 intro l
 induction l with
 | nil=>exact .nil
 | cons x r ih=>exact .cons (hx x) ih
theorem C2g (hT:L8 T P) {K:KS} (hK:W6 P T K) {of':Nat→Option Ob} {nx:Nat} {k:Call} {ev:Operand→A} {ρ:Operand→Value} {out:J2} (h:A7 T c e of') (hr:A1T T K ev of nx k=some out) (ho:∀ id∈out.ro,of' id=of id)
  (hu:∀ id,nx≤id→id < out.nx→¬ e.U id) (hx:∀ x,C6 T e (ev x) (ρ x)) (ty:TypeId) :
  E3 P (do let d ← resolve ρ k ty;invoke d.target d.args) e.w (V8 T c e of' nx out):=by
 unfold A1T at hr
 split at hr
 ·rename_i f hk
  split at hr<;>try (cases hr;done)
  case h_2 id hf =>
   have hf':=hx f
   rw [hf] at hf'
   obtain ⟨b,y1,y2,y3,hv⟩:=B9C hf'
   have q1:=hK.y id c e of of' _ (k.args.map ρ) nx out b h hr ho hu (by rw [Array.toList_map];exact A68 hx _) y1 y2 y3
   refine R6 (s':=Instr.yield b (k.args.map ρ)) (fun w=>?_) q1
   simp [resolve,hk,hv,Deferred.ofValue,invoke]
  rename_i fn cap hf
  split at hr<;>try (cases hr;done)
  rename_i hcap
  have hf':=hx f
  rw [hf] at hf'
  obtain ⟨vs,hv,hvs⟩:=A2b hf'
  have hcaps:=B7u hvs hcap
  have q1:=hK.f fn c e of of' _ (k.args.map ρ++vs.toArray) nx out h hr ho hu (by rw [Array.toList_append,Array.toList_map];exact (A68 hx _).append hcaps)
  refine R6 (s':=callFunc fn (k.args.map ρ++vs.toArray)) (fun w=>?_) q1
  simp [resolve,hk,hv,Deferred.ofValue,invoke]
 ·rename_i hk
  split at hr<;>try (cases hr;done)
  rename_i t x hty har
  split at hr<;>try (cases hr;done)
  rename_i v ro hl
  injection hr with hr;subst hr
  have hrun:∀ w,(do let d ← resolve ρ k ty;invoke d.target d.args:Sem Next).run P w=(do pure (.value (← Builtin.len_ #[t] ty #[ρ x])):Sem Next).run P w:=fun w=>by
   simp [resolve,hk,invoke,builtin,B4U hty,B4U har]
  exact R6 hrun (M3 (C9l hT h hl ho (hx x)))
 ·rename_i hk
  split at hr<;>try (cases hr;done)
  rename_i t x hty har
  split at hr<;>try (cases hr;done)
  rename_i v hl
  injection hr with hr;subst hr
  have hrun:∀ w,(do let d ← resolve ρ k ty;invoke d.target d.args:Sem Next).run P w=(do pure (.value (← Builtin.cap_ #[t] ty #[ρ x])):Sem Next).run P w:=fun w=>by
   simp [resolve,hk,invoke,builtin,B4U hty,B4U har]
  exact R6 hrun (M3 (D1P hT h hl (hx x)))
 ·rename_i hk
  split at hr<;>try (cases hr;done)
  rename_i t xt x y hty har
  have hrun:∀ w,(do let d ← resolve ρ k ty;invoke d.target d.args:Sem Next).run P w=(do pure (.value (← Builtin.append_ #[t,xt] ty #[ρ x,ρ y])):Sem Next).run P w:=fun w=>by
   simp [resolve,hk,invoke,builtin,A2P hty,A2P har]
  split at hr
  ·rename_i hap
   obtain ⟨o2,h2,h3,h4,h5⟩:=A0W hr
   exact R6 hrun (F8 (B6u h hT hap h2 (by rw [← h3];exact ho) (fun id A2=>hu id (h4 id A2).1 (h4 id A2).2) (hx x) (hx y)) (fun _ _=>h5))
  ·split at hr<;>try (cases hr;done)
   rename_i hq
   obtain ⟨o2,h2,h3,h4,h5⟩:=A0W hr
   exact R6 hrun (F8 (C0w hT h h2 hq (fun id A2=>hu id (h4 id A2).1 (h4 id A2).2) (hx x) (hx y)) (fun _ _=>h5))
 ·rename_i hk
  split at hr<;>try (cases hr;done)
  rename_i x y har
  split at hr<;>try (cases hr;done)
  rename_i v hl
  injection hr with hr;subst hr
  have hrun:∀ w,(do let d ← resolve ρ k ty;invoke d.target d.args:Sem Next).run P w=(do pure (.value (← Builtin.min_ k.argTypes ty #[ρ x,ρ y])):Sem Next).run P w:=fun w=>by
   simp [resolve,hk,invoke,builtin,A2P har]
  exact R6 hrun (M3 (D67 h hl (hx x) (hx y)))
 ·rename_i hk
  split at hr<;>try (cases hr;done)
  rename_i x y har
  split at hr<;>try (cases hr;done)
  rename_i v hl
  injection hr with hr;subst hr
  have hrun:∀ w,(do let d ← resolve ρ k ty;invoke d.target d.args:Sem Next).run P w=(do pure (.value (← Builtin.max_ k.argTypes ty #[ρ x,ρ y])):Sem Next).run P w:=fun w=>by
   simp [resolve,hk,invoke,builtin,A2P har]
  exact R6 hrun (M3 (D68 h hl (hx x) (hx y)))
 ·rename_i hk
  split at hr<;>try (cases hr;done)
  rename_i t t2 x y hty har
  split at hr<;>try (cases hr;done)
  rename_i wo ro hl
  injection hr with hr;subst hr
  have hrun:∀ w,(do let d ← resolve ρ k ty;invoke d.target d.args:Sem Next).run P w=(do pure (.value (← Builtin.delete_ #[t,t2] ty #[ρ x,ρ y])):Sem Next).run P w:=fun w=>by
   simp [resolve,hk,invoke,builtin,A2P hty,A2P har]
  exact R6 hrun (A2m (C2e hT h hl ho (hx x) (hx y)))
 ·rename_i hk
  split at hr<;>try (cases hr;done)
  rename_i t xt x y hty har
  split at hr<;>try (cases hr;done)
  rename_i v wo ro hl
  injection hr with hr;subst hr
  have hrun:∀ w,(do let d ← resolve ρ k ty;invoke d.target d.args:Sem Next).run P w=(do pure (.value (← Builtin.copy_ #[t,xt] ty #[ρ x,ρ y])):Sem Next).run P w:=fun w=>by
   simp [resolve,hk,invoke,builtin,A2P hty,A2P har]
  exact R6 hrun (A2m (C59 hT h hl ho (hx x) (hx y)))
 ·cases hr
def A5b (ev:Operand→A) (parts:List (Nat×Operand)):List (Nat×A):=parts.map fun p=>(p.1,ev p.2)
theorem A9N {ev:Operand→A} {ρ:Operand→Value} (hx:∀ x,C6 T e (ev x) (ρ x)):∀ (l:List (Nat×Operand)),A8Q T e (A5b ev l) (l.map fun p=>(p.1,ρ p.2)):=by
 intro l
 induction l with
 | nil=>exact .nil
 | cons p r ih=>exact .cons (hx _) ih
theorem B0X {ev:Operand→A} {ρ:Operand→Value} (hx:∀ x,C6 T e (ev x) (ρ x)) (o:Option Operand):A0V T e (o.map ev) (o.map ρ):=by
 cases o with
 | none=>exact .none
 | some x=>exact .some (hx x)
def B7v (T:TT) (ty nx:Nat) (u:A):J2 :=
 match u with
 | .z v=>match D2 T ty with
  | some (.slice el)=>if A8N v&&Nat.blt 0 (C1 T el) then ⟨.o nx 1,[(nx,.row el 1 [] true false)],[],nx+1⟩ else .pv nx u []
  | _=>.pv nx u []
 | _=>.pv nx u []
def A2n (T:TT) (nx t:Nat) (u v:A):Option J2 :=
 match D2 T t,u,v with
 | some (.slice el),.i _ a,.i _ b=>match T el with
  | some te=>if Nat.blt 0 te.size&&TK.notOther te.k&&Nat.ble te.bytes 131072&&F2 0 a&&F2 a b&&F2 b LIM then some ⟨.o nx 1,[(nx,.row el 1 (List.replicate a.toNat te.zero) false false)],[],nx+1⟩ else none
  | none=>none
 | _,_,_=>none
def B2X (T:TT) (nx t:Nat) (r:Option A):Option J2 :=
 match D2 T t with
 | some (.map kt et)=>match r with
  | none=>some ⟨.m nx,[(nx,A6t T kt et)],[],nx+1⟩
  | some (.i _ _)=>some ⟨.m nx,[(nx,A6t T kt et)],[],nx+1⟩
  | _=>none
 | _=>none
def B9D (T:TT) (of:Nat→Option Ob) (nx t:Nat) (m k v:A):Option J2 :=
 match C9k T of t m k v with
 | some (wo,ro)=>some ⟨.x,wo,ro,nx⟩
 | none=>none
def pvO (nx:Nat) (o:Option A):Option J2 :=
 match o with
 | some v=>some (.pv nx v [])
 | none=>none
def pvR (nx:Nat) (o:Option (A×List Nat)):Option J2 :=
 match o with
 | some (v,ro)=>some (.pv nx v ro)
 | none=>none
def pvW (nx:Nat) (o:Option (A×List (Nat×Ob)×List Nat)):Option J2 :=
 match o with
 | some (v,wo,ro)=>some ⟨v,wo,ro,nx⟩
 | none=>none
def X2 (T:TT) (K:KS) (ev:Operand→A) (of:Nat→Option Ob) (nx:Nat) (o:Oper):Option J2 :=
 match o.op with
 | .move x=>some (.pv nx (ev x) [])
 | .assign x=>some (B7v T o.type nx (ev x))
 | .pick q a b=>match ev q with
  | .b t=>some (.pv nx (bif t then ev a else ev b) [])
  | _=>none
 | .alloc el=>match T el with
  | some te=>if TK.notOther te.k then some ⟨.p nx el [],[(nx,.box el (.v el te.zero) false)],[],nx+1⟩ else none
  | none=>none
 | .box el x=>match V7 T el (ev x) with
  | some a=>some ⟨.p nx el [],[(nx,.box el a false)],[],nx+1⟩
  | none=>none
 | .build t parts=>match B6z T t (A5b ev parts.toList) with
  | some v=>some (.pv nx v [])
  | none=>none
 | .buildSlice t len parts=>A5a nx (A3e T of nx t len (A5b ev parts.toList))
 | .load t a=>pvR nx (C6o T of t (ev a))
 | .store t a x=>match B5V T of t (ev a) (ev x) with
  | some (wo,ro)=>some ⟨.x,wo,ro,nx⟩
  | none=>none
 | .sliceToArrayPointer t x=>pvW nx (B5Z T of t (ev x))
 | .nilCheck x=>match D7b of (ev x) with
  | some ro=>some (.pv nx (ev x) ro)
  | none=>none
 | .binOp op t x y _=>pvR nx (B5T T of op t (ev x) (ev y))
 | .unOp op _ x=>pvO nx (unA op (ev x))
 | .convert s t x=>A5a nx (A8j T of nx s t (ev x))
 | .makeFunc fn first captured=>match fn with
  | .func f=>if Nat.beq first.toList.length 0&&(captured.toList.map ev).all (A0r T) then some (.pv nx (.f f (captured.toList.map ev)) []) else none
  | _=>none
 | .makeSlice t l k=>A2n T nx t (ev l) (ev k)
 | .makeMap t r=>B2X T nx t (r.map ev)
 | .lookup t m k ok=>A5a nx (B2W T (D3J o.pos) nx of t (ev m) (ev k) ok)
 | .mapUpdate t m k v=>B9D T of nx t (ev m) (ev k) (ev v)
 | .insert t m k v=>B9D T of nx t (ev m) (ev k) (ev v)
 | .slice t x lo hi mx=>pvW nx (A5A T of t (ev x) (lo.map ev) (hi.map ev) (mx.map ev))
 | .fieldAddr s x f=>pvR nx (A32 T of s f (ev x))
 | .field s x f=>pvO nx (B5W T s f (ev x))
 | .indexAddr t x ix=>match ev ix with
  | .i _ i=>pvR nx (A1h T of t i (ev x))
  | _=>none
 | .index t x ix=>match ev ix with
  | .i _ i=>pvO nx (A8i T t i (ev x))
  | _=>none
 | .extract x i=>pvO nx (D7a i (ev x))
 | .call k=>A1T T K ev of nx k
 | .range t x=>A5a nx (B5Q T of nx t (ev x))
 | .next x str=>if str then none else pvR nx (C6i of (ev x))
 | _=>none
theorem A4h {nx:Nat} {o:Option A} {f:J2} (h:pvO nx o=some f):∃ v,o=some v∧f=.pv nx v []:=by
 unfold pvO at h
 split at h
 ·injection h with h;exact ⟨_,rfl,h.symm⟩
 ·cases h
theorem A2U {nx:Nat} {o:Option (A×List Nat)} {f:J2} (h:pvR nx o=some f):∃ v ro,o=some (v,ro)∧f=.pv nx v ro:=by
 unfold pvR at h
 split at h
 ·injection h with h;exact ⟨_,_,rfl,h.symm⟩
 ·cases h
theorem B2Y {nx:Nat} {o:Option (A×List (Nat×Ob)×List Nat)} {f:J2} (h:pvW nx o=some f):∃ v wo ro,o=some (v,wo,ro)∧f=⟨v,wo,ro,nx⟩:=by
 unfold pvW at h
 split at h
 ·injection h with h;exact ⟨_,_,_,rfl,h.symm⟩
 ·cases h
theorem A1U {s:Sem Next} {w:World} {nx id:Nat} {v:A} {wo:List (Nat×Ob)} {ro:List Nat} (hd:E3 P s w (F6 T c e of ⟨v,wo,ro,[nx]⟩)):E3 P s w (V8 T c e of nx ⟨v,wo,ro,nx+1⟩) :=
 F8 hd (fun _ _ ⟨e',p1,p2,p3,p4,p5⟩=>⟨e',p1,p2,p3,fun id A2=>(p4 id A2).imp (fun q=>q) (fun q=>by simp only [List.mem_singleton] at q;subst q;exact ⟨Nat.le_refl _,Nat.lt_succ_self _⟩),p5⟩)
theorem B9E (hT:L8 T P) {K:KS} (hK:W6 P T K) {of':Nat→Option Ob} {nx:Nat} {o:Oper} {ev:Operand→A} {ρ:Operand→Value} {out:J2} (h:A7 T c e of') (hr:X2 T K ev of nx o=some out) (ho:∀ id∈out.ro,of' id=of id) (hu:∀ id,nx≤id→id < out.nx→¬ e.U id)
  (hc:∀ v,ρ (.const v)=v) (hx:∀ x,C6 T e (ev x) (ρ x)):E3 P (execOp ρ o) e.w (V8 T c e of' nx out):=by
 have pure':∀ {v:A} {x:Value} {s:Sem Next},s=pure (.value x)→C6 T e v x→E3 P s e.w (V8 T c e of' nx (.pv nx v [])):=fun {v x s} hs hv=>by
  subst hs
  exact M3 (.inl ⟨x,e.w,by simp,A9 h hv⟩)
 obtain ⟨dst,op,ty,pos,after,guard⟩:=o
 cases op<;>simp only [X2] at hr<;>try (cases hr;done)
 case move x =>
  injection hr with hr;subst hr
  exact pure' rfl (hx x)
 case assign x =>
  injection hr with hr
  unfold B7v at hr
  split at hr
  ·rename_i v hv
   split at hr
   ·rename_i el hk
    split at hr
    ·rename_i hcc
     simp only [E0s] at hcc
     subst hr
     have hxx:=hx x
     rw [hv] at hxx
     have hxv:ρ x=.slice none 0 0:=by
      have hxx:RA T e [.z v] [ρ x]:=hxx
      generalize ρ x=r at hxx
      cases hxx with
      | z _ _=>exact A2D hcc.1
      | r g1 _ _=>exact g1.elim
     refine A1U (id:=nx) (.inl ⟨.slice none 0 0,e.w,by simp [execOp,hxv],B4b (nl:=true) h (hu nx (Nat.le_refl _) (Nat.lt_succ_self _)) rfl (by simpa [Nat.blt_eq] using hcc.2)⟩)
    ·subst hr;exact pure' rfl (hv ▸ hx x)
   ·subst hr;exact pure' rfl (hv ▸ hx x)
  ·subst hr;exact pure' rfl (hx x)
 case pick q a b =>
  split at hr<;>try (cases hr;done)
  rename_i t hq
  injection hr with hr;subst hr
  have hq':=hx q
  rw [hq] at hq'
  have e1:=A00 hq'
  refine M3 (.inl ⟨if t then ρ a else ρ b,e.w,by simp [execOp,e1,asBool],A9 h ?_⟩)
  cases t
  ·exact hx b
  ·exact hx a
 case alloc el =>
  split at hr<;>try (cases hr;done)
  rename_i te hte
  split at hr<;>try (cases hr;done)
  rename_i hne
  injection hr with hr;subst hr
  exact A1U (id:=nx) (B9W h hT hte hne (hu nx (Nat.le_refl _) (Nat.lt_succ_self _)))
 case box el x =>
  split at hr<;>try (cases hr;done)
  rename_i a ha
  injection hr with hr;subst hr
  exact A1U (id:=nx) (D0M h (hu nx (Nat.le_refl _) (Nat.lt_succ_self _)) (hx x) ha)
 case build t parts =>
  split at hr<;>try (cases hr;done)
  rename_i v h2
  injection hr with hr;subst hr
  have:=C1e (ro:=[]) hT h (A9N hx parts.toList) h2
  rw [← Array.toList_map,Array.toArray_toList] at this
  exact M3 this
 case buildSlice t len parts =>
  obtain ⟨o2,h2,h3,h4,h5⟩:=A0W hr
  have:=A8T h hT h2 (by rw [← h3];exact ho) (fun id A2=>hu id (h4 id A2).1 (h4 id A2).2) (A9N hx parts.toList)
  rw [← Array.toList_map,Array.toArray_toList] at this
  exact F8 this (fun _ _=>h5)
 case load t a =>
  obtain ⟨v,ro,h2,rfl⟩:=A2U hr
  exact M3 (C6p hT h h2 ho (hx a))
 case store t a x =>
  split at hr<;>try (cases hr;done)
  rename_i wo ro h2
  injection hr with hr;subst hr
  exact A2m (C0B hT h h2 ho (hx a) (hx x))
 case sliceToArrayPointer t x =>
  obtain ⟨v,wo,ro,h2,rfl⟩:=B2Y hr
  exact A2m (D1S hT h h2 ho (hx x))
 case nilCheck x =>
  split at hr<;>try (cases hr;done)
  rename_i ro h2
  injection hr with hr;subst hr
  exact M3 (D1R rfl h h2 ho (hx x))
 case binOp op t x y t2 =>
  obtain ⟨v,ro,h2,rfl⟩:=A2U hr
  exact M3 (C0A hT h (hx x) (hx y) h2 ho)
 case unOp op t x =>
  obtain ⟨v,h2,rfl⟩:=A4h hr
  exact M3 (D69 h h2 (hx x))
 case convert s t x =>
  obtain ⟨o2,h2,h3,h4,h5⟩:=A0W hr
  exact F8 (C6s hT h h2 (by rw [← h3];exact ho) (fun id A2=>hu id (h4 id A2).1 (h4 id A2).2) (hx x)) (fun _ _=>h5)
 case makeFunc fn first captured =>
  split at hr<;>try (cases hr;done)
  rename_i f
  split at hr<;>try (cases hr;done)
  rename_i hcc
  simp only [E0s] at hcc
  injection hr with hr;subst hr
  have h0:first=#[]:=by
   have:=E0r hcc.1
   rw [E0y] at this
   exact Array.eq_empty_of_size_eq_zero this
  refine M3 (.inl ⟨.func (.func f) #[] (captured.map ρ),e.w,by simp [execOp,Instr.makeFunc,h0],A9 h ?_⟩)
  have:=RA.f (fn:=f) (C9r (A68 hx captured.toList) hcc.2) .nil
  have e1:captured.map ρ=(captured.toList.map ρ).toArray:=Array.ext' (by rw [Array.toList_map])
  rw [e1]
  exact this
 case makeSlice t l k =>
  unfold A2n at hr
  split at hr<;>try (cases hr;done)
  rename_i el k1 a k2 b hk hl hkk
  split at hr<;>try (cases hr;done)
  rename_i te hte
  split at hr<;>try (cases hr;done)
  rename_i hcc
  simp only [E0s,C5] at hcc
  obtain ⟨⟨⟨⟨⟨c1,c2⟩,c3⟩,c4⟩,c5⟩,c6⟩:=hcc
  injection hr with hr;subst hr
  obtain ⟨te',h1,h2⟩:=B5 hk
  have hl':=hx l
  have hk':=hx k
  rw [hl] at hl'
  rw [hkk] at hk'
  have e1:=F1 hl'
  have e2:=F1 hk'
  refine ?_
  show E3 P (do pure (.value (← Instr.makeSlice t (ρ l) (ρ k)))) _ _
  rw [e1,e2]
  have hb:=E0x c3
  have hbb:b * te.bytes≤140737488355328:=by
   have h1:(b:Int)≤1073741824:=c6
   have h2:(te.bytes:Int)≤131072:=by omega
   calc b * te.bytes≤1073741824 * te.bytes:=Int.mul_le_mul_of_nonneg_right h1 (by omega)
    _≤1073741824 * 131072:=Int.mul_le_mul_of_nonneg_left h2 (by omega)
    _≤140737488355328:=by omega
  have h63:b≤4611686018427387904:=by have h1:(b:Int)≤1073741824:=c6;omega
  exact A1U (id:=nx) (C7s (ro:=[]) h hT (H3 (hT _ _ h1) h2) hte (Z4 c2) (hu nx (Nat.le_refl _) (Nat.lt_succ_self _)) (by simpa [Nat.blt_eq] using c1) c4 c5 hbb h63)
 case makeMap t r =>
  unfold B2X at hr
  split at hr<;>try (cases hr;done)
  rename_i kt et hk
  obtain ⟨te',h1,h2⟩:=B5 hk
  split at hr<;>try (cases hr;done)
  ·rename_i hrn
   have hr0:r=none:=by cases r<;>first | rfl | (simp at hrn;done)
   subst hr0
   injection hr with hr;subst hr
   exact A1U (id:=nx) (A53 h (P7 (hT _ _ h1) h2) (hu nx (Nat.le_refl _) (Nat.lt_succ_self _)) (.inl rfl))
  ·rename_i k n hrn
   obtain ⟨x,rfl,hxn⟩:∃ x,r=some x∧ev x=.i k n:=by cases r<;>simp at hrn;exact ⟨_,rfl,hrn⟩
   injection hr with hr;subst hr
   have hx':=hx x
   rw [hxn] at hx'
   exact A1U (id:=nx) (A53 h (P7 (hT _ _ h1) h2) (hu nx (Nat.le_refl _) (Nat.lt_succ_self _)) (.inr ⟨k,n,by rw [← F1 hx'];rfl⟩))
 case lookup t m k ok =>
  obtain ⟨o2,h2,h3,h4,h5⟩:=A0W hr
  exact F8 (C2c hT h h2 (by rw [← h3];exact ho) (fun id A2=>hu id (h4 id A2).1 (h4 id A2).2) (hx m) (hx k)) (fun _ _=>h5)
 case mapUpdate t m k v =>
  unfold B9D at hr
  split at hr<;>try (cases hr;done)
  rename_i wo ro h2
  injection hr with hr;subst hr
  exact A2m (B7t hT h h2 ho (hx m) (hx k) (hx v))
 case insert t m k v =>
  unfold B9D at hr
  split at hr<;>try (cases hr;done)
  rename_i wo ro h2
  injection hr with hr;subst hr
  exact A2m (B7t hT h h2 ho (hx m) (hx k) (hx v))
 case slice t x lo hi mx =>
  obtain ⟨v,wo,ro,h2,rfl⟩:=B2Y hr
  exact A2m (C0I hT h h2 ho (hx x) (B0X hx lo) (B0X hx hi) (B0X hx mx))
 case fieldAddr s x f =>
  obtain ⟨v,ro,h2,rfl⟩:=A2U hr
  exact M3 (A9r hT h h2 ho (hx x))
 case field s x f =>
  obtain ⟨v,h2,rfl⟩:=A4h hr
  exact M3 (C0C hT h h2 (hx x))
 case indexAddr t x ix =>
  split at hr<;>try (cases hr;done)
  rename_i kk i hi
  obtain ⟨v,ro,h2,rfl⟩:=A2U hr
  have hi':=hx ix
  rw [hi] at hi'
  have e1:=F1 hi'
  refine ?_
  show E3 P (do pure (.value (← Instr.indexAt t (ρ x) (ρ ix)))) _ _
  rw [e1]
  exact M3 (A9s hT h h2 ho (hx x))
 case index t x ix =>
  split at hr<;>try (cases hr;done)
  rename_i kk i hi
  obtain ⟨v,h2,rfl⟩:=A4h hr
  have hi':=hx ix
  rw [hi] at hi'
  have e1:=F1 hi'
  refine ?_
  show E3 P (do pure (.value (← Instr.index t (ρ x) (ρ ix)))) _ _
  rw [e1]
  exact M3 (C0D hT h h2 (hx x))
 case extract x i =>
  obtain ⟨v,h2,rfl⟩:=A4h hr
  exact M3 (D1Q h h2 (hx x))
 case call k=>exact C2g hT hK h hr ho hu hx ty
 case range t x =>
  obtain ⟨o2,h2,h3,h4,h5⟩:=A0W hr
  exact F8 (C0x hT h h2 (by rw [← h3];exact ho) (fun id A2=>hu id (h4 id A2).1 (h4 id A2).2) (hx x)) (fun _ _=>h5)
 case next x str =>
  split at hr<;>try (cases hr;done)
  rename_i hstr
  have hs:str=false:=by simpa using hstr
  subst hs
  obtain ⟨v,ro,h2,rfl⟩:=A2U hr
  exact M3 (C6j h h2 ho (hx x))
variable {P:Program} {T:TT} {c:P9} {e eb:B9} {of:Nat→Option Ob}
inductive Tr where
 | e
 | n (v:Option Ob) (l r:Tr)
def Tr.get:Tr→Nat→Option Ob
 | .e,_=>none
 | .n v l r,k=>match k with
  | 0=>v
  | k+1=>match Nat.mod k 2 with
   | 0=>l.get (Nat.div k 2)
   | _=>r.get (Nat.div k 2)
def Tr.setF:Nat→Tr→Nat→Ob→Tr
 | 0,t,_,_=>t
 | f+1,.e,k,o=>match k with
  | 0=>.n (some o) .e .e
  | k+1=>match Nat.mod k 2 with
   | 0=>.n none (setF f .e (Nat.div k 2) o) .e
   | _=>.n none .e (setF f .e (Nat.div k 2) o)
 | f+1,.n v l r,k,o=>match k with
  | 0=>.n (some o) l r
  | k+1=>match Nat.mod k 2 with
   | 0=>.n v (setF f l (Nat.div k 2) o) r
   | _=>.n v l (setF f r (Nat.div k 2) o)
def Tr.set (t:Tr) (k:Nat) (o:Ob):Tr:=setF (k+1) t k o
theorem Tr.get_e (k:Nat):Tr.get .e k=none:=by cases k<;>rfl
theorem Tr.get_s (v:Option Ob) (l r:Tr) (k:Nat):Tr.get (.n v l r) (k+1)=if k % 2=0 then l.get (k / 2) else r.get (k / 2):=by
 show (match Nat.mod k 2 with | 0=>l.get (Nat.div k 2) | _=>r.get (Nat.div k 2))=_
 have e1:Nat.mod k 2=k % 2:=rfl
 have e2:Nat.div k 2=k / 2:=rfl
 rw [e1,e2]
 rcases Nat.mod_two_eq_zero_or_one k with h | h<;>rw [h]<;>rfl
theorem Tr.get_setF:∀ (f:Nat) (t:Tr) (k:Nat) (o:Ob) (j:Nat),k < f→(setF f t k o).get j=if j=k then some o else t.get j:=by
 intro f
 induction f with
 | zero=>intro t k o j h;omega
 | succ f ih =>
  intro t k o j h
  have hdiv:∀ m:Nat,m+1 < f+1→m / 2 < f:=fun m hm=>by omega
  have key:∀ (m:Nat) (hm:k=m+1) (v:Option Ob) (l r:Tr),(match Nat.mod m 2 with | 0=>Tr.n v (setF f l (Nat.div m 2) o) r | _=>Tr.n v l (setF f r (Nat.div m 2) o)).get j=if j=k then some o else (Tr.n v l r).get j:=by
   intro m hm v l r
   subst hm
   have e1:Nat.mod m 2=m % 2:=rfl
   have e2:Nat.div m 2=m / 2:=rfl
   rw [e1,e2]
   cases j with
   | zero =>
    rw [if_neg (by omega)]
    rcases Nat.mod_two_eq_zero_or_one m with h' | h'<;>rw [h']<;>rfl
   | succ j =>
    rcases Nat.mod_two_eq_zero_or_one m with h' | h'<;>rw [h']
    ·show Tr.get (.n v (setF f l (m / 2) o) r) (j+1)=_
     rw [get_s,get_s,ih l (m / 2) o (j / 2) (hdiv m h)]
     by_cases hj:j % 2=0
     ·rw [if_pos hj,if_pos hj]
      by_cases hjm:j=m
      ·subst hjm;simp
      ·rw [if_neg (by omega),if_neg (by omega)]
     ·rw [if_neg hj,if_neg hj,if_neg (by omega)]
    ·show Tr.get (.n v l (setF f r (m / 2) o)) (j+1)=_
     rw [get_s,get_s,ih r (m / 2) o (j / 2) (hdiv m h)]
     by_cases hj:j % 2=0
     ·rw [if_pos hj,if_pos hj,if_neg (by omega)]
     ·rw [if_neg hj,if_neg hj]
      by_cases hjm:j=m
      ·subst hjm;simp
      ·rw [if_neg (by omega),if_neg (by omega)]
  cases t with
  | e =>
   cases k with
   | zero =>
    cases j with
    | zero=>rfl
    | succ j=>rw [if_neg (by omega)];show Tr.get (.n (some o) .e .e) (j+1)=_;rw [get_s];simp [get_e]
   | succ m =>
    have:=key m rfl none .e .e
    have e0:(Tr.n none .e .e).get j=Tr.get .e j:=by
     cases j with
     | zero=>rfl
     | succ j=>rw [get_s];simp [get_e]
    rw [e0] at this
    exact this
  | n v l r =>
   cases k with
   | zero =>
    cases j with
    | zero=>rfl
    | succ j=>rw [if_neg (by omega)];show Tr.get (.n (some o) l r) (j+1)=_;rw [get_s,get_s]
   | succ m=>exact key m rfl v l r
theorem Tr.get_set (t:Tr) (k:Nat) (o:Ob) (j:Nat):(t.set k o).get j=if j=k then some o else t.get j:=get_setF _ _ _ _ _ (Nat.lt_succ_self _)
def Tr.toL:Tr→(Nat→Nat)→List (Nat×Ob)
 | .e,_=>[]
 | .n v l r,f=>match v with
  | some o=>(f 0,o)::(l.toL (fun j=>f (2 * j+1))++r.toL (fun j=>f (2 * j+2)))
  | none=>l.toL (fun j=>f (2 * j+1))++r.toL (fun j=>f (2 * j+2))
def E0 (t:Tr) (T4:Nat→Option Ob) (id:Nat):Option Ob :=
 match t.get id with
 | some o=>some o
 | none=>T4 id
theorem C9s:∀ (t:Tr) (f:Nat→Nat) (T4:Nat→Option Ob),(∀ i j,f i=f j→i=j) →
  (∀ j,put T4 (t.toL f) (f j)=match t.get j with | some o=>some o | none=>T4 (f j))∧∀ id,(∀ j,f j≠id)→put T4 (t.toL f) id=T4 id:=by
 intro t
 induction t with
 | e=>intro f T4 _;exact ⟨fun j=>by rw [Tr.get_e];rfl,fun id _=>rfl⟩
 | n v l r ihl ihr =>
  intro f T4 hf
  have i1:∀ i j,f (2 * i+1)=f (2 * j+1)→i=j:=fun i j h=>by have:=hf _ _ h;omega
  have i2:∀ i j,f (2 * i+2)=f (2 * j+2)→i=j:=fun i j h=>by have:=hf _ _ h;omega
  have rest:∀ b:Nat→Option Ob,put b (l.toL (fun j=>f (2 * j+1))++r.toL (fun j=>f (2 * j+2))) (f 0)=b (f 0) ∧
    (∀ j,put b (l.toL (fun j=>f (2 * j+1))++r.toL (fun j=>f (2 * j+2))) (f (j+1))=match (if j % 2=0 then l.get (j / 2) else r.get (j / 2)) with | some o=>some o | none=>b (f (j+1))) ∧
    ∀ id,(∀ j,f j≠id)→put b (l.toL (fun j=>f (2 * j+1))++r.toL (fun j=>f (2 * j+2))) id=b id:=by
   intro b
   rw [H9]
   obtain ⟨l1,l2⟩:=ihl (fun j=>f (2 * j+1)) b i1
   obtain ⟨r1,r2⟩:=ihr (fun j=>f (2 * j+2)) (put b (l.toL (fun j=>f (2 * j+1)))) i2
   refine ⟨?_,fun j=>?_,fun id A2=>?_⟩
   ·rw [r2 (f 0) (fun j h=>by have:=hf _ _ h;omega),l2 (f 0) (fun j h=>by have:=hf _ _ h;omega)]
   ·by_cases hj:j % 2=0
    ·have e1:j+1=2 * (j / 2)+1:=by omega
     rw [r2 (f (j+1)) (fun k h=>by have:=hf _ _ h;omega),if_pos hj]
     have:=l1 (j / 2)
     simp only [← e1] at this
     exact this
    ·have e1:j+1=2 * (j / 2)+2:=by omega
     rw [if_neg hj]
     have:=r1 (j / 2)
     simp only [← e1] at this
     rw [this,l2 (f (j+1)) (fun k h=>by have:=hf _ _ h;omega)]
   ·rw [r2 id (fun j=>A2 _),l2 id (fun j=>A2 _)]
  cases v with
  | none =>
   obtain ⟨a1,a2,a3⟩:=rest T4
   refine ⟨fun j=>?_,a3⟩
   cases j with
   | zero=>exact a1
   | succ j=>rw [Tr.get_s];exact a2 j
  | some o =>
   obtain ⟨a1,a2,a3⟩:=rest (G3 T4 (f 0) (some o))
   refine ⟨fun j=>?_,fun id A2=>?_⟩
   ·cases j with
    | zero=>exact a1.trans (upd_same _ _ _)
    | succ j =>
     rw [Tr.get_s]
     refine (a2 j).trans ?_
     rw [A4 _ _ (fun h=>by have:=hf _ _ h;omega)]
   ·exact (a3 id A2).trans (A4 _ _ (fun h=>A2 0 h.symm))
theorem A2o (t:Tr) (T4:Nat→Option Ob):put T4 (t.toL fun j=>j)=E0 t T4:=by
 funext id
 exact (C9s t (fun j=>j) T4 (fun _ _ h=>h)).1 id
def A1m (t:Tr):List (Nat×Ob)→Tr
 | []=>t
 | (id,o)::r=>A1m (t.set id o) r
theorem A1V (t:Tr) (T4:Nat→Option Ob) (k:Nat) (o:Ob):E0 (t.set k o) T4=G3 (E0 t T4) k (some o):=by
 funext id
 simp only [E0,G3,Tr.get_set]
 by_cases h:id=k
 ·rw [if_pos h,if_pos h]
 ·rw [if_neg h,if_neg h]
theorem A0X:∀ (l:List (Nat×Ob)) (t:Tr) (T4:Nat→Option Ob),E0 (A1m t l) T4=put (E0 t T4) l:=by
 intro l
 induction l with
 | nil=>intro t T4;rfl
 | cons p r ih=>intro t T4;obtain ⟨k,o⟩:=p;simp only [A1m,put];rw [ih,A1V]
variable {P:Program} {T:TT} {c:P9} {e eb:B9} {of of':Nat→Option Ob}
structure St where
 sl:List (Nat×A)
 ob:Tr
 rd:List Nat
 nx:Nat
 mks:Option (List Nat)
def B7w:List (Nat×A)→Nat→A
 | [],_=>.x
 | (k,v)::r,t=>bif Nat.beq k t then v else B7w r t
def H2 (l:List (Nat×A)) (t:Nat):A:=List.rec (motive:=fun _=>A) A.x (fun p _ ih=>Bool.rec (motive:=fun _=>A) ih p.2 (Nat.beq p.1 t)) l
theorem A9O:@H2=@B7w:=by
 funext l t
 induction l with
 | nil=>rfl
 | cons p r ih =>
  obtain ⟨k,v⟩:=p
  show Bool.rec (motive:=fun _=>A) (H2 r t) v (Nat.beq k t)=bif Nat.beq k t then v else B7w r t
  rw [ih]
  cases Nat.beq k t<;>rfl
theorem U6 (k:Nat) (v:A) (r:List (Nat×A)):H2 ((k,v)::r)=G3 (H2 r) k v:=by
 funext t
 show Bool.rec (motive:=fun _=>A) (H2 r t) v (Nat.beq k t)=G3 (H2 r) k v t
 simp only [G3]
 by_cases h:t=k
 ·subst h;rw [if_pos rfl,show Nat.beq t t=true from Nat.beq_refl t]
 ·rw [if_neg h]
  have:Nat.beq k t=false:=by
   rw [← Bool.not_eq_true];intro q;exact h (E0r q).symm
  rw [this]
def mem (t:Nat):List Nat→Bool
 | []=>false
 | k::r=>Nat.beq k t||mem t r
theorem mem_iff {t:Nat} {l:List Nat}:mem t l=true↔t∈l:=by
 induction l with
 | nil=>simp [mem]
 | cons k r ih =>
  simp only [mem,Bool.or_eq_true,ih,List.mem_cons]
  constructor
  ·rintro (h | h)
   ·exact .inl (E0r h).symm
   ·exact .inr h
  ·rintro (h | h)
   ·subst h;exact .inl (Nat.beq_refl t)
   ·exact .inr h
def A1z (ob:Tr):List Nat→List Nat→List Nat
 | [],rd=>rd
 | id::r,rd=>match ob.get id with
  | some _=>A1z ob r rd
  | none=>bif mem id rd then A1z ob r rd else A1z ob r (id::rd)
theorem U7 (ob:Tr):∀ (l rd:List Nat),∀ id∈rd,id∈A1z ob l rd:=by
 intro l
 induction l with
 | nil=>intro rd id h;exact h
 | cons k r ih =>
  intro rd id h
  simp only [A1z]
  cases ob.get k with
  | some o=>exact ih _ _ h
  | none =>
   cases mem k rd with
   | true=>exact ih _ _ h
   | false=>exact ih _ _ (List.mem_cons_of_mem _ h)
theorem C2h (ob:Tr):∀ (l rd:List Nat),∀ id∈l,(∃ o,ob.get id=some o)∨id∈A1z ob l rd:=by
 intro l
 induction l with
 | nil=>intro rd id h;cases h
 | cons k r ih =>
  intro rd id h
  rcases List.mem_cons.1 h with rfl | h
  ·cases hk:ob.get id with
   | some o=>exact .inl ⟨o,rfl⟩
   | none =>
    right
    simp only [A1z,hk]
    cases hm:mem id rd with
    | true=>exact U7 _ _ _ _ (mem_iff.1 hm)
    | false=>exact U7 _ _ _ _ (List.mem_cons_self ..)
  ·simp only [A1z]
   cases hk:ob.get k with
   | some o=>exact ih _ _ h
   | none =>
    cases mem k rd with
    | true=>exact ih _ _ h
    | false=>exact ih _ _ h
inductive A0h (e:B9):List Nat→List Deferred→Prop
 | nil:A0h e [] []
 | cons {id b l ds}:e.U id→e.bn id=0→e.ι id=some (b,0)→A0h e l ds→A0h e (id::l) ({ target:=.collected b,args:=#[] }::ds)
def A54 (e:B9) (rd:Option Nat):Option (List Nat)→List Deferred→Prop
 | none,ds=>ds=[]
 | some l,ds=>rd=none∧A0h e l ds
theorem A0h.mono {e e':B9} (he:e.le e') {l:List Nat} {ds:List Deferred} (h:A0h e l ds):A0h e' l ds:=by
 induction h with
 | nil=>exact .nil
 | cons h1 h2 h3 _ ih =>
  have h0:=he.box _ h1 h2
  exact .cons (he.use _ h1) h0 (by rw [(he.obj _ h1 (by omega)).1];exact h3) ih
theorem A54.mono {e e':B9} (he:e.le e') {rd:Option Nat} {l:Option (List Nat)} {ds:List Deferred} (h:A54 e rd l ds):A54 e' rd l ds:=by
 cases l with
 | none=>exact h
 | some l=>exact ⟨h.1,h.2.mono he⟩
structure Z8 (T:TT) (c:P9) (eb:B9) (sl:Nat→A) (of:Nat→Option Ob) (U:Nat→Prop) (nt:Nat) (mk:Option (List Nat)) (a:Act) (e:B9):Prop where
 os:A7 T c e of
 le:eb.le e
 U:∀ id,e.U id→U id
 sl:∀ t,C6 T e (sl t) (a.tmps.getD t undef)
 def_:A54 e c.rd mk a.defers
 nt:a.tmps.size=nt
def Sim (T:TT) (c:P9) (eb:B9) (of:Nat→Option Ob) (n0 nt:Nat) (σ:St) (a:Act) (w:World):Prop :=
 ∃ e,e.w=w∧Z8 T c eb (H2 σ.sl) (E0 σ.ob of) (fun id=>eb.U id∨(n0≤id∧id < σ.nx)) nt σ.mks a e
structure Ent where
 dst:Option Nat
 val:A
 wo:List (Nat×Ob)
 rs:List Nat
 ro:List Nat
 lo:Nat
 hi:Nat
def Ent.mk1 (o:Oper) (rs:List Nat) (nx:Nat) (out:J2):Ent:=⟨o.dst,out.val,out.wo,rs,out.ro,nx,out.nx⟩
def Ent.skip (o:Oper) (rs:List Nat) (nx:Nat):Ent:=⟨o.dst,.t [],[],rs,[],nx,nx⟩
def A2H (T:TT) (K:KS) (ops:Array Oper) (sl:Nat→A) (of:Nat→Option Ob) (nx:Nat) (o:Oper):Option Ent :=
 match o.guard with
 | none=>match X2 T K (evO sl) of nx o with
  | some out=>if Nat.ble nx out.nx then some (.mk1 o (o.looksAt ops) nx out) else none
  | none=>none
 | some (g,want)=>match (ops[g]?).bind (·.dst) with
  | some d=>match sl d with
   | .t _=>some (.skip o (o.looksAt ops) nx)
   | .b q=>if q=want then (match X2 T K (evO sl) of nx o with
     | some out=>if Nat.ble nx out.nx then some (.mk1 o (o.looksAt ops) nx out) else none
     | none=>none) else some (.skip o (o.looksAt ops) nx)
   | _=>none
  | none=>none
theorem B0Y {K:KS} {of:Nat→Option Ob} {nx:Nat} {o:Oper} {ev ev':Operand→A} (h:∀ x∈o.op.operands,ev x=ev' x):X2 T K ev of nx o=X2 T K ev' of nx o:=by
 obtain ⟨dst,op,ty,pos,after,guard⟩:=o
 have hp:∀ (ps:Array (Nat×Operand)),(∀ x∈(ps.toList.map (·.2)).toArray,ev x=ev' x)→A5b ev ps.toList=A5b ev' ps.toList:=fun ps hps=>by
  unfold A5b
  apply List.map_congr_left
  intro p hpm
  rw [hps p.2 (by simpa using ⟨p.1,by simpa using hpm⟩)]
 cases op<;>simp only [X2]<;>simp only [Op.operands] at h
 case move x=>rw [h x (by simp)]
 case assign x=>rw [h x (by simp)]
 case pick q a b=>rw [h q (by simp),h a (by simp),h b (by simp)]
 case box el x=>rw [h x (by simp)]
 case build t parts=>rw [hp parts h]
 case buildSlice t len parts=>rw [hp parts h]
 case load t a=>rw [h a (by simp)]
 case store t a x=>rw [h a (by simp),h x (by simp)]
 case sliceToArrayPointer t x=>rw [h x (by simp)]
 case nilCheck x=>rw [h x (by simp)]
 case binOp op t x y t2=>rw [h x (by simp),h y (by simp)]
 case unOp op t x=>rw [h x (by simp)]
 case convert s t x=>rw [h x (by simp)]
 case makeFunc fn first captured =>
  have:captured.toList.map ev=captured.toList.map ev':=List.map_congr_left (fun x hx=>h x (by simp;exact .inr (by simpa using hx)))
  rw [this]
 case makeSlice t l k=>rw [h l (by simp),h k (by simp)]
 case makeMap t r =>
  have e1:r.map ev=r.map ev':=by cases r with | none=>rfl | some y=>simp only [Option.map_some];rw [h y (by simp)]
  rw [e1]
 case lookup t m k ok=>rw [h m (by simp),h k (by simp)]
 case mapUpdate t m k v=>rw [h m (by simp),h k (by simp),h v (by simp)]
 case insert t m k v=>rw [h m (by simp),h k (by simp),h v (by simp)]
 case slice t x lo hi mx =>
  have e1:lo.map ev=lo.map ev':=by cases lo with | none=>rfl | some y=>simp only [Option.map_some];rw [h y (by simp)]
  have e2:hi.map ev=hi.map ev':=by cases hi with | none=>rfl | some y=>simp only [Option.map_some];rw [h y (by simp)]
  have e3:mx.map ev=mx.map ev':=by cases mx with | none=>rfl | some y=>simp only [Option.map_some];rw [h y (by simp)]
  rw [h x (by simp),e1,e2,e3]
 case fieldAddr s x f=>rw [h x (by simp)]
 case field s x f=>rw [h x (by simp)]
 case indexAddr t x ix=>rw [h x (by simp),h ix (by simp)]
 case index t x ix=>rw [h x (by simp),h ix (by simp)]
 case extract x i=>rw [h x (by simp)]
 case range t x=>rw [h x (by simp)]
 case next x str=>rw [h x (by simp)]
 case call k =>
  have e1:∀ x∈k.args,ev x=ev' x:=fun x hx=>h x (by unfold Call.operands;simp [hx])
  have e2:k.args.toList.map ev=k.args.toList.map ev':=List.map_congr_left (fun x hx=>e1 x (by simpa using hx))
  unfold A1T
  split
  ·rename_i f hk
   rw [h f (by unfold Call.operands;simp [hk]),e2]
  ·split
   ·rename_i hx;rw [e1 _ (by have:=B4U hx;rw [this];simp)]
   ·rfl
  ·split
   ·rename_i hx;rw [e1 _ (by have:=B4U hx;rw [this];simp)]
   ·rfl
  ·split
   ·rename_i hx;rw [e1 _ (by have:=A2P hx;rw [this];simp),e1 _ (by have:=A2P hx;rw [this];simp)]
   ·rfl
  ·split
   ·rename_i hx;rw [e1 _ (by have:=A2P hx;rw [this];simp),e1 _ (by have:=A2P hx;rw [this];simp)]
   ·rfl
  ·split
   ·rename_i hx;rw [e1 _ (by have:=A2P hx;rw [this];simp),e1 _ (by have:=A2P hx;rw [this];simp)]
   ·rfl
  ·split
   ·rename_i hx;rw [e1 _ (by have:=A2P hx;rw [this];simp),e1 _ (by have:=A2P hx;rw [this];simp)]
   ·rfl
  ·split
   ·rename_i hx;rw [e1 _ (by have:=A2P hx;rw [this];simp),e1 _ (by have:=A2P hx;rw [this];simp)]
   ·rfl
  ·rfl
abbrev WF (rd:Option Nat):Fence:={ Fence.wide with round:=rd }
theorem U0 {rd:Option Nat} {m:Nat} {cd:Code} {Q Q':Exit→Act→World→Prop} {a:Act} {w:World} (hq:∀ e a w,Q e a w→Q' e a w) (h:cd.wpIn (WF rd) m P Q a w):cd.wpIn (WF rd) m P Q' a w:=wpIn_mono h hq
theorem A69 {rd:Option Nat} {m:Nat} {f:FuncId} {args:Array Value} {w:World} {R:Ending→World→Prop} (h:Calls P f args w R):CallsIn (WF rd) m P f args w R:=(callsIn_wide (n:=m)).2 h
theorem B4V {rd:Option Nat} {m l:Nat} {f:FuncId} {tmps:Array Value} {asg body:Code} {w:World} {R:Ending→World→Prop} (h:RoundIn Fence.wide 0 P l f tmps asg body w R):RoundIn (WF rd) m P l f tmps asg body w R:=by
 refine ⟨trivial,fun c cs hr=>?_⟩
 exact h.2 c cs (by intro d hd;cases hd)
theorem B0Z {rd:Option Nat} {m:Nat} {o:Oper} {a:Act} {w:World} {next:Act→World→Prop} {Q:Exit→Act→World→Prop} {R:Value→World→Prop} (hd:∀ c,o.op≠.defer c)
  (h:E3 P (execOp a.eval o) w R) (hn:∀ x w',R x w'→next (a.put o.dst x) w'):o.wpIn (WF rd) m P a w next Q:=by
 refine ⟨fun _ _=>trivial,?_⟩
 rw [Oper.semAt_eq _ _ _ hd]
 rcases h with ⟨x,w',h,hr⟩ | ⟨w',h,hr⟩ | ⟨f,args,w1,h,hc⟩ | ⟨l,f,tmps,asg,body,w1,h,hc⟩
 ·rw [h];exact hn _ _ hr
 ·rw [h];exact hn _ _ hr
 ·rw [h]
  refine ⟨fun q=>(by cases q),CallsIn.mono (A69 hc) fun en w' he=>?_⟩
  obtain ⟨x,rfl,hr⟩:=he
  exact hn _ _ hr
 ·rw [h]
  refine ⟨fun q=>(by cases q),(B4V hc).mono fun en w' he=>?_⟩
  obtain ⟨x,rfl,hr⟩:=he
  exact hn _ _ hr
theorem B00 {K:KS} {ev:Operand→A} {nx:Nat} {o:Oper} {E:J2} (h:X2 T K ev of nx o=some E):∀ c,o.op≠.defer c:=by
 intro c hc
 unfold X2 at h
 rw [hc] at h
 cases h
theorem B2Z {rd:Option Nat} {m:Nat} (hT:L8 T P) {K:KS} (hK:W6 P T K) {ops:Array Oper} {Q:Exit→Act→World→Prop} {i:Nat} {o:Oper} (hi:ops[i]? = some o) {sl:Nat→A} {nx:Nat} {E:Ent} {a:Act} (h:A7 T c e of') (hr:A2H T K ops sl of nx o=some E)
  (ho:∀ id∈E.ro,of' id=of id) (hu:∀ id,E.lo≤id→id < E.hi→¬ e.U id) (hs:∀ t∈E.rs,C6 T e (sl t) (a.tmps.getD t undef)) {K':Act→World→Prop}
  (hK':∀ x w',V8 T c e of' E.lo ⟨E.val,E.wo,E.ro,E.hi⟩ x w'→K' (a.put E.dst x) w'):wpOpIn (WF rd) m P ops Q i K' a e.w:=by
 have go:(match X2 T K (evO sl) of nx o with
   | some out=>if Nat.ble nx out.nx then some (Ent.mk1 o (o.looksAt ops) nx out) else none
   | none=>none)=some E→Region.wanted o (yielded ops a.tmps)=true→wpOpIn (WF rd) m P ops Q i K' a e.w:=by
  intro hg hw
  split at hg<;>try (cases hg;done)
  rename_i out hst
  split at hg<;>try (cases hg;done)
  injection hg with hg;subst hg
  unfold wpOpIn
  simp only [hi,hw,if_true]
  have hmem:∀ t,.tmp t∈o.op.operands→t∈o.looksAt ops:=fun t ht=>by
   unfold Oper.looksAt
   refine List.mem_append_left _ (List.mem_filterMap.2 ⟨.tmp t,by simpa using ht,rfl⟩)
  rw [B0Y (ev':=evO fun t=>if t∈o.looksAt ops then sl t else .x) (fun x hx=>by
   cases x with
   | tmp t=>simp only [evO];rw [if_pos (hmem t hx)]
   | _=>rfl)] at hst
  refine (B0Z (B00 hst) (B9E hT hK h hst ho hu (fun _=>rfl) (fun x=>B4T (fun t ht=>?_))) (fun x w' hl=>hK' x w' hl))
  subst ht
  split
  ·rename_i hin;exact hs t hin
  ·trivial
 have skip:E=Ent.skip o (o.looksAt ops) nx→Region.wanted o (yielded ops a.tmps)=false→wpOpIn (WF rd) m P ops Q i K' a e.w:=by
  intro hE hw
  subst hE
  unfold wpOpIn
  simp only [hi,hw,Bool.false_eq_true,if_false]
  refine ⟨fun _ _=>trivial,?_⟩
  exact hK' undef e.w ⟨e,rfl,h,B9.le.refl e,fun _ hu=>.inl hu,⟨#[],rfl,rfl,fun i v x hv=>by simp at hv⟩⟩
 have hrs:E.rs=o.looksAt ops:=by
  unfold A2H at hr
  repeat' split at hr
  all_goals first | (cases hr;done) | (injection hr with hr;subst hr;rfl)
 rw [hrs] at hs
 unfold A2H at hr
 split at hr
 ·rename_i hg
  exact go hr (by simp [Region.wanted,hg])
 ·rename_i g want hg
  split at hr<;>try (cases hr;done)
  rename_i d hd
  have hdm:d∈o.looksAt ops:=by simp [Oper.looksAt,hg,hd]
  have hsd:=hs d hdm
  split at hr<;>try (cases hr;done)
  ·rename_i l hl
   injection hr with hr
   refine skip hr.symm ?_
   rw [hl] at hsd
   obtain ⟨xs,hxs,_⟩:=hsd
   have:yielded ops a.tmps g=none:=by
    unfold yielded
    rw [hd]
    simp only [Option.bind_some]
    cases hx:a.tmps[d]? with
    | none=>rfl
    | some v =>
     have:a.tmps.getD d undef=v:=by simp [hx]
     rw [this] at hxs;subst hxs;rfl
   simp [Region.wanted,hg,this]
  ·rename_i q hq
   rw [hq] at hsd
   have hv:=A00 hsd
   have hy:yielded ops a.tmps g=some q:=by
    unfold yielded
    rw [hd]
    simp only [Option.bind_some]
    cases hx:a.tmps[d]? with
    | none=>simp [hx,undef] at hv
    | some v =>
     have:a.tmps.getD d undef=v:=by simp [hx]
     rw [this] at hv;subst hv;rfl
   split at hr
   ·rename_i hqw
    exact go hr (by simp [Region.wanted,hg,hy,hqw])
   ·rename_i hqw
    injection hr with hr
    exact skip hr.symm (by simp [Region.wanted,hg,hy,hqw])
theorem A1W {K:KS} {ops:Array Oper} {sl:Nat→A} {nx:Nat} {o:Oper} {E:Ent} (hr:A2H T K ops sl of nx o=some E):E.lo=nx∧nx≤E.hi∧E.dst=o.dst∧E.rs=o.looksAt ops:=by
 unfold A2H at hr
 repeat' split at hr
 all_goals first | (cases hr;done) | (injection hr with hr;subst hr;exact ⟨rfl,Nat.le_refl _,rfl,rfl⟩) | (rename_i hb;injection hr with hr;subst hr;exact ⟨rfl,E0x hb,rfl,rfl⟩)
variable {P:Program} {T:TT} {c:P9} {e eb:B9} {of of':Nat→Option Ob}
section
variable {β:Type}
def wr (f:Nat→β):List (Nat×β)→Nat→β
 | []=>f
 | (k,v)::r=>wr (G3 f k v) r
def keys (l:List (Nat×β)):List Nat:=l.map (·.1)
theorem A2V:∀ (l:List (Nat×β)) (f:Nat→β) (t:Nat),t ∉ keys l→wr f l t=f t:=by
 intro l
 induction l with
 | nil=>intro f t _;rfl
 | cons p r ih =>
  intro f t h
  obtain ⟨k,v⟩:=p
  simp only [keys,List.map_cons,List.mem_cons,not_or] at h
  simp only [wr]
  rw [ih _ _ h.2,A4 _ _ h.1]
theorem A7a:∀ (l:List (Nat×β)) (f g:Nat→β) (t:Nat),(t ∉ keys l→f t=g t)→wr f l t=wr g l t:=by
 intro l
 induction l with
 | nil=>intro f g t h;exact h (by simp [keys])
 | cons p r ih =>
  intro f g t h
  obtain ⟨k,v⟩:=p
  simp only [wr]
  refine ih _ _ t (fun ht=>?_)
  by_cases hk:t=k
  ·subst hk;simp
  ·rw [A4 _ _ hk,A4 _ _ hk]
   exact h (by simp only [keys,List.map_cons,List.mem_cons,not_or];exact ⟨hk,ht⟩)
theorem C9t (f:Nat→β) (l m:List (Nat×β)) (h:∀ t,t∈keys l→t ∉ keys m):wr (wr f l) m=wr (wr f m) l:=by
 funext t
 by_cases ht:t∈keys l
 ·rw [A2V m _ _ (h t ht)]
  exact A7a l _ _ t (fun h'=>absurd ht h')
 ·rw [A2V l _ _ ht]
  exact A7a m _ _ t (fun _=>A2V l _ _ ht)
def S6 (D:Nat→Bool):Nat→List (List (Nat×β))→(Nat→β)→Nat→β
 | _,[],f=>f
 | k,l::r,f=>S6 D (k+1) r (if D k then wr f l else f)
theorem C2i (D:Nat→Bool) (m:List (Nat×β)):∀ (Ls:List (List (Nat×β))) (k:Nat) (f:Nat→β),(∀ q l,Ls[q]? = some l→D (k+q)=true→∀ t,t∈keys m→t ∉ keys l) →
  S6 D k Ls (wr f m)=wr (S6 D k Ls f) m:=by
 intro Ls
 induction Ls with
 | nil=>intro k f _;rfl
 | cons l r ih =>
  intro k f h
  simp only [S6]
  have hr:=fun f=>ih (k+1) f (fun q l' hq hD=>h (q+1) l' (by simpa using hq) (by rw [← hD];congr 1;omega))
  by_cases hD:D k=true
  ·rw [if_pos hD,if_pos hD,← hr,C9t _ _ _ (h 0 l rfl hD)]
  ·rw [if_neg hD,if_neg hD,hr]
theorem A0s {D D':Nat→Bool}:∀ (Ls:List (List (Nat×β))) (k:Nat) (f:Nat→β),(∀ q,q < Ls.length→D (k+q)=D' (k+q))→S6 D k Ls f=S6 D' k Ls f:=by
 intro Ls
 induction Ls with
 | nil=>intro k f _;rfl
 | cons l r ih =>
  intro k f h
  simp only [S6]
  rw [show D k=D' k from h 0 (by simp),ih (k+1) _ (fun q hq=>by have:=h (q+1) (by simpa using hq);rwa [show k+(q+1)=k+1+q by omega] at this)]
theorem A4i {D:Nat→Bool}:∀ (Ls:List (List (Nat×β))) (k p:Nat) (f:Nat→β) (l:List (Nat×β)),Ls[p]? = some l→D (k+p)=false→(∀ q l',p < q→Ls[q]? = some l'→D (k+q)=true→∀ t,t∈keys l→t ∉ keys l') →
  S6 (fun j=>j == k+p||D j) k Ls f=wr (S6 D k Ls f) l:=by
 intro Ls
 induction Ls with
 | nil=>intro k p f l h;simp at h
 | cons l0 r ih =>
  intro k p f l h hD hd
  cases p with
  | zero =>
   simp only [List.getElem?_cons_zero,E0u] at h
   subst h
   simp only [Nat.add_zero] at hD
   simp only [S6,Nat.add_zero,beq_self_eq_true,Bool.true_or,if_true,hD,Bool.false_eq_true,if_false]
   rw [A0s (D':=D) r (k+1) _ (fun q _=>by
    have:(k+1+q == k)=false:=by simp;omega
    simp [this])]
   exact C2i D l0 r (k+1) f (fun q l' hq hD'=>hd (q+1) l' (by omega) (by simpa using hq) (by rw [← hD'];congr 1;omega))
  | succ p =>
   have hk:(k == k+(p+1))=false:=by simp
   simp only [S6,hk,Bool.false_or]
   have:=ih (k+1) p (if D k then wr f l0 else f) l (by simpa using h) (by rw [← hD];congr 1;omega) (fun q l' hpq hq hD'=>hd (q+1) l' (by omega) (by simpa using hq) (by rw [← hD'];congr 1;omega))
   rw [← this]
   refine A0s r (k+1) _ (fun q _=>?_)
   rw [show k+1+p=k+(p+1) by omega]
theorem A7b {D D':Nat→Bool} {t:Nat}:∀ (Ls:List (List (Nat×β))) (k:Nat) (f g:Nat→β),f t=g t→(∀ q l,Ls[q]? = some l→t∈keys l→D (k+q)=D' (k+q))→S6 D k Ls f t=S6 D' k Ls g t:=by
 intro Ls
 induction Ls with
 | nil=>intro k f g h _;exact h
 | cons l r ih =>
  intro k f g h hd
  simp only [S6]
  refine ih (k+1) _ _ ?_ (fun q l' hq ht=>by have:=hd (q+1) l' (by simpa using hq) ht;rwa [show k+(q+1)=k+1+q by omega] at this)
  by_cases ht:t∈keys l
  ·have:=hd 0 l rfl ht
   rw [Nat.add_zero] at this
   rw [this]
   by_cases hD:D' k=true
   ·rw [if_pos hD,if_pos hD];exact A7a l _ _ t (fun h'=>absurd ht h')
   ·rw [if_neg hD,if_neg hD];exact h
  ·have h1:(if D k=true then wr f l else f) t=f t:=by split;exact A2V l _ _ ht;rfl
   have h2:(if D' k=true then wr g l else g) t=g t:=by split;exact A2V l _ _ ht;rfl
   rw [h1,h2,h]
theorem A3X {D:Nat→Bool}:∀ (Ls:List (List (Nat×β))) (k:Nat) (f:Nat→β),(∀ j,k≤j→D j=false)→S6 D k Ls f=f:=by
 intro Ls
 induction Ls with
 | nil=>intro k f _;rfl
 | cons l r ih=>intro k f h;simp only [S6];rw [h k (Nat.le_refl _)];exact ih (k+1) f (fun j hj=>h j (by omega))
theorem A0L:∀ (Ls:List (List (Nat×β))) (k p:Nat) (f:Nat→β),S6 (fun j=>decide (j < k+p)) k Ls f=(Ls.take p).foldl wr f:=by
 intro Ls
 induction Ls with
 | nil=>intro k p f;simp [S6]
 | cons l r ih =>
  intro k p f
  cases p with
  | zero=>simp only [List.take_zero,List.foldl_nil,Nat.add_zero];exact A3X _ _ _ (fun j hj=>by simp;omega)
  | succ p =>
   simp only [S6,List.take_succ_cons,List.foldl_cons]
   rw [if_pos (by simp),← ih (k+1) p]
   refine A0s r (k+1) _ (fun q _=>?_)
   rw [show k+(p+1)=k+1+p by omega]
end
variable {P:Program} {T:TT} {c:P9} {e eb:B9} {of of':Nat→Option Ob}
def wS (E:Ent):List (Nat×A) :=
 match E.dst with
 | some d=>[(d,E.val)]
 | none=>[]
def wO (E:Ent):List (Nat×Option Ob):=E.wo.map fun p=>(p.1,some p.2)
def A2Q {α:Type} (n:Nat) (k:Nat→α):α:=Nat.rec (k 0) (fun m _=>k (Nat.succ m)) n
theorem Q9 {α:Type} (n:Nat) (k:Nat→α):A2Q n k=k n:=by cases n<;>rfl
def C9u {α:Type} (i:Int) (k:Int→α):α :=
 match i with
 | .ofNat n=>A2Q n fun n=>k (.ofNat n)
 | .negSucc n=>A2Q n fun n=>k (.negSucc n)
theorem B01 {α:Type} (i:Int) (k:Int→α):C9u i k=k i:=by
 cases i with
 | ofNat n=>exact Q9 n fun n=>k (.ofNat n)
 | negSucc n=>exact Q9 n fun n=>k (.negSucc n)
def D5k {α:Type} (a:A) (k:A→α):α :=
 match a with
 | .i kd n=>C9u n fun n=>k (.i kd n)
 | .b q=>match q with
  | true=>k (.b true)
  | false=>k (.b false)
 | a=>k a
theorem B7x {α:Type} (a:A) (k:A→α):D5k a k=k a:=by
 cases a with
 | i kd n=>exact B01 n fun n=>k (.i kd n)
 | b q=>cases q<;>rfl
 | _=>rfl
def D5l {α β:Type} (l:List β) (k:List β→α):α :=
 match l with
 | []=>k []
 | a::r=>k (a::r)
theorem B7y {α β:Type} (l:List β) (k:List β→α):D5l l k=k l:=by cases l<;>rfl
def St.app (σ:St) (E:Ent):St :=
 {sl:=match E.dst with | some d=>(d,E.val)::σ.sl | none=>σ.sl,ob:=A1m σ.ob E.wo,rd:=A1z σ.ob E.ro σ.rd,nx:=E.hi,mks:=σ.mks }
theorem C2j:∀ (l:List (Nat×Ob)) (f:Nat→Option Ob),put f l=wr f (l.map fun p=>(p.1,some p.2)):=by
 intro l
 induction l with
 | nil=>intro f;rfl
 | cons p r ih=>intro f;exact ih _
theorem B20 (σ:St) (E:Ent):H2 (σ.app E).sl=wr (H2 σ.sl) (wS E):=by
 unfold St.app wS
 cases E.dst with
 | none=>rfl
 | some d=>exact U6 _ _ _
theorem B21 (σ:St) (E:Ent) (of:Nat→Option Ob):E0 (σ.app E).ob of=wr (E0 σ.ob of) (wO E):=by
 show E0 (A1m σ.ob E.wo) of=_
 rw [A0X,C2j];rfl
theorem Z8.step {sl:Nat→A} {U:Nat→Prop} {nt:Nat} {mk:Option (List Nat)} {a:Act} (h:Z8 T c eb sl of U nt mk a e) {E:Ent} {x:Value} {w':World} (hl:V8 T c e of E.lo ⟨E.val,E.wo,E.ro,E.hi⟩ x w') (hd:∀ d,E.dst=some d→d < nt) :
  ∃ e',e'.w=w'∧Z8 T c eb (wr sl (wS E)) (wr of (wO E)) (fun id=>U id∨(E.lo≤id∧id < E.hi)) nt mk (a.put E.dst x) e':=by
 obtain ⟨e',q1,q2,q3,q4,q5⟩:=hl
 refine ⟨e',q1,?_⟩
 have q2':A7 T c e' (wr of (wO E)):=by
  have q2:A7 T c e' (put of E.wo):=q2
  rw [C2j] at q2;exact q2
 refine ⟨q2',h.le.trans q3,fun id A2=>(q4 id A2).imp (h.U id) (fun q=>q),fun t=>?_,?_,?_⟩
 ·unfold wS
  cases hdst:E.dst with
  | none=>exact (h.sl t).mono q3
  | some d =>
   have hdl:d < a.tmps.size:=by rw [h.nt];exact hd d hdst
   show C6 T e' (G3 sl d E.val t) ((a.tmps.setIfInBounds d x).getD t undef)
   by_cases ht:t=d
   ·subst ht
    rw [upd_same]
    have:(a.tmps.setIfInBounds t x).getD t undef=x:=by simp [hdl]
    rw [this];exact q5
   ·rw [A4 _ _ ht]
    have:(a.tmps.setIfInBounds d x).getD t undef=a.tmps.getD t undef:=by simp [Array.getElem?_setIfInBounds_ne (Ne.symm ht)]
    rw [this];exact (h.sl t).mono q3
 ·cases E.dst<;>exact h.def_.mono q3
 ·cases E.dst with
  | none=>exact h.nt
  | some d=>show (a.tmps.setIfInBounds d x).size=nt;rw [Array.size_setIfInBounds];exact h.nt
def A4j (nt:Nat) (o:Oper):Bool :=
 match o.dst with
 | some d=>Nat.blt d nt
 | none=>true
def Q3 (T:TT) (K:KS) (ops:Array Oper) (of:Nat→Option Ob):List Oper→St→Option (List Ent×St)
 | [],σ=>some ([],σ)
 | o::r,σ =>
  match A2H T K ops (H2 σ.sl) (E0 σ.ob of) σ.nx o with
  | some E=>D5k E.val fun v=>A2Q E.hi fun h=>D5l (A1z σ.ob E.ro σ.rd) fun rd =>
   match Q3 T K ops of r { sl:=match E.dst with | some d=>(d,v)::σ.sl | none=>σ.sl,ob:=A1m σ.ob E.wo,rd:=rd,nx:=h,mks:=σ.mks } with
   | some (Es,σ')=>some ({ E with val:=v,hi:=h }::Es,σ')
   | none=>none
  | none=>none
theorem A1s {K:KS} {ops:Array Oper} {of:Nat→Option Ob} {o:Oper} {r:List Oper} {σ:St}:Q3 T K ops of (o::r) σ =
  match A2H T K ops (H2 σ.sl) (E0 σ.ob of) σ.nx o with
  | some E=>(match Q3 T K ops of r (σ.app E) with
   | some (Es,σ')=>some (E::Es,σ')
   | none=>none)
  | none=>none:=by
 simp only [Q3,B7x,Q9,B7y]
 rfl
structure A3F (of of':Nat→Option Ob) (eb:B9) (n0:Nat) (σ:St):Prop where
 rd:∀ id∈σ.rd,of' id=of id
 fr:∀ id,n0≤id→id < σ.nx→¬ eb.U id
def St.le (σ σ':St):Prop:=(∀ id∈σ.rd,id∈σ'.rd)∧σ.nx≤σ'.nx
theorem St.le.refl (σ:St):σ.le σ:=⟨fun _ h=>h,Nat.le_refl _⟩
theorem St.le.trans {a b c:St} (h:a.le b) (k:b.le c):a.le c:=⟨fun id A2=>k.1 id (h.1 id A2),Nat.le_trans h.2 k.2⟩
theorem A3F.mono {eb:B9} {n0:Nat} {σ σ':St} (h:A3F of of' eb n0 σ') (hle:σ.le σ'):A3F of of' eb n0 σ:=⟨fun id A2=>h.rd id (hle.1 id A2),fun id h1 h2=>h.fr id h1 (Nat.lt_of_lt_of_le h2 hle.2)⟩
theorem D5m {K:KS} {ops:Array Oper} {sl:Nat→A} {o:Oper} {E:Ent} {σ:St} (hr:A2H T K ops sl of σ.nx o=some E):σ.le (σ.app E):=⟨U7 _ _ _,(A1W hr).2.1⟩
theorem A1X {K:KS} {ops:Array Oper}:∀ (l:List Oper) (σ σ':St) (Es:List Ent),Q3 T K ops of l σ=some (Es,σ')→σ.le σ':=by
 intro l
 induction l with
 | nil=>intro σ σ' Es h;simp only [Q3,E0u,Prod.mk.injEq] at h;rw [h.2];exact St.le.refl _
 | cons o r ih =>
  intro σ σ' Es h
  rw [A1s] at h
  split at h<;>try (cases h;done)
  rename_i E hE
  split at h<;>try (cases h;done)
  rename_i Es' σ2 hrec
  simp only [E0u,Prod.mk.injEq] at h
  obtain ⟨-,rfl⟩:=h
  exact (D5m hE).trans (ih _ _ _ hrec)
theorem A0i {ob:Tr} {rd ro:List Nat} {l:List Nat} (h:∀ id∈rd,of' id=of id) (hm:∀ id∈A1z ob ro l,id∈rd):∀ id∈ro,E0 ob of' id=E0 ob of id:=by
 intro id A2
 unfold E0
 rcases C2h ob ro l id A2 with ⟨o,ho⟩ | h'
 ·rw [ho]
 ·cases ob.get id with
  | some o=>rfl
  | none=>exact h id (hm id h')
theorem C2k {rd:Option Nat} {m:Nat} (hT:L8 T P) {K:KS} (hK:W6 P T K) {ops:Array Oper} {Q:Exit→Act→World→Prop} {n0 nt:Nat}:∀ (l:List Oper) (k:Nat) (σ σ':St) (Es:List Ent) (a:Act) (w:World),(∀ j,l[j]? = ops[k+j]? ∨ l.length≤j)→(∀ o∈l,A4j nt o=true) →
  Q3 T K ops of l σ=some (Es,σ')→n0≤σ.nx→A3F of of' eb n0 σ'→Sim T c eb of' n0 nt σ a w→(∀ a' w',Sim T c eb of' n0 nt σ' a' w'→Q .normal a' w')→wpOpsIn (WF rd) m P ops Q (List.range' k l.length) a w:=by
 intro l
 induction l with
 | nil =>
  intro k σ σ' Es a w _ _ hr _ _ hs hQ
  simp only [Q3,E0u,Prod.mk.injEq] at hr
  obtain ⟨-,rfl⟩:=hr
  exact hQ a w hs
 | cons o r ih =>
  intro k σ σ' Es a w hl hd hr hn hfit hs hQ
  have h0:ops[k]? = some o:=by
   rcases hl 0 with h | h
   ·simpa using h.symm
   ·simp at h
  rw [A1s] at hr
  split at hr<;>try (cases hr;done)
  rename_i E hE
  split at hr<;>try (cases hr;done)
  rename_i Es' σ2 hrec
  simp only [E0u,Prod.mk.injEq] at hr
  obtain ⟨rfl,rfl⟩:=hr
  have hle:=A1X _ _ _ _ hrec
  obtain ⟨k1,k2,k3,k4⟩:=A1W hE
  obtain ⟨e,rfl,hst⟩:=hs
  rw [E0z,List.range'_succ,wpOpsIn_cons]
  refine B2Z hT hK h0 hst.os hE (A0i hfit.rd hle.1) (fun id h1 h2 hu=>?_) (fun t _=>hst.sl t) (fun x w' hl'=>?_)
  ·rcases hst.U id hu with h3 | h3
   ·exact hfit.fr id (by omega) (Nat.lt_of_lt_of_le h2 hle.2) h3
   ·omega
  ·obtain ⟨e',rfl,hst'⟩:=hst.step hl' (fun d hd'=>by
    have:=hd o (by simp)
    unfold A4j at this
    rw [← k3,hd'] at this
    simpa [Nat.blt_eq] using this)
   refine ih (k+1) (σ.app E) _ _ _ _ (fun j=>?_) (fun o' ho'=>hd o' (by simp [ho'])) hrec (Nat.le_trans hn k2) hfit ⟨e',rfl,?_⟩ hQ
   ·rcases hl (j+1) with h | h
    ·left;simpa [Nat.add_assoc,Nat.add_comm 1 j] using h
    ·right;simp at h;omega
   ·rw [B20,B21]
    refine ⟨hst'.os,hst'.le,fun id A2=>?_,hst'.sl,hst'.def_,hst'.nt⟩
    rcases hst'.U id A2 with (h1 | h1) | h1
    ·exact .inl h1
    ·exact .inr ⟨h1.1,Nat.lt_of_lt_of_le h1.2 k2⟩
    ·exact .inr ⟨by omega,h1.2⟩
theorem C2l {rd:Option Nat} {m:Nat} (hT:L8 T P) {K:KS} (hK:W6 P T K) {id:Nat} {ops:Array Oper} {Q:Exit→Act→World→Prop} {n0 nt:Nat} {σ σ':St} {Es:List Ent} {a:Act} {w:World} (hd:ops.toList.all (A4j nt)=true) (hr:Q3 T K ops of ops.toList σ=some (Es,σ')) (hn:n0≤σ.nx) (hfit:A3F of of' eb n0 σ')
  (hs:Sim T c eb of' n0 nt σ a w) (hQ:∀ a' w',Sim T c eb of' n0 nt σ' a' w'→Q .normal a' w'):(Code.region id ops false).wpIn (WF rd) m P Q a w:=by
 refine wpIn_region ?_
 have:=C2k (rd:=rd) (m:=m) hT hK (Q:=Q) ops.toList 0 σ σ' Es a w (fun j=>.inl (by simp)) (List.all_eq_true.1 hd) hr hn hfit hs hQ
 rwa [E0y,← List.range_eq_range'] at this
variable {P:Program} {T:TT} {c:P9} {e eb:B9} {of of':Nat→Option Ob}
def C9v (o:Oper) (acc:List Nat):Nat:=o.after.toList.foldl (fun s e=>if Region.binds .any e then s ||| 2 ^ e.on ||| acc.getD e.on 0 else s) 0
def A2I:List Oper→List Nat→List Nat
 | [],acc=>acc
 | o::r,acc=>A2I r (acc++[C9v o acc])
def B22 (t:Option Nat) (l:List Nat):Bool :=
 match t with
 | some d=>mem d l
 | none=>false
def B02 (l:List (Nat×Ob)) (E:Ent):Bool:=l.any fun p=>mem p.1 E.ro||mem p.1 (E.wo.map (·.1))
def A9P (a b:Option Nat):Bool :=
 match a,b with
 | some x,some y=>Nat.beq x y
 | _,_=>false
def A2p (A B:Ent):Bool:=B22 A.dst B.rs||B22 B.dst A.rs||A9P A.dst B.dst||B02 A.wo B||B02 B.wo A
def A2W:Nat→List Oper→Bool
 | _,[]=>true
 | i,o::r=>o.after.toList.all (fun e=>!(Region.binds .any e)||Nat.blt e.on i)&&A2W (i+1) r
theorem A9e:∀ (l:List Oper) (i:Nat),A2W i l=true→∀ q o,l[q]? = some o→∀ e∈o.after,Region.binds .any e=true→e.on < i+q:=by
 intro l
 induction l with
 | nil=>intro i _ q o h;simp at h
 | cons o0 r ih =>
  intro i h q o hq e he hb
  simp only [A2W,E0s,List.all_eq_true,Bool.or_eq_true,Bool.not_eq_true'] at h
  cases q with
  | zero =>
   simp only [List.getElem?_cons_zero,E0u] at hq
   subst hq
   rcases h.1 e (Array.mem_toList_iff.2 he) with h1 | h1
   ·rw [hb] at h1;cases h1
   ·simpa [Nat.blt_eq] using h1
  | succ q=>rw [show i+(q+1)=i+1+q by omega];exact ih (i+1) h.2 q o (by simpa using hq) e he hb
theorem B9F {D:Nat→Bool} {G:Nat→Prop} (hDG:∀ j,D j=true→G j) {acc:List Nat} (hacc:∀ j,G j→∀ p,(acc.getD j 0).testBit p=true→D p=true) {o:Oper} (ho:∀ e∈o.after,Region.binds .any e=true→D e.on=true) :
  ∀ p,(C9v o acc).testBit p=true→D p=true:=by
 unfold C9v
 have key:∀ (l:List Edge) (s:Nat),(∀ e∈l,Region.binds .any e=true→D e.on=true)→(∀ p,s.testBit p=true→D p=true) →
   ∀ p,(l.foldl (fun s e=>if Region.binds .any e then s ||| 2 ^ e.on ||| acc.getD e.on 0 else s) s).testBit p=true→D p=true:=by
  intro l
  induction l with
  | nil=>intro s _ hs p h;exact hs p h
  | cons e r ih =>
   intro s hl hs p h
   simp only [List.foldl_cons] at h
   refine ih _ (fun e' he'=>hl e' (by simp [he'])) ?_ p h
   intro p hp
   split at hp
   ·rename_i hb
    have hD:=hl e (by simp) hb
    rw [Nat.testBit_or,Nat.testBit_or,Bool.or_eq_true,Bool.or_eq_true,Nat.testBit_two_pow] at hp
    rcases hp with (hp | hp) | hp
    ·exact hs p hp
    ·have:e.on=p:=by simpa using hp
     rw [← this];exact hD
    ·exact hacc _ (hDG _ hD) p hp
   ·exact hs p hp
 exact key o.after.toList 0 (fun e he=>ho e (Array.mem_toList_iff.1 he)) (fun p hp=>by simp at hp)
theorem B4W {D:Nat→Bool} {G:Nat→Prop} (hDG:∀ j,D j=true→G j):∀ (l:List Oper) (acc:List Nat),(∀ j,G j→∀ p,(acc.getD j 0).testBit p=true→D p=true) →
  (∀ q o,l[q]? = some o→G (acc.length+q)→∀ e∈o.after,Region.binds .any e=true→D e.on=true) →
  ∀ j,G j→∀ p,((A2I l acc).getD j 0).testBit p=true→D p=true:=by
 intro l
 induction l with
 | nil=>intro acc hacc _;exact hacc
 | cons o r ih =>
  intro acc hacc h
  refine ih (acc++[C9v o acc]) (fun j hj p hp=>?_) (fun q o' hq=>by have:=h (q+1) o' (by simpa using hq);rwa [E0t,E0A,show acc.length+1+q=acc.length+(q+1) by omega])
  rcases Nat.lt_trichotomy j acc.length with hlt | heq | hgt
  ·exact hacc j hj p (by rw [List.getD_eq_getElem?_getD,List.getElem?_append_left hlt,← List.getD_eq_getElem?_getD] at hp;exact hp)
  ·subst heq
   rw [List.getD_eq_getElem?_getD,List.getElem?_append_right (Nat.le_refl _),Nat.sub_self] at hp
   exact B9F hDG hacc (h 0 o rfl (by simpa using hj)) p (by simpa using hp)
  ·rw [List.getD_eq_getElem?_getD,List.getElem?_eq_none (by simp;omega)] at hp
   simp at hp
theorem A2X {K:KS} {ops:Array Oper}:∀ (l:List Oper) (σ σ':St) (Es:List Ent),Q3 T K ops of l σ=some (Es,σ') →
  σ'=Es.foldl St.app σ∧Es.length=l.length∧∀ (p:Nat) o,l[p]? = some o→∃ E,Es[p]? = some E∧A2H T K ops (H2 ((Es.take p).foldl St.app σ).sl) (E0 ((Es.take p).foldl St.app σ).ob of) ((Es.take p).foldl St.app σ).nx o=some E∧(((Es.take p).foldl St.app σ).app E).le σ':=by
 intro l
 induction l with
 | nil =>
  intro σ σ' Es h
  simp only [Q3,E0u,Prod.mk.injEq] at h
  obtain ⟨rfl,rfl⟩:=h
  exact ⟨rfl,rfl,fun p o h=>by simp at h⟩
 | cons o r ih =>
  intro σ σ' Es h
  rw [A1s] at h
  split at h<;>try (cases h;done)
  rename_i E hE
  split at h<;>try (cases h;done)
  rename_i Es' σ2 hrec
  simp only [E0u,Prod.mk.injEq] at h
  obtain ⟨rfl,rfl⟩:=h
  obtain ⟨h1,h2,h3⟩:=ih _ _ _ hrec
  refine ⟨h1,by simp [h2],fun p o' hp=>?_⟩
  cases p with
  | zero =>
   simp only [List.getElem?_cons_zero,E0u] at hp
   subst hp
   exact ⟨E,rfl,hE,A1X _ _ _ _ hrec⟩
  | succ p=>simpa using h3 p o' (by simpa using hp)
theorem A9Q:∀ (Es:List Ent) (σ:St),H2 (Es.foldl St.app σ).sl=(Es.map wS).foldl wr (H2 σ.sl):=by
 intro Es
 induction Es with
 | nil=>intro σ;rfl
 | cons E r ih=>intro σ;simp only [List.foldl_cons,List.map_cons];rw [ih,B20]
theorem A9R (of:Nat→Option Ob):∀ (Es:List Ent) (σ:St),E0 (Es.foldl St.app σ).ob of=(Es.map wO).foldl wr (E0 σ.ob of):=by
 intro Es
 induction Es with
 | nil=>intro σ;rfl
 | cons E r ih=>intro σ;simp only [List.foldl_cons,List.map_cons];rw [ih,B21]
theorem C2m {K:KS} {ops:Array Oper} {l:List Oper} {σ σ':St} {Es:List Ent} (h:Q3 T K ops of l σ=some (Es,σ')):∀ (p:Nat),σ.nx≤((Es.take p).foldl St.app σ).nx∧∀ q E,Es[q]? = some E→((Es.take q).foldl St.app σ).nx=E.lo∧E.lo≤E.hi∧(q < p→E.hi≤((Es.take p).foldl St.app σ).nx):=by
 obtain ⟨h1,h2,h3⟩:=A2X _ _ _ _ h
 have one:∀ q E,Es[q]? = some E→((Es.take q).foldl St.app σ).nx=E.lo∧E.lo≤E.hi∧((Es.take (q+1)).foldl St.app σ).nx=E.hi:=by
  intro q E hE
  have hq:q < l.length:=by rw [← h2];exact (List.getElem?_eq_some_iff.1 hE).1
  obtain ⟨E',g1,g2,g3⟩:=h3 q l[q] (E0E hq)
  rw [hE] at g1;cases g1
  obtain ⟨k1,k2,_⟩:=A1W g2
  refine ⟨k1.symm,by omega,?_⟩
  obtain ⟨hlt,hEq⟩:=List.getElem?_eq_some_iff.1 hE
  rw [List.take_succ_eq_append_getElem hlt,List.foldl_append,hEq]
  rfl
 have mono:∀ p,((Es.take p).foldl St.app σ).nx≤((Es.take (p+1)).foldl St.app σ).nx:=by
  intro p
  cases hp:Es[p]? with
  | none =>
   have:=List.getElem?_eq_none_iff.1 hp
   rw [List.take_of_length_le this,List.take_of_length_le (by omega)]
   exact Nat.le_refl _
  | some E=>obtain ⟨a,b,d⟩:=one p E hp;omega
 have monos:∀ d p,((Es.take p).foldl St.app σ).nx≤((Es.take (p+d)).foldl St.app σ).nx:=by
  intro d
  induction d with
  | zero=>intro p;exact Nat.le_refl _
  | succ d ih=>intro p;exact Nat.le_trans (ih p) (mono (p+d))
 intro p
 refine ⟨?_,fun q E hE=>?_⟩
 ·have:=monos p 0
  rw [Nat.zero_add] at this
  exact this
 ·obtain ⟨a,b,d⟩:=one q E hE
  refine ⟨a,b,fun hqp=>?_⟩
  have:=monos (p - (q+1)) (q+1)
  rw [show q+1+(p - (q+1))=p by omega] at this
  omega
end Go.Vm
end